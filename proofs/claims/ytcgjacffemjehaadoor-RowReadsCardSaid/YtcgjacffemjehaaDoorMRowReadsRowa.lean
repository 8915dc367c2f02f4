/-
  RowKinds, Base, Words, Bytes, RowCod, RowSpec, Foot, RowRd, RowRs: this proof's parts in one text.
-/
import Derived.Test.YtcgjacffemjehaaDoorPRowReadsx0
import Derived.WalkKit
import Derived.WalkSpells
import Derived.WalkLawsBesides
import Derived.Laws.BytesArg
import Derived.Lib.ConvBytes
import Derived.Lib.Strings
import Derived.Maps.AppendAt
import Derived.Test.YtcgjacffemjehaaDoorProg
import Derived.Lib.AppendStr
import Derived.Deep.RegionHeld3
import Derived.OneCell
import Derived.Deep.RegionLaw
import Derived.Laws.BitsLemmas
namespace Go.Proofs.YtcgjacffemjehaaDoor
open Go.RowKit
open Go.Proofs.YtcgjacffemjehaaDoorW.PrintWords (Kd rdOf add_field)
open Go.Proofs.YtcgjacffemjehaaDoor.PRowReads
set_option linter.unusedVariables false
/-! #### struct type 25 -/
structure S25 where
  f0 : ByteArray
  f1 : ByteArray
  f2 : (List ByteArray)
def z25 : S25 := ⟨(⟨#[]⟩ : ByteArray), (⟨#[]⟩ : ByteArray), ([] : List ByteArray)⟩
def k25 : Kd S25 := Kd.iso (Kd.pair Kd.string (Kd.pair Kd.string (Kd.slice 9 Kd.string))) (fun x : S25 => (x.f0, x.f1, x.f2))
theorem k25_open {w : World} {x : S25} {cs : List Value} (h : k25.K w x cs) : ∃ A2 c2, cs = [.string x.f0, .string x.f1, .slice A2 x.f2.length c2] ∧ x.f2.length ≤ c2 ∧ Kd.string.C w A2 x.f2.length x.f2 := by
  obtain ⟨_, _, rfl, rfl, ⟨_, _, rfl, rfl, ⟨A2, c2, rfl, l2, g2⟩⟩⟩ := h
  exact ⟨A2, c2, rfl, l2, g2⟩
theorem k25_openM {w : World} {base : Nat} {ok : Nat → Prop} {x : S25} {cs : List Value} (h : k25.M w base ok x cs) : ∃ v2, cs = [.string x.f0, .string x.f1, v2] ∧ Kd.string.R 9 w base ok v2 x.f2 := by
  obtain ⟨_, _, rfl, rfl, ⟨_, _, rfl, rfl, ⟨v2, rfl, g2⟩⟩⟩ := h
  exact ⟨v2, rfl, g2⟩
theorem k25_mkM (w : World) (base : Nat) (ok : Nat → Prop) (x : S25) {v2 : Value} (g2 : Kd.string.R 9 w base ok v2 x.f2) : k25.M w base ok x [.string x.f0, .string x.f1, v2] := ⟨[.string x.f0], [.string x.f1, v2], rfl, rfl, ⟨[.string x.f1], [v2], rfl, rfl, ⟨v2, rfl, g2⟩⟩⟩
/-! #### struct type 27 -/
structure S27 where
  f0 : ByteArray
  f1 : ByteArray
  f2 : ByteArray
  f3 : ByteArray
  f4 : (List ByteArray)
  f5 : ByteArray
  f6 : Bool
  f7 : Bool
  f8 : Int
def z27 : S27 := ⟨(⟨#[]⟩ : ByteArray), (⟨#[]⟩ : ByteArray), (⟨#[]⟩ : ByteArray), (⟨#[]⟩ : ByteArray), ([] : List ByteArray), (⟨#[]⟩ : ByteArray), false, false, (0 : Int)⟩
def k27 : Kd S27 := Kd.iso (Kd.pair Kd.string (Kd.pair Kd.string (Kd.pair Kd.string (Kd.pair Kd.string (Kd.pair (Kd.slice 9 Kd.string) (Kd.pair Kd.string (Kd.pair Kd.bool (Kd.pair Kd.bool (Kd.int .i64))))))))) (fun x : S27 => (x.f0, x.f1, x.f2, x.f3, x.f4, x.f5, x.f6, x.f7, x.f8))
theorem k27_open {w : World} {x : S27} {cs : List Value} (h : k27.K w x cs) : ∃ A4 c4, cs = [.string x.f0, .string x.f1, .string x.f2, .string x.f3, .slice A4 x.f4.length c4, .string x.f5, .bool x.f6, .bool x.f7, .int .i64 x.f8] ∧ x.f4.length ≤ c4 ∧ Kd.string.C w A4 x.f4.length x.f4 := by
  obtain ⟨_, _, rfl, rfl, ⟨_, _, rfl, rfl, ⟨_, _, rfl, rfl, ⟨_, _, rfl, rfl, ⟨_, _, rfl, ⟨A4, c4, rfl, l4, g4⟩, ⟨_, _, rfl, rfl, ⟨_, _, rfl, rfl, ⟨_, _, rfl, rfl, rfl⟩⟩⟩⟩⟩⟩⟩⟩ := h
  exact ⟨A4, c4, rfl, l4, g4⟩
theorem k27_openM {w : World} {base : Nat} {ok : Nat → Prop} {x : S27} {cs : List Value} (h : k27.M w base ok x cs) : ∃ v4, cs = [.string x.f0, .string x.f1, .string x.f2, .string x.f3, v4, .string x.f5, .bool x.f6, .bool x.f7, .int .i64 x.f8] ∧ Kd.string.R 9 w base ok v4 x.f4 := by
  obtain ⟨_, _, rfl, rfl, ⟨_, _, rfl, rfl, ⟨_, _, rfl, rfl, ⟨_, _, rfl, rfl, ⟨_, _, rfl, ⟨v4, rfl, g4⟩, ⟨_, _, rfl, rfl, ⟨_, _, rfl, rfl, ⟨_, _, rfl, rfl, rfl⟩⟩⟩⟩⟩⟩⟩⟩ := h
  exact ⟨v4, rfl, g4⟩
theorem k27_mkM (w : World) (base : Nat) (ok : Nat → Prop) (x : S27) {v4 : Value} (g4 : Kd.string.R 9 w base ok v4 x.f4) : k27.M w base ok x [.string x.f0, .string x.f1, .string x.f2, .string x.f3, v4, .string x.f5, .bool x.f6, .bool x.f7, .int .i64 x.f8] := ⟨[.string x.f0], [.string x.f1, .string x.f2, .string x.f3, v4, .string x.f5, .bool x.f6, .bool x.f7, .int .i64 x.f8], rfl, rfl, ⟨[.string x.f1], [.string x.f2, .string x.f3, v4, .string x.f5, .bool x.f6, .bool x.f7, .int .i64 x.f8], rfl, rfl, ⟨[.string x.f2], [.string x.f3, v4, .string x.f5, .bool x.f6, .bool x.f7, .int .i64 x.f8], rfl, rfl, ⟨[.string x.f3], [v4, .string x.f5, .bool x.f6, .bool x.f7, .int .i64 x.f8], rfl, rfl, ⟨[v4], [.string x.f5, .bool x.f6, .bool x.f7, .int .i64 x.f8], rfl, ⟨v4, rfl, g4⟩, ⟨[.string x.f5], [.bool x.f6, .bool x.f7, .int .i64 x.f8], rfl, rfl, ⟨[.bool x.f6], [.bool x.f7, .int .i64 x.f8], rfl, rfl, ⟨[.bool x.f7], [.int .i64 x.f8], rfl, rfl, rfl⟩⟩⟩⟩⟩⟩⟩⟩
/-! #### struct type 29 -/
structure S29 where
  f0 : ByteArray
  f1 : ByteArray
  f2 : ByteArray
  f3 : (List ByteArray)
  f4 : Int
  f5 : Int
  f6 : Bool
def z29 : S29 := ⟨(⟨#[]⟩ : ByteArray), (⟨#[]⟩ : ByteArray), (⟨#[]⟩ : ByteArray), ([] : List ByteArray), (0 : Int), (0 : Int), false⟩
def k29 : Kd S29 := Kd.iso (Kd.pair Kd.string (Kd.pair Kd.string (Kd.pair Kd.string (Kd.pair (Kd.slice 9 Kd.string) (Kd.pair (Kd.int .i64) (Kd.pair (Kd.int .i64) Kd.bool)))))) (fun x : S29 => (x.f0, x.f1, x.f2, x.f3, x.f4, x.f5, x.f6))
theorem k29_open {w : World} {x : S29} {cs : List Value} (h : k29.K w x cs) : ∃ A3 c3, cs = [.string x.f0, .string x.f1, .string x.f2, .slice A3 x.f3.length c3, .int .i64 x.f4, .int .i64 x.f5, .bool x.f6] ∧ x.f3.length ≤ c3 ∧ Kd.string.C w A3 x.f3.length x.f3 := by
  obtain ⟨_, _, rfl, rfl, ⟨_, _, rfl, rfl, ⟨_, _, rfl, rfl, ⟨_, _, rfl, ⟨A3, c3, rfl, l3, g3⟩, ⟨_, _, rfl, rfl, ⟨_, _, rfl, rfl, rfl⟩⟩⟩⟩⟩⟩ := h
  exact ⟨A3, c3, rfl, l3, g3⟩
theorem k29_openM {w : World} {base : Nat} {ok : Nat → Prop} {x : S29} {cs : List Value} (h : k29.M w base ok x cs) : ∃ v3, cs = [.string x.f0, .string x.f1, .string x.f2, v3, .int .i64 x.f4, .int .i64 x.f5, .bool x.f6] ∧ Kd.string.R 9 w base ok v3 x.f3 := by
  obtain ⟨_, _, rfl, rfl, ⟨_, _, rfl, rfl, ⟨_, _, rfl, rfl, ⟨_, _, rfl, ⟨v3, rfl, g3⟩, ⟨_, _, rfl, rfl, ⟨_, _, rfl, rfl, rfl⟩⟩⟩⟩⟩⟩ := h
  exact ⟨v3, rfl, g3⟩
theorem k29_mkM (w : World) (base : Nat) (ok : Nat → Prop) (x : S29) {v3 : Value} (g3 : Kd.string.R 9 w base ok v3 x.f3) : k29.M w base ok x [.string x.f0, .string x.f1, .string x.f2, v3, .int .i64 x.f4, .int .i64 x.f5, .bool x.f6] := ⟨[.string x.f0], [.string x.f1, .string x.f2, v3, .int .i64 x.f4, .int .i64 x.f5, .bool x.f6], rfl, rfl, ⟨[.string x.f1], [.string x.f2, v3, .int .i64 x.f4, .int .i64 x.f5, .bool x.f6], rfl, rfl, ⟨[.string x.f2], [v3, .int .i64 x.f4, .int .i64 x.f5, .bool x.f6], rfl, rfl, ⟨[v3], [.int .i64 x.f4, .int .i64 x.f5, .bool x.f6], rfl, ⟨v3, rfl, g3⟩, ⟨[.int .i64 x.f4], [.int .i64 x.f5, .bool x.f6], rfl, rfl, ⟨[.int .i64 x.f5], [.bool x.f6], rfl, rfl, rfl⟩⟩⟩⟩⟩⟩
/-! #### struct type 31 -/
structure S31 where
  f0 : ByteArray
  f1 : ByteArray
  f2 : Int
def z31 : S31 := ⟨(⟨#[]⟩ : ByteArray), (⟨#[]⟩ : ByteArray), (0 : Int)⟩
def k31 : Kd S31 := Kd.iso (Kd.pair Kd.string (Kd.pair Kd.string (Kd.int .i64))) (fun x : S31 => (x.f0, x.f1, x.f2))
theorem k31_open {w : World} {x : S31} {cs : List Value} (h : k31.K w x cs) : cs = [.string x.f0, .string x.f1, .int .i64 x.f2] := by
  obtain ⟨_, _, rfl, rfl, ⟨_, _, rfl, rfl, rfl⟩⟩ := h
  exact rfl
theorem k31_openM {w : World} {base : Nat} {ok : Nat → Prop} {x : S31} {cs : List Value} (h : k31.M w base ok x cs) : cs = [.string x.f0, .string x.f1, .int .i64 x.f2] := by
  obtain ⟨_, _, rfl, rfl, ⟨_, _, rfl, rfl, rfl⟩⟩ := h
  exact rfl
theorem k31_mkM (w : World) (base : Nat) (ok : Nat → Prop) (x : S31)  : k31.M w base ok x [.string x.f0, .string x.f1, .int .i64 x.f2] := ⟨[.string x.f0], [.string x.f1, .int .i64 x.f2], rfl, rfl, ⟨[.string x.f1], [.int .i64 x.f2], rfl, rfl, rfl⟩⟩
/-! #### struct type 34 -/
structure S34 where
  f0 : ByteArray
  f1 : ByteArray
  f2 : ByteArray
  f3 : ByteArray
  f4 : ByteArray
  f5 : (List ByteArray)
  f6 : (List S86)
  f7 : Int
  f8 : Int
  f9 : Bool
def z34 : S34 := ⟨(⟨#[]⟩ : ByteArray), (⟨#[]⟩ : ByteArray), (⟨#[]⟩ : ByteArray), (⟨#[]⟩ : ByteArray), (⟨#[]⟩ : ByteArray), ([] : List ByteArray), ([] : List S86), (0 : Int), (0 : Int), false⟩
def k34 : Kd S34 := Kd.iso (Kd.pair Kd.string (Kd.pair Kd.string (Kd.pair Kd.string (Kd.pair Kd.string (Kd.pair Kd.string (Kd.pair (Kd.slice 9 Kd.string) (Kd.pair (Kd.slice 86 k86) (Kd.pair (Kd.int .i64) (Kd.pair (Kd.int .i64) Kd.bool))))))))) (fun x : S34 => (x.f0, x.f1, x.f2, x.f3, x.f4, x.f5, x.f6, x.f7, x.f8, x.f9))
theorem k34_open {w : World} {x : S34} {cs : List Value} (h : k34.K w x cs) : ∃ A5 c5 A6 c6, cs = [.string x.f0, .string x.f1, .string x.f2, .string x.f3, .string x.f4, .slice A5 x.f5.length c5, .slice A6 x.f6.length c6, .int .i64 x.f7, .int .i64 x.f8, .bool x.f9] ∧ x.f5.length ≤ c5 ∧ Kd.string.C w A5 x.f5.length x.f5 ∧ x.f6.length ≤ c6 ∧ k86.C w A6 x.f6.length x.f6 := by
  obtain ⟨_, _, rfl, rfl, ⟨_, _, rfl, rfl, ⟨_, _, rfl, rfl, ⟨_, _, rfl, rfl, ⟨_, _, rfl, rfl, ⟨_, _, rfl, ⟨A5, c5, rfl, l5, g5⟩, ⟨_, _, rfl, ⟨A6, c6, rfl, l6, g6⟩, ⟨_, _, rfl, rfl, ⟨_, _, rfl, rfl, rfl⟩⟩⟩⟩⟩⟩⟩⟩⟩ := h
  exact ⟨A5, c5, A6, c6, rfl, l5, g5, l6, g6⟩
theorem k34_openM {w : World} {base : Nat} {ok : Nat → Prop} {x : S34} {cs : List Value} (h : k34.M w base ok x cs) : ∃ v5 v6, cs = [.string x.f0, .string x.f1, .string x.f2, .string x.f3, .string x.f4, v5, v6, .int .i64 x.f7, .int .i64 x.f8, .bool x.f9] ∧ Kd.string.R 9 w base ok v5 x.f5 ∧ k86.R 86 w base ok v6 x.f6 := by
  obtain ⟨_, _, rfl, rfl, ⟨_, _, rfl, rfl, ⟨_, _, rfl, rfl, ⟨_, _, rfl, rfl, ⟨_, _, rfl, rfl, ⟨_, _, rfl, ⟨v5, rfl, g5⟩, ⟨_, _, rfl, ⟨v6, rfl, g6⟩, ⟨_, _, rfl, rfl, ⟨_, _, rfl, rfl, rfl⟩⟩⟩⟩⟩⟩⟩⟩⟩ := h
  exact ⟨v5, v6, rfl, g5, g6⟩
theorem k34_mkM (w : World) (base : Nat) (ok : Nat → Prop) (x : S34) {v5 : Value} (g5 : Kd.string.R 9 w base ok v5 x.f5) {v6 : Value} (g6 : k86.R 86 w base ok v6 x.f6) : k34.M w base ok x [.string x.f0, .string x.f1, .string x.f2, .string x.f3, .string x.f4, v5, v6, .int .i64 x.f7, .int .i64 x.f8, .bool x.f9] := ⟨[.string x.f0], [.string x.f1, .string x.f2, .string x.f3, .string x.f4, v5, v6, .int .i64 x.f7, .int .i64 x.f8, .bool x.f9], rfl, rfl, ⟨[.string x.f1], [.string x.f2, .string x.f3, .string x.f4, v5, v6, .int .i64 x.f7, .int .i64 x.f8, .bool x.f9], rfl, rfl, ⟨[.string x.f2], [.string x.f3, .string x.f4, v5, v6, .int .i64 x.f7, .int .i64 x.f8, .bool x.f9], rfl, rfl, ⟨[.string x.f3], [.string x.f4, v5, v6, .int .i64 x.f7, .int .i64 x.f8, .bool x.f9], rfl, rfl, ⟨[.string x.f4], [v5, v6, .int .i64 x.f7, .int .i64 x.f8, .bool x.f9], rfl, rfl, ⟨[v5], [v6, .int .i64 x.f7, .int .i64 x.f8, .bool x.f9], rfl, ⟨v5, rfl, g5⟩, ⟨[v6], [.int .i64 x.f7, .int .i64 x.f8, .bool x.f9], rfl, ⟨v6, rfl, g6⟩, ⟨[.int .i64 x.f7], [.int .i64 x.f8, .bool x.f9], rfl, rfl, ⟨[.int .i64 x.f8], [.bool x.f9], rfl, rfl, rfl⟩⟩⟩⟩⟩⟩⟩⟩⟩
/-! #### struct type 36 -/
structure S36 where
  f0 : ByteArray
  f1 : ByteArray
  f2 : ByteArray
  f3 : ByteArray
  f4 : (List ByteArray)
  f5 : ByteArray
def z36 : S36 := ⟨(⟨#[]⟩ : ByteArray), (⟨#[]⟩ : ByteArray), (⟨#[]⟩ : ByteArray), (⟨#[]⟩ : ByteArray), ([] : List ByteArray), (⟨#[]⟩ : ByteArray)⟩
def k36 : Kd S36 := Kd.iso (Kd.pair Kd.string (Kd.pair Kd.string (Kd.pair Kd.string (Kd.pair Kd.string (Kd.pair (Kd.slice 9 Kd.string) Kd.string))))) (fun x : S36 => (x.f0, x.f1, x.f2, x.f3, x.f4, x.f5))
theorem k36_open {w : World} {x : S36} {cs : List Value} (h : k36.K w x cs) : ∃ A4 c4, cs = [.string x.f0, .string x.f1, .string x.f2, .string x.f3, .slice A4 x.f4.length c4, .string x.f5] ∧ x.f4.length ≤ c4 ∧ Kd.string.C w A4 x.f4.length x.f4 := by
  obtain ⟨_, _, rfl, rfl, ⟨_, _, rfl, rfl, ⟨_, _, rfl, rfl, ⟨_, _, rfl, rfl, ⟨_, _, rfl, ⟨A4, c4, rfl, l4, g4⟩, rfl⟩⟩⟩⟩⟩ := h
  exact ⟨A4, c4, rfl, l4, g4⟩
theorem k36_openM {w : World} {base : Nat} {ok : Nat → Prop} {x : S36} {cs : List Value} (h : k36.M w base ok x cs) : ∃ v4, cs = [.string x.f0, .string x.f1, .string x.f2, .string x.f3, v4, .string x.f5] ∧ Kd.string.R 9 w base ok v4 x.f4 := by
  obtain ⟨_, _, rfl, rfl, ⟨_, _, rfl, rfl, ⟨_, _, rfl, rfl, ⟨_, _, rfl, rfl, ⟨_, _, rfl, ⟨v4, rfl, g4⟩, rfl⟩⟩⟩⟩⟩ := h
  exact ⟨v4, rfl, g4⟩
theorem k36_mkM (w : World) (base : Nat) (ok : Nat → Prop) (x : S36) {v4 : Value} (g4 : Kd.string.R 9 w base ok v4 x.f4) : k36.M w base ok x [.string x.f0, .string x.f1, .string x.f2, .string x.f3, v4, .string x.f5] := ⟨[.string x.f0], [.string x.f1, .string x.f2, .string x.f3, v4, .string x.f5], rfl, rfl, ⟨[.string x.f1], [.string x.f2, .string x.f3, v4, .string x.f5], rfl, rfl, ⟨[.string x.f2], [.string x.f3, v4, .string x.f5], rfl, rfl, ⟨[.string x.f3], [v4, .string x.f5], rfl, rfl, ⟨[v4], [.string x.f5], rfl, ⟨v4, rfl, g4⟩, rfl⟩⟩⟩⟩⟩
/-! #### struct type 38 -/
structure S38 where
  f0 : ByteArray
  f1 : ByteArray
  f2 : (List S86)
  f3 : ByteArray
  f4 : Int
  f5 : Bool
def z38 : S38 := ⟨(⟨#[]⟩ : ByteArray), (⟨#[]⟩ : ByteArray), ([] : List S86), (⟨#[]⟩ : ByteArray), (0 : Int), false⟩
def k38 : Kd S38 := Kd.iso (Kd.pair Kd.string (Kd.pair Kd.string (Kd.pair (Kd.slice 86 k86) (Kd.pair Kd.string (Kd.pair (Kd.int .i64) Kd.bool))))) (fun x : S38 => (x.f0, x.f1, x.f2, x.f3, x.f4, x.f5))
theorem k38_open {w : World} {x : S38} {cs : List Value} (h : k38.K w x cs) : ∃ A2 c2, cs = [.string x.f0, .string x.f1, .slice A2 x.f2.length c2, .string x.f3, .int .i64 x.f4, .bool x.f5] ∧ x.f2.length ≤ c2 ∧ k86.C w A2 x.f2.length x.f2 := by
  obtain ⟨_, _, rfl, rfl, ⟨_, _, rfl, rfl, ⟨_, _, rfl, ⟨A2, c2, rfl, l2, g2⟩, ⟨_, _, rfl, rfl, ⟨_, _, rfl, rfl, rfl⟩⟩⟩⟩⟩ := h
  exact ⟨A2, c2, rfl, l2, g2⟩
theorem k38_openM {w : World} {base : Nat} {ok : Nat → Prop} {x : S38} {cs : List Value} (h : k38.M w base ok x cs) : ∃ v2, cs = [.string x.f0, .string x.f1, v2, .string x.f3, .int .i64 x.f4, .bool x.f5] ∧ k86.R 86 w base ok v2 x.f2 := by
  obtain ⟨_, _, rfl, rfl, ⟨_, _, rfl, rfl, ⟨_, _, rfl, ⟨v2, rfl, g2⟩, ⟨_, _, rfl, rfl, ⟨_, _, rfl, rfl, rfl⟩⟩⟩⟩⟩ := h
  exact ⟨v2, rfl, g2⟩
theorem k38_mkM (w : World) (base : Nat) (ok : Nat → Prop) (x : S38) {v2 : Value} (g2 : k86.R 86 w base ok v2 x.f2) : k38.M w base ok x [.string x.f0, .string x.f1, v2, .string x.f3, .int .i64 x.f4, .bool x.f5] := ⟨[.string x.f0], [.string x.f1, v2, .string x.f3, .int .i64 x.f4, .bool x.f5], rfl, rfl, ⟨[.string x.f1], [v2, .string x.f3, .int .i64 x.f4, .bool x.f5], rfl, rfl, ⟨[v2], [.string x.f3, .int .i64 x.f4, .bool x.f5], rfl, ⟨v2, rfl, g2⟩, ⟨[.string x.f3], [.int .i64 x.f4, .bool x.f5], rfl, rfl, ⟨[.int .i64 x.f4], [.bool x.f5], rfl, rfl, rfl⟩⟩⟩⟩⟩
/-! #### struct type 41 -/
structure S41 where
  f0 : Int
  f1 : S25
  f2 : S27
  f3 : S29
  f4 : S31
  f5 : S34
  f6 : S36
  f7 : S38
  f8 : (List S117)
def k41 : Kd S41 := Kd.iso (Kd.pair (Kd.int .i64) (Kd.pair k25 (Kd.pair k27 (Kd.pair k29 (Kd.pair k31 (Kd.pair k34 (Kd.pair k36 (Kd.pair k38 (Kd.slice 117 k117))))))))) (fun x : S41 => (x.f0, x.f1, x.f2, x.f3, x.f4, x.f5, x.f6, x.f7, x.f8))
theorem k41_open {w : World} {x : S41} {cs : List Value} (h : k41.K w x cs) : ∃ A3 c3 A8 c8 A16 c16 A28 c28 A29 c29 A37 c37 A41 c41 A45 c45, cs = [.int .i64 x.f0, .string x.f1.f0, .string x.f1.f1, .slice A3 x.f1.f2.length c3, .string x.f2.f0, .string x.f2.f1, .string x.f2.f2, .string x.f2.f3, .slice A8 x.f2.f4.length c8, .string x.f2.f5, .bool x.f2.f6, .bool x.f2.f7, .int .i64 x.f2.f8, .string x.f3.f0, .string x.f3.f1, .string x.f3.f2, .slice A16 x.f3.f3.length c16, .int .i64 x.f3.f4, .int .i64 x.f3.f5, .bool x.f3.f6, .string x.f4.f0, .string x.f4.f1, .int .i64 x.f4.f2, .string x.f5.f0, .string x.f5.f1, .string x.f5.f2, .string x.f5.f3, .string x.f5.f4, .slice A28 x.f5.f5.length c28, .slice A29 x.f5.f6.length c29, .int .i64 x.f5.f7, .int .i64 x.f5.f8, .bool x.f5.f9, .string x.f6.f0, .string x.f6.f1, .string x.f6.f2, .string x.f6.f3, .slice A37 x.f6.f4.length c37, .string x.f6.f5, .string x.f7.f0, .string x.f7.f1, .slice A41 x.f7.f2.length c41, .string x.f7.f3, .int .i64 x.f7.f4, .bool x.f7.f5, .slice A45 x.f8.length c45] ∧ x.f1.f2.length ≤ c3 ∧ Kd.string.C w A3 x.f1.f2.length x.f1.f2 ∧ x.f2.f4.length ≤ c8 ∧ Kd.string.C w A8 x.f2.f4.length x.f2.f4 ∧ x.f3.f3.length ≤ c16 ∧ Kd.string.C w A16 x.f3.f3.length x.f3.f3 ∧ x.f5.f5.length ≤ c28 ∧ Kd.string.C w A28 x.f5.f5.length x.f5.f5 ∧ x.f5.f6.length ≤ c29 ∧ k86.C w A29 x.f5.f6.length x.f5.f6 ∧ x.f6.f4.length ≤ c37 ∧ Kd.string.C w A37 x.f6.f4.length x.f6.f4 ∧ x.f7.f2.length ≤ c41 ∧ k86.C w A41 x.f7.f2.length x.f7.f2 ∧ x.f8.length ≤ c45 ∧ k117.C w A45 x.f8.length x.f8 := by
  obtain ⟨_, _, rfl, rfl, ⟨_, _, rfl, s1, ⟨_, _, rfl, s4, ⟨_, _, rfl, s13, ⟨_, _, rfl, s20, ⟨_, _, rfl, s23, ⟨_, _, rfl, s33, ⟨_, _, rfl, s39, ⟨A45, c45, rfl, l45, g45⟩⟩⟩⟩⟩⟩⟩⟩⟩ := h
  obtain ⟨A3, c3, rfl, l3, g3⟩ := k25_open s1
  obtain ⟨A8, c8, rfl, l8, g8⟩ := k27_open s4
  obtain ⟨A16, c16, rfl, l16, g16⟩ := k29_open s13
  obtain rfl := k31_open s20
  obtain ⟨A28, c28, A29, c29, rfl, l28, g28, l29, g29⟩ := k34_open s23
  obtain ⟨A37, c37, rfl, l37, g37⟩ := k36_open s33
  obtain ⟨A41, c41, rfl, l41, g41⟩ := k38_open s39
  exact ⟨A3, c3, A8, c8, A16, c16, A28, c28, A29, c29, A37, c37, A41, c41, A45, c45, rfl, l3, g3, l8, g8, l16, g16, l28, g28, l29, g29, l37, g37, l41, g41, l45, g45⟩
theorem k41_mkM (w : World) (base : Nat) (ok : Nat → Prop) (x : S41) {v3 : Value} (g3 : Kd.string.R 9 w base ok v3 x.f1.f2) {v8 : Value} (g8 : Kd.string.R 9 w base ok v8 x.f2.f4) {v16 : Value} (g16 : Kd.string.R 9 w base ok v16 x.f3.f3) {v28 : Value} (g28 : Kd.string.R 9 w base ok v28 x.f5.f5) {v29 : Value} (g29 : k86.R 86 w base ok v29 x.f5.f6) {v37 : Value} (g37 : Kd.string.R 9 w base ok v37 x.f6.f4) {v41 : Value} (g41 : k86.R 86 w base ok v41 x.f7.f2) {v45 : Value} (g45 : k117.R 117 w base ok v45 x.f8) : k41.M w base ok x [.int .i64 x.f0, .string x.f1.f0, .string x.f1.f1, v3, .string x.f2.f0, .string x.f2.f1, .string x.f2.f2, .string x.f2.f3, v8, .string x.f2.f5, .bool x.f2.f6, .bool x.f2.f7, .int .i64 x.f2.f8, .string x.f3.f0, .string x.f3.f1, .string x.f3.f2, v16, .int .i64 x.f3.f4, .int .i64 x.f3.f5, .bool x.f3.f6, .string x.f4.f0, .string x.f4.f1, .int .i64 x.f4.f2, .string x.f5.f0, .string x.f5.f1, .string x.f5.f2, .string x.f5.f3, .string x.f5.f4, v28, v29, .int .i64 x.f5.f7, .int .i64 x.f5.f8, .bool x.f5.f9, .string x.f6.f0, .string x.f6.f1, .string x.f6.f2, .string x.f6.f3, v37, .string x.f6.f5, .string x.f7.f0, .string x.f7.f1, v41, .string x.f7.f3, .int .i64 x.f7.f4, .bool x.f7.f5, v45] := ⟨[.int .i64 x.f0], [.string x.f1.f0, .string x.f1.f1, v3, .string x.f2.f0, .string x.f2.f1, .string x.f2.f2, .string x.f2.f3, v8, .string x.f2.f5, .bool x.f2.f6, .bool x.f2.f7, .int .i64 x.f2.f8, .string x.f3.f0, .string x.f3.f1, .string x.f3.f2, v16, .int .i64 x.f3.f4, .int .i64 x.f3.f5, .bool x.f3.f6, .string x.f4.f0, .string x.f4.f1, .int .i64 x.f4.f2, .string x.f5.f0, .string x.f5.f1, .string x.f5.f2, .string x.f5.f3, .string x.f5.f4, v28, v29, .int .i64 x.f5.f7, .int .i64 x.f5.f8, .bool x.f5.f9, .string x.f6.f0, .string x.f6.f1, .string x.f6.f2, .string x.f6.f3, v37, .string x.f6.f5, .string x.f7.f0, .string x.f7.f1, v41, .string x.f7.f3, .int .i64 x.f7.f4, .bool x.f7.f5, v45], rfl, rfl, ⟨[.string x.f1.f0, .string x.f1.f1, v3], [.string x.f2.f0, .string x.f2.f1, .string x.f2.f2, .string x.f2.f3, v8, .string x.f2.f5, .bool x.f2.f6, .bool x.f2.f7, .int .i64 x.f2.f8, .string x.f3.f0, .string x.f3.f1, .string x.f3.f2, v16, .int .i64 x.f3.f4, .int .i64 x.f3.f5, .bool x.f3.f6, .string x.f4.f0, .string x.f4.f1, .int .i64 x.f4.f2, .string x.f5.f0, .string x.f5.f1, .string x.f5.f2, .string x.f5.f3, .string x.f5.f4, v28, v29, .int .i64 x.f5.f7, .int .i64 x.f5.f8, .bool x.f5.f9, .string x.f6.f0, .string x.f6.f1, .string x.f6.f2, .string x.f6.f3, v37, .string x.f6.f5, .string x.f7.f0, .string x.f7.f1, v41, .string x.f7.f3, .int .i64 x.f7.f4, .bool x.f7.f5, v45], rfl, (k25_mkM w base ok x.f1 g3), ⟨[.string x.f2.f0, .string x.f2.f1, .string x.f2.f2, .string x.f2.f3, v8, .string x.f2.f5, .bool x.f2.f6, .bool x.f2.f7, .int .i64 x.f2.f8], [.string x.f3.f0, .string x.f3.f1, .string x.f3.f2, v16, .int .i64 x.f3.f4, .int .i64 x.f3.f5, .bool x.f3.f6, .string x.f4.f0, .string x.f4.f1, .int .i64 x.f4.f2, .string x.f5.f0, .string x.f5.f1, .string x.f5.f2, .string x.f5.f3, .string x.f5.f4, v28, v29, .int .i64 x.f5.f7, .int .i64 x.f5.f8, .bool x.f5.f9, .string x.f6.f0, .string x.f6.f1, .string x.f6.f2, .string x.f6.f3, v37, .string x.f6.f5, .string x.f7.f0, .string x.f7.f1, v41, .string x.f7.f3, .int .i64 x.f7.f4, .bool x.f7.f5, v45], rfl, (k27_mkM w base ok x.f2 g8), ⟨[.string x.f3.f0, .string x.f3.f1, .string x.f3.f2, v16, .int .i64 x.f3.f4, .int .i64 x.f3.f5, .bool x.f3.f6], [.string x.f4.f0, .string x.f4.f1, .int .i64 x.f4.f2, .string x.f5.f0, .string x.f5.f1, .string x.f5.f2, .string x.f5.f3, .string x.f5.f4, v28, v29, .int .i64 x.f5.f7, .int .i64 x.f5.f8, .bool x.f5.f9, .string x.f6.f0, .string x.f6.f1, .string x.f6.f2, .string x.f6.f3, v37, .string x.f6.f5, .string x.f7.f0, .string x.f7.f1, v41, .string x.f7.f3, .int .i64 x.f7.f4, .bool x.f7.f5, v45], rfl, (k29_mkM w base ok x.f3 g16), ⟨[.string x.f4.f0, .string x.f4.f1, .int .i64 x.f4.f2], [.string x.f5.f0, .string x.f5.f1, .string x.f5.f2, .string x.f5.f3, .string x.f5.f4, v28, v29, .int .i64 x.f5.f7, .int .i64 x.f5.f8, .bool x.f5.f9, .string x.f6.f0, .string x.f6.f1, .string x.f6.f2, .string x.f6.f3, v37, .string x.f6.f5, .string x.f7.f0, .string x.f7.f1, v41, .string x.f7.f3, .int .i64 x.f7.f4, .bool x.f7.f5, v45], rfl, (k31_mkM w base ok x.f4 ), ⟨[.string x.f5.f0, .string x.f5.f1, .string x.f5.f2, .string x.f5.f3, .string x.f5.f4, v28, v29, .int .i64 x.f5.f7, .int .i64 x.f5.f8, .bool x.f5.f9], [.string x.f6.f0, .string x.f6.f1, .string x.f6.f2, .string x.f6.f3, v37, .string x.f6.f5, .string x.f7.f0, .string x.f7.f1, v41, .string x.f7.f3, .int .i64 x.f7.f4, .bool x.f7.f5, v45], rfl, (k34_mkM w base ok x.f5 g28 g29), ⟨[.string x.f6.f0, .string x.f6.f1, .string x.f6.f2, .string x.f6.f3, v37, .string x.f6.f5], [.string x.f7.f0, .string x.f7.f1, v41, .string x.f7.f3, .int .i64 x.f7.f4, .bool x.f7.f5, v45], rfl, (k36_mkM w base ok x.f6 g37), ⟨[.string x.f7.f0, .string x.f7.f1, v41, .string x.f7.f3, .int .i64 x.f7.f4, .bool x.f7.f5], [v45], rfl, (k38_mkM w base ok x.f7 g41), ⟨v45, rfl, g45⟩⟩⟩⟩⟩⟩⟩⟩⟩
end Go.Proofs.YtcgjacffemjehaaDoor

namespace Go.Proofs.YtcgjacffemjehaaDoor
open Go.RowKit

/-- A fact kept from the walk. -/
theorem hid {p : Prop} (h : p) : RowKit.Hid p := h
theorem lt_of_cell {w : World} {a : Addr} {v : Value} (h : w.cell? a = some v) : a.block < w.heap.size := by
  rcases Nat.lt_or_ge a.block w.heap.size with h' | h'
  · exact h'
  · simp [World.cell?, Array.getElem?_eq_none h'] at h
/-- A store into one old block on both sides. -/
theorem below_setCell_both {B : Nat} {w w' : World} (h : Below B w w') (t : Addr) (v : Value) : Below B (w.setCell t v) (w'.setCell t v) := by
  refine ⟨h.os, h.tape, h.output, ?_, fun k hk => ?_⟩
  · have := h.size; simp [World.setCell]; omega
  · by_cases e : k = t.block
    · subst e; have := h.block t.block hk; simp only [World.setCell, Array.getElem?_modify]; rw [this]
    · rw [Below.heap_setCell _ _ _ _ e, Below.heap_setCell _ _ _ _ e]; exact h.block k hk
theorem below_of_set {w w1 : World} {o : Obj} {v : Value} (h : Below (w.alloc o).heap.size ((w.alloc o).setCell ⟨w.heap.size, 0, none⟩ v) w1) : Below w.heap.size w w1 :=
  (((Below.refl w.heap.size w).alloc (Nat.le_refl _) o).setCell (p := ⟨w.heap.size, 0, none⟩) (Nat.le_refl _) v).trans (h.mono (by simp))
theorem cell_of_set {w w1 : World} {T : TypeId} {v0 v : Value} (h : Below (w.alloc (.cells #[v0] T)).heap.size ((w.alloc (.cells #[v0] T)).setCell ⟨w.heap.size, 0, none⟩ v) w1) : w1.cell? ⟨w.heap.size, 0, none⟩ = some v := by
  rw [h.cell (p := ⟨w.heap.size, 0, none⟩) (by simp)]
  exact World.cell?_setCell_same (u := v0) _ _ _ (by simp)

end Go.Proofs.YtcgjacffemjehaaDoor

namespace Go.Proofs.YtcgjacffemjehaaDoor
open Go.RowKit

/-- A byte as a cell. -/
def cellOf (b : UInt8) : Value := .int .u8 b.toNat
theorem cellOf_def (b : UInt8) : cellOf b = .int .u8 b.toNat := rfl
/-- A text as a value. -/
abbrev strV (l : List UInt8) : Value := .string ⟨l.toArray⟩

theorem str_of_nums (l : List UInt8) : strOfNums (l.map fun b => (b.toNat : Int)) = ⟨l.toArray⟩ := by
  unfold strOfNums
  congr 1
  simp [Function.comp_def]

/-- string(b), b a piece of memory that reads as l. -/
theorem run_string_of_cells {P : Program} {w : World} {src e dst : TypeId} (hs : P.underlying src = some (.slice e)) (he : P.underlying e = some (.int .u8)) (hd : P.underlying dst = some .string)
    (b off len cap : Nat) (l : List UInt8) (hlen : l.length = len) (hcell : ∀ i, i < len → w.cell? ⟨b, off + i, none⟩ = some (cellOf (l.getD i 0))) :
    (convert src dst (.slice (some ⟨b, off, none⟩) len cap)).run P w = .ok (strV l) w := by
  have h := run_convert_bytes_arg (P := P) w src e hs he b off len cap (l.map fun b => (b.toNat : Int)) (by simpa using hlen)
    (fun i hi => by rw [hcell i hi]; simp [cellOf, List.getD, show i < l.length by omega]) dst hd
  rw [h, str_of_nums]

/-- The cells of a new block. -/
theorem cells_of_new (w : World) (C : Array Value) (T : TypeId) (k : Nat) (l : List UInt8) (h : C.toList.drop k = l.map cellOf) :
    ∀ i, i < l.length → (w.alloc (.cells C T)).cell? ⟨w.heap.size, k + i, none⟩ = some (cellOf (l.getD i 0)) := by
  intro i hi
  rw [World.cell?_alloc_new]
  have h2 : (C.toList.drop k)[i]? = some (cellOf (l.getD i 0)) := by rw [h]; simp [List.getD, hi]
  rw [List.getElem?_drop] at h2
  simpa using h2

/-- A string's byte, by its list. -/
theorem str_get (s : ByteArray) (i : Nat) (h : i < s.size) : s[i] = s.data.toList.getD i 0 := by
  have h' : i < s.data.toList.length := by simpa using h
  rw [List.getD_eq_getElem?_getD, List.getElem?_eq_getElem h']
  simp; rfl
theorem str_len (s : ByteArray) : s.data.toList.length = s.size := by simp
theorem str_toList (s : ByteArray) : s.toList = s.data.toList := Lib.toList_data s
theorem str_ne_empty (s : ByteArray) (h : 0 < s.size) : (!s.toList.isEmpty) = true := by
  rw [str_toList]
  have : s.data.toList ≠ [] := fun e => by have h2 := str_len s; rw [e] at h2; simp at h2; omega
  simpa using this
theorem str_not_empty (s : ByteArray) (h : 0 < s.size) : ¬ s.toList = [] := fun e => by
  rw [str_toList] at e
  have h2 := str_len s; rw [e] at h2; simp at h2; omega
/-- A text and a text. -/
theorem str_append (a b : List UInt8) : (⟨a.toArray⟩ : ByteArray) ++ ⟨b.toArray⟩ = ⟨(a ++ b).toArray⟩ := by
  apply ByteArray.ext
  simp
/-- A call that answers a text and writes nothing that was there. -/
def TextPost (l : List UInt8) (w : World) (e : Ending) (w' : World) : Prop := e = .returned (strV l) ∧ Below w.heap.size w w'
theorem TextPost.mk {l : List UInt8} {w w' : World} {v : Value} (h : v = strV l) (hb : Below w.heap.size w w') : TextPost l w (.returned v) w' := ⟨by rw [h], hb⟩
/-- One call behind another: nothing that was there is written. -/
theorem below_then {a b c : World} (h : Below a.heap.size a b) (k : Below b.heap.size b c) : Below a.heap.size a c := h.trans (k.mono h.size)
/-- A law's call: true, and nothing that was there is written. -/
def TruePost (w : World) (e : Ending) (w' : World) : Prop := e = .returned (.bool true) ∧ Below w.heap.size w w'
theorem TruePost.mk {w w' : World} {b : Bool} (h : b = true) (hb : Below w.heap.size w w') : TruePost w (.returned (.bool b)) w' := ⟨by rw [h], hb⟩
theorem int_beq_false {a b : Int} (h : ¬ a = b) : (a == b) = false := by simpa using h
/-- string(b), b a new block. -/
theorem run_string_of_new {P : Program} {w : World} {src e dst : TypeId} (hs : P.underlying src = some (.slice e)) (he : P.underlying e = some (.int .u8)) (hd : P.underlying dst = some .string) (C : Array Value) (l : List UInt8) (hC : C.toList = l.map cellOf) (k : Nat) (hk : l.length = k) (m : Nat) :
    (convert src dst (.slice (some ⟨w.heap.size, 0, none⟩) k m)).run P (w.alloc (.cells C e)) = .ok (strV l) (w.alloc (.cells C e)) :=
  run_string_of_cells (P := P) (w := w.alloc (.cells C e)) hs he hd w.heap.size 0 k m l hk (fun i hi => cells_of_new w C e 0 l (by simpa using hC) i (by omega))
/-- []byte(s): a new block; nothing that was there is written. -/
theorem below_bytes (w : World) (e : TypeId) (s : ByteArray) : Below w.heap.size w (Lib.bytesWorld w e s) := by
  refine ⟨?_, ?_, ?_, ?_, fun k hk => Lib.bytesWorld_at_old w e s k hk⟩
  · unfold Lib.bytesWorld World.freeze; rfl
  · unfold Lib.bytesWorld World.freeze; rfl
  · unfold Lib.bytesWorld World.freeze; rfl
  · rw [Lib.bytesWorld_size]; omega
end Go.Proofs.YtcgjacffemjehaaDoor

namespace Go.Proofs.YtcgjacffemjehaaDoor
open Go.RowKit
set_option linter.unusedVariables false

/-- A slice value that reads as bytes. -/
def ReadsB (w : World) (v : Value) (l : List UInt8) : Prop :=
  (v = .slice none 0 0 ∧ l = []) ∨ ∃ b o cap, v = .slice (some ⟨b, o, none⟩) l.length cap ∧ l.length ≤ cap ∧ ∀ i, i < l.length → w.cell? ⟨b, o + i, none⟩ = some (cellOf (l.getD i 0))
/-- A slice value that owns its bytes, in blocks from base on. -/
def OwnB (w : World) (base : Nat) (e : TypeId) (v : Value) (l : List UInt8) : Prop := w.ownsRow base e 1 v l.length (l.map cellOf)
theorem getD_map_cell (l : List UInt8) (i : Nat) (h : i < l.length) : (l.map cellOf)[i]? = some (cellOf (l.getD i 0)) := by simp [List.getD, h]
theorem OwnB.reads {w : World} {base : Nat} {e : TypeId} {v : Value} {l : List UInt8} (h : OwnB w base e v l) : ReadsB w v l := by
  obtain ⟨h1, h2⟩ := h
  rcases h2 with ⟨rfl, h3⟩ | ⟨g, cap, cur, rfl, hb, hg, hn, hm, hs, ht⟩
  · exact .inl ⟨rfl, List.eq_nil_of_length_eq_zero h3⟩
  · refine .inr ⟨g, 0, cap, rfl, hn, fun i hi => ?_⟩
    have hc := getD_map_cell l i hi
    rw [← ht, List.getElem?_take] at hc
    rw [if_pos (by omega)] at hc
    simp only [World.cell?, hg, Nat.zero_add]
    simpa using hc
theorem OwnB.nil (w : World) (base : Nat) (e : TypeId) : OwnB w base e (.slice none 0 0) [] := World.ownsRow_nil w base e 1
/-- A new block of bytes is owned. -/
theorem OwnB.new (w : World) (base : Nat) (e : TypeId) (C : Array Value) (l : List UInt8) (n : Nat) (hn : n = l.length) (hC : C.toList = l.map cellOf) (hb : base ≤ w.heap.size) (hm : n ≤ maxLen) : OwnB (w.alloc (.cells C e)) base e (.slice (some ⟨w.heap.size, 0, none⟩) n n) l := by
  subst hn
  refine ⟨by simp, .inr ⟨w.heap.size, l.length, C, rfl, hb, ?_, Nat.le_refl _, hm, ?_, ?_⟩⟩
  · show (w.heap.push _)[w.heap.size]? = _; simp
  · have := congrArg List.length hC; simpa using this
  · rw [hC, List.take_of_length_le (by simp)]
/-- The same, the block's number spelt otherwise. -/
theorem OwnB.new' (w : World) (base : Nat) (e : TypeId) (C : Array Value) (l : List UInt8) (n b : Nat) (hb' : b = w.heap.size) (hn : n = l.length) (hC : C.toList = l.map cellOf) (hb : base ≤ w.heap.size) (hm : n ≤ maxLen) : OwnB (w.alloc (.cells C e)) base e (.slice (some ⟨b, 0, none⟩) n n) l := by
  subst hb'; exact OwnB.new w base e C l n hn hC hb hm
theorem ReadsB.below {w w' : World} {v : Value} {l : List UInt8} (h : ReadsB w v l) (hb : Below w.heap.size w w') : ReadsB w' v l := by
  rcases h with h | ⟨b, o, cap, hv, hc, hcell⟩
  · exact .inl h
  · exact .inr ⟨b, o, cap, hv, hc, fun i hi => by rw [hb.cell (p := ⟨b, o + i, none⟩) (lt_of_cell (hcell i hi))]; exact hcell i hi⟩
/-- A slice of bytes, by its type's facts. -/
structure ByteT (P : Program) (t e : TypeId) : Prop where
  slice : P.underlying t = some (.slice e)
  byte : P.underlying e = some (.int .u8)
  info : (P.info? e).map (fun i => (i.zero, i.size, i.bytes)) = some (some (.int .u8 0), 1, 1)

/-- append(owned bytes, bytes): what it comes to. -/
theorem run_append_b {P : Program} {t e : TypeId} (HT : ByteT P t e) {w : World} (ty : TypeId) (base : Nat) (l m : List UInt8) (v xv : Value)
    (hown : OwnB w base e v l) (hm : ReadsB w xv m) (hlen : l.length + m.length ≤ 1099511627776) (hbase : base ≤ w.heap.size) :
    ∃ v' w', (Builtin.append_ #[t, t] ty #[v, xv]).run P w = .ok v' w' ∧ OwnB w' base e v' (l ++ m) ∧ w.grownBy w' v.ownBlock ∧ (v' = .slice none 0 0 → v = .slice none 0 0) ∧ (v'.ownBlock = v.ownBlock ∨ v'.ownBlock = some w.heap.size) := by
  obtain ⟨i, hi, hz, hsize, hby⟩ := info_parts HT.info
  rcases hm with ⟨rfl, rfl⟩ | ⟨b, off, cap, rfl, hcap, hcell⟩
  · exact ⟨v, w, run_append_owned_none (P := P) w base t ty e i 1 HT.slice hi v l.length (l.map cellOf) hown, by simpa using hown, World.grownBy.refl _ _, fun e => e, .inl rfl⟩
  · obtain ⟨v', w', h1, h2, h3, h4, h5⟩ := run_append_own_at (P := P) w base t ty e i (.int .u8 0) 1 1 HT.slice hi hz hsize hby rfl (by omega) v l.length (l.map cellOf) hown ⟨b, off, none⟩ m.length cap (m.map cellOf) (by simp)
      (by
        intro j u hu
        have hj : j < m.length := by have := (List.getElem?_eq_some_iff.1 hu).1; simpa using this
        rw [Addr.add_lit, hcell j hj, ← getD_map_cell m j hj]; exact hu)
      (by intro u hu; obtain ⟨c, _, rfl⟩ := List.mem_map.1 hu; rfl) (by unfold maxLen; omega) (by omega) hbase
    exact ⟨v', w', h1, by unfold OwnB; rw [List.length_append, List.map_append]; exact h2, h3, fun e => (h4.1 e).1, h5⟩
/-- At one operation. -/
theorem wp_append_b {P : Program} {t e : TypeId} (HT : ByteT P t e) {w : World} {o : Oper} {a : Act} {K : Act → World → Prop} {Q : Exit → Act → World → Prop} (s x : Operand)
    (ho : o.op = .call { callee := .builtin .append, args := #[s, x], argTypes := #[t, t] }) (base : Nat) (l m : List UInt8) (v xv : Value) (hs : a.eval s = v) (hx : a.eval x = xv)
    (hown : OwnB w base e v l) (hm : ReadsB w xv m) (hlen : l.length + m.length ≤ 1099511627776) (hbase : base ≤ w.heap.size)
    (h : ∀ v' w', OwnB w' base e v' (l ++ m) → w.grownBy w' v.ownBlock → (v' = .slice none 0 0 → v = .slice none 0 0) → (v'.ownBlock = v.ownBlock ∨ v'.ownBlock = some w.heap.size) → K (a.put o.dst v') w') : o.wp P a w K Q := by
  obtain ⟨v', w', hr, h2, h3, h4, h5⟩ := run_append_b HT o.type base l m v xv hown hm hlen hbase
  unfold Oper.wp execOp
  simp only [ho, resolve, invoke, builtin, Sem.run_bind, Sem.run_pure, Result.andThen_ok, List.map_toArray, List.map_cons, List.map_nil, hs, hx, hr]
  exact h v' w' h2 h3 h4 h5
/-- At the list of a plain region's operations. -/
theorem wpList_append_b {P : Program} {t e : TypeId} (HT : ByteT P t e) {w : World} {ops : Array Oper} {rest : List Oper} {o : Oper} {a : Act} {Q : Exit → Act → World → Prop} (hgd : o.guard = none) (s x : Operand)
    (ho : o.op = .call { callee := .builtin .append, args := #[s, x], argTypes := #[t, t] }) (base : Nat) (l m : List UInt8) (v xv : Value) (hs : a.eval s = v) (hx : a.eval x = xv)
    (hown : OwnB w base e v l) (hm : ReadsB w xv m) (hlen : l.length + m.length ≤ 1099511627776) (hbase : base ≤ w.heap.size)
    (h : ∀ v' w', OwnB w' base e v' (l ++ m) → w.grownBy w' v.ownBlock → (v' = .slice none 0 0 → v = .slice none 0 0) → (v'.ownBlock = v.ownBlock ∨ v'.ownBlock = some w.heap.size) → wpList P ops Q rest (a.put o.dst v') w') : wpList P ops Q (o :: rest) a w :=
  wpList_plain hgd fun _ hK => wp_append_b HT s x ho base l m v xv hs hx hown hm hlen hbase fun v' w' h2 h3 h4 h5 => hK _ _ (h v' w' h2 h3 h4 h5)
/-- At a step of a region that draws its order. -/
theorem step_append_b {P : Program} {t e : TypeId} (HT : ByteT P t e) {w : World} {ops : Array Oper} {o : Oper} {a : Act} {K : Act → World → Prop} {Q : Exit → Act → World → Prop} {E : Prop} (hgd : o.guard = none) (s x : Operand)
    (ho : o.op = .call { callee := .builtin .append, args := #[s, x], argTypes := #[t, t] }) (base : Nat) (l m : List UInt8) (v xv : Value) (hs : a.eval s = v) (hx : a.eval x = xv)
    (hown : OwnB w base e v l) (hm : ReadsB w xv m) (hlen : l.length + m.length ≤ 1099511627776) (hbase : base ≤ w.heap.size)
    (h : ∀ v' w', OwnB w' base e v' (l ++ m) → w.grownBy w' v.ownBlock → (v' = .slice none 0 0 → v = .slice none 0 0) → (v'.ownBlock = v.ownBlock ∨ v'.ownBlock = some w.heap.size) → K (a.put o.dst v') w') : if Region.wanted o (yielded ops a.tmps) = true then Oper.wp P o a w K Q else E := by
  have hw : Region.wanted o (yielded ops a.tmps) = true := by simp [Region.wanted, hgd]
  rw [if_pos hw]
  exact wp_append_b HT s x ho base l m v xv hs hx hown hm hlen hbase h
/-- string(owned bytes). -/
theorem run_string_of_reads {P : Program} {w : World} {t e dst : TypeId} (HT : ByteT P t e) (hd : P.underlying dst = some .string) {v : Value} {l : List UInt8} (h : ReadsB w v l) :
    (convert t dst v).run P w = .ok (strV l) w := by
  rcases h with ⟨rfl, rfl⟩ | ⟨b, o, cap, rfl, hcap, hcell⟩
  · exact run_convert_bytes_nil w t e HT.slice HT.byte 0 0 dst hd
  · exact run_string_of_cells HT.slice HT.byte hd b o l.length cap l rfl hcell
theorem OwnB.kept {w w' : World} {base : Nat} {e : TypeId} {v : Value} {l : List UInt8} (h : OwnB w base e v l) {row : Option Nat} (hg : w.grownBy w' row) (hne : v.ownBlock = none ∨ v.ownBlock ≠ row) : OwnB w' base e v l := World.ownsRow.kept h hg hne
theorem OwnB.alloc {w : World} {base : Nat} {e : TypeId} {v : Value} {l : List UInt8} (h : OwnB w base e v l) (o : Obj) : OwnB (w.alloc o) base e v l := World.ownsRow.alloc h o
theorem OwnB.lt {w : World} {base : Nat} {e : TypeId} {v : Value} {l : List UInt8} (h : OwnB w base e v l) {k : Nat} (hk : v.ownBlock = some k) : base ≤ k ∧ k < w.heap.size := World.ownsRow.lt h k hk
end Go.Proofs.YtcgjacffemjehaaDoor

namespace Go.Proofs.YtcgjacffemjehaaDoor
open Go.RowKit
set_option linter.unusedVariables false

theorem byteT : ByteT Tryd.prog 49 5 := ⟨Tryd.underlying49, Tryd.underlying5, by kernel_rfl⟩
/-- append(owned bytes, text...). -/
theorem run_append_s {P : Program} {t u e : TypeId} (HT : ByteT P t e) (hu : P.underlying u = some .string) {w : World} (ty : TypeId) (base : Nat) (l : List UInt8) (s : ByteArray) (v : Value)
    (hown : OwnB w base e v l) (hlen : l.length + s.size ≤ 1099511627776) (hbase : base ≤ w.heap.size) :
    ∃ v' w', (Builtin.append_ #[t, u] ty #[v, .string s]).run P w = .ok v' w' ∧ OwnB w' base e v' (l ++ s.data.toList) ∧ w.grownBy w' v.ownBlock := by
  obtain ⟨i, hi, hz, hsize, hby⟩ := info_parts HT.info
  obtain ⟨v', w', h1, h2, h3, _⟩ := Lib.run_append_own_string (P := P) w base t u ty e i HT.slice hu hi hz hsize hby v l.length (l.map cellOf) hown s (by unfold maxLen; omega) (by omega) hbase
  refine ⟨v', w', h1, ?_, h3⟩
  have hc : Lib.strCells s = s.data.toList.map cellOf := by simp [Lib.strCells, cellOf]
  unfold OwnB
  rw [List.length_append, List.map_append, ← hc, str_len]
  exact h2
theorem step_append_s {P : Program} {t u e : TypeId} (HT : ByteT P t e) (hu : P.underlying u = some .string) {w : World} {ops : Array Oper} {o : Oper} {a : Act} {K : Act → World → Prop} {Q : Exit → Act → World → Prop} {E : Prop} (hgd : o.guard = none) (s x : Operand)
    (ho : o.op = .call { callee := .builtin .append, args := #[s, x], argTypes := #[t, u] }) (base : Nat) (l : List UInt8) (m : ByteArray) (v : Value) (hs : a.eval s = v) (hx : a.eval x = .string m)
    (hown : OwnB w base e v l) (hlen : l.length + m.size ≤ 1099511627776) (hbase : base ≤ w.heap.size)
    (h : ∀ v' w', OwnB w' base e v' (l ++ m.data.toList) → w.grownBy w' v.ownBlock → K (a.put o.dst v') w') : if Region.wanted o (yielded ops a.tmps) = true then Oper.wp P o a w K Q else E := by
  have hw : Region.wanted o (yielded ops a.tmps) = true := by simp [Region.wanted, hgd]
  rw [if_pos hw]
  obtain ⟨v', w', hr, h2, h3⟩ := run_append_s HT hu o.type base l m v hown hlen hbase
  unfold Oper.wp execOp
  simp only [ho, resolve, invoke, builtin, Sem.run_bind, Sem.run_pure, Result.andThen_ok, List.map_toArray, List.map_cons, List.map_nil, hs, hx, hr]
  exact h v' w' h2 h3

theorem grown_set (w : World) (a : Addr) (u : Value) : w.grownBy (w.setCell a u) (some a.block) :=
  ⟨rfl, rfl, rfl, by simp [World.setCell], fun i hi hne => Below.heap_setCell w a u i (fun e => hne (by rw [e]))⟩
theorem own_ne_blk {w : World} {base : Nat} {e T : TypeId} {v : Value} {l : List UInt8} {g : Nat} {cs : Array Value} {fz : Nat × Nat} (h : OwnB w base e v l) (hb : w.heap[g]? = some (.cells cs T fz)) (hne : e ≠ T) : some g ≠ v.ownBlock := by
  intro e
  rcases h.2 with ⟨rfl, _⟩ | ⟨k, cap, cur, rfl, _, hh, _⟩
  · simp [Value.ownBlock] at e
  · have : g = k := by simpa [Value.ownBlock] using e
    subst this
    rw [hb] at hh
    injection hh with hh
    injection hh with _ ht
    exact hne ht.symm
/-- A coder in block g, that has written l; what lay ahead lies in w0. -/
structure WS (w0 : World) (g : Nat) (v : Value) (l : List UInt8) (w : World) : Prop where
  below : Below w0.heap.size w0 w
  ge : w0.heap.size ≤ g
  blk : w.heap[g]? = some (.cells #[v, .bool false, .bool false] 129 (0, 0))
  own : OwnB w w0.heap.size 5 v l
theorem WS.lt {w0 : World} {g : Nat} {v : Value} {l : List UInt8} {w : World} (h : WS w0 g v l w) : g < w.heap.size := (Array.getElem?_eq_some_iff.1 h.blk).1
theorem WS.base {w0 : World} {g : Nat} {v : Value} {l : List UInt8} {w : World} (h : WS w0 g v l w) : w0.heap.size ≤ w.heap.size := h.below.size
theorem WS.cells {w0 : World} {g : Nat} {v : Value} {l : List UInt8} {w : World} (h : WS w0 g v l w) : w.cell? ⟨g, 0, none⟩ = some v ∧ w.cell? ⟨g, 1, none⟩ = some (.bool false) ∧ w.cell? ⟨g, 2, none⟩ = some (.bool false) ∧ w.frozen? ⟨g, 0, none⟩ = false := by
  have hb := h.blk
  refine ⟨?_, ?_, ?_, ?_⟩ <;> simp [World.cell?, World.frozen?, hb]
theorem WS.ne {w0 : World} {g : Nat} {v : Value} {l : List UInt8} {w : World} (h : WS w0 g v l w) : some g ≠ v.ownBlock := own_ne_blk h.own h.blk (by decide)
theorem WS.alloc {w0 : World} {g : Nat} {v : Value} {l : List UInt8} {w : World} (h : WS w0 g v l w) (o : Obj) : WS w0 g v l (w.alloc o) :=
  ⟨h.below.alloc h.base _, h.ge, (Below.heap_alloc w o g h.lt).trans h.blk, h.own.alloc o⟩
theorem WS.drew {w0 : World} {g : Nat} {v : Value} {l : List UInt8} {w : World} (h : WS w0 g v l w) : WS w0 g v l w.drew := ⟨⟨h.below.os, h.below.tape, h.below.output, h.below.size, h.below.block⟩, h.ge, h.blk, h.own⟩
/-- The bytes have grown to v; they have not been stored yet: the coder still holds u. -/
structure WG (w0 : World) (g : Nat) (u v : Value) (l : List UInt8) (w : World) : Prop where
  below : Below w0.heap.size w0 w
  ge : w0.heap.size ≤ g
  blk : w.heap[g]? = some (.cells #[u, .bool false, .bool false] 129 (0, 0))
  own : OwnB w w0.heap.size 5 v l
theorem WS.grow {w0 : World} {g : Nat} {v v' : Value} {l l' : List UInt8} {w w' : World} (h : WS w0 g v l w) (hg : w.grownBy w' v.ownBlock) (ho : OwnB w' w0.heap.size 5 v' l') : WG w0 g v v' l' w' :=
  ⟨h.below.grown hg h.base (fun k hk => (h.own.lt hk).1), h.ge, (hg.block g h.lt h.ne).trans h.blk, ho⟩
theorem WG.cells {w0 : World} {g : Nat} {u v : Value} {l : List UInt8} {w : World} (h : WG w0 g u v l w) : w.frozen? ⟨g, 0, none⟩ = false ∧ w.cell? ⟨g, 0, none⟩ = some u := by
  have hb := h.blk
  refine ⟨?_, ?_⟩ <;> simp [World.cell?, World.frozen?, hb]
theorem WG.drew {w0 : World} {g : Nat} {u v : Value} {l : List UInt8} {w : World} (h : WG w0 g u v l w) : WG w0 g u v l w.drew := ⟨⟨h.below.os, h.below.tape, h.below.output, h.below.size, h.below.block⟩, h.ge, h.blk, h.own⟩
theorem WG.store {w0 : World} {g : Nat} {u v : Value} {l : List UInt8} {w : World} (h : WG w0 g u v l w) : WS w0 g v l (w.setCell ⟨g, 0, none⟩ v) := by
  have hb := h.blk
  have hne : some g ≠ v.ownBlock := own_ne_blk h.own hb (by decide)
  refine ⟨h.below.setCell (p := ⟨g, 0, none⟩) h.ge _, h.ge, ?_, h.own.kept (grown_set w ⟨g, 0, none⟩ v) (.inr (fun e => hne e.symm))⟩
  simp [World.setCell, Array.getElem?_modify, hb]
theorem own_form {w : World} {base : Nat} {e : TypeId} {v : Value} {l : List UInt8} (h : OwnB w base e v l) : ∃ a m c, v = .slice a m c := by
  rcases h.reads with ⟨rfl, rfl⟩ | ⟨b, o, cap, rfl, _, _⟩ <;> exact ⟨_, _, _, rfl⟩
/-- What a writer answers: e0, with l written. -/
def WPost (w0 : World) (g : Nat) (l : List UInt8) (e0 : Ending) (e : Ending) (w' : World) : Prop := e = e0 ∧ ∃ v, WS w0 g v l w'
theorem WPost.mk {w0 : World} {g : Nat} {l l' : List UInt8} {e0 e : Ending} {v : Value} {w' : World} (he : e = e0) (hl : l' = l) (h : WS w0 g v l' w') : WPost w0 g l e0 e w' := ⟨he, v, hl ▸ h⟩
/-- Four bytes of a number. -/
def four (n : Nat) : List UInt8 := [UInt8.ofNat (n / 16777216), UInt8.ofNat (n / 65536), UInt8.ofNat (n / 256), UInt8.ofNat n]
theorem cell_ofNat (n : Nat) : cellOf (UInt8.ofNat n) = .int .u8 ((n : Int) % 256) := by
  unfold cellOf
  simp
theorem four_cells (n : Nat) : (four n).map cellOf = [.int .u8 ((n : Int) / 16777216 % 256), .int .u8 ((n : Int) / 65536 % 256), .int .u8 ((n : Int) / 256 % 256), .int .u8 ((n : Int) % 256)] := by
  simp only [four, List.map_cons, List.map_nil, cell_ofNat]
  simp
/-- A byte of a whole number. -/
def byteI (z : Int) : UInt8 := UInt8.ofNat (z % 256).toNat
theorem cell_byteI (z : Int) : cellOf (byteI z) = .int .u8 (z % 256) := by
  unfold cellOf byteI
  simp
  omega
theorem one_cells (z : Int) (h : z % 256 = z) : [byteI z].map cellOf = [.int .u8 z] := by rw [List.map_cons, cell_byteI, h]; rfl
theorem one_wrap (z : Int) : [byteI z].map cellOf = [.int .u8 (IntKind.u8.wrap z)] := by
  rw [List.map_cons, cell_byteI, List.map_nil]
  congr 2
/-- Eight bytes of a number. -/
def eight (n : Int) : List UInt8 := [byteI (n / 72057594037927936), byteI (n / 281474976710656), byteI (n / 1099511627776), byteI (n / 4294967296), byteI (n / 16777216), byteI (n / 65536), byteI (n / 256), byteI n]
theorem eight_step (n : Int) (k : Nat) (hk : k < 8) : (eight n).take (k + 1) = (eight n).take k ++ [byteI (n / 2 ^ (56 - 8 * (k : Int)).toNat)] := by
  have h : k = 0 ∨ k = 1 ∨ k = 2 ∨ k = 3 ∨ k = 4 ∨ k = 5 ∨ k = 6 ∨ k = 7 := by omega
  rcases h with rfl | rfl | rfl | rfl | rfl | rfl | rfl | rfl <;> simp [eight]
def textB (s : ByteArray) : List UInt8 := four s.size ++ s.data.toList
def textsB (l : List ByteArray) : List UInt8 := four l.length ++ l.flatMap textB
def truthB (t : Bool) : List UInt8 := [byteI (if t then 1 else 0)]
end Go.Proofs.YtcgjacffemjehaaDoor

namespace Go.Proofs.YtcgjacffemjehaaDoor
open Go.RowKit
open Go.Proofs.YtcgjacffemjehaaDoorW.PrintWords (Kd rdOf)
open Go.Proofs.YtcgjacffemjehaaDoor.PRowReads
set_option linter.unusedVariables false
def permB (x : S86) : List UInt8 := textB x.f0 ++ textsB x.f1
def permsB (l : List S86) : List UInt8 := four l.length ++ l.flatMap permB
def keyB (x : S117) : List UInt8 := textB x.f0 ++ textB x.f1
def keysB (l : List S117) : List UInt8 := four l.length ++ l.flatMap keyB
def Sz (s : ByteArray) : Prop := s.size ≤ 1048576
def SzL (l : List ByteArray) : Prop := l.length ≤ 1048576 ∧ ∀ s ∈ l, s.size ≤ 1048576
def OkPerm (x : S86) : Prop := Sz x.f0 ∧ SzL x.f1
def OkKey (x : S117) : Prop := Sz x.f0 ∧ Sz x.f1
def SzP (l : List S86) : Prop := l.length ≤ 1048576 ∧ ∀ x ∈ l, OkPerm x
def SzK (l : List S117) : Prop := l.length ≤ 1048576 ∧ ∀ x ∈ l, OkKey x
def I64 (n : Int) : Prop := -9223372036854775808 ≤ n ∧ n ≤ 9223372036854775807
def consentB (x : S25) : List UInt8 := textB x.f0 ++ textB x.f1 ++ textsB x.f2
def OkConsent (x : S25) : Prop := Sz x.f0 ∧ Sz x.f1 ∧ SzL x.f2
def codeB (x : S27) : List UInt8 := textB x.f0 ++ textB x.f1 ++ textB x.f2 ++ textB x.f3 ++ textsB x.f4 ++ textB x.f5 ++ truthB x.f6 ++ truthB x.f7 ++ eight x.f8
def OkCode (x : S27) : Prop := Sz x.f0 ∧ Sz x.f1 ∧ Sz x.f2 ∧ Sz x.f3 ∧ SzL x.f4 ∧ Sz x.f5 ∧ I64 x.f8
def familyB (x : S29) : List UInt8 := textB x.f0 ++ textB x.f1 ++ textB x.f2 ++ textsB x.f3 ++ eight x.f4 ++ eight x.f5 ++ truthB x.f6
def OkFamily (x : S29) : Prop := Sz x.f0 ∧ Sz x.f1 ∧ Sz x.f2 ∧ SzL x.f3 ∧ I64 x.f4 ∧ I64 x.f5
def refreshB (x : S31) : List UInt8 := textB x.f0 ++ textB x.f1 ++ eight x.f2
def OkRefresh (x : S31) : Prop := Sz x.f0 ∧ Sz x.f1 ∧ I64 x.f2
def accessB (x : S34) : List UInt8 := textB x.f0 ++ textB x.f1 ++ textB x.f2 ++ textB x.f3 ++ textB x.f4 ++ textsB x.f5 ++ permsB x.f6 ++ eight x.f7 ++ eight x.f8 ++ truthB x.f9
def OkAccess (x : S34) : Prop := Sz x.f0 ∧ Sz x.f1 ∧ Sz x.f2 ∧ Sz x.f3 ∧ Sz x.f4 ∧ SzL x.f5 ∧ SzP x.f6 ∧ I64 x.f7 ∧ I64 x.f8
def resourceB (x : S36) : List UInt8 := textB x.f0 ++ textB x.f1 ++ textB x.f2 ++ textB x.f3 ++ textsB x.f4 ++ textB x.f5
def OkResource (x : S36) : Prop := Sz x.f0 ∧ Sz x.f1 ∧ Sz x.f2 ∧ Sz x.f3 ∧ SzL x.f4 ∧ Sz x.f5
def ticketB (x : S38) : List UInt8 := textB x.f0 ++ textB x.f1 ++ permsB x.f2 ++ textB x.f3 ++ eight x.f4 ++ truthB x.f5
def OkTicket (x : S38) : Prop := Sz x.f0 ∧ Sz x.f1 ∧ SzP x.f2 ∧ Sz x.f3 ∧ I64 x.f4
end Go.Proofs.YtcgjacffemjehaaDoor

namespace Go.Proofs.YtcgjacffemjehaaDoor
open Go.RowKit
set_option linter.unusedVariables false

structure Mod (S : Nat → Prop) (w w' : World) : Prop where
  os : w'.os = w.os
  tape : w'.tape = w.tape
  output : w'.output = w.output
  size : w.heap.size ≤ w'.heap.size
  block : ∀ k, k < w.heap.size → ¬ S k → w'.heap[k]? = w.heap[k]?

theorem Mod.refl (S : Nat → Prop) (w : World) : Mod S w w := ⟨rfl, rfl, rfl, Nat.le_refl _, fun _ _ _ => rfl⟩
theorem Mod.trans {S S' : Nat → Prop} {a b c : World} (h : Mod S a b) (k : Mod S' b c) (hS : ∀ x, S' x → S x ∨ a.heap.size ≤ x) : Mod S a c :=
  ⟨k.os.trans h.os, k.tape.trans h.tape, k.output.trans h.output, Nat.le_trans h.size k.size, fun i hi hn =>
    (k.block i (Nat.lt_of_lt_of_le hi h.size) (fun e => by rcases hS i e with e | e; exact hn e; omega)).trans (h.block i hi hn)⟩
theorem Mod.mono {S S' : Nat → Prop} {a b : World} (h : Mod S a b) (hS : ∀ x, x < a.heap.size → S x → S' x) : Mod S' a b := ⟨h.os, h.tape, h.output, h.size, fun k hk hn => h.block k hk (fun e => hn (hS k hk e))⟩
theorem Mod.drew {S : Nat → Prop} {a b : World} (h : Mod S a b) : Mod S a b.drew := ⟨h.os, h.tape, h.output, h.size, h.block⟩
theorem Mod.alloc {S : Nat → Prop} {a b : World} (h : Mod S a b) (o : Obj) : Mod S a (b.alloc o) :=
  ⟨h.os, h.tape, h.output, by have := h.size; simp; omega, fun k hk hn => by rw [Below.heap_alloc _ _ _ (by have := h.size; omega)]; exact h.block k hk hn⟩
theorem Mod.setCell {S : Nat → Prop} {a b : World} (h : Mod S a b) (p : Addr) (v : Value) (hp : S p.block ∨ a.heap.size ≤ p.block) : Mod S a (b.setCell p v) :=
  ⟨h.os, h.tape, h.output, by have := h.size; simp [World.setCell]; exact this, fun k hk hn => by
    rw [Below.heap_setCell _ _ _ _ (fun e => by subst e; rcases hp with hp | hp; exact hn hp; omega)]; exact h.block k hk hn⟩
theorem Mod.below {S : Nat → Prop} {w w' : World} (h : Mod S w w') {B : Nat} (hB : B ≤ w.heap.size) (hS : ∀ x, S x → B ≤ x) : Below B w w' :=
  ⟨h.os, h.tape, h.output, h.size, fun k hk => h.block k (by omega) (fun e => by have := hS k e; omega)⟩
theorem Mod.of_below {B : Nat} {w w' : World} (h : Below B w w') {S : Nat → Prop} (hS : ∀ x, x < w.heap.size → B ≤ x → S x) : Mod S w w' :=
  ⟨h.os, h.tape, h.output, h.size, fun k hk hn => h.block k (by rcases Nat.lt_or_ge k B with e | e; exact e; exact absurd (hS k hk e) hn)⟩
theorem Mod.new {w w' : World} (h : Below w.heap.size w w') (S : Nat → Prop) : Mod S w w' := Mod.of_below h (fun x h1 h2 => by omega)
theorem Mod.grown {S : Nat → Prop} {a b c : World} {row : Option Nat} (h : Mod S a b) (hg : b.grownBy c row) (hr : ∀ k, row = some k → S k ∨ a.heap.size ≤ k) : Mod S a c :=
  ⟨hg.os.trans h.os, hg.tape.trans h.tape, hg.output.trans h.output, Nat.le_trans h.size hg.size, fun k hk hn =>
    (hg.block k (Nat.lt_of_lt_of_le hk h.size) (fun e => by rcases hr k e.symm with e | e; exact hn e; omega)).trans (h.block k hk hn)⟩
theorem Mod.cell {S : Nat → Prop} {w w' : World} (h : Mod S w w') {p : Addr} {v : Value} (hc : w.cell? p = some v) (hn : ¬ S p.block) : w'.cell? p = some v :=
  (World.cell?_of_block (w := w) (h.block p.block (lt_of_cell hc) hn)).trans hc
theorem lt_of_heap {w : World} {k : Nat} {o : Obj} (h : w.heap[k]? = some o) : k < w.heap.size := (Array.getElem?_eq_some_iff.1 h).1
theorem Mod.heap {S : Nat → Prop} {w w' : World} (h : Mod S w w') {k : Nat} {o : Obj} (hc : w.heap[k]? = some o) (hn : ¬ S k) : w'.heap[k]? = some o :=
  (h.block k (lt_of_heap hc) hn).trans hc

/-- A thing that lay in F lies in F'; nothing else that was there was written. -/
structure Step (F : Nat → Prop) (w w' : World) (F' : Nat → Prop) : Prop where
  mod : Mod F w w'
  foot : ∀ k, F' k → F k ∨ w.heap.size ≤ k
theorem Step.refl (F : Nat → Prop) (w : World) : Step F w w F := ⟨Mod.refl _ _, fun _ h => .inl h⟩
theorem Step.trans {F G H : Nat → Prop} {a b c : World} (h : Step F a b G) (k : Step G b c H) : Step F a c H :=
  ⟨h.mod.trans k.mod h.foot, fun x hx => by
    rcases k.foot x hx with e | e
    · exact h.foot x e
    · exact .inr (Nat.le_trans h.mod.size e)⟩
theorem Step.below {F F' : Nat → Prop} {w w' : World} (h : Step F w w' F') {B : Nat} (hB : B ≤ w.heap.size) (hF : ∀ x, F x → B ≤ x) : Below B w w' ∧ ∀ x, F' x → B ≤ x :=
  ⟨h.mod.below hB hF, fun x hx => by rcases h.foot x hx with e | e; exact hF x e; omega⟩
end Go.Proofs.YtcgjacffemjehaaDoor

namespace Go.Proofs.YtcgjacffemjehaaDoor
open Go.RowKit
set_option linter.unusedVariables false
theorem reads_drop {w : World} {b o n cap : Nat} {l : List UInt8} (h : ReadsB w (.slice (some ⟨b, o, none⟩) n cap) l) (k : Nat) (hk : k ≤ n) : ReadsB w (.slice (some ⟨b, o + k, none⟩) (n - k) (cap - k)) (l.drop k) := by
  rcases h with ⟨h, _⟩ | ⟨b', o', cap', hv, hc, hcell⟩
  · cases h
  · cases hv
    refine .inr ⟨b, o + k, cap - k, by rw [List.length_drop], by rw [List.length_drop]; omega, fun i hi => ?_⟩
    rw [List.length_drop] at hi
    have := hcell (k + i) (by omega)
    rw [Nat.add_assoc, this]
    simp [List.getD]
theorem reads_take {w : World} {b o n cap : Nat} {l : List UInt8} (h : ReadsB w (.slice (some ⟨b, o, none⟩) n cap) l) (k : Nat) (hk : k ≤ n) : ReadsB w (.slice (some ⟨b, o, none⟩) k cap) (l.take k) := by
  rcases h with ⟨h, _⟩ | ⟨b', o', cap', hv, hc, hcell⟩
  · cases h
  · cases hv
    have hl : (l.take k).length = k := by rw [List.length_take]; omega
    refine .inr ⟨b, o, cap, by rw [hl], by omega, fun i hi => ?_⟩
    rw [hl] at hi
    rw [hcell i (by omega)]
    simp [List.getD, hi]
theorem reads_cut {w : World} {b o n cap : Nat} {l : List UInt8} (h : ReadsB w (.slice (some ⟨b, o, none⟩) n cap) l) (k : Nat) (hk : k ≤ n) : ReadsB w (.slice (if cap = k then some ⟨b, o, none⟩ else some ⟨b, o + k, none⟩) (n - k) (cap - k)) (l.drop k) := by
  have hn : n = l.length := by
    rcases h with ⟨h, _⟩ | ⟨b', o', cap', hv, hc, hcell⟩
    · cases h
    · cases hv; rfl
  subst hn
  by_cases e : cap = k
  · rw [if_pos e]
    have hl : l.drop k = [] := by
      rcases h with ⟨h, _⟩ | ⟨b', o', cap', hv, hc, hcell⟩
      · cases h
      · cases hv; apply List.drop_of_length_le; omega
    rw [hl]
    exact .inr ⟨b, o, cap - k, by
      have := congrArg List.length hl
      rw [List.length_drop] at this
      simp at this ⊢; omega, by simp, by simp⟩
  · rw [if_neg e]; exact reads_drop h k hk
/-- A coder in block g that reads; l is left; what is read lies in w0. -/
structure RS (w0 : World) (g : Nat) (l : List UInt8) (bad : Bool) (w : World) : Prop where
  below : Below w0.heap.size w0 w
  ge : w0.heap.size ≤ g
  small : l.length ≤ 1099511627776
  blk : ∃ v, w.heap[g]? = some (.cells #[v, .bool true, .bool bad] 129 (0, 0)) ∧ ReadsB w0 v l
theorem RS.lt {w0 : World} {g : Nat} {l : List UInt8} {b : Bool} {w : World} (h : RS w0 g l b w) : g < w.heap.size := by obtain ⟨v, hb, _⟩ := h.blk; exact lt_of_heap hb
theorem RS.base {w0 : World} {g : Nat} {l : List UInt8} {b : Bool} {w : World} (h : RS w0 g l b w) : w0.heap.size ≤ w.heap.size := h.below.size
theorem RS.cells {w0 : World} {g : Nat} {l : List UInt8} {b : Bool} {w : World} (h : RS w0 g l b w) : ∃ v, ReadsB w0 v l ∧ w.cell? ⟨g, 0, none⟩ = some v ∧ w.cell? ⟨g, 1, none⟩ = some (.bool true) ∧ w.cell? ⟨g, 2, none⟩ = some (.bool b) ∧ w.frozen? ⟨g, 0, none⟩ = false ∧ w.frozen? ⟨g, 2, none⟩ = false := by
  obtain ⟨v, hb, hr⟩ := h.blk
  refine ⟨v, hr, ?_, ?_, ?_, ?_, ?_⟩ <;> simp [World.cell?, World.frozen?, hb]
/-- Nothing but this block has been written. -/
theorem RS.mod {w0 : World} {g : Nat} {l : List UInt8} {b : Bool} {w w' : World} (h : RS w0 g l b w) {S : Nat → Prop} (hm : Mod S w w') (hS : ∀ k, S k → w0.heap.size ≤ k ∧ k ≠ g) : RS w0 g l b w' := by
  obtain ⟨v, hb, hr⟩ := h.blk
  exact ⟨h.below.trans (hm.below h.base (fun x hx => (hS x hx).1)), h.ge, h.small, v, hm.heap hb (fun e => (hS g e).2 rfl), hr⟩
theorem RS.setB {w0 : World} {g : Nat} {l l' : List UInt8} {b : Bool} {w : World} (h : RS w0 g l b w) {v : Value} (hr : ReadsB w0 v l') (hl : l'.length ≤ 1099511627776) : RS w0 g l' b (w.setCell ⟨g, 0, none⟩ v) := by
  obtain ⟨u, hb, _⟩ := h.blk
  refine ⟨h.below.setCell (p := ⟨g, 0, none⟩) h.ge _, h.ge, hl, v, ?_, hr⟩
  simp [World.setCell, Array.getElem?_modify, hb]
theorem RS.setBad {w0 : World} {g : Nat} {l : List UInt8} {b : Bool} {w : World} (h : RS w0 g l b w) (c : Bool) : RS w0 g l c (w.setCell ⟨g, 2, none⟩ (.bool c)) := by
  obtain ⟨u, hb, hr⟩ := h.blk
  refine ⟨h.below.setCell (p := ⟨g, 2, none⟩) h.ge _, h.ge, h.small, u, ?_, hr⟩
  simp [World.setCell, Array.getElem?_modify, hb]
theorem mod_set (w : World) (g i : Nat) (v : Value) : Mod (fun k => k = g) w (w.setCell ⟨g, i, none⟩ v) := (Mod.refl _ w).setCell _ _ (.inl rfl)
/-- What take answers where all is well. -/
def TakePost (w0 : World) (g : Nat) (r l : List UInt8) (b : Bool) (w : World) (e : Ending) (w' : World) : Prop :=
  ∃ v, e = .returned v ∧ ReadsB w' v r ∧ (∀ B o m c, v = .slice (some ⟨B, o, none⟩) m c → 0 < r.length → B < w0.heap.size ∨ w.heap.size ≤ B) ∧ RS w0 g l b w' ∧ Mod (fun k => k = g) w w'
theorem reads_lt {w : World} {B o m c : Nat} {r : List UInt8} (h : ReadsB w (.slice (some ⟨B, o, none⟩) m c) r) (hr : 0 < r.length) : B < w.heap.size := by
  rcases h with ⟨h, _⟩ | ⟨b', o', cap', hv, hc, hcell⟩
  · cases h
  · cases hv
    exact lt_of_cell (a := ⟨B, o + 0, none⟩) (hcell 0 hr)
set_option maxHeartbeats 2000000 in
theorem take_ok {w0 w : World} {g : Nat} {l : List UInt8} (h : RS w0 g l false w) (n : Nat) (hn : n ≤ l.length) :
    Calls Tryd.prog 80 #[.pointer (some ⟨g, 0, none⟩), .int .i64 n] w (TakePost w0 g (l.take n) (l.drop n) false w) := by
  obtain ⟨v, hr, c0, c1, c2, f0, f2⟩ := h.cells
  have hsm := h.small
  have H := hid h
  clear h
  have hr0 := hr
  rcases hr with ⟨rfl, rfl⟩ | ⟨b, o, cap, rfl, hcap, _⟩
  · obtain rfl : n = 0 := by simpa using hn
    go_enter Tryd.func80, Tryd.ntmps80
    go_wp2
    go_ret
    exact ⟨_, rfl, .inl ⟨rfl, rfl⟩, (fun B o m c e => by cases e), H.out.setB hr0 (by simp), mod_set _ _ _ _⟩
  · have t0 : decide ((l.length : Int) < (n : Int)) = false := decide_eq_false (by omega)
    have t1 : decide (l.length < n) = false := decide_eq_false (by omega)
    have ht := reads_take hr0 n hn
    have hd := reads_cut hr0 n hn
    have HT := hid ht
    have hds : (l.drop n).length ≤ 1099511627776 := by rw [List.length_drop]; omega
    clear ht hr0
    by_cases hc : cap = n
    · rw [if_pos hc] at hd
      subst hc
      rw [Nat.sub_self, show l.length - cap = 0 by omega] at hd
      have HD := hid hd
      clear hd
      go_enter Tryd.func80, Tryd.ntmps80
      go_wp2
      go_ret
      exact ⟨_, rfl, HT.out.below (H.out.setB HD.out hds).below, (fun B o m c e hr => by cases e; exact .inl (reads_lt HT.out hr)), H.out.setB HD.out hds, mod_set _ _ _ _⟩
    · rw [if_neg hc] at hd
      have HD := hid hd
      clear hd
      go_enter Tryd.func80, Tryd.ntmps80
      go_wp2
      go_ret
      exact ⟨_, rfl, HT.out.below (H.out.setB HD.out hds).below, (fun B o m c e hr => by cases e; exact .inl (reads_lt HT.out hr)), H.out.setB HD.out hds, mod_set _ _ _ _⟩
/-- A new block of nils. -/
theorem zeros_cells (k : Nat) : (List.replicate k (0 : UInt8)).map cellOf = List.replicate k (.int .u8 0) := by rw [List.map_replicate]; rfl
theorem rmin2 (k k' : IntKind) (x y : Int) : Builtin.min2 (.int k x) (.int k' y) = pure (.int k (if y < x then y else x)) := by simp only [Builtin.min2]
theorem rmin_two (ats : Array TypeId) (ty : TypeId) (a b : Value) : Builtin.min_ ats ty #[a, b] = (Builtin.min2 a b >>= fun s => pure s) := by simp only [Builtin.min_, List.foldlM_cons, List.foldlM_nil]
attribute [local go_sem] rmin2 rmin_two
theorem bad_fin {w0 w : World} {g : Nat} {l : List UInt8} {b : Bool} (h : RS w0 g l b w) (C : Array Value) (n : Nat) (hC : C.toList = List.replicate n (.int .u8 0)) (hn : n ≤ 8) :
    TakePost w0 g (List.replicate n 0) l true w (.returned (.slice (some ⟨w.heap.size, 0, none⟩) n n)) ((w.setCell ⟨g, 2, none⟩ (.bool true)).alloc (.cells C 5)) := by
  have h1 := h.setBad true
  have hs : (w.setCell ⟨g, 2, none⟩ (.bool true)).heap.size = w.heap.size := by simp [World.setCell]
  have ho := OwnB.new' (w.setCell ⟨g, 2, none⟩ (.bool true)) 0 5 C (List.replicate n 0) n w.heap.size hs.symm (by simp) (by rw [zeros_cells]; exact hC) (Nat.zero_le _) (by unfold maxLen; omega)
  exact ⟨_, rfl, ho.reads, (fun B o m c e _ => by cases e; exact .inr (Nat.le_refl _)), h1.mod (Mod.alloc (Mod.refl (fun _ => False) _) _) (fun k e => e.elim), (mod_set w g 2 _).alloc _⟩
set_option maxHeartbeats 2000000 in
set_option maxRecDepth 20000 in
theorem take_bad0 {w0 w : World} {g : Nat} {l : List UInt8} {b : Bool} (h : RS w0 g l b w) (hb : b = true ∨ l.length < 0) :
    Calls Tryd.prog 80 #[.pointer (some ⟨g, 0, none⟩), .int .i64 0] w (TakePost w0 g (List.replicate 0 0) l true w) := by
  obtain ⟨v, hr, c0, c1, c2, f0, f2⟩ := h.cells
  have hsm := h.small
  obtain ⟨A, cap, rfl⟩ : ∃ A cap, v = .slice A l.length cap := by
    rcases hr with ⟨rfl, rfl⟩ | ⟨b, o, cap, rfl, hcap, _⟩
    · exact ⟨_, _, rfl⟩
    · exact ⟨_, _, rfl⟩
  have HF := hid (bad_fin h #[] 0 rfl (by omega))
  have hmk : ∀ w, (Instr.makeSlice 49 (.int .i64 0) (.int .i64 0)).run Tryd.prog w = .ok (.slice (some ⟨w.heap.size, 0, none⟩) 0 0) (w.alloc (.cells #[] 5)) := fun _ => by kernel_rfl
  clear h hr
  cases b with
  | true =>
    clear hb
    go_enter Tryd.func80, Tryd.ntmps80
    go_wp2
    go_ret
    exact HF.out
  | false =>
    have h3 : l.length < 0 := by rcases hb with hb | hb; cases hb; exact hb
    exact absurd h3 (by omega)
set_option maxHeartbeats 2000000 in
set_option maxRecDepth 20000 in
theorem take_bad1 {w0 w : World} {g : Nat} {l : List UInt8} {b : Bool} (h : RS w0 g l b w) (hb : b = true ∨ l.length < 1) :
    Calls Tryd.prog 80 #[.pointer (some ⟨g, 0, none⟩), .int .i64 1] w (TakePost w0 g (List.replicate 1 0) l true w) := by
  obtain ⟨v, hr, c0, c1, c2, f0, f2⟩ := h.cells
  have hsm := h.small
  obtain ⟨A, cap, rfl⟩ : ∃ A cap, v = .slice A l.length cap := by
    rcases hr with ⟨rfl, rfl⟩ | ⟨b, o, cap, rfl, hcap, _⟩
    · exact ⟨_, _, rfl⟩
    · exact ⟨_, _, rfl⟩
  have HF := hid (bad_fin h #[.int .u8 0] 1 rfl (by omega))
  have hmk : ∀ w, (Instr.makeSlice 49 (.int .i64 1) (.int .i64 1)).run Tryd.prog w = .ok (.slice (some ⟨w.heap.size, 0, none⟩) 1 1) (w.alloc (.cells #[.int .u8 0] 5)) := fun _ => by kernel_rfl
  clear h hr
  cases b with
  | true =>
    clear hb
    go_enter Tryd.func80, Tryd.ntmps80
    go_wp2
    go_ret
    exact HF.out
  | false =>
    have h3 : l.length < 1 := by rcases hb with hb | hb; cases hb; exact hb
    have t0 : decide ((l.length : Int) < 1) = true := decide_eq_true (by omega)
    have t1 : decide (l.length < 1) = true := decide_eq_true (by omega)
    clear hb
    go_enter Tryd.func80, Tryd.ntmps80
    go_wp2
    go_ret
    exact HF.out
set_option maxHeartbeats 2000000 in
set_option maxRecDepth 20000 in
theorem take_bad4 {w0 w : World} {g : Nat} {l : List UInt8} {b : Bool} (h : RS w0 g l b w) (hb : b = true ∨ l.length < 4) :
    Calls Tryd.prog 80 #[.pointer (some ⟨g, 0, none⟩), .int .i64 4] w (TakePost w0 g (List.replicate 4 0) l true w) := by
  obtain ⟨v, hr, c0, c1, c2, f0, f2⟩ := h.cells
  have hsm := h.small
  obtain ⟨A, cap, rfl⟩ : ∃ A cap, v = .slice A l.length cap := by
    rcases hr with ⟨rfl, rfl⟩ | ⟨b, o, cap, rfl, hcap, _⟩
    · exact ⟨_, _, rfl⟩
    · exact ⟨_, _, rfl⟩
  have HF := hid (bad_fin h #[.int .u8 0, .int .u8 0, .int .u8 0, .int .u8 0] 4 rfl (by omega))
  have hmk : ∀ w, (Instr.makeSlice 49 (.int .i64 4) (.int .i64 4)).run Tryd.prog w = .ok (.slice (some ⟨w.heap.size, 0, none⟩) 4 4) (w.alloc (.cells #[.int .u8 0, .int .u8 0, .int .u8 0, .int .u8 0] 5)) := fun _ => by kernel_rfl
  clear h hr
  cases b with
  | true =>
    clear hb
    go_enter Tryd.func80, Tryd.ntmps80
    go_wp2
    go_ret
    exact HF.out
  | false =>
    have h3 : l.length < 4 := by rcases hb with hb | hb; cases hb; exact hb
    have t0 : decide ((l.length : Int) < 4) = true := decide_eq_true (by omega)
    have t1 : decide (l.length < 4) = true := decide_eq_true (by omega)
    clear hb
    go_enter Tryd.func80, Tryd.ntmps80
    go_wp2
    go_ret
    exact HF.out
set_option maxHeartbeats 2000000 in
set_option maxRecDepth 20000 in
theorem take_bad8 {w0 w : World} {g : Nat} {l : List UInt8} {b : Bool} (h : RS w0 g l b w) (hb : b = true ∨ l.length < 8) :
    Calls Tryd.prog 80 #[.pointer (some ⟨g, 0, none⟩), .int .i64 8] w (TakePost w0 g (List.replicate 8 0) l true w) := by
  obtain ⟨v, hr, c0, c1, c2, f0, f2⟩ := h.cells
  have hsm := h.small
  obtain ⟨A, cap, rfl⟩ : ∃ A cap, v = .slice A l.length cap := by
    rcases hr with ⟨rfl, rfl⟩ | ⟨b, o, cap, rfl, hcap, _⟩
    · exact ⟨_, _, rfl⟩
    · exact ⟨_, _, rfl⟩
  have HF := hid (bad_fin h #[.int .u8 0, .int .u8 0, .int .u8 0, .int .u8 0, .int .u8 0, .int .u8 0, .int .u8 0, .int .u8 0] 8 rfl (by omega))
  have hmk : ∀ w, (Instr.makeSlice 49 (.int .i64 8) (.int .i64 8)).run Tryd.prog w = .ok (.slice (some ⟨w.heap.size, 0, none⟩) 8 8) (w.alloc (.cells #[.int .u8 0, .int .u8 0, .int .u8 0, .int .u8 0, .int .u8 0, .int .u8 0, .int .u8 0, .int .u8 0] 5)) := fun _ => by kernel_rfl
  clear h hr
  cases b with
  | true =>
    clear hb
    go_enter Tryd.func80, Tryd.ntmps80
    go_wp2
    go_ret
    exact HF.out
  | false =>
    have h3 : l.length < 8 := by rcases hb with hb | hb; cases hb; exact hb
    have t0 : decide ((l.length : Int) < 8) = true := decide_eq_true (by omega)
    have t1 : decide (l.length < 8) = true := decide_eq_true (by omega)
    clear hb
    go_enter Tryd.func80, Tryd.ntmps80
    go_wp2
    go_ret
    exact HF.out
end Go.Proofs.YtcgjacffemjehaaDoor

namespace Go.Proofs.YtcgjacffemjehaaDoor
open Go.RowKit
set_option linter.unusedVariables false
theorem reads_some {w : World} {v : Value} {l : List UInt8} (h : ReadsB w v l) (n : Nat) (hn : l.length = n) (h0 : 0 < n) : ∃ b o cap, v = .slice (some ⟨b, o, none⟩) n cap ∧ n ≤ cap ∧ ∀ i, i < n → w.cell? ⟨b, o + i, none⟩ = some (cellOf (l.getD i 0)) := by
  subst hn
  rcases h with ⟨_, rfl⟩ | h
  · simp at h0
  · exact h
/-- The number of bytes, the highest first. -/
def beN (l : List UInt8) : Nat := l.foldl (fun n b => n * 256 + b.toNat) 0
theorem beN_snoc (l : List UInt8) (k : Nat) (hk : k < l.length) : beN (l.take (k + 1)) = beN (l.take k) * 256 + (l.getD k 0).toNat := by
  rw [List.take_succ_eq_append_getElem hk]
  unfold beN
  rw [List.foldl_append]
  simp only [List.foldl_cons, List.foldl_nil, List.getD, List.getElem?_eq_getElem hk, Option.getD_some]
theorem beN_lt (l : List UInt8) : beN l < 256 ^ l.length := by
  unfold beN
  suffices h : ∀ (l : List UInt8) (n : Nat) (k : Nat), n < 256 ^ k → l.foldl (fun n b => n * 256 + b.toNat) n < 256 ^ (k + l.length) by simpa using h l 0 0 (by simp)
  intro l
  induction l with
  | nil => intro n k h; simpa using h
  | cons b l ih =>
    intro n k h
    have hb := b.toNat_lt
    have := ih (n * 256 + b.toNat) (k + 1) (by rw [Nat.pow_succ]; omega)
    rw [List.foldl_cons, List.length_cons]
    rw [show k + (l.length + 1) = k + 1 + l.length by omega]
    exact this
theorem beN_zero (n : Nat) : beN (List.replicate n 0) = 0 := by
  unfold beN
  induction n with
  | zero => rfl
  | succ n ih => rw [List.replicate_succ, List.foldl_cons]; simpa using ih
def sizeR (l : List UInt8) (bad : Bool) : Nat × List UInt8 × Bool :=
  if bad = true ∨ l.length < 4 then (0, l, true) else if (l.drop 4).length < beN (l.take 4) then (0, l.drop 4, true) else (beN (l.take 4), l.drop 4, false)
def RPost (w0 : World) (g : Nat) (e0 : Ending) (l : List UInt8) (b : Bool) (w : World) (e : Ending) (w' : World) : Prop :=
  e = e0 ∧ RS w0 g l b w' ∧ Mod (fun k => k = g) w w'
theorem i64_wraps (n : Int) (h₀ : 0 ≤ n) (h₁ : n < 2 ^ 63) : IntKind.i64.wrap n = n := IntWalk.i64_in _ (by omega)
theorem or_byte (n x : Nat) (hn : n < 36028797018963968) (hx : x < 256) : bits .or .i64 ((n : Int) * 256) (x : Int) = ((n * 256 + x : Nat) : Int) := by
  rw [bits_join .i64 63 (by decide) i64_wraps 8 ((n : Int) * 256) (x : Int) (by omega) (by omega) (by omega) (by omega) (by omega) (by omega)]
  simp
set_option maxHeartbeats 4000000 in
set_option maxRecDepth 20000 in
theorem size_bad {w0 w : World} {g : Nat} {l : List UInt8} {b : Bool} (h : RS w0 g l b w) (n : Int) (hb : b = true ∨ l.length < 4) :
    Calls Tryd.prog 79 #[.pointer (some ⟨g, 0, none⟩), .int .i64 n] w (RPost w0 g (.returned (.int .i64 0)) l true w) := by
  obtain ⟨v, hr, c0, c1, c2, f0, f2⟩ := h.cells
  have hsm := h.small
  have H := hid h
  obtain ⟨r, hrr⟩ : ∃ r, List.replicate 4 (0 : UInt8) = r := ⟨_, rfl⟩
  have hr4 : r.length = 4 := by rw [← hrr]; simp
  have HRR := hid hrr
  have HR4 := hid hr4
  have HT := hid (take_bad4 h hb)
  rw [hrr] at HT
  clear h hr hrr hr4
  go_enter Tryd.func79, Tryd.ntmps79
  go_wp2_with (go_at_call 80; refine HT.out.mono ?_; intro e w1 hq; obtain ⟨v1, rfl, hr1, _, h1, hm1⟩ := hq; obtain ⟨B, o, cap, rfl, hcap, hcell⟩ := reads_some hr1 4 HR4.out (by omega); have H1 := hid h1; have HM := hid hm1; have HC := hid hcell; obtain ⟨v2, hr2, c0, c1, c2, f0, f2⟩ := h1.cells; clear h1 hm1 hr1 hcell)
  go_loop [36, 1] (fun i n => ∃ k : Nat, k ≤ 4 ∧ i = .int .i64 k ∧ n = .int .i64 (beN (r.take k) : Nat)) (fun i _ => 4 - (intOf i).toNat)
  case atStart => exact ⟨0, by omega, rfl, rfl⟩
  case round =>
    obtain ⟨k, hk, rfl, rfl⟩ := hrel
    have hlt := beN_lt (r.take k)
    have hle : (r.take k).length ≤ 4 := by rw [List.length_take]; omega
    have hpw : 256 ^ (r.take k).length ≤ 256 ^ 4 := Nat.pow_le_pow_right (by omega) hle
    by_cases hk4 : k < 4
    · have hs := beN_snoc r k (by have := HR4.out; omega)
      obtain ⟨x, hx⟩ : ∃ x, (r.getD k 0).toNat = x := ⟨_, rfl⟩
      have hx2 : x < 256 := by rw [← hx]; exact (r.getD k 0).toNat_lt
      have hc := HC.out k hk4
      rw [cellOf_def, hx] at hc
      rw [hx] at hs
      obtain ⟨m, hm⟩ : ∃ m, beN (r.take k) = m := ⟨_, rfl⟩
      rw [hm] at hs hlt ⊢
      have hm4 : m < 4294967296 := by omega
      have hor := or_byte m x (by omega) hx2
      have HS := hid hs
      clear hs hx hm hlt hpw hle
      go_wp2
      go_round
      case rel => exact ⟨k + 1, by omega, by go_num, by rw [HS.out]; go_num⟩
      case measure => simp [intOf]; omega
    · obtain rfl : k = 4 := by omega
      have ht4 : r.take 4 = r := List.take_of_length_le (by rw [HR4.out]; omega)
      rw [ht4] at hlt ⊢
      have HLT := hid hlt
      clear hlt hpw hle ht4
      rw [← HRR.out, beN_zero]
      obtain ⟨A2, k2, rfl⟩ : ∃ A2 k2, v2 = .slice A2 l.length k2 := by
        rcases hr2 with ⟨rfl, rfl⟩ | ⟨b, o, cap, rfl, hcap, _⟩ <;> exact ⟨_, _, rfl⟩
      clear hr2
      have t1 : decide ((l.length : Int) < 0) = false := decide_eq_false (by omega)
      go_wp2
      go_ret
      exact ⟨rfl, H1.out, HM.out⟩
set_option maxHeartbeats 4000000 in
set_option maxRecDepth 20000 in
theorem size_much {w0 w : World} {g : Nat} {l : List UInt8} (h : RS w0 g l false w) (n : Int) (h4 : 4 ≤ l.length) (hc : (l.drop 4).length < beN (l.take 4)) :
    Calls Tryd.prog 79 #[.pointer (some ⟨g, 0, none⟩), .int .i64 n] w (RPost w0 g (.returned (.int .i64 0)) (l.drop 4) true w) := by
  obtain ⟨v, hr, c0, c1, c2, f0, f2⟩ := h.cells
  have hsm := h.small
  have H := hid h
  obtain ⟨r, hrr⟩ : ∃ r, l.take 4 = r := ⟨_, rfl⟩
  have hr4 : r.length = 4 := by rw [← hrr]; rw [List.length_take]; omega
  have HRR := hid hrr
  have HR4 := hid hr4
  have HT := hid (take_ok h 4 (by omega))
  rw [hrr] at HT
  clear h hr hrr hr4
  go_enter Tryd.func79, Tryd.ntmps79
  go_wp2_with (go_at_call 80; refine HT.out.mono ?_; intro e w1 hq; obtain ⟨v1, rfl, hr1, _, h1, hm1⟩ := hq; obtain ⟨B, o, cap, rfl, hcap, hcell⟩ := reads_some hr1 4 HR4.out (by omega); have H1 := hid h1; have HM := hid hm1; have HC := hid hcell; obtain ⟨v2, hr2, c0, c1, c2, f0, f2⟩ := h1.cells; clear h1 hm1 hr1 hcell)
  go_loop [36, 1] (fun i n => ∃ k : Nat, k ≤ 4 ∧ i = .int .i64 k ∧ n = .int .i64 (beN (r.take k) : Nat)) (fun i _ => 4 - (intOf i).toNat)
  case atStart => exact ⟨0, by omega, rfl, rfl⟩
  case round =>
    obtain ⟨k, hk, rfl, rfl⟩ := hrel
    have hlt := beN_lt (r.take k)
    have hle : (r.take k).length ≤ 4 := by rw [List.length_take]; omega
    have hpw : 256 ^ (r.take k).length ≤ 256 ^ 4 := Nat.pow_le_pow_right (by omega) hle
    by_cases hk4 : k < 4
    · have hs := beN_snoc r k (by have := HR4.out; omega)
      obtain ⟨x, hx⟩ : ∃ x, (r.getD k 0).toNat = x := ⟨_, rfl⟩
      have hx2 : x < 256 := by rw [← hx]; exact (r.getD k 0).toNat_lt
      have hc := HC.out k hk4
      rw [cellOf_def, hx] at hc
      rw [hx] at hs
      obtain ⟨m, hm⟩ : ∃ m, beN (r.take k) = m := ⟨_, rfl⟩
      rw [hm] at hs hlt ⊢
      have hm4 : m < 4294967296 := by omega
      have hor := or_byte m x (by omega) hx2
      have HS := hid hs
      clear hs hx hm hlt hpw hle
      go_wp2
      go_round
      case rel => exact ⟨k + 1, by omega, by go_num, by rw [HS.out]; go_num⟩
      case measure => simp [intOf]; omega
    · obtain rfl : k = 4 := by omega
      have ht4 : r.take 4 = r := List.take_of_length_le (by rw [HR4.out]; omega)
      rw [ht4] at hlt ⊢
      have HLT := hid hlt
      clear hlt hpw hle ht4
      obtain ⟨A2, k2, rfl⟩ : ∃ A2 k2, v2 = .slice A2 (l.drop 4).length k2 := by
        rcases hr2 with ⟨rfl, h0⟩ | ⟨b, o, cap, rfl, hcap, _⟩
        · rw [h0]; exact ⟨_, _, rfl⟩
        · exact ⟨_, _, rfl⟩
      clear hr2
      obtain ⟨m, hm⟩ : ∃ m, beN r = m := ⟨_, rfl⟩
      obtain ⟨q, hq⟩ : ∃ q, (l.drop 4).length = q := ⟨_, rfl⟩
      rw [HRR.out, hm, hq] at hc
      rw [hm]
      rw [hq] at c0
      have HMM := hid hm
      clear hm hq
      have t1 : decide ((q : Int) < (m : Int)) = true := decide_eq_true (by omega)
      have t2 : decide (q < m) = true := decide_eq_true (by omega)
      go_wp2
      go_ret
      exact ⟨rfl, H1.out.setBad true, HM.out.trans (mod_set _ _ _ _) (fun _ e => .inl e)⟩
set_option maxHeartbeats 4000000 in
set_option maxRecDepth 20000 in
theorem size_ok {w0 w : World} {g : Nat} {l : List UInt8} (h : RS w0 g l false w) (n : Int) (h4 : 4 ≤ l.length) (hc : ¬ (l.drop 4).length < beN (l.take 4)) :
    Calls Tryd.prog 79 #[.pointer (some ⟨g, 0, none⟩), .int .i64 n] w (RPost w0 g (.returned (.int .i64 (beN (l.take 4) : Nat))) (l.drop 4) false w) := by
  obtain ⟨v, hr, c0, c1, c2, f0, f2⟩ := h.cells
  have hsm := h.small
  have H := hid h
  obtain ⟨r, hrr⟩ : ∃ r, l.take 4 = r := ⟨_, rfl⟩
  have hr4 : r.length = 4 := by rw [← hrr]; rw [List.length_take]; omega
  have HRR := hid hrr
  have HR4 := hid hr4
  have HT := hid (take_ok h 4 (by omega))
  rw [hrr] at HT
  clear h hr hrr hr4
  go_enter Tryd.func79, Tryd.ntmps79
  go_wp2_with (go_at_call 80; refine HT.out.mono ?_; intro e w1 hq; obtain ⟨v1, rfl, hr1, _, h1, hm1⟩ := hq; obtain ⟨B, o, cap, rfl, hcap, hcell⟩ := reads_some hr1 4 HR4.out (by omega); have H1 := hid h1; have HM := hid hm1; have HC := hid hcell; obtain ⟨v2, hr2, c0, c1, c2, f0, f2⟩ := h1.cells; clear h1 hm1 hr1 hcell)
  go_loop [36, 1] (fun i n => ∃ k : Nat, k ≤ 4 ∧ i = .int .i64 k ∧ n = .int .i64 (beN (r.take k) : Nat)) (fun i _ => 4 - (intOf i).toNat)
  case atStart => exact ⟨0, by omega, rfl, rfl⟩
  case round =>
    obtain ⟨k, hk, rfl, rfl⟩ := hrel
    have hlt := beN_lt (r.take k)
    have hle : (r.take k).length ≤ 4 := by rw [List.length_take]; omega
    have hpw : 256 ^ (r.take k).length ≤ 256 ^ 4 := Nat.pow_le_pow_right (by omega) hle
    by_cases hk4 : k < 4
    · have hs := beN_snoc r k (by have := HR4.out; omega)
      obtain ⟨x, hx⟩ : ∃ x, (r.getD k 0).toNat = x := ⟨_, rfl⟩
      have hx2 : x < 256 := by rw [← hx]; exact (r.getD k 0).toNat_lt
      have hc := HC.out k hk4
      rw [cellOf_def, hx] at hc
      rw [hx] at hs
      obtain ⟨m, hm⟩ : ∃ m, beN (r.take k) = m := ⟨_, rfl⟩
      rw [hm] at hs hlt ⊢
      have hm4 : m < 4294967296 := by omega
      have hor := or_byte m x (by omega) hx2
      have HS := hid hs
      clear hs hx hm hlt hpw hle
      go_wp2
      go_round
      case rel => exact ⟨k + 1, by omega, by go_num, by rw [HS.out]; go_num⟩
      case measure => simp [intOf]; omega
    · obtain rfl : k = 4 := by omega
      have ht4 : r.take 4 = r := List.take_of_length_le (by rw [HR4.out]; omega)
      rw [ht4] at hlt ⊢
      have HLT := hid hlt
      clear hlt hpw hle ht4
      obtain ⟨A2, k2, rfl⟩ : ∃ A2 k2, v2 = .slice A2 (l.drop 4).length k2 := by
        rcases hr2 with ⟨rfl, h0⟩ | ⟨b, o, cap, rfl, hcap, _⟩
        · rw [h0]; exact ⟨_, _, rfl⟩
        · exact ⟨_, _, rfl⟩
      clear hr2
      obtain ⟨m, hm⟩ : ∃ m, beN r = m := ⟨_, rfl⟩
      obtain ⟨q, hq⟩ : ∃ q, (l.drop 4).length = q := ⟨_, rfl⟩
      rw [HRR.out, hm, hq] at hc
      rw [hm]
      rw [hq] at c0
      have HMM := hid hm
      clear hm hq
      have t1 : decide ((q : Int) < (m : Int)) = false := decide_eq_false (by omega)
      have t2 : decide (q < m) = false := decide_eq_false (by omega)
      go_wp2
      go_ret
      exact ⟨by rw [HRR.out, HMM.out]; rfl, H1.out, HM.out⟩
theorem size_r {w0 w : World} {g : Nat} {l : List UInt8} {b : Bool} (h : RS w0 g l b w) (n : Int) :
    Calls Tryd.prog 79 #[.pointer (some ⟨g, 0, none⟩), .int .i64 n] w (RPost w0 g (.returned (.int .i64 ((sizeR l b).1 : Nat))) (sizeR l b).2.1 (sizeR l b).2.2 w) := by
  unfold sizeR
  by_cases c : b = true ∨ l.length < 4
  · rw [if_pos c]
    exact size_bad h n c
  · rw [if_neg c]
    have hb : b = false := by cases b <;> simp_all
    subst hb
    by_cases d : (l.drop 4).length < beN (l.take 4)
    · rw [if_pos d]; exact size_much h n (by omega) d
    · rw [if_neg d]; exact size_ok h n (by omega) d
theorem sizeR_bad {l : List UInt8} {b : Bool} {n : Nat} {l1 : List UInt8} (h : sizeR l b = (n, l1, true)) : n = 0 := by
  unfold sizeR at h
  split at h
  · exact (Prod.mk.inj h).1.symm
  · split at h
    · exact (Prod.mk.inj h).1.symm
    · have := (Prod.mk.inj (Prod.mk.inj h).2).2; simp at this
theorem sizeR_ok {l : List UInt8} {b : Bool} {n : Nat} {l1 : List UInt8} (h : sizeR l b = (n, l1, false)) : n ≤ l1.length := by
  unfold sizeR at h
  split at h
  · have := (Prod.mk.inj (Prod.mk.inj h).2).2; simp at this
  · split at h
    · have := (Prod.mk.inj (Prod.mk.inj h).2).2; simp at this
    · have h1 := (Prod.mk.inj h).1
      have h2 := (Prod.mk.inj (Prod.mk.inj h).2).1
      subst h1 h2
      omega
theorem sizeR_le (l : List UInt8) (b : Bool) : (sizeR l b).2.1.length ≤ l.length := by
  unfold sizeR
  split
  · exact Nat.le_refl _
  · split <;> (simp only [List.length_drop]; omega)
def textR (l : List UInt8) (b : Bool) : ByteArray × List UInt8 × Bool :=
  if (sizeR l b).2.2 = true then (⟨#[]⟩, (sizeR l b).2.1, true) else (⟨((sizeR l b).2.1.take (sizeR l b).1).toArray⟩, (sizeR l b).2.1.drop (sizeR l b).1, false)
/-- A block that is known whole. -/
def AtB (w : World) (bb : Nat) (T : TypeId) (cs : Array Value) : Prop := w.heap[bb]? = some (.cells cs T (0, 0))
theorem AtB.mod {w w' : World} {bb : Nat} {T : TypeId} {cs : Array Value} (h : AtB w bb T cs) {S : Nat → Prop} (hm : Mod S w w') (hS : ¬ S bb) : AtB w' bb T cs := hm.heap h hS
theorem AtB.cell {w : World} {bb : Nat} {T : TypeId} {cs : Array Value} (h : AtB w bb T cs) (o : Nat) : w.cell? ⟨bb, o, none⟩ = cs[o]? := by unfold AtB at h; simp [World.cell?, h]
theorem AtB.free {w : World} {bb : Nat} {T : TypeId} {cs : Array Value} (h : AtB w bb T cs) (o : Nat) : w.frozen? ⟨bb, o, none⟩ = false := by unfold AtB at h; simp [World.frozen?, h]
theorem AtB.set {w : World} {bb : Nat} {T : TypeId} {cs : Array Value} (h : AtB w bb T cs) (o : Nat) (u : Value) : AtB (w.setCell ⟨bb, o, none⟩ u) bb T (cs.setIfInBounds o u) := by
  unfold AtB at h ⊢
  simp [World.setCell, Array.getElem?_modify, h]
/-- What a reader answers: the coder goes on with l and b; the cell holds u. -/
def RP (w0 : World) (g bb : Nat) (T : TypeId) (cs : Array Value) (o : Nat) (u : Value) (l : List UInt8) (b : Bool) (w : World) (e : Ending) (w' : World) : Prop :=
  e = .returned (.tuple #[]) ∧ RS w0 g l b w' ∧ AtB w' bb T (cs.setIfInBounds o u) ∧ Mod (fun k => k = g ∨ k = bb) w w'
theorem rp_store {w0 : World} {g bb : Nat} {T : TypeId} {cs : Array Value} {o : Nat} {u : Value} {l : List UInt8} {b : Bool} {w w1 : World} (h : RS w0 g l b w1) (ha : AtB w1 bb T cs) (hm : Mod (fun k => k = g ∨ k = bb) w w1) (hne : bb ≠ g) (hge : w0.heap.size ≤ bb) :
    RP w0 g bb T cs o u l b w (.returned (.tuple #[])) (w1.setCell ⟨bb, o, none⟩ u) :=
  ⟨rfl, h.mod ((Mod.refl (fun k => k = bb) w1).setCell _ _ (.inl rfl)) (fun k e => by subst e; exact ⟨hge, hne⟩), ha.set o u, hm.setCell _ _ (.inl (.inr rfl))⟩
set_option maxHeartbeats 4000000 in
set_option maxRecDepth 20000 in
theorem text_r {w0 w : World} {g bb : Nat} {T : TypeId} {cs : Array Value} {o : Nat} {l : List UInt8} {b : Bool} (h : RS w0 g l b w) (ha : AtB w bb T cs) (hne : bb ≠ g) (hge : w0.heap.size ≤ bb) (s0 : ByteArray) (hs : cs[o]? = some (.string s0)) :
    Calls Tryd.prog 67 #[.pointer (some ⟨g, 0, none⟩), .pointer (some ⟨bb, o, none⟩)] w (RP w0 g bb T cs o (.string (textR l b).1) (textR l b).2.1 (textR l b).2.2 w) := by
  have hp := (ha.cell o).trans hs
  obtain ⟨⟨n, l1, b1⟩, hz⟩ : ∃ z, sizeR l b = z := ⟨_, rfl⟩
  have hsz := size_r h s0.size
  unfold textR
  rw [hz] at hsz ⊢
  have HSZ := hid hsz
  have HA := hid ha
  have HS := hid hs
  have H := hid h
  clear h ha hs hsz
  cases b1 with
  | true =>
    obtain rfl := sizeR_bad hz
    clear hz
    rw [if_pos rfl]
    go_enter Tryd.func67, Tryd.ntmps67
    go_wp2_with (first
      | (go_at_call 79; refine HSZ.out.mono ?_; intro e w1 hq; obtain ⟨rfl, h1, hm1⟩ := hq; have ha1 := HA.out.mod hm1 hne; have HA1 := hid ha1; have H1 := hid h1; have HM1 := hid hm1; have hp1 := (ha1.cell o).trans HS.out; have hf1 := ha1.free o; obtain ⟨v2, _, _, c1, _, _, _⟩ := h1.cells; clear h1 ha1 hm1)
      | (go_at_call 80; refine (take_bad0 H1.out (.inl rfl)).mono ?_; intro e w2 hq; obtain ⟨v1, rfl, hr2, _, h2, hm2⟩ := hq; have kc := run_string_of_reads (P := Tryd.prog) byteT Tryd.underlying9 hr2; have ha2 := HA1.out.mod hm2 hne; have HA2 := hid ha2; have H2 := hid h2; have HM2 := hid (HM1.out.trans hm2 (fun _ e => .inl e)); have hp2 := (ha2.cell o).trans HS.out; have hf2 := ha2.free o; clear h2 ha2 hm2 hr2))
    go_end0
    exact rp_store H2.out HA2.out (HM2.out.mono (fun _ _ e => .inl e)) hne hge
  | false =>
    have hn := sizeR_ok hz
    clear hz
    rw [if_neg (by simp)]
    go_enter Tryd.func67, Tryd.ntmps67
    go_wp2_with (first
      | (go_at_call 79; refine HSZ.out.mono ?_; intro e w1 hq; obtain ⟨rfl, h1, hm1⟩ := hq; have ha1 := HA.out.mod hm1 hne; have HA1 := hid ha1; have H1 := hid h1; have HM1 := hid hm1; have hp1 := (ha1.cell o).trans HS.out; have hf1 := ha1.free o; obtain ⟨v2, _, _, c1, _, _, _⟩ := h1.cells; clear h1 ha1 hm1)
      | (go_at_call 80; refine (take_ok H1.out n hn).mono ?_; intro e w2 hq; obtain ⟨v1, rfl, hr2, _, h2, hm2⟩ := hq; have kc := run_string_of_reads (P := Tryd.prog) byteT Tryd.underlying9 hr2; have ha2 := HA1.out.mod hm2 hne; have HA2 := hid ha2; have H2 := hid h2; have HM2 := hid (HM1.out.trans hm2 (fun _ e => .inl e)); have hp2 := (ha2.cell o).trans HS.out; have hf2 := ha2.free o; clear h2 ha2 hm2 hr2))
    go_end0
    exact rp_store H2.out HA2.out (HM2.out.mono (fun _ _ e => .inl e)) hne hge
end Go.Proofs.YtcgjacffemjehaaDoor

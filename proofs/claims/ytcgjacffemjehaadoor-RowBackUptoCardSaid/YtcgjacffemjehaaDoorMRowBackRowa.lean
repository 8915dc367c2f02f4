/-
  RowKinds, Base, Words: this proof's parts in one text.
-/
import Derived.Test.YtcgjacffemjehaaDoorPRowReadsx0
import Derived.WalkKit
import Derived.WalkSpells
import Derived.WalkLawsBesides
import Derived.Laws.BytesArg
import Derived.Lib.ConvBytes
import Derived.Lib.Strings
namespace Go.Proofs.YtcgjacffemjehaaDoor
open Go.RowKit
open Go.Proofs.YtcgjacffemjehaaDoorW.PrintWords (Kd rdOf add_field)
open Go.Proofs.YtcgjacffemjehaaDoor.PRowReads
set_option linter.unusedVariables false
/-! #### struct type 25 -/
structure S25 where
  f0 : ByteArray
  f1 : ByteArray
  f2 : (List ByteArray)
def z25 : S25 := ⟨(⟨#[]⟩ : ByteArray), (⟨#[]⟩ : ByteArray), ([] : List ByteArray)⟩
def k25 : Kd S25 := Kd.iso (Kd.pair Kd.string (Kd.pair Kd.string (Kd.slice 9 Kd.string))) (fun x : S25 => (x.f0, x.f1, x.f2))
theorem k25_open {w : World} {x : S25} {cs : List Value} (h : k25.K w x cs) : ∃ A2 c2, cs = [.string x.f0, .string x.f1, .slice A2 x.f2.length c2] ∧ x.f2.length ≤ c2 ∧ Kd.string.C w A2 x.f2.length x.f2 := by
  obtain ⟨_, _, rfl, rfl, ⟨_, _, rfl, rfl, ⟨A2, c2, rfl, l2, g2⟩⟩⟩ := h
  exact ⟨A2, c2, rfl, l2, g2⟩
theorem k25_openM {w : World} {base : Nat} {ok : Nat → Prop} {x : S25} {cs : List Value} (h : k25.M w base ok x cs) : ∃ v2, cs = [.string x.f0, .string x.f1, v2] ∧ Kd.string.R 9 w base ok v2 x.f2 := by
  obtain ⟨_, _, rfl, rfl, ⟨_, _, rfl, rfl, ⟨v2, rfl, g2⟩⟩⟩ := h
  exact ⟨v2, rfl, g2⟩
theorem k25_mk (w : World) (x : S25) {A2 : Option Addr} {c2 : Nat} (l2 : x.f2.length ≤ c2) (g2 : Kd.string.C w A2 x.f2.length x.f2) : k25.K w x [.string x.f0, .string x.f1, .slice A2 x.f2.length c2] := ⟨[.string x.f0], [.string x.f1, .slice A2 x.f2.length c2], rfl, rfl, ⟨[.string x.f1], [.slice A2 x.f2.length c2], rfl, rfl, ⟨A2, c2, rfl, l2, g2⟩⟩⟩
theorem k25_mkM (w : World) (base : Nat) (ok : Nat → Prop) (x : S25) {v2 : Value} (g2 : Kd.string.R 9 w base ok v2 x.f2) : k25.M w base ok x [.string x.f0, .string x.f1, v2] := ⟨[.string x.f0], [.string x.f1, v2], rfl, rfl, ⟨[.string x.f1], [v2], rfl, rfl, ⟨v2, rfl, g2⟩⟩⟩
def rd_T25 (xs : List S25) (i : Int) : S25 := xs.getD i.toNat z25
theorem at_T25 {w : World} {A : Option Addr} {n : Nat} {xs : List S25} (h : Kd.C k25 w A n xs) (i : Int) (h0 : 0 ≤ i) (h1 : i < n) : ∃ ad A2 c2, A = some ad ∧ w.cell? (ad.add (i.toNat * 3)) = some (.string (rd_T25 xs i).f0) ∧ w.cell? ⟨(ad.add (i.toNat * 3)).block, (ad.add (i.toNat * 3)).off + 1, none⟩ = some (.string (rd_T25 xs i).f1) ∧ w.cell? ⟨(ad.add (i.toNat * 3)).block, (ad.add (i.toNat * 3)).off + 2, none⟩ = some (.slice A2 (rd_T25 xs i).f2.length c2) ∧ (rd_T25 xs i).f2.length ≤ c2 ∧ Kd.string.C w A2 (rd_T25 xs i).f2.length (rd_T25 xs i).f2 := by
  obtain ⟨ad, c, e, _, hK, hc0⟩ := Kd.C_get h z25 i h0 h1
  have hc : ∀ j u, c[j]? = some u → w.cell? (ad.add (i.toNat * 3 + j)) = some u := hc0
  obtain ⟨A2, c2, rfl, l2, g2⟩ := k25_open hK
  exact ⟨ad, A2, c2, e, hc 0 _ rfl, by rw [← add_field _ _ 1 (by omega)]; exact hc 1 _ rfl, by rw [← add_field _ _ 2 (by omega)]; exact hc 2 _ rfl, l2, g2⟩


/-! #### struct type 27 -/
structure S27 where
  f0 : ByteArray
  f1 : ByteArray
  f2 : ByteArray
  f3 : ByteArray
  f4 : (List ByteArray)
  f5 : ByteArray
  f6 : Bool
  f7 : Bool
  f8 : Int
def z27 : S27 := ⟨(⟨#[]⟩ : ByteArray), (⟨#[]⟩ : ByteArray), (⟨#[]⟩ : ByteArray), (⟨#[]⟩ : ByteArray), ([] : List ByteArray), (⟨#[]⟩ : ByteArray), false, false, (0 : Int)⟩
def k27 : Kd S27 := Kd.iso (Kd.pair Kd.string (Kd.pair Kd.string (Kd.pair Kd.string (Kd.pair Kd.string (Kd.pair (Kd.slice 9 Kd.string) (Kd.pair Kd.string (Kd.pair Kd.bool (Kd.pair Kd.bool (Kd.int .i64))))))))) (fun x : S27 => (x.f0, x.f1, x.f2, x.f3, x.f4, x.f5, x.f6, x.f7, x.f8))
theorem k27_open {w : World} {x : S27} {cs : List Value} (h : k27.K w x cs) : ∃ A4 c4, cs = [.string x.f0, .string x.f1, .string x.f2, .string x.f3, .slice A4 x.f4.length c4, .string x.f5, .bool x.f6, .bool x.f7, .int .i64 x.f8] ∧ x.f4.length ≤ c4 ∧ Kd.string.C w A4 x.f4.length x.f4 := by
  obtain ⟨_, _, rfl, rfl, ⟨_, _, rfl, rfl, ⟨_, _, rfl, rfl, ⟨_, _, rfl, rfl, ⟨_, _, rfl, ⟨A4, c4, rfl, l4, g4⟩, ⟨_, _, rfl, rfl, ⟨_, _, rfl, rfl, ⟨_, _, rfl, rfl, rfl⟩⟩⟩⟩⟩⟩⟩⟩ := h
  exact ⟨A4, c4, rfl, l4, g4⟩
theorem k27_openM {w : World} {base : Nat} {ok : Nat → Prop} {x : S27} {cs : List Value} (h : k27.M w base ok x cs) : ∃ v4, cs = [.string x.f0, .string x.f1, .string x.f2, .string x.f3, v4, .string x.f5, .bool x.f6, .bool x.f7, .int .i64 x.f8] ∧ Kd.string.R 9 w base ok v4 x.f4 := by
  obtain ⟨_, _, rfl, rfl, ⟨_, _, rfl, rfl, ⟨_, _, rfl, rfl, ⟨_, _, rfl, rfl, ⟨_, _, rfl, ⟨v4, rfl, g4⟩, ⟨_, _, rfl, rfl, ⟨_, _, rfl, rfl, ⟨_, _, rfl, rfl, rfl⟩⟩⟩⟩⟩⟩⟩⟩ := h
  exact ⟨v4, rfl, g4⟩
theorem k27_mk (w : World) (x : S27) {A4 : Option Addr} {c4 : Nat} (l4 : x.f4.length ≤ c4) (g4 : Kd.string.C w A4 x.f4.length x.f4) : k27.K w x [.string x.f0, .string x.f1, .string x.f2, .string x.f3, .slice A4 x.f4.length c4, .string x.f5, .bool x.f6, .bool x.f7, .int .i64 x.f8] := ⟨[.string x.f0], [.string x.f1, .string x.f2, .string x.f3, .slice A4 x.f4.length c4, .string x.f5, .bool x.f6, .bool x.f7, .int .i64 x.f8], rfl, rfl, ⟨[.string x.f1], [.string x.f2, .string x.f3, .slice A4 x.f4.length c4, .string x.f5, .bool x.f6, .bool x.f7, .int .i64 x.f8], rfl, rfl, ⟨[.string x.f2], [.string x.f3, .slice A4 x.f4.length c4, .string x.f5, .bool x.f6, .bool x.f7, .int .i64 x.f8], rfl, rfl, ⟨[.string x.f3], [.slice A4 x.f4.length c4, .string x.f5, .bool x.f6, .bool x.f7, .int .i64 x.f8], rfl, rfl, ⟨[.slice A4 x.f4.length c4], [.string x.f5, .bool x.f6, .bool x.f7, .int .i64 x.f8], rfl, ⟨A4, c4, rfl, l4, g4⟩, ⟨[.string x.f5], [.bool x.f6, .bool x.f7, .int .i64 x.f8], rfl, rfl, ⟨[.bool x.f6], [.bool x.f7, .int .i64 x.f8], rfl, rfl, ⟨[.bool x.f7], [.int .i64 x.f8], rfl, rfl, rfl⟩⟩⟩⟩⟩⟩⟩⟩
theorem k27_mkM (w : World) (base : Nat) (ok : Nat → Prop) (x : S27) {v4 : Value} (g4 : Kd.string.R 9 w base ok v4 x.f4) : k27.M w base ok x [.string x.f0, .string x.f1, .string x.f2, .string x.f3, v4, .string x.f5, .bool x.f6, .bool x.f7, .int .i64 x.f8] := ⟨[.string x.f0], [.string x.f1, .string x.f2, .string x.f3, v4, .string x.f5, .bool x.f6, .bool x.f7, .int .i64 x.f8], rfl, rfl, ⟨[.string x.f1], [.string x.f2, .string x.f3, v4, .string x.f5, .bool x.f6, .bool x.f7, .int .i64 x.f8], rfl, rfl, ⟨[.string x.f2], [.string x.f3, v4, .string x.f5, .bool x.f6, .bool x.f7, .int .i64 x.f8], rfl, rfl, ⟨[.string x.f3], [v4, .string x.f5, .bool x.f6, .bool x.f7, .int .i64 x.f8], rfl, rfl, ⟨[v4], [.string x.f5, .bool x.f6, .bool x.f7, .int .i64 x.f8], rfl, ⟨v4, rfl, g4⟩, ⟨[.string x.f5], [.bool x.f6, .bool x.f7, .int .i64 x.f8], rfl, rfl, ⟨[.bool x.f6], [.bool x.f7, .int .i64 x.f8], rfl, rfl, ⟨[.bool x.f7], [.int .i64 x.f8], rfl, rfl, rfl⟩⟩⟩⟩⟩⟩⟩⟩
def rd_T27 (xs : List S27) (i : Int) : S27 := xs.getD i.toNat z27
theorem at_T27 {w : World} {A : Option Addr} {n : Nat} {xs : List S27} (h : Kd.C k27 w A n xs) (i : Int) (h0 : 0 ≤ i) (h1 : i < n) : ∃ ad A4 c4, A = some ad ∧ w.cell? (ad.add (i.toNat * 9)) = some (.string (rd_T27 xs i).f0) ∧ w.cell? ⟨(ad.add (i.toNat * 9)).block, (ad.add (i.toNat * 9)).off + 1, none⟩ = some (.string (rd_T27 xs i).f1) ∧ w.cell? ⟨(ad.add (i.toNat * 9)).block, (ad.add (i.toNat * 9)).off + 2, none⟩ = some (.string (rd_T27 xs i).f2) ∧ w.cell? ⟨(ad.add (i.toNat * 9)).block, (ad.add (i.toNat * 9)).off + 3, none⟩ = some (.string (rd_T27 xs i).f3) ∧ w.cell? ⟨(ad.add (i.toNat * 9)).block, (ad.add (i.toNat * 9)).off + 4, none⟩ = some (.slice A4 (rd_T27 xs i).f4.length c4) ∧ w.cell? ⟨(ad.add (i.toNat * 9)).block, (ad.add (i.toNat * 9)).off + 5, none⟩ = some (.string (rd_T27 xs i).f5) ∧ w.cell? ⟨(ad.add (i.toNat * 9)).block, (ad.add (i.toNat * 9)).off + 6, none⟩ = some (.bool (rd_T27 xs i).f6) ∧ w.cell? ⟨(ad.add (i.toNat * 9)).block, (ad.add (i.toNat * 9)).off + 7, none⟩ = some (.bool (rd_T27 xs i).f7) ∧ w.cell? ⟨(ad.add (i.toNat * 9)).block, (ad.add (i.toNat * 9)).off + 8, none⟩ = some (.int .i64 (rd_T27 xs i).f8) ∧ (rd_T27 xs i).f4.length ≤ c4 ∧ Kd.string.C w A4 (rd_T27 xs i).f4.length (rd_T27 xs i).f4 := by
  obtain ⟨ad, c, e, _, hK, hc0⟩ := Kd.C_get h z27 i h0 h1
  have hc : ∀ j u, c[j]? = some u → w.cell? (ad.add (i.toNat * 9 + j)) = some u := hc0
  obtain ⟨A4, c4, rfl, l4, g4⟩ := k27_open hK
  exact ⟨ad, A4, c4, e, hc 0 _ rfl, by rw [← add_field _ _ 1 (by omega)]; exact hc 1 _ rfl, by rw [← add_field _ _ 2 (by omega)]; exact hc 2 _ rfl, by rw [← add_field _ _ 3 (by omega)]; exact hc 3 _ rfl, by rw [← add_field _ _ 4 (by omega)]; exact hc 4 _ rfl, by rw [← add_field _ _ 5 (by omega)]; exact hc 5 _ rfl, by rw [← add_field _ _ 6 (by omega)]; exact hc 6 _ rfl, by rw [← add_field _ _ 7 (by omega)]; exact hc 7 _ rfl, by rw [← add_field _ _ 8 (by omega)]; exact hc 8 _ rfl, l4, g4⟩


/-! #### struct type 29 -/
structure S29 where
  f0 : ByteArray
  f1 : ByteArray
  f2 : ByteArray
  f3 : (List ByteArray)
  f4 : Int
  f5 : Int
  f6 : Bool
def z29 : S29 := ⟨(⟨#[]⟩ : ByteArray), (⟨#[]⟩ : ByteArray), (⟨#[]⟩ : ByteArray), ([] : List ByteArray), (0 : Int), (0 : Int), false⟩
def k29 : Kd S29 := Kd.iso (Kd.pair Kd.string (Kd.pair Kd.string (Kd.pair Kd.string (Kd.pair (Kd.slice 9 Kd.string) (Kd.pair (Kd.int .i64) (Kd.pair (Kd.int .i64) Kd.bool)))))) (fun x : S29 => (x.f0, x.f1, x.f2, x.f3, x.f4, x.f5, x.f6))
theorem k29_open {w : World} {x : S29} {cs : List Value} (h : k29.K w x cs) : ∃ A3 c3, cs = [.string x.f0, .string x.f1, .string x.f2, .slice A3 x.f3.length c3, .int .i64 x.f4, .int .i64 x.f5, .bool x.f6] ∧ x.f3.length ≤ c3 ∧ Kd.string.C w A3 x.f3.length x.f3 := by
  obtain ⟨_, _, rfl, rfl, ⟨_, _, rfl, rfl, ⟨_, _, rfl, rfl, ⟨_, _, rfl, ⟨A3, c3, rfl, l3, g3⟩, ⟨_, _, rfl, rfl, ⟨_, _, rfl, rfl, rfl⟩⟩⟩⟩⟩⟩ := h
  exact ⟨A3, c3, rfl, l3, g3⟩
theorem k29_openM {w : World} {base : Nat} {ok : Nat → Prop} {x : S29} {cs : List Value} (h : k29.M w base ok x cs) : ∃ v3, cs = [.string x.f0, .string x.f1, .string x.f2, v3, .int .i64 x.f4, .int .i64 x.f5, .bool x.f6] ∧ Kd.string.R 9 w base ok v3 x.f3 := by
  obtain ⟨_, _, rfl, rfl, ⟨_, _, rfl, rfl, ⟨_, _, rfl, rfl, ⟨_, _, rfl, ⟨v3, rfl, g3⟩, ⟨_, _, rfl, rfl, ⟨_, _, rfl, rfl, rfl⟩⟩⟩⟩⟩⟩ := h
  exact ⟨v3, rfl, g3⟩
theorem k29_mk (w : World) (x : S29) {A3 : Option Addr} {c3 : Nat} (l3 : x.f3.length ≤ c3) (g3 : Kd.string.C w A3 x.f3.length x.f3) : k29.K w x [.string x.f0, .string x.f1, .string x.f2, .slice A3 x.f3.length c3, .int .i64 x.f4, .int .i64 x.f5, .bool x.f6] := ⟨[.string x.f0], [.string x.f1, .string x.f2, .slice A3 x.f3.length c3, .int .i64 x.f4, .int .i64 x.f5, .bool x.f6], rfl, rfl, ⟨[.string x.f1], [.string x.f2, .slice A3 x.f3.length c3, .int .i64 x.f4, .int .i64 x.f5, .bool x.f6], rfl, rfl, ⟨[.string x.f2], [.slice A3 x.f3.length c3, .int .i64 x.f4, .int .i64 x.f5, .bool x.f6], rfl, rfl, ⟨[.slice A3 x.f3.length c3], [.int .i64 x.f4, .int .i64 x.f5, .bool x.f6], rfl, ⟨A3, c3, rfl, l3, g3⟩, ⟨[.int .i64 x.f4], [.int .i64 x.f5, .bool x.f6], rfl, rfl, ⟨[.int .i64 x.f5], [.bool x.f6], rfl, rfl, rfl⟩⟩⟩⟩⟩⟩
theorem k29_mkM (w : World) (base : Nat) (ok : Nat → Prop) (x : S29) {v3 : Value} (g3 : Kd.string.R 9 w base ok v3 x.f3) : k29.M w base ok x [.string x.f0, .string x.f1, .string x.f2, v3, .int .i64 x.f4, .int .i64 x.f5, .bool x.f6] := ⟨[.string x.f0], [.string x.f1, .string x.f2, v3, .int .i64 x.f4, .int .i64 x.f5, .bool x.f6], rfl, rfl, ⟨[.string x.f1], [.string x.f2, v3, .int .i64 x.f4, .int .i64 x.f5, .bool x.f6], rfl, rfl, ⟨[.string x.f2], [v3, .int .i64 x.f4, .int .i64 x.f5, .bool x.f6], rfl, rfl, ⟨[v3], [.int .i64 x.f4, .int .i64 x.f5, .bool x.f6], rfl, ⟨v3, rfl, g3⟩, ⟨[.int .i64 x.f4], [.int .i64 x.f5, .bool x.f6], rfl, rfl, ⟨[.int .i64 x.f5], [.bool x.f6], rfl, rfl, rfl⟩⟩⟩⟩⟩⟩
def rd_T29 (xs : List S29) (i : Int) : S29 := xs.getD i.toNat z29
theorem at_T29 {w : World} {A : Option Addr} {n : Nat} {xs : List S29} (h : Kd.C k29 w A n xs) (i : Int) (h0 : 0 ≤ i) (h1 : i < n) : ∃ ad A3 c3, A = some ad ∧ w.cell? (ad.add (i.toNat * 7)) = some (.string (rd_T29 xs i).f0) ∧ w.cell? ⟨(ad.add (i.toNat * 7)).block, (ad.add (i.toNat * 7)).off + 1, none⟩ = some (.string (rd_T29 xs i).f1) ∧ w.cell? ⟨(ad.add (i.toNat * 7)).block, (ad.add (i.toNat * 7)).off + 2, none⟩ = some (.string (rd_T29 xs i).f2) ∧ w.cell? ⟨(ad.add (i.toNat * 7)).block, (ad.add (i.toNat * 7)).off + 3, none⟩ = some (.slice A3 (rd_T29 xs i).f3.length c3) ∧ w.cell? ⟨(ad.add (i.toNat * 7)).block, (ad.add (i.toNat * 7)).off + 4, none⟩ = some (.int .i64 (rd_T29 xs i).f4) ∧ w.cell? ⟨(ad.add (i.toNat * 7)).block, (ad.add (i.toNat * 7)).off + 5, none⟩ = some (.int .i64 (rd_T29 xs i).f5) ∧ w.cell? ⟨(ad.add (i.toNat * 7)).block, (ad.add (i.toNat * 7)).off + 6, none⟩ = some (.bool (rd_T29 xs i).f6) ∧ (rd_T29 xs i).f3.length ≤ c3 ∧ Kd.string.C w A3 (rd_T29 xs i).f3.length (rd_T29 xs i).f3 := by
  obtain ⟨ad, c, e, _, hK, hc0⟩ := Kd.C_get h z29 i h0 h1
  have hc : ∀ j u, c[j]? = some u → w.cell? (ad.add (i.toNat * 7 + j)) = some u := hc0
  obtain ⟨A3, c3, rfl, l3, g3⟩ := k29_open hK
  exact ⟨ad, A3, c3, e, hc 0 _ rfl, by rw [← add_field _ _ 1 (by omega)]; exact hc 1 _ rfl, by rw [← add_field _ _ 2 (by omega)]; exact hc 2 _ rfl, by rw [← add_field _ _ 3 (by omega)]; exact hc 3 _ rfl, by rw [← add_field _ _ 4 (by omega)]; exact hc 4 _ rfl, by rw [← add_field _ _ 5 (by omega)]; exact hc 5 _ rfl, by rw [← add_field _ _ 6 (by omega)]; exact hc 6 _ rfl, l3, g3⟩


/-! #### struct type 31 -/
structure S31 where
  f0 : ByteArray
  f1 : ByteArray
  f2 : Int
def z31 : S31 := ⟨(⟨#[]⟩ : ByteArray), (⟨#[]⟩ : ByteArray), (0 : Int)⟩
def k31 : Kd S31 := Kd.iso (Kd.pair Kd.string (Kd.pair Kd.string (Kd.int .i64))) (fun x : S31 => (x.f0, x.f1, x.f2))
theorem k31_open {w : World} {x : S31} {cs : List Value} (h : k31.K w x cs) : cs = [.string x.f0, .string x.f1, .int .i64 x.f2] := by
  obtain ⟨_, _, rfl, rfl, ⟨_, _, rfl, rfl, rfl⟩⟩ := h
  exact rfl
theorem k31_openM {w : World} {base : Nat} {ok : Nat → Prop} {x : S31} {cs : List Value} (h : k31.M w base ok x cs) : cs = [.string x.f0, .string x.f1, .int .i64 x.f2] := by
  obtain ⟨_, _, rfl, rfl, ⟨_, _, rfl, rfl, rfl⟩⟩ := h
  exact rfl
theorem k31_mk (w : World) (x : S31)  : k31.K w x [.string x.f0, .string x.f1, .int .i64 x.f2] := ⟨[.string x.f0], [.string x.f1, .int .i64 x.f2], rfl, rfl, ⟨[.string x.f1], [.int .i64 x.f2], rfl, rfl, rfl⟩⟩
theorem k31_mkM (w : World) (base : Nat) (ok : Nat → Prop) (x : S31)  : k31.M w base ok x [.string x.f0, .string x.f1, .int .i64 x.f2] := ⟨[.string x.f0], [.string x.f1, .int .i64 x.f2], rfl, rfl, ⟨[.string x.f1], [.int .i64 x.f2], rfl, rfl, rfl⟩⟩
def rd_T31 (xs : List S31) (i : Int) : S31 := xs.getD i.toNat z31
theorem at_T31 {w : World} {A : Option Addr} {n : Nat} {xs : List S31} (h : Kd.C k31 w A n xs) (i : Int) (h0 : 0 ≤ i) (h1 : i < n) : ∃ ad , A = some ad ∧ w.cell? (ad.add (i.toNat * 3)) = some (.string (rd_T31 xs i).f0) ∧ w.cell? ⟨(ad.add (i.toNat * 3)).block, (ad.add (i.toNat * 3)).off + 1, none⟩ = some (.string (rd_T31 xs i).f1) ∧ w.cell? ⟨(ad.add (i.toNat * 3)).block, (ad.add (i.toNat * 3)).off + 2, none⟩ = some (.int .i64 (rd_T31 xs i).f2) := by
  obtain ⟨ad, c, e, _, hK, hc0⟩ := Kd.C_get h z31 i h0 h1
  have hc : ∀ j u, c[j]? = some u → w.cell? (ad.add (i.toNat * 3 + j)) = some u := hc0
  obtain rfl := k31_open hK
  exact ⟨ad, e, hc 0 _ rfl, by rw [← add_field _ _ 1 (by omega)]; exact hc 1 _ rfl, by rw [← add_field _ _ 2 (by omega)]; exact hc 2 _ rfl⟩


/-! #### struct type 34 -/
structure S34 where
  f0 : ByteArray
  f1 : ByteArray
  f2 : ByteArray
  f3 : ByteArray
  f4 : ByteArray
  f5 : (List ByteArray)
  f6 : (List S86)
  f7 : Int
  f8 : Int
  f9 : Bool
def z34 : S34 := ⟨(⟨#[]⟩ : ByteArray), (⟨#[]⟩ : ByteArray), (⟨#[]⟩ : ByteArray), (⟨#[]⟩ : ByteArray), (⟨#[]⟩ : ByteArray), ([] : List ByteArray), ([] : List S86), (0 : Int), (0 : Int), false⟩
def k34 : Kd S34 := Kd.iso (Kd.pair Kd.string (Kd.pair Kd.string (Kd.pair Kd.string (Kd.pair Kd.string (Kd.pair Kd.string (Kd.pair (Kd.slice 9 Kd.string) (Kd.pair (Kd.slice 86 k86) (Kd.pair (Kd.int .i64) (Kd.pair (Kd.int .i64) Kd.bool))))))))) (fun x : S34 => (x.f0, x.f1, x.f2, x.f3, x.f4, x.f5, x.f6, x.f7, x.f8, x.f9))
theorem k34_open {w : World} {x : S34} {cs : List Value} (h : k34.K w x cs) : ∃ A5 c5 A6 c6, cs = [.string x.f0, .string x.f1, .string x.f2, .string x.f3, .string x.f4, .slice A5 x.f5.length c5, .slice A6 x.f6.length c6, .int .i64 x.f7, .int .i64 x.f8, .bool x.f9] ∧ x.f5.length ≤ c5 ∧ Kd.string.C w A5 x.f5.length x.f5 ∧ x.f6.length ≤ c6 ∧ k86.C w A6 x.f6.length x.f6 := by
  obtain ⟨_, _, rfl, rfl, ⟨_, _, rfl, rfl, ⟨_, _, rfl, rfl, ⟨_, _, rfl, rfl, ⟨_, _, rfl, rfl, ⟨_, _, rfl, ⟨A5, c5, rfl, l5, g5⟩, ⟨_, _, rfl, ⟨A6, c6, rfl, l6, g6⟩, ⟨_, _, rfl, rfl, ⟨_, _, rfl, rfl, rfl⟩⟩⟩⟩⟩⟩⟩⟩⟩ := h
  exact ⟨A5, c5, A6, c6, rfl, l5, g5, l6, g6⟩
theorem k34_openM {w : World} {base : Nat} {ok : Nat → Prop} {x : S34} {cs : List Value} (h : k34.M w base ok x cs) : ∃ v5 v6, cs = [.string x.f0, .string x.f1, .string x.f2, .string x.f3, .string x.f4, v5, v6, .int .i64 x.f7, .int .i64 x.f8, .bool x.f9] ∧ Kd.string.R 9 w base ok v5 x.f5 ∧ k86.R 86 w base ok v6 x.f6 := by
  obtain ⟨_, _, rfl, rfl, ⟨_, _, rfl, rfl, ⟨_, _, rfl, rfl, ⟨_, _, rfl, rfl, ⟨_, _, rfl, rfl, ⟨_, _, rfl, ⟨v5, rfl, g5⟩, ⟨_, _, rfl, ⟨v6, rfl, g6⟩, ⟨_, _, rfl, rfl, ⟨_, _, rfl, rfl, rfl⟩⟩⟩⟩⟩⟩⟩⟩⟩ := h
  exact ⟨v5, v6, rfl, g5, g6⟩
theorem k34_mk (w : World) (x : S34) {A5 : Option Addr} {c5 : Nat} (l5 : x.f5.length ≤ c5) (g5 : Kd.string.C w A5 x.f5.length x.f5) {A6 : Option Addr} {c6 : Nat} (l6 : x.f6.length ≤ c6) (g6 : k86.C w A6 x.f6.length x.f6) : k34.K w x [.string x.f0, .string x.f1, .string x.f2, .string x.f3, .string x.f4, .slice A5 x.f5.length c5, .slice A6 x.f6.length c6, .int .i64 x.f7, .int .i64 x.f8, .bool x.f9] := ⟨[.string x.f0], [.string x.f1, .string x.f2, .string x.f3, .string x.f4, .slice A5 x.f5.length c5, .slice A6 x.f6.length c6, .int .i64 x.f7, .int .i64 x.f8, .bool x.f9], rfl, rfl, ⟨[.string x.f1], [.string x.f2, .string x.f3, .string x.f4, .slice A5 x.f5.length c5, .slice A6 x.f6.length c6, .int .i64 x.f7, .int .i64 x.f8, .bool x.f9], rfl, rfl, ⟨[.string x.f2], [.string x.f3, .string x.f4, .slice A5 x.f5.length c5, .slice A6 x.f6.length c6, .int .i64 x.f7, .int .i64 x.f8, .bool x.f9], rfl, rfl, ⟨[.string x.f3], [.string x.f4, .slice A5 x.f5.length c5, .slice A6 x.f6.length c6, .int .i64 x.f7, .int .i64 x.f8, .bool x.f9], rfl, rfl, ⟨[.string x.f4], [.slice A5 x.f5.length c5, .slice A6 x.f6.length c6, .int .i64 x.f7, .int .i64 x.f8, .bool x.f9], rfl, rfl, ⟨[.slice A5 x.f5.length c5], [.slice A6 x.f6.length c6, .int .i64 x.f7, .int .i64 x.f8, .bool x.f9], rfl, ⟨A5, c5, rfl, l5, g5⟩, ⟨[.slice A6 x.f6.length c6], [.int .i64 x.f7, .int .i64 x.f8, .bool x.f9], rfl, ⟨A6, c6, rfl, l6, g6⟩, ⟨[.int .i64 x.f7], [.int .i64 x.f8, .bool x.f9], rfl, rfl, ⟨[.int .i64 x.f8], [.bool x.f9], rfl, rfl, rfl⟩⟩⟩⟩⟩⟩⟩⟩⟩
theorem k34_mkM (w : World) (base : Nat) (ok : Nat → Prop) (x : S34) {v5 : Value} (g5 : Kd.string.R 9 w base ok v5 x.f5) {v6 : Value} (g6 : k86.R 86 w base ok v6 x.f6) : k34.M w base ok x [.string x.f0, .string x.f1, .string x.f2, .string x.f3, .string x.f4, v5, v6, .int .i64 x.f7, .int .i64 x.f8, .bool x.f9] := ⟨[.string x.f0], [.string x.f1, .string x.f2, .string x.f3, .string x.f4, v5, v6, .int .i64 x.f7, .int .i64 x.f8, .bool x.f9], rfl, rfl, ⟨[.string x.f1], [.string x.f2, .string x.f3, .string x.f4, v5, v6, .int .i64 x.f7, .int .i64 x.f8, .bool x.f9], rfl, rfl, ⟨[.string x.f2], [.string x.f3, .string x.f4, v5, v6, .int .i64 x.f7, .int .i64 x.f8, .bool x.f9], rfl, rfl, ⟨[.string x.f3], [.string x.f4, v5, v6, .int .i64 x.f7, .int .i64 x.f8, .bool x.f9], rfl, rfl, ⟨[.string x.f4], [v5, v6, .int .i64 x.f7, .int .i64 x.f8, .bool x.f9], rfl, rfl, ⟨[v5], [v6, .int .i64 x.f7, .int .i64 x.f8, .bool x.f9], rfl, ⟨v5, rfl, g5⟩, ⟨[v6], [.int .i64 x.f7, .int .i64 x.f8, .bool x.f9], rfl, ⟨v6, rfl, g6⟩, ⟨[.int .i64 x.f7], [.int .i64 x.f8, .bool x.f9], rfl, rfl, ⟨[.int .i64 x.f8], [.bool x.f9], rfl, rfl, rfl⟩⟩⟩⟩⟩⟩⟩⟩⟩
def rd_T34 (xs : List S34) (i : Int) : S34 := xs.getD i.toNat z34
theorem at_T34 {w : World} {A : Option Addr} {n : Nat} {xs : List S34} (h : Kd.C k34 w A n xs) (i : Int) (h0 : 0 ≤ i) (h1 : i < n) : ∃ ad A5 c5 A6 c6, A = some ad ∧ w.cell? (ad.add (i.toNat * 10)) = some (.string (rd_T34 xs i).f0) ∧ w.cell? ⟨(ad.add (i.toNat * 10)).block, (ad.add (i.toNat * 10)).off + 1, none⟩ = some (.string (rd_T34 xs i).f1) ∧ w.cell? ⟨(ad.add (i.toNat * 10)).block, (ad.add (i.toNat * 10)).off + 2, none⟩ = some (.string (rd_T34 xs i).f2) ∧ w.cell? ⟨(ad.add (i.toNat * 10)).block, (ad.add (i.toNat * 10)).off + 3, none⟩ = some (.string (rd_T34 xs i).f3) ∧ w.cell? ⟨(ad.add (i.toNat * 10)).block, (ad.add (i.toNat * 10)).off + 4, none⟩ = some (.string (rd_T34 xs i).f4) ∧ w.cell? ⟨(ad.add (i.toNat * 10)).block, (ad.add (i.toNat * 10)).off + 5, none⟩ = some (.slice A5 (rd_T34 xs i).f5.length c5) ∧ w.cell? ⟨(ad.add (i.toNat * 10)).block, (ad.add (i.toNat * 10)).off + 6, none⟩ = some (.slice A6 (rd_T34 xs i).f6.length c6) ∧ w.cell? ⟨(ad.add (i.toNat * 10)).block, (ad.add (i.toNat * 10)).off + 7, none⟩ = some (.int .i64 (rd_T34 xs i).f7) ∧ w.cell? ⟨(ad.add (i.toNat * 10)).block, (ad.add (i.toNat * 10)).off + 8, none⟩ = some (.int .i64 (rd_T34 xs i).f8) ∧ w.cell? ⟨(ad.add (i.toNat * 10)).block, (ad.add (i.toNat * 10)).off + 9, none⟩ = some (.bool (rd_T34 xs i).f9) ∧ (rd_T34 xs i).f5.length ≤ c5 ∧ Kd.string.C w A5 (rd_T34 xs i).f5.length (rd_T34 xs i).f5 ∧ (rd_T34 xs i).f6.length ≤ c6 ∧ k86.C w A6 (rd_T34 xs i).f6.length (rd_T34 xs i).f6 := by
  obtain ⟨ad, c, e, _, hK, hc0⟩ := Kd.C_get h z34 i h0 h1
  have hc : ∀ j u, c[j]? = some u → w.cell? (ad.add (i.toNat * 10 + j)) = some u := hc0
  obtain ⟨A5, c5, A6, c6, rfl, l5, g5, l6, g6⟩ := k34_open hK
  exact ⟨ad, A5, c5, A6, c6, e, hc 0 _ rfl, by rw [← add_field _ _ 1 (by omega)]; exact hc 1 _ rfl, by rw [← add_field _ _ 2 (by omega)]; exact hc 2 _ rfl, by rw [← add_field _ _ 3 (by omega)]; exact hc 3 _ rfl, by rw [← add_field _ _ 4 (by omega)]; exact hc 4 _ rfl, by rw [← add_field _ _ 5 (by omega)]; exact hc 5 _ rfl, by rw [← add_field _ _ 6 (by omega)]; exact hc 6 _ rfl, by rw [← add_field _ _ 7 (by omega)]; exact hc 7 _ rfl, by rw [← add_field _ _ 8 (by omega)]; exact hc 8 _ rfl, by rw [← add_field _ _ 9 (by omega)]; exact hc 9 _ rfl, l5, g5, l6, g6⟩


/-! #### struct type 36 -/
structure S36 where
  f0 : ByteArray
  f1 : ByteArray
  f2 : ByteArray
  f3 : ByteArray
  f4 : (List ByteArray)
  f5 : ByteArray
def z36 : S36 := ⟨(⟨#[]⟩ : ByteArray), (⟨#[]⟩ : ByteArray), (⟨#[]⟩ : ByteArray), (⟨#[]⟩ : ByteArray), ([] : List ByteArray), (⟨#[]⟩ : ByteArray)⟩
def k36 : Kd S36 := Kd.iso (Kd.pair Kd.string (Kd.pair Kd.string (Kd.pair Kd.string (Kd.pair Kd.string (Kd.pair (Kd.slice 9 Kd.string) Kd.string))))) (fun x : S36 => (x.f0, x.f1, x.f2, x.f3, x.f4, x.f5))
theorem k36_open {w : World} {x : S36} {cs : List Value} (h : k36.K w x cs) : ∃ A4 c4, cs = [.string x.f0, .string x.f1, .string x.f2, .string x.f3, .slice A4 x.f4.length c4, .string x.f5] ∧ x.f4.length ≤ c4 ∧ Kd.string.C w A4 x.f4.length x.f4 := by
  obtain ⟨_, _, rfl, rfl, ⟨_, _, rfl, rfl, ⟨_, _, rfl, rfl, ⟨_, _, rfl, rfl, ⟨_, _, rfl, ⟨A4, c4, rfl, l4, g4⟩, rfl⟩⟩⟩⟩⟩ := h
  exact ⟨A4, c4, rfl, l4, g4⟩
theorem k36_openM {w : World} {base : Nat} {ok : Nat → Prop} {x : S36} {cs : List Value} (h : k36.M w base ok x cs) : ∃ v4, cs = [.string x.f0, .string x.f1, .string x.f2, .string x.f3, v4, .string x.f5] ∧ Kd.string.R 9 w base ok v4 x.f4 := by
  obtain ⟨_, _, rfl, rfl, ⟨_, _, rfl, rfl, ⟨_, _, rfl, rfl, ⟨_, _, rfl, rfl, ⟨_, _, rfl, ⟨v4, rfl, g4⟩, rfl⟩⟩⟩⟩⟩ := h
  exact ⟨v4, rfl, g4⟩
theorem k36_mk (w : World) (x : S36) {A4 : Option Addr} {c4 : Nat} (l4 : x.f4.length ≤ c4) (g4 : Kd.string.C w A4 x.f4.length x.f4) : k36.K w x [.string x.f0, .string x.f1, .string x.f2, .string x.f3, .slice A4 x.f4.length c4, .string x.f5] := ⟨[.string x.f0], [.string x.f1, .string x.f2, .string x.f3, .slice A4 x.f4.length c4, .string x.f5], rfl, rfl, ⟨[.string x.f1], [.string x.f2, .string x.f3, .slice A4 x.f4.length c4, .string x.f5], rfl, rfl, ⟨[.string x.f2], [.string x.f3, .slice A4 x.f4.length c4, .string x.f5], rfl, rfl, ⟨[.string x.f3], [.slice A4 x.f4.length c4, .string x.f5], rfl, rfl, ⟨[.slice A4 x.f4.length c4], [.string x.f5], rfl, ⟨A4, c4, rfl, l4, g4⟩, rfl⟩⟩⟩⟩⟩
theorem k36_mkM (w : World) (base : Nat) (ok : Nat → Prop) (x : S36) {v4 : Value} (g4 : Kd.string.R 9 w base ok v4 x.f4) : k36.M w base ok x [.string x.f0, .string x.f1, .string x.f2, .string x.f3, v4, .string x.f5] := ⟨[.string x.f0], [.string x.f1, .string x.f2, .string x.f3, v4, .string x.f5], rfl, rfl, ⟨[.string x.f1], [.string x.f2, .string x.f3, v4, .string x.f5], rfl, rfl, ⟨[.string x.f2], [.string x.f3, v4, .string x.f5], rfl, rfl, ⟨[.string x.f3], [v4, .string x.f5], rfl, rfl, ⟨[v4], [.string x.f5], rfl, ⟨v4, rfl, g4⟩, rfl⟩⟩⟩⟩⟩
def rd_T36 (xs : List S36) (i : Int) : S36 := xs.getD i.toNat z36
theorem at_T36 {w : World} {A : Option Addr} {n : Nat} {xs : List S36} (h : Kd.C k36 w A n xs) (i : Int) (h0 : 0 ≤ i) (h1 : i < n) : ∃ ad A4 c4, A = some ad ∧ w.cell? (ad.add (i.toNat * 6)) = some (.string (rd_T36 xs i).f0) ∧ w.cell? ⟨(ad.add (i.toNat * 6)).block, (ad.add (i.toNat * 6)).off + 1, none⟩ = some (.string (rd_T36 xs i).f1) ∧ w.cell? ⟨(ad.add (i.toNat * 6)).block, (ad.add (i.toNat * 6)).off + 2, none⟩ = some (.string (rd_T36 xs i).f2) ∧ w.cell? ⟨(ad.add (i.toNat * 6)).block, (ad.add (i.toNat * 6)).off + 3, none⟩ = some (.string (rd_T36 xs i).f3) ∧ w.cell? ⟨(ad.add (i.toNat * 6)).block, (ad.add (i.toNat * 6)).off + 4, none⟩ = some (.slice A4 (rd_T36 xs i).f4.length c4) ∧ w.cell? ⟨(ad.add (i.toNat * 6)).block, (ad.add (i.toNat * 6)).off + 5, none⟩ = some (.string (rd_T36 xs i).f5) ∧ (rd_T36 xs i).f4.length ≤ c4 ∧ Kd.string.C w A4 (rd_T36 xs i).f4.length (rd_T36 xs i).f4 := by
  obtain ⟨ad, c, e, _, hK, hc0⟩ := Kd.C_get h z36 i h0 h1
  have hc : ∀ j u, c[j]? = some u → w.cell? (ad.add (i.toNat * 6 + j)) = some u := hc0
  obtain ⟨A4, c4, rfl, l4, g4⟩ := k36_open hK
  exact ⟨ad, A4, c4, e, hc 0 _ rfl, by rw [← add_field _ _ 1 (by omega)]; exact hc 1 _ rfl, by rw [← add_field _ _ 2 (by omega)]; exact hc 2 _ rfl, by rw [← add_field _ _ 3 (by omega)]; exact hc 3 _ rfl, by rw [← add_field _ _ 4 (by omega)]; exact hc 4 _ rfl, by rw [← add_field _ _ 5 (by omega)]; exact hc 5 _ rfl, l4, g4⟩


/-! #### struct type 38 -/
structure S38 where
  f0 : ByteArray
  f1 : ByteArray
  f2 : (List S86)
  f3 : ByteArray
  f4 : Int
  f5 : Bool
def z38 : S38 := ⟨(⟨#[]⟩ : ByteArray), (⟨#[]⟩ : ByteArray), ([] : List S86), (⟨#[]⟩ : ByteArray), (0 : Int), false⟩
def k38 : Kd S38 := Kd.iso (Kd.pair Kd.string (Kd.pair Kd.string (Kd.pair (Kd.slice 86 k86) (Kd.pair Kd.string (Kd.pair (Kd.int .i64) Kd.bool))))) (fun x : S38 => (x.f0, x.f1, x.f2, x.f3, x.f4, x.f5))
theorem k38_open {w : World} {x : S38} {cs : List Value} (h : k38.K w x cs) : ∃ A2 c2, cs = [.string x.f0, .string x.f1, .slice A2 x.f2.length c2, .string x.f3, .int .i64 x.f4, .bool x.f5] ∧ x.f2.length ≤ c2 ∧ k86.C w A2 x.f2.length x.f2 := by
  obtain ⟨_, _, rfl, rfl, ⟨_, _, rfl, rfl, ⟨_, _, rfl, ⟨A2, c2, rfl, l2, g2⟩, ⟨_, _, rfl, rfl, ⟨_, _, rfl, rfl, rfl⟩⟩⟩⟩⟩ := h
  exact ⟨A2, c2, rfl, l2, g2⟩
theorem k38_openM {w : World} {base : Nat} {ok : Nat → Prop} {x : S38} {cs : List Value} (h : k38.M w base ok x cs) : ∃ v2, cs = [.string x.f0, .string x.f1, v2, .string x.f3, .int .i64 x.f4, .bool x.f5] ∧ k86.R 86 w base ok v2 x.f2 := by
  obtain ⟨_, _, rfl, rfl, ⟨_, _, rfl, rfl, ⟨_, _, rfl, ⟨v2, rfl, g2⟩, ⟨_, _, rfl, rfl, ⟨_, _, rfl, rfl, rfl⟩⟩⟩⟩⟩ := h
  exact ⟨v2, rfl, g2⟩
theorem k38_mk (w : World) (x : S38) {A2 : Option Addr} {c2 : Nat} (l2 : x.f2.length ≤ c2) (g2 : k86.C w A2 x.f2.length x.f2) : k38.K w x [.string x.f0, .string x.f1, .slice A2 x.f2.length c2, .string x.f3, .int .i64 x.f4, .bool x.f5] := ⟨[.string x.f0], [.string x.f1, .slice A2 x.f2.length c2, .string x.f3, .int .i64 x.f4, .bool x.f5], rfl, rfl, ⟨[.string x.f1], [.slice A2 x.f2.length c2, .string x.f3, .int .i64 x.f4, .bool x.f5], rfl, rfl, ⟨[.slice A2 x.f2.length c2], [.string x.f3, .int .i64 x.f4, .bool x.f5], rfl, ⟨A2, c2, rfl, l2, g2⟩, ⟨[.string x.f3], [.int .i64 x.f4, .bool x.f5], rfl, rfl, ⟨[.int .i64 x.f4], [.bool x.f5], rfl, rfl, rfl⟩⟩⟩⟩⟩
theorem k38_mkM (w : World) (base : Nat) (ok : Nat → Prop) (x : S38) {v2 : Value} (g2 : k86.R 86 w base ok v2 x.f2) : k38.M w base ok x [.string x.f0, .string x.f1, v2, .string x.f3, .int .i64 x.f4, .bool x.f5] := ⟨[.string x.f0], [.string x.f1, v2, .string x.f3, .int .i64 x.f4, .bool x.f5], rfl, rfl, ⟨[.string x.f1], [v2, .string x.f3, .int .i64 x.f4, .bool x.f5], rfl, rfl, ⟨[v2], [.string x.f3, .int .i64 x.f4, .bool x.f5], rfl, ⟨v2, rfl, g2⟩, ⟨[.string x.f3], [.int .i64 x.f4, .bool x.f5], rfl, rfl, ⟨[.int .i64 x.f4], [.bool x.f5], rfl, rfl, rfl⟩⟩⟩⟩⟩
def rd_T38 (xs : List S38) (i : Int) : S38 := xs.getD i.toNat z38
theorem at_T38 {w : World} {A : Option Addr} {n : Nat} {xs : List S38} (h : Kd.C k38 w A n xs) (i : Int) (h0 : 0 ≤ i) (h1 : i < n) : ∃ ad A2 c2, A = some ad ∧ w.cell? (ad.add (i.toNat * 6)) = some (.string (rd_T38 xs i).f0) ∧ w.cell? ⟨(ad.add (i.toNat * 6)).block, (ad.add (i.toNat * 6)).off + 1, none⟩ = some (.string (rd_T38 xs i).f1) ∧ w.cell? ⟨(ad.add (i.toNat * 6)).block, (ad.add (i.toNat * 6)).off + 2, none⟩ = some (.slice A2 (rd_T38 xs i).f2.length c2) ∧ w.cell? ⟨(ad.add (i.toNat * 6)).block, (ad.add (i.toNat * 6)).off + 3, none⟩ = some (.string (rd_T38 xs i).f3) ∧ w.cell? ⟨(ad.add (i.toNat * 6)).block, (ad.add (i.toNat * 6)).off + 4, none⟩ = some (.int .i64 (rd_T38 xs i).f4) ∧ w.cell? ⟨(ad.add (i.toNat * 6)).block, (ad.add (i.toNat * 6)).off + 5, none⟩ = some (.bool (rd_T38 xs i).f5) ∧ (rd_T38 xs i).f2.length ≤ c2 ∧ k86.C w A2 (rd_T38 xs i).f2.length (rd_T38 xs i).f2 := by
  obtain ⟨ad, c, e, _, hK, hc0⟩ := Kd.C_get h z38 i h0 h1
  have hc : ∀ j u, c[j]? = some u → w.cell? (ad.add (i.toNat * 6 + j)) = some u := hc0
  obtain ⟨A2, c2, rfl, l2, g2⟩ := k38_open hK
  exact ⟨ad, A2, c2, e, hc 0 _ rfl, by rw [← add_field _ _ 1 (by omega)]; exact hc 1 _ rfl, by rw [← add_field _ _ 2 (by omega)]; exact hc 2 _ rfl, by rw [← add_field _ _ 3 (by omega)]; exact hc 3 _ rfl, by rw [← add_field _ _ 4 (by omega)]; exact hc 4 _ rfl, by rw [← add_field _ _ 5 (by omega)]; exact hc 5 _ rfl, l2, g2⟩


/-! #### struct type 41 -/
structure S41 where
  f0 : Int
  f1 : S25
  f2 : S27
  f3 : S29
  f4 : S31
  f5 : S34
  f6 : S36
  f7 : S38
  f8 : (List S117)
def z41 : S41 := ⟨(0 : Int), z25, z27, z29, z31, z34, z36, z38, ([] : List S117)⟩
def k41 : Kd S41 := Kd.iso (Kd.pair (Kd.int .i64) (Kd.pair k25 (Kd.pair k27 (Kd.pair k29 (Kd.pair k31 (Kd.pair k34 (Kd.pair k36 (Kd.pair k38 (Kd.slice 117 k117))))))))) (fun x : S41 => (x.f0, x.f1, x.f2, x.f3, x.f4, x.f5, x.f6, x.f7, x.f8))
theorem k41_open {w : World} {x : S41} {cs : List Value} (h : k41.K w x cs) : ∃ A3 c3 A8 c8 A16 c16 A28 c28 A29 c29 A37 c37 A41 c41 A45 c45, cs = [.int .i64 x.f0, .string x.f1.f0, .string x.f1.f1, .slice A3 x.f1.f2.length c3, .string x.f2.f0, .string x.f2.f1, .string x.f2.f2, .string x.f2.f3, .slice A8 x.f2.f4.length c8, .string x.f2.f5, .bool x.f2.f6, .bool x.f2.f7, .int .i64 x.f2.f8, .string x.f3.f0, .string x.f3.f1, .string x.f3.f2, .slice A16 x.f3.f3.length c16, .int .i64 x.f3.f4, .int .i64 x.f3.f5, .bool x.f3.f6, .string x.f4.f0, .string x.f4.f1, .int .i64 x.f4.f2, .string x.f5.f0, .string x.f5.f1, .string x.f5.f2, .string x.f5.f3, .string x.f5.f4, .slice A28 x.f5.f5.length c28, .slice A29 x.f5.f6.length c29, .int .i64 x.f5.f7, .int .i64 x.f5.f8, .bool x.f5.f9, .string x.f6.f0, .string x.f6.f1, .string x.f6.f2, .string x.f6.f3, .slice A37 x.f6.f4.length c37, .string x.f6.f5, .string x.f7.f0, .string x.f7.f1, .slice A41 x.f7.f2.length c41, .string x.f7.f3, .int .i64 x.f7.f4, .bool x.f7.f5, .slice A45 x.f8.length c45] ∧ x.f1.f2.length ≤ c3 ∧ Kd.string.C w A3 x.f1.f2.length x.f1.f2 ∧ x.f2.f4.length ≤ c8 ∧ Kd.string.C w A8 x.f2.f4.length x.f2.f4 ∧ x.f3.f3.length ≤ c16 ∧ Kd.string.C w A16 x.f3.f3.length x.f3.f3 ∧ x.f5.f5.length ≤ c28 ∧ Kd.string.C w A28 x.f5.f5.length x.f5.f5 ∧ x.f5.f6.length ≤ c29 ∧ k86.C w A29 x.f5.f6.length x.f5.f6 ∧ x.f6.f4.length ≤ c37 ∧ Kd.string.C w A37 x.f6.f4.length x.f6.f4 ∧ x.f7.f2.length ≤ c41 ∧ k86.C w A41 x.f7.f2.length x.f7.f2 ∧ x.f8.length ≤ c45 ∧ k117.C w A45 x.f8.length x.f8 := by
  obtain ⟨_, _, rfl, rfl, ⟨_, _, rfl, s1, ⟨_, _, rfl, s4, ⟨_, _, rfl, s13, ⟨_, _, rfl, s20, ⟨_, _, rfl, s23, ⟨_, _, rfl, s33, ⟨_, _, rfl, s39, ⟨A45, c45, rfl, l45, g45⟩⟩⟩⟩⟩⟩⟩⟩⟩ := h
  obtain ⟨A3, c3, rfl, l3, g3⟩ := k25_open s1
  obtain ⟨A8, c8, rfl, l8, g8⟩ := k27_open s4
  obtain ⟨A16, c16, rfl, l16, g16⟩ := k29_open s13
  obtain rfl := k31_open s20
  obtain ⟨A28, c28, A29, c29, rfl, l28, g28, l29, g29⟩ := k34_open s23
  obtain ⟨A37, c37, rfl, l37, g37⟩ := k36_open s33
  obtain ⟨A41, c41, rfl, l41, g41⟩ := k38_open s39
  exact ⟨A3, c3, A8, c8, A16, c16, A28, c28, A29, c29, A37, c37, A41, c41, A45, c45, rfl, l3, g3, l8, g8, l16, g16, l28, g28, l29, g29, l37, g37, l41, g41, l45, g45⟩
theorem k41_openM {w : World} {base : Nat} {ok : Nat → Prop} {x : S41} {cs : List Value} (h : k41.M w base ok x cs) : ∃ v3 v8 v16 v28 v29 v37 v41 v45, cs = [.int .i64 x.f0, .string x.f1.f0, .string x.f1.f1, v3, .string x.f2.f0, .string x.f2.f1, .string x.f2.f2, .string x.f2.f3, v8, .string x.f2.f5, .bool x.f2.f6, .bool x.f2.f7, .int .i64 x.f2.f8, .string x.f3.f0, .string x.f3.f1, .string x.f3.f2, v16, .int .i64 x.f3.f4, .int .i64 x.f3.f5, .bool x.f3.f6, .string x.f4.f0, .string x.f4.f1, .int .i64 x.f4.f2, .string x.f5.f0, .string x.f5.f1, .string x.f5.f2, .string x.f5.f3, .string x.f5.f4, v28, v29, .int .i64 x.f5.f7, .int .i64 x.f5.f8, .bool x.f5.f9, .string x.f6.f0, .string x.f6.f1, .string x.f6.f2, .string x.f6.f3, v37, .string x.f6.f5, .string x.f7.f0, .string x.f7.f1, v41, .string x.f7.f3, .int .i64 x.f7.f4, .bool x.f7.f5, v45] ∧ Kd.string.R 9 w base ok v3 x.f1.f2 ∧ Kd.string.R 9 w base ok v8 x.f2.f4 ∧ Kd.string.R 9 w base ok v16 x.f3.f3 ∧ Kd.string.R 9 w base ok v28 x.f5.f5 ∧ k86.R 86 w base ok v29 x.f5.f6 ∧ Kd.string.R 9 w base ok v37 x.f6.f4 ∧ k86.R 86 w base ok v41 x.f7.f2 ∧ k117.R 117 w base ok v45 x.f8 := by
  obtain ⟨_, _, rfl, rfl, ⟨_, _, rfl, s1, ⟨_, _, rfl, s4, ⟨_, _, rfl, s13, ⟨_, _, rfl, s20, ⟨_, _, rfl, s23, ⟨_, _, rfl, s33, ⟨_, _, rfl, s39, ⟨v45, rfl, g45⟩⟩⟩⟩⟩⟩⟩⟩⟩ := h
  obtain ⟨v3, rfl, g3⟩ := k25_openM s1
  obtain ⟨v8, rfl, g8⟩ := k27_openM s4
  obtain ⟨v16, rfl, g16⟩ := k29_openM s13
  obtain rfl := k31_openM s20
  obtain ⟨v28, v29, rfl, g28, g29⟩ := k34_openM s23
  obtain ⟨v37, rfl, g37⟩ := k36_openM s33
  obtain ⟨v41, rfl, g41⟩ := k38_openM s39
  exact ⟨v3, v8, v16, v28, v29, v37, v41, v45, rfl, g3, g8, g16, g28, g29, g37, g41, g45⟩
theorem k41_mk (w : World) (x : S41) {A3 : Option Addr} {c3 : Nat} (l3 : x.f1.f2.length ≤ c3) (g3 : Kd.string.C w A3 x.f1.f2.length x.f1.f2) {A8 : Option Addr} {c8 : Nat} (l8 : x.f2.f4.length ≤ c8) (g8 : Kd.string.C w A8 x.f2.f4.length x.f2.f4) {A16 : Option Addr} {c16 : Nat} (l16 : x.f3.f3.length ≤ c16) (g16 : Kd.string.C w A16 x.f3.f3.length x.f3.f3) {A28 : Option Addr} {c28 : Nat} (l28 : x.f5.f5.length ≤ c28) (g28 : Kd.string.C w A28 x.f5.f5.length x.f5.f5) {A29 : Option Addr} {c29 : Nat} (l29 : x.f5.f6.length ≤ c29) (g29 : k86.C w A29 x.f5.f6.length x.f5.f6) {A37 : Option Addr} {c37 : Nat} (l37 : x.f6.f4.length ≤ c37) (g37 : Kd.string.C w A37 x.f6.f4.length x.f6.f4) {A41 : Option Addr} {c41 : Nat} (l41 : x.f7.f2.length ≤ c41) (g41 : k86.C w A41 x.f7.f2.length x.f7.f2) {A45 : Option Addr} {c45 : Nat} (l45 : x.f8.length ≤ c45) (g45 : k117.C w A45 x.f8.length x.f8) : k41.K w x [.int .i64 x.f0, .string x.f1.f0, .string x.f1.f1, .slice A3 x.f1.f2.length c3, .string x.f2.f0, .string x.f2.f1, .string x.f2.f2, .string x.f2.f3, .slice A8 x.f2.f4.length c8, .string x.f2.f5, .bool x.f2.f6, .bool x.f2.f7, .int .i64 x.f2.f8, .string x.f3.f0, .string x.f3.f1, .string x.f3.f2, .slice A16 x.f3.f3.length c16, .int .i64 x.f3.f4, .int .i64 x.f3.f5, .bool x.f3.f6, .string x.f4.f0, .string x.f4.f1, .int .i64 x.f4.f2, .string x.f5.f0, .string x.f5.f1, .string x.f5.f2, .string x.f5.f3, .string x.f5.f4, .slice A28 x.f5.f5.length c28, .slice A29 x.f5.f6.length c29, .int .i64 x.f5.f7, .int .i64 x.f5.f8, .bool x.f5.f9, .string x.f6.f0, .string x.f6.f1, .string x.f6.f2, .string x.f6.f3, .slice A37 x.f6.f4.length c37, .string x.f6.f5, .string x.f7.f0, .string x.f7.f1, .slice A41 x.f7.f2.length c41, .string x.f7.f3, .int .i64 x.f7.f4, .bool x.f7.f5, .slice A45 x.f8.length c45] := ⟨[.int .i64 x.f0], [.string x.f1.f0, .string x.f1.f1, .slice A3 x.f1.f2.length c3, .string x.f2.f0, .string x.f2.f1, .string x.f2.f2, .string x.f2.f3, .slice A8 x.f2.f4.length c8, .string x.f2.f5, .bool x.f2.f6, .bool x.f2.f7, .int .i64 x.f2.f8, .string x.f3.f0, .string x.f3.f1, .string x.f3.f2, .slice A16 x.f3.f3.length c16, .int .i64 x.f3.f4, .int .i64 x.f3.f5, .bool x.f3.f6, .string x.f4.f0, .string x.f4.f1, .int .i64 x.f4.f2, .string x.f5.f0, .string x.f5.f1, .string x.f5.f2, .string x.f5.f3, .string x.f5.f4, .slice A28 x.f5.f5.length c28, .slice A29 x.f5.f6.length c29, .int .i64 x.f5.f7, .int .i64 x.f5.f8, .bool x.f5.f9, .string x.f6.f0, .string x.f6.f1, .string x.f6.f2, .string x.f6.f3, .slice A37 x.f6.f4.length c37, .string x.f6.f5, .string x.f7.f0, .string x.f7.f1, .slice A41 x.f7.f2.length c41, .string x.f7.f3, .int .i64 x.f7.f4, .bool x.f7.f5, .slice A45 x.f8.length c45], rfl, rfl, ⟨[.string x.f1.f0, .string x.f1.f1, .slice A3 x.f1.f2.length c3], [.string x.f2.f0, .string x.f2.f1, .string x.f2.f2, .string x.f2.f3, .slice A8 x.f2.f4.length c8, .string x.f2.f5, .bool x.f2.f6, .bool x.f2.f7, .int .i64 x.f2.f8, .string x.f3.f0, .string x.f3.f1, .string x.f3.f2, .slice A16 x.f3.f3.length c16, .int .i64 x.f3.f4, .int .i64 x.f3.f5, .bool x.f3.f6, .string x.f4.f0, .string x.f4.f1, .int .i64 x.f4.f2, .string x.f5.f0, .string x.f5.f1, .string x.f5.f2, .string x.f5.f3, .string x.f5.f4, .slice A28 x.f5.f5.length c28, .slice A29 x.f5.f6.length c29, .int .i64 x.f5.f7, .int .i64 x.f5.f8, .bool x.f5.f9, .string x.f6.f0, .string x.f6.f1, .string x.f6.f2, .string x.f6.f3, .slice A37 x.f6.f4.length c37, .string x.f6.f5, .string x.f7.f0, .string x.f7.f1, .slice A41 x.f7.f2.length c41, .string x.f7.f3, .int .i64 x.f7.f4, .bool x.f7.f5, .slice A45 x.f8.length c45], rfl, (k25_mk w x.f1 l3 g3), ⟨[.string x.f2.f0, .string x.f2.f1, .string x.f2.f2, .string x.f2.f3, .slice A8 x.f2.f4.length c8, .string x.f2.f5, .bool x.f2.f6, .bool x.f2.f7, .int .i64 x.f2.f8], [.string x.f3.f0, .string x.f3.f1, .string x.f3.f2, .slice A16 x.f3.f3.length c16, .int .i64 x.f3.f4, .int .i64 x.f3.f5, .bool x.f3.f6, .string x.f4.f0, .string x.f4.f1, .int .i64 x.f4.f2, .string x.f5.f0, .string x.f5.f1, .string x.f5.f2, .string x.f5.f3, .string x.f5.f4, .slice A28 x.f5.f5.length c28, .slice A29 x.f5.f6.length c29, .int .i64 x.f5.f7, .int .i64 x.f5.f8, .bool x.f5.f9, .string x.f6.f0, .string x.f6.f1, .string x.f6.f2, .string x.f6.f3, .slice A37 x.f6.f4.length c37, .string x.f6.f5, .string x.f7.f0, .string x.f7.f1, .slice A41 x.f7.f2.length c41, .string x.f7.f3, .int .i64 x.f7.f4, .bool x.f7.f5, .slice A45 x.f8.length c45], rfl, (k27_mk w x.f2 l8 g8), ⟨[.string x.f3.f0, .string x.f3.f1, .string x.f3.f2, .slice A16 x.f3.f3.length c16, .int .i64 x.f3.f4, .int .i64 x.f3.f5, .bool x.f3.f6], [.string x.f4.f0, .string x.f4.f1, .int .i64 x.f4.f2, .string x.f5.f0, .string x.f5.f1, .string x.f5.f2, .string x.f5.f3, .string x.f5.f4, .slice A28 x.f5.f5.length c28, .slice A29 x.f5.f6.length c29, .int .i64 x.f5.f7, .int .i64 x.f5.f8, .bool x.f5.f9, .string x.f6.f0, .string x.f6.f1, .string x.f6.f2, .string x.f6.f3, .slice A37 x.f6.f4.length c37, .string x.f6.f5, .string x.f7.f0, .string x.f7.f1, .slice A41 x.f7.f2.length c41, .string x.f7.f3, .int .i64 x.f7.f4, .bool x.f7.f5, .slice A45 x.f8.length c45], rfl, (k29_mk w x.f3 l16 g16), ⟨[.string x.f4.f0, .string x.f4.f1, .int .i64 x.f4.f2], [.string x.f5.f0, .string x.f5.f1, .string x.f5.f2, .string x.f5.f3, .string x.f5.f4, .slice A28 x.f5.f5.length c28, .slice A29 x.f5.f6.length c29, .int .i64 x.f5.f7, .int .i64 x.f5.f8, .bool x.f5.f9, .string x.f6.f0, .string x.f6.f1, .string x.f6.f2, .string x.f6.f3, .slice A37 x.f6.f4.length c37, .string x.f6.f5, .string x.f7.f0, .string x.f7.f1, .slice A41 x.f7.f2.length c41, .string x.f7.f3, .int .i64 x.f7.f4, .bool x.f7.f5, .slice A45 x.f8.length c45], rfl, (k31_mk w x.f4 ), ⟨[.string x.f5.f0, .string x.f5.f1, .string x.f5.f2, .string x.f5.f3, .string x.f5.f4, .slice A28 x.f5.f5.length c28, .slice A29 x.f5.f6.length c29, .int .i64 x.f5.f7, .int .i64 x.f5.f8, .bool x.f5.f9], [.string x.f6.f0, .string x.f6.f1, .string x.f6.f2, .string x.f6.f3, .slice A37 x.f6.f4.length c37, .string x.f6.f5, .string x.f7.f0, .string x.f7.f1, .slice A41 x.f7.f2.length c41, .string x.f7.f3, .int .i64 x.f7.f4, .bool x.f7.f5, .slice A45 x.f8.length c45], rfl, (k34_mk w x.f5 l28 g28 l29 g29), ⟨[.string x.f6.f0, .string x.f6.f1, .string x.f6.f2, .string x.f6.f3, .slice A37 x.f6.f4.length c37, .string x.f6.f5], [.string x.f7.f0, .string x.f7.f1, .slice A41 x.f7.f2.length c41, .string x.f7.f3, .int .i64 x.f7.f4, .bool x.f7.f5, .slice A45 x.f8.length c45], rfl, (k36_mk w x.f6 l37 g37), ⟨[.string x.f7.f0, .string x.f7.f1, .slice A41 x.f7.f2.length c41, .string x.f7.f3, .int .i64 x.f7.f4, .bool x.f7.f5], [.slice A45 x.f8.length c45], rfl, (k38_mk w x.f7 l41 g41), ⟨A45, c45, rfl, l45, g45⟩⟩⟩⟩⟩⟩⟩⟩⟩
theorem k41_mkM (w : World) (base : Nat) (ok : Nat → Prop) (x : S41) {v3 : Value} (g3 : Kd.string.R 9 w base ok v3 x.f1.f2) {v8 : Value} (g8 : Kd.string.R 9 w base ok v8 x.f2.f4) {v16 : Value} (g16 : Kd.string.R 9 w base ok v16 x.f3.f3) {v28 : Value} (g28 : Kd.string.R 9 w base ok v28 x.f5.f5) {v29 : Value} (g29 : k86.R 86 w base ok v29 x.f5.f6) {v37 : Value} (g37 : Kd.string.R 9 w base ok v37 x.f6.f4) {v41 : Value} (g41 : k86.R 86 w base ok v41 x.f7.f2) {v45 : Value} (g45 : k117.R 117 w base ok v45 x.f8) : k41.M w base ok x [.int .i64 x.f0, .string x.f1.f0, .string x.f1.f1, v3, .string x.f2.f0, .string x.f2.f1, .string x.f2.f2, .string x.f2.f3, v8, .string x.f2.f5, .bool x.f2.f6, .bool x.f2.f7, .int .i64 x.f2.f8, .string x.f3.f0, .string x.f3.f1, .string x.f3.f2, v16, .int .i64 x.f3.f4, .int .i64 x.f3.f5, .bool x.f3.f6, .string x.f4.f0, .string x.f4.f1, .int .i64 x.f4.f2, .string x.f5.f0, .string x.f5.f1, .string x.f5.f2, .string x.f5.f3, .string x.f5.f4, v28, v29, .int .i64 x.f5.f7, .int .i64 x.f5.f8, .bool x.f5.f9, .string x.f6.f0, .string x.f6.f1, .string x.f6.f2, .string x.f6.f3, v37, .string x.f6.f5, .string x.f7.f0, .string x.f7.f1, v41, .string x.f7.f3, .int .i64 x.f7.f4, .bool x.f7.f5, v45] := ⟨[.int .i64 x.f0], [.string x.f1.f0, .string x.f1.f1, v3, .string x.f2.f0, .string x.f2.f1, .string x.f2.f2, .string x.f2.f3, v8, .string x.f2.f5, .bool x.f2.f6, .bool x.f2.f7, .int .i64 x.f2.f8, .string x.f3.f0, .string x.f3.f1, .string x.f3.f2, v16, .int .i64 x.f3.f4, .int .i64 x.f3.f5, .bool x.f3.f6, .string x.f4.f0, .string x.f4.f1, .int .i64 x.f4.f2, .string x.f5.f0, .string x.f5.f1, .string x.f5.f2, .string x.f5.f3, .string x.f5.f4, v28, v29, .int .i64 x.f5.f7, .int .i64 x.f5.f8, .bool x.f5.f9, .string x.f6.f0, .string x.f6.f1, .string x.f6.f2, .string x.f6.f3, v37, .string x.f6.f5, .string x.f7.f0, .string x.f7.f1, v41, .string x.f7.f3, .int .i64 x.f7.f4, .bool x.f7.f5, v45], rfl, rfl, ⟨[.string x.f1.f0, .string x.f1.f1, v3], [.string x.f2.f0, .string x.f2.f1, .string x.f2.f2, .string x.f2.f3, v8, .string x.f2.f5, .bool x.f2.f6, .bool x.f2.f7, .int .i64 x.f2.f8, .string x.f3.f0, .string x.f3.f1, .string x.f3.f2, v16, .int .i64 x.f3.f4, .int .i64 x.f3.f5, .bool x.f3.f6, .string x.f4.f0, .string x.f4.f1, .int .i64 x.f4.f2, .string x.f5.f0, .string x.f5.f1, .string x.f5.f2, .string x.f5.f3, .string x.f5.f4, v28, v29, .int .i64 x.f5.f7, .int .i64 x.f5.f8, .bool x.f5.f9, .string x.f6.f0, .string x.f6.f1, .string x.f6.f2, .string x.f6.f3, v37, .string x.f6.f5, .string x.f7.f0, .string x.f7.f1, v41, .string x.f7.f3, .int .i64 x.f7.f4, .bool x.f7.f5, v45], rfl, (k25_mkM w base ok x.f1 g3), ⟨[.string x.f2.f0, .string x.f2.f1, .string x.f2.f2, .string x.f2.f3, v8, .string x.f2.f5, .bool x.f2.f6, .bool x.f2.f7, .int .i64 x.f2.f8], [.string x.f3.f0, .string x.f3.f1, .string x.f3.f2, v16, .int .i64 x.f3.f4, .int .i64 x.f3.f5, .bool x.f3.f6, .string x.f4.f0, .string x.f4.f1, .int .i64 x.f4.f2, .string x.f5.f0, .string x.f5.f1, .string x.f5.f2, .string x.f5.f3, .string x.f5.f4, v28, v29, .int .i64 x.f5.f7, .int .i64 x.f5.f8, .bool x.f5.f9, .string x.f6.f0, .string x.f6.f1, .string x.f6.f2, .string x.f6.f3, v37, .string x.f6.f5, .string x.f7.f0, .string x.f7.f1, v41, .string x.f7.f3, .int .i64 x.f7.f4, .bool x.f7.f5, v45], rfl, (k27_mkM w base ok x.f2 g8), ⟨[.string x.f3.f0, .string x.f3.f1, .string x.f3.f2, v16, .int .i64 x.f3.f4, .int .i64 x.f3.f5, .bool x.f3.f6], [.string x.f4.f0, .string x.f4.f1, .int .i64 x.f4.f2, .string x.f5.f0, .string x.f5.f1, .string x.f5.f2, .string x.f5.f3, .string x.f5.f4, v28, v29, .int .i64 x.f5.f7, .int .i64 x.f5.f8, .bool x.f5.f9, .string x.f6.f0, .string x.f6.f1, .string x.f6.f2, .string x.f6.f3, v37, .string x.f6.f5, .string x.f7.f0, .string x.f7.f1, v41, .string x.f7.f3, .int .i64 x.f7.f4, .bool x.f7.f5, v45], rfl, (k29_mkM w base ok x.f3 g16), ⟨[.string x.f4.f0, .string x.f4.f1, .int .i64 x.f4.f2], [.string x.f5.f0, .string x.f5.f1, .string x.f5.f2, .string x.f5.f3, .string x.f5.f4, v28, v29, .int .i64 x.f5.f7, .int .i64 x.f5.f8, .bool x.f5.f9, .string x.f6.f0, .string x.f6.f1, .string x.f6.f2, .string x.f6.f3, v37, .string x.f6.f5, .string x.f7.f0, .string x.f7.f1, v41, .string x.f7.f3, .int .i64 x.f7.f4, .bool x.f7.f5, v45], rfl, (k31_mkM w base ok x.f4 ), ⟨[.string x.f5.f0, .string x.f5.f1, .string x.f5.f2, .string x.f5.f3, .string x.f5.f4, v28, v29, .int .i64 x.f5.f7, .int .i64 x.f5.f8, .bool x.f5.f9], [.string x.f6.f0, .string x.f6.f1, .string x.f6.f2, .string x.f6.f3, v37, .string x.f6.f5, .string x.f7.f0, .string x.f7.f1, v41, .string x.f7.f3, .int .i64 x.f7.f4, .bool x.f7.f5, v45], rfl, (k34_mkM w base ok x.f5 g28 g29), ⟨[.string x.f6.f0, .string x.f6.f1, .string x.f6.f2, .string x.f6.f3, v37, .string x.f6.f5], [.string x.f7.f0, .string x.f7.f1, v41, .string x.f7.f3, .int .i64 x.f7.f4, .bool x.f7.f5, v45], rfl, (k36_mkM w base ok x.f6 g37), ⟨[.string x.f7.f0, .string x.f7.f1, v41, .string x.f7.f3, .int .i64 x.f7.f4, .bool x.f7.f5], [v45], rfl, (k38_mkM w base ok x.f7 g41), ⟨v45, rfl, g45⟩⟩⟩⟩⟩⟩⟩⟩⟩
def rd_T41 (xs : List S41) (i : Int) : S41 := xs.getD i.toNat z41
theorem at_T41 {w : World} {A : Option Addr} {n : Nat} {xs : List S41} (h : Kd.C k41 w A n xs) (i : Int) (h0 : 0 ≤ i) (h1 : i < n) : ∃ ad A3 c3 A8 c8 A16 c16 A28 c28 A29 c29 A37 c37 A41 c41 A45 c45, A = some ad ∧ w.cell? (ad.add (i.toNat * 46)) = some (.int .i64 (rd_T41 xs i).f0) ∧ w.cell? ⟨(ad.add (i.toNat * 46)).block, (ad.add (i.toNat * 46)).off + 1, none⟩ = some (.string (rd_T41 xs i).f1.f0) ∧ w.cell? ⟨(ad.add (i.toNat * 46)).block, (ad.add (i.toNat * 46)).off + 2, none⟩ = some (.string (rd_T41 xs i).f1.f1) ∧ w.cell? ⟨(ad.add (i.toNat * 46)).block, (ad.add (i.toNat * 46)).off + 3, none⟩ = some (.slice A3 (rd_T41 xs i).f1.f2.length c3) ∧ w.cell? ⟨(ad.add (i.toNat * 46)).block, (ad.add (i.toNat * 46)).off + 4, none⟩ = some (.string (rd_T41 xs i).f2.f0) ∧ w.cell? ⟨(ad.add (i.toNat * 46)).block, (ad.add (i.toNat * 46)).off + 5, none⟩ = some (.string (rd_T41 xs i).f2.f1) ∧ w.cell? ⟨(ad.add (i.toNat * 46)).block, (ad.add (i.toNat * 46)).off + 6, none⟩ = some (.string (rd_T41 xs i).f2.f2) ∧ w.cell? ⟨(ad.add (i.toNat * 46)).block, (ad.add (i.toNat * 46)).off + 7, none⟩ = some (.string (rd_T41 xs i).f2.f3) ∧ w.cell? ⟨(ad.add (i.toNat * 46)).block, (ad.add (i.toNat * 46)).off + 8, none⟩ = some (.slice A8 (rd_T41 xs i).f2.f4.length c8) ∧ w.cell? ⟨(ad.add (i.toNat * 46)).block, (ad.add (i.toNat * 46)).off + 9, none⟩ = some (.string (rd_T41 xs i).f2.f5) ∧ w.cell? ⟨(ad.add (i.toNat * 46)).block, (ad.add (i.toNat * 46)).off + 10, none⟩ = some (.bool (rd_T41 xs i).f2.f6) ∧ w.cell? ⟨(ad.add (i.toNat * 46)).block, (ad.add (i.toNat * 46)).off + 11, none⟩ = some (.bool (rd_T41 xs i).f2.f7) ∧ w.cell? ⟨(ad.add (i.toNat * 46)).block, (ad.add (i.toNat * 46)).off + 12, none⟩ = some (.int .i64 (rd_T41 xs i).f2.f8) ∧ w.cell? ⟨(ad.add (i.toNat * 46)).block, (ad.add (i.toNat * 46)).off + 13, none⟩ = some (.string (rd_T41 xs i).f3.f0) ∧ w.cell? ⟨(ad.add (i.toNat * 46)).block, (ad.add (i.toNat * 46)).off + 14, none⟩ = some (.string (rd_T41 xs i).f3.f1) ∧ w.cell? ⟨(ad.add (i.toNat * 46)).block, (ad.add (i.toNat * 46)).off + 15, none⟩ = some (.string (rd_T41 xs i).f3.f2) ∧ w.cell? ⟨(ad.add (i.toNat * 46)).block, (ad.add (i.toNat * 46)).off + 16, none⟩ = some (.slice A16 (rd_T41 xs i).f3.f3.length c16) ∧ w.cell? ⟨(ad.add (i.toNat * 46)).block, (ad.add (i.toNat * 46)).off + 17, none⟩ = some (.int .i64 (rd_T41 xs i).f3.f4) ∧ w.cell? ⟨(ad.add (i.toNat * 46)).block, (ad.add (i.toNat * 46)).off + 18, none⟩ = some (.int .i64 (rd_T41 xs i).f3.f5) ∧ w.cell? ⟨(ad.add (i.toNat * 46)).block, (ad.add (i.toNat * 46)).off + 19, none⟩ = some (.bool (rd_T41 xs i).f3.f6) ∧ w.cell? ⟨(ad.add (i.toNat * 46)).block, (ad.add (i.toNat * 46)).off + 20, none⟩ = some (.string (rd_T41 xs i).f4.f0) ∧ w.cell? ⟨(ad.add (i.toNat * 46)).block, (ad.add (i.toNat * 46)).off + 21, none⟩ = some (.string (rd_T41 xs i).f4.f1) ∧ w.cell? ⟨(ad.add (i.toNat * 46)).block, (ad.add (i.toNat * 46)).off + 22, none⟩ = some (.int .i64 (rd_T41 xs i).f4.f2) ∧ w.cell? ⟨(ad.add (i.toNat * 46)).block, (ad.add (i.toNat * 46)).off + 23, none⟩ = some (.string (rd_T41 xs i).f5.f0) ∧ w.cell? ⟨(ad.add (i.toNat * 46)).block, (ad.add (i.toNat * 46)).off + 24, none⟩ = some (.string (rd_T41 xs i).f5.f1) ∧ w.cell? ⟨(ad.add (i.toNat * 46)).block, (ad.add (i.toNat * 46)).off + 25, none⟩ = some (.string (rd_T41 xs i).f5.f2) ∧ w.cell? ⟨(ad.add (i.toNat * 46)).block, (ad.add (i.toNat * 46)).off + 26, none⟩ = some (.string (rd_T41 xs i).f5.f3) ∧ w.cell? ⟨(ad.add (i.toNat * 46)).block, (ad.add (i.toNat * 46)).off + 27, none⟩ = some (.string (rd_T41 xs i).f5.f4) ∧ w.cell? ⟨(ad.add (i.toNat * 46)).block, (ad.add (i.toNat * 46)).off + 28, none⟩ = some (.slice A28 (rd_T41 xs i).f5.f5.length c28) ∧ w.cell? ⟨(ad.add (i.toNat * 46)).block, (ad.add (i.toNat * 46)).off + 29, none⟩ = some (.slice A29 (rd_T41 xs i).f5.f6.length c29) ∧ w.cell? ⟨(ad.add (i.toNat * 46)).block, (ad.add (i.toNat * 46)).off + 30, none⟩ = some (.int .i64 (rd_T41 xs i).f5.f7) ∧ w.cell? ⟨(ad.add (i.toNat * 46)).block, (ad.add (i.toNat * 46)).off + 31, none⟩ = some (.int .i64 (rd_T41 xs i).f5.f8) ∧ w.cell? ⟨(ad.add (i.toNat * 46)).block, (ad.add (i.toNat * 46)).off + 32, none⟩ = some (.bool (rd_T41 xs i).f5.f9) ∧ w.cell? ⟨(ad.add (i.toNat * 46)).block, (ad.add (i.toNat * 46)).off + 33, none⟩ = some (.string (rd_T41 xs i).f6.f0) ∧ w.cell? ⟨(ad.add (i.toNat * 46)).block, (ad.add (i.toNat * 46)).off + 34, none⟩ = some (.string (rd_T41 xs i).f6.f1) ∧ w.cell? ⟨(ad.add (i.toNat * 46)).block, (ad.add (i.toNat * 46)).off + 35, none⟩ = some (.string (rd_T41 xs i).f6.f2) ∧ w.cell? ⟨(ad.add (i.toNat * 46)).block, (ad.add (i.toNat * 46)).off + 36, none⟩ = some (.string (rd_T41 xs i).f6.f3) ∧ w.cell? ⟨(ad.add (i.toNat * 46)).block, (ad.add (i.toNat * 46)).off + 37, none⟩ = some (.slice A37 (rd_T41 xs i).f6.f4.length c37) ∧ w.cell? ⟨(ad.add (i.toNat * 46)).block, (ad.add (i.toNat * 46)).off + 38, none⟩ = some (.string (rd_T41 xs i).f6.f5) ∧ w.cell? ⟨(ad.add (i.toNat * 46)).block, (ad.add (i.toNat * 46)).off + 39, none⟩ = some (.string (rd_T41 xs i).f7.f0) ∧ w.cell? ⟨(ad.add (i.toNat * 46)).block, (ad.add (i.toNat * 46)).off + 40, none⟩ = some (.string (rd_T41 xs i).f7.f1) ∧ w.cell? ⟨(ad.add (i.toNat * 46)).block, (ad.add (i.toNat * 46)).off + 41, none⟩ = some (.slice A41 (rd_T41 xs i).f7.f2.length c41) ∧ w.cell? ⟨(ad.add (i.toNat * 46)).block, (ad.add (i.toNat * 46)).off + 42, none⟩ = some (.string (rd_T41 xs i).f7.f3) ∧ w.cell? ⟨(ad.add (i.toNat * 46)).block, (ad.add (i.toNat * 46)).off + 43, none⟩ = some (.int .i64 (rd_T41 xs i).f7.f4) ∧ w.cell? ⟨(ad.add (i.toNat * 46)).block, (ad.add (i.toNat * 46)).off + 44, none⟩ = some (.bool (rd_T41 xs i).f7.f5) ∧ w.cell? ⟨(ad.add (i.toNat * 46)).block, (ad.add (i.toNat * 46)).off + 45, none⟩ = some (.slice A45 (rd_T41 xs i).f8.length c45) ∧ (rd_T41 xs i).f1.f2.length ≤ c3 ∧ Kd.string.C w A3 (rd_T41 xs i).f1.f2.length (rd_T41 xs i).f1.f2 ∧ (rd_T41 xs i).f2.f4.length ≤ c8 ∧ Kd.string.C w A8 (rd_T41 xs i).f2.f4.length (rd_T41 xs i).f2.f4 ∧ (rd_T41 xs i).f3.f3.length ≤ c16 ∧ Kd.string.C w A16 (rd_T41 xs i).f3.f3.length (rd_T41 xs i).f3.f3 ∧ (rd_T41 xs i).f5.f5.length ≤ c28 ∧ Kd.string.C w A28 (rd_T41 xs i).f5.f5.length (rd_T41 xs i).f5.f5 ∧ (rd_T41 xs i).f5.f6.length ≤ c29 ∧ k86.C w A29 (rd_T41 xs i).f5.f6.length (rd_T41 xs i).f5.f6 ∧ (rd_T41 xs i).f6.f4.length ≤ c37 ∧ Kd.string.C w A37 (rd_T41 xs i).f6.f4.length (rd_T41 xs i).f6.f4 ∧ (rd_T41 xs i).f7.f2.length ≤ c41 ∧ k86.C w A41 (rd_T41 xs i).f7.f2.length (rd_T41 xs i).f7.f2 ∧ (rd_T41 xs i).f8.length ≤ c45 ∧ k117.C w A45 (rd_T41 xs i).f8.length (rd_T41 xs i).f8 := by
  obtain ⟨ad, c, e, _, hK, hc0⟩ := Kd.C_get h z41 i h0 h1
  have hc : ∀ j u, c[j]? = some u → w.cell? (ad.add (i.toNat * 46 + j)) = some u := hc0
  obtain ⟨A3, c3, A8, c8, A16, c16, A28, c28, A29, c29, A37, c37, A41, c41, A45, c45, rfl, l3, g3, l8, g8, l16, g16, l28, g28, l29, g29, l37, g37, l41, g41, l45, g45⟩ := k41_open hK
  exact ⟨ad, A3, c3, A8, c8, A16, c16, A28, c28, A29, c29, A37, c37, A41, c41, A45, c45, e, hc 0 _ rfl, by rw [← add_field _ _ 1 (by omega)]; exact hc 1 _ rfl, by rw [← add_field _ _ 2 (by omega)]; exact hc 2 _ rfl, by rw [← add_field _ _ 3 (by omega)]; exact hc 3 _ rfl, by rw [← add_field _ _ 4 (by omega)]; exact hc 4 _ rfl, by rw [← add_field _ _ 5 (by omega)]; exact hc 5 _ rfl, by rw [← add_field _ _ 6 (by omega)]; exact hc 6 _ rfl, by rw [← add_field _ _ 7 (by omega)]; exact hc 7 _ rfl, by rw [← add_field _ _ 8 (by omega)]; exact hc 8 _ rfl, by rw [← add_field _ _ 9 (by omega)]; exact hc 9 _ rfl, by rw [← add_field _ _ 10 (by omega)]; exact hc 10 _ rfl, by rw [← add_field _ _ 11 (by omega)]; exact hc 11 _ rfl, by rw [← add_field _ _ 12 (by omega)]; exact hc 12 _ rfl, by rw [← add_field _ _ 13 (by omega)]; exact hc 13 _ rfl, by rw [← add_field _ _ 14 (by omega)]; exact hc 14 _ rfl, by rw [← add_field _ _ 15 (by omega)]; exact hc 15 _ rfl, by rw [← add_field _ _ 16 (by omega)]; exact hc 16 _ rfl, by rw [← add_field _ _ 17 (by omega)]; exact hc 17 _ rfl, by rw [← add_field _ _ 18 (by omega)]; exact hc 18 _ rfl, by rw [← add_field _ _ 19 (by omega)]; exact hc 19 _ rfl, by rw [← add_field _ _ 20 (by omega)]; exact hc 20 _ rfl, by rw [← add_field _ _ 21 (by omega)]; exact hc 21 _ rfl, by rw [← add_field _ _ 22 (by omega)]; exact hc 22 _ rfl, by rw [← add_field _ _ 23 (by omega)]; exact hc 23 _ rfl, by rw [← add_field _ _ 24 (by omega)]; exact hc 24 _ rfl, by rw [← add_field _ _ 25 (by omega)]; exact hc 25 _ rfl, by rw [← add_field _ _ 26 (by omega)]; exact hc 26 _ rfl, by rw [← add_field _ _ 27 (by omega)]; exact hc 27 _ rfl, by rw [← add_field _ _ 28 (by omega)]; exact hc 28 _ rfl, by rw [← add_field _ _ 29 (by omega)]; exact hc 29 _ rfl, by rw [← add_field _ _ 30 (by omega)]; exact hc 30 _ rfl, by rw [← add_field _ _ 31 (by omega)]; exact hc 31 _ rfl, by rw [← add_field _ _ 32 (by omega)]; exact hc 32 _ rfl, by rw [← add_field _ _ 33 (by omega)]; exact hc 33 _ rfl, by rw [← add_field _ _ 34 (by omega)]; exact hc 34 _ rfl, by rw [← add_field _ _ 35 (by omega)]; exact hc 35 _ rfl, by rw [← add_field _ _ 36 (by omega)]; exact hc 36 _ rfl, by rw [← add_field _ _ 37 (by omega)]; exact hc 37 _ rfl, by rw [← add_field _ _ 38 (by omega)]; exact hc 38 _ rfl, by rw [← add_field _ _ 39 (by omega)]; exact hc 39 _ rfl, by rw [← add_field _ _ 40 (by omega)]; exact hc 40 _ rfl, by rw [← add_field _ _ 41 (by omega)]; exact hc 41 _ rfl, by rw [← add_field _ _ 42 (by omega)]; exact hc 42 _ rfl, by rw [← add_field _ _ 43 (by omega)]; exact hc 43 _ rfl, by rw [← add_field _ _ 44 (by omega)]; exact hc 44 _ rfl, by rw [← add_field _ _ 45 (by omega)]; exact hc 45 _ rfl, l3, g3, l8, g8, l16, g16, l28, g28, l29, g29, l37, g37, l41, g41, l45, g45⟩

end Go.Proofs.YtcgjacffemjehaaDoor

namespace Go.Proofs.YtcgjacffemjehaaDoor
open Go.RowKit

/-- A fact kept from the walk. -/
theorem hid {p : Prop} (h : p) : RowKit.Hid p := h
theorem lt_of_cell {w : World} {a : Addr} {v : Value} (h : w.cell? a = some v) : a.block < w.heap.size := by
  rcases Nat.lt_or_ge a.block w.heap.size with h' | h'
  · exact h'
  · simp [World.cell?, Array.getElem?_eq_none h'] at h
/-- A store into one old block on both sides. -/
theorem below_setCell_both {B : Nat} {w w' : World} (h : Below B w w') (t : Addr) (v : Value) : Below B (w.setCell t v) (w'.setCell t v) := by
  refine ⟨h.os, h.tape, h.output, ?_, fun k hk => ?_⟩
  · have := h.size; simp [World.setCell]; omega
  · by_cases e : k = t.block
    · subst e; have := h.block t.block hk; simp only [World.setCell, Array.getElem?_modify]; rw [this]
    · rw [Below.heap_setCell _ _ _ _ e, Below.heap_setCell _ _ _ _ e]; exact h.block k hk
theorem below_of_set {w w1 : World} {o : Obj} {v : Value} (h : Below (w.alloc o).heap.size ((w.alloc o).setCell ⟨w.heap.size, 0, none⟩ v) w1) : Below w.heap.size w w1 :=
  (((Below.refl w.heap.size w).alloc (Nat.le_refl _) o).setCell (p := ⟨w.heap.size, 0, none⟩) (Nat.le_refl _) v).trans (h.mono (by simp))
theorem cell_of_set {w w1 : World} {T : TypeId} {v0 v : Value} (h : Below (w.alloc (.cells #[v0] T)).heap.size ((w.alloc (.cells #[v0] T)).setCell ⟨w.heap.size, 0, none⟩ v) w1) : w1.cell? ⟨w.heap.size, 0, none⟩ = some v := by
  rw [h.cell (p := ⟨w.heap.size, 0, none⟩) (by simp)]
  exact World.cell?_setCell_same (u := v0) _ _ _ (by simp)

end Go.Proofs.YtcgjacffemjehaaDoor

namespace Go.Proofs.YtcgjacffemjehaaDoor
open Go.RowKit

/-- A byte as a cell. -/
def cellOf (b : UInt8) : Value := .int .u8 b.toNat
theorem cellOf_def (b : UInt8) : cellOf b = .int .u8 b.toNat := rfl
/-- A text as a value. -/
abbrev strV (l : List UInt8) : Value := .string ⟨l.toArray⟩

theorem drop_set {α : Type} (C : Array α) (k : Nat) (v : α) (l : List α) (hk : k + 1 ≤ C.size) (h : C.toList.drop (k + 1) = l) :
    (C.setIfInBounds k v).toList.drop k = v :: l := by
  simp only [Array.toList_setIfInBounds]
  rw [List.drop_eq_getElem_cons (by simp; omega)]
  simp [List.drop_set, h]

theorem str_of_nums (l : List UInt8) : strOfNums (l.map fun b => (b.toNat : Int)) = ⟨l.toArray⟩ := by
  unfold strOfNums
  congr 1
  simp [Function.comp_def]

/-- string(b), b a piece of memory that reads as l. -/
theorem run_string_of_cells {P : Program} {w : World} {src e dst : TypeId} (hs : P.underlying src = some (.slice e)) (he : P.underlying e = some (.int .u8)) (hd : P.underlying dst = some .string)
    (b off len cap : Nat) (l : List UInt8) (hlen : l.length = len) (hcell : ∀ i, i < len → w.cell? ⟨b, off + i, none⟩ = some (cellOf (l.getD i 0))) :
    (convert src dst (.slice (some ⟨b, off, none⟩) len cap)).run P w = .ok (strV l) w := by
  have h := run_convert_bytes_arg (P := P) w src e hs he b off len cap (l.map fun b => (b.toNat : Int)) (by simpa using hlen)
    (fun i hi => by rw [hcell i hi]; simp [cellOf, List.getD, show i < l.length by omega]) dst hd
  rw [h, str_of_nums]

/-- The cells of a new block. -/
theorem cells_of_new (w : World) (C : Array Value) (T : TypeId) (k : Nat) (l : List UInt8) (h : C.toList.drop k = l.map cellOf) :
    ∀ i, i < l.length → (w.alloc (.cells C T)).cell? ⟨w.heap.size, k + i, none⟩ = some (cellOf (l.getD i 0)) := by
  intro i hi
  rw [World.cell?_alloc_new]
  have h2 : (C.toList.drop k)[i]? = some (cellOf (l.getD i 0)) := by rw [h]; simp [List.getD, hi]
  rw [List.getElem?_drop] at h2
  simpa using h2

/-- arr[j:], arr an array variable. -/
theorem run_array_from {P : Program} {T : TypeId} (hT : P.underlying T = some (.array (P.arrayLen T) (P.elem T))) (hs : ∀ w, (sizeOf (P.elem T)).run P w = .ok 1 w) (n : Nat) (hn : P.arrayLen T = n)
    (b : Nat) (j : Nat) (J : Int) (hJ : J = j) (hj : j < n) (w : World) :
    (Instr.sliceAt T (.pointer (some ⟨b, 0, none⟩)) (some (.int .i64 J)) none none).run P w = .ok (.slice (some ⟨b, j, none⟩) (n - j) (n - j)) w := by
  subst hJ
  rw [run_sliceAt_array_l w T _ hT .i64 j (by omega) (by omega), hs]
  simp [Result.andThen, slicedAt, hn, Addr.add, show ¬ n = j by omega]
  omega

/-- A string's byte, by its list. -/
theorem str_get (s : ByteArray) (i : Nat) (h : i < s.size) : s[i] = s.data.toList.getD i 0 := by
  have h' : i < s.data.toList.length := by simpa using h
  rw [List.getD_eq_getElem?_getD, List.getElem?_eq_getElem h']
  simp; rfl
theorem str_len (s : ByteArray) : s.data.toList.length = s.size := by simp
theorem str_toList (s : ByteArray) : s.toList = s.data.toList := Lib.toList_data s
theorem str_ne_empty (s : ByteArray) (h : 0 < s.size) : (!s.toList.isEmpty) = true := by
  rw [str_toList]
  have : s.data.toList ≠ [] := fun e => by have h2 := str_len s; rw [e] at h2; simp at h2; omega
  simpa using this
theorem str_empty (s : ByteArray) (h : s.size = 0) : s.toList = [] := by
  rw [str_toList]
  exact List.eq_nil_of_length_eq_zero (by simpa using h)
theorem str_not_empty (s : ByteArray) (h : 0 < s.size) : ¬ s.toList = [] := fun e => by
  rw [str_toList] at e
  have h2 := str_len s; rw [e] at h2; simp at h2; omega
theorem u8_beq (c : UInt8) (n : Nat) (hn : n < 256) : (((c.toNat : Int) == (n : Int)) = true) ↔ c = UInt8.ofNat n := by
  rw [beq_iff_eq]
  constructor
  · intro h
    have h' : c.toNat = n := by exact_mod_cast h
    rw [← h']; simp
  · intro h; subst h; simp; omega

/-- A text and a text. -/
theorem str_append (a b : List UInt8) : (⟨a.toArray⟩ : ByteArray) ++ ⟨b.toArray⟩ = ⟨(a ++ b).toArray⟩ := by
  apply ByteArray.ext
  simp
/-- A call that answers a text and writes nothing that was there. -/
def TextPost (l : List UInt8) (w : World) (e : Ending) (w' : World) : Prop := e = .returned (strV l) ∧ Below w.heap.size w w'
theorem TextPost.mk {l : List UInt8} {w w' : World} {v : Value} (h : v = strV l) (hb : Below w.heap.size w w') : TextPost l w (.returned v) w' := ⟨by rw [h], hb⟩
/-- string([]byte{c}). -/
theorem run_string_of_one {P : Program} {w : World} {src e dst : TypeId} (hs : P.underlying src = some (.slice e)) (he : P.underlying e = some (.int .u8)) (hd : P.underlying dst = some .string) (v : Value) (c : UInt8) (hv : v = cellOf c) :
    (convert src dst (.slice (some ⟨w.heap.size, 0, none⟩) 1 1)).run P (w.alloc (.cells #[v] e)) = .ok (.string ⟨#[c]⟩) (w.alloc (.cells #[v] e)) := by
  subst hv
  exact run_string_of_cells (P := P) (w := w.alloc (.cells #[cellOf c] e)) hs he hd w.heap.size 0 1 1 [c] rfl (fun i hi => by obtain rfl : i = 0 := (by omega); simp)

/-- One call behind another: nothing that was there is written. -/
theorem below_then {a b c : World} (h : Below a.heap.size a b) (k : Below b.heap.size b c) : Below a.heap.size a c := h.trans (k.mono h.size)
/-- A law's call: true, and nothing that was there is written. -/
def TruePost (w : World) (e : Ending) (w' : World) : Prop := e = .returned (.bool true) ∧ Below w.heap.size w w'
theorem TruePost.mk {w w' : World} {b : Bool} (h : b = true) (hb : Below w.heap.size w w') : TruePost w (.returned (.bool b)) w' := ⟨by rw [h], hb⟩
theorem int_beq_false {a b : Int} (h : ¬ a = b) : (a == b) = false := by simpa using h
theorem int_beq_true {a b : Int} (h : a = b) : (a == b) = true := by simpa using h
theorem u8_ne {c d : UInt8} (h : ¬ c = d) : ¬ c.toNat = d.toNat := fun e => h (UInt8.toNat_inj.1 e)
/-- string(b), b a new block. -/
theorem run_string_of_new {P : Program} {w : World} {src e dst : TypeId} (hs : P.underlying src = some (.slice e)) (he : P.underlying e = some (.int .u8)) (hd : P.underlying dst = some .string) (C : Array Value) (l : List UInt8) (hC : C.toList = l.map cellOf) (k : Nat) (hk : l.length = k) (m : Nat) :
    (convert src dst (.slice (some ⟨w.heap.size, 0, none⟩) k m)).run P (w.alloc (.cells C e)) = .ok (strV l) (w.alloc (.cells C e)) :=
  run_string_of_cells (P := P) (w := w.alloc (.cells C e)) hs he hd w.heap.size 0 k m l hk (fun i hi => cells_of_new w C e 0 l (by simpa using hC) i (by omega))
/-- []byte(s): a new block; nothing that was there is written. -/
theorem below_bytes (w : World) (e : TypeId) (s : ByteArray) : Below w.heap.size w (Lib.bytesWorld w e s) := by
  refine ⟨?_, ?_, ?_, ?_, fun k hk => Lib.bytesWorld_at_old w e s k hk⟩
  · unfold Lib.bytesWorld World.freeze; rfl
  · unfold Lib.bytesWorld World.freeze; rfl
  · unfold Lib.bytesWorld World.freeze; rfl
  · rw [Lib.bytesWorld_size]; omega
end Go.Proofs.YtcgjacffemjehaaDoor

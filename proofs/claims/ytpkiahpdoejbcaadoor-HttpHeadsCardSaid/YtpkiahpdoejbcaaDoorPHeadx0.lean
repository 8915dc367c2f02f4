-- PRINTED BY print.sh 35421559b90ae4d0a3588c463048766b98c2df88dd9212a6774a882060cdf62d: not written by this session
import Derived.Test.YtpkiahpdoejbcaaDoorProg
import Derived.Below
import Derived.Deep.Draws
import Derived.Deep.AppendLies
import Derived.Maps.AppendAt
import Derived.OwnWalk
import Derived.Laws.BytesArg
import Derived.Laws.MakeOwn
import Derived.Laws.OwnMore
import Derived.Deep.OwnRows
import Derived.Tactics
import Derived.Lib.ConvBytes
import Derived.Laws.Slices
import Derived.WalkKit
import Derived.KernelRfl
import Derived.RowKit3
import Derived.Deep.LoopGhost
import Derived.Deep.QuietTactic
import Derived.BigQuiet
import Derived.WideLaws
import Derived.Deep.DeepCutAuto
import Derived.Deep.CutBlock
import Derived.Deep.RegionHeld3
import Derived.Laws.Rows
import Derived.Lib.AppendStr
import Derived.ArgAppend
import Derived.Laws.IdiomCopy
import Derived.OrdersHeld
import Derived.Laws.BitsLemmas
import Derived.RowKit
import Derived.Test.YtpkiahpdoejbcaaDoorWWords
import Derived.Test.YtpkiahpdoejbcaaDoorWLast
import Derived.Test.YtpkiahpdoejbcaaDoorWTab
import Derived.Test.YtpkiahpdoejbcaaDoorWFour
import Derived.Test.YtpkiahpdoejbcaaDoorWQPut
import Derived.Test.YtpkiahpdoejbcaaDoorWApart
import Derived.Test.YtpkiahpdoejbcaaDoorWArr
import Derived.Test.YtpkiahpdoejbcaaDoorWZeros
import Derived.Test.YtpkiahpdoejbcaaDoorWFoot
import Derived.Test.YtpkiahpdoejbcaaDoorWKept
import Derived.Test.YtpkiahpdoejbcaaDoorWShare
import Derived.Test.YtpkiahpdoejbcaaDoorWN
import Derived.Test.YtpkiahpdoejbcaaDoorWFootNe
import Derived.Test.YtpkiahpdoejbcaaDoorWAt
import Derived.Test.YtpkiahpdoejbcaaDoorWEqStruct
import Derived.Test.YtpkiahpdoejbcaaDoorWRepsOne
import Derived.Test.YtpkiahpdoejbcaaDoorWInv
import Derived.Test.YtpkiahpdoejbcaaDoorWInvWords
import Derived.Test.YtpkiahpdoejbcaaDoorWGuard
import Derived.Test.YtpkiahpdoejbcaaDoorWNEv
import Derived.Test.YtpkiahpdoejbcaaDoorWMore
namespace Go.Proofs.YtpkiahpdoejbcaaDoor.PHead
open Go.RowKit Go.Proofs.YtpkiahpdoejbcaaDoorW.PrintWords Go.Proofs.YtpkiahpdoejbcaaDoorW.PrintLast Go.Proofs.YtpkiahpdoejbcaaDoorW.PrintMore
attribute [local go_sem] max2_int min2_int max_two min_two max_three min_three max_four min_four   -- for this text's walks alone
set_option linter.unusedVariables false
set_option linter.unusedSimpArgs false



def errW : Option Int → Value
  | none => .nilIface
  | some c => .iface 0 (.int .i64 c)
theorem errW_none : errW none = .nilIface := rfl
theorem errW_some (c : Int) : errW (some c) = .iface 0 (.int .i64 c) := rfl

-- the values' own types
/-! #### struct type 46 -/
structure S46 where
  f0 : ByteArray
  f1 : ByteArray
def z46 : S46 := ⟨(⟨#[]⟩ : ByteArray), (⟨#[]⟩ : ByteArray)⟩
def k46 : Kd S46 := Kd.iso (Kd.pair Kd.string Kd.string) (fun x : S46 => (x.f0, x.f1))
theorem k46_open {w : World} {x : S46} {cs : List Value} (h : k46.K w x cs) : cs = [.string x.f0, .string x.f1] := by
  obtain ⟨_, _, rfl, rfl, rfl⟩ := h
  exact rfl
theorem k46_openM {w : World} {base : Nat} {ok : Nat → Prop} {x : S46} {cs : List Value} (h : k46.M w base ok x cs) : cs = [.string x.f0, .string x.f1] := by
  obtain ⟨_, _, rfl, rfl, rfl⟩ := h
  exact rfl
theorem k46_mk (w : World) (x : S46)  : k46.K w x [.string x.f0, .string x.f1] := ⟨[.string x.f0], [.string x.f1], rfl, rfl, rfl⟩
theorem k46_mkM (w : World) (base : Nat) (ok : Nat → Prop) (x : S46)  : k46.M w base ok x [.string x.f0, .string x.f1] := ⟨[.string x.f0], [.string x.f1], rfl, rfl, rfl⟩
def rd_T46 (xs : List S46) (i : Int) : S46 := xs.getD i.toNat z46
theorem at_T46 {w : World} {A : Option Addr} {n : Nat} {xs : List S46} (h : Kd.C k46 w A n xs) (i : Int) (h0 : 0 ≤ i) (h1 : i < n) : ∃ ad , A = some ad ∧ w.cell? (ad.add (i.toNat * 2)) = some (.string (rd_T46 xs i).f0) ∧ w.cell? ⟨(ad.add (i.toNat * 2)).block, (ad.add (i.toNat * 2)).off + 1, none⟩ = some (.string (rd_T46 xs i).f1) := by
  obtain ⟨ad, c, e, _, hK, hc0⟩ := Kd.C_get h z46 i h0 h1
  have hc : ∀ j u, c[j]? = some u → w.cell? (ad.add (i.toNat * 2 + j)) = some u := hc0
  obtain rfl := k46_open hK
  exact ⟨ad, e, hc 0 _ rfl, by rw [← add_field _ _ 1 (by omega)]; exact hc 1 _ rfl⟩

end Go.Proofs.YtpkiahpdoejbcaaDoor.PHead

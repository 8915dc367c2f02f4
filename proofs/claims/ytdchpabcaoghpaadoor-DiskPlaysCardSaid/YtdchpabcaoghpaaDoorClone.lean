/-
  slices.Clone at []byte, by contract.
-/
import Derived.Test.YtdchpabcaoghpaaDoorBytes
import Derived.Test.YtdchpabcaoghpaaDoorProg
import Derived.Lib.SliceRun
import Derived.Lib.Walk
namespace Go.Proofs.YtdchpabcaoghpaaDoor
open Go.RowKit
set_option linter.unusedVariables false

theorem byteT : ByteT Tryd.prog 41 5 := ⟨Tryd.underlying41, Tryd.underlying5, by kernel_rfl⟩

/-- A call that answers bytes of its own, and writes nothing that was there. -/
def BytesPost (l : List UInt8) (w : World) (e : Ending) (w' : World) : Prop := ∃ v, e = .returned v ∧ OwnB w' w.heap.size 5 v l ∧ Below w.heap.size w w'
theorem BytesPost.mk {l : List UInt8} {w w' : World} {v : Value} (h : OwnB w' w.heap.size 5 v l) (hb : Below w.heap.size w w') : BytesPost l w (.returned v) w' := ⟨v, rfl, h, hb⟩

set_option maxHeartbeats 2000000 in
theorem clone_any (v : Value) (l : List UInt8) (w : World) (h : ReadsB w v l) (hl : l.length ≤ 1099511627776) : Calls Tryd.prog 34 #[v] w (BytesPost l w) := by
  have q22 : ∀ (w : World) (a : Option Addr) (n c n' c' : Nat), (binOp .eql 41 (.slice a n c) (.slice none n' c')).run Tryd.prog w = .ok (.bool a.isNone) w := fun w a n c n' c' => Lib.run_eql_slice_nil w _ _ a n c n' c' Tryd.underlying41
  rcases h with ⟨rfl, rfl⟩ | ⟨b, o, cap, rfl, hcap, hcell⟩
  · go_enter Tryd.func34, Tryd.ntmps34
    go_wp2
    go_ret
    exact BytesPost.mk (OwnB.nil _ _ _) (Below.refl _ _)
  · have HC := hid hcell
    clear hcell
    go_enter Tryd.func34, Tryd.ntmps34
    go_wp2_with (at_builtin; refine wpList_append_b byteT rfl _ _ rfl w.heap.size [] l _ _ rfl rfl (World.ownsRow_made w #[] 0 (Nat.le_refl _) (Nat.zero_le _) rfl) ?qc1 (by simpa using hl) (by simp) ?_)
    case qc1 => exact ReadsB.below (.inr ⟨b, o, cap, rfl, hcap, HC.out⟩) ((Below.refl _ _).alloc (Nat.le_refl _) _)
    intro v' w1 hown hgrow hnil _
    go_wp2
    go_ret
    exact BytesPost.mk (by simpa using hown) (((Below.refl _ w).alloc (Nat.le_refl _) _).grown hgrow (by simp) (by intro k hk; simp [Value.ownBlock] at hk; omega))
end Go.Proofs.YtdchpabcaoghpaaDoor

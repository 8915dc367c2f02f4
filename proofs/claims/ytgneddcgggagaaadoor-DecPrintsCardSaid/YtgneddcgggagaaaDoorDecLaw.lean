/-
  The four statements on numbers' texts: their calls answer true.
-/
import Derived.Test.YtgneddcgggagaaaDoorDecRefD
import Derived.Test.YtgneddcgggagaaaDoorDecRefPrint
import Derived.Test.YtgneddcgggagaaaDoorDecPrint
namespace Go.Proofs.YtgneddcgggagaaaDoor
open Go.RowKit
set_option linter.unusedVariables false

theorem ReadPost.out {l : List UInt8} {least most : Int} {w : World} {e : Ending} {w' : World} {n : Int} {g : GErr} (h : ReadPost l least most w e w') (hr : readSpec l least most = (n, g)) :
    ∃ v, e = .returned (.tuple #[.int .i64 n, v]) ∧ IsErr w' g v ∧ Below w.heap.size w w' := by
  obtain ⟨v, h1, h2, h3⟩ := h
  rw [hr] at h1 h2
  exact ⟨v, h1, h2, h3⟩
theorem TextPost.call {l : List UInt8} {w : World} {e : Ending} {w' : World} (h : TextPost l w e w') : e = .returned (.string ⟨l.toArray⟩) ∧ Below w.heap.size w w' := h
theorem TruePost.call {w : World} {e : Ending} {w' : World} (h : TruePost w e w') : e = .returned (.bool true) ∧ Below w.heap.size w w' := h

theorem read007 : readSpec [48, 48, 55] 0 9 = (0, .at_ 1 40) := by kernel_rfl
theorem readMax : readSpec [57, 50, 50, 51, 51, 55, 50, 48, 51, 54, 56, 53, 52, 55, 55, 53, 56, 48, 56] (-9223372036854775808) 9223372036854775807 = (0, .no 41) := by kernel_rfl
theorem textMin : decText (-9223372036854775808) = [45, 57, 50, 50, 51, 51, 55, 50, 48, 51, 54, 56, 53, 52, 55, 55, 53, 56, 48, 56] := by
  unfold decText; rw [if_pos (by omega)]
  have : digs 9223372036854775808 = [57, 50, 50, 51, 51, 55, 50, 48, 51, 54, 56, 53, 52, 55, 55, 53, 56, 48, 56] := by
    repeat (rw [digs]; simp only [Nat.reduceDiv, Nat.reduceMod, Nat.reduceLT, ↓reduceIte])
    rfl
  show (45 :: digs 9223372036854775808) = _
  rw [this]

set_option maxHeartbeats 4000000 in
theorem alive_any (w : World) (hg : ErrorType w) : Calls Tryd.prog 7 #[] w (TruePost w) := by
  have HG := hid hg
  clear hg
  go_enter Tryd.func7, Tryd.ntmps7
  go_wp2_with fail
  refine (read_any ⟨#[48, 48, 55]⟩ _ (by decide) 0 9 (by omega) (by omega) (by omega) (by omega)).mono ?_
  intro e w1 hp
  obtain ⟨v1, rfl, he1, hb1⟩ := hp.out read007
  have HE1 := hid he1
  have HB1 := hid hb1
  clear hp he1 hb1
  go_wp2_with fail
  refine (read_any ⟨#[57, 50, 50, 51, 51, 55, 50, 48, 51, 54, 56, 53, 52, 55, 55, 53, 56, 48, 56]⟩ _ (by decide) (-9223372036854775808) 9223372036854775807 (by omega) (by omega) (by omega) (by omega)).mono ?_
  intro e w2 hp
  obtain ⟨v2, rfl, he2, hb2⟩ := hp.out readMax
  have HE2 := hid he2
  have HB2 := hid hb2
  clear hp he2 hb2
  go_wp2_with fail
  refine (print_any (-9223372036854775808) _ (by omega) (by omega)).mono ?_
  intro e w3 ⟨he, hb3⟩
  rw [textMin] at he
  obtain rfl := he
  have HB3 := hid hb3
  clear hb3
  go_wp2_with fail
  refine (num_any (.at_ 1 40) _ _ (HG.out.below (below_then (below_then HB1.out HB2.out) HB3.out) HG.out.lt) ((HE1.out.below HB2.out).below HB3.out)).mono ?_
  intro e w4 ⟨he, hb4⟩
  obtain rfl := he
  have HB4 := hid hb4
  clear hb4
  go_wp2_with fail
  refine (pos_any (.at_ 1 40) _ _ (HG.out.below (below_then (below_then (below_then HB1.out HB2.out) HB3.out) HB4.out) HG.out.lt) (((HE1.out.below HB2.out).below HB3.out).below HB4.out)).mono ?_
  intro e w5 ⟨he, hb5⟩
  obtain rfl := he
  have HB5 := hid hb5
  clear hb5
  go_wp2_with fail
  refine (num_any (.no 41) _ _ (HG.out.below (below_then (below_then (below_then (below_then HB1.out HB2.out) HB3.out) HB4.out) HB5.out) HG.out.lt) (((HE2.out.below HB3.out).below HB4.out).below HB5.out)).mono ?_
  intro e w6 ⟨he, hb6⟩
  obtain rfl := he
  have HB6 := hid hb6
  clear hb6
  go_wp2_with fail
  refine (lead_any ⟨#[49, 50, 97]⟩ _ (by decide)).mono ?_
  intro e w7 ⟨he, hb7⟩
  rw [show lead [49, 50, 97] = 2 from rfl] at he
  obtain rfl := he
  obtain rfl := hb7
  go_wp2_with fail
  go_ret
  refine TruePost.mk (b := true) rfl (below_then (below_then (below_then (below_then (below_then HB1.out HB2.out) HB3.out) HB4.out) HB5.out) HB6.out)

set_option maxHeartbeats 2000000 in
theorem decPrints_walk (n : Int) (w : World) (h0 : -9223372036854775808 ≤ n) (h1 : n ≤ 9223372036854775807) (hg : ErrorType w) :
    Calls Tryd.prog 3 #[.int .i64 n] w (TruePost w) := by
  have HG := hid hg
  clear hg
  go_enter Tryd.func3, Tryd.ntmps3
  go_wp2_with (first
    | (go_at_call 7; refine (alive_any _ HG.out).mono ?_; intro e w1 hp; obtain ⟨rfl, hb⟩ := hp.call; have HB1 := hid hb; clear hb hp)
    | (go_at_call 8; refine (print_any _ _ h0 h1).mono ?_; intro e w2 hp; obtain ⟨rfl, hb⟩ := hp; have HB2 := hid hb; clear hb)
    | (go_at_call 9; refine (rprint_any _ _ h0 h1).mono ?_; intro e w3 hp; obtain ⟨rfl, hb⟩ := hp.call; have HB3 := hid hb; clear hb hp))
  go_ret
  refine TruePost.mk (b := true) rfl (below_then (below_then HB1.out HB2.out) HB3.out)
end Go.Proofs.YtgneddcgggagaaaDoor

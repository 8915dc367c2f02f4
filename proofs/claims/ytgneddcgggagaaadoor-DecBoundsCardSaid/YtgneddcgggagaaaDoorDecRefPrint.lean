/-
  The document's text of a number by contract: the same plain function.
-/
import Derived.Test.YtgneddcgggagaaaDoorDecPure
import Derived.Test.YtgneddcgggagaaaDoorProg
namespace Go.Proofs.YtgneddcgggagaaaDoor
open Go.RowKit
set_option linter.unusedVariables false

def RPRel (w : World) (N : Nat) (a l : Value) (wr : World) : Prop :=
  ∃ (x : Nat) (em : List UInt8), a = .int .i64 (x : Int) ∧ l = .string ⟨em.toArray⟩ ∧ x ≤ 9223372036854775807 ∧ digs x ++ em = digs N ∧ Below w.heap.size w wr

set_option maxHeartbeats 1000000 in
theorem rprint_pos (n : Int) (w : World) (h0 : 0 ≤ n) (h1 : n ≤ 9223372036854775807) :
    Calls Tryd.prog 9 #[.int .i64 n] w (TextPost (decText n) w) := by
  have hb1 : (n == -9223372036854775808) = false := by simp; omega
  have hfin : decText n = digs n.natAbs := by unfold decText; rw [if_neg (by omega)]
  have HF := hid hfin
  have hb2 : decide (n < 0) = false := by simp; omega
  clear hfin
  have hN := digs_len19 n.natAbs (by omega)
  go_enter Tryd.func9, Tryd.ntmps9
  go_wp2
  go_loopw [0, 3] (fun x s wr => RPRel w n.natAbs x s wr) (fun x _ _ => (intOf x).toNat)
  case atStart => exact ⟨n.natAbs, [], by congr 1; omega, rfl, by omega, by simp, Below.refl _ _⟩
  case round =>
    obtain ⟨x, em, rfl, rfl, hx, hd, hb⟩ := hrel
    have HB := hid (hb.alloc hb.size (.cells #[.int .u8 (48 + (x : Int) % 10)] 5))
    have hem : em.length ≤ 19 := by have := congrArg List.length hd; simp at this; omega
    have hcv := run_string_of_one (P := Tryd.prog) (w := wr) Tryd.underlying37 Tryd.underlying5 Tryd.underlying9 (.int .u8 (48 + (x : Int) % 10)) (dig8 (x % 10)) (cell_digit x)
    by_cases h10 : x < 10
    · have hfin := digs_last x em n.natAbs hd h10
      have HD := hid hfin
      have hq : ((x : Int) / 10 == 0) = true := by simp; omega
      clear hd hb hfin
      go_wp2
      refine bodyPost_ret (results_tmp rfl _ _ _) rfl (TextPost.mk ?_ HB.out)
      rw [HF.out, ← HD.out]
      exact congrArg Value.string (str_append [dig8 (x % 10)] em)
    · have hst := digs_step x em n.natAbs hd (by omega)
      have HD := hid hst
      have hq : ((x : Int) / 10 == 0) = false := by simp; omega
      clear hd hb hst
      go_wp2
      refine ⟨⟨x / 10, dig8 (x % 10) :: em, rfl, congrArg Value.string (str_append [dig8 (x % 10)] em), by omega, HD.out, HB.out⟩, by simp [intOf]; omega⟩

theorem decText_neg (n : Int) (h : n < 0) : decText n = 45 :: decText (-n) := by
  unfold decText; rw [if_pos h, if_neg (by omega), Int.natAbs_neg]

set_option maxHeartbeats 1000000 in
theorem rprint_any (n : Int) (w : World) (h0 : -9223372036854775808 ≤ n) (h1 : n ≤ 9223372036854775807) :
    Calls Tryd.prog 9 #[.int .i64 n] w (TextPost (decText n) w) := by
  by_cases hmin : n = -9223372036854775808
  · subst hmin
    have HF : Hid (strV (decText (-9223372036854775808)) = .string ⟨#[45, 57, 50, 50, 51, 51, 55, 50, 48, 51, 54, 56, 53, 52, 55, 55, 53, 56, 48, 56]⟩) := by
      unfold strV decText; rw [if_pos (by omega)]
      have : digs 9223372036854775808 = [57, 50, 50, 51, 51, 55, 50, 48, 51, 54, 56, 53, 52, 55, 55, 53, 56, 48, 56] := by
        repeat (rw [digs]; simp only [Nat.reduceDiv, Nat.reduceMod, Nat.reduceLT, ↓reduceIte])
        rfl
      show Value.string ⟨(45 :: digs 9223372036854775808).toArray⟩ = _
      rw [this]
    go_enter Tryd.func9, Tryd.ntmps9
    go_wp2
    refine bodyPost_ret (results_tmp rfl _ _ _) rfl (TextPost.mk ?_ (Below.refl _ _))
    rw [HF.out]; rfl
  · by_cases hneg : n < 0
    · have hb1 : (n == -9223372036854775808) = false := by simp; omega
      have HF := hid (decText_neg n hneg)
      have hle : -n ≤ 9223372036854775807 := by omega
      have hl20 := decText_len (-n) (by omega) (by omega)
      clear hmin
      go_enter Tryd.func9, Tryd.ntmps9
      go_wp2_with (go_at_call 9; refine (rprint_pos _ _ (by omega) hle).mono ?_; rintro e w' ⟨rfl, hb⟩; have HB := hid hb; clear hb)
      refine bodyPost_ret (results_tmp rfl _ _ _) rfl (TextPost.mk ?_ HB.out)
      rw [HF.out]
      exact congrArg Value.string (str_append [45] (decText (-n)))
    · exact rprint_pos n w (by omega) h1
end Go.Proofs.YtgneddcgggagaaaDoor

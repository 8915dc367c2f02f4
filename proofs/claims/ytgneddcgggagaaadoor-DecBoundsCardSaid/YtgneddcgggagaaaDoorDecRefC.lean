/-
  The document's less and Read of numbers by contract: the order of digits' texts is the numbers'.
-/
import Derived.Test.YtgneddcgggagaaaDoorDecRefB
namespace Go.Proofs.YtgneddcgggagaaaDoor
open Go.RowKit
set_option linter.unusedVariables false

theorem natOf_from (l : List UInt8) : ∀ a : Nat, l.foldl (fun a c => a * 10 + (c.toNat - 48)) a = a * 10 ^ l.length + natOf l := by
  induction l with
  | nil => intro a; simp [natOf]
  | cons c r ih =>
    intro a
    have h2 := ih (0 * 10 + (c.toNat - 48))
    simp only [List.foldl_cons, natOf] at *
    rw [ih (a * 10 + (c.toNat - 48)), h2]
    simp only [List.length_cons, Nat.pow_succ, Nat.add_mul, Nat.zero_mul, Nat.zero_add]
    rw [show a * 10 * 10 ^ r.length = a * (10 ^ r.length * 10) by rw [Nat.mul_assoc, Nat.mul_comm 10]]
    omega
theorem natOf_cons (c : UInt8) (r : List UInt8) : natOf (c :: r) = (c.toNat - 48) * 10 ^ r.length + natOf r := by
  have := natOf_from r (0 * 10 + (c.toNat - 48))
  show List.foldl _ 0 (c :: r) = _
  simp only [List.foldl_cons]
  rw [this]; simp
theorem natOf_lt (l : List UInt8) (h : l.all isDig = true) : natOf l < 10 ^ l.length := by
  induction l with
  | nil => simp [natOf]
  | cons c r ih =>
    simp only [List.all_cons, Bool.and_eq_true] at h
    have hc := isDig_iff.1 h.1
    have := ih h.2
    rw [natOf_cons, List.length_cons, Nat.pow_succ]
    have h9 : (c.toNat - 48) * 10 ^ r.length ≤ 9 * 10 ^ r.length := Nat.mul_le_mul_right _ (by omega)
    omega
theorem less_digits (a b : List UInt8) (hl : a.length = b.length) (ha : a.all isDig = true) (hb : b.all isDig = true) : Op.bytesLess a b = decide (natOf a < natOf b) := by
  induction a generalizing b with
  | nil =>
    cases b with
    | nil => rfl
    | cons c r => simp at hl
  | cons x a ih =>
    cases b with
    | nil => simp at hl
    | cons y b =>
      simp only [List.all_cons, Bool.and_eq_true, List.length_cons, Nat.add_right_cancel_iff] at ha hb hl
      have hx := isDig_iff.1 ha.1
      have hy := isDig_iff.1 hb.1
      have la := natOf_lt a ha.2
      have lb := natOf_lt b hb.2
      rw [hl] at la
      have ih' := ih b hl ha.2 hb.2
      simp only [Op.bytesLess]
      rw [ih', natOf_cons, natOf_cons, hl, Bool.eq_iff_iff]
      simp only [Bool.or_eq_true, Bool.and_eq_true, decide_eq_true_eq, beq_iff_eq]
      have hlt : x < y ↔ x.toNat < y.toNat := UInt8.lt_iff_toNat_lt
      have heq : x = y ↔ x.toNat = y.toNat := UInt8.toNat_inj.symm
      rw [hlt, heq]
      constructor
      · rintro (h | ⟨h, h2⟩)
        · have : (x.toNat - 48 + 1) * 10 ^ b.length ≤ (y.toNat - 48) * 10 ^ b.length := Nat.mul_le_mul_right _ (by omega)
          rw [Nat.add_mul] at this; omega
        · rw [h]; omega
      · intro h
        by_cases e : x.toNat < y.toNat
        · exact .inl e
        · right
          by_cases e2 : x.toNat = y.toNat
          · rw [e2] at h; exact ⟨e2, by omega⟩
          · exfalso
            have : (y.toNat - 48 + 1) * 10 ^ b.length ≤ (x.toNat - 48) * 10 ^ b.length := Nat.mul_le_mul_right _ (by omega)
            rw [Nat.add_mul] at this; omega
theorem natOf_ge (l : List UInt8) (h0 : 1 ≤ l.length) (hd : isDig (l.getD 0 0) = true) (h48 : ¬ l.getD 0 0 = 48) : 10 ^ (l.length - 1) ≤ natOf l := by
  cases l with
  | nil => simp at h0
  | cons c r =>
    simp at hd h48
    have hc := isDig_iff.1 hd
    have : ¬ c.toNat = 48 := fun e => h48 (UInt8.toNat_inj.1 e)
    rw [natOf_cons]
    simp
    have : 1 * 10 ^ r.length ≤ (c.toNat - 48) * 10 ^ r.length := Nat.mul_le_mul_right _ (by omega)
    omega

def lessB (a b : List UInt8) : Bool := if a.length = b.length then Op.bytesLess a b else decide (a.length < b.length)
theorem less_limit (M l : List UInt8) (hM : M.length = 19) (hMd : M.all isDig = true) (hM1 : 10 ^ 18 ≤ natOf M) (h : l.all isDig = true) (h1 : 1 ≤ l.length) (h48 : l.length = 1 ∨ ¬ l.getD 0 0 = 48) : lessB M l = decide (natOf M < natOf l) := by
  have hl := natOf_lt l h
  have hm := natOf_lt M hMd
  rw [hM] at hm
  unfold lessB
  by_cases e : M.length = l.length
  · rw [if_pos e, less_digits M l e hMd h]
  · rw [if_neg e, hM, Bool.eq_iff_iff]
    simp only [decide_eq_true_eq]
    constructor
    · intro h2
      have hd := (all_dig l).1 h 0 (by omega)
      have := natOf_ge l h1 hd (h48.resolve_left (by omega))
      have : (10 : Nat) ^ 19 ≤ 10 ^ (l.length - 1) := Nat.pow_le_pow_right (by omega) (by omega)
      omega
    · intro h2
      by_cases e2 : l.length < 19
      · have : (10 : Nat) ^ l.length ≤ 10 ^ 18 := Nat.pow_le_pow_right (by omega) (by omega)
        omega
      · omega

set_option maxHeartbeats 1000000 in
theorem less_any (a b : ByteArray) (w : World) (ha : a.size ≤ 1048576) (hb : b.size ≤ 1048576) :
    Calls Tryd.prog 17 #[.string a, .string b] w (BoolPost (lessB a.data.toList b.data.toList) w) := by
  by_cases h : a.size = b.size
  · have hne : ((a.size : Int) != (b.size : Int)) = false := by simp [h]
    have HF : Hid (lessB a.data.toList b.data.toList = Op.bytesLess a.data.toList b.data.toList) := by unfold lessB; rw [if_pos (by rw [str_len, str_len]; exact h)]; rfl
    clear h
    go_enter Tryd.func17, Tryd.ntmps17
    go_wp2_with (fail)
    refine bodyPost_ret (results_tmp rfl _ _ _) rfl (BoolPost.mk ?_)
    rw [HF.out, str_toList, str_toList]
  · have hne : ((a.size : Int) != (b.size : Int)) = true := by simp; omega
    have HF : Hid (lessB a.data.toList b.data.toList = decide (a.size < b.size)) := by unfold lessB; rw [if_neg (by rw [str_len, str_len]; exact h), str_len, str_len]; rfl
    clear h
    go_enter Tryd.func17, Tryd.ntmps17
    go_wp2_with (fail)
    refine bodyPost_ret (results_tmp rfl _ _ _) rfl (BoolPost.mk ?_)
    rw [HF.out]

/-- What a whole number's text is, by the document. -/
theorem form_iff (l : List UInt8) : formB l = true ↔ ¬ (lead l = 0 ∨ lead l < l.length) := by
  by_cases h0 : l.length = 0
  · have : l = [] := List.eq_nil_of_length_eq_zero h0
    subst this; simp [lead, formB, formPlain]
  have hle : lead l ≤ l.length := by
    unfold lead
    have h1 := span_le (l.drop 1)
    have h2 := span_le l
    rw [List.length_drop] at h1
    simp only [List.drop_zero]
    repeat' split
    all_goals omega
  have hb := form_take l l.length (by omega) (Nat.le_refl _)
  by_cases hall : ∀ j, 1 ≤ j → j < l.length → isDig (l.getD j 0) = true
  · have hb := hb hall
    rw [List.take_length, best_lead l l.length (by omega) (by omega) (Nat.le_refl _) hall (.inl rfl)] at hb
    by_cases hf : formB l = true
    · rw [if_pos hf] at hb
      exact ⟨fun _ => by omega, fun _ => hf⟩
    · rw [if_neg hf] at hb
      refine ⟨fun h => absurd h hf, fun h => ?_⟩
      have hb1 : bestOf l (l.length - 1) ≤ l.length - 1 := by
        unfold bestOf; repeat' split
        all_goals omega
      omega
  · have hno : formB l = false := by
      have : ∃ j, 1 ≤ j ∧ j < l.length ∧ isDig (l.getD j 0) = false := by
        apply Classical.byContradiction
        intro hn
        apply hall
        intro j h1 h2
        cases hd : isDig (l.getD j 0) with
        | true => rfl
        | false => exact absurd ⟨j, h1, h2, hd⟩ hn
      obtain ⟨j, h1, h2, hd⟩ := this
      unfold formB
      by_cases h45 : 0 < l.length ∧ l.getD 0 0 = 45
      · rw [if_pos h45, formPlain_no (l.drop 1) (j - 1) (by simp; omega) (by rw [drop_getD, show 1 + (j - 1) = j by omega]; exact hd)]
        simp
      · rw [if_neg h45, formPlain_no l j h2 hd]
    rw [hno]
    refine ⟨fun h => by simp at h, fun h => ?_⟩
    exfalso
    apply hall
    intro j h1 h2
    rcases lead_whole l (by omega) (by omega) with ⟨_, _, _, hs⟩ | ⟨_, _, hs, _⟩
    · have := span_all (l.drop 1) (by rw [hs]; simp) (j - 1) (by simp; omega)
      rwa [drop_getD, show 1 + (j - 1) = j by omega] at this
    · exact span_all l hs j h2

/-- The document's answer to a text. -/
def rreadSpec (l : List UInt8) (least most : Int) : Int × Int × Int := ((readSpec l least most).1, (readSpec l least most).2.num, (readSpec l least most).2.pos)
def RReadPost (l : List UInt8) (least most : Int) (w : World) (e : Ending) (w' : World) : Prop :=
  e = .returned (.tuple #[.int .i64 (readSpec l least most).1, .int .i64 (readSpec l least most).2.num, .int .i64 (readSpec l least most).2.pos]) ∧ w = w'
theorem RReadPost.mk {l : List UInt8} {least most : Int} {w : World} {v : Int} {g : GErr} {n p : Int} (h : readSpec l least most = (v, g)) (hn : g.num = n) (hp : g.pos = p) :
    RReadPost l least most w (.returned (.tuple #[.int .i64 v, .int .i64 n, .int .i64 p])) w := by
  subst hn; subst hp
  exact ⟨by rw [h], rfl⟩
theorem readSpec_over {l : List UInt8} {least most : Int} (hb : ¬ (lead l = 0 ∨ lead l < l.length)) (h : readV l < -9223372036854775808 ∨ 9223372036854775807 < readV l ∨ readV l < least ∨ most < readV l) : readSpec l least most = (0, .no 41) := by
  unfold readSpec; rw [if_neg hb]
  by_cases h1 : readV l < -9223372036854775808 ∨ 9223372036854775807 < readV l
  · rw [if_pos h1]
  · rw [if_neg h1, if_pos (by omega)]
theorem readSpec_good {l : List UInt8} {least most : Int} {v : Int} (hb : ¬ (lead l = 0 ∨ lead l < l.length)) (hv : readV l = v) (h1 : -9223372036854775808 ≤ v) (h2 : v ≤ 9223372036854775807) (h3 : least ≤ v) (h4 : v ≤ most) : readSpec l least most = (v, .nil) := by
  unfold readSpec; rw [if_neg hb, if_neg (by omega), if_neg (by omega), hv]
end Go.Proofs.YtgneddcgggagaaaDoor

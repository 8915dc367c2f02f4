/-
  The document's Lead and Read of numbers by contract.
-/
import Derived.Test.YtgneddcgggagaaaDoorDecRef
namespace Go.Proofs.YtgneddcgggagaaaDoor
open Go.RowKit
set_option linter.unusedVariables false

/-! ### Lead -/
/-- The longest beginning of at most j bytes that is a number's, where the bytes behind the first are digits. -/
def bestOf (l : List UInt8) (j : Nat) : Nat :=
  if l.getD 0 0 = 45 then (if 2 ≤ j ∧ ¬ l.getD 1 0 = 48 then j else 0)
  else if isDig (l.getD 0 0) = true then (if l.getD 0 0 = 48 then min j 1 else j) else 0
theorem take_getD (l : List UInt8) (n j : Nat) (h : j < n) : (l.take n).getD j 0 = l.getD j 0 := by simp [List.getD, h]
theorem drop_getD (l : List UInt8) (n j : Nat) : (l.drop n).getD j 0 = l.getD (n + j) 0 := by simp [List.getD]
theorem form_take (l : List UInt8) (k : Nat) (hk1 : 1 ≤ k) (hk : k ≤ l.length) (h : ∀ j, 1 ≤ j → j < k → isDig (l.getD j 0) = true) :
    (if formB (l.take k) = true then k else bestOf l (k - 1)) = bestOf l k := by
  have hlen : (l.take k).length = k := by simp; omega
  have g0 : (l.take k).getD 0 0 = l.getD 0 0 := take_getD l k 0 (by omega)
  by_cases h45 : l.getD 0 0 = 45
  · have hB : ∀ j, bestOf l j = if 2 ≤ j ∧ ¬ l.getD 1 0 = 48 then j else 0 := fun j => by unfold bestOf; rw [if_pos h45]
    rw [hB, hB]
    by_cases h2 : 1 < k
    · have g1 : (l.take k).getD 1 0 = l.getD 1 0 := take_getD l k 1 h2
      have d1 := h 1 (by omega) h2
      have n45 : ¬ l.getD 1 0 = 45 := by intro e; rw [e] at d1; exact absurd d1 (by decide)
      have hfp : formPlain ((l.take k).drop 1) = (decide (k - 1 = 1) || (decide (1 < k - 1) && decide (¬ l.getD 1 0 = 48))) := by
        rw [formPlain_yes]
        · rw [drop_getD, g1, List.length_drop, hlen]
        · intro j hj
          rw [List.length_drop, hlen] at hj
          rw [drop_getD, take_getD _ _ _ (by omega)]; exact h (1 + j) (by omega) (by omega)
      have hF : formB (l.take k) = (decide (1 < k) && decide (¬ l.getD 1 0 = 48) && decide (¬ l.getD 1 0 = 45) && (decide (k - 1 = 1) || (decide (1 < k - 1) && decide (¬ l.getD 1 0 = 48)))) := by
        unfold formB; rw [if_pos ⟨by omega, by rw [g0]; exact h45⟩, hfp, g1, hlen]
      rw [hF]
      generalize l.getD 1 0 = c at *
      by_cases h48 : c = 48
      · simp [h48]
      · have : (decide (k - 1 = 1) || decide (1 < k - 1)) = true := by simp; omega
        simp only [h48, not_false_eq_true, decide_true, Bool.and_true, n45, this, h2, and_true, show 2 ≤ k from h2, ↓reduceIte]
    · obtain rfl : k = 1 := by omega
      have hF : formB (l.take 1) = false := by
        unfold formB; rw [if_pos ⟨by omega, by rw [g0]; exact h45⟩, hlen]; simp
      rw [hF]; simp
  · have hF : formB (l.take k) = formPlain (l.take k) := by unfold formB; rw [if_neg (by rw [g0]; exact fun e => h45 e.2)]
    have hB : ∀ j, bestOf l j = if isDig (l.getD 0 0) = true then (if l.getD 0 0 = 48 then min j 1 else j) else 0 := fun j => by unfold bestOf; rw [if_neg h45]
    rw [hF, hB, hB]
    by_cases hd : isDig (l.getD 0 0) = true
    · have hall : ∀ j, j < (l.take k).length → isDig ((l.take k).getD j 0) = true := by
        intro j hj; rw [hlen] at hj
        rw [take_getD _ _ _ hj]
        by_cases e : j = 0
        · subst e; exact hd
        · exact h j (by omega) hj
      rw [formPlain_yes _ hall, hlen, g0, if_pos hd, if_pos hd]
      generalize l.getD 0 0 = c at *
      by_cases h48 : c = 48
      · by_cases e : k = 1
        · subst e; simp
        · simp [h48, e]; omega
      · have : (decide (k = 1) || decide (1 < k)) = true := by simp; omega
        simp only [h48, not_false_eq_true, decide_true, Bool.and_true, this, ↓reduceIte]
    · have hd' : isDig (l.getD 0 0) = false := by simpa using hd
      rw [formPlain_no _ 0 (by omega) (by rw [g0]; exact hd'), if_neg hd, if_neg hd]
      simp
theorem best_lead (l : List UInt8) (j : Nat) (h0 : 0 < l.length) (hj1 : 1 ≤ j) (hj : j ≤ l.length) (h : ∀ i, 1 ≤ i → i < j → isDig (l.getD i 0) = true) (hend : j = l.length ∨ isDig (l.getD j 0) = false) : bestOf l j = lead l := by
  unfold bestOf lead
  rw [if_neg (show ¬ l.length = 0 by omega)]
  by_cases h45 : l.getD 0 0 = 45
  · rw [if_pos h45, if_pos h45]
    by_cases h1 : l.length = 1
    · rw [if_neg (show ¬ (2 ≤ j ∧ _) by omega), if_pos h1]
    · rw [if_neg h1]
      by_cases hd : isDig (l.getD 1 0) = false
      · rw [if_pos hd]
        have : j = 1 := by
          by_cases e : 1 < j
          · rw [h 1 (by omega) e] at hd; cases hd
          · omega
        rw [if_neg (show ¬ (2 ≤ j ∧ _) by omega)]
      · rw [if_neg hd]
        have h2 : 2 ≤ j := by
          by_cases e : j = 1
          · subst e; rcases hend with e | e
            · omega
            · exact absurd e hd
          · omega
        by_cases h48 : l.getD 1 0 = 48
        · rw [if_pos h48, if_neg (fun e => e.2 h48)]
        · rw [if_neg h48, if_pos ⟨h2, h48⟩]
          rw [span_eq _ (j - 1) (fun i hi => by rw [drop_getD]; exact h _ (by omega) (by omega)) (by simp; omega) (by
            rcases hend with e | e
            · left; simp; omega
            · right; rw [drop_getD, show 1 + (j - 1) = j by omega]; exact e)]
          omega
  · rw [if_neg h45, if_neg h45]
    by_cases hd : isDig (l.getD 0 0) = false
    · rw [if_pos hd, if_neg (by rw [hd]; simp)]
    · have hd' : isDig (l.getD 0 0) = true := by simpa using hd
      rw [if_neg hd, if_pos hd']
      by_cases h48 : l.getD 0 0 = 48
      · rw [if_pos h48, if_pos h48]; omega
      · rw [if_neg h48, if_neg h48]
        rw [span_eq _ j (fun i hi => by
          rw [drop_getD, Nat.zero_add]
          by_cases e : i = 0
          · subst e; exact hd'
          · exact h i (by omega) hi) (by simpa using hj) (by
            rcases hend with e | e
            · left; simpa using e
            · right; rw [drop_getD, Nat.zero_add]; exact e)]
        omega

def RLeadRel (s : ByteArray) (b n : Value) : Prop := ∃ k : Nat, 1 ≤ k ∧ k ≤ s.size + 1 ∧ n = .int .i64 k ∧ b = .int .i64 (bestOf s.data.toList (k - 1)) ∧ ∀ j, 1 ≤ j → j < k - 1 → isDig (s.data.toList.getD j 0) = true
theorem best_zero (l : List UInt8) : bestOf l 0 = 0 := by unfold bestOf; split <;> (try split) <;> (try split) <;> first | rfl | omega
theorem extract_take (s : ByteArray) (k : Nat) : (s.extract 0 k).data.toList = s.data.toList.take k := by
  rw [Lib.extract_data]; simp
/-- A call that answers a number and leaves the world alone. -/
def IntPost (n : Nat) (w : World) (e : Ending) (w' : World) : Prop := e = .returned (.int .i64 n) ∧ w = w'
theorem IntPost.mk {n m : Nat} {w : World} (h : n = m) : IntPost n w (.returned (.int .i64 m)) w := ⟨by rw [h], rfl⟩

set_option maxHeartbeats 2000000 in
theorem rlead_any (s : ByteArray) (w : World) (hs : s.size ≤ 1048576) :
    Calls Tryd.prog 15 #[.string s] w (IntPost (lead s.data.toList) w) := by
  obtain ⟨L, HL⟩ : ∃ L, Hid (lead s.data.toList = L) := ⟨_, rfl⟩
  rw [HL.out]
  go_enter Tryd.func15, Tryd.ntmps15
  go_wp2_with (fail)
  go_loop [3, 4] (fun b n => RLeadRel s b n) (fun _ n => s.size + 1 - (intOf n).toNat)
  case atStart => exact ⟨1, by omega, by omega, rfl, by rw [best_zero]; rfl, fun j h1 h2 => by omega⟩
  case round =>
    obtain ⟨k, hk1, hk, rfl, rfl, hall⟩ := hrel
    have HA := hid hall
    clear hall
    by_cases hle : k ≤ s.size
    · have hle' : decide ((k : Int) ≤ (s.size : Int)) = true := by simp; omega
      obtain ⟨b, HB⟩ : ∃ b, Hid (formB (s.data.toList.take k) = b) := ⟨_, rfl⟩
      have hcall := form_any (s.extract 0 k) w (by simp; omega)
      rw [extract_take, HB.out] at hcall
      have HC := hid hcall
      clear hcall
      have hkl : k ≤ s.data.toList.length := by rw [str_len]; exact hle
      have HK := hid hkl
      clear hkl
      by_cases h1 : k = 1
      · subst h1
        have HS := hid (form_take s.data.toList 1 (by omega) HK.out (fun j h1 h2 => by omega))
        rw [HB.out] at HS
        have h1' : (1 < (1 : Int)) = False := by simp
        cases b with
        | true =>
          go_wp2_with (go_at_call 16; refine HC.out.mono ?_; intro e w' hpost; obtain ⟨rfl, rfl⟩ := hpost.call; clear hpost)
          refine ⟨⟨2, by omega, by omega, rfl, ?_, fun j h1 h2 => by omega⟩, by simp [intOf]; omega⟩
          have := HS.out; simp at this; simp [← this]
        | false =>
          go_wp2_with (go_at_call 16; refine HC.out.mono ?_; intro e w' hpost; obtain ⟨rfl, rfl⟩ := hpost.call; clear hpost)
          refine ⟨⟨2, by omega, by omega, rfl, ?_, fun j h1 h2 => by omega⟩, by simp [intOf]; omega⟩
          have := HS.out; simp at this; simp [← this]
      · have hlt : 1 < k := by omega
        have hk0 : k - 1 < s.size := by omega
        have hidx := str_get s (k - 1) hk0
        cases hd : isDig (s.data.toList.getD (k - 1) 0) with
        | false =>
          have hfin := best_lead s.data.toList (k - 1) (by rw [str_len]; omega) (by omega) (by rw [str_len]; omega) HA.out (.inr hd)
          have HF := hid hfin
          have hd2 := isDig_not.1 hd
          rw [← hidx] at hd2
          clear hd hidx hfin
          rcases hd2 with hd2 | hd2
          all_goals
            go_wp2_with (go_at_call 16; refine HC.out.mono ?_; intro e w' hpost; obtain ⟨rfl, rfl⟩ := hpost.call; clear hpost)
            refine bodyPost_ret (results_tmp rfl _ _ _) rfl (IntPost.mk ?_)
            rw [← HL.out, HF.out]
        | true =>
          have hall' : ∀ j, 1 ≤ j → j < k → isDig (s.data.toList.getD j 0) = true := by
            intro j h1 h2
            by_cases e : j = k - 1
            · subst e; exact hd
            · exact HA.out j h1 (by omega)
          have HS := hid (form_take s.data.toList k hk1 HK.out hall')
          rw [HB.out] at HS
          have HA' := hid hall'
          have hd2 := isDig_iff.1 hd
          rw [← hidx] at hd2
          obtain ⟨hd3, hd4⟩ := hd2
          clear hd hidx hall'
          cases b with
          | true =>
            go_wp2_with (go_at_call 16; refine HC.out.mono ?_; intro e w' hpost; obtain ⟨rfl, rfl⟩ := hpost.call; clear hpost)
            refine ⟨⟨k + 1, by omega, by omega, by go_num, ?_, fun j h1 h2 => HA'.out j h1 (by omega)⟩, by simp [intOf]; omega⟩
            have := HS.out; simp at this; simp [← this]
          | false =>
            go_wp2_with (go_at_call 16; refine HC.out.mono ?_; intro e w' hpost; obtain ⟨rfl, rfl⟩ := hpost.call; clear hpost)
            refine ⟨⟨k + 1, by omega, by omega, by go_num, ?_, fun j h1 h2 => HA'.out j h1 (by omega)⟩, by simp [intOf]; omega⟩
            have := HS.out; simp at this; simp [← this]
    · have hle' : decide ((k : Int) ≤ (s.size : Int)) = false := by simp; omega
      have hfin : bestOf s.data.toList (k - 1) = lead s.data.toList := by
        by_cases h0 : s.size = 0
        · have : s.data.toList = [] := List.eq_nil_of_length_eq_zero (by simpa using h0)
          rw [show k - 1 = 0 by omega, best_zero, this]; rfl
        · exact best_lead s.data.toList (k - 1) (by rw [str_len]; omega) (by omega) (by rw [str_len]; omega) HA.out (.inl (by rw [str_len]; omega))
      have HF := hid hfin
      clear hfin
      go_wp2_with (fail)
      refine bodyPost_ret (results_tmp rfl _ _ _) rfl (IntPost.mk ?_)
      rw [← HL.out, HF.out]
end Go.Proofs.YtgneddcgggagaaaDoor

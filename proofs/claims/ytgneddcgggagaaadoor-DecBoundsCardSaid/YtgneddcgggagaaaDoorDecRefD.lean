/-
  The document's Read of numbers by contract.
-/
import Derived.Test.YtgneddcgggagaaaDoorDecRefC
namespace Go.Proofs.YtgneddcgggagaaaDoor
open Go.RowKit
set_option linter.unusedVariables false

def limitUp : List UInt8 := [57, 50, 50, 51, 51, 55, 50, 48, 51, 54, 56, 53, 52, 55, 55, 53, 56, 48, 55]
def limitDown : List UInt8 := [57, 50, 50, 51, 51, 55, 50, 48, 51, 54, 56, 53, 52, 55, 55, 53, 56, 48, 56]
theorem limitUp_val : natOf limitUp = 9223372036854775807 := by decide +kernel
theorem limitDown_val : natOf limitDown = 9223372036854775808 := by decide +kernel
theorem BoolPost.call' {b : Bool} {w : World} {e : Ending} {w' : World} (h : BoolPost b w e w') : e = .returned (.bool b) ∧ w = w' := h
theorem IntPost.call {n : Nat} {w : World} {e : Ending} {w' : World} (h : IntPost n w e w') : e = .returned (.int .i64 n) ∧ w = w' := h

def RRRel (t : ByteArray) (sg : Int) (n i : Value) : Prop := ∃ k m : Nat, k ≤ t.size ∧ i = .int .i64 k ∧ n = .int .i64 (sg * (m : Int)) ∧ m = natOf (t.data.toList.take k)

set_option maxHeartbeats 2000000 in
theorem rread_plain_over (s : ByteArray) (w : World) (hs : s.size ≤ 1048576) (least most : Int) (hp : 0 < s.size) (h45 : ((s[0].toNat : Int) == 45) = false)
    (HF : Hid (Calls Tryd.prog 16 #[.string s] w (BoolPost true w))) (HL : Hid (Calls Tryd.prog 17 #[.string ⟨limitUp.toArray⟩, .string s] w (BoolPost true w)))
    (HR : Hid (readSpec s.data.toList least most = (0, .no 41))) :
    Calls Tryd.prog 11 #[.string s, .int .i64 least, .int .i64 most] w (RReadPost s.data.toList least most w) := by
  unfold limitUp at HL
  go_enter Tryd.func11, Tryd.ntmps11
  go_wp2_with (first | (go_at_call 16; refine HF.out.mono ?_; intro e w' hpost; obtain ⟨rfl, rfl⟩ := hpost.call; clear hpost) | (go_at_call 17; refine HL.out.mono ?_; intro e w' hpost; obtain ⟨rfl, rfl⟩ := hpost.call; clear hpost))
  refine bodyPost_ret (results_tmp3 rfl _ _ _) rfl (RReadPost.mk HR.out rfl rfl)

set_option maxHeartbeats 2000000 in
theorem rread_plain_in (s : ByteArray) (w : World) (hs : s.size ≤ 1048576) (least most : Int) (hl1 : -9223372036854775808 ≤ least) (hl2 : least ≤ 9223372036854775807) (hm1 : -9223372036854775808 ≤ most) (hm2 : most ≤ 9223372036854775807) (hp : 0 < s.size) (h45 : ((s[0].toNat : Int) == 45) = false) 
    (HF : Hid (Calls Tryd.prog 16 #[.string s] w (BoolPost true w))) (HL : Hid (Calls Tryd.prog 17 #[.string ⟨limitUp.toArray⟩, .string s] w (BoolPost false w)))
    (HM : Hid (natOf s.data.toList ≤ 9223372036854775807)) (HG : Hid (¬ (lead s.data.toList = 0 ∨ lead s.data.toList < s.data.toList.length))) (HV : Hid (readV s.data.toList = (natOf s.data.toList : Int))) (HS : Hid (span s.data.toList = s.data.toList.length)) (hsz : s.size ≤ 1048576) :
    Calls Tryd.prog 11 #[.string s, .int .i64 least, .int .i64 most] w (RReadPost s.data.toList least most w) := by
  unfold limitUp at HL
  go_enter Tryd.func11, Tryd.ntmps11
  go_wp2_with (first | (go_at_call 16; refine HF.out.mono ?_; intro e w' hpost; obtain ⟨rfl, rfl⟩ := hpost.call; clear hpost) | (go_at_call 17; refine HL.out.mono ?_; intro e w' hpost; obtain ⟨rfl, rfl⟩ := hpost.call; clear hpost))
  go_loop [12, 13] (fun n i => RRRel s (1) n i) (fun _ i => s.size - (intOf i).toNat)
  case atStart => exact ⟨0, 0, by omega, rfl, rfl, rfl⟩
  case round =>
    obtain ⟨k, m, hk, rfl, rfl, hm⟩ := hrel
    have hmb : m ≤ 9223372036854775807 := by have := natOf_take_le s.data.toList k; have := HM.out; omega
    have HMk := hid hm
    clear hm
    by_cases hlt : k < s.size
    · obtain ⟨d, hd', hd9, hdk⟩ := digit_at s HS.out k hlt
      have hstep := natOf_succ s.data.toList k (by simpa using hlt)
      rw [← HMk.out, ← hdk] at hstep
      have hnb : m * 10 + d ≤ 9223372036854775807 := by have := natOf_take_le s.data.toList (k + 1); have := HM.out; omega
      have HST := hid hstep
      clear hdk hstep
      go_wp2_with (fail)
      refine ⟨⟨k + 1, m * 10 + d, by omega, by go_num, ?_, HST.out.symm⟩, by simp [intOf]; omega⟩
      congr 1
      try unfold wrap64
      omega
    · have hall : m = natOf s.data.toList := by rw [HMk.out, List.take_of_length_le (by simp; omega)]
      have HA := hid hall
      clear hall
      by_cases hr1 : (m : Int) < least
      · go_wp2_with (fail)
        refine bodyPost_ret (results_tmp3 rfl _ _ _) rfl (RReadPost.mk (readSpec_over HG.out ?_) rfl rfl)
        rw [HV.out, ← HA.out]; omega
      · by_cases hr2 : most < (m : Int)
        · go_wp2_with (fail)
          refine bodyPost_ret (results_tmp3 rfl _ _ _) rfl (RReadPost.mk (readSpec_over HG.out ?_) rfl rfl)
          rw [HV.out, ← HA.out]; omega
        · go_wp2_with (fail)
          refine bodyPost_ret (results_tmp3 rfl _ _ _) rfl (RReadPost.mk (readSpec_good (v := (m : Int)) HG.out ?_ (by omega) (by omega) (by omega) (by omega)) rfl rfl)
          rw [HV.out, ← HA.out]

set_option maxHeartbeats 2000000 in
theorem rread_below_over (s : ByteArray) (w : World) (hs : s.size ≤ 1048576) (least most : Int) (t : ByteArray) (HT : Hid (s.extract 1 s.size = t)) (hp : 0 < s.size) (h45 : ((s[0].toNat : Int) == 45) = true)
    (HF : Hid (Calls Tryd.prog 16 #[.string s] w (BoolPost true w))) (HL : Hid (Calls Tryd.prog 17 #[.string ⟨limitDown.toArray⟩, .string (s.extract 1 s.size)] w (BoolPost true w)))
    (HR : Hid (readSpec s.data.toList least most = (0, .no 41))) :
    Calls Tryd.prog 11 #[.string s, .int .i64 least, .int .i64 most] w (RReadPost s.data.toList least most w) := by
  unfold limitDown at HL
  go_enter Tryd.func11, Tryd.ntmps11
  go_wp2_with (first | (go_at_call 16; refine HF.out.mono ?_; intro e w' hpost; obtain ⟨rfl, rfl⟩ := hpost.call; clear hpost) | (go_at_call 17; refine HL.out.mono ?_; intro e w' hpost; obtain ⟨rfl, rfl⟩ := hpost.call; clear hpost))
  refine bodyPost_ret (results_tmp3 rfl _ _ _) rfl (RReadPost.mk HR.out rfl rfl)

set_option maxHeartbeats 2000000 in
theorem rread_below_in (s : ByteArray) (w : World) (hs : s.size ≤ 1048576) (least most : Int) (hl1 : -9223372036854775808 ≤ least) (hl2 : least ≤ 9223372036854775807) (hm1 : -9223372036854775808 ≤ most) (hm2 : most ≤ 9223372036854775807) (hp : 0 < s.size) (h45 : ((s[0].toNat : Int) == 45) = true) (t : ByteArray) (HT : Hid (s.extract 1 s.size = t)) (hts : s.size - 1 = t.size) 
    (HF : Hid (Calls Tryd.prog 16 #[.string s] w (BoolPost true w))) (HL : Hid (Calls Tryd.prog 17 #[.string ⟨limitDown.toArray⟩, .string (s.extract 1 s.size)] w (BoolPost false w)))
    (HM : Hid (natOf t.data.toList ≤ 9223372036854775808)) (HG : Hid (¬ (lead s.data.toList = 0 ∨ lead s.data.toList < s.data.toList.length))) (HV : Hid (readV s.data.toList = -(natOf t.data.toList : Int))) (HS : Hid (span t.data.toList = t.data.toList.length)) (hsz : t.size ≤ 1048576) :
    Calls Tryd.prog 11 #[.string s, .int .i64 least, .int .i64 most] w (RReadPost s.data.toList least most w) := by
  unfold limitDown at HL
  go_enter Tryd.func11, Tryd.ntmps11
  go_wp2_with (first | (go_at_call 16; refine HF.out.mono ?_; intro e w' hpost; obtain ⟨rfl, rfl⟩ := hpost.call; clear hpost) | (go_at_call 17; refine HL.out.mono ?_; intro e w' hpost; obtain ⟨rfl, rfl⟩ := hpost.call; clear hpost))
  rw [HT.out]
  go_loop [12, 13] (fun n i => RRRel t (-1) n i) (fun _ i => t.size - (intOf i).toNat)
  case atStart => exact ⟨0, 0, by omega, rfl, rfl, rfl⟩
  case round =>
    obtain ⟨k, m, hk, rfl, rfl, hm⟩ := hrel
    have hmb : m ≤ 9223372036854775808 := by have := natOf_take_le t.data.toList k; have := HM.out; omega
    have HMk := hid hm
    clear hm
    by_cases hlt : k < t.size
    · obtain ⟨d, hd', hd9, hdk⟩ := digit_at t HS.out k hlt
      have hstep := natOf_succ t.data.toList k (by simpa using hlt)
      rw [← HMk.out, ← hdk] at hstep
      have hnb : m * 10 + d ≤ 9223372036854775808 := by have := natOf_take_le t.data.toList (k + 1); have := HM.out; omega
      have HST := hid hstep
      clear hdk hstep
      go_wp2_with (fail)
      refine ⟨⟨k + 1, m * 10 + d, by omega, by go_num, ?_, HST.out.symm⟩, by simp [intOf]; omega⟩
      congr 1
      try unfold wrap64
      omega
    · have hall : m = natOf t.data.toList := by rw [HMk.out, List.take_of_length_le (by simp; omega)]
      have HA := hid hall
      clear hall
      by_cases hr1 : -(m : Int) < least
      · go_wp2_with (fail)
        refine bodyPost_ret (results_tmp3 rfl _ _ _) rfl (RReadPost.mk (readSpec_over HG.out ?_) rfl rfl)
        rw [HV.out, ← HA.out]; omega
      · by_cases hr2 : most < -(m : Int)
        · go_wp2_with (fail)
          refine bodyPost_ret (results_tmp3 rfl _ _ _) rfl (RReadPost.mk (readSpec_over HG.out ?_) rfl rfl)
          rw [HV.out, ← HA.out]; omega
        · go_wp2_with (fail)
          refine bodyPost_ret (results_tmp3 rfl _ _ _) rfl (RReadPost.mk (readSpec_good (v := -(m : Int)) HG.out ?_ (by omega) (by omega) (by omega) (by omega)) rfl rfl)
          rw [HV.out, ← HA.out]

set_option maxHeartbeats 1000000 in
theorem rread_any (s : ByteArray) (w : World) (hs : s.size ≤ 1048576) (least most : Int) (hl1 : -9223372036854775808 ≤ least) (hl2 : least ≤ 9223372036854775807) (hm1 : -9223372036854775808 ≤ most) (hm2 : most ≤ 9223372036854775807) :
    Calls Tryd.prog 11 #[.string s, .int .i64 least, .int .i64 most] w (RReadPost s.data.toList least most w) := by
  have hform := form_any s w hs
  by_cases hf : formB s.data.toList = true
  · rw [hf] at hform
    have HG := (form_iff _).1 hf
    rcases lead_whole s.data.toList (by omega) (by omega) with ⟨h45, h2, h48, hsp⟩ | ⟨h45, h2, hsp, h48⟩
    · have hp : 0 < s.size := by have := str_len s; omega
      have hd : (s.extract 1 s.size).data.toList.all isDig = true := by
        rw [extract_one, all_dig]; exact span_all _ (by rw [hsp]; simp)
      have hless := less_any ⟨limitDown.toArray⟩ (s.extract 1 s.size) w (by decide) (by simp; omega)
      have hlim := less_limit limitDown (s.extract 1 s.size).data.toList rfl (by decide) (by rw [limitDown_val]; omega) hd (by rw [extract_one, List.length_drop]; omega) (.inr (by rw [extract_one, drop_getD]; exact h48))
      rw [limitDown_val] at hlim
      have e45 : ((s[0].toNat : Int) == 45) = true := int_beq_true (by rw [str_get s 0 hp]; exact (u8_eq45 _).1 h45)
      have hV : readV s.data.toList = -(natOf (s.extract 1 s.size).data.toList : Int) := by rw [extract_one]; unfold readV; rw [if_pos h45]
      by_cases ho : 9223372036854775808 < natOf (s.extract 1 s.size).data.toList
      · rw [show lessB limitDown (s.extract 1 s.size).data.toList = true by rw [hlim]; simpa using ho] at hless
        exact rread_below_over s w hs least most _ (hid rfl) hp e45 (hid hform) (hid hless) (hid (readSpec_over HG (by rw [hV]; omega)))
      · rw [show lessB limitDown (s.extract 1 s.size).data.toList = false by rw [hlim]; simpa using ho] at hless
        exact rread_below_in s w hs least most hl1 hl2 hm1 hm2 hp e45 _ (hid rfl) (by simp) (hid hform) (hid hless) (hid (by omega)) (hid HG) (hid hV) (hid (by rw [extract_one, hsp]; simp)) (by simp; omega)
    · have hp : 0 < s.size := by have := str_len s; omega
      have hd : s.data.toList.all isDig = true := by rw [all_dig]; exact span_all _ hsp
      have hless := less_any ⟨limitUp.toArray⟩ s w (by decide) hs
      have hlim := less_limit limitUp s.data.toList rfl (by decide) (by rw [limitUp_val]; omega) hd h2 h48
      rw [limitUp_val] at hlim
      have e45 : ((s[0].toNat : Int) == 45) = false := int_beq_false (by rw [str_get s 0 hp]; intro e; exact h45 ((u8_eq45 _).2 e))
      have hV : readV s.data.toList = (natOf s.data.toList : Int) := by unfold readV; rw [if_neg h45]
      by_cases ho : 9223372036854775807 < natOf s.data.toList
      · rw [show lessB limitUp s.data.toList = true by rw [hlim]; simpa using ho] at hless
        exact rread_plain_over s w hs least most hp e45 (hid hform) (hid hless) (hid (readSpec_over HG (by rw [hV]; omega)))
      · rw [show lessB limitUp s.data.toList = false by rw [hlim]; simpa using ho] at hless
        exact rread_plain_in s w hs least most hl1 hl2 hm1 hm2 hp e45 (hid hform) (hid hless) (hid (by omega)) (hid HG) (hid hV) (hid hsp) hs
  · have hf' : formB s.data.toList = false := by simpa using hf
    rw [hf'] at hform
    have HF := hid hform
    have hG : lead s.data.toList = 0 ∨ lead s.data.toList < s.data.toList.length := by
      apply Classical.byContradiction
      intro h; exact hf ((form_iff _).2 h)
    have HR : Hid (readSpec s.data.toList least most = (0, .at_ (lead s.data.toList) 40)) := by unfold readSpec; rw [if_pos hG]; rfl
    clear hform hf hf' hG
    go_enter Tryd.func11, Tryd.ntmps11
    go_wp2_with (first | (go_at_call 16; refine HF.out.mono ?_; intro e w' hpost; obtain ⟨rfl, rfl⟩ := hpost.call; clear hpost) | (go_at_call 15; refine (rlead_any _ _ hs).mono ?_; intro e w' hpost; obtain ⟨rfl, rfl⟩ := hpost.call; clear hpost))
    refine bodyPost_ret (results_tmp3 rfl _ _ _) rfl (RReadPost.mk HR.out rfl rfl)
end Go.Proofs.YtgneddcgggagaaaDoor

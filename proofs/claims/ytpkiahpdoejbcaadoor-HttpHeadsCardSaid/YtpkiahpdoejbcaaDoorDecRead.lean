/-
  dec.Read by contract: the number of a text within bounds, or what is wrong with it.
-/
import Derived.Test.YtpkiahpdoejbcaaDoorDecLead
import Derived.Test.YtpkiahpdoejbcaaDoorErr
namespace Go.Proofs.YtpkiahpdoejbcaaDoor
open Go.RowKit
set_option linter.unusedVariables false

/-- The number that digits spell. -/
def natOf (l : List UInt8) : Nat := l.foldl (fun a c => a * 10 + (c.toNat - 48)) 0
/-- The number of a text. -/
def readV (l : List UInt8) : Int := if l.getD 0 0 = 45 then -(natOf (l.drop 1) : Int) else natOf l
def readSpec (l : List UInt8) (least most : Int) : Int × GErr :=
  if lead l = 0 ∨ lead l < l.length then (0, .at_ (lead l) 40)
  else if readV l < -9223372036854775808 ∨ 9223372036854775807 < readV l then (0, .no 41)
  else if readV l < least ∨ most < readV l then (0, .no 41) else (readV l, .nil)

theorem foldl_ge (l : List UInt8) : ∀ a : Nat, a ≤ l.foldl (fun a c => a * 10 + (c.toNat - 48)) a := by
  induction l with
  | nil => intro a; simp
  | cons c r ih => intro a; simp only [List.foldl_cons]; have := ih (a * 10 + (c.toNat - 48)); omega
theorem natOf_take_le (l : List UInt8) (k : Nat) : natOf (l.take k) ≤ natOf l := by
  have h : natOf l = (l.drop k).foldl (fun a c => a * 10 + (c.toNat - 48)) (natOf (l.take k)) := by
    unfold natOf; rw [← List.foldl_append, List.take_append_drop]
  rw [h]; exact foldl_ge _ _
theorem natOf_succ (l : List UInt8) (k : Nat) (h : k < l.length) : natOf (l.take (k + 1)) = natOf (l.take k) * 10 + ((l.getD k 0).toNat - 48) := by
  have : l.take (k + 1) = l.take k ++ [l.getD k 0] := by
    rw [List.take_succ_eq_append_getElem h]; simp [List.getD, h]
  rw [this]; unfold natOf; simp

theorem tdiv_of (x : Int) (h : x ≤ 0) : x.tdiv 10 = -((-x) / 10) := by
  obtain ⟨y, rfl⟩ : ∃ y, x = -y := ⟨-x, by omega⟩
  rw [Int.neg_tdiv, Int.tdiv_eq_ediv_of_nonneg (by omega)]; simp
theorem over_a (m d : Nat) (hd : d ≤ 9) (h : -(m : Int) < (-9223372036854775808 + (48 + (d : Int) - 48)).tdiv 10) : 9223372036854775808 < m * 10 + d := by
  rw [tdiv_of _ (by omega)] at h; omega
theorem over_b (m d : Nat) (hd : d ≤ 9) (hm : m ≤ 9223372036854775808) (_h0 : (-9223372036854775808 + (48 + (d : Int) - 48)).tdiv 10 ≤ -(m : Int))
    (h : -(m : Int) < (-9223372036854775808 + (48 + (d : Int) - 48)).tdiv 10 ∨ wrap64 (-(m : Int) * 10) < -9223372036854775808 + (48 + (d : Int) - 48)) : 9223372036854775808 < m * 10 + d := by
  rcases h with h | h
  · exact over_a m d hd h
  · rw [tdiv_of _ (by omega)] at _h0
    unfold wrap64 at h; omega
theorem no_over (m d : Nat) (hd : d ≤ 9) (_h0 : (-9223372036854775808 + (48 + (d : Int) - 48)).tdiv 10 ≤ -(m : Int))
    (h : (-9223372036854775808 + (48 + (d : Int) - 48)).tdiv 10 ≤ -(m : Int) ∧ -9223372036854775808 + (48 + (d : Int) - 48) ≤ wrap64 (-(m : Int) * 10)) :
    m * 10 + d ≤ 9223372036854775808 ∧ wrap64 (wrap64 (-(m : Int) * 10) - (48 + (d : Int) - 48)) = -((m * 10 + d : Nat) : Int) := by
  obtain ⟨h1, h2⟩ := h
  rw [tdiv_of _ (by omega)] at h1
  unfold wrap64 at *; omega

/-- What Read's call comes to. -/
def ReadPost (l : List UInt8) (least most : Int) (w : World) (e : Ending) (w' : World) : Prop :=
  ∃ v, e = .returned (.tuple #[.int .i64 (readSpec l least most).1, v]) ∧ IsErr w' (readSpec l least most).2 v ∧ Below w.heap.size w w'
theorem ReadPost.at_ {l : List UInt8} {least most : Int} {w : World} {L : Nat} (h : lead l = L) (hb : lead l = 0 ∨ lead l < l.length) :
    ReadPost l least most w (.returned (.tuple #[.int .i64 0, .iface 58 (.pointer (some ⟨w.heap.size, 0, none⟩))])) (w.alloc (.cells #[.int .i64 (L : Int), .iface 55 (.int .i64 40)] 60)) := by
  have e : readSpec l least most = (0, .at_ (lead l) 40) := by unfold readSpec; rw [if_pos hb]
  refine ⟨_, by rw [e], ?_, (Below.refl _ _).alloc (Nat.le_refl _) _⟩
  rw [e]
  exact ⟨_, _, rfl, by simp [h], by simp⟩
theorem ReadPost.over {l : List UInt8} {least most : Int} {w : World} (hb : ¬ (lead l = 0 ∨ lead l < l.length)) (h : readV l < -9223372036854775808 ∨ 9223372036854775807 < readV l ∨ readV l < least ∨ most < readV l) :
    ReadPost l least most w (.returned (.tuple #[.int .i64 0, .iface 55 (.int .i64 41)])) w := by
  have e : readSpec l least most = (0, .no 41) := by
    unfold readSpec; rw [if_neg hb]
    by_cases h1 : readV l < -9223372036854775808 ∨ 9223372036854775807 < readV l
    · rw [if_pos h1]
    · rw [if_neg h1, if_pos (by omega)]
  exact ⟨_, by rw [e], by rw [e]; rfl, Below.refl _ _⟩
theorem ReadPost.good {l : List UInt8} {least most : Int} {w : World} {v : Int} (hb : ¬ (lead l = 0 ∨ lead l < l.length)) (hv : readV l = v) (h1 : -9223372036854775808 ≤ v) (h2 : v ≤ 9223372036854775807) (h3 : least ≤ v) (h4 : v ≤ most) :
    ReadPost l least most w (.returned (.tuple #[.int .i64 v, .nilIface])) w := by
  have e : readSpec l least most = (v, .nil) := by
    unfold readSpec; rw [if_neg hb, if_neg (by omega), if_neg (by omega), hv]
  exact ⟨_, by rw [e], by rw [e]; rfl, Below.refl _ _⟩

/-- Where a whole text is a number's, all bytes behind a sign are digits. -/
theorem lead_whole (l : List UInt8) (h0 : ¬ lead l = 0) (h : ¬ lead l < l.length) : (l.getD 0 0 = 45 ∧ 2 ≤ l.length ∧ ¬ l.getD 1 0 = 48 ∧ span (l.drop 1) = l.length - 1) ∨ (¬ l.getD 0 0 = 45 ∧ 1 ≤ l.length ∧ span l = l.length ∧ (l.length = 1 ∨ ¬ l.getD 0 0 = 48)) := by
  by_cases he : l.length = 0
  · exact absurd (by unfold lead; rw [if_pos he]) h0
  by_cases h45 : l.getD 0 0 = 45
  · left
    unfold lead at h h0
    rw [if_neg he, if_pos h45] at h h0
    by_cases h1 : l.length = 1
    · rw [if_pos h1] at h0; omega
    rw [if_neg h1] at h h0
    by_cases h2 : isDig (l.getD 1 0) = false
    · rw [if_pos h2] at h0; omega
    rw [if_neg h2] at h h0
    by_cases h3 : l.getD 1 0 = 48
    · rw [if_pos h3] at h0; omega
    rw [if_neg h3] at h h0
    have := span_le (l.drop 1)
    rw [List.length_drop] at this
    exact ⟨h45, by omega, h3, by omega⟩
  · right
    unfold lead at h h0
    rw [if_neg he, if_neg h45] at h h0
    by_cases h2 : isDig (l.getD 0 0) = false
    · rw [if_pos h2] at h0; omega
    rw [if_neg h2] at h h0
    by_cases h3 : l.getD 0 0 = 48
    · rw [if_pos h3] at h
      have hl : l.length = 1 := by omega
      match l, hl with
      | [c], _ => simp at h2; exact ⟨h45, by simp, by simp [span, h2], .inl rfl⟩
    · rw [if_neg h3] at h h0
      have := span_le l
      simp at h
      exact ⟨h45, by omega, by omega, .inr h3⟩
theorem span_all (l : List UInt8) (h : span l = l.length) (k : Nat) (hk : k < l.length) : isDig (l.getD k 0) = true := by
  induction l generalizing k with
  | nil => simp at hk
  | cons c r ih =>
    unfold span at *
    by_cases hc : isDig c = true
    · cases k with
      | zero => simpa using hc
      | succ k => simp [hc] at h; have := ih h k (by simpa using hk); simpa using this
    · simp [hc] at h

def ReadRel (t : ByteArray) (n i : Value) : Prop := ∃ k m : Nat, k ≤ t.size ∧ i = .int .i64 k ∧ n = .int .i64 (-(m : Int)) ∧ m = natOf (t.data.toList.take k) ∧ m ≤ 9223372036854775808

/-- A digit of a text all of whose bytes are digits. -/
theorem digit_at (t : ByteArray) (h : span t.data.toList = t.data.toList.length) (k : Nat) (hk : k < t.size) : ∃ d : Nat, (t[k].toNat : Int) = 48 + d ∧ d ≤ 9 ∧ d = (t.data.toList.getD k 0).toNat - 48 := by
  have h1 := span_all _ h k (by simpa using hk)
  have h2 := isDig_iff.1 h1
  exact ⟨(t.data.toList.getD k 0).toNat - 48, by rw [str_get t k hk]; omega, by omega, rfl⟩
theorem over_whole (t : ByteArray) (k d : Nat) (hk : k < t.size) (hd : d = (t.data.toList.getD k 0).toNat - 48) (h : 9223372036854775808 < natOf (t.data.toList.take k) * 10 + d) : 9223372036854775808 < natOf t.data.toList := by
  have h1 := natOf_succ t.data.toList k (by simpa using hk)
  have h2 := natOf_take_le t.data.toList (k + 1)
  omega

set_option maxHeartbeats 2000000 in
theorem read_plain (s : ByteArray) (w : World) (hs : s.size ≤ 1048576) (least most : Int) (hl1 : -9223372036854775808 ≤ least) (hl2 : least ≤ 9223372036854775807) (hm1 : -9223372036854775808 ≤ most) (hm2 : most ≤ 9223372036854775807)
    (L : Nat) (HL : Hid (lead s.data.toList = L)) (hbad : ((L : Int) == 0) = false) (h2 : decide (L < s.size) = false) (hp : 0 < s.size) (h45 : ((s[0].toNat : Int) == 45) = false)
    (HG : Hid (¬ (lead s.data.toList = 0 ∨ lead s.data.toList < s.data.toList.length))) (HV : Hid (readV s.data.toList = natOf s.data.toList)) (HS : Hid (span s.data.toList = s.data.toList.length)) (hsz : s.size ≤ 1048576) :
    Calls Tryd.prog 38 #[.string s, .int .i64 least, .int .i64 most] w (ReadPost s.data.toList least most w) := by
  go_enter Tryd.func38, Tryd.ntmps38
  go_wp2_with (go_at_call 54; refine (lead_any _ _ hs).mono ?_; rw [HL.out]; rintro e w' ⟨rfl, rfl⟩)
  go_loop [10, 36] (fun n i => ReadRel s n i) (fun _ i => s.size - (intOf i).toNat)
  case atStart => exact ⟨0, 0, by omega, rfl, rfl, rfl, by omega⟩
  case round =>
    obtain ⟨k, m, hk, rfl, rfl, hm, hm2⟩ := hrel
    have HM := hid hm
    clear hm
    by_cases hlt : k < s.size
    · obtain ⟨d, hd', hd9, hdk⟩ := digit_at s HS.out k hlt
      have HD := hid hdk
      clear hdk
      go_wp2
      · have hw := over_whole s k d hlt HD.out (by rw [← HM.out]; exact over_b m d hd9 hm2 (by assumption) (by assumption))
        refine bodyPost_ret (results_tmp2 rfl _ _ _) rfl (ReadPost.over HG.out ?_)
        rw [HV.out]; omega
      · obtain ⟨hno, hno2⟩ := no_over m d hd9 (by assumption) (by assumption)
        have hstep := natOf_succ s.data.toList k (by simpa using hlt)
        refine ⟨⟨k + 1, m * 10 + d, by omega, by go_num, by rw [hno2], ?_, hno⟩, by simp [intOf]; omega⟩
        rw [hstep, ← HM.out, ← HD.out]
      · have hw := over_whole s k d hlt HD.out (by rw [← HM.out]; exact over_a m d hd9 (by assumption))
        refine bodyPost_ret (results_tmp2 rfl _ _ _) rfl (ReadPost.over HG.out ?_)
        rw [HV.out]; omega
    · have hall : m = natOf s.data.toList := by rw [HM.out, List.take_of_length_le (by simp; omega)]
      have HA := hid hall
      clear hall
      by_cases hb : m = 9223372036854775808
      · have hb' : ((-(m : Int)) == -9223372036854775808) = true := int_beq_true (by omega)
        have hbi : 9223372036854775808 ≤ m := by omega
        clear hb
        go_wp2
        refine bodyPost_ret (results_tmp2 rfl _ _ _) rfl (ReadPost.over HG.out ?_)
        rw [HV.out, ← HA.out]; omega
      · have hb' : ((-(m : Int)) == -9223372036854775808) = false := int_beq_false (by omega)
        have hbi : m ≤ 9223372036854775807 := by omega
        clear hb
        by_cases hr1 : (m : Int) < least
        · go_wp2
          refine bodyPost_ret (results_tmp2 rfl _ _ _) rfl (ReadPost.over HG.out ?_)
          rw [HV.out, ← HA.out]; omega
        · by_cases hr2 : most < (m : Int)
          · go_wp2
            refine bodyPost_ret (results_tmp2 rfl _ _ _) rfl (ReadPost.over HG.out ?_)
            rw [HV.out, ← HA.out]; omega
          · go_wp2
            refine bodyPost_ret (results_tmp2 rfl _ _ _) rfl (ReadPost.good HG.out (v := m) (by rw [HV.out, ← HA.out]) (by omega) (by omega) (by omega) (by omega))

set_option maxHeartbeats 2000000 in
theorem read_below (s : ByteArray) (w : World) (hs : s.size ≤ 1048576) (least most : Int) (hl1 : -9223372036854775808 ≤ least) (hl2 : least ≤ 9223372036854775807) (hm1 : -9223372036854775808 ≤ most) (hm2 : most ≤ 9223372036854775807)
    (L : Nat) (HL : Hid (lead s.data.toList = L)) (hbad : ((L : Int) == 0) = false) (h2 : decide (L < s.size) = false) (hp : 0 < s.size) (t : ByteArray) (HT : Hid (s.extract 1 s.size = t)) (hts : s.size - 1 = t.size) (h45 : ((s[0].toNat : Int) == 45) = true)
    (HG : Hid (¬ (lead s.data.toList = 0 ∨ lead s.data.toList < s.data.toList.length))) (HV : Hid (readV s.data.toList = -(natOf t.data.toList : Int))) (HS : Hid (span t.data.toList = t.data.toList.length)) (hsz : t.size ≤ 1048576) :
    Calls Tryd.prog 38 #[.string s, .int .i64 least, .int .i64 most] w (ReadPost s.data.toList least most w) := by
  go_enter Tryd.func38, Tryd.ntmps38
  go_wp2_with (go_at_call 54; refine (lead_any _ _ hs).mono ?_; rw [HL.out]; rintro e w' ⟨rfl, rfl⟩)
  rw [HT.out]
  clear hts
  go_loop [10, 36] (fun n i => ReadRel t n i) (fun _ i => t.size - (intOf i).toNat)
  case atStart => exact ⟨0, 0, by omega, rfl, rfl, rfl, by omega⟩
  case round =>
    obtain ⟨k, m, hk, rfl, rfl, hm, hm2⟩ := hrel
    have HM := hid hm
    clear hm
    by_cases hlt : k < t.size
    · obtain ⟨d, hd', hd9, hdk⟩ := digit_at t HS.out k hlt
      have HD := hid hdk
      clear hdk
      go_wp2
      · have hw := over_whole t k d hlt HD.out (by rw [← HM.out]; exact over_b m d hd9 hm2 (by assumption) (by assumption))
        refine bodyPost_ret (results_tmp2 rfl _ _ _) rfl (ReadPost.over HG.out ?_)
        rw [HV.out]; omega
      · obtain ⟨hno, hno2⟩ := no_over m d hd9 (by assumption) (by assumption)
        have hstep := natOf_succ t.data.toList k (by simpa using hlt)
        refine ⟨⟨k + 1, m * 10 + d, by omega, by go_num, by rw [hno2], ?_, hno⟩, by simp [intOf]; omega⟩
        rw [hstep, ← HM.out, ← HD.out]
      · have hw := over_whole t k d hlt HD.out (by rw [← HM.out]; exact over_a m d hd9 (by assumption))
        refine bodyPost_ret (results_tmp2 rfl _ _ _) rfl (ReadPost.over HG.out ?_)
        rw [HV.out]; omega
    · have hall : m = natOf t.data.toList := by rw [HM.out, List.take_of_length_le (by simp; omega)]
      have HA := hid hall
      clear hall
      by_cases hr1 : -(m : Int) < least
      · go_wp2
        refine bodyPost_ret (results_tmp2 rfl _ _ _) rfl (ReadPost.over HG.out ?_)
        rw [HV.out, ← HA.out]; omega
      · by_cases hr2 : most < -(m : Int)
        · go_wp2
          refine bodyPost_ret (results_tmp2 rfl _ _ _) rfl (ReadPost.over HG.out ?_)
          rw [HV.out, ← HA.out]; omega
        · go_wp2
          refine bodyPost_ret (results_tmp2 rfl _ _ _) rfl (ReadPost.good HG.out (v := -m) (by rw [HV.out, ← HA.out]) (by omega) (by omega) (by omega) (by omega))

theorem extract_one (s : ByteArray) : (s.extract 1 s.size).data.toList = s.data.toList.drop 1 := by
  rw [Lib.extract_data, List.take_of_length_le (by simp)]

set_option maxHeartbeats 1000000 in
theorem read_any (s : ByteArray) (w : World) (hs : s.size ≤ 1048576) (least most : Int) (hl1 : -9223372036854775808 ≤ least) (hl2 : least ≤ 9223372036854775807) (hm1 : -9223372036854775808 ≤ most) (hm2 : most ≤ 9223372036854775807) :
    Calls Tryd.prog 38 #[.string s, .int .i64 least, .int .i64 most] w (ReadPost s.data.toList least most w) := by
  obtain ⟨L, HL⟩ : ∃ L, Hid (lead s.data.toList = L) := ⟨_, rfl⟩
  by_cases h0 : L = 0
  · have hb : ((L : Int) == 0) = true := int_beq_true (by omega)
    clear h0
    go_enter Tryd.func38, Tryd.ntmps38
    go_wp2_with (go_at_call 54; refine (lead_any _ _ hs).mono ?_; rw [HL.out]; rintro e w' ⟨rfl, rfl⟩)
    refine bodyPost_ret (results_tmp2 rfl _ _ _) rfl (ReadPost.at_ HL.out (.inl (by rw [HL.out]; simpa using hb)))
  · by_cases h1 : L < s.size
    · have hb : ((L : Int) == 0) = false := int_beq_false (by omega)
      have hlt : lead s.data.toList < s.data.toList.length := by rw [HL.out]; simpa using h1
      have HLT := hid hlt
      have h1' : decide (L < s.size) = true := by simpa using h1
      clear h0 hlt h1
      go_enter Tryd.func38, Tryd.ntmps38
      go_wp2_with (go_at_call 54; refine (lead_any _ _ hs).mono ?_; rw [HL.out]; rintro e w' ⟨rfl, rfl⟩)
      refine bodyPost_ret (results_tmp2 rfl _ _ _) rfl (ReadPost.at_ HL.out (.inr HLT.out))
    · have hb : ((L : Int) == 0) = false := int_beq_false (by omega)
      have h1' : decide (L < s.size) = false := by simpa using h1
      have hlt : ¬ lead s.data.toList < s.data.toList.length := by rw [HL.out]; simpa using h1
      have hne : ¬ lead s.data.toList = 0 := by rw [HL.out]; exact h0
      have HG : Hid (¬ (lead s.data.toList = 0 ∨ lead s.data.toList < s.data.toList.length)) := hid (by omega)
      rcases lead_whole s.data.toList hne hlt with ⟨h45, h2, _, hsp⟩ | ⟨h45, h2, hsp, _⟩
      · have hp : 0 < s.size := by have := str_len s; omega
        refine read_below s w hs least most hl1 hl2 hm1 hm2 L HL hb h1' hp _ (hid rfl) (by simp) (int_beq_true (by rw [str_get s 0 hp, h45]; rfl)) HG (hid ?_) (hid ?_) (by simp; omega)
        · rw [extract_one]; unfold readV; rw [if_pos h45]
        · rw [extract_one, hsp]; simp
      · have hp : 0 < s.size := by have := str_len s; omega
        refine read_plain s w hs least most hl1 hl2 hm1 hm2 L HL hb h1' hp (int_beq_false (by rw [str_get s 0 hp]; intro e; exact h45 (UInt8.toNat_inj.1 (by have e2 : (45 : UInt8).toNat = 45 := rfl; omega)))) HG (hid ?_) (hid hsp) hs
        unfold readV; rw [if_neg h45]
end Go.Proofs.YtpkiahpdoejbcaaDoor

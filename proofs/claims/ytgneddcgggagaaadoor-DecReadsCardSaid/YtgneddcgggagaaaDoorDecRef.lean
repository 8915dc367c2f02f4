/-
  The document's readers of numbers by contract: form, less, Lead, Read.
-/
import Derived.Test.YtgneddcgggagaaaDoorDecRead
namespace Go.Proofs.YtgneddcgggagaaaDoor
open Go.RowKit
set_option linter.unusedVariables false

/-- A call that answers a bool and leaves the world alone. -/
def BoolPost (b : Bool) (w : World) (e : Ending) (w' : World) : Prop := e = .returned (.bool b) ∧ w = w'
theorem BoolPost.mk {b c : Bool} {w : World} (h : b = c) : BoolPost b w (.returned (.bool c)) w := ⟨by rw [h], rfl⟩

def formPlain (l : List UInt8) : Bool := l.all isDig && (decide (l.length = 1) || (decide (1 < l.length) && decide (¬ l.getD 0 0 = 48)))
def formB (l : List UInt8) : Bool := if 0 < l.length ∧ l.getD 0 0 = 45 then decide (1 < l.length) && decide (¬ l.getD 1 0 = 48) && decide (¬ l.getD 1 0 = 45) && formPlain (l.drop 1) else formPlain l

theorem all_dig (l : List UInt8) : l.all isDig = true ↔ ∀ j, j < l.length → isDig (l.getD j 0) = true := by
  rw [List.all_eq_true]
  constructor
  · intro h j hj
    have := h (l.getD j 0) (by rw [List.getD_eq_getElem?_getD, List.getElem?_eq_getElem hj]; simp)
    exact this
  · intro h x hx
    obtain ⟨j, hj, rfl⟩ := List.getElem_of_mem hx
    have := h j hj
    rwa [List.getD_eq_getElem?_getD, List.getElem?_eq_getElem hj] at this
theorem formPlain_no (l : List UInt8) (k : Nat) (hk : k < l.length) (h : isDig (l.getD k 0) = false) : formPlain l = false := by
  unfold formPlain
  have : l.all isDig = false := by
    rw [← Bool.not_eq_true, all_dig]; intro h'; rw [h' k hk] at h; cases h
  rw [this]; rfl
theorem formPlain_yes (l : List UInt8) (h : ∀ j, j < l.length → isDig (l.getD j 0) = true) : formPlain l = (decide (l.length = 1) || (decide (1 < l.length) && decide (¬ l.getD 0 0 = 48))) := by
  unfold formPlain
  rw [(all_dig l).2 h]; rfl

def FormRel (s : ByteArray) (v : Value) : Prop := ∃ k : Nat, k ≤ s.size ∧ v = .int .i64 k ∧ ∀ j, j < k → isDig (s.data.toList.getD j 0) = true

theorem u8_eq48 (c : UInt8) : c = 48 ↔ (c.toNat : Int) = 48 := by
  constructor
  · intro h; rw [h]; rfl
  · intro h; exact UInt8.toNat_inj.1 (by have e2 : (48 : UInt8).toNat = 48 := rfl; omega)
theorem u8_eq45 (c : UInt8) : c = 45 ↔ (c.toNat : Int) = 45 := by
  constructor
  · intro h; rw [h]; rfl
  · intro h; exact UInt8.toNat_inj.1 (by have e2 : (45 : UInt8).toNat = 45 := rfl; omega)

set_option maxHeartbeats 2000000 in
theorem form_plain (s : ByteArray) (w : World) (hs : s.size ≤ 1048576) (h45 : s.size = 0 ∨ ¬ s.data.toList.getD 0 0 = 45) :
    Calls Tryd.prog 16 #[.string s] w (BoolPost (formPlain s.data.toList) w) := by
  by_cases h0 : s.size = 0
  · have hb : decide (0 < s.size) = false := decide_eq_false (by omega)
    have HF : Hid (formPlain s.data.toList = false) := by
      have : s.data.toList = [] := List.eq_nil_of_length_eq_zero (by simpa using h0)
      rw [this]; rfl
    clear h45
    go_enter Tryd.func16, Tryd.ntmps16
    go_wp2_with (fail)
    go_loop [3] (fun v => FormRel s v) (fun v => s.size - (intOf v).toNat)
    case atStart => exact ⟨0, Nat.zero_le _, rfl, fun j hj => absurd hj (Nat.not_lt_zero j)⟩
    case round =>
      obtain ⟨k, hk, rfl, hall⟩ := hrel
      obtain rfl : k = 0 := by omega
      clear hall
      go_wp2_with (fail)
      refine bodyPost_ret (results_tmp rfl _ _ _) rfl ?_
      refine BoolPost.mk ?_
      rw [HF.out]
  · have hp : 0 < s.size := by omega
    have hb : decide (0 < s.size) = true := by simp; omega
    have h45' : ((s[0].toNat : Int) == 45) = false := int_beq_false (by rw [str_get s 0 hp]; intro e; exact (h45.resolve_left h0) ((u8_eq45 _).2 e))
    clear h45
    go_enter Tryd.func16, Tryd.ntmps16
    go_wp2_with (fail)
    go_loop [3] (fun v => FormRel s v) (fun v => s.size - (intOf v).toNat)
    case atStart => exact ⟨0, Nat.zero_le _, rfl, fun j hj => absurd hj (Nat.not_lt_zero j)⟩
    case round =>
      obtain ⟨k, hk, rfl, hall⟩ := hrel
      by_cases hlt : k < s.size
      · cases hdk : isDig (s.data.toList.getD k 0) with
        | true =>
          have hd := isDig_iff.1 hdk
          rw [← str_get s k hlt] at hd
          have hd1 : 48 ≤ s[k].toNat := hd.1
          have hd2 : s[k].toNat ≤ 57 := hd.2
          have HA := hid hall
          have HD := hid hdk
          clear hall hdk hd
          go_wp2_with (fail)
          refine ⟨⟨k + 1, by omega, by go_num, fun j hj => ?_⟩, by simp [intOf]; omega⟩
          by_cases e : j = k
          · subst e; exact HD.out
          · exact HA.out j (by omega)
        | false =>
          have HF := hid (formPlain_no s.data.toList k (by simpa using hlt) hdk)
          have hd := isDig_not.1 hdk
          rw [← str_get s k hlt] at hd
          clear hall hdk
          rcases hd with hd | hd
          all_goals
            go_wp2_with (fail)
            refine bodyPost_ret (results_tmp rfl _ _ _) rfl ?_
            refine BoolPost.mk ?_
            rw [HF.out]
      · obtain rfl : k = s.size := by omega
        have HF := hid (formPlain_yes s.data.toList (fun j hj => hall j (by simpa using hj)))
        have hlen := str_len s
        have hg := str_get s 0 hp
        have HG := hid hg
        have HL := hid hlen
        clear hall hg hlen
        by_cases h1 : s.size = 1
        · have hb1 : ((s.size : Int) == 1) = true := int_beq_true (by omega)
          have HH := hid h1
          clear h1 h0
          go_wp2_with (fail)
          refine bodyPost_ret (results_tmp rfl _ _ _) rfl ?_
          refine BoolPost.mk ?_
          rw [HF.out, HL.out]; simp [HH.out]
        · have hb1 : ((s.size : Int) == 1) = false := int_beq_false (by omega)
          have h2 : 1 < s.size := by omega
          go_wp2_with (fail)
          refine bodyPost_ret (results_tmp rfl _ _ _) rfl ?_
          refine BoolPost.mk ?_
          rw [HF.out, HL.out, ← HG.out]
          simp only [h1, h2, decide_false, decide_true, Bool.false_or, Bool.true_and]
          rw [Bool.eq_iff_iff]; simp [u8_eq48]

theorem BoolPost.call {b : Bool} {w : World} {e : Ending} {w' : World} (h : BoolPost b w e w') : e = .returned (.bool b) ∧ w = w' := h

set_option maxHeartbeats 2000000 in
theorem form_any (s : ByteArray) (w : World) (hs : s.size ≤ 1048576) :
    Calls Tryd.prog 16 #[.string s] w (BoolPost (formB s.data.toList) w) := by
  by_cases h45 : 0 < s.data.toList.length ∧ s.data.toList.getD 0 0 = 45
  · have hp : 0 < s.size := by have := str_len s; omega
    have hb : decide (0 < s.size) = true := by simp; omega
    have h45' : ((s[0].toNat : Int) == 45) = true := int_beq_true (by rw [str_get s 0 hp]; exact (u8_eq45 _).1 h45.2)
    have HF : Hid (formB s.data.toList = (decide (1 < s.data.toList.length) && decide (¬ s.data.toList.getD 1 0 = 48) && decide (¬ s.data.toList.getD 1 0 = 45) && formPlain (s.data.toList.drop 1))) := by
      unfold formB; rw [if_pos h45]; rfl
    have HL := hid (str_len s)
    clear h45
    by_cases h1 : 1 < s.size
    · have HG := hid (str_get s 1 h1)
      have hb1 : decide (1 < (s.size : Int)) = true := by simp; omega
      by_cases h48 : s.data.toList.getD 1 0 = 48
      · have h48' : (s[1].toNat : Int) = 48 := by rw [str_get s 1 h1]; exact (u8_eq48 _).1 h48
        have HH := hid h48
        clear h48
        go_enter Tryd.func16, Tryd.ntmps16
        go_wp2_with (fail)
        refine bodyPost_ret (results_tmp rfl _ _ _) rfl ?_
        refine BoolPost.mk ?_
        rw [HF.out, HH.out]; simp
      · have h48' : ¬ (s[1].toNat : Int) = 48 := by rw [str_get s 1 h1]; intro e; exact h48 ((u8_eq48 _).2 e)
        have HH := hid h48
        clear h48
        by_cases h45 : s.data.toList.getD 1 0 = 45
        · have h45' : (s[1].toNat : Int) = 45 := by rw [str_get s 1 h1]; exact (u8_eq45 _).1 h45
          have HI := hid h45
          clear h45
          go_enter Tryd.func16, Tryd.ntmps16
          go_wp2_with (fail)
          refine bodyPost_ret (results_tmp rfl _ _ _) rfl ?_
          refine BoolPost.mk ?_
          rw [HF.out, HI.out]; simp
        · have h45' : ¬ (s[1].toNat : Int) = 45 := by rw [str_get s 1 h1]; intro e; exact h45 ((u8_eq45 _).2 e)
          have HI := hid h45
          clear h45
          have hcall := form_plain (s.extract 1 s.size) w (by simp; omega) (.inr (by rw [extract_one]; simpa [List.getD] using HI.out))
          rw [extract_one] at hcall
          obtain ⟨b, HB⟩ : ∃ b, Hid (formPlain (s.data.toList.drop 1) = b) := ⟨_, rfl⟩
          rw [HB.out] at hcall
          have hb48 : ((s[1].toNat : Int) != 48) = true := bne_iff_ne.2 h48'
          have hb45 : ((s[1].toNat : Int) != 45) = true := bne_iff_ne.2 h45'
          go_enter Tryd.func16, Tryd.ntmps16
          go_wp2_with (go_at_call 16; refine hcall.mono ?_; intro e w' hpost; obtain ⟨rfl, rfl⟩ := hpost.call; clear hcall)
          refine bodyPost_ret (results_tmp rfl _ _ _) rfl ?_
          refine BoolPost.mk ?_
          rw [HF.out, HL.out, HB.out]
          have h1' : decide (1 < s.size) = true := by simpa using h1
          have h2' := HH.out; have h3' := HI.out
          rw [h1', decide_eq_true h2', decide_eq_true h3']; simp
    · have hb1 : decide (1 < (s.size : Int)) = false := by simp; omega
      have h1' : ¬ 1 < s.data.toList.length := by rw [HL.out]; exact h1
      have HH := hid h1'
      clear h1'
      go_enter Tryd.func16, Tryd.ntmps16
      go_wp2_with (fail)
      refine bodyPost_ret (results_tmp rfl _ _ _) rfl ?_
      refine BoolPost.mk ?_
      rw [HF.out, decide_eq_false HH.out]; simp
  · have : formB s.data.toList = formPlain s.data.toList := by unfold formB; rw [if_neg h45]
    rw [this]
    refine form_plain s w hs ?_
    by_cases h0 : s.size = 0
    · exact .inl h0
    · exact .inr fun h => h45 ⟨by have := str_len s; omega, h⟩
end Go.Proofs.YtgneddcgggagaaaDoor

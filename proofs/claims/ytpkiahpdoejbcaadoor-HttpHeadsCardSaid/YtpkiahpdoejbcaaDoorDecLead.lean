/-
  dec.digit and dec.Lead by contract: how many bytes begin a number's text.
-/
import Derived.Test.YtpkiahpdoejbcaaDoorDecPure
import Derived.Test.YtpkiahpdoejbcaaDoorProg
namespace Go.Proofs.YtpkiahpdoejbcaaDoor
open Go.RowKit

def isDig (c : UInt8) : Bool := decide (48 ≤ c.toNat) && decide (c.toNat ≤ 57)
theorem isDig_iff {c : UInt8} : isDig c = true ↔ 48 ≤ c.toNat ∧ c.toNat ≤ 57 := by unfold isDig; simp
theorem isDig_not {c : UInt8} : isDig c = false ↔ c.toNat < 48 ∨ 57 < c.toNat := by
  rw [← Bool.not_eq_true, isDig_iff]; omega
def span (l : List UInt8) : Nat := (l.takeWhile isDig).length
theorem span_eq (l : List UInt8) (k : Nat) (h1 : ∀ j, j < k → isDig (l.getD j 0) = true) (hk : k ≤ l.length) (h2 : k = l.length ∨ isDig (l.getD k 0) = false) : span l = k := by
  induction l generalizing k with
  | nil => simp at hk; subst hk; rfl
  | cons c r ih =>
    unfold span at *
    cases k with
    | zero =>
      rcases h2 with h2 | h2
      · simp at h2
      · simp at h2; simp [h2]
    | succ k =>
      have := h1 0 (by omega)
      simp at this
      simp [this]
      refine ih k (fun j hj => by have := h1 (j + 1) (by omega); simpa using this) (by simpa using hk) ?_
      rcases h2 with h2 | h2
      · left; simpa using h2
      · right; simpa using h2
theorem span_le (l : List UInt8) : span l ≤ l.length := (List.takeWhile_sublist isDig).length_le
def lead (l : List UInt8) : Nat :=
  if l.length = 0 then 0
  else if l.getD 0 0 = 45 then
    if l.length = 1 then 0 else if isDig (l.getD 1 0) = false then 0 else if l.getD 1 0 = 48 then 0 else 1 + span (l.drop 1)
  else if isDig (l.getD 0 0) = false then 0 else if l.getD 0 0 = 48 then 1 else 0 + span (l.drop 0)

theorem digit_any (c : UInt8) (w : World) :
    Calls Tryd.prog 67 #[.int .u8 (c.toNat : Int)] w fun e w' => e = .returned (.bool (isDig c)) ∧ w = w' := by
  go_enter Tryd.func67, Tryd.ntmps67
  by_cases h1 : 48 ≤ c.toNat
  · have hd : isDig c = decide ((c.toNat : Int) ≤ 57) := by rw [Bool.eq_iff_iff, isDig_iff]; simp; omega
    have hd' := hid hd
    clear hd
    go_wp2
    go_ret
    exact ⟨by rw [hd'.out]; rfl, rfl⟩
  · have hd : isDig c = false := by rw [isDig_not]; omega
    have hd' := hid hd
    clear hd
    go_wp2
    go_ret
    exact ⟨by rw [hd'.out]; rfl, rfl⟩

/-- The relation of Lead's loop: from st to k all digits. -/
def LeadRel (s : ByteArray) (st : Nat) (v : Value) : Prop := ∃ k : Nat, st ≤ k ∧ k ≤ s.size ∧ v = .int .i64 k ∧ ∀ j, st ≤ j → j < k → isDig (s.data.toList.getD j 0) = true
theorem lead_end (s : ByteArray) (st k : Nat) (h1 : st ≤ k) (h2 : k ≤ s.size) (h3 : ∀ j, st ≤ j → j < k → isDig (s.data.toList.getD j 0) = true) (h4 : k = s.size ∨ isDig (s.data.toList.getD k 0) = false) :
    st + span (s.data.toList.drop st) = k := by
  have e : ∀ j, (s.data.toList.drop st).getD j 0 = s.data.toList.getD (st + j) 0 := fun j => by simp [List.getD]
  rw [span_eq _ (k - st) (fun j hj => by rw [e]; exact h3 _ (by omega) (by omega)) (by simp; omega) (by
    rcases h4 with h4 | h4
    · left; simp; omega
    · right; rw [e, show st + (k - st) = k by omega]; exact h4)]
  omega

set_option maxHeartbeats 1000000 in
theorem lead_loop (s : ByteArray) (w : World) (hs : s.size ≤ 1048576) (st : Nat) (h0 : 0 < s.size) (h45 : (st = 0 ∧ ¬ s[0].toNat = 45) ∨ (st = 1 ∧ s[0].toNat = 45))
   (h1 : st < s.size) (hd : isDig s[st] = true) (h48 : ((s[st].toNat : Int) == 48) = false) (N : Nat) (HN : Hid (st + span (s.data.toList.drop st) = N)) (hb : (((st : Nat) : Int) == (s.size : Int)) = false) :
    Calls Tryd.prog 54 #[.string s] w fun e w' => e = .returned (.int .i64 N) ∧ w = w' := by
  have hne := str_ne_empty s h0
  have hne2 := str_not_empty s h0
  go_enter Tryd.func54, Tryd.ntmps54
  rcases h45 with ⟨rfl, h45⟩ | ⟨rfl, h45⟩ <;> simp only [Int.natCast_zero, Int.natCast_one] at hb
  · have h45' : ((s[0].toNat : Int) == 45) = false := by simp; omega
    go_wp2_with (go_at_call 67; refine (digit_any _ _).mono ?_; rintro e w' ⟨rfl, rfl⟩)
    go_loop [3] (fun v => LeadRel s 0 v) (fun v => s.size - (intOf v).toNat)
    case atStart => exact ⟨0, Nat.le_refl _, by omega, rfl, fun j _ hj => by omega⟩
    case round =>
      obtain ⟨k, hk0, hk, rfl, hall⟩ := hrel
      by_cases hlt : k < s.size
      · cases hdk : isDig s[k] with
        | true =>
          have hall' := hid hall
          clear hall
          go_wp2_with (go_at_call 67; refine (digit_any _ _).mono ?_; rintro e w' ⟨rfl, rfl⟩)
          go_round
          case rel =>
            refine ⟨k + 1, by omega, by omega, by go_num, fun j h1 h2 => ?_⟩
            by_cases e : j = k
            · subst e; rw [← str_get s j hlt]; exact hdk
            · exact hall'.out j h1 (by omega)
          case measure => simp [intOf]; omega
        | false =>
          have hend := lead_end s 0 k hk0 hk hall (.inr (by rw [← str_get s k hlt]; exact hdk))
          have hend' := hid hend
          clear hend hall
          go_wp2_with (go_at_call 67; refine (digit_any _ _).mono ?_; rintro e w' ⟨rfl, rfl⟩)
          go_ret
          exact ⟨by rw [← HN.out, hend'.out]; rfl, rfl⟩
      · have hend := lead_end s 0 k hk0 hk hall (.inl (by omega))
        have hend' := hid hend
        clear hend hall
        go_wp2_with (go_at_call 67; refine (digit_any _ _).mono ?_; rintro e w' ⟨rfl, rfl⟩)
        go_ret
        exact ⟨by rw [← HN.out, hend'.out]; rfl, rfl⟩
  · have h45' : ((s[0].toNat : Int) == 45) = true := by simp; omega
    go_wp2_with (go_at_call 67; refine (digit_any _ _).mono ?_; rintro e w' ⟨rfl, rfl⟩)
    go_loop [3] (fun v => LeadRel s 1 v) (fun v => s.size - (intOf v).toNat)
    case atStart => exact ⟨1, Nat.le_refl _, by omega, rfl, fun j _ hj => by omega⟩
    case round =>
      obtain ⟨k, hk0, hk, rfl, hall⟩ := hrel
      by_cases hlt : k < s.size
      · cases hdk : isDig s[k] with
        | true =>
          have hall' := hid hall
          clear hall
          go_wp2_with (go_at_call 67; refine (digit_any _ _).mono ?_; rintro e w' ⟨rfl, rfl⟩)
          go_round
          case rel =>
            refine ⟨k + 1, by omega, by omega, by go_num, fun j h1 h2 => ?_⟩
            by_cases e : j = k
            · subst e; rw [← str_get s j hlt]; exact hdk
            · exact hall'.out j h1 (by omega)
          case measure => simp [intOf]; omega
        | false =>
          have hend := lead_end s 1 k hk0 hk hall (.inr (by rw [← str_get s k hlt]; exact hdk))
          have hend' := hid hend
          clear hend hall
          go_wp2_with (go_at_call 67; refine (digit_any _ _).mono ?_; rintro e w' ⟨rfl, rfl⟩)
          go_ret
          exact ⟨by rw [← HN.out, hend'.out]; rfl, rfl⟩
      · have hend := lead_end s 1 k hk0 hk hall (.inl (by omega))
        have hend' := hid hend
        clear hend hall
        go_wp2_with (go_at_call 67; refine (digit_any _ _).mono ?_; rintro e w' ⟨rfl, rfl⟩)
        go_ret
        exact ⟨by rw [← HN.out, hend'.out]; rfl, rfl⟩

set_option maxHeartbeats 1000000 in
theorem lead_any (s : ByteArray) (w : World) (hs : s.size ≤ 1048576) :
    Calls Tryd.prog 54 #[.string s] w fun e w' => e = .returned (.int .i64 (lead s.data.toList : Nat)) ∧ w = w' := by
  by_cases h0 : s.size = 0
  · have hl : lead s.data.toList = 0 := by unfold lead; rw [if_pos (by simpa using h0)]
    have hl' := hid hl
    clear hl
    have he := str_empty s h0
    have h0' : (0 == (s.size : Int)) = true := int_beq_true (by omega)
    go_enter Tryd.func54, Tryd.ntmps54
    go_wp2_with (go_at_call 67; refine (digit_any _ _).mono ?_; rintro e w' ⟨rfl, rfl⟩)
    go_ret
    exact ⟨by rw [hl'.out]; rfl, rfl⟩
  · have hp : 0 < s.size := by omega
    have hne := str_ne_empty s hp
    have hne2 := str_not_empty s hp
    have hlen : ¬ s.data.toList.length = 0 := by simpa using h0
    have hg0 := str_get s 0 hp
    have h0' : (0 == (s.size : Int)) = false := int_beq_false (by omega)
    by_cases h45 : s[0] = 45
    · have h45n : s[0].toNat = 45 := by rw [h45]; rfl
      have h45' : ((s[0].toNat : Int) == 45) = true := int_beq_true (by omega)
      by_cases h1 : s.size = 1
      · have hl : lead s.data.toList = 0 := by unfold lead; rw [if_neg hlen, if_pos (by rw [← hg0]; exact h45), if_pos (by simpa using h1)]
        have hl' := hid hl
        have h1' : (1 == (s.size : Int)) = true := int_beq_true (by omega)
        clear hl hlen hg0 h45
        go_enter Tryd.func54, Tryd.ntmps54
        go_wp2_with (go_at_call 67; refine (digit_any _ _).mono ?_; rintro e w' ⟨rfl, rfl⟩)
        go_ret
        exact ⟨by rw [hl'.out]; rfl, rfl⟩
      · have h1s : 1 < s.size := by omega
        have hg1 := str_get s 1 h1s
        have h1' : (1 == (s.size : Int)) = false := int_beq_false (by omega)
        have hlen1 : ¬ s.data.toList.length = 1 := by simpa using h1
        cases hd : isDig s[1] with
        | false =>
          have hl : lead s.data.toList = 0 := by unfold lead; rw [if_neg hlen, if_pos (by rw [← hg0]; exact h45), if_neg hlen1, if_pos (by rw [← hg1]; exact hd)]
          have hl' := hid hl
          clear hl hlen hg0 hg1 h45 hlen1
          go_enter Tryd.func54, Tryd.ntmps54
          go_wp2_with (go_at_call 67; refine (digit_any _ _).mono ?_; rintro e w' ⟨rfl, rfl⟩)
          go_ret
          exact ⟨by rw [hl'.out]; rfl, rfl⟩
        | true =>
          by_cases h48 : s[1] = 48
          · have hl : lead s.data.toList = 0 := by unfold lead; rw [if_neg hlen, if_pos (by rw [← hg0]; exact h45), if_neg hlen1, if_neg (by rw [← hg1, hd]; simp), if_pos (by rw [← hg1]; exact h48)]
            have hl' := hid hl
            have h48' : ((s[1].toNat : Int) == 48) = true := int_beq_true (by rw [h48]; rfl)
            clear hl hlen hg0 hg1 h45 hlen1 h48
            go_enter Tryd.func54, Tryd.ntmps54
            go_wp2_with (go_at_call 67; refine (digit_any _ _).mono ?_; rintro e w' ⟨rfl, rfl⟩)
            go_ret
            exact ⟨by rw [hl'.out]; rfl, rfl⟩
          · have hl : lead s.data.toList = 1 + span (s.data.toList.drop 1) := by unfold lead; rw [if_neg hlen, if_pos (by rw [← hg0]; exact h45), if_neg hlen1, if_neg (by rw [← hg1, hd]; simp), if_neg (by rw [← hg1]; exact h48)]
            exact lead_loop s w hs 1 hp (.inr ⟨rfl, h45n⟩) h1s hd (int_beq_false (by have := u8_ne h48; simp at this; omega)) _ hl.symm h1'
    · have h45n : ¬ s[0].toNat = 45 := by have := u8_ne h45; simpa using this
      have h45' : ((s[0].toNat : Int) == 45) = false := int_beq_false (by omega)
      cases hd : isDig s[0] with
      | false =>
        have hl : lead s.data.toList = 0 := by unfold lead; rw [if_neg hlen, if_neg (by rw [← hg0]; exact h45), if_pos (by rw [← hg0]; exact hd)]
        have hl' := hid hl
        clear hl hlen hg0 h45
        go_enter Tryd.func54, Tryd.ntmps54
        go_wp2_with (go_at_call 67; refine (digit_any _ _).mono ?_; rintro e w' ⟨rfl, rfl⟩)
        go_ret
        exact ⟨by rw [hl'.out]; rfl, rfl⟩
      | true =>
        by_cases h48 : s[0] = 48
        · have hl : lead s.data.toList = 1 := by unfold lead; rw [if_neg hlen, if_neg (by rw [← hg0]; exact h45), if_neg (by rw [← hg0, hd]; simp), if_pos (by rw [← hg0]; exact h48)]
          have hl' := hid hl
          have h48' : ((s[0].toNat : Int) == 48) = true := int_beq_true (by rw [h48]; rfl)
          clear hl hlen hg0 h45 h48
          go_enter Tryd.func54, Tryd.ntmps54
          go_wp2_with (go_at_call 67; refine (digit_any _ _).mono ?_; rintro e w' ⟨rfl, rfl⟩)
          go_ret
          exact ⟨by rw [hl'.out]; rfl, rfl⟩
        · have hl : lead s.data.toList = 0 + span (s.data.toList.drop 0) := by unfold lead; rw [if_neg hlen, if_neg (by rw [← hg0]; exact h45), if_neg (by rw [← hg0, hd]; simp), if_neg (by rw [← hg0]; exact h48)]
          exact lead_loop s w hs 0 hp (.inl ⟨rfl, h45n⟩) hp hd (int_beq_false (by have := u8_ne h48; simp at this; omega)) _ hl.symm h0'
end Go.Proofs.YtpkiahpdoejbcaaDoor

/-
  The four statements on numbers' texts: their calls answer true.
-/
import Derived.Test.YtgneddcgggagaaaDoorDecRefD
import Derived.Test.YtgneddcgggagaaaDoorDecRefPrint
import Derived.Test.YtgneddcgggagaaaDoorDecPrint
namespace Go.Proofs.YtgneddcgggagaaaDoor
open Go.RowKit
set_option linter.unusedVariables false

theorem ReadPost.out {l : List UInt8} {least most : Int} {w : World} {e : Ending} {w' : World} {n : Int} {g : GErr} (h : ReadPost l least most w e w') (hr : readSpec l least most = (n, g)) :
    ∃ v, e = .returned (.tuple #[.int .i64 n, v]) ∧ IsErr w' g v ∧ Below w.heap.size w w' := by
  obtain ⟨v, h1, h2, h3⟩ := h
  rw [hr] at h1 h2
  exact ⟨v, h1, h2, h3⟩
theorem TextPost.call {l : List UInt8} {w : World} {e : Ending} {w' : World} (h : TextPost l w e w') : e = .returned (.string ⟨l.toArray⟩) ∧ Below w.heap.size w w' := h
theorem TruePost.call {w : World} {e : Ending} {w' : World} (h : TruePost w e w') : e = .returned (.bool true) ∧ Below w.heap.size w w' := h

theorem read007 : readSpec [48, 48, 55] 0 9 = (0, .at_ 1 40) := by kernel_rfl
theorem readMax : readSpec [57, 50, 50, 51, 51, 55, 50, 48, 51, 54, 56, 53, 52, 55, 55, 53, 56, 48, 56] (-9223372036854775808) 9223372036854775807 = (0, .no 41) := by kernel_rfl
theorem textMin : decText (-9223372036854775808) = [45, 57, 50, 50, 51, 51, 55, 50, 48, 51, 54, 56, 53, 52, 55, 55, 53, 56, 48, 56] := by
  unfold decText; rw [if_pos (by omega)]
  have : digs 9223372036854775808 = [57, 50, 50, 51, 51, 55, 50, 48, 51, 54, 56, 53, 52, 55, 55, 53, 56, 48, 56] := by
    repeat (rw [digs]; simp only [Nat.reduceDiv, Nat.reduceMod, Nat.reduceLT, ↓reduceIte])
    rfl
  show (45 :: digs 9223372036854775808) = _
  rw [this]

set_option maxHeartbeats 4000000 in
theorem alive_any (w : World) (hg : ErrorType w) : Calls Tryd.prog 7 #[] w (TruePost w) := by
  have HG := hid hg
  clear hg
  go_enter Tryd.func7, Tryd.ntmps7
  go_wp2_with fail
  refine (read_any ⟨#[48, 48, 55]⟩ _ (by decide) 0 9 (by omega) (by omega) (by omega) (by omega)).mono ?_
  intro e w1 hp
  obtain ⟨v1, rfl, he1, hb1⟩ := hp.out read007
  have HE1 := hid he1
  have HB1 := hid hb1
  clear hp he1 hb1
  go_wp2_with fail
  refine (read_any ⟨#[57, 50, 50, 51, 51, 55, 50, 48, 51, 54, 56, 53, 52, 55, 55, 53, 56, 48, 56]⟩ _ (by decide) (-9223372036854775808) 9223372036854775807 (by omega) (by omega) (by omega) (by omega)).mono ?_
  intro e w2 hp
  obtain ⟨v2, rfl, he2, hb2⟩ := hp.out readMax
  have HE2 := hid he2
  have HB2 := hid hb2
  clear hp he2 hb2
  go_wp2_with fail
  refine (print_any (-9223372036854775808) _ (by omega) (by omega)).mono ?_
  intro e w3 ⟨he, hb3⟩
  rw [textMin] at he
  obtain rfl := he
  have HB3 := hid hb3
  clear hb3
  go_wp2_with fail
  refine (num_any (.at_ 1 40) _ _ (HG.out.below (below_then (below_then HB1.out HB2.out) HB3.out) HG.out.lt) ((HE1.out.below HB2.out).below HB3.out)).mono ?_
  intro e w4 ⟨he, hb4⟩
  obtain rfl := he
  have HB4 := hid hb4
  clear hb4
  go_wp2_with fail
  refine (pos_any (.at_ 1 40) _ _ (HG.out.below (below_then (below_then (below_then HB1.out HB2.out) HB3.out) HB4.out) HG.out.lt) (((HE1.out.below HB2.out).below HB3.out).below HB4.out)).mono ?_
  intro e w5 ⟨he, hb5⟩
  obtain rfl := he
  have HB5 := hid hb5
  clear hb5
  go_wp2_with fail
  refine (num_any (.no 41) _ _ (HG.out.below (below_then (below_then (below_then (below_then HB1.out HB2.out) HB3.out) HB4.out) HB5.out) HG.out.lt) (((HE2.out.below HB3.out).below HB4.out).below HB5.out)).mono ?_
  intro e w6 ⟨he, hb6⟩
  obtain rfl := he
  have HB6 := hid hb6
  clear hb6
  go_wp2_with fail
  refine (lead_any ⟨#[49, 50, 97]⟩ _ (by decide)).mono ?_
  intro e w7 ⟨he, hb7⟩
  rw [show lead [49, 50, 97] = 2 from rfl] at he
  obtain rfl := he
  obtain rfl := hb7
  go_wp2_with fail
  go_ret
  refine TruePost.mk (b := true) rfl (below_then (below_then (below_then (below_then (below_then HB1.out HB2.out) HB3.out) HB4.out) HB5.out) HB6.out)

set_option maxHeartbeats 2000000 in
theorem decPrints_walk (n : Int) (w : World) (h0 : -9223372036854775808 ≤ n) (h1 : n ≤ 9223372036854775807) (hg : ErrorType w) :
    Calls Tryd.prog 3 #[.int .i64 n] w (TruePost w) := by
  have HG := hid hg
  clear hg
  go_enter Tryd.func3, Tryd.ntmps3
  go_wp2_with (first
    | (go_at_call 7; refine (alive_any _ HG.out).mono ?_; intro e w1 hp; obtain ⟨rfl, hb⟩ := hp.call; have HB1 := hid hb; clear hb hp)
    | (go_at_call 8; refine (print_any _ _ h0 h1).mono ?_; intro e w2 hp; obtain ⟨rfl, hb⟩ := hp; have HB2 := hid hb; clear hb)
    | (go_at_call 9; refine (rprint_any _ _ h0 h1).mono ?_; intro e w3 hp; obtain ⟨rfl, hb⟩ := hp.call; have HB3 := hid hb; clear hb hp))
  go_ret
  refine TruePost.mk (b := true) rfl (below_then (below_then HB1.out HB2.out) HB3.out)

set_option maxHeartbeats 2000000 in
theorem decReads_walk (s : ByteArray) (least most : Int) (w : World) (hs : s.size ≤ maxLen) (hl1 : -9223372036854775808 ≤ least) (hl2 : least ≤ 9223372036854775807) (hm1 : -9223372036854775808 ≤ most) (hm2 : most ≤ 9223372036854775807) (hg : ErrorType w) :
    Calls Tryd.prog 4 #[.string s, .int .i64 least, .int .i64 most] w (TruePost w) := by
  have HG := hid hg
  clear hg
  unfold maxLen at hs
  by_cases hbig : s.size ≤ 300
  · have hs1 : s.size ≤ 1048576 := by omega
    have hbi : decide ((300 : Int) < (s.size : Int)) = false := by simp; omega
    obtain ⟨n, g, hr⟩ : ∃ n g, readSpec s.data.toList least most = (n, g) := ⟨_, _, rfl⟩
    have HR := hid hr
    clear hr
    go_enter Tryd.func4, Tryd.ntmps4
    go_wp2_with (first
      | (go_at_call 7; refine (alive_any _ HG.out).mono ?_; intro e w1 hp; obtain ⟨rfl, hb⟩ := hp.call; have HB1 := hid hb; clear hb hp)
      | (go_at_call 10; refine (read_any _ _ hs1 _ _ hl1 hl2 hm1 hm2).mono ?_; intro e w2 hp; obtain ⟨v, rfl, he, hb⟩ := hp.out HR.out; have HB2 := hid hb; have HE := hid he; clear hb hp he)
      | (go_at_call 11; refine (rread_any _ _ hs1 _ _ hl1 hl2 hm1 hm2).mono ?_; intro e w3 hp; unfold RReadPost at hp; rw [HR.out] at hp; obtain ⟨rfl, rfl⟩ := hp)
      | (go_at_call 12; refine (num_any g _ _ (HG.out.below (below_then HB1.out HB2.out) HG.out.lt) HE.out).mono ?_; intro e w4 hp; obtain ⟨rfl, hb⟩ := hp; have HB3 := hid hb; clear hb)
      | (go_at_call 13; refine (pos_any g _ _ (HG.out.below (below_then (below_then HB1.out HB2.out) HB3.out) HG.out.lt) (HE.out.below HB3.out)).mono ?_; intro e w5 hp; obtain ⟨rfl, hb⟩ := hp; have HB4 := hid hb; clear hb)
      | (go_at_call 14; refine (lead_any _ _ hs1).mono ?_; rintro e w6 ⟨rfl, rfl⟩)
      | (go_at_call 15; refine (rlead_any _ _ hs1).mono ?_; intro e w7 hp; obtain ⟨rfl, rfl⟩ := hp.call; clear hp))
    all_goals
      go_ret
      exact TruePost.mk (b := true) rfl (below_then (below_then (below_then HB1.out HB2.out) HB3.out) HB4.out)
  · have hbi : decide ((300 : Int) < (s.size : Int)) = true := by simp; omega
    go_enter Tryd.func4, Tryd.ntmps4
    go_wp2_with (first
      | (go_at_call 7; refine (alive_any _ HG.out).mono ?_; intro e w1 hp; obtain ⟨rfl, hb⟩ := hp.call; have HB1 := hid hb; clear hb hp))
    go_ret
    exact TruePost.mk (b := true) rfl HB1.out

/-! ### there and back -/
theorem digs_all (n : Nat) : (digs n).all isDig = true := by
  induction n using Nat.strongRecOn with
  | ind n ih =>
    unfold digs
    split
    · simp [isDig_iff, dig8_toNat n (by omega)]; omega
    · have := ih (n / 10) (by omega)
      rw [List.all_append, this]
      simp [isDig_iff, dig8_toNat (n % 10) (by omega)]; omega
theorem natOf_snoc (l : List UInt8) (c : UInt8) : natOf (l ++ [c]) = natOf l * 10 + (c.toNat - 48) := by unfold natOf; simp
theorem natOf_digs (n : Nat) : natOf (digs n) = n := by
  induction n using Nat.strongRecOn with
  | ind n ih =>
    unfold digs
    split
    · rename_i h; simp [natOf, dig8_toNat n h]
    · rw [natOf_snoc, ih (n / 10) (by omega), dig8_toNat (n % 10) (by omega)]; omega
theorem append_getD0 (a b : List UInt8) (h : 1 ≤ a.length) : (a ++ b).getD 0 0 = a.getD 0 0 := by
  cases a with
  | nil => simp at h
  | cons x r => rfl
theorem digs_zero : digs 0 = [48] := by rw [digs]; rfl
theorem digs_head (n : Nat) (h : 0 < n) : ¬ (digs n).getD 0 0 = 48 := by
  induction n using Nat.strongRecOn with
  | ind n ih =>
    unfold digs
    split
    · rename_i h10
      intro e
      simp at e
      have := dig8_toNat n h10
      rw [e] at this
      have e2 : (48 : UInt8).toNat = 48 := rfl
      omega
    · have := ih (n / 10) (by omega) (by omega)
      have hp := digs_pos (n / 10)
      rw [append_getD0 _ _ hp]
      exact this
theorem digs_natOf (l : List UInt8) (h1 : 1 ≤ l.length) (hd : l.all isDig = true) (h48 : l.length = 1 ∨ ¬ l.getD 0 0 = 48) : digs (natOf l) = l := by
  induction hn : l.length using Nat.strongRecOn generalizing l with
  | ind m ih =>
    obtain ⟨r, c, rfl⟩ : ∃ r c, l = r ++ [c] := ⟨l.dropLast, l.getLast (by intro e; subst e; simp at h1), (List.dropLast_concat_getLast _).symm⟩
    rw [List.all_append, Bool.and_eq_true] at hd
    have hc : 48 ≤ c.toNat ∧ c.toNat ≤ 57 := isDig_iff.1 (by simpa using hd.2)
    have hcc : dig8 (c.toNat - 48) = c := UInt8.toNat_inj.1 (by rw [dig8_toNat _ (by omega)]; omega)
    rw [natOf_snoc]
    by_cases hr : r = []
    · subst hr
      rw [show natOf [] = 0 from rfl, digs, if_pos (by omega)]
      simp [hcc]
    · have hrl : 1 ≤ r.length := by cases r with
        | nil => exact absurd rfl hr
        | cons a b => simp
      have g0 := append_getD0 r [c] hrl
      have hh : ¬ r.getD 0 0 = 48 := by rw [← g0]; exact h48.resolve_left (by simp; omega)
      have hge := natOf_ge r hrl ((all_dig r).1 hd.1 0 hrl) hh
      have hpos : 1 ≤ 10 ^ (r.length - 1) := Nat.pow_pos (by omega)
      rw [digs, if_neg (by omega), show (natOf r * 10 + (c.toNat - 48)) / 10 = natOf r by omega, show (natOf r * 10 + (c.toNat - 48)) % 10 = c.toNat - 48 by omega, hcc,
        ih r.length (by simp at hn; omega) r hrl hd.1 (.inr hh) rfl]
theorem span_of_all (l : List UInt8) (h : l.all isDig = true) : span l = l.length :=
  span_eq l l.length (fun j hj => (all_dig l).1 h j hj) (Nat.le_refl _) (.inl rfl)
theorem lead_digs (n : Nat) : lead (digs n) = (digs n).length ∧ ¬ (digs n).getD 0 0 = 45 := by
  have hp := digs_pos n
  have hd := digs_all n
  have h0 := (all_dig _).1 hd 0 hp
  have h45 : ¬ (digs n).getD 0 0 = 45 := fun e => by rw [e] at h0; exact absurd h0 (by decide)
  refine ⟨?_, h45⟩
  unfold lead
  rw [if_neg (show ¬ (digs n).length = 0 by omega), if_neg h45, if_neg (by rw [h0]; simp)]
  by_cases hn : 0 < n
  · rw [if_neg (digs_head n hn), List.drop_zero, span_of_all _ hd]; omega
  · obtain rfl : n = 0 := by omega
    rw [digs_zero]; rfl
theorem text_read (n least most : Int) (h0 : -9223372036854775808 ≤ n) (h1 : n ≤ 9223372036854775807) : readSpec (decText n) least most = if least ≤ n ∧ n ≤ most then (n, .nil) else (0, .no 41) := by
  have hp := digs_pos n.natAbs
  have hgood : lead (decText n) = (decText n).length ∧ readV (decText n) = n ∧ 1 ≤ (decText n).length := by
    unfold decText
    by_cases hn : n < 0
    · rw [if_pos hn]
      have hh := digs_head n.natAbs (by omega)
      have hd := digs_all n.natAbs
      have h0 := (all_dig _).1 hd 0 hp
      have g1 : (45 :: digs n.natAbs).getD 1 0 = (digs n.natAbs).getD 0 0 := by simp [List.getD]
      refine ⟨?_, ?_, by simp⟩
      · unfold lead
        rw [if_neg (by simp), if_pos (by rfl), if_neg (by rw [List.length_cons]; omega), g1, if_neg (by rw [h0]; simp), if_neg hh]
        show 1 + span (digs n.natAbs) = _
        rw [span_of_all _ hd]; simp; omega
      · unfold readV
        rw [if_pos (by rfl)]
        show -(natOf (digs n.natAbs) : Int) = n
        rw [natOf_digs]; omega
    · rw [if_neg hn]
      obtain ⟨h2, h3⟩ := lead_digs n.natAbs
      refine ⟨h2, ?_, hp⟩
      unfold readV
      rw [if_neg h3, natOf_digs]; omega
  obtain ⟨hl, hv, hp1⟩ := hgood
  unfold readSpec
  rw [if_neg (by omega), hv, if_neg (by omega)]
  by_cases h : least ≤ n ∧ n ≤ most
  · rw [if_neg (by omega), if_pos h]
  · rw [if_pos (by omega), if_neg h]
theorem read_text (l : List UInt8) (least most k : Int) (h : readSpec l least most = (k, .nil)) : decText k = l ∧ -9223372036854775808 ≤ k ∧ k ≤ 9223372036854775807 := by
  unfold readSpec at h
  by_cases h1 : lead l = 0 ∨ lead l < l.length
  · rw [if_pos h1] at h; simp at h
  rw [if_neg h1] at h
  by_cases h2 : readV l < -9223372036854775808 ∨ 9223372036854775807 < readV l
  · rw [if_pos h2] at h; simp at h
  rw [if_neg h2] at h
  by_cases h3 : readV l < least ∨ most < readV l
  · rw [if_pos h3] at h; simp at h
  rw [if_neg h3] at h
  simp at h
  subst h
  refine ⟨?_, by omega, by omega⟩
  rcases lead_whole l (by omega) (by omega) with ⟨h45, hlen, h48, hs⟩ | ⟨h45, hlen, hs, h48⟩
  · have hd : (l.drop 1).all isDig = true := by rw [all_dig]; exact span_all _ (by rw [hs]; simp)
    have hd0 := (all_dig _).1 hd 0 (by simp; omega)
    have hge := natOf_ge (l.drop 1) (by simp; omega) hd0 (by rw [drop_getD]; exact h48)
    have hpos : 1 ≤ 10 ^ ((l.drop 1).length - 1) := Nat.pow_pos (by omega)
    have hv : readV l = -(natOf (l.drop 1) : Int) := by unfold readV; rw [if_pos h45]
    unfold decText
    rw [if_pos (by omega), hv, Int.natAbs_neg, Int.natAbs_natCast, digs_natOf (l.drop 1) (by simp; omega) hd (.inr (by rw [drop_getD]; exact h48))]
    cases l with
    | nil => simp at hlen
    | cons c r => simp at h45; simp [h45]
  · have hd : l.all isDig = true := by rw [all_dig]; exact span_all _ hs
    have hv : readV l = natOf l := by unfold readV; rw [if_neg h45]
    unfold decText
    rw [if_neg (by omega), hv, Int.natAbs_natCast, digs_natOf l hlen hd h48]

theorem IsErr.nil_iff {w : World} {g : GErr} {v : Value} (h : IsErr w g v) (hn : g ≠ .nil) : ∃ t x, v = .iface t x := by
  cases g with
  | nil => exact absurd rfl hn
  | no n => exact ⟨_, _, h⟩
  | at_ p n => obtain ⟨b, o, hv, _⟩ := h; exact ⟨_, _, hv⟩

set_option maxHeartbeats 2000000 in
theorem decBack_walk (n : Int) (s : ByteArray) (w : World) (h0 : -9223372036854775808 ≤ n) (h1 : n ≤ 9223372036854775807) (hs : s.size ≤ maxLen) (hg : ErrorType w) :
    Calls Tryd.prog 5 #[.int .i64 n, .string s] w (TruePost w) := by
  have HG := hid hg
  clear hg
  unfold maxLen at hs
  have hlen := decText_len n h0 h1
  have HR := hid (text_read n (-9223372036854775808) 9223372036854775807 h0 h1)
  rw [if_pos ⟨h0, h1⟩] at HR
  by_cases hbig : s.size ≤ 300
  · have hs1 : s.size ≤ 1048576 := by omega
    have hbi : decide ((300 : Int) < (s.size : Int)) = false := by simp; omega
    obtain ⟨k, g, hr⟩ : ∃ n g, readSpec s.data.toList (-9223372036854775808) 9223372036854775807 = (n, g) := ⟨_, _, rfl⟩
    have HR2 := hid hr
    by_cases hgn : g = .nil
    · subst hgn
      obtain ⟨htx, hk0, hk1⟩ := read_text _ _ _ _ hr
      have HT := hid htx
      have HSS : Hid (s = ⟨(decText k).toArray⟩) := by rw [HT.out]; rfl
      clear hr htx
      go_enter Tryd.func5, Tryd.ntmps5
      go_wp2_with (first | (go_at_call 7; refine (alive_any _ HG.out).mono ?_; intro e w1 hp; obtain ⟨rfl, hb⟩ := hp.call; have HB1 := hid hb; clear hb hp) | (go_at_call 8; refine (print_any _ _ h0 h1).mono ?_; intro e w2 hp; obtain ⟨rfl, hb⟩ := hp; have HB2 := hid hb; clear hb))
      refine (read_any ⟨(decText n).toArray⟩ _ (by show (decText n).length ≤ _; omega) _ _ (by omega) (by omega) (by omega) (by omega)).mono ?_
      intro e w3 hp
      obtain ⟨v, rfl, he, hb⟩ := hp.out HR.out
      obtain rfl : v = .nilIface := he
      have HB3 := hid hb
      clear hb hp
      go_wp2_with fail
      refine (read_any _ _ hs1 _ _ (by omega) (by omega) (by omega) (by omega)).mono ?_
      intro e w4 hp
      obtain ⟨v, rfl, he, hb⟩ := hp.out HR2.out
      obtain rfl : v = .nilIface := he
      have HB4 := hid hb
      clear hb hp
      go_wp2_with fail
      refine (print_any _ _ hk0 hk1).mono ?_
      intro e w5 hp
      obtain ⟨rfl, hb⟩ := hp
      have HB5 := hid hb
      clear hb
      have heq : ((decText k).toArray.toList == s.toList) = true := by rw [str_toList, ← HT.out]; simp
      go_wp2_with fail
      go_ret
      exact TruePost.mk (b := true) rfl (below_then (below_then (below_then (below_then HB1.out HB2.out) HB3.out) HB4.out) HB5.out)
    · have HGN := hid hgn
      clear hr hgn
      go_enter Tryd.func5, Tryd.ntmps5
      go_wp2_with (first | (go_at_call 7; refine (alive_any _ HG.out).mono ?_; intro e w1 hp; obtain ⟨rfl, hb⟩ := hp.call; have HB1 := hid hb; clear hb hp) | (go_at_call 8; refine (print_any _ _ h0 h1).mono ?_; intro e w2 hp; obtain ⟨rfl, hb⟩ := hp; have HB2 := hid hb; clear hb))
      refine (read_any ⟨(decText n).toArray⟩ _ (by show (decText n).length ≤ _; omega) _ _ (by omega) (by omega) (by omega) (by omega)).mono ?_
      intro e w3 hp
      obtain ⟨v, rfl, he, hb⟩ := hp.out HR.out
      obtain rfl : v = .nilIface := he
      have HB3 := hid hb
      clear hb hp
      go_wp2_with fail
      refine (read_any _ _ hs1 _ _ (by omega) (by omega) (by omega) (by omega)).mono ?_
      intro e w4 hp
      obtain ⟨v, rfl, he, hb⟩ := hp.out HR2.out
      obtain ⟨t, x, rfl⟩ := he.nil_iff HGN.out
      have HB4 := hid hb
      clear hb hp he
      go_wp2_with fail
      go_ret
      exact TruePost.mk (b := true) rfl (below_then (below_then (below_then HB1.out HB2.out) HB3.out) HB4.out)
  · have hbi : decide ((300 : Int) < (s.size : Int)) = true := by simp; omega
    go_enter Tryd.func5, Tryd.ntmps5
    go_wp2_with (first | (go_at_call 7; refine (alive_any _ HG.out).mono ?_; intro e w1 hp; obtain ⟨rfl, hb⟩ := hp.call; have HB1 := hid hb; clear hb hp) | (go_at_call 8; refine (print_any _ _ h0 h1).mono ?_; intro e w2 hp; obtain ⟨rfl, hb⟩ := hp; have HB2 := hid hb; clear hb))
    refine (read_any ⟨(decText n).toArray⟩ _ (by show (decText n).length ≤ _; omega) _ _ (by omega) (by omega) (by omega) (by omega)).mono ?_
    intro e w3 hp
    obtain ⟨v, rfl, he, hb⟩ := hp.out HR.out
    obtain rfl : v = .nilIface := he
    have HB3 := hid hb
    clear hb hp
    go_wp2_with fail
    go_ret
    exact TruePost.mk (b := true) rfl (below_then (below_then HB1.out HB2.out) HB3.out)

set_option maxHeartbeats 2000000 in
theorem decBounds_walk (n least most : Int) (w : World) (h0 : -9223372036854775808 ≤ n) (h1 : n ≤ 9223372036854775807) (hl1 : -9223372036854775808 ≤ least) (hl2 : least ≤ 9223372036854775807) (hm1 : -9223372036854775808 ≤ most) (hm2 : most ≤ 9223372036854775807) (hg : ErrorType w) :
    Calls Tryd.prog 6 #[.int .i64 n, .int .i64 least, .int .i64 most] w (TruePost w) := by
  have HG := hid hg
  clear hg
  have hlen := decText_len n h0 h1
  have hr := text_read n least most h0 h1
  by_cases hin : least ≤ n ∧ n ≤ most
  · rw [if_pos hin] at hr
    have HR := hid hr
    obtain ⟨hin1, hin2⟩ := hin
    clear hr
    go_enter Tryd.func6, Tryd.ntmps6
    go_wp2_with (first | (go_at_call 7; refine (alive_any _ HG.out).mono ?_; intro e w1 hp; obtain ⟨rfl, hb⟩ := hp.call; have HB1 := hid hb; clear hb hp) | (go_at_call 8; refine (print_any _ _ h0 h1).mono ?_; intro e w2 hp; obtain ⟨rfl, hb⟩ := hp; have HB2 := hid hb; clear hb))
    refine (read_any ⟨(decText n).toArray⟩ _ (by show (decText n).length ≤ _; omega) _ _ hl1 hl2 hm1 hm2).mono ?_
    intro e w3 hp
    obtain ⟨v, rfl, he, hb⟩ := hp.out HR.out
    obtain rfl : v = .nilIface := he
    have HB3 := hid hb
    clear hb hp
    go_wp2_with fail
    go_ret
    exact TruePost.mk (b := true) rfl (below_then (below_then HB1.out HB2.out) HB3.out)
  · rw [if_neg hin] at hr
    have HR := hid hr
    clear hr
    by_cases hlo : least ≤ n
    · have hhi : ¬ n ≤ most := fun h => hin ⟨hlo, h⟩
      clear hin
      go_enter Tryd.func6, Tryd.ntmps6
      go_wp2_with (first | (go_at_call 7; refine (alive_any _ HG.out).mono ?_; intro e w1 hp; obtain ⟨rfl, hb⟩ := hp.call; have HB1 := hid hb; clear hb hp) | (go_at_call 8; refine (print_any _ _ h0 h1).mono ?_; intro e w2 hp; obtain ⟨rfl, hb⟩ := hp; have HB2 := hid hb; clear hb))
      refine (read_any ⟨(decText n).toArray⟩ _ (by show (decText n).length ≤ _; omega) _ _ hl1 hl2 hm1 hm2).mono ?_
      intro e w3 hp
      obtain ⟨v, rfl, he, hb⟩ := hp.out HR.out
      have HB3 := hid hb
      have HE := hid he
      clear hb hp he
      go_wp2_with (go_at_call 12; refine (num_any (.no 41) _ _ (HG.out.below (below_then (below_then HB1.out HB2.out) HB3.out) HG.out.lt) HE.out).mono ?_; intro e w4 hp; obtain ⟨rfl, hb⟩ := hp; have HB4 := hid hb; clear hb)
      go_ret
      exact TruePost.mk (b := true) rfl (below_then (below_then (below_then HB1.out HB2.out) HB3.out) HB4.out)
    · clear hin
      go_enter Tryd.func6, Tryd.ntmps6
      go_wp2_with (first | (go_at_call 7; refine (alive_any _ HG.out).mono ?_; intro e w1 hp; obtain ⟨rfl, hb⟩ := hp.call; have HB1 := hid hb; clear hb hp) | (go_at_call 8; refine (print_any _ _ h0 h1).mono ?_; intro e w2 hp; obtain ⟨rfl, hb⟩ := hp; have HB2 := hid hb; clear hb))
      refine (read_any ⟨(decText n).toArray⟩ _ (by show (decText n).length ≤ _; omega) _ _ hl1 hl2 hm1 hm2).mono ?_
      intro e w3 hp
      obtain ⟨v, rfl, he, hb⟩ := hp.out HR.out
      have HB3 := hid hb
      have HE := hid he
      clear hb hp he
      go_wp2_with (go_at_call 12; refine (num_any (.no 41) _ _ (HG.out.below (below_then (below_then HB1.out HB2.out) HB3.out) HG.out.lt) HE.out).mono ?_; intro e w4 hp; obtain ⟨rfl, hb⟩ := hp; have HB4 := hid hb; clear hb)
      go_ret
      exact TruePost.mk (b := true) rfl (below_then (below_then (below_then HB1.out HB2.out) HB3.out) HB4.out)
end Go.Proofs.YtgneddcgggagaaaDoor

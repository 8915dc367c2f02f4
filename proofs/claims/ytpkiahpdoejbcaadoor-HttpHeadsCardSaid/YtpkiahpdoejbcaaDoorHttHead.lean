/-
  http.head, http.right by contract.
-/
import Derived.Test.YtpkiahpdoejbcaaDoorHttOwn
import Derived.Test.YtpkiahpdoejbcaaDoorDecRead
namespace Go.Proofs.YtpkiahpdoejbcaaDoor.Htt
open Go.RowKit Go.Proofs.YtpkiahpdoejbcaaDoor
open Go.Proofs.YtpkiahpdoejbcaaDoorW.PrintWords (Kd rdOf)
set_option linter.unusedVariables false
set_option linter.unusedSimpArgs false
/-- The machine's word on its search. -/
def MaxAt (m : Int) (w : World) : Prop := w.cell? ⟨4, 0, none⟩ = some (.int .i64 m)
theorem MaxAt.below {m : Int} {B : Nat} {w w' : World} (h : MaxAt m w) (hb : Below B w w') (hB : 4 < B) : MaxAt m w' := (hb.cell (p := ⟨4, 0, none⟩) hB).trans h
theorem MaxAt.lt {m : Int} {w : World} (h : MaxAt m w) : 4 < w.heap.size := lt_of_cell h
def baL (l : List UInt8) : ByteArray := ⟨l.toArray⟩
theorem baL_data (l : List UInt8) : (baL l).data.toList = l := by simp [baL]
/-- A head of a line, behind heads. -/
def headS (xs : List Par) (l : List UInt8) : Option Par :=
  if (Lib.cut l [58, 32]).2.2 = true ∧ namedB (baL (Lib.cut l [58, 32]).1) = true ∧ plainB (baL (Lib.cut l [58, 32]).2.1) 32 0 2048 = true ∧ xs.length ≠ 16 ∧ getS xs (baL (Lib.toLowerA (Lib.cut l [58, 32]).1)) = none
  then some ⟨baL (Lib.toLowerA (Lib.cut l [58, 32]).1), baL (Lib.cut l [58, 32]).2.1⟩ else none
theorem below_drn {B : Nat} {a w : World} (h : Below B a w) (q : Nat) : Below B a (w.drewN q) := ⟨h.os, h.tape, h.output, h.size, h.block⟩
theorem cut_len1 (l sep : List UInt8) : (Lib.cut l sep).1.length ≤ l.length ∧ (Lib.cut l sep).2.1.length ≤ l.length := by
  unfold Lib.cut
  split <;> simp <;> omega
theorem tok_ascii {s : ByteArray} (h : namedB s = true) (j : Nat) (b : UInt8) (hb : s.data.toList[j]? = some b) : b.toNat < 128 := by
  unfold namedB at h
  rw [Bool.and_eq_true] at h
  have h1 := List.all_eq_true.1 h.1 b (List.mem_of_getElem? hb)
  have h2 : tokC b := of_decide_eq_true h1
  unfold tokC at h2
  omega
def HeadsPost (base : Nat) (xs : List Par) (o : Option Par) (w : World) (e : Ending) (w' : World) : Prop :=
  (match o with
  | some y => ∃ v, e = .returned (.tuple #[v, .bool true]) ∧ OwnP w' base v (xs ++ [y])
  | none => e = .returned (.tuple #[.slice none 0 0, .bool false])) ∧ Below base w w'
theorem HeadsPost.no {base : Nat} {xs : List Par} {o : Option Par} {w w' : World} (h : o = none) (hb : Below base w w') : HeadsPost base xs o w (.returned (.tuple #[.slice none 0 0, .bool false])) w' := by subst h; exact ⟨rfl, hb⟩
theorem HeadsPost.yes {base : Nat} {xs : List Par} {o : Option Par} {y : Par} {w w' : World} {v : Value} (h : o = some y) (ho : OwnP w' base v (xs ++ [y])) (hb : Below base w w') : HeadsPost base xs o w (.returned (.tuple #[v, .bool true])) w' := by subst h; exact ⟨⟨v, rfl, ho⟩, hb⟩
set_option maxHeartbeats 4000000 in
set_option maxRecDepth 20000 in
theorem heads_any (base : Nat) (xs : List Par) (v : Value) (s : ByteArray) (m : Int) (w : World) (hM : MaxAt m w) (hv : OwnP w base v xs) (hbase : base ≤ w.heap.size) (hmb : 4 < base) (hn : xs.length ≤ 1000000) (hs : s.size ≤ 1000000) :
    Calls Tryd.prog 27 #[v, .string s] w (HeadsPost base xs (headS xs s.data.toList) w) := by
  obtain ⟨A, cap, rfl, hcap⟩ := hv.form
  have hln := str_len s
  have hct : ∀ w, MaxAt m w → _ := fun w h => Tryd.strings_Cut s ⟨#[58, 32]⟩ m w (by omega) h
  obtain ⟨l, hl⟩ : ∃ l, s.data.toList = l := ⟨_, rfl⟩
  have hcl := cut_len1 l [58, 32]
  have HS : Hid (headS xs s.data.toList = if (Lib.cut l [58, 32]).2.2 = true ∧ namedB (baL (Lib.cut l [58, 32]).1) = true ∧ plainB (baL (Lib.cut l [58, 32]).2.1) 32 0 2048 = true ∧ xs.length ≠ 16 ∧ getS xs (baL (Lib.toLowerA (Lib.cut l [58, 32]).1)) = none
    then some ⟨baL (Lib.toLowerA (Lib.cut l [58, 32]).1), baL (Lib.cut l [58, 32]).2.1⟩ else none) := hid (by rw [hl]; rfl)
  obtain ⟨o, ho⟩ : ∃ o, headS xs s.data.toList = o := ⟨_, rfl⟩
  have HCT := hid hct
  rw [ho] at HS ⊢
  rw [hl] at HCT hln
  obtain ⟨a, ha⟩ : ∃ a, baL (Lib.cut l [58, 32]).1 = a := ⟨_, rfl⟩
  obtain ⟨b, hb⟩ : ∃ b, baL (Lib.cut l [58, 32]).2.1 = b := ⟨_, rfl⟩
  obtain ⟨r, hr⟩ : ∃ r, (Lib.cut l [58, 32]).2.2 = r := ⟨_, rfl⟩
  have HAD : Hid (a.data.toList = (Lib.cut l [58, 32]).1) := hid (by rw [← ha, baL_data])
  have hal : a.size ≤ s.size := by rw [← str_len a, HAD.out]; omega
  have hbl : b.size ≤ s.size := by rw [← str_len b, ← hb, baL_data]; omega
  have HCU : Hid (∀ w, MaxAt m w → Calls Tryd.prog 25 #[.string s, .string ⟨#[58, 32]⟩] w (fun e w' => e = .returned (.tuple #[.string a, .string b, .bool r]) ∧ ∃ n, w' = w.drewN n)) := hid (fun w h => by
    have := HCT.out w h
    refine this.mono ?_
    rintro e w' ⟨rfl, hw⟩
    refine ⟨?_, hw⟩
    rw [← ha, ← hb, ← hr, ← hl]; rfl)
  rw [ha, hb, hr, ← HAD.out] at HS
  have HM := hid hM
  have HV := hid hv
  clear hct HCT hl ho ha hb hr HAD hM hv hcl
  have HNM := hid (fun w => named_any a w (by omega))
  have HPL : Hid (∀ w, Calls Tryd.prog 42 #[.string b, .int .u8 32, .int .i64 0, .int .i64 2048] w (BP (plainB b 32 0 2048) w)) := hid (fun w => plain_any b 32 0 2048 w (by omega) (by omega))
  go_enter Tryd.func27, Tryd.ntmps27
  cases r with
  | false =>
    have HN : Hid (o = none) := hid (by rw [HS.out, if_neg (fun h => by simp at h)])
    clear HS
    go_wp2_with (go_at_call 25; refine (HCU.out _ HM.out).mono ?_; rintro e w1 ⟨rfl, k, rfl⟩; clear HCU)
    go_ret2
    exact HeadsPost.no HN.out (below_drn (Below.refl _ w) _)
  | true =>
    cases h1 : namedB a with
    | false =>
      rw [h1] at HNM
      have HN : Hid (o = none) := hid (by rw [HS.out, if_neg (fun h => by rw [h1] at h; simp at h)])
      clear HS h1
      go_wp2_with (first | (go_at_call 25; refine (HCU.out _ HM.out).mono ?_; rintro e w1 ⟨rfl, k, rfl⟩; clear HCU) | (go_at_call 43; refine (HNM.out _).mono ?_; rintro e w2 ⟨rfl, ⟨k2, rfl⟩⟩))
      go_ret2
      exact HeadsPost.no HN.out (below_drn (Below.refl _ w) _)
    | true =>
      have hlow := fun w => Tryd.strings_ToLower_ascii a w (by omega) (tok_ascii h1)
      have HLOW : Hid (∀ w, Calls Tryd.prog 44 #[.string a] w (fun e w' => e = .returned (.string (baL (Lib.toLowerA a.data.toList))) ∧ Below w.heap.size w w')) := hid hlow
      obtain ⟨nm, hnm⟩ : ∃ nm, baL (Lib.toLowerA a.data.toList) = nm := ⟨_, rfl⟩
      have H1 := hid h1
      rw [h1] at HNM
      rw [hnm] at HLOW HS
      clear h1 hlow hnm
      cases h2 : plainB b 32 0 2048 with
      | false =>
        rw [h2] at HPL
        have HN : Hid (o = none) := hid (by rw [HS.out, if_neg (fun h => by rw [h2] at h; simp at h)])
        clear HS h2 HLOW
        go_wp2_with (first | (go_at_call 25; refine (HCU.out _ HM.out).mono ?_; rintro e w1 ⟨rfl, k, rfl⟩; clear HCU) | (go_at_call 43; refine (HNM.out _).mono ?_; rintro e w2 ⟨rfl, ⟨k2, rfl⟩⟩) | (go_at_call 42; refine (HPL.out _).mono ?_; rintro e w3 ⟨rfl, ⟨k3, rfl⟩⟩))
        go_ret2
        exact HeadsPost.no HN.out (below_drn (Below.refl _ w) _)
      | true =>
        have H2 := hid h2
        rw [h2] at HPL
        clear h2
        by_cases h16 : xs.length = 16
        · have t3 : ((xs.length : Int) == 16) = true := by rw [h16]; rfl
          have HN : Hid (o = none) := hid (by rw [HS.out, if_neg (fun h => h.2.2.2.1 h16)])
          clear HS HLOW h16
          go_wp2_with (first | (go_at_call 25; refine (HCU.out _ HM.out).mono ?_; rintro e w1 ⟨rfl, k, rfl⟩; clear HCU) | (go_at_call 43; refine (HNM.out _).mono ?_; rintro e w2 ⟨rfl, ⟨k2, rfl⟩⟩) | (go_at_call 42; refine (HPL.out _).mono ?_; rintro e w3 ⟨rfl, ⟨k3, rfl⟩⟩))
          go_ret2
          exact HeadsPost.no HN.out (below_drn (Below.refl _ w) _)
        · have t3 : ((xs.length : Int) == 16) = false := int_beq_false (by omega)
          have H16 := hid h16
          clear h16
          cases hg : getS xs nm with
          | some u =>
            have HN : Hid (o = none) := hid (by rw [HS.out, if_neg (fun h => by have := h.2.2.2.2; rw [hg] at this; cases this)])
            have HG := hid hg
            clear HS hg
            go_wp2_with (first | (go_at_call 25; refine (HCU.out _ HM.out).mono ?_; rintro e w1 ⟨rfl, k, rfl⟩; clear HCU) | (go_at_call 43; refine (HNM.out _).mono ?_; rintro e w2 ⟨rfl, ⟨k2, rfl⟩⟩) | (go_at_call 42; refine (HPL.out _).mono ?_; rintro e w3 ⟨rfl, ⟨k3, rfl⟩⟩) | (go_at_call 44; refine (HLOW.out _).mono ?_; rintro e w4 ⟨rfl, hd⟩; have HB4 := hid ((below_drn (Below.refl w.heap.size w) _).trans (hd.mono (by simp))); clear hd) | (go_at_call 6; refine (head_any xs nm A cap _ (HV.out.below HB4.out).reads hcap (by omega)).mono ?_; rintro e w5 ⟨he, hd⟩; rw [HG.out] at he; obtain rfl : e = .returned (.tuple #[.string u, .bool true]) := he; have HB5 := hid (below_then HB4.out hd); clear hd))
            go_ret2
            exact HeadsPost.no HN.out (HB5.out.mono hbase)
          | none =>
            have HN : Hid (o = some ⟨nm, b⟩) := hid (by rw [HS.out, if_pos ⟨rfl, H1.out, H2.out, H16.out, hg⟩])
            have HG := hid hg
            clear HS hg
            go_wp2_with (first | (go_at_call 25; refine (HCU.out _ HM.out).mono ?_; rintro e w1 ⟨rfl, k, rfl⟩; clear HCU) | (go_at_call 43; refine (HNM.out _).mono ?_; rintro e w2 ⟨rfl, ⟨k2, rfl⟩⟩) | (go_at_call 42; refine (HPL.out _).mono ?_; rintro e w3 ⟨rfl, ⟨k3, rfl⟩⟩) | (go_at_call 44; refine (HLOW.out _).mono ?_; rintro e w4 ⟨rfl, hd⟩; have HB4 := hid ((below_drn (Below.refl w.heap.size w) _).trans (hd.mono (by simp))); clear hd) | (go_at_call 6; refine (head_any xs nm A cap _ (HV.out.below HB4.out).reads hcap (by omega)).mono ?_; rintro e w5 ⟨he, hd⟩; rw [HG.out] at he; obtain rfl : e = .returned (.tuple #[.string ⟨#[]⟩, .bool false]) := he; have HB5 := hid (below_then HB4.out hd); clear hd) | (at_builtin; refine wpList_append_p rfl (.tmp 43) (.tmp 47) rfl base xs ⟨nm, b⟩ (.slice A xs.length cap) w5.heap.size rfl rfl ((HV.out.below HB5.out).below ((Below.refl _ w5).alloc (Nat.le_refl _) _)) (by simp) (by simp) (by omega) (by simp; have := HB5.out.size; omega) ?_; intro v' w6 ho hg hb; have HO6 := hid ho; have HG6 := hid hg; obtain ⟨A6, c6, rfl, _⟩ := ho.form; clear ho hg hb))
            go_ret2
            have hs5 := HB5.out.size
            have hbl6 : Below base w w6 := ((HB5.out.mono hbase).alloc (by omega) _).trans (grown_low ((HV.out.below HB5.out).below ((Below.refl _ w5).alloc (Nat.le_refl _) _)) HG6.out (Nat.le_refl _) (by simp; omega))
            refine HeadsPost.yes HN.out ?_ hbl6
            have h9 := HO6.out
            rw [List.length_append] at h9
            exact h9
/-- May a body of that length stand behind heads? -/
def rightB (xs : List Par) (n : Nat) (most : Int) : Bool :=
  match getS xs (baL [99, 111, 110, 116, 101, 110, 116, 45, 108, 101, 110, 103, 116, 104]) with
  | none => decide (n = 0)
  | some s => (match (readSpec s.data.toList 0 most).2 with | .nil => true | _ => false) && decide ((readSpec s.data.toList 0 most).1 = (n : Int))
def BBelow (b : Bool) (w : World) (e : Ending) (w' : World) : Prop := e = .returned (.bool b) ∧ Below w.heap.size w w'
theorem BBelow.mk {b c : Bool} {w w' : World} (h : b = c) (hb : Below w.heap.size w w') : BBelow b w (.returned (.bool c)) w' := ⟨by rw [h], hb⟩
set_option maxHeartbeats 4000000 in
set_option maxRecDepth 20000 in
theorem right_any (xs : List Par) (A : Option Addr) (c : Nat) (s : ByteArray) (w : World) (hC : PHead.k46.C w A xs.length xs) (hc : xs.length ≤ c) (hn : xs.length ≤ 1000000) (hx : ∀ x ∈ xs, x.f1.size ≤ 1048576) (hs : s.size ≤ 1000000) :
    Calls Tryd.prog 28 #[.slice A xs.length c, .string s] w (BBelow (rightB xs s.size 4096) w) := by
  obtain ⟨key, hk⟩ : ∃ key, baL [99, 111, 110, 116, 101, 110, 116, 45, 108, 101, 110, 103, 116, 104] = key := ⟨_, rfl⟩
  have hh : Calls Tryd.prog 6 #[.slice A xs.length c, .string ⟨#[99, 111, 110, 116, 101, 110, 116, 45, 108, 101, 110, 103, 116, 104]⟩] w (HeadPost (getS xs key) w) := by rw [← hk]; exact head_any xs _ A c w hC hc (by omega)
  have HH := hid hh
  obtain ⟨B, hB⟩ : ∃ B, rightB xs s.size 4096 = B := ⟨_, rfl⟩
  have hB2 := hB
  unfold rightB at hB2
  rw [hk] at hB2
  have HXS : Hid (∀ u, getS xs key = some u → u.size ≤ 1048576) := hid (fun u hu => by
    have key' : ∀ (l : List Par), getS l key = some u → ∃ x ∈ l, x.f1 = u := by
      intro l
      induction l with
      | nil => intro h; cases h
      | cons y l ih =>
        intro h
        rw [getS] at h
        by_cases e : y.f0 = key
        · rw [if_pos e] at h; exact ⟨y, by simp, Option.some.inj h⟩
        · rw [if_neg e] at h
          obtain ⟨x, h1, h2⟩ := ih h
          exact ⟨x, List.mem_cons_of_mem _ h1, h2⟩
    obtain ⟨x, h1, h2⟩ := key' xs hu
    rw [← h2]; exact hx x h1)
  rw [hB]
  clear hh hk hB hx
  go_enter Tryd.func28, Tryd.ntmps28
  cases hg : getS xs key with
  | none =>
    rw [hg] at HH hB2
    have HB := hid hB2
    clear hB2 hg
    go_wp2_with (go_at_call 6; refine HH.out.mono ?_; rintro e w1 ⟨rfl, hd⟩; have HB1 := hid hd; clear hd HH)
    go_ret
    refine BBelow.mk ?_ HB1.out
    rw [← HB.out, Bool.eq_iff_iff]
    simp only [decide_eq_true_eq, beq_iff_eq]
    have h1 := str_empty s
    have h2 := str_not_empty s
    constructor
    · exact fun h => by rw [h1 h]; rfl
    · exact fun h => by
        rcases Nat.eq_zero_or_pos s.size with h9 | h9
        · exact h9
        · exact absurd (List.isEmpty_iff.1 h) (h2 h9)
  | some u =>
    rw [hg] at HH hB2
    have hu := HXS.out u hg
    have HRD := hid (fun w => read_any u w hu 0 4096 (by omega) (by omega) (by omega) (by omega))
    obtain ⟨n, g, hng⟩ : ∃ n g, readSpec u.data.toList 0 4096 = (n, g) := ⟨_, _, rfl⟩
    simp only [hng] at hB2
    have HNG := hid hng
    have HB := hid hB2
    clear hB2 hg hu hng
    cases g with
    | nil =>
      by_cases e : n = (s.size : Int)
      · have t0 : (n == (s.size : Int)) = true := int_beq_true e
        have HB9 : Hid (B = true) := hid (by rw [← HB.out]; simpa using e)
        clear e HB
        go_wp2_with (first | (go_at_call 6; refine HH.out.mono ?_; rintro e w1 ⟨he, hd⟩; obtain rfl : e = .returned (.tuple #[.string u, .bool true]) := he; have HB1 := hid hd; clear hd HH) | (go_at_call 38; refine (HRD.out _).mono ?_; rintro e w2 ⟨v, rfl, he, hd⟩; rw [HNG.out] at he ⊢; obtain rfl : v = .nilIface := he; have HB2 := hid (below_then HB1.out hd); clear hd HRD))
        go_ret
        exact BBelow.mk HB9.out HB2.out
      · have t0 : (n == (s.size : Int)) = false := int_beq_false e
        have HB9 : Hid (B = false) := hid (by rw [← HB.out]; simpa using e)
        clear e HB
        go_wp2_with (first | (go_at_call 6; refine HH.out.mono ?_; rintro e w1 ⟨he, hd⟩; obtain rfl : e = .returned (.tuple #[.string u, .bool true]) := he; have HB1 := hid hd; clear hd HH) | (go_at_call 38; refine (HRD.out _).mono ?_; rintro e w2 ⟨v, rfl, he, hd⟩; rw [HNG.out] at he ⊢; obtain rfl : v = .nilIface := he; have HB2 := hid (below_then HB1.out hd); clear hd HRD))
        go_ret
        exact BBelow.mk HB9.out HB2.out
    | no k =>
      have HB9 : Hid (B = false) := hid (by rw [← HB.out]; rfl)
      clear HB
      go_wp2_with (first | (go_at_call 6; refine HH.out.mono ?_; rintro e w1 ⟨he, hd⟩; obtain rfl : e = .returned (.tuple #[.string u, .bool true]) := he; have HB1 := hid hd; clear hd HH) | (go_at_call 38; refine (HRD.out _).mono ?_; rintro e w2 ⟨v, rfl, he, hd⟩; rw [HNG.out] at he ⊢; obtain rfl : v = .iface 55 (.int .i64 k) := he; have HB2 := hid (below_then HB1.out hd); clear hd HRD))
      go_ret
      exact BBelow.mk HB9.out HB2.out
    | at_ q k =>
      have HB9 : Hid (B = false) := hid (by rw [← HB.out]; rfl)
      clear HB
      go_wp2_with (first | (go_at_call 6; refine HH.out.mono ?_; rintro e w1 ⟨he, hd⟩; obtain rfl : e = .returned (.tuple #[.string u, .bool true]) := he; have HB1 := hid hd; clear hd HH) | (go_at_call 38; refine (HRD.out _).mono ?_; rintro e w2 ⟨v, rfl, he, hd⟩; rw [HNG.out] at he ⊢; obtain ⟨eb, eo, rfl, _, _⟩ := he; have HB2 := hid (below_then HB1.out hd); clear hd HRD))
      go_ret
      exact BBelow.mk HB9.out HB2.out
end Go.Proofs.YtpkiahpdoejbcaaDoor.Htt

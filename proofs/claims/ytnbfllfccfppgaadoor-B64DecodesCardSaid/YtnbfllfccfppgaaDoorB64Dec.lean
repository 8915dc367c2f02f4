/-
  b64.Decode and b64.Right by contract.
-/
import Derived.Test.YtnbfllfccfppgaaDoorB64Enc
namespace Go.Proofs.YtnbfllfccfppgaaDoor.B64
open Go.RowKit Go.Proofs.YtnbfllfccfppgaaDoor
set_option linter.unusedVariables false

theorem byteT : ByteT Tryd.prog 24 5 := ⟨Tryd.underlying24, Tryd.underlying5, by kernel_rfl⟩
/-- Decode's error. -/
def errOf (n p : Int) : GErr := if n = 0 then .nil else if n = 2 then .no 2 else .at_ p 20
def DecodePost (s : List UInt8) (w : World) (e : Ending) (w' : World) : Prop :=
  ∃ v er, e = .returned (.tuple #[v, er]) ∧ OwnB w' w.heap.size 5 v (decS s).1 ∧ IsErr w' (errOf (decS s).2.1 (decS s).2.2) er ∧ Below w.heap.size w w'
theorem DecodePost.mk {s : List UInt8} {w w' : World} {v er : Value} {b : List UInt8} {n p : Int} (hd : decS s = (b, n, p)) (hv : OwnB w' w.heap.size 5 v b) (he : IsErr w' (errOf n p) er) (hb : Below w.heap.size w w') : DecodePost s w (.returned (.tuple #[v, er])) w' :=
  ⟨v, er, rfl, by rw [hd]; exact hv, by rw [hd]; exact he, hb⟩
theorem errOf_no : errOf 2 (-1) = .no 2 := by unfold errOf; rw [if_neg (by omega), if_pos rfl]
theorem errOf_at (p : Int) : errOf 20 p = .at_ p 20 := by unfold errOf; rw [if_neg (by omega), if_neg (by omega)]
theorem errOf_nil : errOf 0 (-1) = .nil := by unfold errOf; rw [if_pos rfl]
def good (s : List UInt8) (k : Nat) : Prop := ∀ i, i < k → badS (s.getD i 0) = false
theorem find_at (s : List UInt8) (k : Nat) (hk : k < s.length) (hg : good s k) (hb : worthS (s.getD k 0) < 0) : s.findIdx? badS = some k := by
  rw [List.findIdx?_eq_some_iff_getElem]
  refine ⟨hk, ?_, ?_⟩
  · have : s.getD k 0 = s[k] := by simp [List.getD, hk]
    rw [← this]; simpa [badS] using hb
  · intro j hj
    have := hg j hj
    have e : s.getD j 0 = s[j] := by simp [List.getD, show j < s.length by omega]
    rw [e] at this; simp [this]
theorem find_none (s : List UInt8) (hg : good s s.length) : s.findIdx? badS = none := by
  rw [List.findIdx?_eq_none_iff]
  intro c hc
  obtain ⟨i, hi, rfl⟩ := List.mem_iff_getElem.1 hc
  have := hg i hi
  have e : s.getD i 0 = s[i] := by simp [List.getD, hi]
  rwa [e] at this
theorem good_succ (s : List UInt8) (k : Nat) (hg : good s k) (hb : 0 ≤ worthS (s.getD k 0)) : good s (k + 1) := by
  intro i hi
  by_cases e : i = k
  · subst e; unfold badS; simpa using hb
  · exact hg i (by omega)
theorem join_x (r w : Nat) (hr : r < 64) (hw : w < 64) : bits .or .u32 ((r : Int) * 64) (w : Int) = ((r * 64 + w : Nat) : Int) := by
  rw [bits_join .u32 32 (by decide) wraps_u32 6 _ _ (by omega) (by omega) (by omega) (by omega) (by omega) (by omega)]; simp
theorem mask_15 (x : Nat) (hx : x < 4096) : bits .and .u32 (x : Int) 15 = ((x % 16 : Nat) : Int) := by
  have := bits_mask .u32 32 (by decide) wraps_u32 4 (by decide) (x : Int) (by omega) (by omega)
  simpa using this
theorem mask_3 (x : Nat) (hx : x < 4096) : bits .and .u32 (x : Int) 3 = ((x % 4 : Nat) : Int) := by
  have := bits_mask .u32 32 (by decide) wraps_u32 2 (by decide) (x : Int) (by omega) (by omega)
  simpa using this
theorem mask_0 (x : Nat) (hx : x < 4096) : bits .and .u32 (x : Int) 0 = 0 := by
  have := bits_mask .u32 32 (by decide) wraps_u32 0 (by decide) (x : Int) (by omega) (by omega)
  simpa using this

theorem reads_one (w : World) (T : TypeId) (n : Int) (m : Nat) (h : n = (m : Int)) (hm : m < 256) : ReadsB (w.alloc (.cells #[.int .u8 n] T)) (.slice (some ⟨w.heap.size, 0, none⟩) 1 1) [UInt8.ofNat m] := by
  refine .inr ⟨w.heap.size, 0, 1, rfl, Nat.le_refl _, fun i hi => ?_⟩
  obtain rfl : i = 0 := by simp at hi; exact hi
  subst h
  have : m % 256 = m := Nat.mod_eq_of_lt hm
  simp [cellOf, this]
def DecRel (s : List UInt8) (B : Nat) (w0 : World) (i out x hv : Value) (w : World) : Prop :=
  ∃ k : Nat, k ≤ s.length ∧ i = .int .i64 k ∧ good s k ∧ OwnB w B 5 out (decB s k) ∧ x = .int .u32 (restX s k : Nat) ∧ hv = .int .i64 ((6 * k % 8 : Nat) : Int) ∧ Below B w0 w ∧ B ≤ w.heap.size
set_option maxRecDepth 100000 in
set_option maxHeartbeats 2000000 in
theorem decode_any (s : ByteArray) (w : World) (hs : s.size ≤ 1099511627776) : Calls Tryd.prog 10 #[.string s] w (DecodePost s.data.toList w) := by
  have hln : s.data.toList.length = s.size := str_len s
  by_cases hl : 65536 < s.size
  · have hd : decS s.data.toList = ([], 2, -1) := by unfold decS; rw [if_pos (by omega)]
    have HD := hid hd
    clear hd hln
    go_enter Tryd.func10, Tryd.ntmps10
    go_wp2_with fail
    go_ret2
    exact DecodePost.mk HD.out (OwnB.nil _ _ _) (by rw [errOf_no]; rfl) (Below.refl _ _)
  · have HLN := hid hln
    clear hln
    go_enter Tryd.func10, Tryd.ntmps10
    go_wp2_with fail
    go_loopw [15, 4, 5, 6] (fun i out x hv wr => DecRel s.data.toList w.heap.size w i out x hv wr) (fun i _ _ _ _ => s.size - (intOf i).toNat)
    case atStart => exact ⟨0, by omega, rfl, fun i hi => by omega, by rw [decB_zero]; exact OwnB.nil _ _ _, by simp [restX], rfl, Below.refl _ _, Nat.le_refl _⟩
    case round =>
      obtain ⟨k, hk, rfl, hg, hown, rfl, rfl, hbw, hsz⟩ := hrel
      have HG := hid hg
      have HO := hid hown
      have HBW := hid hbw
      have hk' : k ≤ s.size := by have := HLN.out; omega
      clear hg hown hbw hk
      by_cases hlt : k < s.size
      · have hget := str_get s k hlt
        have HGET := hid hget
        have hr64 := restX_lt s.data.toList k
        have hw64 := wv_lt s.data.toList k
        by_cases hb : worthS s[k] < 0
        · have HB := hid hb
          clear hget
          go_wp2_with (first
            | (go_at_call 18; refine (worth_any _ _).mono ?_; intro e w1 hp; obtain ⟨rfl, rfl⟩ := hp)
            | (go_at_call 19; refine (at_any _ _).mono ?_; intro e w1 hp; obtain ⟨er, rfl, her, hbe⟩ := hp; have HER := hid her; have HBE := hid hbe; clear her hbe))
          go_ret2
          have hd : decS s.data.toList = ([], 20, (k : Int)) := by
            unfold decS; rw [if_neg (by rw [HLN.out]; omega), find_at s.data.toList k (by rw [HLN.out]; exact hlt) HG.out (by rw [← HGET.out]; exact HB.out)]
          exact DecodePost.mk hd (OwnB.nil _ _ _) (by rw [errOf_at]; exact HER.out) (HBW.out.trans (HBE.out.mono hsz))
        · have hw := worthS_range s[k]
          have hwv : worthS s[k] = (wv s.data.toList k : Nat) := by unfold wv; rw [← hget]; omega
          have HWV := hid hwv
          have HGOOD := hid (good_succ s.data.toList k HG.out (by rw [← hget]; omega))
          have HSTEP := hid (fun h4 => dec_byte s.data.toList k h4)
          have HQ := hid (fun h4 => dec_quiet s.data.toList k h4)
          obtain ⟨r, hr⟩ : ∃ r, restX s.data.toList k = r := ⟨_, rfl⟩
          obtain ⟨u, hu⟩ : ∃ u, wv s.data.toList k = u := ⟨_, rfl⟩
          rw [hr] at hr64 HSTEP HQ ⊢
          rw [hu] at hw64 HWV HSTEP HQ
          have hx := join_x r u hr64 hw64
          have hx2 : r * 64 + u < 4096 := by omega
          obtain ⟨x, hxx⟩ : ∃ x, r * 64 + u = x := ⟨_, rfl⟩
          rw [hxx] at hx hx2 HSTEP HQ
          clear hxx
          clear hget hwv hb hw hr hu
          have h4 : k % 4 = 0 ∨ k % 4 = 1 ∨ k % 4 = 2 ∨ k % 4 = 3 := by omega
          rcases h4 with h4 | h4 | h4 | h4
          · rw [show 6 * k % 8 = 0 by omega]
            have H4 := hid h4
            clear h4
            go_wp2_with (go_at_call 18; refine (worth_any _ _).mono ?_; rw [HWV.out]; intro e w1 hp; obtain ⟨rfl, rfl⟩ := hp)
            refine ⟨⟨k + 1, by rw [HLN.out]; exact hlt, by go_num, HGOOD.out, by rw [(HQ.out H4.out).1]; exact HO.out, by rw [(HQ.out H4.out).2], by have := H4.out; go_num, HBW.out, hsz⟩, by simp [intOf]; omega⟩
          · rw [show 6 * k % 8 = 6 by omega]
            have hm := mask_15 x hx2
            have hst := HSTEP.out (by omega)
            rw [show 6 * k % 8 + 6 - 8 = 4 by omega, show 2 ^ 4 = 16 by decide] at hst
            have hby : (x : Int) / 16 < 256 := by omega
            have hby0 : 0 ≤ (x : Int) / 16 := by omega
            have hbn : x / 16 < 256 := by omega
            have HST := hid hst
            have HN8 : RowKit.Hid (6 * (k + 1) % 8 = 4) := hid (by omega)
            clear h4 hst
            go_wp2_with (first
              | (go_at_call 18; refine (worth_any _ _).mono ?_; rw [HWV.out]; intro e w1 hp; obtain ⟨rfl, rfl⟩ := hp)
              | (at_builtin; refine wpList_append_b byteT rfl _ _ rfl w.heap.size (decB s.data.toList k) [UInt8.ofNat (x / 16)] _ _ rfl rfl (HO.out.alloc _) (reads_one _ _ _ (x / 16) (by simp) hbn) (by rw [decB_length, List.length_singleton]; omega) (by simp; omega) ?_; intro v' w1 hown' hgrow _ _; have HO' := hid hown'; have HGR : RowKit.Hid (World.grownBy _ w1 u4.ownBlock) := hid hgrow; clear hown' hgrow))
            refine ⟨⟨k + 1, by rw [HLN.out]; exact hlt, by go_num, HGOOD.out, ?_, ?_, ?_, (HBW.out.alloc hsz _).trans (below_grown (HO.out.alloc _) HGR.out (Nat.le_refl _) (by simp; omega)), ?_⟩, by simp [intOf]; omega⟩
            · have := HST.out.1; try simp only [Nat.div_one] at this
              rw [this]; exact HO'.out
            · have := HST.out.2.1; rw [this]; first | rfl | (simp; done) | (congr 1; omega)
            · rw [HN8.out]; first | rfl | (simp; done)
            · have := HGR.out.size; simp at this; omega
          · rw [show 6 * k % 8 = 4 by omega]
            have hm := mask_3 x hx2
            have hst := HSTEP.out (by omega)
            rw [show 6 * k % 8 + 6 - 8 = 2 by omega, show 2 ^ 2 = 4 by decide] at hst
            have hby : (x : Int) / 4 < 256 := by omega
            have hby0 : 0 ≤ (x : Int) / 4 := by omega
            have hbn : x / 4 < 256 := by omega
            have HST := hid hst
            have HN8 : RowKit.Hid (6 * (k + 1) % 8 = 2) := hid (by omega)
            clear h4 hst
            go_wp2_with (first
              | (go_at_call 18; refine (worth_any _ _).mono ?_; rw [HWV.out]; intro e w1 hp; obtain ⟨rfl, rfl⟩ := hp)
              | (at_builtin; refine wpList_append_b byteT rfl _ _ rfl w.heap.size (decB s.data.toList k) [UInt8.ofNat (x / 4)] _ _ rfl rfl (HO.out.alloc _) (reads_one _ _ _ (x / 4) (by simp) hbn) (by rw [decB_length, List.length_singleton]; omega) (by simp; omega) ?_; intro v' w1 hown' hgrow _ _; have HO' := hid hown'; have HGR : RowKit.Hid (World.grownBy _ w1 u4.ownBlock) := hid hgrow; clear hown' hgrow))
            refine ⟨⟨k + 1, by rw [HLN.out]; exact hlt, by go_num, HGOOD.out, ?_, ?_, ?_, (HBW.out.alloc hsz _).trans (below_grown (HO.out.alloc _) HGR.out (Nat.le_refl _) (by simp; omega)), ?_⟩, by simp [intOf]; omega⟩
            · have := HST.out.1; try simp only [Nat.div_one] at this
              rw [this]; exact HO'.out
            · have := HST.out.2.1; rw [this]; first | rfl | (simp; done) | (congr 1; omega)
            · rw [HN8.out]; first | rfl | (simp; done)
            · have := HGR.out.size; simp at this; omega
          · rw [show 6 * k % 8 = 2 by omega]
            have hm := mask_0 x hx2
            have hst := HSTEP.out (by omega)
            rw [show 6 * k % 8 + 6 - 8 = 0 by omega, show 2 ^ 0 = 1 by decide] at hst
            have hby : (x : Int) < 256 := by omega
            have hby0 : 0 ≤ (x : Int) := by omega
            have hbn : x < 256 := by omega
            have HST := hid hst
            have HN8 : RowKit.Hid (6 * (k + 1) % 8 = 0) := hid (by omega)
            clear h4 hst
            go_wp2_with (first
              | (go_at_call 18; refine (worth_any _ _).mono ?_; rw [HWV.out]; intro e w1 hp; obtain ⟨rfl, rfl⟩ := hp)
              | (at_builtin; refine wpList_append_b byteT rfl _ _ rfl w.heap.size (decB s.data.toList k) [UInt8.ofNat (x)] _ _ rfl rfl (HO.out.alloc _) (reads_one _ _ _ (x) (by simp) hbn) (by rw [decB_length, List.length_singleton]; omega) (by simp; omega) ?_; intro v' w1 hown' hgrow _ _; have HO' := hid hown'; have HGR : RowKit.Hid (World.grownBy _ w1 u4.ownBlock) := hid hgrow; clear hown' hgrow))
            refine ⟨⟨k + 1, by rw [HLN.out]; exact hlt, by go_num, HGOOD.out, ?_, ?_, ?_, (HBW.out.alloc hsz _).trans (below_grown (HO.out.alloc _) HGR.out (Nat.le_refl _) (by simp; omega)), ?_⟩, by simp [intOf]; omega⟩
            · have := HST.out.1; try simp only [Nat.div_one] at this
              rw [this]; exact HO'.out
            · have := HST.out.2.1; rw [this]; first | rfl | (simp; done) | (congr 1; omega)
            · rw [HN8.out]; first | rfl | (simp; done)
            · have := HGR.out.size; simp at this; omega
      · obtain rfl : k = s.size := by omega
        have HF := hid (find_none s.data.toList (by rw [HLN.out]; exact HG.out))
        obtain ⟨r, hr⟩ : ∃ r, restX s.data.toList s.size = r := ⟨_, rfl⟩
        rw [hr]
        have HR := hid hr
        clear hr hlt
        by_cases h41 : s.size % 4 = 1
        · have hd : decS s.data.toList = ([], 20, (s.size : Int)) := by
            unfold decS; rw [if_neg (by rw [HLN.out]; omega), HF.out, HLN.out]; simp only []; rw [if_pos h41]
          have HD := hid hd
          have t1 : (((s.size : Int) % 4) == 1) = true := beq_iff_eq.2 (by omega)
          clear hd h41
          go_wp2_with (go_at_call 19; refine (at_any _ _).mono ?_; intro e w1 hp; obtain ⟨er, rfl, her, hbe⟩ := hp; have HER := hid her; have HBE := hid hbe; clear her hbe)
          go_ret2
          exact DecodePost.mk HD.out (OwnB.nil _ _ _) (by rw [errOf_at]; exact HER.out) (HBW.out.trans (HBE.out.mono hsz))
        · have t1 : (((s.size : Int) % 4) == 1) = false := beq_eq_false_iff_ne.2 (by omega)
          by_cases h0 : r = 0
          · have hd : decS s.data.toList = (decB s.data.toList s.size, 0, -1) := by
              unfold decS; rw [if_neg (by rw [HLN.out]; omega), HF.out, HLN.out]; simp only []; rw [if_neg h41, HR.out, if_pos h0]
            have HD := hid hd
            subst h0
            clear hd h41
            go_wp2_with fail
            go_ret2
            exact DecodePost.mk HD.out HO.out (by rw [errOf_nil]; rfl) HBW.out
          · have hd : decS s.data.toList = ([], 20, (s.size : Int) - 1) := by
              unfold decS; rw [if_neg (by rw [HLN.out]; omega), HF.out, HLN.out]; simp only []; rw [if_neg h41, HR.out, if_neg h0]
            have HD := hid hd
            have t2 : ((r : Int) == 0) = false := beq_eq_false_iff_ne.2 (by omega)
            have t3 : ((r : Int) != 0) = true := by rw [bne_iff_ne]; omega
            have hp1 : 0 < s.size := by
              rcases Nat.eq_zero_or_pos s.size with e | e
              · exfalso; apply h0; rw [← HR.out, e]; rfl
              · exact e
            clear hd h41 h0
            go_wp2_with (go_at_call 19; refine (at_any _ _).mono ?_; intro e w1 hp; obtain ⟨er, rfl, her, hbe⟩ := hp; have HER := hid her; have HBE := hid hbe; clear her hbe)
            go_ret2
            exact DecodePost.mk HD.out (OwnB.nil _ _ _) (by rw [errOf_at]; exact HER.out) (HBW.out.trans (HBE.out.mono hsz))

def BoolBelow (b : Bool) (w : World) (e : Ending) (w' : World) : Prop := e = .returned (.bool b) ∧ Below w.heap.size w w'
theorem BoolBelow.mk {b c : Bool} {w w' : World} (h : b = c) (hb : Below w.heap.size w w') : BoolBelow b w (.returned (.bool c)) w' := ⟨by rw [h], hb⟩
theorem dec_num (s : List UInt8) : (decS s).2.1 = 0 ∧ (decS s).2.2 = -1 ∨ (decS s).2.1 = 2 ∧ (decS s).2.2 = -1 ∨ (decS s).2.1 = 20 := by
  unfold decS
  split
  · exact .inr (.inl ⟨rfl, rfl⟩)
  · split
    · exact .inr (.inr rfl)
    · split
      · exact .inr (.inr rfl)
      · split
        · exact .inl ⟨rfl, rfl⟩
        · exact .inr (.inr rfl)
set_option maxHeartbeats 1000000 in
theorem right_any (s : ByteArray) (w : World) (hs : s.size ≤ 1099511627776) : Calls Tryd.prog 14 #[.string s] w (BoolBelow (decide ((decS s.data.toList).2.1 = 0)) w) := by
  have hd := hid (decode_any s w hs)
  rcases dec_num s.data.toList with ⟨h, hp⟩ | ⟨h, hp⟩ | h
  · have H := hid h
    have HP := hid hp
    clear h hp
    rw [H.out]
    go_enter Tryd.func14, Tryd.ntmps14
    go_wp2_with (go_at_call 10; refine hd.out.mono ?_; intro e w1 hp; obtain ⟨v, er, rfl, ho, he, hb⟩ := hp; rw [H.out, HP.out, errOf_nil] at he; obtain rfl : er = .nilIface := he; have HB := hid hb; clear ho hb)
    go_ret
    exact BoolBelow.mk rfl HB.out
  · have H := hid h
    have HP := hid hp
    clear h hp
    rw [H.out]
    go_enter Tryd.func14, Tryd.ntmps14
    go_wp2_with (go_at_call 10; refine hd.out.mono ?_; intro e w1 hp; obtain ⟨v, er, rfl, ho, he, hb⟩ := hp; rw [H.out, HP.out, errOf_no] at he; obtain rfl : er = .iface 43 (.int .i64 2) := he; have HB := hid hb; clear ho hb)
    go_ret
    exact BoolBelow.mk (by decide) HB.out
  · have H := hid h
    clear h
    rw [H.out]
    go_enter Tryd.func14, Tryd.ntmps14
    go_wp2_with (go_at_call 10; refine hd.out.mono ?_; intro e w1 hp; obtain ⟨v, er, rfl, ho, he, hb⟩ := hp; rw [H.out, errOf_at] at he; obtain ⟨b, o, rfl, _, _⟩ := he; have HB := hid hb; clear ho hb)
    go_ret
    exact BoolBelow.mk (by decide) HB.out
end Go.Proofs.YtnbfllfccfppgaaDoor.B64

/-
  The document's All, Both, Less, Within, Same by contract.
-/
import Derived.Test.YtomkdnapnjkclaaDoorScoRef
namespace Go.Proofs.YtomkdnapnjkclaaDoor.Sco
open Go.RowKit Go.Proofs.YtomkdnapnjkclaaDoor Go.Proofs.YtomkdnapnjkclaaDoor.PScopeSets Go.Proofs.YtomkdnapnjkclaaDoorW.PrintWords Go.Proofs.YtomkdnapnjkclaaDoorW.PrintLast Go.Proofs.YtomkdnapnjkclaaDoorW.PrintMore
set_option linter.unusedVariables false
set_option linter.unusedSimpArgs false
theorem take_step (xs : List ByteArray) (i : Nat) (x : ByteArray) (hx : xs[i]? = some x) (acc : List ByteArray) : (xs.take (i + 1)).foldl putS acc = putS ((xs.take i).foldl putS acc) x := by
  rw [List.take_add_one, hx]
  simp
theorem filter_step (p : ByteArray → Bool) (xs : List ByteArray) (i : Nat) (x : ByteArray) (hx : xs[i]? = some x) : (xs.take (i + 1)).filter p = (xs.take i).filter p ++ (if p x = true then [x] else []) := by
  rw [List.take_add_one, hx]
  simp [List.filter_cons]
/-- How a loop that puts stands. -/
def FoldRel (zs : Nat → List ByteArray) (n : Nat) (w : World) (vo vi : Value) (wr : World) : Prop :=
  ∃ i, i ≤ n ∧ vi = .int .i64 (i : Nat) ∧ OwnS wr w.heap.size vo (setS (zs i)) ∧ (zs i).length ≤ 100000 ∧ Below w.heap.size w wr
theorem set_snoc (l : List ByteArray) (x : ByteArray) : setS (l ++ [x]) = putS (setS l) x := by unfold setS; rw [List.foldl_append]; rfl
set_option maxHeartbeats 4000000 in
set_option maxRecDepth 20000 in
theorem rboth_any (xa xb : List ByteArray) (va vb : Value) (w : World) (ha : InS w va xa) (hb : InS w vb xb) (hna : xa.length ≤ 100000) (hnb : xb.length ≤ 100000) :
    Calls Tryd.prog 15 #[va, vb] w (ListPost (bothS xa xb) w) := by
  obtain ⟨A, ca, rfl, hca, hCA⟩ := ha
  obtain ⟨B, cb, rfl, hcb, hCB⟩ := hb
  have HCA := hid hCA
  have HCB := hid hCB
  have HAE : Hid (bothS xa xb = setS (xa.filter fun x => decide (x ∈ xb))) := hid rfl
  clear hCA hCB
  go_enter Tryd.func15, Tryd.ntmps15
  go_wp2_with fail
  go_loopw [5, 6] (fun vo vi wr => FoldRel (fun i => (xa.take i).filter fun x => decide (x ∈ xb)) xa.length w vo vi wr) (fun _ vi _ => xa.length - (intOf vi).toNat)
  case atStart => exact ⟨0, Nat.zero_le _, rfl, OwnS.nil _ _, by simp, Below.refl _ _⟩
  case round =>
    obtain ⟨i, hi, rfl, ho, hl, hbw⟩ := hrel
    have HO := hid ho
    have HBW := hid hbw
    clear ho
    by_cases hlt : i < xa.length
    · have t0 : decide ((i : Int) < (xa.length : Int)) = true := decide_eq_true (by omega)
      obtain ⟨x, hx⟩ : ∃ x, xa[i]? = some x := ⟨xa[i], by simp⟩
      have p0 : (0 : Int) ≤ (i : Int) := by omega
      have p1 : (i : Int) < (xa.length : Int) := by omega
      obtain ⟨ad, rfl, hcx⟩ := at_S (Kd.C_below HCA.out hbw) i hlt x hx
      have hst := filter_step (fun x => decide (x ∈ xb)) xa i x hx
      have hcy : ∀ z, Below wr.heap.size wr z → z.cell? (ad.add i) = some (.string x) := fun z hz => (hz.cell (lt_of_cell hcx)).trans hcx
      have HCY := hid hcy
      have HH := hid (rhas_any xb x B cb wr (Kd.C_below HCB.out hbw) hcb (by omega))
      have hsz := hbw.size
      clear hcy hx hbw
      by_cases hm : x ∈ xb
      · rw [decide_eq_true hm] at HH
        simp only [hm, not_true_eq_false, decide_true, decide_false, if_true, Bool.false_eq_true, if_false, List.append_nil] at hst
        have HST := hid hst
        clear hst hm
        go_wp2_with fail
        refine HH.out.mono ?_
        rintro e w1 ⟨rfl, hd⟩
        have HB1 := hid hd.below
        clear hd HH
        have hcx1 := HCY.out w1 HB1.out
        have hlen := set_len (xa.take i |>.filter fun x => decide (x ∈ xb))
        go_wp2_with fail
        refine (rput_any _ x _ w.heap.size w1 (HO.out.below HB1.out) (by have := HB1.out.size; omega) (by omega)).mono ?_
        rintro e w2 ⟨v2, rfl, ho2, hb2⟩
        have HO2 := hid ho2
        have HB2 := hid (HBW.out.trans ((HB1.out.trans (hb2.mono HB1.out.size)).mono hsz))
        clear ho2 hb2
        go_wp2_with fail
        refine ⟨⟨i + 1, by omega, by congr 1, by simp only []; rw [HST.out, set_snoc]; exact HO2.out, by simp only []; have h1 := List.length_filter_le (fun x => decide (x ∈ xb)) (xa.take (i + 1)); rw [List.length_take] at h1; omega, HB2.out⟩, by simp [intOf] <;> omega⟩
      · rw [decide_eq_false hm] at HH
        simp only [hm, not_false_eq_true, decide_true, decide_false, if_true, Bool.false_eq_true, if_false, List.append_nil] at hst
        have HST := hid hst
        clear hst hm
        go_wp2_with fail
        refine HH.out.mono ?_
        rintro e w1 ⟨rfl, hd⟩
        have HB1 := hid hd.below
        clear hd HH
        go_wp2_with fail
        refine ⟨⟨i + 1, by omega, by congr 1, by simp only []; rw [HST.out]; exact HO.out.below HB1.out, by simp only []; rw [HST.out]; exact hl, HBW.out.trans (HB1.out.mono hsz)⟩, by simp [intOf] <;> omega⟩
    · obtain rfl : i = xa.length := by omega
      have t0 : decide ((xa.length : Int) < (xa.length : Int)) = false := decide_eq_false (by omega)
      have ho2 := HO.out
      simp only [List.take_length] at ho2
      have HO2 := hid ho2
      clear ho2 hbw
      go_wp2_with fail
      go_ret
      exact ⟨_, rfl, by rw [HAE.out]; exact HO2.out, HBW.out⟩
set_option maxHeartbeats 4000000 in
set_option maxRecDepth 20000 in
theorem rless_any (xa xb : List ByteArray) (va vb : Value) (w : World) (ha : InS w va xa) (hb : InS w vb xb) (hna : xa.length ≤ 100000) (hnb : xb.length ≤ 100000) :
    Calls Tryd.prog 19 #[va, vb] w (ListPost (lessS xa xb) w) := by
  obtain ⟨A, ca, rfl, hca, hCA⟩ := ha
  obtain ⟨B, cb, rfl, hcb, hCB⟩ := hb
  have HCA := hid hCA
  have HCB := hid hCB
  have HAE : Hid (lessS xa xb = setS (xa.filter fun x => decide (x ∉ xb))) := hid rfl
  clear hCA hCB
  go_enter Tryd.func19, Tryd.ntmps19
  go_wp2_with fail
  go_loopw [5, 6] (fun vo vi wr => FoldRel (fun i => (xa.take i).filter fun x => decide (x ∉ xb)) xa.length w vo vi wr) (fun _ vi _ => xa.length - (intOf vi).toNat)
  case atStart => exact ⟨0, Nat.zero_le _, rfl, OwnS.nil _ _, by simp, Below.refl _ _⟩
  case round =>
    obtain ⟨i, hi, rfl, ho, hl, hbw⟩ := hrel
    have HO := hid ho
    have HBW := hid hbw
    clear ho
    by_cases hlt : i < xa.length
    · have t0 : decide ((i : Int) < (xa.length : Int)) = true := decide_eq_true (by omega)
      obtain ⟨x, hx⟩ : ∃ x, xa[i]? = some x := ⟨xa[i], by simp⟩
      have p0 : (0 : Int) ≤ (i : Int) := by omega
      have p1 : (i : Int) < (xa.length : Int) := by omega
      obtain ⟨ad, rfl, hcx⟩ := at_S (Kd.C_below HCA.out hbw) i hlt x hx
      have hst := filter_step (fun x => decide (x ∉ xb)) xa i x hx
      have hcy : ∀ z, Below wr.heap.size wr z → z.cell? (ad.add i) = some (.string x) := fun z hz => (hz.cell (lt_of_cell hcx)).trans hcx
      have HCY := hid hcy
      have HH := hid (rhas_any xb x B cb wr (Kd.C_below HCB.out hbw) hcb (by omega))
      have hsz := hbw.size
      clear hcy hx hbw
      by_cases hm : x ∈ xb
      · rw [decide_eq_true hm] at HH
        simp only [hm, not_true_eq_false, decide_true, decide_false, if_true, Bool.false_eq_true, if_false, List.append_nil] at hst
        have HST := hid hst
        clear hst hm
        go_wp2_with fail
        refine HH.out.mono ?_
        rintro e w1 ⟨rfl, hd⟩
        have HB1 := hid hd.below
        clear hd HH
        go_wp2_with fail
        refine ⟨⟨i + 1, by omega, by congr 1, by simp only []; rw [HST.out]; exact HO.out.below HB1.out, by simp only []; rw [HST.out]; exact hl, HBW.out.trans (HB1.out.mono hsz)⟩, by simp [intOf] <;> omega⟩
      · rw [decide_eq_false hm] at HH
        simp only [hm, not_false_eq_true, decide_true, decide_false, if_true, Bool.false_eq_true, if_false, List.append_nil] at hst
        have HST := hid hst
        clear hst hm
        go_wp2_with fail
        refine HH.out.mono ?_
        rintro e w1 ⟨rfl, hd⟩
        have HB1 := hid hd.below
        clear hd HH
        have hcx1 := HCY.out w1 HB1.out
        have hlen := set_len (xa.take i |>.filter fun x => decide (x ∉ xb))
        go_wp2_with fail
        refine (rput_any _ x _ w.heap.size w1 (HO.out.below HB1.out) (by have := HB1.out.size; omega) (by omega)).mono ?_
        rintro e w2 ⟨v2, rfl, ho2, hb2⟩
        have HO2 := hid ho2
        have HB2 := hid (HBW.out.trans ((HB1.out.trans (hb2.mono HB1.out.size)).mono hsz))
        clear ho2 hb2
        go_wp2_with fail
        refine ⟨⟨i + 1, by omega, by congr 1, by simp only []; rw [HST.out, set_snoc]; exact HO2.out, by simp only []; have h1 := List.length_filter_le (fun x => decide (x ∉ xb)) (xa.take (i + 1)); rw [List.length_take] at h1; omega, HB2.out⟩, by simp [intOf] <;> omega⟩
    · obtain rfl : i = xa.length := by omega
      have t0 : decide ((xa.length : Int) < (xa.length : Int)) = false := decide_eq_false (by omega)
      have ho2 := HO.out
      simp only [List.take_length] at ho2
      have HO2 := hid ho2
      clear ho2 hbw
      go_wp2_with fail
      go_ret
      exact ⟨_, rfl, by rw [HAE.out]; exact HO2.out, HBW.out⟩
theorem rwithin_any (xa xb : List ByteArray) (va vb : Value) (w : World) (ha : InS w va xa) (hb : InS w vb xb) (hna : xa.length ≤ 100000) (hnb : xb.length ≤ 100000) :
    Calls Tryd.prog 12 #[va, vb] w (BB (withinB xa xb) w) := by
  have HL := hid (rless_any xa xb va vb w ha hb hna hnb)
  obtain ⟨r, hr⟩ : ∃ r, withinB xa xb = r := ⟨_, rfl⟩
  rw [hr]
  unfold withinB at hr
  obtain ⟨l, hl⟩ : ∃ l, lessS xa xb = l := ⟨_, rfl⟩
  rw [hl] at HL hr
  clear ha hb hl
  go_enter Tryd.func12, Tryd.ntmps12
  go_wp2_with fail
  refine HL.out.mono ?_
  rintro e w' ⟨v, rfl, ho, hb2⟩
  have HB2 := hid hb2
  obtain ⟨A, c, rfl, _, _⟩ := ho.reads
  have t0 : ((l.length : Int) == 0) = r := by rw [← hr]; simp [Bool.beq_eq_decide_eq]
  clear hb2 ho HL hr
  go_wp2_with fail
  go_ret
  exact ⟨by simp [t0], HB2.out⟩
set_option maxHeartbeats 4000000 in
set_option maxRecDepth 20000 in
theorem rall_any (xa xb : List ByteArray) (va vb : Value) (w : World) (ha : InS w va xa) (hb : InS w vb xb) (hna : xa.length ≤ 50000) (hnb : xb.length ≤ 50000) :
    Calls Tryd.prog 17 #[va, vb] w (ListPost (allS xa xb) w) := by
  obtain ⟨A, ca, rfl, hca, hCA⟩ := ha
  obtain ⟨B, cb, rfl, hcb, hCB⟩ := hb
  have HCA := hid hCA
  have HCB := hid hCB
  have HAE : Hid (allS xa xb = setS (xa ++ xb)) := hid rfl
  clear hCA hCB
  go_enter Tryd.func17, Tryd.ntmps17
  go_wp2_with fail
  go_loopw [5, 6] (fun vo vi wr => FoldRel (fun i => xa.take i) xa.length w vo vi wr) (fun _ vi _ => xa.length - (intOf vi).toNat)
  case atStart => exact ⟨0, Nat.zero_le _, rfl, OwnS.nil _ _, by simp, Below.refl _ _⟩
  case round =>
    obtain ⟨i, hi, rfl, ho, hl, hbw⟩ := hrel
    have HO := hid ho
    have HBW := hid hbw
    clear ho
    by_cases hlt : i < xa.length
    · have t0 : decide ((i : Int) < (xa.length : Int)) = true := decide_eq_true (by omega)
      obtain ⟨x, hx⟩ : ∃ x, xa[i]? = some x := ⟨xa[i], by simp⟩
      have p0 : (0 : Int) ≤ (i : Int) := by omega
      have p1 : (i : Int) < (xa.length : Int) := by omega
      obtain ⟨ad, rfl, hcx⟩ := at_S (Kd.C_below HCA.out hbw) i hlt x hx
      have HST : Hid (xa.take (i + 1) = xa.take i ++ [x]) := hid (by rw [List.take_add_one, hx]; rfl)
      have hlen := set_len (xa.take i)
      have hl2 : (xa.take i).length ≤ 100000 := hl
      have hsz := hbw.size
      clear hx hbw
      go_wp2_with fail
      refine (rput_any _ x _ w.heap.size wr HO.out (by omega) (by omega)).mono ?_
      rintro e w2 ⟨v2, rfl, ho2, hb2⟩
      have HO2 := hid ho2
      have HB2 := hid (HBW.out.trans (hb2.mono hsz))
      clear ho2 hb2
      go_wp2_with fail
      refine ⟨⟨i + 1, by omega, by congr 1, by simp only []; rw [HST.out, set_snoc]; exact HO2.out, by simp only []; rw [List.length_take]; omega, HB2.out⟩, by simp [intOf] <;> omega⟩
    · obtain rfl : i = xa.length := by omega
      have t0 : decide ((xa.length : Int) < (xa.length : Int)) = false := decide_eq_false (by omega)
      have ho2 := HO.out
      simp only [List.take_length] at ho2
      have HO2 := hid ho2
      clear ho2 hbw
      obtain ⟨w0, hw0⟩ : ∃ z, z = wr := ⟨_, rfl⟩
      rw [← hw0] at HO2 HBW ⊢
      clear hw0 HO
      go_wp2_with fail
      go_loopw [5, 7] (fun vo vi wr => FoldRel (fun i => xa ++ xb.take i) xb.length w vo vi wr) (fun _ vi _ => xb.length - (intOf vi).toNat)
      case atStart => exact ⟨0, Nat.zero_le _, rfl, by simp only [List.take_zero, List.append_nil]; exact HO2.out, by simp; omega, HBW.out⟩
      case round =>
        obtain ⟨i, hi, rfl, ho, hl, hbw⟩ := hrel
        have HO := hid ho
        have HBQ := hid hbw
        clear ho
        by_cases hlt : i < xb.length
        · have t0 : decide ((i : Int) < (xb.length : Int)) = true := decide_eq_true (by omega)
          obtain ⟨x, hx⟩ : ∃ x, xb[i]? = some x := ⟨xb[i], by simp⟩
          have p0 : (0 : Int) ≤ (i : Int) := by omega
          have p1 : (i : Int) < (xb.length : Int) := by omega
          obtain ⟨ad, rfl, hcx⟩ := at_S (Kd.C_below HCB.out hbw) i hlt x hx
          have HST : Hid (xa ++ xb.take (i + 1) = xa ++ xb.take i ++ [x]) := hid (by rw [List.take_add_one, hx, List.append_assoc]; rfl)
          have hlen := set_len (xa ++ xb.take i)
          have hl2 : (xa ++ xb.take i).length ≤ 100000 := hl
          have hsz := hbw.size
          clear hx hbw
          go_wp2_with fail
          refine (rput_any _ x _ w.heap.size wr HO.out (by omega) (by omega)).mono ?_
          rintro e w2 ⟨v2, rfl, ho2, hb2⟩
          have HO3 := hid ho2
          have HB2 := hid (HBQ.out.trans (hb2.mono hsz))
          clear ho2 hb2
          go_wp2_with fail
          refine ⟨⟨i + 1, by omega, by congr 1, by simp only []; rw [HST.out, set_snoc]; exact HO3.out, by simp only []; rw [List.length_append, List.length_take]; omega, HB2.out⟩, by simp [intOf] <;> omega⟩
        · obtain rfl : i = xb.length := by omega
          have t0 : decide ((xb.length : Int) < (xb.length : Int)) = false := decide_eq_false (by omega)
          have ho2 := HO.out
          simp only [List.take_length] at ho2
          have HO3 := hid ho2
          clear ho2 hbw
          go_wp2_with fail
          go_ret
          exact ⟨_, rfl, by rw [HAE.out]; exact HO3.out, HBQ.out⟩
set_option maxHeartbeats 4000000 in
theorem rsame_any (xs : List ByteArray) (va vb : Value) (w : World) (ha : InS w va xs) (hb : InS w vb xs) (hn : xs.length ≤ 1048576) :
    Calls Tryd.prog 13 #[va, vb] w (BB true w) := by
  obtain ⟨A, ca, rfl, hca, hCA⟩ := ha
  obtain ⟨B, cb, rfl, hcb, hCB⟩ := hb
  have HCA := hid hCA
  have HCB := hid hCB
  have t9 : ((xs.length : Int) == (xs.length : Int)) = true := by simp
  clear hCA hCB
  go_enter Tryd.func13, Tryd.ntmps13
  go_wp2_with fail
  go_loopw [5] (fun vi wr => ∃ i, i ≤ xs.length ∧ vi = .int .i64 (i : Nat) ∧ Below w.heap.size w wr) (fun vi _ => xs.length - (intOf vi).toNat)
  case atStart => exact ⟨0, Nat.zero_le _, rfl, Below.refl _ _⟩
  case round =>
    obtain ⟨i, hi, rfl, hbw⟩ := hrel
    have HBW := hid hbw
    by_cases hlt : i < xs.length
    · have t0 : decide ((i : Int) < (xs.length : Int)) = true := decide_eq_true (by omega)
      obtain ⟨x, hx⟩ : ∃ x, xs[i]? = some x := ⟨xs[i], by simp⟩
      have p0 : (0 : Int) ≤ (i : Int) := by omega
      have p1 : (i : Int) < (xs.length : Int) := by omega
      obtain ⟨ad, rfl, hcx⟩ := at_S (Kd.C_below HCA.out hbw) i hlt x hx
      obtain ⟨ad2, rfl, hcy⟩ := at_S (Kd.C_below HCB.out hbw) i hlt x hx
      have q0 : (x.toList == x.toList) = true := by simp
      clear hx hbw
      go_wp2_with fail
      go_quiet (fail)
      go_wp2_with fail
      refine ⟨⟨i + 1, by omega, by congr 1, below_drewN' HBW.out _⟩, by simp [intOf] <;> omega⟩
    · obtain rfl : i = xs.length := by omega
      have t0 : decide ((xs.length : Int) < (xs.length : Int)) = false := decide_eq_false (by omega)
      clear hbw
      go_wp2_with fail
      go_ret
      exact ⟨rfl, HBW.out⟩
end Go.Proofs.YtomkdnapnjkclaaDoor.Sco

/-
  scope.Both, All, Less, Within by contract.
-/
import Derived.Test.YtomkdnapnjkclaaDoorScoSet
import Derived.Shelf.Abstract
namespace Go.Proofs.YtomkdnapnjkclaaDoor.Sco
open Go.RowKit Go.Sort Go.Proofs.YtomkdnapnjkclaaDoor Go.Proofs.YtomkdnapnjkclaaDoor.PScopeSets Go.Proofs.YtomkdnapnjkclaaDoorW.PrintWords Go.Proofs.YtomkdnapnjkclaaDoorW.PrintLast Go.Proofs.YtomkdnapnjkclaaDoorW.PrintMore
set_option linter.unusedVariables false
set_option linter.unusedSimpArgs false
theorem always_gives (x : ByteArray) (y : World) : FnGives Tryd.prog 33 #[] #[.string x] (.bool true) y := by
  show Calls Tryd.prog 33 #[.string x] y _
  go_enter Tryd.func33, Tryd.ntmps33
  go_wp2
  go_ret
  exact ⟨rfl, 0, rfl⟩
theorem both1_gives (xs : List ByteArray) (x : ByteArray) (A : Option Addr) (c : Nat) (p : Addr) (y : World) (hcell : y.cell? p = some (.slice A xs.length c)) (hC : Kd.string.C y A xs.length xs) (hc : xs.length ≤ c) (hn : xs.length ≤ 1048576) :
    FnGives Tryd.prog 31 #[.pointer (some p)] #[.string x] (.bool (decide (x ∈ xs))) y := by
  show Calls Tryd.prog 31 #[.string x, .pointer (some p)] y _
  obtain ⟨r, hr⟩ : ∃ r, decide (x ∈ xs) = r := ⟨_, rfl⟩
  have HH := hid (has_any xs x A c y hC hc hn)
  rw [hr] at HH ⊢
  clear hC hr
  go_enter Tryd.func31, Tryd.ntmps31
  go_wp2_with fail
  refine HH.out.mono ?_
  rintro e w' ⟨rfl, hd⟩
  have HD := hid hd
  clear hd HH
  go_wp2_with fail
  go_ret
  exact ⟨rfl, HD.out.out⟩
theorem less1_gives (xs : List ByteArray) (x : ByteArray) (A : Option Addr) (c : Nat) (p : Addr) (y : World) (hcell : y.cell? p = some (.slice A xs.length c)) (hC : Kd.string.C y A xs.length xs) (hc : xs.length ≤ c) (hn : xs.length ≤ 1048576) :
    FnGives Tryd.prog 34 #[.pointer (some p)] #[.string x] (.bool (decide (x ∉ xs))) y := by
  show Calls Tryd.prog 34 #[.string x, .pointer (some p)] y _
  obtain ⟨r, hr⟩ : ∃ r, decide (x ∈ xs) = r := ⟨_, rfl⟩
  have hr2 : decide (x ∉ xs) = !r := by rw [← hr]; simp
  have HH := hid (has_any xs x A c y hC hc hn)
  rw [hr2]
  rw [hr] at HH
  clear hC hr hr2
  go_enter Tryd.func34, Tryd.ntmps34
  go_wp2_with fail
  refine HH.out.mono ?_
  rintro e w' ⟨rfl, hd⟩
  have HD := hid hd
  clear hd HH
  go_wp2_with fail
  go_ret
  exact ⟨rfl, HD.out.out⟩
theorem two_alloc (w : World) (c0 c1 : Value) (T0 T1 : TypeId) : Below w.heap.size w ((w.alloc (.cells #[c0] T0)).alloc (.cells #[c1] T1)) ∧ ((w.alloc (.cells #[c0] T0)).alloc (.cells #[c1] T1)).cell? ⟨w.heap.size, 0, none⟩ = some c0 ∧ ((w.alloc (.cells #[c0] T0)).alloc (.cells #[c1] T1)).cell? ⟨w.heap.size + 1, 0, none⟩ = some c1 := by
  have hb1 : Below w.heap.size w (w.alloc (.cells #[c0] T0)) := (Below.refl _ w).alloc (Nat.le_refl _) _
  have hs1 : (w.alloc (.cells #[c0] T0)).heap.size = w.heap.size + 1 := by simp
  have hcell : (w.alloc (.cells #[c0] T0)).cell? ⟨w.heap.size, 0, none⟩ = some c0 := by simp
  refine ⟨hb1.alloc hb1.size _, (((Below.refl (w.alloc (.cells #[c0] T0)).heap.size (w.alloc (.cells #[c0] T0))).alloc (Nat.le_refl _) _).cell (p := ⟨w.heap.size, 0, none⟩) (by show w.heap.size < _; omega)).trans hcell, ?_⟩
  rw [← hs1]
  simp
theorem list_post_up {xs : List ByteArray} {w w2 : World} {e : Ending} {w' : World} (hb : Below w.heap.size w w2) (h : ListPost xs w2 e w') : ListPost xs w e w' := by
  obtain ⟨v, he, ho, hb2⟩ := h
  exact ⟨v, he, ho.lower hb.size, below_then hb hb2⟩
set_option maxHeartbeats 2000000 in
set_option maxRecDepth 20000 in
theorem all_any (xa xb : List ByteArray) (va vb : Value) (w : World) (ha : InS w va xa) (hb : InS w vb xb) (hna : xa.length ≤ 100000) (hnb : xb.length ≤ 100000) :
    Calls Tryd.prog 16 #[va, vb] w (ListPost (allS xa xb) w) := by
  have HA := hid ha
  have HB := hid hb
  obtain ⟨A, ca, rfl, _, _⟩ := ha
  obtain ⟨B, cb, rfl, _, _⟩ := hb
  go_enter Tryd.func16, Tryd.ntmps16
  go_wp2_with fail
  have hbw : Below w.heap.size w (w.alloc (.cells #[.slice A xa.length ca, .slice B xb.length cb] 22)) := (Below.refl _ w).alloc (Nat.le_refl _) _
  have hc := set_any 33 #[] (enters_of Tryd.func33 (by kernel_rfl) rfl) (fun _ => true) [xa, xb] w.heap.size (w.alloc (.cells #[.slice A xa.length ca, .slice B xb.length cb] 22)) (by
    intro j l hj
    match j, hj with
    | 0, hj => cases hj; exact ⟨_, by simp, (HA.out.below hbw).weak⟩
    | 1, hj => cases hj; exact ⟨_, by simp, (HB.out.below hbw).weak⟩) (fun y _ l _ x _ => always_gives x y) (by simp) (by simp; omega)
  have he : ([xa, xb].flatten.filter fun _ => true) = xa ++ xb := by rw [List.filter_eq_self.2 (fun _ _ => rfl)]; simp
  rw [he] at hc
  refine hc.mono ?_
  intro e w' hq
  obtain ⟨v, rfl, ho, hb2⟩ := list_post_up hbw hq
  have HO := hid ho
  have HB2 := hid hb2
  clear ho hb2 hq hc
  go_wp2_with fail
  go_ret
  exact ⟨_, rfl, HO.out, HB2.out⟩
set_option maxHeartbeats 2000000 in
set_option maxRecDepth 20000 in
theorem both_any (xa xb : List ByteArray) (va vb : Value) (w : World) (ha : InS w va xa) (hb : InS w vb xb) (hna : xa.length ≤ 100000) (hnb : xb.length ≤ 100000) :
    Calls Tryd.prog 14 #[va, vb] w (ListPost (bothS xa xb) w) := by
  have HA := hid ha
  have HB := hid hb
  obtain ⟨A, ca, rfl, _, _⟩ := ha
  obtain ⟨B, cb, rfl, hcb, hCB⟩ := hb
  have HCB := hid hCB
  clear hCB
  go_enter Tryd.func14, Tryd.ntmps14
  go_wp2_with fail
  obtain ⟨hbw, hcell, hcell2⟩ := two_alloc w (.slice B xb.length cb) (.slice A xa.length ca) 22 22
  have hc := set_any 31 #[.pointer (some ⟨w.heap.size, 0, none⟩)] (enters_of Tryd.func31 (by kernel_rfl) rfl) (fun x => decide (x ∈ xb)) [xa] (w.heap.size + 1) ((w.alloc (.cells #[.slice B xb.length cb] 22)).alloc (.cells #[.slice A xa.length ca] 22)) (by
    intro j l hj
    match j, hj with
    | 0, hj => cases hj; exact ⟨_, hcell2, (HA.out.below hbw).weak⟩)
    (fun y hy l _ x _ => both1_gives xb x B cb _ y ((hy.cell (lt_of_cell hcell)).trans hcell) (Kd.C_below (Kd.C_below HCB.out hbw) hy) hcb (by omega)) (by simp) (by simp; omega)
  have he : ([xa].flatten.filter fun x => decide (x ∈ xb)) = xa.filter fun x => decide (x ∈ xb) := by simp
  rw [he] at hc
  refine hc.mono ?_
  intro e w' hq
  obtain ⟨v, rfl, ho, hb2⟩ := list_post_up hbw hq
  have HO := hid ho
  have HB2 := hid hb2
  clear ho hb2 hq hc hcell hcell2
  go_wp2_with fail
  go_ret
  exact ⟨_, rfl, HO.out, HB2.out⟩
set_option maxHeartbeats 2000000 in
set_option maxRecDepth 20000 in
theorem less_any (xa xb : List ByteArray) (va vb : Value) (w : World) (ha : InS w va xa) (hb : InS w vb xb) (hna : xa.length ≤ 100000) (hnb : xb.length ≤ 100000) :
    Calls Tryd.prog 18 #[va, vb] w (ListPost (lessS xa xb) w) := by
  have HA := hid ha
  have HB := hid hb
  obtain ⟨A, ca, rfl, _, _⟩ := ha
  obtain ⟨B, cb, rfl, hcb, hCB⟩ := hb
  have HCB := hid hCB
  clear hCB
  go_enter Tryd.func18, Tryd.ntmps18
  go_wp2_with fail
  obtain ⟨hbw, hcell, hcell2⟩ := two_alloc w (.slice B xb.length cb) (.slice A xa.length ca) 22 22
  have hc := set_any 34 #[.pointer (some ⟨w.heap.size, 0, none⟩)] (enters_of Tryd.func34 (by kernel_rfl) rfl) (fun x => decide (x ∉ xb)) [xa] (w.heap.size + 1) ((w.alloc (.cells #[.slice B xb.length cb] 22)).alloc (.cells #[.slice A xa.length ca] 22)) (by
    intro j l hj
    match j, hj with
    | 0, hj => cases hj; exact ⟨_, hcell2, (HA.out.below hbw).weak⟩)
    (fun y hy l _ x _ => less1_gives xb x B cb _ y ((hy.cell (lt_of_cell hcell)).trans hcell) (Kd.C_below (Kd.C_below HCB.out hbw) hy) hcb (by omega)) (by simp) (by simp; omega)
  have he : ([xa].flatten.filter fun x => decide (x ∉ xb)) = xa.filter fun x => decide (x ∉ xb) := by simp
  rw [he] at hc
  refine hc.mono ?_
  intro e w' hq
  obtain ⟨v, rfl, ho, hb2⟩ := list_post_up hbw hq
  have HO := hid ho
  have HB2 := hid hb2
  clear ho hb2 hq hc hcell hcell2
  go_wp2_with fail
  go_ret
  exact ⟨_, rfl, HO.out, HB2.out⟩
/-- An answer of yes or no; nothing that was there is written. -/
def BB (b : Bool) (w : World) (e : Ending) (w' : World) : Prop := e = .returned (.bool b) ∧ Below w.heap.size w w'
theorem within_any (xa xb : List ByteArray) (va vb : Value) (w : World) (ha : InS w va xa) (hb : InS w vb xb) (hna : xa.length ≤ 100000) (hnb : xb.length ≤ 100000) :
    Calls Tryd.prog 11 #[va, vb] w (BB (withinB xa xb) w) := by
  have HL := hid (less_any xa xb va vb w ha hb hna hnb)
  obtain ⟨r, hr⟩ : ∃ r, withinB xa xb = r := ⟨_, rfl⟩
  rw [hr]
  unfold withinB at hr
  obtain ⟨l, hl⟩ : ∃ l, lessS xa xb = l := ⟨_, rfl⟩
  rw [hl] at HL hr
  clear ha hb hl
  go_enter Tryd.func11, Tryd.ntmps11
  go_wp2_with fail
  refine HL.out.mono ?_
  rintro e w' ⟨v, rfl, ho, hb2⟩
  have HB2 := hid hb2
  obtain ⟨A, c, rfl, _, _⟩ := ho.reads
  have t0 : ((l.length : Int) == 0) = r := by rw [← hr]; simp [Bool.beq_eq_decide_eq]
  clear hb2 ho HL hr
  go_wp2_with fail
  go_ret
  exact ⟨by simp [t0], HB2.out⟩
end Go.Proofs.YtomkdnapnjkclaaDoor.Sco

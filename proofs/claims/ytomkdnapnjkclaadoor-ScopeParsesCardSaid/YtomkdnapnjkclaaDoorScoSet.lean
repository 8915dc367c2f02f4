/-
  Sort, Compact of a list of names of the call's own; scope.set by contract.
-/
import Derived.Test.YtomkdnapnjkclaaDoorScoWords
import Derived.Test.YtomkdnapnjkclaaDoorShelf
import Derived.Sort.OwnSorted
namespace Go.Proofs.YtomkdnapnjkclaaDoor.Sco
open Go.RowKit Go.Sort Go.Proofs.YtomkdnapnjkclaaDoor Go.Proofs.YtomkdnapnjkclaaDoor.PScopeSets Go.Proofs.YtomkdnapnjkclaaDoorW.PrintWords Go.Proofs.YtomkdnapnjkclaaDoorW.PrintLast Go.Proofs.YtomkdnapnjkclaaDoorW.PrintMore
set_option linter.unusedVariables false
set_option linter.unusedSimpArgs false
def bl (xs : List ByteArray) : List (List UInt8) := xs.map fun s => s.data.toList
def mk (ls : List (List UInt8)) : List ByteArray := ls.map fun l => ⟨l.toArray⟩
theorem encs_bl (xs : List ByteArray) : encs Value.string xs = (bl xs).map encStr := by
  unfold encs bl
  rw [List.map_map]
  apply List.map_congr_left
  intro s _
  show Value.string s = Value.string ⟨s.data.toList.toArray⟩
  rw [ba_eta]
theorem encs_mk (ls : List (List UInt8)) : encs Value.string (mk ls) = ls.map encStr := by
  unfold encs mk
  rw [List.map_map]
  rfl
theorem bl_mk (ls : List (List UInt8)) : bl (mk ls) = ls := by
  unfold bl mk
  rw [List.map_map]
  have : ((fun s : ByteArray => s.data.toList) ∘ fun l : List UInt8 => (⟨l.toArray⟩ : ByteArray)) = id := by funext l; simp
  rw [this, List.map_id]
theorem sort_own (w : World) (base : Nat) (v : Value) (xs : List ByteArray) (h : OwnS w base v xs) (hn : xs.length ≤ 1048576) :
    Calls Tryd.prog 42 #[v] w fun e w' => e = .returned (.tuple #[]) ∧ OwnS w' base v (mk ((bl xs).mergeSort fun x y => decide (x ≤ y))) ∧ w.grownBy w' v.ownBlock := by
  have ho := Kd.own_of_R h
  have hlb : (bl xs).length = xs.length := by unfold bl; rw [List.length_map]
  rcases ho.2 with ⟨rfl, e0⟩ | ⟨g, cap, cur, rfl, hg, hh, h1, h2, h3, h4⟩
  · refine (Tryd.slices_Sort_string_none none 0 w).mono ?_
    rintro e w' ⟨rfl, rfl⟩
    have e1 : xs = [] := List.eq_nil_of_length_eq_zero e0
    subst e1
    refine ⟨rfl, ?_, World.grownBy.refl _ _⟩
    rw [show (bl []).mergeSort (fun x y => decide (x ≤ y)) = [] by simp [bl]]
    exact h
  · rw [encs_bl] at h4
    have hH : Holds encStr w g 0 (bl xs).toArray := holds_of_block hh (by rw [hlb]; simpa using h4)
    have hlt : g < w.heap.size := (Array.getElem?_eq_some_iff.1 hh).1
    have hc := Tryd.slices_Sort_string g 0 cap (bl xs) w hH hlt (by omega)
    rw [hlb] at hc
    refine hc.mono ?_
    rintro e w' ⟨rfl, n, os, rfl⟩
    refine ⟨rfl, Kd.R_of_own ?_ (fun _ _ => trivial), grownBy_sorted _⟩
    rw [encs_mk, show (mk ((bl xs).mergeSort fun x y => decide (x ≤ y))).length = xs.length by unfold mk; rw [List.length_map, List.length_mergeSort, hlb]]
    have := ownsRow_sorted (n := n) (os := os) (ss := bl xs) (ts := (bl xs).mergeSort fun x y => decide (x ≤ y)) (by rw [List.length_mergeSort]) hg hh (by omega) h2 h3
    rw [hlb] at this
    exact this
theorem comp_len (zs : List (List UInt8)) : (Lib.compact zs).length ≤ zs.length := by
  unfold Lib.compact Lib.compactUpTo
  rw [List.length_map]
  refine Nat.le_trans (List.length_filter_le _ _) ?_
  rw [List.length_range]
  exact Nat.le_refl _
theorem compact_own (w : World) (base : Nat) (v : Value) (xs : List ByteArray) (h : OwnS w base v xs) (hn : xs.length ≤ 1048576) :
    Calls Tryd.prog 43 #[v] w fun e w' => ∃ v', e = .returned v' ∧ OwnS w' base v' (mk (Lib.compact (bl xs))) ∧ w.grownBy w' v.ownBlock := by
  have ho := Kd.own_of_R h
  have hlb : (bl xs).length = xs.length := by unfold bl; rw [List.length_map]
  have hcl := comp_len (bl xs)
  rcases ho.2 with ⟨rfl, e0⟩ | ⟨g, cap, cur, rfl, hg, hh, h1, h2, h3, h4⟩
  · refine (Tryd.slices_Compact_string_empty none 0 w).mono ?_
    rintro e w' ⟨rfl, rfl⟩
    have e1 : xs = [] := List.eq_nil_of_length_eq_zero e0
    subst e1
    exact ⟨_, rfl, h, World.grownBy.refl _ _⟩
  · rw [encs_bl] at h4
    have hH : Holds encStr w g 0 (bl xs).toArray := holds_of_block hh (by rw [hlb]; simpa using h4)
    have hc := Tryd.slices_Compact_string g 0 cap (bl xs) w hH (by omega) (by omega)
    rw [hlb] at hc
    refine hc.mono ?_
    rintro e w' ⟨rfl, q, rfl⟩
    have hb := grownBy_sorted (w := w) (g := g) (n := q) (os := #[]) (Lib.compact (bl xs) ++ List.replicate (xs.length - (Lib.compact (bl xs)).length) []).toArray
    rw [grow_empty] at hb
    refine ⟨_, rfl, Kd.R_of_own ?_ (fun _ _ => trivial), hb⟩
    have hml : (mk (Lib.compact (bl xs))).length = (Lib.compact (bl xs)).length := by unfold mk; rw [List.length_map]
    rw [encs_mk, hml]
    have hs := heap_sorted (n := q) (os := #[]) (Lib.compact (bl xs) ++ List.replicate (xs.length - (Lib.compact (bl xs)).length) []).toArray hh
    rw [grow_empty] at hs
    refine ⟨by simp, .inr ⟨g, cap, _, rfl, hg, hs, by omega, h2, by simp [putCells, h3], ?_⟩⟩
    have ht := take_putCells cur (Lib.compact (bl xs) ++ List.replicate (xs.length - (Lib.compact (bl xs)).length) []) (by rw [List.length_append, List.length_replicate]; omega)
    rw [Nat.mul_one]
    have e2 : ∀ (l : List Value) (a b : Nat), a ≤ b → l.take a = (l.take b).take a := fun l a b h => by rw [List.take_take, Nat.min_eq_left h]
    rw [e2 _ _ (Lib.compact (bl xs) ++ List.replicate (xs.length - (Lib.compact (bl xs)).length) []).length (by rw [List.length_append]; omega), ht, List.map_append]
    rw [List.take_append_of_le_length (by rw [List.length_map]; exact Nat.le_refl _), List.take_of_length_le (by rw [List.length_map]; exact Nat.le_refl _)]
/-- A list of names that is read; of its capacity nothing is said. -/
def InW (w : World) (v : Value) (xs : List ByteArray) : Prop := ∃ A c, v = .slice A xs.length c ∧ Kd.string.C w A xs.length xs
theorem InS.weak {w : World} {v : Value} {xs : List ByteArray} (h : InS w v xs) : InW w v xs := by
  obtain ⟨A, c, e, _, h2⟩ := h
  exact ⟨A, c, e, h2⟩
theorem InW.below {w w' : World} {v : Value} {xs : List ByteArray} (h : InW w v xs) (hb : Below w.heap.size w w') : InW w' v xs := by
  obtain ⟨A, c, rfl, h2⟩ := h
  exact ⟨A, c, rfl, Kd.C_below h2 hb⟩
/-- The lists that are handed over. -/
def InL (w : World) (b : Nat) (ls : List (List ByteArray)) : Prop := ∀ (j : Nat) (l : List ByteArray), ls[j]? = some l → ∃ v, w.cell? ⟨b, j, none⟩ = some v ∧ InW w v l
theorem InL.below {w w' : World} {b : Nat} {ls : List (List ByteArray)} (h : InL w b ls) (hb : Below w.heap.size w w') : InL w' b ls := fun j l hj => by
  obtain ⟨v, h1, h2⟩ := h j l hj
  exact ⟨v, (hb.cell (lt_of_cell h1)).trans h1, h2.below hb⟩
/-- What answers a list of the call's own. -/
def ListPost (xs : List ByteArray) (w : World) (e : Ending) (w' : World) : Prop := ∃ v, e = .returned v ∧ OwnS w' w.heap.size v xs ∧ Below w.heap.size w w'
def SetRel (p : ByteArray → Bool) (ls : List (List ByteArray)) (w : World) (vo vj : Value) (wr : World) : Prop :=
  ∃ j, j ≤ ls.length ∧ vj = .int .i64 (j : Nat) ∧ OwnS wr w.heap.size vo ((ls.take j).flatten.filter p) ∧ Below w.heap.size w wr
def InnRel (p : ByteArray → Bool) (acc l : List ByteArray) (w : World) (vo vi : Value) (wr : World) : Prop :=
  ∃ i, i ≤ l.length ∧ vi = .int .i64 (i : Nat) ∧ OwnS wr w.heap.size vo (acc ++ (l.take i).filter p) ∧ Below w.heap.size w wr
set_option maxHeartbeats 8000000 in
set_option maxRecDepth 20000 in
theorem set_any (g : Nat) (lb : Array Value) (eg : ∀ args w, (callFunc g args).run Tryd.prog w = .ok (.enter g args) w) (p : ByteArray → Bool) (ls : List (List ByteArray)) (b : Nat) (w : World) (hL : InL w b ls) (hp : ∀ y, Below w.heap.size w y → ∀ l ∈ ls, ∀ x ∈ l, FnGives Tryd.prog g lb #[.string x] (.bool (p x)) y)
    (hn : ls.length ≤ 1048576) (hf : ls.flatten.length ≤ 1048576) :
    Calls Tryd.prog 30 #[.func (.func g) #[] lb, .slice (some ⟨b, 0, none⟩) ls.length ls.length] w (ListPost (setS (ls.flatten.filter p)) w) := by
  have HL := hid hL
  have HP := hid hp
  clear hL hp
  go_enter Tryd.func30, Tryd.ntmps30
  go_wp2_with fail
  go_loopw [5, 12] (fun vo vj wr => SetRel p ls w vo vj wr) (fun _ vj _ => ls.length - (intOf vj).toNat)
  case atStart => exact ⟨0, Nat.zero_le _, rfl, OwnS.nil _ _, Below.refl _ _⟩
  case round =>
    obtain ⟨j, hj, rfl, ho, hb⟩ := hrel
    have HO := hid ho
    have HB := hid hb
    clear ho hb
    by_cases hlt : j < ls.length
    · have t0 : decide ((j : Int) < (ls.length : Int)) = true := decide_eq_true (by omega)
      obtain ⟨l, hl⟩ : ∃ l, ls[j]? = some l := ⟨ls[j], by simp⟩
      obtain ⟨v, hcv, hin⟩ := (HL.out.below HB.out) j l hl
      obtain ⟨A, c, rfl, hC⟩ := hin
      have hadd : ((⟨b, 0, none⟩ : Addr).add j) = ⟨b, j, none⟩ := by rw [Addr.add_lit, Nat.zero_add]
      have hcv0 := hcv
      have q0 : (0 : Int) ≤ (j : Int) := by omega
      have q1 : (j : Int) < (ls.length : Int) := by omega
      have HC := hid hC
      have HLJ := hid hl
      have hflat : (ls.take (j + 1)).flatten.filter p = (ls.take j).flatten.filter p ++ l.filter p := by
        rw [List.take_add_one, hl]; simp
      have hlen1 : (ls.take j).flatten.length + l.length ≤ 1048576 := by
        have h1 : (ls.take j).flatten.length + l.length = (ls.take (j + 1)).flatten.length := by rw [List.take_add_one, hl]; simp
        have h2 : (ls.take (j + 1)).flatten.length ≤ ls.flatten.length := by
          have : ls.flatten = (ls.take (j + 1)).flatten ++ (ls.drop (j + 1)).flatten := by rw [← List.flatten_append, List.take_append_drop]
          rw [this, List.length_append]; omega
        omega
      have hacc := List.length_filter_le p (ls.take j).flatten
      obtain ⟨acc, hacc2⟩ : ∃ acc, (ls.take j).flatten.filter p = acc := ⟨_, rfl⟩
      rw [hacc2] at HO hflat hacc
      have HFL := hid hflat
      clear hflat hC hl hacc2
      go_wp2_with fail
      go_loopw [5, 18] (fun vo vi wq => InnRel p acc l w vo vi wq) (fun _ vi _ => l.length - (intOf vi).toNat)
      case atStart => exact ⟨0, Nat.zero_le _, rfl, by rw [List.take_zero, List.filter_nil, List.append_nil]; exact HO.out, HB.out⟩
      case round =>
        obtain ⟨i, hi, rfl, ho, hbq⟩ := hrel
        have HOQ := hid ho
        have HBQ := hid hbq
        clear ho hbq
        by_cases hli : i < l.length
        · have t1 : decide ((i : Int) < (l.length : Int)) = true := decide_eq_true (by omega)
          obtain ⟨x, hx⟩ : ∃ x, l[i]? = some x := ⟨l[i], by simp⟩
          have p0 : (0 : Int) ≤ (i : Int) := by omega
          have p1 : (i : Int) < (l.length : Int) := by omega
          have hCq : Kd.string.C wr A l.length l := by
            obtain ⟨v2, hcv2, A2, c2, hv2, hC2⟩ := (HL.out.below HBQ.out) j l HLJ.out
            have h9 := (HBQ.out.cell (p := ⟨b, j, none⟩) (by
              obtain ⟨v3, h3, _⟩ := HL.out j l HLJ.out
              exact lt_of_cell h3)).symm.trans hcv2
            have h8 := (HB.out.cell (p := ⟨b, j, none⟩) (by
              obtain ⟨v3, h3, _⟩ := HL.out j l HLJ.out
              exact lt_of_cell h3)).symm.trans hcv0
            rw [h8] at h9
            rw [Option.some.inj h9.symm] at hv2
            cases hv2
            exact hC2
          obtain ⟨ad, rfl, hcx⟩ := at_S hCq i hli x hx
          have HF := hid (HP.out wr HBQ.out l (List.mem_of_getElem? HLJ.out) x (List.mem_of_getElem? hx))
          have htk : (l.take (i + 1)).filter p = (l.take i).filter p ++ (if p x = true then [x] else []) := by
            rw [List.take_add_one, hx]
            simp [List.filter_cons]
          have HTK := hid htk
          clear hCq hx htk
          cases hpx : p x with
          | true =>
            rw [hpx] at HF HTK
            go_wp2_with fail
            go_at_fn g
            refine HF.out.mono ?_
            rintro e w' ⟨rfl, q, rfl⟩
            have HO3 := hid (HOQ.out.below (below_drewN' (Below.refl _ wr) q))
            have HB3 := hid (below_drewN' HBQ.out q)
            obtain ⟨w3, hw3⟩ : ∃ w3, wr.drewN q = w3 := ⟨_, rfl⟩
            rw [hw3] at HO3 HB3 ⊢
            have hlen2 : (acc ++ (l.take i).filter p).length ≤ 1048576 := by
              have h1 := List.length_filter_le p (l.take i)
              rw [List.length_take] at h1
              rw [List.length_append]; omega
            have hs3 := HB3.out.size
            obtain ⟨ys, hys⟩ : ∃ ys, acc ++ (l.take i).filter p = ys := ⟨_, rfl⟩
            rw [hys] at HO3 hlen2
            have HYS := hid hys
            obtain ⟨Aq, cq, rfl, hcq⟩ := HO3.out.reads
            clear hw3 hys hcq
            go_wp2_with (at_builtin; refine wpList_append_s rfl (.tmp 25) (.tmp 27) rfl w.heap.size ys x (.slice Aq ys.length cq) w3.heap.size rfl rfl (HO3.out.below ((Below.refl _ w3).alloc (Nat.le_refl _) _)) (by simp) hlen2 (by simp; omega) ?_; intro v' w4 ho hg hb; have HO4 := hid ho; have HG4 := hid hg; clear ho hg hb)
            have hbl : Below w.heap.size w w4 := (HB3.out.alloc hs3 _).trans (grown_low (HO3.out.below ((Below.refl _ w3).alloc (Nat.le_refl _) _)) HG4.out (Nat.le_refl _) (by simp; omega))
            refine ⟨⟨i + 1, by omega, by congr 1, by rw [HTK.out, if_pos trivial, ← List.append_assoc, HYS.out]; exact HO4.out, hbl⟩, by simp [intOf] <;> omega⟩
          | false =>
            rw [hpx] at HF HTK
            go_wp2_with fail
            go_at_fn g
            refine HF.out.mono ?_
            rintro e w' ⟨rfl, q, rfl⟩
            go_wp2_with fail
            refine ⟨⟨i + 1, by omega, by congr 1, by rw [HTK.out]; simpa using HOQ.out.below (below_drewN' (Below.refl _ wr) q), below_drewN' HBQ.out q⟩, by simp [intOf] <;> omega⟩
        · obtain rfl : i = l.length := by omega
          have t1 : decide ((l.length : Int) < (l.length : Int)) = false := decide_eq_false (by omega)
          go_wp2_with fail
          refine ⟨⟨j + 1, by omega, by congr 1, by rw [HFL.out]; simpa using HOQ.out, HBQ.out⟩, by simp [intOf] <;> omega⟩
    · obtain rfl : j = ls.length := by omega
      have t0 : decide ((ls.length : Int) < (ls.length : Int)) = false := decide_eq_false (by omega)
      rw [List.take_length] at HO
      have hfl := List.length_filter_le p ls.flatten
      obtain ⟨xs, hxs⟩ : ∃ xs, ls.flatten.filter p = xs := ⟨_, rfl⟩
      rw [hxs] at HO hfl
      have hs1 := HB.out.size
      go_wp2_with fail
      refine (sort_own _ _ _ xs HO.out (by omega)).mono ?_
      rintro e w2 ⟨rfl, ho2, hg2⟩
      have HO2 := hid ho2
      have HB2 := hid (HB.out.trans (grown_low HO.out hg2 (Nat.le_refl _) hs1))
      clear ho2 hg2
      have hlm : (mk ((bl xs).mergeSort fun x y => decide (x ≤ y))).length ≤ 1048576 := by unfold mk bl; rw [List.length_map, List.length_mergeSort, List.length_map]; omega
      go_wp2_with fail
      refine (compact_own _ _ _ _ HO2.out hlm).mono ?_
      rintro e w3 ⟨v3, rfl, ho3, hg3⟩
      have hs2 := HB2.out.size
      have HB3 := hid (HB2.out.trans (grown_low HO2.out hg3 (Nat.le_refl _) hs2))
      have hset : mk (Lib.compact (bl (mk ((bl xs).mergeSort fun x y => decide (x ≤ y))))) = setS xs := by rw [bl_mk]; exact comp_set xs
      rw [hset, ← hxs] at ho3
      have HO3 := hid ho3
      clear ho3 hg3 hset
      go_wp2_with fail
      go_ret
      exact ⟨_, rfl, HO3.out, HB3.out⟩
end Go.Proofs.YtomkdnapnjkclaaDoor.Sco

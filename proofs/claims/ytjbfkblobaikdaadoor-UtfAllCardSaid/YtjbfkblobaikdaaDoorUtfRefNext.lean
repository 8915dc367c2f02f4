/-
  The document's Next by contract: the program's answer.
-/
import Derived.Test.YtjbfkblobaikdaaDoorUtfRefPut
import Derived.Deep.RegionWith
namespace Go.Proofs.YtjbfkblobaikdaaDoor
open Go.RowKit
set_option linter.unusedVariables false

/-- What the document's Next comes to. -/
def RNextPost (l : List UInt8) (w : World) (e : Ending) (w' : World) : Prop := e = .returned (.tuple #[.int .i64 (nextS l).1, .int .i64 (nextS l).2]) ∧ Below w.heap.size w w'
theorem RNextPost.mk {l : List UInt8} {w w' : World} {x n : Int} (h : nextS l = (x, n)) (hb : Below w.heap.size w w') : RNextPost l w (.returned (.tuple #[.int .i64 x, .int .i64 n])) w' := ⟨by rw [h], hb⟩
def RNRel (l : List UInt8) (w : World) (v : Value) (wr : World) : Prop := ∃ k : Nat, 1 ≤ k ∧ k ≤ 5 ∧ v = .int .i64 k ∧ tryS l k = nextS l ∧ Below w.heap.size w wr
theorem try_step (l : List UInt8) (k : Nat) (hk : k ≤ 4) (hl : k ≤ l.length) : tryS l k = if putS (valS l k) = l.take k then (((valS l k : Nat) : Int), (k : Int)) else tryS l (k + 1) := by
  rw [tryS, if_pos ⟨hk, hl⟩]
theorem try_end (l : List UInt8) (k : Nat) (h : ¬ (k ≤ 4 ∧ k ≤ l.length)) : tryS l k = (-1, 1) := by rw [tryS, if_neg h]
theorem extract_upto (s : ByteArray) (k : Nat) : (s.extract 0 k).toList = s.data.toList.take k := by
  rw [str_toList, Lib.extract_data]; simp
theorem get_of (l : List UInt8) (i : Nat) (h : i < l.length) : l = l.take i ++ l.getD i 0 :: l.drop (i + 1) := by
  rw [List.getD_eq_getElem?_getD, List.getElem?_eq_getElem h]
  simp

theorem val_1 (s : ByteArray) (c0 : UInt8) (hs : 1 ≤ s.size) (g0 : s.data.toList.getD 0 0 = c0) : valS s.data.toList 1 = c0.toNat := by
  have hl : s.data.toList.length = s.size := str_len s
  match hm : s.data.toList, hl with
  | [], hl => simp at hl; omega
  | x0 :: r, _ =>
    rw [hm] at g0
    simp only [List.getD_cons_zero] at g0
    subst g0
    rfl

theorem val_2 (s : ByteArray) (c0 c1 : UInt8) (hs : 2 ≤ s.size) (g0 : s.data.toList.getD 0 0 = c0) (g1 : s.data.toList.getD 1 0 = c1) : valS s.data.toList 2 = (c0.toNat % 32) * 64 + c1.toNat % 64 := by
  have hl : s.data.toList.length = s.size := str_len s
  match hm : s.data.toList, hl with
  | [], hl => simp at hl; omega
  | [x0], hl => simp at hl; omega
  | x0 :: x1 :: r, _ =>
    rw [hm] at g0 g1
    simp only [List.getD_cons_zero, List.getD_cons_succ] at g0 g1
    subst g0; subst g1
    rfl

theorem val_3 (s : ByteArray) (c0 c1 c2 : UInt8) (hs : 3 ≤ s.size) (g0 : s.data.toList.getD 0 0 = c0) (g1 : s.data.toList.getD 1 0 = c1) (g2 : s.data.toList.getD 2 0 = c2) : valS s.data.toList 3 = ((c0.toNat % 16) * 64 + c1.toNat % 64) * 64 + c2.toNat % 64 := by
  have hl : s.data.toList.length = s.size := str_len s
  match hm : s.data.toList, hl with
  | [], hl => simp at hl; omega
  | [x0], hl => simp at hl; omega
  | [x0, x1], hl => simp at hl; omega
  | x0 :: x1 :: x2 :: r, _ =>
    rw [hm] at g0 g1 g2
    simp only [List.getD_cons_zero, List.getD_cons_succ] at g0 g1 g2
    subst g0; subst g1; subst g2
    rfl

theorem val_4 (s : ByteArray) (c0 c1 c2 c3 : UInt8) (hs : 4 ≤ s.size) (g0 : s.data.toList.getD 0 0 = c0) (g1 : s.data.toList.getD 1 0 = c1) (g2 : s.data.toList.getD 2 0 = c2) (g3 : s.data.toList.getD 3 0 = c3) : valS s.data.toList 4 = (((c0.toNat % 8) * 64 + c1.toNat % 64) * 64 + c2.toNat % 64) * 64 + c3.toNat % 64 := by
  have hl : s.data.toList.length = s.size := str_len s
  match hm : s.data.toList, hl with
  | [], hl => simp at hl; omega
  | [x0], hl => simp at hl; omega
  | [x0, x1], hl => simp at hl; omega
  | [x0, x1, x2], hl => simp at hl; omega
  | x0 :: x1 :: x2 :: x3 :: r, _ =>
    rw [hm] at g0 g1 g2 g3
    simp only [List.getD_cons_zero, List.getD_cons_succ] at g0 g1 g2 g3
    subst g0; subst g1; subst g2; subst g3
    rfl

set_option maxRecDepth 100000 in
set_option maxHeartbeats 8000000 in
theorem rnext_any (s : ByteArray) (w : World) (hs : s.size ≤ 1048576) : Calls Tryd.prog 13 #[.string s] w (RNextPost s.data.toList w) := by
  have hlen := str_len s
  have HLEN := hid hlen
  by_cases h0 : s.size = 0
  · have h1 : ((s.size : Int) == 0) = true := int_beq_true (by omega)
    have HF : Hid (nextS s.data.toList = (-1, 0)) := by
      have : s.data.toList = [] := List.eq_nil_of_length_eq_zero (by omega)
      rw [this]; rfl
    clear hlen
    go_enter Tryd.func13, Tryd.ntmps13
    go_wp2_with fail
    go_ret2
    exact RNextPost.mk HF.out (Below.refl _ _)
  · have h1 : ((s.size : Int) == 0) = false := int_beq_false (by omega)
    have htry := try_next s.data.toList
    rw [if_neg (by omega)] at htry
    have HTRY := hid htry
    have h0p : 0 < s.size := by omega
    clear hlen htry h0
    go_enter Tryd.func13, Tryd.ntmps13
    go_wp2_with fail
    go_loopw [4] (fun v wr => RNRel s.data.toList w v wr) (fun v _ => 5 - (intOf v).toNat)
    case atStart => exact ⟨1, by omega, by omega, rfl, HTRY.out, Below.refl _ _⟩
    case round =>
      obtain ⟨k, hk1, hk5, rfl, ht, hb⟩ := hrel
      have HB := hid hb
      have HT := hid ht
      clear hb ht
      by_cases hk : k ≤ 4 ∧ k ≤ s.size
      · have hstep := try_step s.data.toList k hk.1 (by rw [HLEN.out]; exact hk.2)
        have HSTEP := hid hstep
        clear hstep
        obtain ⟨k4, ks⟩ := hk
        have hcase : k = 1 ∨ k = 2 ∨ k = 3 ∨ k = 4 := by omega
        rcases hcase with rfl | rfl | rfl | rfl
        · have hle : decide ((1 : Int) ≤ (s.size : Int)) = true := decide_eq_true (by omega)
          have p0 : 0 < s.size := by omega
          have e0 := str_get s 0 p0
          obtain ⟨c0, g0⟩ : ∃ c, s.data.toList.getD 0 0 = c := ⟨_, rfl⟩
          rw [g0] at e0
          have b0 : c0.toNat < 256 := c0.toNat_lt
          have hv := val_1 s c0 ks g0
          have HV := hid hv
          clear hv g0
          obtain ⟨bb, hbb⟩ : ∃ bb, (putS ((c0.toNat : Int)) == (s.extract 0 1).toList) = bb := ⟨_, rfl⟩
          have hbd0 : (bb = decide (putS (valS s.data.toList 1) = s.data.toList.take 1)) := by
            rw [← hbb, extract_upto, Bool.eq_iff_iff, beq_iff_eq, decide_eq_true_eq, HV.out]
          have hbd := hid hbd0
          clear hbd0
          cases bb with
          | true =>
            go_wp2_with fail
            refine wp_loop_rounds 1 ?_
            rw [rounds_succ]
            go_wp2_with fail
            go_region_with (go_at_call 15; refine (rput_any _ _).mono ?_; intro e w1 hp; obtain ⟨rfl, hb2⟩ := hp; have HB2 := hid hb2; clear hb2)
            all_goals
              go_wp2_with fail
              go_ret2
              have hx : nextS s.data.toList = ((c0.toNat : Int), 1) := by
                rw [← HT.out, HSTEP.out, if_pos (of_decide_eq_true hbd.out.symm), HV.out]
                exact congrArg (fun x : Int => (x, (1 : Int))) (by omega)
              exact RNextPost.mk hx (HB.out.drew.trans (HB2.out.mono (by have := HB.out.size; exact this)))
          | false =>
            go_wp2_with fail
            refine wp_loop_rounds 1 ?_
            rw [rounds_succ]
            go_wp2_with fail
            go_region_with (go_at_call 15; refine (rput_any _ _).mono ?_; intro e w1 hp; obtain ⟨rfl, hb2⟩ := hp; have HB2 := hid hb2; clear hb2)
            all_goals
              go_wp2_with fail
              refine ⟨⟨2, by omega, by omega, rfl, ?_, (HB.out.drew.trans (HB2.out.mono (by have := HB.out.size; exact this)))⟩, by simp [intOf]⟩
              rw [← HT.out, HSTEP.out, if_neg (of_decide_eq_false hbd.out.symm)]
        · have hle : decide ((2 : Int) ≤ (s.size : Int)) = true := decide_eq_true (by omega)
          have p0 : 0 < s.size := by omega
          have e0 := str_get s 0 p0
          obtain ⟨c0, g0⟩ : ∃ c, s.data.toList.getD 0 0 = c := ⟨_, rfl⟩
          rw [g0] at e0
          have b0 : c0.toNat < 256 := c0.toNat_lt
          have p1 : 1 < s.size := by omega
          have e1 := str_get s 1 p1
          obtain ⟨c1, g1⟩ : ∃ c, s.data.toList.getD 1 0 = c := ⟨_, rfl⟩
          rw [g1] at e1
          have b1 : c1.toNat < 256 := c1.toNat_lt
          have hv := val_2 s c0 c1 ks g0 g1
          have HV := hid hv
          clear hv g0 g1
          obtain ⟨bb, hbb⟩ : ∃ bb, (putS (((c0.toNat : Int) % 32) * 64 + (c1.toNat : Int) % 64) == (s.extract 0 2).toList) = bb := ⟨_, rfl⟩
          have hbd0 : (bb = decide (putS (valS s.data.toList 2) = s.data.toList.take 2)) := by
            rw [← hbb, extract_upto, Bool.eq_iff_iff, beq_iff_eq, decide_eq_true_eq, HV.out]
            have : (((((c0.toNat % 32) * 64 + c1.toNat % 64 : Nat)) : Int)) = ((c0.toNat : Int) % 32) * 64 + (c1.toNat : Int) % 64 := by omega
            rw [this]
          have hbd := hid hbd0
          clear hbd0
          cases bb with
          | true =>
            go_wp2_with fail
            refine wp_loop_rounds 2 ?_
            rw [rounds_succ]
            go_wp2_with fail
            rw [rounds_succ]
            go_wp2_with fail
            go_region_with (go_at_call 15; refine (rput_any _ _).mono ?_; intro e w1 hp; obtain ⟨rfl, hb2⟩ := hp; have HB2 := hid hb2; clear hb2)
            all_goals
              go_wp2_with fail
              go_ret2
              have hx : nextS s.data.toList = (((c0.toNat : Int) % 32) * 64 + (c1.toNat : Int) % 64, 2) := by
                rw [← HT.out, HSTEP.out, if_pos (of_decide_eq_true hbd.out.symm), HV.out]
                exact congrArg (fun x : Int => (x, (2 : Int))) (by omega)
              exact RNextPost.mk hx (HB.out.drew.trans (HB2.out.mono (by have := HB.out.size; exact this)))
          | false =>
            go_wp2_with fail
            refine wp_loop_rounds 2 ?_
            rw [rounds_succ]
            go_wp2_with fail
            rw [rounds_succ]
            go_wp2_with fail
            go_region_with (go_at_call 15; refine (rput_any _ _).mono ?_; intro e w1 hp; obtain ⟨rfl, hb2⟩ := hp; have HB2 := hid hb2; clear hb2)
            all_goals
              go_wp2_with fail
              refine ⟨⟨3, by omega, by omega, rfl, ?_, (HB.out.drew.trans (HB2.out.mono (by have := HB.out.size; exact this)))⟩, by simp [intOf]⟩
              rw [← HT.out, HSTEP.out, if_neg (of_decide_eq_false hbd.out.symm)]
        · have hle : decide ((3 : Int) ≤ (s.size : Int)) = true := decide_eq_true (by omega)
          have p0 : 0 < s.size := by omega
          have e0 := str_get s 0 p0
          obtain ⟨c0, g0⟩ : ∃ c, s.data.toList.getD 0 0 = c := ⟨_, rfl⟩
          rw [g0] at e0
          have b0 : c0.toNat < 256 := c0.toNat_lt
          have p1 : 1 < s.size := by omega
          have e1 := str_get s 1 p1
          obtain ⟨c1, g1⟩ : ∃ c, s.data.toList.getD 1 0 = c := ⟨_, rfl⟩
          rw [g1] at e1
          have b1 : c1.toNat < 256 := c1.toNat_lt
          have p2 : 2 < s.size := by omega
          have e2 := str_get s 2 p2
          obtain ⟨c2, g2⟩ : ∃ c, s.data.toList.getD 2 0 = c := ⟨_, rfl⟩
          rw [g2] at e2
          have b2 : c2.toNat < 256 := c2.toNat_lt
          have hv := val_3 s c0 c1 c2 ks g0 g1 g2
          have HV := hid hv
          clear hv g0 g1 g2
          obtain ⟨bb, hbb⟩ : ∃ bb, (putS ((((c0.toNat : Int) % 16) * 64 + (c1.toNat : Int) % 64) * 64 + (c2.toNat : Int) % 64) == (s.extract 0 3).toList) = bb := ⟨_, rfl⟩
          have hbd0 : (bb = decide (putS (valS s.data.toList 3) = s.data.toList.take 3)) := by
            rw [← hbb, extract_upto, Bool.eq_iff_iff, beq_iff_eq, decide_eq_true_eq, HV.out]
            have : ((((((c0.toNat % 16) * 64 + c1.toNat % 64) * 64 + c2.toNat % 64 : Nat)) : Int)) = (((c0.toNat : Int) % 16) * 64 + (c1.toNat : Int) % 64) * 64 + (c2.toNat : Int) % 64 := by omega
            rw [this]
          have hbd := hid hbd0
          clear hbd0
          cases bb with
          | true =>
            go_wp2_with fail
            refine wp_loop_rounds 3 ?_
            rw [rounds_succ]
            go_wp2_with fail
            rw [rounds_succ]
            go_wp2_with fail
            rw [rounds_succ]
            go_wp2_with fail
            go_region_with (go_at_call 15; refine (rput_any _ _).mono ?_; intro e w1 hp; obtain ⟨rfl, hb2⟩ := hp; have HB2 := hid hb2; clear hb2)
            all_goals
              go_wp2_with fail
              go_ret2
              have hx : nextS s.data.toList = ((((c0.toNat : Int) % 16) * 64 + (c1.toNat : Int) % 64) * 64 + (c2.toNat : Int) % 64, 3) := by
                rw [← HT.out, HSTEP.out, if_pos (of_decide_eq_true hbd.out.symm), HV.out]
                exact congrArg (fun x : Int => (x, (3 : Int))) (by omega)
              exact RNextPost.mk hx (HB.out.drew.trans (HB2.out.mono (by have := HB.out.size; exact this)))
          | false =>
            go_wp2_with fail
            refine wp_loop_rounds 3 ?_
            rw [rounds_succ]
            go_wp2_with fail
            rw [rounds_succ]
            go_wp2_with fail
            rw [rounds_succ]
            go_wp2_with fail
            go_region_with (go_at_call 15; refine (rput_any _ _).mono ?_; intro e w1 hp; obtain ⟨rfl, hb2⟩ := hp; have HB2 := hid hb2; clear hb2)
            all_goals
              go_wp2_with fail
              refine ⟨⟨4, by omega, by omega, rfl, ?_, (HB.out.drew.trans (HB2.out.mono (by have := HB.out.size; exact this)))⟩, by simp [intOf]⟩
              rw [← HT.out, HSTEP.out, if_neg (of_decide_eq_false hbd.out.symm)]
        · have hle : decide ((4 : Int) ≤ (s.size : Int)) = true := decide_eq_true (by omega)
          have p0 : 0 < s.size := by omega
          have e0 := str_get s 0 p0
          obtain ⟨c0, g0⟩ : ∃ c, s.data.toList.getD 0 0 = c := ⟨_, rfl⟩
          rw [g0] at e0
          have b0 : c0.toNat < 256 := c0.toNat_lt
          have p1 : 1 < s.size := by omega
          have e1 := str_get s 1 p1
          obtain ⟨c1, g1⟩ : ∃ c, s.data.toList.getD 1 0 = c := ⟨_, rfl⟩
          rw [g1] at e1
          have b1 : c1.toNat < 256 := c1.toNat_lt
          have p2 : 2 < s.size := by omega
          have e2 := str_get s 2 p2
          obtain ⟨c2, g2⟩ : ∃ c, s.data.toList.getD 2 0 = c := ⟨_, rfl⟩
          rw [g2] at e2
          have b2 : c2.toNat < 256 := c2.toNat_lt
          have p3 : 3 < s.size := by omega
          have e3 := str_get s 3 p3
          obtain ⟨c3, g3⟩ : ∃ c, s.data.toList.getD 3 0 = c := ⟨_, rfl⟩
          rw [g3] at e3
          have b3 : c3.toNat < 256 := c3.toNat_lt
          have hv := val_4 s c0 c1 c2 c3 ks g0 g1 g2 g3
          have HV := hid hv
          clear hv g0 g1 g2 g3
          obtain ⟨bb, hbb⟩ : ∃ bb, (putS (((((c0.toNat : Int) % 8) * 64 + (c1.toNat : Int) % 64) * 64 + (c2.toNat : Int) % 64) * 64 + (c3.toNat : Int) % 64) == (s.extract 0 4).toList) = bb := ⟨_, rfl⟩
          have hbd0 : (bb = decide (putS (valS s.data.toList 4) = s.data.toList.take 4)) := by
            rw [← hbb, extract_upto, Bool.eq_iff_iff, beq_iff_eq, decide_eq_true_eq, HV.out]
            have : (((((((c0.toNat % 8) * 64 + c1.toNat % 64) * 64 + c2.toNat % 64) * 64 + c3.toNat % 64 : Nat)) : Int)) = ((((c0.toNat : Int) % 8) * 64 + (c1.toNat : Int) % 64) * 64 + (c2.toNat : Int) % 64) * 64 + (c3.toNat : Int) % 64 := by omega
            rw [this]
          have hbd := hid hbd0
          clear hbd0
          cases bb with
          | true =>
            go_wp2_with fail
            refine wp_loop_rounds 4 ?_
            rw [rounds_succ]
            go_wp2_with fail
            rw [rounds_succ]
            go_wp2_with fail
            rw [rounds_succ]
            go_wp2_with fail
            rw [rounds_succ]
            go_wp2_with fail
            go_region_with (go_at_call 15; refine (rput_any _ _).mono ?_; intro e w1 hp; obtain ⟨rfl, hb2⟩ := hp; have HB2 := hid hb2; clear hb2)
            all_goals
              go_wp2_with fail
              go_ret2
              have hx : nextS s.data.toList = (((((c0.toNat : Int) % 8) * 64 + (c1.toNat : Int) % 64) * 64 + (c2.toNat : Int) % 64) * 64 + (c3.toNat : Int) % 64, 4) := by
                rw [← HT.out, HSTEP.out, if_pos (of_decide_eq_true hbd.out.symm), HV.out]
                exact congrArg (fun x : Int => (x, (4 : Int))) (by omega)
              exact RNextPost.mk hx (HB.out.drew.trans (HB2.out.mono (by have := HB.out.size; exact this)))
          | false =>
            go_wp2_with fail
            refine wp_loop_rounds 4 ?_
            rw [rounds_succ]
            go_wp2_with fail
            rw [rounds_succ]
            go_wp2_with fail
            rw [rounds_succ]
            go_wp2_with fail
            rw [rounds_succ]
            go_wp2_with fail
            go_region_with (go_at_call 15; refine (rput_any _ _).mono ?_; intro e w1 hp; obtain ⟨rfl, hb2⟩ := hp; have HB2 := hid hb2; clear hb2)
            all_goals
              go_wp2_with fail
              refine ⟨⟨5, by omega, by omega, rfl, ?_, (HB.out.drew.trans (HB2.out.mono (by have := HB.out.size; exact this)))⟩, by simp [intOf]⟩
              rw [← HT.out, HSTEP.out, if_neg (of_decide_eq_false hbd.out.symm)]
      · have HE := hid (try_end s.data.toList k (by rw [HLEN.out]; exact hk))
        by_cases h5 : k = 5
        · have hle4 : decide ((k : Int) ≤ 4) = false := decide_eq_false (by omega)
          clear hk h5
          go_wp2_with fail
          go_ret2
          exact RNextPost.mk (by rw [← HT.out, HE.out]) HB.out
        · have hk4 : k ≤ 4 := by omega
          have hle4 : decide ((k : Int) ≤ 4) = true := decide_eq_true (by omega)
          have hle : decide (k ≤ s.size) = false := decide_eq_false (by omega)
          clear hk h5
          go_wp2_with fail
          go_ret2
          exact RNextPost.mk (by rw [← HT.out, HE.out]) HB.out
end Go.Proofs.YtjbfkblobaikdaaDoor

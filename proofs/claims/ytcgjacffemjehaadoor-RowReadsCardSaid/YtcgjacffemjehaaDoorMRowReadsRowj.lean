/-
  RowDCode, RowDFamily, RowDRefresh: this proof's parts in one text.
-/
import Derived.Test.YtcgjacffemjehaaDoorMRowReadsRowh
import Derived.Test.YtcgjacffemjehaaDoorMRowReadsRowi
namespace Go.Proofs.YtcgjacffemjehaaDoor
open Go.RowKit
open Go.Proofs.YtcgjacffemjehaaDoorW.PrintWords (Kd rdOf results_ct)
open Go.Proofs.YtcgjacffemjehaaDoor.PRowReads
set_option linter.unusedVariables false
set_option linter.unusedSimpArgs false
set_option maxHeartbeats 8000000 in
set_option maxRecDepth 100000 in
theorem docCode (w : World) (s : ByteArray) (hs : s.size ≤ 1048576) :
    Calls Tryd.prog 7 #[.int .i64 2, .string s] w (DocPost (rowCode ((unR (codeR s.data.toList false)).getD z27)) (unR (codeR s.data.toList false)).isSome w) := by
  rw [codeCod.same dCodeCod]
  have hsl := str_len s
  obtain ⟨o, ho⟩ : ∃ o, unR (dCode s.data.toList false) = o := ⟨_, rfl⟩
  rw [ho]
  have HO := hid ho
  clear ho
  have hbw0 : Below w.heap.size w (((w.alloc (.cells rowZ 41)).alloc (.cells #[.string s, .bool true] 73)).alloc (.cells (rowK 2) 41)) := (((Below.refl w.heap.size w).alloc (Nat.le_refl _) _).alloc (by simp) _).alloc (by simp; omega) _
  have ha0 : AtB (((w.alloc (.cells rowZ 41)).alloc (.cells #[.string s, .bool true] 73)).alloc (.cells (rowK 2) 41)) w.heap.size 41 rowZ := ((at_make rfl).alloc _).alloc _
  have hi0 : InAt (((w.alloc (.cells rowZ 41)).alloc (.cells #[.string s, .bool true] 73)).alloc (.cells (rowK 2) 41)) (w.heap.size + 1) s.data.toList false := ⟨s, rfl, (at_make (by simp)).alloc _⟩
  have hx0 : AtB (((w.alloc (.cells rowZ 41)).alloc (.cells #[.string s, .bool true] 73)).alloc (.cells (rowK 2) 41)) (w.heap.size + 1 + 1) 41 (rowK 2) := at_make (by simp)
  have hz0 : (((w.alloc (.cells rowZ 41)).alloc (.cells #[.string s, .bool true] 73)).alloc (.cells (rowK 2) 41)).heap.size = w.heap.size + 1 + 1 + 1 := by simp
  obtain ⟨y0, l1, b1, e0⟩ := trip (dText s.data.toList false)
  obtain ⟨y1, l2, b2, e1⟩ := trip (dText l1 b1)
  obtain ⟨y2, l3, b3, e2⟩ := trip (dText l2 b2)
  obtain ⟨y3, l4, b4, e3⟩ := trip (dText l3 b3)
  obtain ⟨y4, l5, b5, e4⟩ := trip (dList dText l4 b4)
  obtain ⟨y5, l6, b6, e5⟩ := trip (dText l5 b5)
  obtain ⟨y6, l7, b7, e6⟩ := trip (dTruth l6 b6)
  obtain ⟨y7, l8, b8, e7⟩ := trip (dTruth l7 b7)
  obtain ⟨y8, l9, b9, e8⟩ := trip (dNum l8 b8)
  have hd : dCode s.data.toList false = ((⟨y0, y1, y2, y3, y4, y5, y6, y7, y8⟩, l9, b9) : S27 × List UInt8 × Bool) := by unfold dCode; simp only [andR, e0, e1, e2, e3, e4, e5, e6, e7, e8]
  have HD := hid hd
  have HE0 := hid e0
  have HE1 := hid e1
  have HE2 := hid e2
  have HE3 := hid e3
  have HE4 := hid e4
  have HE5 := hid e5
  have HE6 := hid e6
  have HE7 := hid e7
  have HE8 := hid e8
  have hc := text_in hi0
  rw [e0] at hc
  have HC := hid hc
  have HBW := hid hbw0
  have HA := hid ha0
  have HX := hid hx0
  clear hd hc hbw0 ha0 hx0 hi0 e0 e1 e2 e3 e4 e5 e6 e7 e8
  obtain ⟨W0, hW0⟩ : ∃ W, (((w.alloc (.cells rowZ 41)).alloc (.cells #[.string s, .bool true] 73)).alloc (.cells (rowK 2) 41)) = W := ⟨_, rfl⟩
  have HW0 := hid hW0
  rw [hW0] at HC HBW HA HX hz0
  go_enter Tryd.func7, Tryd.ntmps7
  go_wp2_with (first | (refine wpList_allocTo rfl (some 4) rfl _ _ (run_allocRow _ _ rfl _) ?_) | (refine wpList_allocTo rfl (some 7) rfl _ _ (run_allocRow _ _ rfl _) ?_) | (refine wpList_buildTo rfl 41 _ rfl (some 12) rfl (rowK 2) (by kernel_rfl) ?_) | (refine wpList_store_new rfl 41 (.tmp 7) (.tmp 12) rfl rfl ((w.alloc (.cells rowZ 41)).alloc (.cells #[.string s, .bool true] 73)) 41 rowZ (rowK 2) rfl (by simp only [World.size_alloc]; rfl) rfl (by kernel_rfl) (by kernel_rfl) (by kernel_rfl) ?_))
  clear hW0 HW0
  go_at_call 21
  refine HC.out.mono ?_
  clear HC
  rintro e u0 ⟨rfl, hi0, hm0⟩
  have hxu0 : AtB u0 (w.heap.size + 1 + 1) 41 (rowK 2) := hm0.heap HX.out (show ¬ ((w.heap.size + 1 + 1) = (w.heap.size + 1)) by omega)
  have hvs0 : ((rowK 2)).size = 46 := by exact rowK_size 2
  obtain ⟨q0, hq0⟩ := hxu0.some 4 (by rw [hvs0]; omega)
  have hf0 := hxu0.free 4
  have hxn : AtB (u0.setCell ⟨(w.heap.size + 1 + 1), 4, none⟩ (.string y0)) (w.heap.size + 1 + 1) 41 (((rowK 2)).setIfInBounds 4 (.string y0)) := hxu0.set 4 (.string y0)
  have hmn : Mod (fun k => k = (w.heap.size + 1 + 1) ∨ k = (w.heap.size + 1)) W0 (u0.setCell ⟨(w.heap.size + 1 + 1), 4, none⟩ (.string y0)) := (hm0.mono (fun _ _ e => .inr e)).setCell ⟨(w.heap.size + 1 + 1), 4, none⟩ (.string y0) (.inl (.inl rfl))
  have hin : InAt (u0.setCell ⟨(w.heap.size + 1 + 1), 4, none⟩ (.string y0)) (w.heap.size + 1) l1 b1 := hi0.mod (mod_set u0 (w.heap.size + 1 + 1) 4 (.string y0)) (show ¬ ((w.heap.size + 1) = (w.heap.size + 1 + 1)) by omega)
  have hzn : w.heap.size + 1 + 1 + 1 ≤ (u0.setCell ⟨(w.heap.size + 1 + 1), 4, none⟩ (.string y0)).heap.size := by have := hmn.size; omega
  have hc := text_in hin
  rw [HE1.out] at hc
  go_wp2_with fail
  generalize u0.setCell ⟨(w.heap.size + 1 + 1), 4, none⟩ (.string y0) = W1 at hxn hmn hin hzn hc ⊢
  have HBW := hid (HBW.out.trans (hmn.below (by omega) (fun x e => by omega)))
  have HA := hid (hmn.heap HA.out (show ¬ (w.heap.size = (w.heap.size + 1 + 1) ∨ w.heap.size = (w.heap.size + 1)) by omega))
  have HX := hid hxn
  have HI := hid hin
  have HC := hid hc
  clear hxn hmn hin hc hxu0 hvs0 hq0 hf0 hi0 hm0
  have hz1 := hzn
  clear hzn
  go_at_call 21
  refine HC.out.mono ?_
  clear HC
  rintro e u1 ⟨rfl, hi1, hm1⟩
  have hxu1 : AtB u1 (w.heap.size + 1 + 1) 41 ((rowK 2).setIfInBounds 4 (.string y0)) := hm1.heap HX.out (show ¬ ((w.heap.size + 1 + 1) = (w.heap.size + 1)) by omega)
  have hvs1 : (((rowK 2).setIfInBounds 4 (.string y0))).size = 46 := by simp only [Array.size_setIfInBounds]; exact rowK_size 2
  obtain ⟨q1, hq1⟩ := hxu1.some 5 (by rw [hvs1]; omega)
  have hf1 := hxu1.free 5
  have hxn : AtB (u1.setCell ⟨(w.heap.size + 1 + 1), 5, none⟩ (.string y1)) (w.heap.size + 1 + 1) 41 ((((rowK 2).setIfInBounds 4 (.string y0))).setIfInBounds 5 (.string y1)) := hxu1.set 5 (.string y1)
  have hmn : Mod (fun k => k = (w.heap.size + 1 + 1) ∨ k = (w.heap.size + 1)) W1 (u1.setCell ⟨(w.heap.size + 1 + 1), 5, none⟩ (.string y1)) := (hm1.mono (fun _ _ e => .inr e)).setCell ⟨(w.heap.size + 1 + 1), 5, none⟩ (.string y1) (.inl (.inl rfl))
  have hin : InAt (u1.setCell ⟨(w.heap.size + 1 + 1), 5, none⟩ (.string y1)) (w.heap.size + 1) l2 b2 := hi1.mod (mod_set u1 (w.heap.size + 1 + 1) 5 (.string y1)) (show ¬ ((w.heap.size + 1) = (w.heap.size + 1 + 1)) by omega)
  have hzn : w.heap.size + 1 + 1 + 1 ≤ (u1.setCell ⟨(w.heap.size + 1 + 1), 5, none⟩ (.string y1)).heap.size := by have := hmn.size; omega
  have hc := text_in hin
  rw [HE2.out] at hc
  go_wp2_with fail
  generalize u1.setCell ⟨(w.heap.size + 1 + 1), 5, none⟩ (.string y1) = W2 at hxn hmn hin hzn hc ⊢
  have HBW := hid (HBW.out.trans (hmn.below (by omega) (fun x e => by omega)))
  have HA := hid (hmn.heap HA.out (show ¬ (w.heap.size = (w.heap.size + 1 + 1) ∨ w.heap.size = (w.heap.size + 1)) by omega))
  have HX := hid hxn
  have HI := hid hin
  have HC := hid hc
  clear hxn hmn hin hc hxu1 hvs1 hq1 hf1 hi1 hm1
  have hz2 := hzn
  clear hzn
  go_at_call 21
  refine HC.out.mono ?_
  clear HC
  rintro e u2 ⟨rfl, hi2, hm2⟩
  have hxu2 : AtB u2 (w.heap.size + 1 + 1) 41 (((rowK 2).setIfInBounds 4 (.string y0)).setIfInBounds 5 (.string y1)) := hm2.heap HX.out (show ¬ ((w.heap.size + 1 + 1) = (w.heap.size + 1)) by omega)
  have hvs2 : ((((rowK 2).setIfInBounds 4 (.string y0)).setIfInBounds 5 (.string y1))).size = 46 := by simp only [Array.size_setIfInBounds]; exact rowK_size 2
  obtain ⟨q2, hq2⟩ := hxu2.some 6 (by rw [hvs2]; omega)
  have hf2 := hxu2.free 6
  have hxn : AtB (u2.setCell ⟨(w.heap.size + 1 + 1), 6, none⟩ (.string y2)) (w.heap.size + 1 + 1) 41 (((((rowK 2).setIfInBounds 4 (.string y0)).setIfInBounds 5 (.string y1))).setIfInBounds 6 (.string y2)) := hxu2.set 6 (.string y2)
  have hmn : Mod (fun k => k = (w.heap.size + 1 + 1) ∨ k = (w.heap.size + 1)) W2 (u2.setCell ⟨(w.heap.size + 1 + 1), 6, none⟩ (.string y2)) := (hm2.mono (fun _ _ e => .inr e)).setCell ⟨(w.heap.size + 1 + 1), 6, none⟩ (.string y2) (.inl (.inl rfl))
  have hin : InAt (u2.setCell ⟨(w.heap.size + 1 + 1), 6, none⟩ (.string y2)) (w.heap.size + 1) l3 b3 := hi2.mod (mod_set u2 (w.heap.size + 1 + 1) 6 (.string y2)) (show ¬ ((w.heap.size + 1) = (w.heap.size + 1 + 1)) by omega)
  have hzn : w.heap.size + 1 + 1 + 1 ≤ (u2.setCell ⟨(w.heap.size + 1 + 1), 6, none⟩ (.string y2)).heap.size := by have := hmn.size; omega
  have hc := text_in hin
  rw [HE3.out] at hc
  go_wp2_with fail
  generalize u2.setCell ⟨(w.heap.size + 1 + 1), 6, none⟩ (.string y2) = W3 at hxn hmn hin hzn hc ⊢
  have HBW := hid (HBW.out.trans (hmn.below (by omega) (fun x e => by omega)))
  have HA := hid (hmn.heap HA.out (show ¬ (w.heap.size = (w.heap.size + 1 + 1) ∨ w.heap.size = (w.heap.size + 1)) by omega))
  have HX := hid hxn
  have HI := hid hin
  have HC := hid hc
  clear hxn hmn hin hc hxu2 hvs2 hq2 hf2 hi2 hm2
  have hz3 := hzn
  clear hzn
  go_at_call 21
  refine HC.out.mono ?_
  clear HC
  rintro e u3 ⟨rfl, hi3, hm3⟩
  have hxu3 : AtB u3 (w.heap.size + 1 + 1) 41 ((((rowK 2).setIfInBounds 4 (.string y0)).setIfInBounds 5 (.string y1)).setIfInBounds 6 (.string y2)) := hm3.heap HX.out (show ¬ ((w.heap.size + 1 + 1) = (w.heap.size + 1)) by omega)
  have hvs3 : (((((rowK 2).setIfInBounds 4 (.string y0)).setIfInBounds 5 (.string y1)).setIfInBounds 6 (.string y2))).size = 46 := by simp only [Array.size_setIfInBounds]; exact rowK_size 2
  obtain ⟨q3, hq3⟩ := hxu3.some 7 (by rw [hvs3]; omega)
  have hf3 := hxu3.free 7
  have hxn : AtB (u3.setCell ⟨(w.heap.size + 1 + 1), 7, none⟩ (.string y3)) (w.heap.size + 1 + 1) 41 ((((((rowK 2).setIfInBounds 4 (.string y0)).setIfInBounds 5 (.string y1)).setIfInBounds 6 (.string y2))).setIfInBounds 7 (.string y3)) := hxu3.set 7 (.string y3)
  have hmn : Mod (fun k => k = (w.heap.size + 1 + 1) ∨ k = (w.heap.size + 1)) W3 (u3.setCell ⟨(w.heap.size + 1 + 1), 7, none⟩ (.string y3)) := (hm3.mono (fun _ _ e => .inr e)).setCell ⟨(w.heap.size + 1 + 1), 7, none⟩ (.string y3) (.inl (.inl rfl))
  have hin : InAt (u3.setCell ⟨(w.heap.size + 1 + 1), 7, none⟩ (.string y3)) (w.heap.size + 1) l4 b4 := hi3.mod (mod_set u3 (w.heap.size + 1 + 1) 7 (.string y3)) (show ¬ ((w.heap.size + 1) = (w.heap.size + 1 + 1)) by omega)
  have hzn : w.heap.size + 1 + 1 + 1 ≤ (u3.setCell ⟨(w.heap.size + 1 + 1), 7, none⟩ (.string y3)).heap.size := by have := hmn.size; omega
  have hc := texts_in hin
  rw [HE4.out] at hc
  go_wp2_with fail
  generalize u3.setCell ⟨(w.heap.size + 1 + 1), 7, none⟩ (.string y3) = W4 at hxn hmn hin hzn hc ⊢
  have HBW := hid (HBW.out.trans (hmn.below (by omega) (fun x e => by omega)))
  have HA := hid (hmn.heap HA.out (show ¬ (w.heap.size = (w.heap.size + 1 + 1) ∨ w.heap.size = (w.heap.size + 1)) by omega))
  have HX := hid hxn
  have HI := hid hin
  have HC := hid hc
  clear hxn hmn hin hc hxu3 hvs3 hq3 hf3 hi3 hm3
  have hz4 := hzn
  clear hzn
  go_at_call 22
  refine HC.out.mono ?_
  clear HC
  rintro e u4 ⟨v4, rfl, hr4, hi4, hm4⟩
  obtain ⟨A4, m4, c4, rfl⟩ := r_form hr4
  have hxu4 : AtB u4 (w.heap.size + 1 + 1) 41 (((((rowK 2).setIfInBounds 4 (.string y0)).setIfInBounds 5 (.string y1)).setIfInBounds 6 (.string y2)).setIfInBounds 7 (.string y3)) := hm4.heap HX.out (show ¬ ((w.heap.size + 1 + 1) = (w.heap.size + 1)) by omega)
  have hvs4 : ((((((rowK 2).setIfInBounds 4 (.string y0)).setIfInBounds 5 (.string y1)).setIfInBounds 6 (.string y2)).setIfInBounds 7 (.string y3))).size = 46 := by simp only [Array.size_setIfInBounds]; exact rowK_size 2
  obtain ⟨q4, hq4⟩ := hxu4.some 8 (by rw [hvs4]; omega)
  have hf4 := hxu4.free 8
  have hxn : AtB (u4.setCell ⟨(w.heap.size + 1 + 1), 8, none⟩ (.slice A4 m4 c4)) (w.heap.size + 1 + 1) 41 (((((((rowK 2).setIfInBounds 4 (.string y0)).setIfInBounds 5 (.string y1)).setIfInBounds 6 (.string y2)).setIfInBounds 7 (.string y3))).setIfInBounds 8 (.slice A4 m4 c4)) := hxu4.set 8 (.slice A4 m4 c4)
  have hmn : Mod (fun k => k = (w.heap.size + 1 + 1) ∨ k = (w.heap.size + 1)) W4 (u4.setCell ⟨(w.heap.size + 1 + 1), 8, none⟩ (.slice A4 m4 c4)) := (hm4.mono (fun _ _ e => .inr e)).setCell ⟨(w.heap.size + 1 + 1), 8, none⟩ (.slice A4 m4 c4) (.inl (.inl rfl))
  have hin : InAt (u4.setCell ⟨(w.heap.size + 1 + 1), 8, none⟩ (.slice A4 m4 c4)) (w.heap.size + 1) l5 b5 := hi4.mod (mod_set u4 (w.heap.size + 1 + 1) 8 (.slice A4 m4 c4)) (show ¬ ((w.heap.size + 1) = (w.heap.size + 1 + 1)) by omega)
  have hzn : w.heap.size + 1 + 1 + 1 ≤ (u4.setCell ⟨(w.heap.size + 1 + 1), 8, none⟩ (.slice A4 m4 c4)).heap.size := by have := hmn.size; omega
  have hrn4 : Kd.string.R 9 (u4.setCell ⟨(w.heap.size + 1 + 1), 8, none⟩ (.slice A4 m4 c4)) (w.heap.size + 1 + 1 + 1) (fun _ => True) (.slice A4 m4 c4) y4 := Kd.R_lower (r_mod hr4 (mod_set u4 (w.heap.size + 1 + 1) 8 (.slice A4 m4 c4)) (fun k e => .inl (by have e2 : k = (w.heap.size + 1 + 1) := e; omega))) (by omega)
  have hc := text_in hin
  rw [HE5.out] at hc
  go_wp2_with fail
  generalize u4.setCell ⟨(w.heap.size + 1 + 1), 8, none⟩ (.slice A4 m4 c4) = W5 at hxn hmn hin hzn hrn4 hc ⊢
  have HBW := hid (HBW.out.trans (hmn.below (by omega) (fun x e => by omega)))
  have HA := hid (hmn.heap HA.out (show ¬ (w.heap.size = (w.heap.size + 1 + 1) ∨ w.heap.size = (w.heap.size + 1)) by omega))
  have HX := hid hxn
  have HI := hid hin
  have HR4 := hid hrn4
  have HC := hid hc
  clear hxn hmn hin hrn4 hc hxu4 hvs4 hq4 hf4 hi4 hm4 hr4
  have hz5 := hzn
  clear hzn
  go_at_call 21
  refine HC.out.mono ?_
  clear HC
  rintro e u5 ⟨rfl, hi5, hm5⟩
  have hxu5 : AtB u5 (w.heap.size + 1 + 1) 41 ((((((rowK 2).setIfInBounds 4 (.string y0)).setIfInBounds 5 (.string y1)).setIfInBounds 6 (.string y2)).setIfInBounds 7 (.string y3)).setIfInBounds 8 (.slice A4 m4 c4)) := hm5.heap HX.out (show ¬ ((w.heap.size + 1 + 1) = (w.heap.size + 1)) by omega)
  have hvs5 : (((((((rowK 2).setIfInBounds 4 (.string y0)).setIfInBounds 5 (.string y1)).setIfInBounds 6 (.string y2)).setIfInBounds 7 (.string y3)).setIfInBounds 8 (.slice A4 m4 c4))).size = 46 := by simp only [Array.size_setIfInBounds]; exact rowK_size 2
  obtain ⟨q5, hq5⟩ := hxu5.some 9 (by rw [hvs5]; omega)
  have hf5 := hxu5.free 9
  have hxn : AtB (u5.setCell ⟨(w.heap.size + 1 + 1), 9, none⟩ (.string y5)) (w.heap.size + 1 + 1) 41 ((((((((rowK 2).setIfInBounds 4 (.string y0)).setIfInBounds 5 (.string y1)).setIfInBounds 6 (.string y2)).setIfInBounds 7 (.string y3)).setIfInBounds 8 (.slice A4 m4 c4))).setIfInBounds 9 (.string y5)) := hxu5.set 9 (.string y5)
  have hmn : Mod (fun k => k = (w.heap.size + 1 + 1) ∨ k = (w.heap.size + 1)) W5 (u5.setCell ⟨(w.heap.size + 1 + 1), 9, none⟩ (.string y5)) := (hm5.mono (fun _ _ e => .inr e)).setCell ⟨(w.heap.size + 1 + 1), 9, none⟩ (.string y5) (.inl (.inl rfl))
  have hin : InAt (u5.setCell ⟨(w.heap.size + 1 + 1), 9, none⟩ (.string y5)) (w.heap.size + 1) l6 b6 := hi5.mod (mod_set u5 (w.heap.size + 1 + 1) 9 (.string y5)) (show ¬ ((w.heap.size + 1) = (w.heap.size + 1 + 1)) by omega)
  have hzn : w.heap.size + 1 + 1 + 1 ≤ (u5.setCell ⟨(w.heap.size + 1 + 1), 9, none⟩ (.string y5)).heap.size := by have := hmn.size; omega
  have hrn4 := r_mod HR4.out hmn (fun k e => .inl (by omega))
  clear HR4
  have hc := truth_in hin
  rw [HE6.out] at hc
  go_wp2_with fail
  generalize u5.setCell ⟨(w.heap.size + 1 + 1), 9, none⟩ (.string y5) = W6 at hxn hmn hin hzn hrn4 hc ⊢
  have HBW := hid (HBW.out.trans (hmn.below (by omega) (fun x e => by omega)))
  have HA := hid (hmn.heap HA.out (show ¬ (w.heap.size = (w.heap.size + 1 + 1) ∨ w.heap.size = (w.heap.size + 1)) by omega))
  have HX := hid hxn
  have HI := hid hin
  have HR4 := hid hrn4
  have HC := hid hc
  clear hxn hmn hin hrn4 hc hxu5 hvs5 hq5 hf5 hi5 hm5
  have hz6 := hzn
  clear hzn
  go_at_call 23
  refine HC.out.mono ?_
  clear HC
  rintro e u6 ⟨rfl, hi6, hm6⟩
  have hxu6 : AtB u6 (w.heap.size + 1 + 1) 41 (((((((rowK 2).setIfInBounds 4 (.string y0)).setIfInBounds 5 (.string y1)).setIfInBounds 6 (.string y2)).setIfInBounds 7 (.string y3)).setIfInBounds 8 (.slice A4 m4 c4)).setIfInBounds 9 (.string y5)) := hm6.heap HX.out (show ¬ ((w.heap.size + 1 + 1) = (w.heap.size + 1)) by omega)
  have hvs6 : ((((((((rowK 2).setIfInBounds 4 (.string y0)).setIfInBounds 5 (.string y1)).setIfInBounds 6 (.string y2)).setIfInBounds 7 (.string y3)).setIfInBounds 8 (.slice A4 m4 c4)).setIfInBounds 9 (.string y5))).size = 46 := by simp only [Array.size_setIfInBounds]; exact rowK_size 2
  obtain ⟨q6, hq6⟩ := hxu6.some 10 (by rw [hvs6]; omega)
  have hf6 := hxu6.free 10
  have hxn : AtB (u6.setCell ⟨(w.heap.size + 1 + 1), 10, none⟩ (.bool y6)) (w.heap.size + 1 + 1) 41 (((((((((rowK 2).setIfInBounds 4 (.string y0)).setIfInBounds 5 (.string y1)).setIfInBounds 6 (.string y2)).setIfInBounds 7 (.string y3)).setIfInBounds 8 (.slice A4 m4 c4)).setIfInBounds 9 (.string y5))).setIfInBounds 10 (.bool y6)) := hxu6.set 10 (.bool y6)
  have hmn : Mod (fun k => k = (w.heap.size + 1 + 1) ∨ k = (w.heap.size + 1)) W6 (u6.setCell ⟨(w.heap.size + 1 + 1), 10, none⟩ (.bool y6)) := (hm6.mono (fun _ _ e => .inr e)).setCell ⟨(w.heap.size + 1 + 1), 10, none⟩ (.bool y6) (.inl (.inl rfl))
  have hin : InAt (u6.setCell ⟨(w.heap.size + 1 + 1), 10, none⟩ (.bool y6)) (w.heap.size + 1) l7 b7 := hi6.mod (mod_set u6 (w.heap.size + 1 + 1) 10 (.bool y6)) (show ¬ ((w.heap.size + 1) = (w.heap.size + 1 + 1)) by omega)
  have hzn : w.heap.size + 1 + 1 + 1 ≤ (u6.setCell ⟨(w.heap.size + 1 + 1), 10, none⟩ (.bool y6)).heap.size := by have := hmn.size; omega
  have hrn4 := r_mod HR4.out hmn (fun k e => .inl (by omega))
  clear HR4
  have hc := truth_in hin
  rw [HE7.out] at hc
  go_wp2_with fail
  generalize u6.setCell ⟨(w.heap.size + 1 + 1), 10, none⟩ (.bool y6) = W7 at hxn hmn hin hzn hrn4 hc ⊢
  have HBW := hid (HBW.out.trans (hmn.below (by omega) (fun x e => by omega)))
  have HA := hid (hmn.heap HA.out (show ¬ (w.heap.size = (w.heap.size + 1 + 1) ∨ w.heap.size = (w.heap.size + 1)) by omega))
  have HX := hid hxn
  have HI := hid hin
  have HR4 := hid hrn4
  have HC := hid hc
  clear hxn hmn hin hrn4 hc hxu6 hvs6 hq6 hf6 hi6 hm6
  have hz7 := hzn
  clear hzn
  go_at_call 23
  refine HC.out.mono ?_
  clear HC
  rintro e u7 ⟨rfl, hi7, hm7⟩
  have hxu7 : AtB u7 (w.heap.size + 1 + 1) 41 ((((((((rowK 2).setIfInBounds 4 (.string y0)).setIfInBounds 5 (.string y1)).setIfInBounds 6 (.string y2)).setIfInBounds 7 (.string y3)).setIfInBounds 8 (.slice A4 m4 c4)).setIfInBounds 9 (.string y5)).setIfInBounds 10 (.bool y6)) := hm7.heap HX.out (show ¬ ((w.heap.size + 1 + 1) = (w.heap.size + 1)) by omega)
  have hvs7 : (((((((((rowK 2).setIfInBounds 4 (.string y0)).setIfInBounds 5 (.string y1)).setIfInBounds 6 (.string y2)).setIfInBounds 7 (.string y3)).setIfInBounds 8 (.slice A4 m4 c4)).setIfInBounds 9 (.string y5)).setIfInBounds 10 (.bool y6))).size = 46 := by simp only [Array.size_setIfInBounds]; exact rowK_size 2
  obtain ⟨q7, hq7⟩ := hxu7.some 11 (by rw [hvs7]; omega)
  have hf7 := hxu7.free 11
  have hxn : AtB (u7.setCell ⟨(w.heap.size + 1 + 1), 11, none⟩ (.bool y7)) (w.heap.size + 1 + 1) 41 ((((((((((rowK 2).setIfInBounds 4 (.string y0)).setIfInBounds 5 (.string y1)).setIfInBounds 6 (.string y2)).setIfInBounds 7 (.string y3)).setIfInBounds 8 (.slice A4 m4 c4)).setIfInBounds 9 (.string y5)).setIfInBounds 10 (.bool y6))).setIfInBounds 11 (.bool y7)) := hxu7.set 11 (.bool y7)
  have hmn : Mod (fun k => k = (w.heap.size + 1 + 1) ∨ k = (w.heap.size + 1)) W7 (u7.setCell ⟨(w.heap.size + 1 + 1), 11, none⟩ (.bool y7)) := (hm7.mono (fun _ _ e => .inr e)).setCell ⟨(w.heap.size + 1 + 1), 11, none⟩ (.bool y7) (.inl (.inl rfl))
  have hin : InAt (u7.setCell ⟨(w.heap.size + 1 + 1), 11, none⟩ (.bool y7)) (w.heap.size + 1) l8 b8 := hi7.mod (mod_set u7 (w.heap.size + 1 + 1) 11 (.bool y7)) (show ¬ ((w.heap.size + 1) = (w.heap.size + 1 + 1)) by omega)
  have hzn : w.heap.size + 1 + 1 + 1 ≤ (u7.setCell ⟨(w.heap.size + 1 + 1), 11, none⟩ (.bool y7)).heap.size := by have := hmn.size; omega
  have hrn4 := r_mod HR4.out hmn (fun k e => .inl (by omega))
  clear HR4
  have hc := num_in hin
  rw [HE8.out] at hc
  go_wp2_with fail
  generalize u7.setCell ⟨(w.heap.size + 1 + 1), 11, none⟩ (.bool y7) = W8 at hxn hmn hin hzn hrn4 hc ⊢
  have HBW := hid (HBW.out.trans (hmn.below (by omega) (fun x e => by omega)))
  have HA := hid (hmn.heap HA.out (show ¬ (w.heap.size = (w.heap.size + 1 + 1) ∨ w.heap.size = (w.heap.size + 1)) by omega))
  have HX := hid hxn
  have HI := hid hin
  have HR4 := hid hrn4
  have HC := hid hc
  clear hxn hmn hin hrn4 hc hxu7 hvs7 hq7 hf7 hi7 hm7
  have hz8 := hzn
  clear hzn
  go_at_call 24
  refine HC.out.mono ?_
  clear HC
  rintro e u8 ⟨rfl, hi8, hm8⟩
  have hxu8 : AtB u8 (w.heap.size + 1 + 1) 41 (((((((((rowK 2).setIfInBounds 4 (.string y0)).setIfInBounds 5 (.string y1)).setIfInBounds 6 (.string y2)).setIfInBounds 7 (.string y3)).setIfInBounds 8 (.slice A4 m4 c4)).setIfInBounds 9 (.string y5)).setIfInBounds 10 (.bool y6)).setIfInBounds 11 (.bool y7)) := hm8.heap HX.out (show ¬ ((w.heap.size + 1 + 1) = (w.heap.size + 1)) by omega)
  have hvs8 : ((((((((((rowK 2).setIfInBounds 4 (.string y0)).setIfInBounds 5 (.string y1)).setIfInBounds 6 (.string y2)).setIfInBounds 7 (.string y3)).setIfInBounds 8 (.slice A4 m4 c4)).setIfInBounds 9 (.string y5)).setIfInBounds 10 (.bool y6)).setIfInBounds 11 (.bool y7))).size = 46 := by simp only [Array.size_setIfInBounds]; exact rowK_size 2
  obtain ⟨q8, hq8⟩ := hxu8.some 12 (by rw [hvs8]; omega)
  have hf8 := hxu8.free 12
  have hxn : AtB (u8.setCell ⟨(w.heap.size + 1 + 1), 12, none⟩ (.int .i64 y8)) (w.heap.size + 1 + 1) 41 (((((((((((rowK 2).setIfInBounds 4 (.string y0)).setIfInBounds 5 (.string y1)).setIfInBounds 6 (.string y2)).setIfInBounds 7 (.string y3)).setIfInBounds 8 (.slice A4 m4 c4)).setIfInBounds 9 (.string y5)).setIfInBounds 10 (.bool y6)).setIfInBounds 11 (.bool y7))).setIfInBounds 12 (.int .i64 y8)) := hxu8.set 12 (.int .i64 y8)
  have hmn : Mod (fun k => k = (w.heap.size + 1 + 1) ∨ k = (w.heap.size + 1)) W8 (u8.setCell ⟨(w.heap.size + 1 + 1), 12, none⟩ (.int .i64 y8)) := (hm8.mono (fun _ _ e => .inr e)).setCell ⟨(w.heap.size + 1 + 1), 12, none⟩ (.int .i64 y8) (.inl (.inl rfl))
  have hin : InAt (u8.setCell ⟨(w.heap.size + 1 + 1), 12, none⟩ (.int .i64 y8)) (w.heap.size + 1) l9 b9 := hi8.mod (mod_set u8 (w.heap.size + 1 + 1) 12 (.int .i64 y8)) (show ¬ ((w.heap.size + 1) = (w.heap.size + 1 + 1)) by omega)
  have hzn : w.heap.size + 1 + 1 + 1 ≤ (u8.setCell ⟨(w.heap.size + 1 + 1), 12, none⟩ (.int .i64 y8)).heap.size := by have := hmn.size; omega
  have hrn4 := r_mod HR4.out hmn (fun k e => .inl (by omega))
  clear HR4
  go_wp2_with (refine wpList_stop (some 212) rfl ?_)
  generalize u8.setCell ⟨(w.heap.size + 1 + 1), 12, none⟩ (.int .i64 y8) = W9 at hxn hmn hin hzn hrn4 ⊢
  have HBW := hid (HBW.out.trans (hmn.below (by omega) (fun x e => by omega)))
  have HA := hid (hmn.heap HA.out (show ¬ (w.heap.size = (w.heap.size + 1 + 1) ∨ w.heap.size = (w.heap.size + 1)) by omega))
  have HX := hid hxn
  have HI := hid hin
  have HR4 := hid hrn4
  clear hxn hmn hin hrn4 hxu8 hvs8 hq8 hf8 hi8 hm8
  have hz9 := hzn
  clear hzn
  obtain ⟨S, hS, hsa⟩ := HI.out
  have cS : W9.cell? ⟨(w.heap.size + 1), 0, none⟩ = some (.string S) := hsa.cell 0
  have cB : W9.cell? ⟨(w.heap.size + 1), 1, none⟩ = some (.bool (!b9)) := hsa.cell 1
  clear hsa
  obtain ⟨V, hV⟩ : ∃ V, ((((((((((rowK 2).setIfInBounds 4 (.string y0)).setIfInBounds 5 (.string y1)).setIfInBounds 6 (.string y2)).setIfInBounds 7 (.string y3)).setIfInBounds 8 (.slice A4 m4 c4)).setIfInBounds 9 (.string y5)).setIfInBounds 10 (.bool y6)).setIfInBounds 11 (.bool y7)).setIfInBounds 12 (.int .i64 y8)) = V := ⟨_, rfl⟩
  rw [hV] at HX
  have HV := hid hV
  have hVs : V.size = 46 := by rw [← hV]; simp only [Array.size_setIfInBounds]; exact rowK_size 2
  have hV1 : V.all (·.oneCell') = true := by rw [← hV]; kernel_rfl
  have hVi : (Tryd.prog.info? 41).map (·.size) = some V.size := by rw [hVs]; exact rowInfo
  clear hV
  have HUN := hid (show unR (dCode s.data.toList false) = unR ((⟨y0, y1, y2, y3, y4, y5, y6, y7, y8⟩, l9, b9) : S27 × List UInt8 × Bool) by rw [HD.out])
  cases b9 with
  | true =>
    have cB : W9.cell? ⟨(w.heap.size + 1), 1, none⟩ = some (.bool false) := cB
    have hon : o = none := by rw [← HO.out, HUN.out]; exact if_pos (.inl rfl)
    refine Stood.mk ?_
    go_wp2_with (first | (refine wpList_buildTo rfl 41 _ rfl (some 227) rfl rowZ rowZ_built ?_) | (refine wpList_store_at rfl 41 (.tmp 4) (.tmp 227) rfl rfl w.heap.size 41 rowZ rowZ HA.out rfl rfl rowZ_info rfl rowZ_one ?_))
    have hzr := at_setRow HA.out rowZ
    have hbr : Below w.heap.size w (W9.setRow w.heap.size rowZ) := HBW.out.trans ((mod_setRow W9 w.heap.size rowZ).below HBW.out.size (fun x e => by omega))
    refine bodyPost_ret (results_ct rfl _ _ w.heap.size 41 rowZ (0, 0) _ rfl hzr Tryd.underlying41 rfl rowZ_info) rfl ?_
    refine ⟨rowZ, ?_, rowZ_size, rowZ_one, ?_, hbr⟩
    · rw [hon]; rfl
    · rw [hon]; intro h; cases h
  | false =>
    have cB : W9.cell? ⟨(w.heap.size + 1), 1, none⟩ = some (.bool true) := cB
    by_cases hS0 : S.size = 0
    · have hSe : S = ⟨#[]⟩ := by
        apply ByteArray.ext
        exact Array.eq_empty_of_size_eq_zero hS0
      subst hSe
      have hl0 : l9 = [] := by rw [← hS]
      have hon : o = some (⟨y0, y1, y2, y3, y4, y5, y6, y7, y8⟩) := by rw [← HO.out, HUN.out]; exact if_neg (by simp [hl0])
      obtain ⟨hb, hcc⟩ := dCodeCod.un_bwd (HO.out.trans hon)
      have hsm := smallCode (by rw [← hb, str_len]; exact hs) hcc
      have hfin := k41_mkM W9 (w.heap.size + 1 + 1 + 1) (fun _ => True) (rowCode (⟨y0, y1, y2, y3, y4, y5, y6, y7, y8⟩)) (Kd.R_nil _ _ _ _ _) HR4.out (Kd.R_nil _ _ _ _ _) (Kd.R_nil _ _ _ _ _) (Kd.R_nil _ _ _ _ _) (Kd.R_nil _ _ _ _ _) (Kd.R_nil _ _ _ _ _) (Kd.R_nil _ _ _ _ _)
      have key : ∀ c c', c = c' → k41.M W9 (w.heap.size + 1 + 1 + 1) (fun _ => True) (rowCode (⟨y0, y1, y2, y3, y4, y5, y6, y7, y8⟩)) c → k41.M W9 (w.heap.size + 1 + 1 + 1) (fun _ => True) (rowCode (⟨y0, y1, y2, y3, y4, y5, y6, y7, y8⟩)) c' := fun _ _ e h => e ▸ h
      have hVM : k41.M W9 (w.heap.size + 1 + 1 + 1) (fun _ => True) (rowCode (⟨y0, y1, y2, y3, y4, y5, y6, y7, y8⟩)) V.toList := by
        rw [← HV.out]
        exact key _ _ (by kernel_rfl) hfin
      have HVM := hid hVM
      have hK : k41.K W9 (rowCode (⟨y0, y1, y2, y3, y4, y5, y6, y7, y8⟩)) V.toList := by
        exact k41.K_of_M hVM
      have hby := refBytes_at W9 V _ hK hsm.1 hsm.2
      have hbs : rowB (rowCode (⟨y0, y1, y2, y3, y4, y5, y6, y7, y8⟩)) = s.data.toList := by rw [hb]; unfold rowB rowCode; simp
      rw [hbs] at hby
      have HBY := hid hby
      have HK := hid hK
      clear hfin key hVM hK hby hbs hcc hb hsm hl0 hS hS0
      refine Stood.mk ?_
      go_wp2_with (first | (refine wpList_load_rowH (by rfl) 41 (.tmp 7) rfl (w.heap.size + 1 + 1) rfl 41 V (0, 0) _ HX.out Tryd.underlying41 rfl hVi ?_))
      refine HBY.out.mono ?_
      clear HBY
      rintro e u9 ⟨rfl, hb9⟩
      have hx9 : AtB u9 (w.heap.size + 1 + 1) 41 V := (hb9.block _ (lt_of_heap HX.out)).trans HX.out
      have ha9 : AtB u9 w.heap.size 41 rowZ := (hb9.block _ (lt_of_heap HA.out)).trans HA.out
      have HX9 := hid hx9
      have HA9 := hid ha9
      have HB9 := hid (below_then HBW.out hb9)
      have HK9 := hid (k41.M_bound (k41.M_below HVM.out hb9))
      clear hx9 ha9 hb9
      go_wp2_with (first | (refine wpList_load_row rfl 41 (.tmp 7) rfl (w.heap.size + 1 + 1) rfl 41 V (0, 0) _ HX9.out Tryd.underlying41 rfl hVi ?_) | (refine wpList_store_at rfl 41 (.tmp 4) (.tmp 228) rfl rfl w.heap.size 41 rowZ V HA9.out rfl rfl hVi (by rw [hVs]; rfl) hV1 ?_))
      have hzr := at_setRow HA9.out V
      have hbr : Below w.heap.size w (u9.setRow w.heap.size V) := HB9.out.trans ((mod_setRow u9 w.heap.size V).below HB9.out.size (fun x e => by omega))
      refine bodyPost_ret (results_ct rfl _ _ w.heap.size 41 V (0, 0) _ rfl hzr Tryd.underlying41 rfl hVi) rfl ?_
      have hK9 := k41.K_of_M (k41.M_step HK9.out (fun k hk hlt => (mod_setRow u9 w.heap.size V).block k hlt (show ¬ (k = w.heap.size) by have := hk.2.1; omega)))
      refine ⟨V, by rw [hon]; rfl, hVs, hV1, fun _ => by rw [hon]; exact hK9, hbr⟩
    · have hon : o = none := by
        rw [← HO.out, HUN.out]
        exact if_pos (.inr (by show 0 < l9.length; rw [← hS, str_len]; omega))
      have n1 := str_ne_empty S (by omega)
      have n2 := str_not_empty S (by omega)
      refine Stood.mk ?_
      go_wp2_with (first | (refine wpList_buildTo rfl 41 _ rfl (some 227) rfl rowZ rowZ_built ?_) | (refine wpList_store_at rfl 41 (.tmp 4) (.tmp 227) rfl rfl w.heap.size 41 rowZ rowZ HA.out rfl rfl rowZ_info rfl rowZ_one ?_))
      have hzr := at_setRow HA.out rowZ
      have hbr : Below w.heap.size w (W9.setRow w.heap.size rowZ) := HBW.out.trans ((mod_setRow W9 w.heap.size rowZ).below HBW.out.size (fun x e => by omega))
      refine bodyPost_ret (results_ct rfl _ _ w.heap.size 41 rowZ (0, 0) _ rfl hzr Tryd.underlying41 rfl rowZ_info) rfl ?_
      refine ⟨rowZ, ?_, rowZ_size, rowZ_one, ?_, hbr⟩
      · rw [hon]; rfl
      · rw [hon]; intro h; cases h
end Go.Proofs.YtcgjacffemjehaaDoor

namespace Go.Proofs.YtcgjacffemjehaaDoor
open Go.RowKit
open Go.Proofs.YtcgjacffemjehaaDoorW.PrintWords (Kd rdOf results_ct)
open Go.Proofs.YtcgjacffemjehaaDoor.PRowReads
set_option linter.unusedVariables false
set_option linter.unusedSimpArgs false
set_option maxHeartbeats 8000000 in
set_option maxRecDepth 100000 in
theorem docFamily (w : World) (s : ByteArray) (hs : s.size ≤ 1048576) :
    Calls Tryd.prog 7 #[.int .i64 3, .string s] w (DocPost (rowFamily ((unR (familyR s.data.toList false)).getD z29)) (unR (familyR s.data.toList false)).isSome w) := by
  rw [familyCod.same dFamilyCod]
  have hsl := str_len s
  obtain ⟨o, ho⟩ : ∃ o, unR (dFamily s.data.toList false) = o := ⟨_, rfl⟩
  rw [ho]
  have HO := hid ho
  clear ho
  have hbw0 : Below w.heap.size w (((w.alloc (.cells rowZ 41)).alloc (.cells #[.string s, .bool true] 73)).alloc (.cells (rowK 3) 41)) := (((Below.refl w.heap.size w).alloc (Nat.le_refl _) _).alloc (by simp) _).alloc (by simp; omega) _
  have ha0 : AtB (((w.alloc (.cells rowZ 41)).alloc (.cells #[.string s, .bool true] 73)).alloc (.cells (rowK 3) 41)) w.heap.size 41 rowZ := ((at_make rfl).alloc _).alloc _
  have hi0 : InAt (((w.alloc (.cells rowZ 41)).alloc (.cells #[.string s, .bool true] 73)).alloc (.cells (rowK 3) 41)) (w.heap.size + 1) s.data.toList false := ⟨s, rfl, (at_make (by simp)).alloc _⟩
  have hx0 : AtB (((w.alloc (.cells rowZ 41)).alloc (.cells #[.string s, .bool true] 73)).alloc (.cells (rowK 3) 41)) (w.heap.size + 1 + 1) 41 (rowK 3) := at_make (by simp)
  have hz0 : (((w.alloc (.cells rowZ 41)).alloc (.cells #[.string s, .bool true] 73)).alloc (.cells (rowK 3) 41)).heap.size = w.heap.size + 1 + 1 + 1 := by simp
  obtain ⟨y0, l1, b1, e0⟩ := trip (dText s.data.toList false)
  obtain ⟨y1, l2, b2, e1⟩ := trip (dText l1 b1)
  obtain ⟨y2, l3, b3, e2⟩ := trip (dText l2 b2)
  obtain ⟨y3, l4, b4, e3⟩ := trip (dList dText l3 b3)
  obtain ⟨y4, l5, b5, e4⟩ := trip (dNum l4 b4)
  obtain ⟨y5, l6, b6, e5⟩ := trip (dNum l5 b5)
  obtain ⟨y6, l7, b7, e6⟩ := trip (dTruth l6 b6)
  have hd : dFamily s.data.toList false = ((⟨y0, y1, y2, y3, y4, y5, y6⟩, l7, b7) : S29 × List UInt8 × Bool) := by unfold dFamily; simp only [andR, e0, e1, e2, e3, e4, e5, e6]
  have HD := hid hd
  have HE0 := hid e0
  have HE1 := hid e1
  have HE2 := hid e2
  have HE3 := hid e3
  have HE4 := hid e4
  have HE5 := hid e5
  have HE6 := hid e6
  have hc := text_in hi0
  rw [e0] at hc
  have HC := hid hc
  have HBW := hid hbw0
  have HA := hid ha0
  have HX := hid hx0
  clear hd hc hbw0 ha0 hx0 hi0 e0 e1 e2 e3 e4 e5 e6
  obtain ⟨W0, hW0⟩ : ∃ W, (((w.alloc (.cells rowZ 41)).alloc (.cells #[.string s, .bool true] 73)).alloc (.cells (rowK 3) 41)) = W := ⟨_, rfl⟩
  have HW0 := hid hW0
  rw [hW0] at HC HBW HA HX hz0
  go_enter Tryd.func7, Tryd.ntmps7
  go_wp2_with (first | (refine wpList_allocTo rfl (some 4) rfl _ _ (run_allocRow _ _ rfl _) ?_) | (refine wpList_allocTo rfl (some 7) rfl _ _ (run_allocRow _ _ rfl _) ?_) | (refine wpList_buildTo rfl 41 _ rfl (some 12) rfl (rowK 3) (by kernel_rfl) ?_) | (refine wpList_store_new rfl 41 (.tmp 7) (.tmp 12) rfl rfl ((w.alloc (.cells rowZ 41)).alloc (.cells #[.string s, .bool true] 73)) 41 rowZ (rowK 3) rfl (by simp only [World.size_alloc]; rfl) rfl (by kernel_rfl) (by kernel_rfl) (by kernel_rfl) ?_))
  clear hW0 HW0
  go_at_call 21
  refine HC.out.mono ?_
  clear HC
  rintro e u0 ⟨rfl, hi0, hm0⟩
  have hxu0 : AtB u0 (w.heap.size + 1 + 1) 41 (rowK 3) := hm0.heap HX.out (show ¬ ((w.heap.size + 1 + 1) = (w.heap.size + 1)) by omega)
  have hvs0 : ((rowK 3)).size = 46 := by exact rowK_size 3
  obtain ⟨q0, hq0⟩ := hxu0.some 13 (by rw [hvs0]; omega)
  have hf0 := hxu0.free 13
  have hxn : AtB (u0.setCell ⟨(w.heap.size + 1 + 1), 13, none⟩ (.string y0)) (w.heap.size + 1 + 1) 41 (((rowK 3)).setIfInBounds 13 (.string y0)) := hxu0.set 13 (.string y0)
  have hmn : Mod (fun k => k = (w.heap.size + 1 + 1) ∨ k = (w.heap.size + 1)) W0 (u0.setCell ⟨(w.heap.size + 1 + 1), 13, none⟩ (.string y0)) := (hm0.mono (fun _ _ e => .inr e)).setCell ⟨(w.heap.size + 1 + 1), 13, none⟩ (.string y0) (.inl (.inl rfl))
  have hin : InAt (u0.setCell ⟨(w.heap.size + 1 + 1), 13, none⟩ (.string y0)) (w.heap.size + 1) l1 b1 := hi0.mod (mod_set u0 (w.heap.size + 1 + 1) 13 (.string y0)) (show ¬ ((w.heap.size + 1) = (w.heap.size + 1 + 1)) by omega)
  have hzn : w.heap.size + 1 + 1 + 1 ≤ (u0.setCell ⟨(w.heap.size + 1 + 1), 13, none⟩ (.string y0)).heap.size := by have := hmn.size; omega
  have hc := text_in hin
  rw [HE1.out] at hc
  go_wp2_with fail
  generalize u0.setCell ⟨(w.heap.size + 1 + 1), 13, none⟩ (.string y0) = W1 at hxn hmn hin hzn hc ⊢
  have HBW := hid (HBW.out.trans (hmn.below (by omega) (fun x e => by omega)))
  have HA := hid (hmn.heap HA.out (show ¬ (w.heap.size = (w.heap.size + 1 + 1) ∨ w.heap.size = (w.heap.size + 1)) by omega))
  have HX := hid hxn
  have HI := hid hin
  have HC := hid hc
  clear hxn hmn hin hc hxu0 hvs0 hq0 hf0 hi0 hm0
  have hz1 := hzn
  clear hzn
  go_at_call 21
  refine HC.out.mono ?_
  clear HC
  rintro e u1 ⟨rfl, hi1, hm1⟩
  have hxu1 : AtB u1 (w.heap.size + 1 + 1) 41 ((rowK 3).setIfInBounds 13 (.string y0)) := hm1.heap HX.out (show ¬ ((w.heap.size + 1 + 1) = (w.heap.size + 1)) by omega)
  have hvs1 : (((rowK 3).setIfInBounds 13 (.string y0))).size = 46 := by simp only [Array.size_setIfInBounds]; exact rowK_size 3
  obtain ⟨q1, hq1⟩ := hxu1.some 14 (by rw [hvs1]; omega)
  have hf1 := hxu1.free 14
  have hxn : AtB (u1.setCell ⟨(w.heap.size + 1 + 1), 14, none⟩ (.string y1)) (w.heap.size + 1 + 1) 41 ((((rowK 3).setIfInBounds 13 (.string y0))).setIfInBounds 14 (.string y1)) := hxu1.set 14 (.string y1)
  have hmn : Mod (fun k => k = (w.heap.size + 1 + 1) ∨ k = (w.heap.size + 1)) W1 (u1.setCell ⟨(w.heap.size + 1 + 1), 14, none⟩ (.string y1)) := (hm1.mono (fun _ _ e => .inr e)).setCell ⟨(w.heap.size + 1 + 1), 14, none⟩ (.string y1) (.inl (.inl rfl))
  have hin : InAt (u1.setCell ⟨(w.heap.size + 1 + 1), 14, none⟩ (.string y1)) (w.heap.size + 1) l2 b2 := hi1.mod (mod_set u1 (w.heap.size + 1 + 1) 14 (.string y1)) (show ¬ ((w.heap.size + 1) = (w.heap.size + 1 + 1)) by omega)
  have hzn : w.heap.size + 1 + 1 + 1 ≤ (u1.setCell ⟨(w.heap.size + 1 + 1), 14, none⟩ (.string y1)).heap.size := by have := hmn.size; omega
  have hc := text_in hin
  rw [HE2.out] at hc
  go_wp2_with fail
  generalize u1.setCell ⟨(w.heap.size + 1 + 1), 14, none⟩ (.string y1) = W2 at hxn hmn hin hzn hc ⊢
  have HBW := hid (HBW.out.trans (hmn.below (by omega) (fun x e => by omega)))
  have HA := hid (hmn.heap HA.out (show ¬ (w.heap.size = (w.heap.size + 1 + 1) ∨ w.heap.size = (w.heap.size + 1)) by omega))
  have HX := hid hxn
  have HI := hid hin
  have HC := hid hc
  clear hxn hmn hin hc hxu1 hvs1 hq1 hf1 hi1 hm1
  have hz2 := hzn
  clear hzn
  go_at_call 21
  refine HC.out.mono ?_
  clear HC
  rintro e u2 ⟨rfl, hi2, hm2⟩
  have hxu2 : AtB u2 (w.heap.size + 1 + 1) 41 (((rowK 3).setIfInBounds 13 (.string y0)).setIfInBounds 14 (.string y1)) := hm2.heap HX.out (show ¬ ((w.heap.size + 1 + 1) = (w.heap.size + 1)) by omega)
  have hvs2 : ((((rowK 3).setIfInBounds 13 (.string y0)).setIfInBounds 14 (.string y1))).size = 46 := by simp only [Array.size_setIfInBounds]; exact rowK_size 3
  obtain ⟨q2, hq2⟩ := hxu2.some 15 (by rw [hvs2]; omega)
  have hf2 := hxu2.free 15
  have hxn : AtB (u2.setCell ⟨(w.heap.size + 1 + 1), 15, none⟩ (.string y2)) (w.heap.size + 1 + 1) 41 (((((rowK 3).setIfInBounds 13 (.string y0)).setIfInBounds 14 (.string y1))).setIfInBounds 15 (.string y2)) := hxu2.set 15 (.string y2)
  have hmn : Mod (fun k => k = (w.heap.size + 1 + 1) ∨ k = (w.heap.size + 1)) W2 (u2.setCell ⟨(w.heap.size + 1 + 1), 15, none⟩ (.string y2)) := (hm2.mono (fun _ _ e => .inr e)).setCell ⟨(w.heap.size + 1 + 1), 15, none⟩ (.string y2) (.inl (.inl rfl))
  have hin : InAt (u2.setCell ⟨(w.heap.size + 1 + 1), 15, none⟩ (.string y2)) (w.heap.size + 1) l3 b3 := hi2.mod (mod_set u2 (w.heap.size + 1 + 1) 15 (.string y2)) (show ¬ ((w.heap.size + 1) = (w.heap.size + 1 + 1)) by omega)
  have hzn : w.heap.size + 1 + 1 + 1 ≤ (u2.setCell ⟨(w.heap.size + 1 + 1), 15, none⟩ (.string y2)).heap.size := by have := hmn.size; omega
  have hc := texts_in hin
  rw [HE3.out] at hc
  go_wp2_with fail
  generalize u2.setCell ⟨(w.heap.size + 1 + 1), 15, none⟩ (.string y2) = W3 at hxn hmn hin hzn hc ⊢
  have HBW := hid (HBW.out.trans (hmn.below (by omega) (fun x e => by omega)))
  have HA := hid (hmn.heap HA.out (show ¬ (w.heap.size = (w.heap.size + 1 + 1) ∨ w.heap.size = (w.heap.size + 1)) by omega))
  have HX := hid hxn
  have HI := hid hin
  have HC := hid hc
  clear hxn hmn hin hc hxu2 hvs2 hq2 hf2 hi2 hm2
  have hz3 := hzn
  clear hzn
  go_at_call 22
  refine HC.out.mono ?_
  clear HC
  rintro e u3 ⟨v3, rfl, hr3, hi3, hm3⟩
  obtain ⟨A3, m3, c3, rfl⟩ := r_form hr3
  have hxu3 : AtB u3 (w.heap.size + 1 + 1) 41 ((((rowK 3).setIfInBounds 13 (.string y0)).setIfInBounds 14 (.string y1)).setIfInBounds 15 (.string y2)) := hm3.heap HX.out (show ¬ ((w.heap.size + 1 + 1) = (w.heap.size + 1)) by omega)
  have hvs3 : (((((rowK 3).setIfInBounds 13 (.string y0)).setIfInBounds 14 (.string y1)).setIfInBounds 15 (.string y2))).size = 46 := by simp only [Array.size_setIfInBounds]; exact rowK_size 3
  obtain ⟨q3, hq3⟩ := hxu3.some 16 (by rw [hvs3]; omega)
  have hf3 := hxu3.free 16
  have hxn : AtB (u3.setCell ⟨(w.heap.size + 1 + 1), 16, none⟩ (.slice A3 m3 c3)) (w.heap.size + 1 + 1) 41 ((((((rowK 3).setIfInBounds 13 (.string y0)).setIfInBounds 14 (.string y1)).setIfInBounds 15 (.string y2))).setIfInBounds 16 (.slice A3 m3 c3)) := hxu3.set 16 (.slice A3 m3 c3)
  have hmn : Mod (fun k => k = (w.heap.size + 1 + 1) ∨ k = (w.heap.size + 1)) W3 (u3.setCell ⟨(w.heap.size + 1 + 1), 16, none⟩ (.slice A3 m3 c3)) := (hm3.mono (fun _ _ e => .inr e)).setCell ⟨(w.heap.size + 1 + 1), 16, none⟩ (.slice A3 m3 c3) (.inl (.inl rfl))
  have hin : InAt (u3.setCell ⟨(w.heap.size + 1 + 1), 16, none⟩ (.slice A3 m3 c3)) (w.heap.size + 1) l4 b4 := hi3.mod (mod_set u3 (w.heap.size + 1 + 1) 16 (.slice A3 m3 c3)) (show ¬ ((w.heap.size + 1) = (w.heap.size + 1 + 1)) by omega)
  have hzn : w.heap.size + 1 + 1 + 1 ≤ (u3.setCell ⟨(w.heap.size + 1 + 1), 16, none⟩ (.slice A3 m3 c3)).heap.size := by have := hmn.size; omega
  have hrn3 : Kd.string.R 9 (u3.setCell ⟨(w.heap.size + 1 + 1), 16, none⟩ (.slice A3 m3 c3)) (w.heap.size + 1 + 1 + 1) (fun _ => True) (.slice A3 m3 c3) y3 := Kd.R_lower (r_mod hr3 (mod_set u3 (w.heap.size + 1 + 1) 16 (.slice A3 m3 c3)) (fun k e => .inl (by have e2 : k = (w.heap.size + 1 + 1) := e; omega))) (by omega)
  have hc := num_in hin
  rw [HE4.out] at hc
  go_wp2_with fail
  generalize u3.setCell ⟨(w.heap.size + 1 + 1), 16, none⟩ (.slice A3 m3 c3) = W4 at hxn hmn hin hzn hrn3 hc ⊢
  have HBW := hid (HBW.out.trans (hmn.below (by omega) (fun x e => by omega)))
  have HA := hid (hmn.heap HA.out (show ¬ (w.heap.size = (w.heap.size + 1 + 1) ∨ w.heap.size = (w.heap.size + 1)) by omega))
  have HX := hid hxn
  have HI := hid hin
  have HR3 := hid hrn3
  have HC := hid hc
  clear hxn hmn hin hrn3 hc hxu3 hvs3 hq3 hf3 hi3 hm3 hr3
  have hz4 := hzn
  clear hzn
  go_at_call 24
  refine HC.out.mono ?_
  clear HC
  rintro e u4 ⟨rfl, hi4, hm4⟩
  have hxu4 : AtB u4 (w.heap.size + 1 + 1) 41 (((((rowK 3).setIfInBounds 13 (.string y0)).setIfInBounds 14 (.string y1)).setIfInBounds 15 (.string y2)).setIfInBounds 16 (.slice A3 m3 c3)) := hm4.heap HX.out (show ¬ ((w.heap.size + 1 + 1) = (w.heap.size + 1)) by omega)
  have hvs4 : ((((((rowK 3).setIfInBounds 13 (.string y0)).setIfInBounds 14 (.string y1)).setIfInBounds 15 (.string y2)).setIfInBounds 16 (.slice A3 m3 c3))).size = 46 := by simp only [Array.size_setIfInBounds]; exact rowK_size 3
  obtain ⟨q4, hq4⟩ := hxu4.some 17 (by rw [hvs4]; omega)
  have hf4 := hxu4.free 17
  have hxn : AtB (u4.setCell ⟨(w.heap.size + 1 + 1), 17, none⟩ (.int .i64 y4)) (w.heap.size + 1 + 1) 41 (((((((rowK 3).setIfInBounds 13 (.string y0)).setIfInBounds 14 (.string y1)).setIfInBounds 15 (.string y2)).setIfInBounds 16 (.slice A3 m3 c3))).setIfInBounds 17 (.int .i64 y4)) := hxu4.set 17 (.int .i64 y4)
  have hmn : Mod (fun k => k = (w.heap.size + 1 + 1) ∨ k = (w.heap.size + 1)) W4 (u4.setCell ⟨(w.heap.size + 1 + 1), 17, none⟩ (.int .i64 y4)) := (hm4.mono (fun _ _ e => .inr e)).setCell ⟨(w.heap.size + 1 + 1), 17, none⟩ (.int .i64 y4) (.inl (.inl rfl))
  have hin : InAt (u4.setCell ⟨(w.heap.size + 1 + 1), 17, none⟩ (.int .i64 y4)) (w.heap.size + 1) l5 b5 := hi4.mod (mod_set u4 (w.heap.size + 1 + 1) 17 (.int .i64 y4)) (show ¬ ((w.heap.size + 1) = (w.heap.size + 1 + 1)) by omega)
  have hzn : w.heap.size + 1 + 1 + 1 ≤ (u4.setCell ⟨(w.heap.size + 1 + 1), 17, none⟩ (.int .i64 y4)).heap.size := by have := hmn.size; omega
  have hrn3 := r_mod HR3.out hmn (fun k e => .inl (by omega))
  clear HR3
  have hc := num_in hin
  rw [HE5.out] at hc
  go_wp2_with fail
  generalize u4.setCell ⟨(w.heap.size + 1 + 1), 17, none⟩ (.int .i64 y4) = W5 at hxn hmn hin hzn hrn3 hc ⊢
  have HBW := hid (HBW.out.trans (hmn.below (by omega) (fun x e => by omega)))
  have HA := hid (hmn.heap HA.out (show ¬ (w.heap.size = (w.heap.size + 1 + 1) ∨ w.heap.size = (w.heap.size + 1)) by omega))
  have HX := hid hxn
  have HI := hid hin
  have HR3 := hid hrn3
  have HC := hid hc
  clear hxn hmn hin hrn3 hc hxu4 hvs4 hq4 hf4 hi4 hm4
  have hz5 := hzn
  clear hzn
  go_at_call 24
  refine HC.out.mono ?_
  clear HC
  rintro e u5 ⟨rfl, hi5, hm5⟩
  have hxu5 : AtB u5 (w.heap.size + 1 + 1) 41 ((((((rowK 3).setIfInBounds 13 (.string y0)).setIfInBounds 14 (.string y1)).setIfInBounds 15 (.string y2)).setIfInBounds 16 (.slice A3 m3 c3)).setIfInBounds 17 (.int .i64 y4)) := hm5.heap HX.out (show ¬ ((w.heap.size + 1 + 1) = (w.heap.size + 1)) by omega)
  have hvs5 : (((((((rowK 3).setIfInBounds 13 (.string y0)).setIfInBounds 14 (.string y1)).setIfInBounds 15 (.string y2)).setIfInBounds 16 (.slice A3 m3 c3)).setIfInBounds 17 (.int .i64 y4))).size = 46 := by simp only [Array.size_setIfInBounds]; exact rowK_size 3
  obtain ⟨q5, hq5⟩ := hxu5.some 18 (by rw [hvs5]; omega)
  have hf5 := hxu5.free 18
  have hxn : AtB (u5.setCell ⟨(w.heap.size + 1 + 1), 18, none⟩ (.int .i64 y5)) (w.heap.size + 1 + 1) 41 ((((((((rowK 3).setIfInBounds 13 (.string y0)).setIfInBounds 14 (.string y1)).setIfInBounds 15 (.string y2)).setIfInBounds 16 (.slice A3 m3 c3)).setIfInBounds 17 (.int .i64 y4))).setIfInBounds 18 (.int .i64 y5)) := hxu5.set 18 (.int .i64 y5)
  have hmn : Mod (fun k => k = (w.heap.size + 1 + 1) ∨ k = (w.heap.size + 1)) W5 (u5.setCell ⟨(w.heap.size + 1 + 1), 18, none⟩ (.int .i64 y5)) := (hm5.mono (fun _ _ e => .inr e)).setCell ⟨(w.heap.size + 1 + 1), 18, none⟩ (.int .i64 y5) (.inl (.inl rfl))
  have hin : InAt (u5.setCell ⟨(w.heap.size + 1 + 1), 18, none⟩ (.int .i64 y5)) (w.heap.size + 1) l6 b6 := hi5.mod (mod_set u5 (w.heap.size + 1 + 1) 18 (.int .i64 y5)) (show ¬ ((w.heap.size + 1) = (w.heap.size + 1 + 1)) by omega)
  have hzn : w.heap.size + 1 + 1 + 1 ≤ (u5.setCell ⟨(w.heap.size + 1 + 1), 18, none⟩ (.int .i64 y5)).heap.size := by have := hmn.size; omega
  have hrn3 := r_mod HR3.out hmn (fun k e => .inl (by omega))
  clear HR3
  have hc := truth_in hin
  rw [HE6.out] at hc
  go_wp2_with fail
  generalize u5.setCell ⟨(w.heap.size + 1 + 1), 18, none⟩ (.int .i64 y5) = W6 at hxn hmn hin hzn hrn3 hc ⊢
  have HBW := hid (HBW.out.trans (hmn.below (by omega) (fun x e => by omega)))
  have HA := hid (hmn.heap HA.out (show ¬ (w.heap.size = (w.heap.size + 1 + 1) ∨ w.heap.size = (w.heap.size + 1)) by omega))
  have HX := hid hxn
  have HI := hid hin
  have HR3 := hid hrn3
  have HC := hid hc
  clear hxn hmn hin hrn3 hc hxu5 hvs5 hq5 hf5 hi5 hm5
  have hz6 := hzn
  clear hzn
  go_at_call 23
  refine HC.out.mono ?_
  clear HC
  rintro e u6 ⟨rfl, hi6, hm6⟩
  have hxu6 : AtB u6 (w.heap.size + 1 + 1) 41 (((((((rowK 3).setIfInBounds 13 (.string y0)).setIfInBounds 14 (.string y1)).setIfInBounds 15 (.string y2)).setIfInBounds 16 (.slice A3 m3 c3)).setIfInBounds 17 (.int .i64 y4)).setIfInBounds 18 (.int .i64 y5)) := hm6.heap HX.out (show ¬ ((w.heap.size + 1 + 1) = (w.heap.size + 1)) by omega)
  have hvs6 : ((((((((rowK 3).setIfInBounds 13 (.string y0)).setIfInBounds 14 (.string y1)).setIfInBounds 15 (.string y2)).setIfInBounds 16 (.slice A3 m3 c3)).setIfInBounds 17 (.int .i64 y4)).setIfInBounds 18 (.int .i64 y5))).size = 46 := by simp only [Array.size_setIfInBounds]; exact rowK_size 3
  obtain ⟨q6, hq6⟩ := hxu6.some 19 (by rw [hvs6]; omega)
  have hf6 := hxu6.free 19
  have hxn : AtB (u6.setCell ⟨(w.heap.size + 1 + 1), 19, none⟩ (.bool y6)) (w.heap.size + 1 + 1) 41 (((((((((rowK 3).setIfInBounds 13 (.string y0)).setIfInBounds 14 (.string y1)).setIfInBounds 15 (.string y2)).setIfInBounds 16 (.slice A3 m3 c3)).setIfInBounds 17 (.int .i64 y4)).setIfInBounds 18 (.int .i64 y5))).setIfInBounds 19 (.bool y6)) := hxu6.set 19 (.bool y6)
  have hmn : Mod (fun k => k = (w.heap.size + 1 + 1) ∨ k = (w.heap.size + 1)) W6 (u6.setCell ⟨(w.heap.size + 1 + 1), 19, none⟩ (.bool y6)) := (hm6.mono (fun _ _ e => .inr e)).setCell ⟨(w.heap.size + 1 + 1), 19, none⟩ (.bool y6) (.inl (.inl rfl))
  have hin : InAt (u6.setCell ⟨(w.heap.size + 1 + 1), 19, none⟩ (.bool y6)) (w.heap.size + 1) l7 b7 := hi6.mod (mod_set u6 (w.heap.size + 1 + 1) 19 (.bool y6)) (show ¬ ((w.heap.size + 1) = (w.heap.size + 1 + 1)) by omega)
  have hzn : w.heap.size + 1 + 1 + 1 ≤ (u6.setCell ⟨(w.heap.size + 1 + 1), 19, none⟩ (.bool y6)).heap.size := by have := hmn.size; omega
  have hrn3 := r_mod HR3.out hmn (fun k e => .inl (by omega))
  clear HR3
  go_wp2_with (refine wpList_stop (some 212) rfl ?_)
  generalize u6.setCell ⟨(w.heap.size + 1 + 1), 19, none⟩ (.bool y6) = W7 at hxn hmn hin hzn hrn3 ⊢
  have HBW := hid (HBW.out.trans (hmn.below (by omega) (fun x e => by omega)))
  have HA := hid (hmn.heap HA.out (show ¬ (w.heap.size = (w.heap.size + 1 + 1) ∨ w.heap.size = (w.heap.size + 1)) by omega))
  have HX := hid hxn
  have HI := hid hin
  have HR3 := hid hrn3
  clear hxn hmn hin hrn3 hxu6 hvs6 hq6 hf6 hi6 hm6
  have hz7 := hzn
  clear hzn
  obtain ⟨S, hS, hsa⟩ := HI.out
  have cS : W7.cell? ⟨(w.heap.size + 1), 0, none⟩ = some (.string S) := hsa.cell 0
  have cB : W7.cell? ⟨(w.heap.size + 1), 1, none⟩ = some (.bool (!b7)) := hsa.cell 1
  clear hsa
  obtain ⟨V, hV⟩ : ∃ V, ((((((((rowK 3).setIfInBounds 13 (.string y0)).setIfInBounds 14 (.string y1)).setIfInBounds 15 (.string y2)).setIfInBounds 16 (.slice A3 m3 c3)).setIfInBounds 17 (.int .i64 y4)).setIfInBounds 18 (.int .i64 y5)).setIfInBounds 19 (.bool y6)) = V := ⟨_, rfl⟩
  rw [hV] at HX
  have HV := hid hV
  have hVs : V.size = 46 := by rw [← hV]; simp only [Array.size_setIfInBounds]; exact rowK_size 3
  have hV1 : V.all (·.oneCell') = true := by rw [← hV]; kernel_rfl
  have hVi : (Tryd.prog.info? 41).map (·.size) = some V.size := by rw [hVs]; exact rowInfo
  clear hV
  have HUN := hid (show unR (dFamily s.data.toList false) = unR ((⟨y0, y1, y2, y3, y4, y5, y6⟩, l7, b7) : S29 × List UInt8 × Bool) by rw [HD.out])
  cases b7 with
  | true =>
    have cB : W7.cell? ⟨(w.heap.size + 1), 1, none⟩ = some (.bool false) := cB
    have hon : o = none := by rw [← HO.out, HUN.out]; exact if_pos (.inl rfl)
    refine Stood.mk ?_
    go_wp2_with (first | (refine wpList_buildTo rfl 41 _ rfl (some 227) rfl rowZ rowZ_built ?_) | (refine wpList_store_at rfl 41 (.tmp 4) (.tmp 227) rfl rfl w.heap.size 41 rowZ rowZ HA.out rfl rfl rowZ_info rfl rowZ_one ?_))
    have hzr := at_setRow HA.out rowZ
    have hbr : Below w.heap.size w (W7.setRow w.heap.size rowZ) := HBW.out.trans ((mod_setRow W7 w.heap.size rowZ).below HBW.out.size (fun x e => by omega))
    refine bodyPost_ret (results_ct rfl _ _ w.heap.size 41 rowZ (0, 0) _ rfl hzr Tryd.underlying41 rfl rowZ_info) rfl ?_
    refine ⟨rowZ, ?_, rowZ_size, rowZ_one, ?_, hbr⟩
    · rw [hon]; rfl
    · rw [hon]; intro h; cases h
  | false =>
    have cB : W7.cell? ⟨(w.heap.size + 1), 1, none⟩ = some (.bool true) := cB
    by_cases hS0 : S.size = 0
    · have hSe : S = ⟨#[]⟩ := by
        apply ByteArray.ext
        exact Array.eq_empty_of_size_eq_zero hS0
      subst hSe
      have hl0 : l7 = [] := by rw [← hS]
      have hon : o = some (⟨y0, y1, y2, y3, y4, y5, y6⟩) := by rw [← HO.out, HUN.out]; exact if_neg (by simp [hl0])
      obtain ⟨hb, hcc⟩ := dFamilyCod.un_bwd (HO.out.trans hon)
      have hsm := smallFamily (by rw [← hb, str_len]; exact hs) hcc
      have hfin := k41_mkM W7 (w.heap.size + 1 + 1 + 1) (fun _ => True) (rowFamily (⟨y0, y1, y2, y3, y4, y5, y6⟩)) (Kd.R_nil _ _ _ _ _) (Kd.R_nil _ _ _ _ _) HR3.out (Kd.R_nil _ _ _ _ _) (Kd.R_nil _ _ _ _ _) (Kd.R_nil _ _ _ _ _) (Kd.R_nil _ _ _ _ _) (Kd.R_nil _ _ _ _ _)
      have key : ∀ c c', c = c' → k41.M W7 (w.heap.size + 1 + 1 + 1) (fun _ => True) (rowFamily (⟨y0, y1, y2, y3, y4, y5, y6⟩)) c → k41.M W7 (w.heap.size + 1 + 1 + 1) (fun _ => True) (rowFamily (⟨y0, y1, y2, y3, y4, y5, y6⟩)) c' := fun _ _ e h => e ▸ h
      have hVM : k41.M W7 (w.heap.size + 1 + 1 + 1) (fun _ => True) (rowFamily (⟨y0, y1, y2, y3, y4, y5, y6⟩)) V.toList := by
        rw [← HV.out]
        exact key _ _ (by kernel_rfl) hfin
      have HVM := hid hVM
      have hK : k41.K W7 (rowFamily (⟨y0, y1, y2, y3, y4, y5, y6⟩)) V.toList := by
        exact k41.K_of_M hVM
      have hby := refBytes_at W7 V _ hK hsm.1 hsm.2
      have hbs : rowB (rowFamily (⟨y0, y1, y2, y3, y4, y5, y6⟩)) = s.data.toList := by rw [hb]; unfold rowB rowFamily; simp
      rw [hbs] at hby
      have HBY := hid hby
      have HK := hid hK
      clear hfin key hVM hK hby hbs hcc hb hsm hl0 hS hS0
      refine Stood.mk ?_
      go_wp2_with (first | (refine wpList_load_rowH (by rfl) 41 (.tmp 7) rfl (w.heap.size + 1 + 1) rfl 41 V (0, 0) _ HX.out Tryd.underlying41 rfl hVi ?_))
      refine HBY.out.mono ?_
      clear HBY
      rintro e u9 ⟨rfl, hb9⟩
      have hx9 : AtB u9 (w.heap.size + 1 + 1) 41 V := (hb9.block _ (lt_of_heap HX.out)).trans HX.out
      have ha9 : AtB u9 w.heap.size 41 rowZ := (hb9.block _ (lt_of_heap HA.out)).trans HA.out
      have HX9 := hid hx9
      have HA9 := hid ha9
      have HB9 := hid (below_then HBW.out hb9)
      have HK9 := hid (k41.M_bound (k41.M_below HVM.out hb9))
      clear hx9 ha9 hb9
      go_wp2_with (first | (refine wpList_load_row rfl 41 (.tmp 7) rfl (w.heap.size + 1 + 1) rfl 41 V (0, 0) _ HX9.out Tryd.underlying41 rfl hVi ?_) | (refine wpList_store_at rfl 41 (.tmp 4) (.tmp 228) rfl rfl w.heap.size 41 rowZ V HA9.out rfl rfl hVi (by rw [hVs]; rfl) hV1 ?_))
      have hzr := at_setRow HA9.out V
      have hbr : Below w.heap.size w (u9.setRow w.heap.size V) := HB9.out.trans ((mod_setRow u9 w.heap.size V).below HB9.out.size (fun x e => by omega))
      refine bodyPost_ret (results_ct rfl _ _ w.heap.size 41 V (0, 0) _ rfl hzr Tryd.underlying41 rfl hVi) rfl ?_
      have hK9 := k41.K_of_M (k41.M_step HK9.out (fun k hk hlt => (mod_setRow u9 w.heap.size V).block k hlt (show ¬ (k = w.heap.size) by have := hk.2.1; omega)))
      refine ⟨V, by rw [hon]; rfl, hVs, hV1, fun _ => by rw [hon]; exact hK9, hbr⟩
    · have hon : o = none := by
        rw [← HO.out, HUN.out]
        exact if_pos (.inr (by show 0 < l7.length; rw [← hS, str_len]; omega))
      have n1 := str_ne_empty S (by omega)
      have n2 := str_not_empty S (by omega)
      refine Stood.mk ?_
      go_wp2_with (first | (refine wpList_buildTo rfl 41 _ rfl (some 227) rfl rowZ rowZ_built ?_) | (refine wpList_store_at rfl 41 (.tmp 4) (.tmp 227) rfl rfl w.heap.size 41 rowZ rowZ HA.out rfl rfl rowZ_info rfl rowZ_one ?_))
      have hzr := at_setRow HA.out rowZ
      have hbr : Below w.heap.size w (W7.setRow w.heap.size rowZ) := HBW.out.trans ((mod_setRow W7 w.heap.size rowZ).below HBW.out.size (fun x e => by omega))
      refine bodyPost_ret (results_ct rfl _ _ w.heap.size 41 rowZ (0, 0) _ rfl hzr Tryd.underlying41 rfl rowZ_info) rfl ?_
      refine ⟨rowZ, ?_, rowZ_size, rowZ_one, ?_, hbr⟩
      · rw [hon]; rfl
      · rw [hon]; intro h; cases h
end Go.Proofs.YtcgjacffemjehaaDoor

namespace Go.Proofs.YtcgjacffemjehaaDoor
open Go.RowKit
open Go.Proofs.YtcgjacffemjehaaDoorW.PrintWords (Kd rdOf results_ct)
open Go.Proofs.YtcgjacffemjehaaDoor.PRowReads
set_option linter.unusedVariables false
set_option linter.unusedSimpArgs false
set_option maxHeartbeats 8000000 in
set_option maxRecDepth 100000 in
theorem docRefresh (w : World) (s : ByteArray) (hs : s.size ≤ 1048576) :
    Calls Tryd.prog 7 #[.int .i64 4, .string s] w (DocPost (rowRefresh ((unR (refreshR s.data.toList false)).getD z31)) (unR (refreshR s.data.toList false)).isSome w) := by
  rw [refreshCod.same dRefreshCod]
  have hsl := str_len s
  obtain ⟨o, ho⟩ : ∃ o, unR (dRefresh s.data.toList false) = o := ⟨_, rfl⟩
  rw [ho]
  have HO := hid ho
  clear ho
  have hbw0 : Below w.heap.size w (((w.alloc (.cells rowZ 41)).alloc (.cells #[.string s, .bool true] 73)).alloc (.cells (rowK 4) 41)) := (((Below.refl w.heap.size w).alloc (Nat.le_refl _) _).alloc (by simp) _).alloc (by simp; omega) _
  have ha0 : AtB (((w.alloc (.cells rowZ 41)).alloc (.cells #[.string s, .bool true] 73)).alloc (.cells (rowK 4) 41)) w.heap.size 41 rowZ := ((at_make rfl).alloc _).alloc _
  have hi0 : InAt (((w.alloc (.cells rowZ 41)).alloc (.cells #[.string s, .bool true] 73)).alloc (.cells (rowK 4) 41)) (w.heap.size + 1) s.data.toList false := ⟨s, rfl, (at_make (by simp)).alloc _⟩
  have hx0 : AtB (((w.alloc (.cells rowZ 41)).alloc (.cells #[.string s, .bool true] 73)).alloc (.cells (rowK 4) 41)) (w.heap.size + 1 + 1) 41 (rowK 4) := at_make (by simp)
  have hz0 : (((w.alloc (.cells rowZ 41)).alloc (.cells #[.string s, .bool true] 73)).alloc (.cells (rowK 4) 41)).heap.size = w.heap.size + 1 + 1 + 1 := by simp
  obtain ⟨y0, l1, b1, e0⟩ := trip (dText s.data.toList false)
  obtain ⟨y1, l2, b2, e1⟩ := trip (dText l1 b1)
  obtain ⟨y2, l3, b3, e2⟩ := trip (dNum l2 b2)
  have hd : dRefresh s.data.toList false = ((⟨y0, y1, y2⟩, l3, b3) : S31 × List UInt8 × Bool) := by unfold dRefresh; simp only [andR, e0, e1, e2]
  have HD := hid hd
  have HE0 := hid e0
  have HE1 := hid e1
  have HE2 := hid e2
  have hc := text_in hi0
  rw [e0] at hc
  have HC := hid hc
  have HBW := hid hbw0
  have HA := hid ha0
  have HX := hid hx0
  clear hd hc hbw0 ha0 hx0 hi0 e0 e1 e2
  obtain ⟨W0, hW0⟩ : ∃ W, (((w.alloc (.cells rowZ 41)).alloc (.cells #[.string s, .bool true] 73)).alloc (.cells (rowK 4) 41)) = W := ⟨_, rfl⟩
  have HW0 := hid hW0
  rw [hW0] at HC HBW HA HX hz0
  go_enter Tryd.func7, Tryd.ntmps7
  go_wp2_with (first | (refine wpList_allocTo rfl (some 4) rfl _ _ (run_allocRow _ _ rfl _) ?_) | (refine wpList_allocTo rfl (some 7) rfl _ _ (run_allocRow _ _ rfl _) ?_) | (refine wpList_buildTo rfl 41 _ rfl (some 12) rfl (rowK 4) (by kernel_rfl) ?_) | (refine wpList_store_new rfl 41 (.tmp 7) (.tmp 12) rfl rfl ((w.alloc (.cells rowZ 41)).alloc (.cells #[.string s, .bool true] 73)) 41 rowZ (rowK 4) rfl (by simp only [World.size_alloc]; rfl) rfl (by kernel_rfl) (by kernel_rfl) (by kernel_rfl) ?_))
  clear hW0 HW0
  go_at_call 21
  refine HC.out.mono ?_
  clear HC
  rintro e u0 ⟨rfl, hi0, hm0⟩
  have hxu0 : AtB u0 (w.heap.size + 1 + 1) 41 (rowK 4) := hm0.heap HX.out (show ¬ ((w.heap.size + 1 + 1) = (w.heap.size + 1)) by omega)
  have hvs0 : ((rowK 4)).size = 46 := by exact rowK_size 4
  obtain ⟨q0, hq0⟩ := hxu0.some 20 (by rw [hvs0]; omega)
  have hf0 := hxu0.free 20
  have hxn : AtB (u0.setCell ⟨(w.heap.size + 1 + 1), 20, none⟩ (.string y0)) (w.heap.size + 1 + 1) 41 (((rowK 4)).setIfInBounds 20 (.string y0)) := hxu0.set 20 (.string y0)
  have hmn : Mod (fun k => k = (w.heap.size + 1 + 1) ∨ k = (w.heap.size + 1)) W0 (u0.setCell ⟨(w.heap.size + 1 + 1), 20, none⟩ (.string y0)) := (hm0.mono (fun _ _ e => .inr e)).setCell ⟨(w.heap.size + 1 + 1), 20, none⟩ (.string y0) (.inl (.inl rfl))
  have hin : InAt (u0.setCell ⟨(w.heap.size + 1 + 1), 20, none⟩ (.string y0)) (w.heap.size + 1) l1 b1 := hi0.mod (mod_set u0 (w.heap.size + 1 + 1) 20 (.string y0)) (show ¬ ((w.heap.size + 1) = (w.heap.size + 1 + 1)) by omega)
  have hzn : w.heap.size + 1 + 1 + 1 ≤ (u0.setCell ⟨(w.heap.size + 1 + 1), 20, none⟩ (.string y0)).heap.size := by have := hmn.size; omega
  have hc := text_in hin
  rw [HE1.out] at hc
  go_wp2_with fail
  generalize u0.setCell ⟨(w.heap.size + 1 + 1), 20, none⟩ (.string y0) = W1 at hxn hmn hin hzn hc ⊢
  have HBW := hid (HBW.out.trans (hmn.below (by omega) (fun x e => by omega)))
  have HA := hid (hmn.heap HA.out (show ¬ (w.heap.size = (w.heap.size + 1 + 1) ∨ w.heap.size = (w.heap.size + 1)) by omega))
  have HX := hid hxn
  have HI := hid hin
  have HC := hid hc
  clear hxn hmn hin hc hxu0 hvs0 hq0 hf0 hi0 hm0
  have hz1 := hzn
  clear hzn
  go_at_call 21
  refine HC.out.mono ?_
  clear HC
  rintro e u1 ⟨rfl, hi1, hm1⟩
  have hxu1 : AtB u1 (w.heap.size + 1 + 1) 41 ((rowK 4).setIfInBounds 20 (.string y0)) := hm1.heap HX.out (show ¬ ((w.heap.size + 1 + 1) = (w.heap.size + 1)) by omega)
  have hvs1 : (((rowK 4).setIfInBounds 20 (.string y0))).size = 46 := by simp only [Array.size_setIfInBounds]; exact rowK_size 4
  obtain ⟨q1, hq1⟩ := hxu1.some 21 (by rw [hvs1]; omega)
  have hf1 := hxu1.free 21
  have hxn : AtB (u1.setCell ⟨(w.heap.size + 1 + 1), 21, none⟩ (.string y1)) (w.heap.size + 1 + 1) 41 ((((rowK 4).setIfInBounds 20 (.string y0))).setIfInBounds 21 (.string y1)) := hxu1.set 21 (.string y1)
  have hmn : Mod (fun k => k = (w.heap.size + 1 + 1) ∨ k = (w.heap.size + 1)) W1 (u1.setCell ⟨(w.heap.size + 1 + 1), 21, none⟩ (.string y1)) := (hm1.mono (fun _ _ e => .inr e)).setCell ⟨(w.heap.size + 1 + 1), 21, none⟩ (.string y1) (.inl (.inl rfl))
  have hin : InAt (u1.setCell ⟨(w.heap.size + 1 + 1), 21, none⟩ (.string y1)) (w.heap.size + 1) l2 b2 := hi1.mod (mod_set u1 (w.heap.size + 1 + 1) 21 (.string y1)) (show ¬ ((w.heap.size + 1) = (w.heap.size + 1 + 1)) by omega)
  have hzn : w.heap.size + 1 + 1 + 1 ≤ (u1.setCell ⟨(w.heap.size + 1 + 1), 21, none⟩ (.string y1)).heap.size := by have := hmn.size; omega
  have hc := num_in hin
  rw [HE2.out] at hc
  go_wp2_with fail
  generalize u1.setCell ⟨(w.heap.size + 1 + 1), 21, none⟩ (.string y1) = W2 at hxn hmn hin hzn hc ⊢
  have HBW := hid (HBW.out.trans (hmn.below (by omega) (fun x e => by omega)))
  have HA := hid (hmn.heap HA.out (show ¬ (w.heap.size = (w.heap.size + 1 + 1) ∨ w.heap.size = (w.heap.size + 1)) by omega))
  have HX := hid hxn
  have HI := hid hin
  have HC := hid hc
  clear hxn hmn hin hc hxu1 hvs1 hq1 hf1 hi1 hm1
  have hz2 := hzn
  clear hzn
  go_at_call 24
  refine HC.out.mono ?_
  clear HC
  rintro e u2 ⟨rfl, hi2, hm2⟩
  have hxu2 : AtB u2 (w.heap.size + 1 + 1) 41 (((rowK 4).setIfInBounds 20 (.string y0)).setIfInBounds 21 (.string y1)) := hm2.heap HX.out (show ¬ ((w.heap.size + 1 + 1) = (w.heap.size + 1)) by omega)
  have hvs2 : ((((rowK 4).setIfInBounds 20 (.string y0)).setIfInBounds 21 (.string y1))).size = 46 := by simp only [Array.size_setIfInBounds]; exact rowK_size 4
  obtain ⟨q2, hq2⟩ := hxu2.some 22 (by rw [hvs2]; omega)
  have hf2 := hxu2.free 22
  have hxn : AtB (u2.setCell ⟨(w.heap.size + 1 + 1), 22, none⟩ (.int .i64 y2)) (w.heap.size + 1 + 1) 41 (((((rowK 4).setIfInBounds 20 (.string y0)).setIfInBounds 21 (.string y1))).setIfInBounds 22 (.int .i64 y2)) := hxu2.set 22 (.int .i64 y2)
  have hmn : Mod (fun k => k = (w.heap.size + 1 + 1) ∨ k = (w.heap.size + 1)) W2 (u2.setCell ⟨(w.heap.size + 1 + 1), 22, none⟩ (.int .i64 y2)) := (hm2.mono (fun _ _ e => .inr e)).setCell ⟨(w.heap.size + 1 + 1), 22, none⟩ (.int .i64 y2) (.inl (.inl rfl))
  have hin : InAt (u2.setCell ⟨(w.heap.size + 1 + 1), 22, none⟩ (.int .i64 y2)) (w.heap.size + 1) l3 b3 := hi2.mod (mod_set u2 (w.heap.size + 1 + 1) 22 (.int .i64 y2)) (show ¬ ((w.heap.size + 1) = (w.heap.size + 1 + 1)) by omega)
  have hzn : w.heap.size + 1 + 1 + 1 ≤ (u2.setCell ⟨(w.heap.size + 1 + 1), 22, none⟩ (.int .i64 y2)).heap.size := by have := hmn.size; omega
  go_wp2_with (refine wpList_stop (some 212) rfl ?_)
  generalize u2.setCell ⟨(w.heap.size + 1 + 1), 22, none⟩ (.int .i64 y2) = W3 at hxn hmn hin hzn ⊢
  have HBW := hid (HBW.out.trans (hmn.below (by omega) (fun x e => by omega)))
  have HA := hid (hmn.heap HA.out (show ¬ (w.heap.size = (w.heap.size + 1 + 1) ∨ w.heap.size = (w.heap.size + 1)) by omega))
  have HX := hid hxn
  have HI := hid hin
  clear hxn hmn hin hxu2 hvs2 hq2 hf2 hi2 hm2
  have hz3 := hzn
  clear hzn
  obtain ⟨S, hS, hsa⟩ := HI.out
  have cS : W3.cell? ⟨(w.heap.size + 1), 0, none⟩ = some (.string S) := hsa.cell 0
  have cB : W3.cell? ⟨(w.heap.size + 1), 1, none⟩ = some (.bool (!b3)) := hsa.cell 1
  clear hsa
  obtain ⟨V, hV⟩ : ∃ V, ((((rowK 4).setIfInBounds 20 (.string y0)).setIfInBounds 21 (.string y1)).setIfInBounds 22 (.int .i64 y2)) = V := ⟨_, rfl⟩
  rw [hV] at HX
  have HV := hid hV
  have hVs : V.size = 46 := by rw [← hV]; simp only [Array.size_setIfInBounds]; exact rowK_size 4
  have hV1 : V.all (·.oneCell') = true := by rw [← hV]; kernel_rfl
  have hVi : (Tryd.prog.info? 41).map (·.size) = some V.size := by rw [hVs]; exact rowInfo
  clear hV
  have HUN := hid (show unR (dRefresh s.data.toList false) = unR ((⟨y0, y1, y2⟩, l3, b3) : S31 × List UInt8 × Bool) by rw [HD.out])
  cases b3 with
  | true =>
    have cB : W3.cell? ⟨(w.heap.size + 1), 1, none⟩ = some (.bool false) := cB
    have hon : o = none := by rw [← HO.out, HUN.out]; exact if_pos (.inl rfl)
    refine Stood.mk ?_
    go_wp2_with (first | (refine wpList_buildTo rfl 41 _ rfl (some 227) rfl rowZ rowZ_built ?_) | (refine wpList_store_at rfl 41 (.tmp 4) (.tmp 227) rfl rfl w.heap.size 41 rowZ rowZ HA.out rfl rfl rowZ_info rfl rowZ_one ?_))
    have hzr := at_setRow HA.out rowZ
    have hbr : Below w.heap.size w (W3.setRow w.heap.size rowZ) := HBW.out.trans ((mod_setRow W3 w.heap.size rowZ).below HBW.out.size (fun x e => by omega))
    refine bodyPost_ret (results_ct rfl _ _ w.heap.size 41 rowZ (0, 0) _ rfl hzr Tryd.underlying41 rfl rowZ_info) rfl ?_
    refine ⟨rowZ, ?_, rowZ_size, rowZ_one, ?_, hbr⟩
    · rw [hon]; rfl
    · rw [hon]; intro h; cases h
  | false =>
    have cB : W3.cell? ⟨(w.heap.size + 1), 1, none⟩ = some (.bool true) := cB
    by_cases hS0 : S.size = 0
    · have hSe : S = ⟨#[]⟩ := by
        apply ByteArray.ext
        exact Array.eq_empty_of_size_eq_zero hS0
      subst hSe
      have hl0 : l3 = [] := by rw [← hS]
      have hon : o = some (⟨y0, y1, y2⟩) := by rw [← HO.out, HUN.out]; exact if_neg (by simp [hl0])
      obtain ⟨hb, hcc⟩ := dRefreshCod.un_bwd (HO.out.trans hon)
      have hsm := smallRefresh (by rw [← hb, str_len]; exact hs) hcc
      have hfin := k41_mkM W3 (w.heap.size + 1 + 1 + 1) (fun _ => True) (rowRefresh (⟨y0, y1, y2⟩)) (Kd.R_nil _ _ _ _ _) (Kd.R_nil _ _ _ _ _) (Kd.R_nil _ _ _ _ _) (Kd.R_nil _ _ _ _ _) (Kd.R_nil _ _ _ _ _) (Kd.R_nil _ _ _ _ _) (Kd.R_nil _ _ _ _ _) (Kd.R_nil _ _ _ _ _)
      have key : ∀ c c', c = c' → k41.M W3 (w.heap.size + 1 + 1 + 1) (fun _ => True) (rowRefresh (⟨y0, y1, y2⟩)) c → k41.M W3 (w.heap.size + 1 + 1 + 1) (fun _ => True) (rowRefresh (⟨y0, y1, y2⟩)) c' := fun _ _ e h => e ▸ h
      have hVM : k41.M W3 (w.heap.size + 1 + 1 + 1) (fun _ => True) (rowRefresh (⟨y0, y1, y2⟩)) V.toList := by
        rw [← HV.out]
        exact key _ _ (by kernel_rfl) hfin
      have HVM := hid hVM
      have hK : k41.K W3 (rowRefresh (⟨y0, y1, y2⟩)) V.toList := by
        exact k41.K_of_M hVM
      have hby := refBytes_at W3 V _ hK hsm.1 hsm.2
      have hbs : rowB (rowRefresh (⟨y0, y1, y2⟩)) = s.data.toList := by rw [hb]; unfold rowB rowRefresh; simp
      rw [hbs] at hby
      have HBY := hid hby
      have HK := hid hK
      clear hfin key hVM hK hby hbs hcc hb hsm hl0 hS hS0
      refine Stood.mk ?_
      go_wp2_with (first | (refine wpList_load_rowH (by rfl) 41 (.tmp 7) rfl (w.heap.size + 1 + 1) rfl 41 V (0, 0) _ HX.out Tryd.underlying41 rfl hVi ?_))
      refine HBY.out.mono ?_
      clear HBY
      rintro e u9 ⟨rfl, hb9⟩
      have hx9 : AtB u9 (w.heap.size + 1 + 1) 41 V := (hb9.block _ (lt_of_heap HX.out)).trans HX.out
      have ha9 : AtB u9 w.heap.size 41 rowZ := (hb9.block _ (lt_of_heap HA.out)).trans HA.out
      have HX9 := hid hx9
      have HA9 := hid ha9
      have HB9 := hid (below_then HBW.out hb9)
      have HK9 := hid (k41.M_bound (k41.M_below HVM.out hb9))
      clear hx9 ha9 hb9
      go_wp2_with (first | (refine wpList_load_row rfl 41 (.tmp 7) rfl (w.heap.size + 1 + 1) rfl 41 V (0, 0) _ HX9.out Tryd.underlying41 rfl hVi ?_) | (refine wpList_store_at rfl 41 (.tmp 4) (.tmp 228) rfl rfl w.heap.size 41 rowZ V HA9.out rfl rfl hVi (by rw [hVs]; rfl) hV1 ?_))
      have hzr := at_setRow HA9.out V
      have hbr : Below w.heap.size w (u9.setRow w.heap.size V) := HB9.out.trans ((mod_setRow u9 w.heap.size V).below HB9.out.size (fun x e => by omega))
      refine bodyPost_ret (results_ct rfl _ _ w.heap.size 41 V (0, 0) _ rfl hzr Tryd.underlying41 rfl hVi) rfl ?_
      have hK9 := k41.K_of_M (k41.M_step HK9.out (fun k hk hlt => (mod_setRow u9 w.heap.size V).block k hlt (show ¬ (k = w.heap.size) by have := hk.2.1; omega)))
      refine ⟨V, by rw [hon]; rfl, hVs, hV1, fun _ => by rw [hon]; exact hK9, hbr⟩
    · have hon : o = none := by
        rw [← HO.out, HUN.out]
        exact if_pos (.inr (by show 0 < l3.length; rw [← hS, str_len]; omega))
      have n1 := str_ne_empty S (by omega)
      have n2 := str_not_empty S (by omega)
      refine Stood.mk ?_
      go_wp2_with (first | (refine wpList_buildTo rfl 41 _ rfl (some 227) rfl rowZ rowZ_built ?_) | (refine wpList_store_at rfl 41 (.tmp 4) (.tmp 227) rfl rfl w.heap.size 41 rowZ rowZ HA.out rfl rfl rowZ_info rfl rowZ_one ?_))
      have hzr := at_setRow HA.out rowZ
      have hbr : Below w.heap.size w (W3.setRow w.heap.size rowZ) := HBW.out.trans ((mod_setRow W3 w.heap.size rowZ).below HBW.out.size (fun x e => by omega))
      refine bodyPost_ret (results_ct rfl _ _ w.heap.size 41 rowZ (0, 0) _ rfl hzr Tryd.underlying41 rfl rowZ_info) rfl ?_
      refine ⟨rowZ, ?_, rowZ_size, rowZ_one, ?_, hbr⟩
      · rw [hon]; rfl
      · rw [hon]; intro h; cases h
end Go.Proofs.YtcgjacffemjehaaDoor

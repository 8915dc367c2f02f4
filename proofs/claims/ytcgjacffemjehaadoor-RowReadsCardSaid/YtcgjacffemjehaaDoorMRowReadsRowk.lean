/-
  RowDAccess, RowDResource, RowDTicket, RowDKeys: this proof's parts in one text.
-/
import Derived.Test.YtcgjacffemjehaaDoorMRowReadsRowh
import Derived.Test.YtcgjacffemjehaaDoorMRowReadsRowi
namespace Go.Proofs.YtcgjacffemjehaaDoor
open Go.RowKit
open Go.Proofs.YtcgjacffemjehaaDoorW.PrintWords (Kd rdOf results_ct)
open Go.Proofs.YtcgjacffemjehaaDoor.PRowReads
set_option linter.unusedVariables false
set_option linter.unusedSimpArgs false
set_option maxHeartbeats 8000000 in
set_option maxRecDepth 100000 in
theorem docAccess (w : World) (s : ByteArray) (hs : s.size ≤ 1048576) :
    Calls Tryd.prog 7 #[.int .i64 5, .string s] w (DocPost (rowAccess ((unR (accessR s.data.toList false)).getD z34)) (unR (accessR s.data.toList false)).isSome w) := by
  rw [accessCod.same dAccessCod]
  have hsl := str_len s
  obtain ⟨o, ho⟩ : ∃ o, unR (dAccess s.data.toList false) = o := ⟨_, rfl⟩
  rw [ho]
  have HO := hid ho
  clear ho
  have hbw0 : Below w.heap.size w (((w.alloc (.cells rowZ 41)).alloc (.cells #[.string s, .bool true] 73)).alloc (.cells (rowK 5) 41)) := (((Below.refl w.heap.size w).alloc (Nat.le_refl _) _).alloc (by simp) _).alloc (by simp; omega) _
  have ha0 : AtB (((w.alloc (.cells rowZ 41)).alloc (.cells #[.string s, .bool true] 73)).alloc (.cells (rowK 5) 41)) w.heap.size 41 rowZ := ((at_make rfl).alloc _).alloc _
  have hi0 : InAt (((w.alloc (.cells rowZ 41)).alloc (.cells #[.string s, .bool true] 73)).alloc (.cells (rowK 5) 41)) (w.heap.size + 1) s.data.toList false := ⟨s, rfl, (at_make (by simp)).alloc _⟩
  have hx0 : AtB (((w.alloc (.cells rowZ 41)).alloc (.cells #[.string s, .bool true] 73)).alloc (.cells (rowK 5) 41)) (w.heap.size + 1 + 1) 41 (rowK 5) := at_make (by simp)
  have hz0 : (((w.alloc (.cells rowZ 41)).alloc (.cells #[.string s, .bool true] 73)).alloc (.cells (rowK 5) 41)).heap.size = w.heap.size + 1 + 1 + 1 := by simp
  obtain ⟨y0, l1, b1, e0⟩ := trip (dText s.data.toList false)
  obtain ⟨y1, l2, b2, e1⟩ := trip (dText l1 b1)
  obtain ⟨y2, l3, b3, e2⟩ := trip (dText l2 b2)
  obtain ⟨y3, l4, b4, e3⟩ := trip (dText l3 b3)
  obtain ⟨y4, l5, b5, e4⟩ := trip (dText l4 b4)
  obtain ⟨y5, l6, b6, e5⟩ := trip (dList dText l5 b5)
  obtain ⟨y6, l7, b7, e6⟩ := trip (dList dPerm l6 b6)
  obtain ⟨y7, l8, b8, e7⟩ := trip (dNum l7 b7)
  obtain ⟨y8, l9, b9, e8⟩ := trip (dNum l8 b8)
  obtain ⟨y9, l10, b10, e9⟩ := trip (dTruth l9 b9)
  have hd : dAccess s.data.toList false = ((⟨y0, y1, y2, y3, y4, y5, y6, y7, y8, y9⟩, l10, b10) : S34 × List UInt8 × Bool) := by unfold dAccess; simp only [andR, e0, e1, e2, e3, e4, e5, e6, e7, e8, e9]
  have HD := hid hd
  have HE0 := hid e0
  have HE1 := hid e1
  have HE2 := hid e2
  have HE3 := hid e3
  have HE4 := hid e4
  have HE5 := hid e5
  have HE6 := hid e6
  have HE7 := hid e7
  have HE8 := hid e8
  have HE9 := hid e9
  have hc := text_in hi0
  rw [e0] at hc
  have HC := hid hc
  have HBW := hid hbw0
  have HA := hid ha0
  have HX := hid hx0
  clear hd hc hbw0 ha0 hx0 hi0 e0 e1 e2 e3 e4 e5 e6 e7 e8 e9
  obtain ⟨W0, hW0⟩ : ∃ W, (((w.alloc (.cells rowZ 41)).alloc (.cells #[.string s, .bool true] 73)).alloc (.cells (rowK 5) 41)) = W := ⟨_, rfl⟩
  have HW0 := hid hW0
  rw [hW0] at HC HBW HA HX hz0
  go_enter Tryd.func7, Tryd.ntmps7
  go_wp2_with (first | (refine wpList_allocTo rfl (some 4) rfl _ _ (run_allocRow _ _ rfl _) ?_) | (refine wpList_allocTo rfl (some 7) rfl _ _ (run_allocRow _ _ rfl _) ?_) | (refine wpList_buildTo rfl 41 _ rfl (some 12) rfl (rowK 5) (by kernel_rfl) ?_) | (refine wpList_store_new rfl 41 (.tmp 7) (.tmp 12) rfl rfl ((w.alloc (.cells rowZ 41)).alloc (.cells #[.string s, .bool true] 73)) 41 rowZ (rowK 5) rfl (by simp only [World.size_alloc]; rfl) rfl (by kernel_rfl) (by kernel_rfl) (by kernel_rfl) ?_))
  clear hW0 HW0
  go_at_call 21
  refine HC.out.mono ?_
  clear HC
  rintro e u0 ⟨rfl, hi0, hm0⟩
  have hxu0 : AtB u0 (w.heap.size + 1 + 1) 41 (rowK 5) := hm0.heap HX.out (show ¬ ((w.heap.size + 1 + 1) = (w.heap.size + 1)) by omega)
  have hvs0 : ((rowK 5)).size = 46 := by exact rowK_size 5
  obtain ⟨q0, hq0⟩ := hxu0.some 23 (by rw [hvs0]; omega)
  have hf0 := hxu0.free 23
  have hxn : AtB (u0.setCell ⟨(w.heap.size + 1 + 1), 23, none⟩ (.string y0)) (w.heap.size + 1 + 1) 41 (((rowK 5)).setIfInBounds 23 (.string y0)) := hxu0.set 23 (.string y0)
  have hmn : Mod (fun k => k = (w.heap.size + 1 + 1) ∨ k = (w.heap.size + 1)) W0 (u0.setCell ⟨(w.heap.size + 1 + 1), 23, none⟩ (.string y0)) := (hm0.mono (fun _ _ e => .inr e)).setCell ⟨(w.heap.size + 1 + 1), 23, none⟩ (.string y0) (.inl (.inl rfl))
  have hin : InAt (u0.setCell ⟨(w.heap.size + 1 + 1), 23, none⟩ (.string y0)) (w.heap.size + 1) l1 b1 := hi0.mod (mod_set u0 (w.heap.size + 1 + 1) 23 (.string y0)) (show ¬ ((w.heap.size + 1) = (w.heap.size + 1 + 1)) by omega)
  have hzn : w.heap.size + 1 + 1 + 1 ≤ (u0.setCell ⟨(w.heap.size + 1 + 1), 23, none⟩ (.string y0)).heap.size := by have := hmn.size; omega
  have hc := text_in hin
  rw [HE1.out] at hc
  go_wp2_with fail
  generalize u0.setCell ⟨(w.heap.size + 1 + 1), 23, none⟩ (.string y0) = W1 at hxn hmn hin hzn hc ⊢
  have HBW := hid (HBW.out.trans (hmn.below (by omega) (fun x e => by omega)))
  have HA := hid (hmn.heap HA.out (show ¬ (w.heap.size = (w.heap.size + 1 + 1) ∨ w.heap.size = (w.heap.size + 1)) by omega))
  have HX := hid hxn
  have HI := hid hin
  have HC := hid hc
  clear hxn hmn hin hc hxu0 hvs0 hq0 hf0 hi0 hm0
  have hz1 := hzn
  clear hzn
  go_at_call 21
  refine HC.out.mono ?_
  clear HC
  rintro e u1 ⟨rfl, hi1, hm1⟩
  have hxu1 : AtB u1 (w.heap.size + 1 + 1) 41 ((rowK 5).setIfInBounds 23 (.string y0)) := hm1.heap HX.out (show ¬ ((w.heap.size + 1 + 1) = (w.heap.size + 1)) by omega)
  have hvs1 : (((rowK 5).setIfInBounds 23 (.string y0))).size = 46 := by simp only [Array.size_setIfInBounds]; exact rowK_size 5
  obtain ⟨q1, hq1⟩ := hxu1.some 24 (by rw [hvs1]; omega)
  have hf1 := hxu1.free 24
  have hxn : AtB (u1.setCell ⟨(w.heap.size + 1 + 1), 24, none⟩ (.string y1)) (w.heap.size + 1 + 1) 41 ((((rowK 5).setIfInBounds 23 (.string y0))).setIfInBounds 24 (.string y1)) := hxu1.set 24 (.string y1)
  have hmn : Mod (fun k => k = (w.heap.size + 1 + 1) ∨ k = (w.heap.size + 1)) W1 (u1.setCell ⟨(w.heap.size + 1 + 1), 24, none⟩ (.string y1)) := (hm1.mono (fun _ _ e => .inr e)).setCell ⟨(w.heap.size + 1 + 1), 24, none⟩ (.string y1) (.inl (.inl rfl))
  have hin : InAt (u1.setCell ⟨(w.heap.size + 1 + 1), 24, none⟩ (.string y1)) (w.heap.size + 1) l2 b2 := hi1.mod (mod_set u1 (w.heap.size + 1 + 1) 24 (.string y1)) (show ¬ ((w.heap.size + 1) = (w.heap.size + 1 + 1)) by omega)
  have hzn : w.heap.size + 1 + 1 + 1 ≤ (u1.setCell ⟨(w.heap.size + 1 + 1), 24, none⟩ (.string y1)).heap.size := by have := hmn.size; omega
  have hc := text_in hin
  rw [HE2.out] at hc
  go_wp2_with fail
  generalize u1.setCell ⟨(w.heap.size + 1 + 1), 24, none⟩ (.string y1) = W2 at hxn hmn hin hzn hc ⊢
  have HBW := hid (HBW.out.trans (hmn.below (by omega) (fun x e => by omega)))
  have HA := hid (hmn.heap HA.out (show ¬ (w.heap.size = (w.heap.size + 1 + 1) ∨ w.heap.size = (w.heap.size + 1)) by omega))
  have HX := hid hxn
  have HI := hid hin
  have HC := hid hc
  clear hxn hmn hin hc hxu1 hvs1 hq1 hf1 hi1 hm1
  have hz2 := hzn
  clear hzn
  go_at_call 21
  refine HC.out.mono ?_
  clear HC
  rintro e u2 ⟨rfl, hi2, hm2⟩
  have hxu2 : AtB u2 (w.heap.size + 1 + 1) 41 (((rowK 5).setIfInBounds 23 (.string y0)).setIfInBounds 24 (.string y1)) := hm2.heap HX.out (show ¬ ((w.heap.size + 1 + 1) = (w.heap.size + 1)) by omega)
  have hvs2 : ((((rowK 5).setIfInBounds 23 (.string y0)).setIfInBounds 24 (.string y1))).size = 46 := by simp only [Array.size_setIfInBounds]; exact rowK_size 5
  obtain ⟨q2, hq2⟩ := hxu2.some 25 (by rw [hvs2]; omega)
  have hf2 := hxu2.free 25
  have hxn : AtB (u2.setCell ⟨(w.heap.size + 1 + 1), 25, none⟩ (.string y2)) (w.heap.size + 1 + 1) 41 (((((rowK 5).setIfInBounds 23 (.string y0)).setIfInBounds 24 (.string y1))).setIfInBounds 25 (.string y2)) := hxu2.set 25 (.string y2)
  have hmn : Mod (fun k => k = (w.heap.size + 1 + 1) ∨ k = (w.heap.size + 1)) W2 (u2.setCell ⟨(w.heap.size + 1 + 1), 25, none⟩ (.string y2)) := (hm2.mono (fun _ _ e => .inr e)).setCell ⟨(w.heap.size + 1 + 1), 25, none⟩ (.string y2) (.inl (.inl rfl))
  have hin : InAt (u2.setCell ⟨(w.heap.size + 1 + 1), 25, none⟩ (.string y2)) (w.heap.size + 1) l3 b3 := hi2.mod (mod_set u2 (w.heap.size + 1 + 1) 25 (.string y2)) (show ¬ ((w.heap.size + 1) = (w.heap.size + 1 + 1)) by omega)
  have hzn : w.heap.size + 1 + 1 + 1 ≤ (u2.setCell ⟨(w.heap.size + 1 + 1), 25, none⟩ (.string y2)).heap.size := by have := hmn.size; omega
  have hc := text_in hin
  rw [HE3.out] at hc
  go_wp2_with fail
  generalize u2.setCell ⟨(w.heap.size + 1 + 1), 25, none⟩ (.string y2) = W3 at hxn hmn hin hzn hc ⊢
  have HBW := hid (HBW.out.trans (hmn.below (by omega) (fun x e => by omega)))
  have HA := hid (hmn.heap HA.out (show ¬ (w.heap.size = (w.heap.size + 1 + 1) ∨ w.heap.size = (w.heap.size + 1)) by omega))
  have HX := hid hxn
  have HI := hid hin
  have HC := hid hc
  clear hxn hmn hin hc hxu2 hvs2 hq2 hf2 hi2 hm2
  have hz3 := hzn
  clear hzn
  go_at_call 21
  refine HC.out.mono ?_
  clear HC
  rintro e u3 ⟨rfl, hi3, hm3⟩
  have hxu3 : AtB u3 (w.heap.size + 1 + 1) 41 ((((rowK 5).setIfInBounds 23 (.string y0)).setIfInBounds 24 (.string y1)).setIfInBounds 25 (.string y2)) := hm3.heap HX.out (show ¬ ((w.heap.size + 1 + 1) = (w.heap.size + 1)) by omega)
  have hvs3 : (((((rowK 5).setIfInBounds 23 (.string y0)).setIfInBounds 24 (.string y1)).setIfInBounds 25 (.string y2))).size = 46 := by simp only [Array.size_setIfInBounds]; exact rowK_size 5
  obtain ⟨q3, hq3⟩ := hxu3.some 26 (by rw [hvs3]; omega)
  have hf3 := hxu3.free 26
  have hxn : AtB (u3.setCell ⟨(w.heap.size + 1 + 1), 26, none⟩ (.string y3)) (w.heap.size + 1 + 1) 41 ((((((rowK 5).setIfInBounds 23 (.string y0)).setIfInBounds 24 (.string y1)).setIfInBounds 25 (.string y2))).setIfInBounds 26 (.string y3)) := hxu3.set 26 (.string y3)
  have hmn : Mod (fun k => k = (w.heap.size + 1 + 1) ∨ k = (w.heap.size + 1)) W3 (u3.setCell ⟨(w.heap.size + 1 + 1), 26, none⟩ (.string y3)) := (hm3.mono (fun _ _ e => .inr e)).setCell ⟨(w.heap.size + 1 + 1), 26, none⟩ (.string y3) (.inl (.inl rfl))
  have hin : InAt (u3.setCell ⟨(w.heap.size + 1 + 1), 26, none⟩ (.string y3)) (w.heap.size + 1) l4 b4 := hi3.mod (mod_set u3 (w.heap.size + 1 + 1) 26 (.string y3)) (show ¬ ((w.heap.size + 1) = (w.heap.size + 1 + 1)) by omega)
  have hzn : w.heap.size + 1 + 1 + 1 ≤ (u3.setCell ⟨(w.heap.size + 1 + 1), 26, none⟩ (.string y3)).heap.size := by have := hmn.size; omega
  have hc := text_in hin
  rw [HE4.out] at hc
  go_wp2_with fail
  generalize u3.setCell ⟨(w.heap.size + 1 + 1), 26, none⟩ (.string y3) = W4 at hxn hmn hin hzn hc ⊢
  have HBW := hid (HBW.out.trans (hmn.below (by omega) (fun x e => by omega)))
  have HA := hid (hmn.heap HA.out (show ¬ (w.heap.size = (w.heap.size + 1 + 1) ∨ w.heap.size = (w.heap.size + 1)) by omega))
  have HX := hid hxn
  have HI := hid hin
  have HC := hid hc
  clear hxn hmn hin hc hxu3 hvs3 hq3 hf3 hi3 hm3
  have hz4 := hzn
  clear hzn
  go_at_call 21
  refine HC.out.mono ?_
  clear HC
  rintro e u4 ⟨rfl, hi4, hm4⟩
  have hxu4 : AtB u4 (w.heap.size + 1 + 1) 41 (((((rowK 5).setIfInBounds 23 (.string y0)).setIfInBounds 24 (.string y1)).setIfInBounds 25 (.string y2)).setIfInBounds 26 (.string y3)) := hm4.heap HX.out (show ¬ ((w.heap.size + 1 + 1) = (w.heap.size + 1)) by omega)
  have hvs4 : ((((((rowK 5).setIfInBounds 23 (.string y0)).setIfInBounds 24 (.string y1)).setIfInBounds 25 (.string y2)).setIfInBounds 26 (.string y3))).size = 46 := by simp only [Array.size_setIfInBounds]; exact rowK_size 5
  obtain ⟨q4, hq4⟩ := hxu4.some 27 (by rw [hvs4]; omega)
  have hf4 := hxu4.free 27
  have hxn : AtB (u4.setCell ⟨(w.heap.size + 1 + 1), 27, none⟩ (.string y4)) (w.heap.size + 1 + 1) 41 (((((((rowK 5).setIfInBounds 23 (.string y0)).setIfInBounds 24 (.string y1)).setIfInBounds 25 (.string y2)).setIfInBounds 26 (.string y3))).setIfInBounds 27 (.string y4)) := hxu4.set 27 (.string y4)
  have hmn : Mod (fun k => k = (w.heap.size + 1 + 1) ∨ k = (w.heap.size + 1)) W4 (u4.setCell ⟨(w.heap.size + 1 + 1), 27, none⟩ (.string y4)) := (hm4.mono (fun _ _ e => .inr e)).setCell ⟨(w.heap.size + 1 + 1), 27, none⟩ (.string y4) (.inl (.inl rfl))
  have hin : InAt (u4.setCell ⟨(w.heap.size + 1 + 1), 27, none⟩ (.string y4)) (w.heap.size + 1) l5 b5 := hi4.mod (mod_set u4 (w.heap.size + 1 + 1) 27 (.string y4)) (show ¬ ((w.heap.size + 1) = (w.heap.size + 1 + 1)) by omega)
  have hzn : w.heap.size + 1 + 1 + 1 ≤ (u4.setCell ⟨(w.heap.size + 1 + 1), 27, none⟩ (.string y4)).heap.size := by have := hmn.size; omega
  have hc := texts_in hin
  rw [HE5.out] at hc
  go_wp2_with fail
  generalize u4.setCell ⟨(w.heap.size + 1 + 1), 27, none⟩ (.string y4) = W5 at hxn hmn hin hzn hc ⊢
  have HBW := hid (HBW.out.trans (hmn.below (by omega) (fun x e => by omega)))
  have HA := hid (hmn.heap HA.out (show ¬ (w.heap.size = (w.heap.size + 1 + 1) ∨ w.heap.size = (w.heap.size + 1)) by omega))
  have HX := hid hxn
  have HI := hid hin
  have HC := hid hc
  clear hxn hmn hin hc hxu4 hvs4 hq4 hf4 hi4 hm4
  have hz5 := hzn
  clear hzn
  go_at_call 22
  refine HC.out.mono ?_
  clear HC
  rintro e u5 ⟨v5, rfl, hr5, hi5, hm5⟩
  obtain ⟨A5, m5, c5, rfl⟩ := r_form hr5
  have hxu5 : AtB u5 (w.heap.size + 1 + 1) 41 ((((((rowK 5).setIfInBounds 23 (.string y0)).setIfInBounds 24 (.string y1)).setIfInBounds 25 (.string y2)).setIfInBounds 26 (.string y3)).setIfInBounds 27 (.string y4)) := hm5.heap HX.out (show ¬ ((w.heap.size + 1 + 1) = (w.heap.size + 1)) by omega)
  have hvs5 : (((((((rowK 5).setIfInBounds 23 (.string y0)).setIfInBounds 24 (.string y1)).setIfInBounds 25 (.string y2)).setIfInBounds 26 (.string y3)).setIfInBounds 27 (.string y4))).size = 46 := by simp only [Array.size_setIfInBounds]; exact rowK_size 5
  obtain ⟨q5, hq5⟩ := hxu5.some 28 (by rw [hvs5]; omega)
  have hf5 := hxu5.free 28
  have hxn : AtB (u5.setCell ⟨(w.heap.size + 1 + 1), 28, none⟩ (.slice A5 m5 c5)) (w.heap.size + 1 + 1) 41 ((((((((rowK 5).setIfInBounds 23 (.string y0)).setIfInBounds 24 (.string y1)).setIfInBounds 25 (.string y2)).setIfInBounds 26 (.string y3)).setIfInBounds 27 (.string y4))).setIfInBounds 28 (.slice A5 m5 c5)) := hxu5.set 28 (.slice A5 m5 c5)
  have hmn : Mod (fun k => k = (w.heap.size + 1 + 1) ∨ k = (w.heap.size + 1)) W5 (u5.setCell ⟨(w.heap.size + 1 + 1), 28, none⟩ (.slice A5 m5 c5)) := (hm5.mono (fun _ _ e => .inr e)).setCell ⟨(w.heap.size + 1 + 1), 28, none⟩ (.slice A5 m5 c5) (.inl (.inl rfl))
  have hin : InAt (u5.setCell ⟨(w.heap.size + 1 + 1), 28, none⟩ (.slice A5 m5 c5)) (w.heap.size + 1) l6 b6 := hi5.mod (mod_set u5 (w.heap.size + 1 + 1) 28 (.slice A5 m5 c5)) (show ¬ ((w.heap.size + 1) = (w.heap.size + 1 + 1)) by omega)
  have hzn : w.heap.size + 1 + 1 + 1 ≤ (u5.setCell ⟨(w.heap.size + 1 + 1), 28, none⟩ (.slice A5 m5 c5)).heap.size := by have := hmn.size; omega
  have hrn5 : Kd.string.R 9 (u5.setCell ⟨(w.heap.size + 1 + 1), 28, none⟩ (.slice A5 m5 c5)) (w.heap.size + 1 + 1 + 1) (fun _ => True) (.slice A5 m5 c5) y5 := Kd.R_lower (r_mod hr5 (mod_set u5 (w.heap.size + 1 + 1) 28 (.slice A5 m5 c5)) (fun k e => .inl (by have e2 : k = (w.heap.size + 1 + 1) := e; omega))) (by omega)
  have hc := perms_in hin
  rw [HE6.out] at hc
  go_wp2_with fail
  generalize u5.setCell ⟨(w.heap.size + 1 + 1), 28, none⟩ (.slice A5 m5 c5) = W6 at hxn hmn hin hzn hrn5 hc ⊢
  have HBW := hid (HBW.out.trans (hmn.below (by omega) (fun x e => by omega)))
  have HA := hid (hmn.heap HA.out (show ¬ (w.heap.size = (w.heap.size + 1 + 1) ∨ w.heap.size = (w.heap.size + 1)) by omega))
  have HX := hid hxn
  have HI := hid hin
  have HR5 := hid hrn5
  have HC := hid hc
  clear hxn hmn hin hrn5 hc hxu5 hvs5 hq5 hf5 hi5 hm5 hr5
  have hz6 := hzn
  clear hzn
  go_at_call 25
  refine HC.out.mono ?_
  clear HC
  rintro e u6 ⟨v6, rfl, hr6, hi6, hm6⟩
  obtain ⟨A6, m6, c6, rfl⟩ := r_form hr6
  have hxu6 : AtB u6 (w.heap.size + 1 + 1) 41 (((((((rowK 5).setIfInBounds 23 (.string y0)).setIfInBounds 24 (.string y1)).setIfInBounds 25 (.string y2)).setIfInBounds 26 (.string y3)).setIfInBounds 27 (.string y4)).setIfInBounds 28 (.slice A5 m5 c5)) := hm6.heap HX.out (show ¬ ((w.heap.size + 1 + 1) = (w.heap.size + 1)) by omega)
  have hvs6 : ((((((((rowK 5).setIfInBounds 23 (.string y0)).setIfInBounds 24 (.string y1)).setIfInBounds 25 (.string y2)).setIfInBounds 26 (.string y3)).setIfInBounds 27 (.string y4)).setIfInBounds 28 (.slice A5 m5 c5))).size = 46 := by simp only [Array.size_setIfInBounds]; exact rowK_size 5
  obtain ⟨q6, hq6⟩ := hxu6.some 29 (by rw [hvs6]; omega)
  have hf6 := hxu6.free 29
  have hxn : AtB (u6.setCell ⟨(w.heap.size + 1 + 1), 29, none⟩ (.slice A6 m6 c6)) (w.heap.size + 1 + 1) 41 (((((((((rowK 5).setIfInBounds 23 (.string y0)).setIfInBounds 24 (.string y1)).setIfInBounds 25 (.string y2)).setIfInBounds 26 (.string y3)).setIfInBounds 27 (.string y4)).setIfInBounds 28 (.slice A5 m5 c5))).setIfInBounds 29 (.slice A6 m6 c6)) := hxu6.set 29 (.slice A6 m6 c6)
  have hmn : Mod (fun k => k = (w.heap.size + 1 + 1) ∨ k = (w.heap.size + 1)) W6 (u6.setCell ⟨(w.heap.size + 1 + 1), 29, none⟩ (.slice A6 m6 c6)) := (hm6.mono (fun _ _ e => .inr e)).setCell ⟨(w.heap.size + 1 + 1), 29, none⟩ (.slice A6 m6 c6) (.inl (.inl rfl))
  have hin : InAt (u6.setCell ⟨(w.heap.size + 1 + 1), 29, none⟩ (.slice A6 m6 c6)) (w.heap.size + 1) l7 b7 := hi6.mod (mod_set u6 (w.heap.size + 1 + 1) 29 (.slice A6 m6 c6)) (show ¬ ((w.heap.size + 1) = (w.heap.size + 1 + 1)) by omega)
  have hzn : w.heap.size + 1 + 1 + 1 ≤ (u6.setCell ⟨(w.heap.size + 1 + 1), 29, none⟩ (.slice A6 m6 c6)).heap.size := by have := hmn.size; omega
  have hrn5 := r_mod HR5.out hmn (fun k e => .inl (by omega))
  clear HR5
  have hrn6 : k86.R 86 (u6.setCell ⟨(w.heap.size + 1 + 1), 29, none⟩ (.slice A6 m6 c6)) (w.heap.size + 1 + 1 + 1) (fun _ => True) (.slice A6 m6 c6) y6 := Kd.R_lower (r_mod hr6 (mod_set u6 (w.heap.size + 1 + 1) 29 (.slice A6 m6 c6)) (fun k e => .inl (by have e2 : k = (w.heap.size + 1 + 1) := e; omega))) (by omega)
  have hc := num_in hin
  rw [HE7.out] at hc
  go_wp2_with fail
  generalize u6.setCell ⟨(w.heap.size + 1 + 1), 29, none⟩ (.slice A6 m6 c6) = W7 at hxn hmn hin hzn hrn5 hrn6 hc ⊢
  have HBW := hid (HBW.out.trans (hmn.below (by omega) (fun x e => by omega)))
  have HA := hid (hmn.heap HA.out (show ¬ (w.heap.size = (w.heap.size + 1 + 1) ∨ w.heap.size = (w.heap.size + 1)) by omega))
  have HX := hid hxn
  have HI := hid hin
  have HR5 := hid hrn5
  have HR6 := hid hrn6
  have HC := hid hc
  clear hxn hmn hin hrn5 hrn6 hc hxu6 hvs6 hq6 hf6 hi6 hm6 hr6
  have hz7 := hzn
  clear hzn
  go_at_call 24
  refine HC.out.mono ?_
  clear HC
  rintro e u7 ⟨rfl, hi7, hm7⟩
  have hxu7 : AtB u7 (w.heap.size + 1 + 1) 41 ((((((((rowK 5).setIfInBounds 23 (.string y0)).setIfInBounds 24 (.string y1)).setIfInBounds 25 (.string y2)).setIfInBounds 26 (.string y3)).setIfInBounds 27 (.string y4)).setIfInBounds 28 (.slice A5 m5 c5)).setIfInBounds 29 (.slice A6 m6 c6)) := hm7.heap HX.out (show ¬ ((w.heap.size + 1 + 1) = (w.heap.size + 1)) by omega)
  have hvs7 : (((((((((rowK 5).setIfInBounds 23 (.string y0)).setIfInBounds 24 (.string y1)).setIfInBounds 25 (.string y2)).setIfInBounds 26 (.string y3)).setIfInBounds 27 (.string y4)).setIfInBounds 28 (.slice A5 m5 c5)).setIfInBounds 29 (.slice A6 m6 c6))).size = 46 := by simp only [Array.size_setIfInBounds]; exact rowK_size 5
  obtain ⟨q7, hq7⟩ := hxu7.some 30 (by rw [hvs7]; omega)
  have hf7 := hxu7.free 30
  have hxn : AtB (u7.setCell ⟨(w.heap.size + 1 + 1), 30, none⟩ (.int .i64 y7)) (w.heap.size + 1 + 1) 41 ((((((((((rowK 5).setIfInBounds 23 (.string y0)).setIfInBounds 24 (.string y1)).setIfInBounds 25 (.string y2)).setIfInBounds 26 (.string y3)).setIfInBounds 27 (.string y4)).setIfInBounds 28 (.slice A5 m5 c5)).setIfInBounds 29 (.slice A6 m6 c6))).setIfInBounds 30 (.int .i64 y7)) := hxu7.set 30 (.int .i64 y7)
  have hmn : Mod (fun k => k = (w.heap.size + 1 + 1) ∨ k = (w.heap.size + 1)) W7 (u7.setCell ⟨(w.heap.size + 1 + 1), 30, none⟩ (.int .i64 y7)) := (hm7.mono (fun _ _ e => .inr e)).setCell ⟨(w.heap.size + 1 + 1), 30, none⟩ (.int .i64 y7) (.inl (.inl rfl))
  have hin : InAt (u7.setCell ⟨(w.heap.size + 1 + 1), 30, none⟩ (.int .i64 y7)) (w.heap.size + 1) l8 b8 := hi7.mod (mod_set u7 (w.heap.size + 1 + 1) 30 (.int .i64 y7)) (show ¬ ((w.heap.size + 1) = (w.heap.size + 1 + 1)) by omega)
  have hzn : w.heap.size + 1 + 1 + 1 ≤ (u7.setCell ⟨(w.heap.size + 1 + 1), 30, none⟩ (.int .i64 y7)).heap.size := by have := hmn.size; omega
  have hrn5 := r_mod HR5.out hmn (fun k e => .inl (by omega))
  clear HR5
  have hrn6 := r_mod HR6.out hmn (fun k e => .inl (by omega))
  clear HR6
  have hc := num_in hin
  rw [HE8.out] at hc
  go_wp2_with fail
  generalize u7.setCell ⟨(w.heap.size + 1 + 1), 30, none⟩ (.int .i64 y7) = W8 at hxn hmn hin hzn hrn5 hrn6 hc ⊢
  have HBW := hid (HBW.out.trans (hmn.below (by omega) (fun x e => by omega)))
  have HA := hid (hmn.heap HA.out (show ¬ (w.heap.size = (w.heap.size + 1 + 1) ∨ w.heap.size = (w.heap.size + 1)) by omega))
  have HX := hid hxn
  have HI := hid hin
  have HR5 := hid hrn5
  have HR6 := hid hrn6
  have HC := hid hc
  clear hxn hmn hin hrn5 hrn6 hc hxu7 hvs7 hq7 hf7 hi7 hm7
  have hz8 := hzn
  clear hzn
  go_at_call 24
  refine HC.out.mono ?_
  clear HC
  rintro e u8 ⟨rfl, hi8, hm8⟩
  have hxu8 : AtB u8 (w.heap.size + 1 + 1) 41 (((((((((rowK 5).setIfInBounds 23 (.string y0)).setIfInBounds 24 (.string y1)).setIfInBounds 25 (.string y2)).setIfInBounds 26 (.string y3)).setIfInBounds 27 (.string y4)).setIfInBounds 28 (.slice A5 m5 c5)).setIfInBounds 29 (.slice A6 m6 c6)).setIfInBounds 30 (.int .i64 y7)) := hm8.heap HX.out (show ¬ ((w.heap.size + 1 + 1) = (w.heap.size + 1)) by omega)
  have hvs8 : ((((((((((rowK 5).setIfInBounds 23 (.string y0)).setIfInBounds 24 (.string y1)).setIfInBounds 25 (.string y2)).setIfInBounds 26 (.string y3)).setIfInBounds 27 (.string y4)).setIfInBounds 28 (.slice A5 m5 c5)).setIfInBounds 29 (.slice A6 m6 c6)).setIfInBounds 30 (.int .i64 y7))).size = 46 := by simp only [Array.size_setIfInBounds]; exact rowK_size 5
  obtain ⟨q8, hq8⟩ := hxu8.some 31 (by rw [hvs8]; omega)
  have hf8 := hxu8.free 31
  have hxn : AtB (u8.setCell ⟨(w.heap.size + 1 + 1), 31, none⟩ (.int .i64 y8)) (w.heap.size + 1 + 1) 41 (((((((((((rowK 5).setIfInBounds 23 (.string y0)).setIfInBounds 24 (.string y1)).setIfInBounds 25 (.string y2)).setIfInBounds 26 (.string y3)).setIfInBounds 27 (.string y4)).setIfInBounds 28 (.slice A5 m5 c5)).setIfInBounds 29 (.slice A6 m6 c6)).setIfInBounds 30 (.int .i64 y7))).setIfInBounds 31 (.int .i64 y8)) := hxu8.set 31 (.int .i64 y8)
  have hmn : Mod (fun k => k = (w.heap.size + 1 + 1) ∨ k = (w.heap.size + 1)) W8 (u8.setCell ⟨(w.heap.size + 1 + 1), 31, none⟩ (.int .i64 y8)) := (hm8.mono (fun _ _ e => .inr e)).setCell ⟨(w.heap.size + 1 + 1), 31, none⟩ (.int .i64 y8) (.inl (.inl rfl))
  have hin : InAt (u8.setCell ⟨(w.heap.size + 1 + 1), 31, none⟩ (.int .i64 y8)) (w.heap.size + 1) l9 b9 := hi8.mod (mod_set u8 (w.heap.size + 1 + 1) 31 (.int .i64 y8)) (show ¬ ((w.heap.size + 1) = (w.heap.size + 1 + 1)) by omega)
  have hzn : w.heap.size + 1 + 1 + 1 ≤ (u8.setCell ⟨(w.heap.size + 1 + 1), 31, none⟩ (.int .i64 y8)).heap.size := by have := hmn.size; omega
  have hrn5 := r_mod HR5.out hmn (fun k e => .inl (by omega))
  clear HR5
  have hrn6 := r_mod HR6.out hmn (fun k e => .inl (by omega))
  clear HR6
  have hc := truth_in hin
  rw [HE9.out] at hc
  go_wp2_with fail
  generalize u8.setCell ⟨(w.heap.size + 1 + 1), 31, none⟩ (.int .i64 y8) = W9 at hxn hmn hin hzn hrn5 hrn6 hc ⊢
  have HBW := hid (HBW.out.trans (hmn.below (by omega) (fun x e => by omega)))
  have HA := hid (hmn.heap HA.out (show ¬ (w.heap.size = (w.heap.size + 1 + 1) ∨ w.heap.size = (w.heap.size + 1)) by omega))
  have HX := hid hxn
  have HI := hid hin
  have HR5 := hid hrn5
  have HR6 := hid hrn6
  have HC := hid hc
  clear hxn hmn hin hrn5 hrn6 hc hxu8 hvs8 hq8 hf8 hi8 hm8
  have hz9 := hzn
  clear hzn
  go_at_call 23
  refine HC.out.mono ?_
  clear HC
  rintro e u9 ⟨rfl, hi9, hm9⟩
  have hxu9 : AtB u9 (w.heap.size + 1 + 1) 41 ((((((((((rowK 5).setIfInBounds 23 (.string y0)).setIfInBounds 24 (.string y1)).setIfInBounds 25 (.string y2)).setIfInBounds 26 (.string y3)).setIfInBounds 27 (.string y4)).setIfInBounds 28 (.slice A5 m5 c5)).setIfInBounds 29 (.slice A6 m6 c6)).setIfInBounds 30 (.int .i64 y7)).setIfInBounds 31 (.int .i64 y8)) := hm9.heap HX.out (show ¬ ((w.heap.size + 1 + 1) = (w.heap.size + 1)) by omega)
  have hvs9 : (((((((((((rowK 5).setIfInBounds 23 (.string y0)).setIfInBounds 24 (.string y1)).setIfInBounds 25 (.string y2)).setIfInBounds 26 (.string y3)).setIfInBounds 27 (.string y4)).setIfInBounds 28 (.slice A5 m5 c5)).setIfInBounds 29 (.slice A6 m6 c6)).setIfInBounds 30 (.int .i64 y7)).setIfInBounds 31 (.int .i64 y8))).size = 46 := by simp only [Array.size_setIfInBounds]; exact rowK_size 5
  obtain ⟨q9, hq9⟩ := hxu9.some 32 (by rw [hvs9]; omega)
  have hf9 := hxu9.free 32
  have hxn : AtB (u9.setCell ⟨(w.heap.size + 1 + 1), 32, none⟩ (.bool y9)) (w.heap.size + 1 + 1) 41 ((((((((((((rowK 5).setIfInBounds 23 (.string y0)).setIfInBounds 24 (.string y1)).setIfInBounds 25 (.string y2)).setIfInBounds 26 (.string y3)).setIfInBounds 27 (.string y4)).setIfInBounds 28 (.slice A5 m5 c5)).setIfInBounds 29 (.slice A6 m6 c6)).setIfInBounds 30 (.int .i64 y7)).setIfInBounds 31 (.int .i64 y8))).setIfInBounds 32 (.bool y9)) := hxu9.set 32 (.bool y9)
  have hmn : Mod (fun k => k = (w.heap.size + 1 + 1) ∨ k = (w.heap.size + 1)) W9 (u9.setCell ⟨(w.heap.size + 1 + 1), 32, none⟩ (.bool y9)) := (hm9.mono (fun _ _ e => .inr e)).setCell ⟨(w.heap.size + 1 + 1), 32, none⟩ (.bool y9) (.inl (.inl rfl))
  have hin : InAt (u9.setCell ⟨(w.heap.size + 1 + 1), 32, none⟩ (.bool y9)) (w.heap.size + 1) l10 b10 := hi9.mod (mod_set u9 (w.heap.size + 1 + 1) 32 (.bool y9)) (show ¬ ((w.heap.size + 1) = (w.heap.size + 1 + 1)) by omega)
  have hzn : w.heap.size + 1 + 1 + 1 ≤ (u9.setCell ⟨(w.heap.size + 1 + 1), 32, none⟩ (.bool y9)).heap.size := by have := hmn.size; omega
  have hrn5 := r_mod HR5.out hmn (fun k e => .inl (by omega))
  clear HR5
  have hrn6 := r_mod HR6.out hmn (fun k e => .inl (by omega))
  clear HR6
  go_wp2_with (refine wpList_stop (some 212) rfl ?_)
  generalize u9.setCell ⟨(w.heap.size + 1 + 1), 32, none⟩ (.bool y9) = W10 at hxn hmn hin hzn hrn5 hrn6 ⊢
  have HBW := hid (HBW.out.trans (hmn.below (by omega) (fun x e => by omega)))
  have HA := hid (hmn.heap HA.out (show ¬ (w.heap.size = (w.heap.size + 1 + 1) ∨ w.heap.size = (w.heap.size + 1)) by omega))
  have HX := hid hxn
  have HI := hid hin
  have HR5 := hid hrn5
  have HR6 := hid hrn6
  clear hxn hmn hin hrn5 hrn6 hxu9 hvs9 hq9 hf9 hi9 hm9
  have hz10 := hzn
  clear hzn
  obtain ⟨S, hS, hsa⟩ := HI.out
  have cS : W10.cell? ⟨(w.heap.size + 1), 0, none⟩ = some (.string S) := hsa.cell 0
  have cB : W10.cell? ⟨(w.heap.size + 1), 1, none⟩ = some (.bool (!b10)) := hsa.cell 1
  clear hsa
  obtain ⟨V, hV⟩ : ∃ V, (((((((((((rowK 5).setIfInBounds 23 (.string y0)).setIfInBounds 24 (.string y1)).setIfInBounds 25 (.string y2)).setIfInBounds 26 (.string y3)).setIfInBounds 27 (.string y4)).setIfInBounds 28 (.slice A5 m5 c5)).setIfInBounds 29 (.slice A6 m6 c6)).setIfInBounds 30 (.int .i64 y7)).setIfInBounds 31 (.int .i64 y8)).setIfInBounds 32 (.bool y9)) = V := ⟨_, rfl⟩
  rw [hV] at HX
  have HV := hid hV
  have hVs : V.size = 46 := by rw [← hV]; simp only [Array.size_setIfInBounds]; exact rowK_size 5
  have hV1 : V.all (·.oneCell') = true := by rw [← hV]; kernel_rfl
  have hVi : (Tryd.prog.info? 41).map (·.size) = some V.size := by rw [hVs]; exact rowInfo
  clear hV
  have HUN := hid (show unR (dAccess s.data.toList false) = unR ((⟨y0, y1, y2, y3, y4, y5, y6, y7, y8, y9⟩, l10, b10) : S34 × List UInt8 × Bool) by rw [HD.out])
  cases b10 with
  | true =>
    have cB : W10.cell? ⟨(w.heap.size + 1), 1, none⟩ = some (.bool false) := cB
    have hon : o = none := by rw [← HO.out, HUN.out]; exact if_pos (.inl rfl)
    refine Stood.mk ?_
    go_wp2_with (first | (refine wpList_buildTo rfl 41 _ rfl (some 227) rfl rowZ rowZ_built ?_) | (refine wpList_store_at rfl 41 (.tmp 4) (.tmp 227) rfl rfl w.heap.size 41 rowZ rowZ HA.out rfl rfl rowZ_info rfl rowZ_one ?_))
    have hzr := at_setRow HA.out rowZ
    have hbr : Below w.heap.size w (W10.setRow w.heap.size rowZ) := HBW.out.trans ((mod_setRow W10 w.heap.size rowZ).below HBW.out.size (fun x e => by omega))
    refine bodyPost_ret (results_ct rfl _ _ w.heap.size 41 rowZ (0, 0) _ rfl hzr Tryd.underlying41 rfl rowZ_info) rfl ?_
    refine ⟨rowZ, ?_, rowZ_size, rowZ_one, ?_, hbr⟩
    · rw [hon]; rfl
    · rw [hon]; intro h; cases h
  | false =>
    have cB : W10.cell? ⟨(w.heap.size + 1), 1, none⟩ = some (.bool true) := cB
    by_cases hS0 : S.size = 0
    · have hSe : S = ⟨#[]⟩ := by
        apply ByteArray.ext
        exact Array.eq_empty_of_size_eq_zero hS0
      subst hSe
      have hl0 : l10 = [] := by rw [← hS]
      have hon : o = some (⟨y0, y1, y2, y3, y4, y5, y6, y7, y8, y9⟩) := by rw [← HO.out, HUN.out]; exact if_neg (by simp [hl0])
      obtain ⟨hb, hcc⟩ := dAccessCod.un_bwd (HO.out.trans hon)
      have hsm := smallAccess (by rw [← hb, str_len]; exact hs) hcc
      have hfin := k41_mkM W10 (w.heap.size + 1 + 1 + 1) (fun _ => True) (rowAccess (⟨y0, y1, y2, y3, y4, y5, y6, y7, y8, y9⟩)) (Kd.R_nil _ _ _ _ _) (Kd.R_nil _ _ _ _ _) (Kd.R_nil _ _ _ _ _) HR5.out HR6.out (Kd.R_nil _ _ _ _ _) (Kd.R_nil _ _ _ _ _) (Kd.R_nil _ _ _ _ _)
      have key : ∀ c c', c = c' → k41.M W10 (w.heap.size + 1 + 1 + 1) (fun _ => True) (rowAccess (⟨y0, y1, y2, y3, y4, y5, y6, y7, y8, y9⟩)) c → k41.M W10 (w.heap.size + 1 + 1 + 1) (fun _ => True) (rowAccess (⟨y0, y1, y2, y3, y4, y5, y6, y7, y8, y9⟩)) c' := fun _ _ e h => e ▸ h
      have hVM : k41.M W10 (w.heap.size + 1 + 1 + 1) (fun _ => True) (rowAccess (⟨y0, y1, y2, y3, y4, y5, y6, y7, y8, y9⟩)) V.toList := by
        rw [← HV.out]
        exact key _ _ (by kernel_rfl) hfin
      have HVM := hid hVM
      have hK : k41.K W10 (rowAccess (⟨y0, y1, y2, y3, y4, y5, y6, y7, y8, y9⟩)) V.toList := by
        exact k41.K_of_M hVM
      have hby := refBytes_at W10 V _ hK hsm.1 hsm.2
      have hbs : rowB (rowAccess (⟨y0, y1, y2, y3, y4, y5, y6, y7, y8, y9⟩)) = s.data.toList := by rw [hb]; unfold rowB rowAccess; simp
      rw [hbs] at hby
      have HBY := hid hby
      have HK := hid hK
      clear hfin key hVM hK hby hbs hcc hb hsm hl0 hS hS0
      refine Stood.mk ?_
      go_wp2_with (first | (refine wpList_load_rowH (by rfl) 41 (.tmp 7) rfl (w.heap.size + 1 + 1) rfl 41 V (0, 0) _ HX.out Tryd.underlying41 rfl hVi ?_))
      refine HBY.out.mono ?_
      clear HBY
      rintro e u9 ⟨rfl, hb9⟩
      have hx9 : AtB u9 (w.heap.size + 1 + 1) 41 V := (hb9.block _ (lt_of_heap HX.out)).trans HX.out
      have ha9 : AtB u9 w.heap.size 41 rowZ := (hb9.block _ (lt_of_heap HA.out)).trans HA.out
      have HX9 := hid hx9
      have HA9 := hid ha9
      have HB9 := hid (below_then HBW.out hb9)
      have HK9 := hid (k41.M_bound (k41.M_below HVM.out hb9))
      clear hx9 ha9 hb9
      go_wp2_with (first | (refine wpList_load_row rfl 41 (.tmp 7) rfl (w.heap.size + 1 + 1) rfl 41 V (0, 0) _ HX9.out Tryd.underlying41 rfl hVi ?_) | (refine wpList_store_at rfl 41 (.tmp 4) (.tmp 228) rfl rfl w.heap.size 41 rowZ V HA9.out rfl rfl hVi (by rw [hVs]; rfl) hV1 ?_))
      have hzr := at_setRow HA9.out V
      have hbr : Below w.heap.size w (u9.setRow w.heap.size V) := HB9.out.trans ((mod_setRow u9 w.heap.size V).below HB9.out.size (fun x e => by omega))
      refine bodyPost_ret (results_ct rfl _ _ w.heap.size 41 V (0, 0) _ rfl hzr Tryd.underlying41 rfl hVi) rfl ?_
      have hK9 := k41.K_of_M (k41.M_step HK9.out (fun k hk hlt => (mod_setRow u9 w.heap.size V).block k hlt (show ¬ (k = w.heap.size) by have := hk.2.1; omega)))
      refine ⟨V, by rw [hon]; rfl, hVs, hV1, fun _ => by rw [hon]; exact hK9, hbr⟩
    · have hon : o = none := by
        rw [← HO.out, HUN.out]
        exact if_pos (.inr (by show 0 < l10.length; rw [← hS, str_len]; omega))
      have n1 := str_ne_empty S (by omega)
      have n2 := str_not_empty S (by omega)
      refine Stood.mk ?_
      go_wp2_with (first | (refine wpList_buildTo rfl 41 _ rfl (some 227) rfl rowZ rowZ_built ?_) | (refine wpList_store_at rfl 41 (.tmp 4) (.tmp 227) rfl rfl w.heap.size 41 rowZ rowZ HA.out rfl rfl rowZ_info rfl rowZ_one ?_))
      have hzr := at_setRow HA.out rowZ
      have hbr : Below w.heap.size w (W10.setRow w.heap.size rowZ) := HBW.out.trans ((mod_setRow W10 w.heap.size rowZ).below HBW.out.size (fun x e => by omega))
      refine bodyPost_ret (results_ct rfl _ _ w.heap.size 41 rowZ (0, 0) _ rfl hzr Tryd.underlying41 rfl rowZ_info) rfl ?_
      refine ⟨rowZ, ?_, rowZ_size, rowZ_one, ?_, hbr⟩
      · rw [hon]; rfl
      · rw [hon]; intro h; cases h
end Go.Proofs.YtcgjacffemjehaaDoor

namespace Go.Proofs.YtcgjacffemjehaaDoor
open Go.RowKit
open Go.Proofs.YtcgjacffemjehaaDoorW.PrintWords (Kd rdOf results_ct)
open Go.Proofs.YtcgjacffemjehaaDoor.PRowReads
set_option linter.unusedVariables false
set_option linter.unusedSimpArgs false
set_option maxHeartbeats 8000000 in
set_option maxRecDepth 100000 in
theorem docResource (w : World) (s : ByteArray) (hs : s.size ≤ 1048576) :
    Calls Tryd.prog 7 #[.int .i64 6, .string s] w (DocPost (rowResource ((unR (resourceR s.data.toList false)).getD z36)) (unR (resourceR s.data.toList false)).isSome w) := by
  rw [resourceCod.same dResourceCod]
  have hsl := str_len s
  obtain ⟨o, ho⟩ : ∃ o, unR (dResource s.data.toList false) = o := ⟨_, rfl⟩
  rw [ho]
  have HO := hid ho
  clear ho
  have hbw0 : Below w.heap.size w (((w.alloc (.cells rowZ 41)).alloc (.cells #[.string s, .bool true] 73)).alloc (.cells (rowK 6) 41)) := (((Below.refl w.heap.size w).alloc (Nat.le_refl _) _).alloc (by simp) _).alloc (by simp; omega) _
  have ha0 : AtB (((w.alloc (.cells rowZ 41)).alloc (.cells #[.string s, .bool true] 73)).alloc (.cells (rowK 6) 41)) w.heap.size 41 rowZ := ((at_make rfl).alloc _).alloc _
  have hi0 : InAt (((w.alloc (.cells rowZ 41)).alloc (.cells #[.string s, .bool true] 73)).alloc (.cells (rowK 6) 41)) (w.heap.size + 1) s.data.toList false := ⟨s, rfl, (at_make (by simp)).alloc _⟩
  have hx0 : AtB (((w.alloc (.cells rowZ 41)).alloc (.cells #[.string s, .bool true] 73)).alloc (.cells (rowK 6) 41)) (w.heap.size + 1 + 1) 41 (rowK 6) := at_make (by simp)
  have hz0 : (((w.alloc (.cells rowZ 41)).alloc (.cells #[.string s, .bool true] 73)).alloc (.cells (rowK 6) 41)).heap.size = w.heap.size + 1 + 1 + 1 := by simp
  obtain ⟨y0, l1, b1, e0⟩ := trip (dText s.data.toList false)
  obtain ⟨y1, l2, b2, e1⟩ := trip (dText l1 b1)
  obtain ⟨y2, l3, b3, e2⟩ := trip (dText l2 b2)
  obtain ⟨y3, l4, b4, e3⟩ := trip (dText l3 b3)
  obtain ⟨y4, l5, b5, e4⟩ := trip (dList dText l4 b4)
  obtain ⟨y5, l6, b6, e5⟩ := trip (dText l5 b5)
  have hd : dResource s.data.toList false = ((⟨y0, y1, y2, y3, y4, y5⟩, l6, b6) : S36 × List UInt8 × Bool) := by unfold dResource; simp only [andR, e0, e1, e2, e3, e4, e5]
  have HD := hid hd
  have HE0 := hid e0
  have HE1 := hid e1
  have HE2 := hid e2
  have HE3 := hid e3
  have HE4 := hid e4
  have HE5 := hid e5
  have hc := text_in hi0
  rw [e0] at hc
  have HC := hid hc
  have HBW := hid hbw0
  have HA := hid ha0
  have HX := hid hx0
  clear hd hc hbw0 ha0 hx0 hi0 e0 e1 e2 e3 e4 e5
  obtain ⟨W0, hW0⟩ : ∃ W, (((w.alloc (.cells rowZ 41)).alloc (.cells #[.string s, .bool true] 73)).alloc (.cells (rowK 6) 41)) = W := ⟨_, rfl⟩
  have HW0 := hid hW0
  rw [hW0] at HC HBW HA HX hz0
  go_enter Tryd.func7, Tryd.ntmps7
  go_wp2_with (first | (refine wpList_allocTo rfl (some 4) rfl _ _ (run_allocRow _ _ rfl _) ?_) | (refine wpList_allocTo rfl (some 7) rfl _ _ (run_allocRow _ _ rfl _) ?_) | (refine wpList_buildTo rfl 41 _ rfl (some 12) rfl (rowK 6) (by kernel_rfl) ?_) | (refine wpList_store_new rfl 41 (.tmp 7) (.tmp 12) rfl rfl ((w.alloc (.cells rowZ 41)).alloc (.cells #[.string s, .bool true] 73)) 41 rowZ (rowK 6) rfl (by simp only [World.size_alloc]; rfl) rfl (by kernel_rfl) (by kernel_rfl) (by kernel_rfl) ?_))
  clear hW0 HW0
  go_at_call 21
  refine HC.out.mono ?_
  clear HC
  rintro e u0 ⟨rfl, hi0, hm0⟩
  have hxu0 : AtB u0 (w.heap.size + 1 + 1) 41 (rowK 6) := hm0.heap HX.out (show ¬ ((w.heap.size + 1 + 1) = (w.heap.size + 1)) by omega)
  have hvs0 : ((rowK 6)).size = 46 := by exact rowK_size 6
  obtain ⟨q0, hq0⟩ := hxu0.some 33 (by rw [hvs0]; omega)
  have hf0 := hxu0.free 33
  have hxn : AtB (u0.setCell ⟨(w.heap.size + 1 + 1), 33, none⟩ (.string y0)) (w.heap.size + 1 + 1) 41 (((rowK 6)).setIfInBounds 33 (.string y0)) := hxu0.set 33 (.string y0)
  have hmn : Mod (fun k => k = (w.heap.size + 1 + 1) ∨ k = (w.heap.size + 1)) W0 (u0.setCell ⟨(w.heap.size + 1 + 1), 33, none⟩ (.string y0)) := (hm0.mono (fun _ _ e => .inr e)).setCell ⟨(w.heap.size + 1 + 1), 33, none⟩ (.string y0) (.inl (.inl rfl))
  have hin : InAt (u0.setCell ⟨(w.heap.size + 1 + 1), 33, none⟩ (.string y0)) (w.heap.size + 1) l1 b1 := hi0.mod (mod_set u0 (w.heap.size + 1 + 1) 33 (.string y0)) (show ¬ ((w.heap.size + 1) = (w.heap.size + 1 + 1)) by omega)
  have hzn : w.heap.size + 1 + 1 + 1 ≤ (u0.setCell ⟨(w.heap.size + 1 + 1), 33, none⟩ (.string y0)).heap.size := by have := hmn.size; omega
  have hc := text_in hin
  rw [HE1.out] at hc
  go_wp2_with fail
  generalize u0.setCell ⟨(w.heap.size + 1 + 1), 33, none⟩ (.string y0) = W1 at hxn hmn hin hzn hc ⊢
  have HBW := hid (HBW.out.trans (hmn.below (by omega) (fun x e => by omega)))
  have HA := hid (hmn.heap HA.out (show ¬ (w.heap.size = (w.heap.size + 1 + 1) ∨ w.heap.size = (w.heap.size + 1)) by omega))
  have HX := hid hxn
  have HI := hid hin
  have HC := hid hc
  clear hxn hmn hin hc hxu0 hvs0 hq0 hf0 hi0 hm0
  have hz1 := hzn
  clear hzn
  go_at_call 21
  refine HC.out.mono ?_
  clear HC
  rintro e u1 ⟨rfl, hi1, hm1⟩
  have hxu1 : AtB u1 (w.heap.size + 1 + 1) 41 ((rowK 6).setIfInBounds 33 (.string y0)) := hm1.heap HX.out (show ¬ ((w.heap.size + 1 + 1) = (w.heap.size + 1)) by omega)
  have hvs1 : (((rowK 6).setIfInBounds 33 (.string y0))).size = 46 := by simp only [Array.size_setIfInBounds]; exact rowK_size 6
  obtain ⟨q1, hq1⟩ := hxu1.some 34 (by rw [hvs1]; omega)
  have hf1 := hxu1.free 34
  have hxn : AtB (u1.setCell ⟨(w.heap.size + 1 + 1), 34, none⟩ (.string y1)) (w.heap.size + 1 + 1) 41 ((((rowK 6).setIfInBounds 33 (.string y0))).setIfInBounds 34 (.string y1)) := hxu1.set 34 (.string y1)
  have hmn : Mod (fun k => k = (w.heap.size + 1 + 1) ∨ k = (w.heap.size + 1)) W1 (u1.setCell ⟨(w.heap.size + 1 + 1), 34, none⟩ (.string y1)) := (hm1.mono (fun _ _ e => .inr e)).setCell ⟨(w.heap.size + 1 + 1), 34, none⟩ (.string y1) (.inl (.inl rfl))
  have hin : InAt (u1.setCell ⟨(w.heap.size + 1 + 1), 34, none⟩ (.string y1)) (w.heap.size + 1) l2 b2 := hi1.mod (mod_set u1 (w.heap.size + 1 + 1) 34 (.string y1)) (show ¬ ((w.heap.size + 1) = (w.heap.size + 1 + 1)) by omega)
  have hzn : w.heap.size + 1 + 1 + 1 ≤ (u1.setCell ⟨(w.heap.size + 1 + 1), 34, none⟩ (.string y1)).heap.size := by have := hmn.size; omega
  have hc := text_in hin
  rw [HE2.out] at hc
  go_wp2_with fail
  generalize u1.setCell ⟨(w.heap.size + 1 + 1), 34, none⟩ (.string y1) = W2 at hxn hmn hin hzn hc ⊢
  have HBW := hid (HBW.out.trans (hmn.below (by omega) (fun x e => by omega)))
  have HA := hid (hmn.heap HA.out (show ¬ (w.heap.size = (w.heap.size + 1 + 1) ∨ w.heap.size = (w.heap.size + 1)) by omega))
  have HX := hid hxn
  have HI := hid hin
  have HC := hid hc
  clear hxn hmn hin hc hxu1 hvs1 hq1 hf1 hi1 hm1
  have hz2 := hzn
  clear hzn
  go_at_call 21
  refine HC.out.mono ?_
  clear HC
  rintro e u2 ⟨rfl, hi2, hm2⟩
  have hxu2 : AtB u2 (w.heap.size + 1 + 1) 41 (((rowK 6).setIfInBounds 33 (.string y0)).setIfInBounds 34 (.string y1)) := hm2.heap HX.out (show ¬ ((w.heap.size + 1 + 1) = (w.heap.size + 1)) by omega)
  have hvs2 : ((((rowK 6).setIfInBounds 33 (.string y0)).setIfInBounds 34 (.string y1))).size = 46 := by simp only [Array.size_setIfInBounds]; exact rowK_size 6
  obtain ⟨q2, hq2⟩ := hxu2.some 35 (by rw [hvs2]; omega)
  have hf2 := hxu2.free 35
  have hxn : AtB (u2.setCell ⟨(w.heap.size + 1 + 1), 35, none⟩ (.string y2)) (w.heap.size + 1 + 1) 41 (((((rowK 6).setIfInBounds 33 (.string y0)).setIfInBounds 34 (.string y1))).setIfInBounds 35 (.string y2)) := hxu2.set 35 (.string y2)
  have hmn : Mod (fun k => k = (w.heap.size + 1 + 1) ∨ k = (w.heap.size + 1)) W2 (u2.setCell ⟨(w.heap.size + 1 + 1), 35, none⟩ (.string y2)) := (hm2.mono (fun _ _ e => .inr e)).setCell ⟨(w.heap.size + 1 + 1), 35, none⟩ (.string y2) (.inl (.inl rfl))
  have hin : InAt (u2.setCell ⟨(w.heap.size + 1 + 1), 35, none⟩ (.string y2)) (w.heap.size + 1) l3 b3 := hi2.mod (mod_set u2 (w.heap.size + 1 + 1) 35 (.string y2)) (show ¬ ((w.heap.size + 1) = (w.heap.size + 1 + 1)) by omega)
  have hzn : w.heap.size + 1 + 1 + 1 ≤ (u2.setCell ⟨(w.heap.size + 1 + 1), 35, none⟩ (.string y2)).heap.size := by have := hmn.size; omega
  have hc := text_in hin
  rw [HE3.out] at hc
  go_wp2_with fail
  generalize u2.setCell ⟨(w.heap.size + 1 + 1), 35, none⟩ (.string y2) = W3 at hxn hmn hin hzn hc ⊢
  have HBW := hid (HBW.out.trans (hmn.below (by omega) (fun x e => by omega)))
  have HA := hid (hmn.heap HA.out (show ¬ (w.heap.size = (w.heap.size + 1 + 1) ∨ w.heap.size = (w.heap.size + 1)) by omega))
  have HX := hid hxn
  have HI := hid hin
  have HC := hid hc
  clear hxn hmn hin hc hxu2 hvs2 hq2 hf2 hi2 hm2
  have hz3 := hzn
  clear hzn
  go_at_call 21
  refine HC.out.mono ?_
  clear HC
  rintro e u3 ⟨rfl, hi3, hm3⟩
  have hxu3 : AtB u3 (w.heap.size + 1 + 1) 41 ((((rowK 6).setIfInBounds 33 (.string y0)).setIfInBounds 34 (.string y1)).setIfInBounds 35 (.string y2)) := hm3.heap HX.out (show ¬ ((w.heap.size + 1 + 1) = (w.heap.size + 1)) by omega)
  have hvs3 : (((((rowK 6).setIfInBounds 33 (.string y0)).setIfInBounds 34 (.string y1)).setIfInBounds 35 (.string y2))).size = 46 := by simp only [Array.size_setIfInBounds]; exact rowK_size 6
  obtain ⟨q3, hq3⟩ := hxu3.some 36 (by rw [hvs3]; omega)
  have hf3 := hxu3.free 36
  have hxn : AtB (u3.setCell ⟨(w.heap.size + 1 + 1), 36, none⟩ (.string y3)) (w.heap.size + 1 + 1) 41 ((((((rowK 6).setIfInBounds 33 (.string y0)).setIfInBounds 34 (.string y1)).setIfInBounds 35 (.string y2))).setIfInBounds 36 (.string y3)) := hxu3.set 36 (.string y3)
  have hmn : Mod (fun k => k = (w.heap.size + 1 + 1) ∨ k = (w.heap.size + 1)) W3 (u3.setCell ⟨(w.heap.size + 1 + 1), 36, none⟩ (.string y3)) := (hm3.mono (fun _ _ e => .inr e)).setCell ⟨(w.heap.size + 1 + 1), 36, none⟩ (.string y3) (.inl (.inl rfl))
  have hin : InAt (u3.setCell ⟨(w.heap.size + 1 + 1), 36, none⟩ (.string y3)) (w.heap.size + 1) l4 b4 := hi3.mod (mod_set u3 (w.heap.size + 1 + 1) 36 (.string y3)) (show ¬ ((w.heap.size + 1) = (w.heap.size + 1 + 1)) by omega)
  have hzn : w.heap.size + 1 + 1 + 1 ≤ (u3.setCell ⟨(w.heap.size + 1 + 1), 36, none⟩ (.string y3)).heap.size := by have := hmn.size; omega
  have hc := texts_in hin
  rw [HE4.out] at hc
  go_wp2_with fail
  generalize u3.setCell ⟨(w.heap.size + 1 + 1), 36, none⟩ (.string y3) = W4 at hxn hmn hin hzn hc ⊢
  have HBW := hid (HBW.out.trans (hmn.below (by omega) (fun x e => by omega)))
  have HA := hid (hmn.heap HA.out (show ¬ (w.heap.size = (w.heap.size + 1 + 1) ∨ w.heap.size = (w.heap.size + 1)) by omega))
  have HX := hid hxn
  have HI := hid hin
  have HC := hid hc
  clear hxn hmn hin hc hxu3 hvs3 hq3 hf3 hi3 hm3
  have hz4 := hzn
  clear hzn
  go_at_call 22
  refine HC.out.mono ?_
  clear HC
  rintro e u4 ⟨v4, rfl, hr4, hi4, hm4⟩
  obtain ⟨A4, m4, c4, rfl⟩ := r_form hr4
  have hxu4 : AtB u4 (w.heap.size + 1 + 1) 41 (((((rowK 6).setIfInBounds 33 (.string y0)).setIfInBounds 34 (.string y1)).setIfInBounds 35 (.string y2)).setIfInBounds 36 (.string y3)) := hm4.heap HX.out (show ¬ ((w.heap.size + 1 + 1) = (w.heap.size + 1)) by omega)
  have hvs4 : ((((((rowK 6).setIfInBounds 33 (.string y0)).setIfInBounds 34 (.string y1)).setIfInBounds 35 (.string y2)).setIfInBounds 36 (.string y3))).size = 46 := by simp only [Array.size_setIfInBounds]; exact rowK_size 6
  obtain ⟨q4, hq4⟩ := hxu4.some 37 (by rw [hvs4]; omega)
  have hf4 := hxu4.free 37
  have hxn : AtB (u4.setCell ⟨(w.heap.size + 1 + 1), 37, none⟩ (.slice A4 m4 c4)) (w.heap.size + 1 + 1) 41 (((((((rowK 6).setIfInBounds 33 (.string y0)).setIfInBounds 34 (.string y1)).setIfInBounds 35 (.string y2)).setIfInBounds 36 (.string y3))).setIfInBounds 37 (.slice A4 m4 c4)) := hxu4.set 37 (.slice A4 m4 c4)
  have hmn : Mod (fun k => k = (w.heap.size + 1 + 1) ∨ k = (w.heap.size + 1)) W4 (u4.setCell ⟨(w.heap.size + 1 + 1), 37, none⟩ (.slice A4 m4 c4)) := (hm4.mono (fun _ _ e => .inr e)).setCell ⟨(w.heap.size + 1 + 1), 37, none⟩ (.slice A4 m4 c4) (.inl (.inl rfl))
  have hin : InAt (u4.setCell ⟨(w.heap.size + 1 + 1), 37, none⟩ (.slice A4 m4 c4)) (w.heap.size + 1) l5 b5 := hi4.mod (mod_set u4 (w.heap.size + 1 + 1) 37 (.slice A4 m4 c4)) (show ¬ ((w.heap.size + 1) = (w.heap.size + 1 + 1)) by omega)
  have hzn : w.heap.size + 1 + 1 + 1 ≤ (u4.setCell ⟨(w.heap.size + 1 + 1), 37, none⟩ (.slice A4 m4 c4)).heap.size := by have := hmn.size; omega
  have hrn4 : Kd.string.R 9 (u4.setCell ⟨(w.heap.size + 1 + 1), 37, none⟩ (.slice A4 m4 c4)) (w.heap.size + 1 + 1 + 1) (fun _ => True) (.slice A4 m4 c4) y4 := Kd.R_lower (r_mod hr4 (mod_set u4 (w.heap.size + 1 + 1) 37 (.slice A4 m4 c4)) (fun k e => .inl (by have e2 : k = (w.heap.size + 1 + 1) := e; omega))) (by omega)
  have hc := text_in hin
  rw [HE5.out] at hc
  go_wp2_with fail
  generalize u4.setCell ⟨(w.heap.size + 1 + 1), 37, none⟩ (.slice A4 m4 c4) = W5 at hxn hmn hin hzn hrn4 hc ⊢
  have HBW := hid (HBW.out.trans (hmn.below (by omega) (fun x e => by omega)))
  have HA := hid (hmn.heap HA.out (show ¬ (w.heap.size = (w.heap.size + 1 + 1) ∨ w.heap.size = (w.heap.size + 1)) by omega))
  have HX := hid hxn
  have HI := hid hin
  have HR4 := hid hrn4
  have HC := hid hc
  clear hxn hmn hin hrn4 hc hxu4 hvs4 hq4 hf4 hi4 hm4 hr4
  have hz5 := hzn
  clear hzn
  go_at_call 21
  refine HC.out.mono ?_
  clear HC
  rintro e u5 ⟨rfl, hi5, hm5⟩
  have hxu5 : AtB u5 (w.heap.size + 1 + 1) 41 ((((((rowK 6).setIfInBounds 33 (.string y0)).setIfInBounds 34 (.string y1)).setIfInBounds 35 (.string y2)).setIfInBounds 36 (.string y3)).setIfInBounds 37 (.slice A4 m4 c4)) := hm5.heap HX.out (show ¬ ((w.heap.size + 1 + 1) = (w.heap.size + 1)) by omega)
  have hvs5 : (((((((rowK 6).setIfInBounds 33 (.string y0)).setIfInBounds 34 (.string y1)).setIfInBounds 35 (.string y2)).setIfInBounds 36 (.string y3)).setIfInBounds 37 (.slice A4 m4 c4))).size = 46 := by simp only [Array.size_setIfInBounds]; exact rowK_size 6
  obtain ⟨q5, hq5⟩ := hxu5.some 38 (by rw [hvs5]; omega)
  have hf5 := hxu5.free 38
  have hxn : AtB (u5.setCell ⟨(w.heap.size + 1 + 1), 38, none⟩ (.string y5)) (w.heap.size + 1 + 1) 41 ((((((((rowK 6).setIfInBounds 33 (.string y0)).setIfInBounds 34 (.string y1)).setIfInBounds 35 (.string y2)).setIfInBounds 36 (.string y3)).setIfInBounds 37 (.slice A4 m4 c4))).setIfInBounds 38 (.string y5)) := hxu5.set 38 (.string y5)
  have hmn : Mod (fun k => k = (w.heap.size + 1 + 1) ∨ k = (w.heap.size + 1)) W5 (u5.setCell ⟨(w.heap.size + 1 + 1), 38, none⟩ (.string y5)) := (hm5.mono (fun _ _ e => .inr e)).setCell ⟨(w.heap.size + 1 + 1), 38, none⟩ (.string y5) (.inl (.inl rfl))
  have hin : InAt (u5.setCell ⟨(w.heap.size + 1 + 1), 38, none⟩ (.string y5)) (w.heap.size + 1) l6 b6 := hi5.mod (mod_set u5 (w.heap.size + 1 + 1) 38 (.string y5)) (show ¬ ((w.heap.size + 1) = (w.heap.size + 1 + 1)) by omega)
  have hzn : w.heap.size + 1 + 1 + 1 ≤ (u5.setCell ⟨(w.heap.size + 1 + 1), 38, none⟩ (.string y5)).heap.size := by have := hmn.size; omega
  have hrn4 := r_mod HR4.out hmn (fun k e => .inl (by omega))
  clear HR4
  go_wp2_with (refine wpList_stop (some 212) rfl ?_)
  generalize u5.setCell ⟨(w.heap.size + 1 + 1), 38, none⟩ (.string y5) = W6 at hxn hmn hin hzn hrn4 ⊢
  have HBW := hid (HBW.out.trans (hmn.below (by omega) (fun x e => by omega)))
  have HA := hid (hmn.heap HA.out (show ¬ (w.heap.size = (w.heap.size + 1 + 1) ∨ w.heap.size = (w.heap.size + 1)) by omega))
  have HX := hid hxn
  have HI := hid hin
  have HR4 := hid hrn4
  clear hxn hmn hin hrn4 hxu5 hvs5 hq5 hf5 hi5 hm5
  have hz6 := hzn
  clear hzn
  obtain ⟨S, hS, hsa⟩ := HI.out
  have cS : W6.cell? ⟨(w.heap.size + 1), 0, none⟩ = some (.string S) := hsa.cell 0
  have cB : W6.cell? ⟨(w.heap.size + 1), 1, none⟩ = some (.bool (!b6)) := hsa.cell 1
  clear hsa
  obtain ⟨V, hV⟩ : ∃ V, (((((((rowK 6).setIfInBounds 33 (.string y0)).setIfInBounds 34 (.string y1)).setIfInBounds 35 (.string y2)).setIfInBounds 36 (.string y3)).setIfInBounds 37 (.slice A4 m4 c4)).setIfInBounds 38 (.string y5)) = V := ⟨_, rfl⟩
  rw [hV] at HX
  have HV := hid hV
  have hVs : V.size = 46 := by rw [← hV]; simp only [Array.size_setIfInBounds]; exact rowK_size 6
  have hV1 : V.all (·.oneCell') = true := by rw [← hV]; kernel_rfl
  have hVi : (Tryd.prog.info? 41).map (·.size) = some V.size := by rw [hVs]; exact rowInfo
  clear hV
  have HUN := hid (show unR (dResource s.data.toList false) = unR ((⟨y0, y1, y2, y3, y4, y5⟩, l6, b6) : S36 × List UInt8 × Bool) by rw [HD.out])
  cases b6 with
  | true =>
    have cB : W6.cell? ⟨(w.heap.size + 1), 1, none⟩ = some (.bool false) := cB
    have hon : o = none := by rw [← HO.out, HUN.out]; exact if_pos (.inl rfl)
    refine Stood.mk ?_
    go_wp2_with (first | (refine wpList_buildTo rfl 41 _ rfl (some 227) rfl rowZ rowZ_built ?_) | (refine wpList_store_at rfl 41 (.tmp 4) (.tmp 227) rfl rfl w.heap.size 41 rowZ rowZ HA.out rfl rfl rowZ_info rfl rowZ_one ?_))
    have hzr := at_setRow HA.out rowZ
    have hbr : Below w.heap.size w (W6.setRow w.heap.size rowZ) := HBW.out.trans ((mod_setRow W6 w.heap.size rowZ).below HBW.out.size (fun x e => by omega))
    refine bodyPost_ret (results_ct rfl _ _ w.heap.size 41 rowZ (0, 0) _ rfl hzr Tryd.underlying41 rfl rowZ_info) rfl ?_
    refine ⟨rowZ, ?_, rowZ_size, rowZ_one, ?_, hbr⟩
    · rw [hon]; rfl
    · rw [hon]; intro h; cases h
  | false =>
    have cB : W6.cell? ⟨(w.heap.size + 1), 1, none⟩ = some (.bool true) := cB
    by_cases hS0 : S.size = 0
    · have hSe : S = ⟨#[]⟩ := by
        apply ByteArray.ext
        exact Array.eq_empty_of_size_eq_zero hS0
      subst hSe
      have hl0 : l6 = [] := by rw [← hS]
      have hon : o = some (⟨y0, y1, y2, y3, y4, y5⟩) := by rw [← HO.out, HUN.out]; exact if_neg (by simp [hl0])
      obtain ⟨hb, hcc⟩ := dResourceCod.un_bwd (HO.out.trans hon)
      have hsm := smallResource (by rw [← hb, str_len]; exact hs) hcc
      have hfin := k41_mkM W6 (w.heap.size + 1 + 1 + 1) (fun _ => True) (rowResource (⟨y0, y1, y2, y3, y4, y5⟩)) (Kd.R_nil _ _ _ _ _) (Kd.R_nil _ _ _ _ _) (Kd.R_nil _ _ _ _ _) (Kd.R_nil _ _ _ _ _) (Kd.R_nil _ _ _ _ _) HR4.out (Kd.R_nil _ _ _ _ _) (Kd.R_nil _ _ _ _ _)
      have key : ∀ c c', c = c' → k41.M W6 (w.heap.size + 1 + 1 + 1) (fun _ => True) (rowResource (⟨y0, y1, y2, y3, y4, y5⟩)) c → k41.M W6 (w.heap.size + 1 + 1 + 1) (fun _ => True) (rowResource (⟨y0, y1, y2, y3, y4, y5⟩)) c' := fun _ _ e h => e ▸ h
      have hVM : k41.M W6 (w.heap.size + 1 + 1 + 1) (fun _ => True) (rowResource (⟨y0, y1, y2, y3, y4, y5⟩)) V.toList := by
        rw [← HV.out]
        exact key _ _ (by kernel_rfl) hfin
      have HVM := hid hVM
      have hK : k41.K W6 (rowResource (⟨y0, y1, y2, y3, y4, y5⟩)) V.toList := by
        exact k41.K_of_M hVM
      have hby := refBytes_at W6 V _ hK hsm.1 hsm.2
      have hbs : rowB (rowResource (⟨y0, y1, y2, y3, y4, y5⟩)) = s.data.toList := by rw [hb]; unfold rowB rowResource; simp
      rw [hbs] at hby
      have HBY := hid hby
      have HK := hid hK
      clear hfin key hVM hK hby hbs hcc hb hsm hl0 hS hS0
      refine Stood.mk ?_
      go_wp2_with (first | (refine wpList_load_rowH (by rfl) 41 (.tmp 7) rfl (w.heap.size + 1 + 1) rfl 41 V (0, 0) _ HX.out Tryd.underlying41 rfl hVi ?_))
      refine HBY.out.mono ?_
      clear HBY
      rintro e u9 ⟨rfl, hb9⟩
      have hx9 : AtB u9 (w.heap.size + 1 + 1) 41 V := (hb9.block _ (lt_of_heap HX.out)).trans HX.out
      have ha9 : AtB u9 w.heap.size 41 rowZ := (hb9.block _ (lt_of_heap HA.out)).trans HA.out
      have HX9 := hid hx9
      have HA9 := hid ha9
      have HB9 := hid (below_then HBW.out hb9)
      have HK9 := hid (k41.M_bound (k41.M_below HVM.out hb9))
      clear hx9 ha9 hb9
      go_wp2_with (first | (refine wpList_load_row rfl 41 (.tmp 7) rfl (w.heap.size + 1 + 1) rfl 41 V (0, 0) _ HX9.out Tryd.underlying41 rfl hVi ?_) | (refine wpList_store_at rfl 41 (.tmp 4) (.tmp 228) rfl rfl w.heap.size 41 rowZ V HA9.out rfl rfl hVi (by rw [hVs]; rfl) hV1 ?_))
      have hzr := at_setRow HA9.out V
      have hbr : Below w.heap.size w (u9.setRow w.heap.size V) := HB9.out.trans ((mod_setRow u9 w.heap.size V).below HB9.out.size (fun x e => by omega))
      refine bodyPost_ret (results_ct rfl _ _ w.heap.size 41 V (0, 0) _ rfl hzr Tryd.underlying41 rfl hVi) rfl ?_
      have hK9 := k41.K_of_M (k41.M_step HK9.out (fun k hk hlt => (mod_setRow u9 w.heap.size V).block k hlt (show ¬ (k = w.heap.size) by have := hk.2.1; omega)))
      refine ⟨V, by rw [hon]; rfl, hVs, hV1, fun _ => by rw [hon]; exact hK9, hbr⟩
    · have hon : o = none := by
        rw [← HO.out, HUN.out]
        exact if_pos (.inr (by show 0 < l6.length; rw [← hS, str_len]; omega))
      have n1 := str_ne_empty S (by omega)
      have n2 := str_not_empty S (by omega)
      refine Stood.mk ?_
      go_wp2_with (first | (refine wpList_buildTo rfl 41 _ rfl (some 227) rfl rowZ rowZ_built ?_) | (refine wpList_store_at rfl 41 (.tmp 4) (.tmp 227) rfl rfl w.heap.size 41 rowZ rowZ HA.out rfl rfl rowZ_info rfl rowZ_one ?_))
      have hzr := at_setRow HA.out rowZ
      have hbr : Below w.heap.size w (W6.setRow w.heap.size rowZ) := HBW.out.trans ((mod_setRow W6 w.heap.size rowZ).below HBW.out.size (fun x e => by omega))
      refine bodyPost_ret (results_ct rfl _ _ w.heap.size 41 rowZ (0, 0) _ rfl hzr Tryd.underlying41 rfl rowZ_info) rfl ?_
      refine ⟨rowZ, ?_, rowZ_size, rowZ_one, ?_, hbr⟩
      · rw [hon]; rfl
      · rw [hon]; intro h; cases h
end Go.Proofs.YtcgjacffemjehaaDoor

namespace Go.Proofs.YtcgjacffemjehaaDoor
open Go.RowKit
open Go.Proofs.YtcgjacffemjehaaDoorW.PrintWords (Kd rdOf results_ct)
open Go.Proofs.YtcgjacffemjehaaDoor.PRowReads
set_option linter.unusedVariables false
set_option linter.unusedSimpArgs false
set_option maxHeartbeats 8000000 in
set_option maxRecDepth 100000 in
theorem docTicket (w : World) (s : ByteArray) (hs : s.size ≤ 1048576) :
    Calls Tryd.prog 7 #[.int .i64 7, .string s] w (DocPost (rowTicket ((unR (ticketR s.data.toList false)).getD z38)) (unR (ticketR s.data.toList false)).isSome w) := by
  rw [ticketCod.same dTicketCod]
  have hsl := str_len s
  obtain ⟨o, ho⟩ : ∃ o, unR (dTicket s.data.toList false) = o := ⟨_, rfl⟩
  rw [ho]
  have HO := hid ho
  clear ho
  have hbw0 : Below w.heap.size w (((w.alloc (.cells rowZ 41)).alloc (.cells #[.string s, .bool true] 73)).alloc (.cells (rowK 7) 41)) := (((Below.refl w.heap.size w).alloc (Nat.le_refl _) _).alloc (by simp) _).alloc (by simp; omega) _
  have ha0 : AtB (((w.alloc (.cells rowZ 41)).alloc (.cells #[.string s, .bool true] 73)).alloc (.cells (rowK 7) 41)) w.heap.size 41 rowZ := ((at_make rfl).alloc _).alloc _
  have hi0 : InAt (((w.alloc (.cells rowZ 41)).alloc (.cells #[.string s, .bool true] 73)).alloc (.cells (rowK 7) 41)) (w.heap.size + 1) s.data.toList false := ⟨s, rfl, (at_make (by simp)).alloc _⟩
  have hx0 : AtB (((w.alloc (.cells rowZ 41)).alloc (.cells #[.string s, .bool true] 73)).alloc (.cells (rowK 7) 41)) (w.heap.size + 1 + 1) 41 (rowK 7) := at_make (by simp)
  have hz0 : (((w.alloc (.cells rowZ 41)).alloc (.cells #[.string s, .bool true] 73)).alloc (.cells (rowK 7) 41)).heap.size = w.heap.size + 1 + 1 + 1 := by simp
  obtain ⟨y0, l1, b1, e0⟩ := trip (dText s.data.toList false)
  obtain ⟨y1, l2, b2, e1⟩ := trip (dText l1 b1)
  obtain ⟨y2, l3, b3, e2⟩ := trip (dList dPerm l2 b2)
  obtain ⟨y3, l4, b4, e3⟩ := trip (dText l3 b3)
  obtain ⟨y4, l5, b5, e4⟩ := trip (dNum l4 b4)
  obtain ⟨y5, l6, b6, e5⟩ := trip (dTruth l5 b5)
  have hd : dTicket s.data.toList false = ((⟨y0, y1, y2, y3, y4, y5⟩, l6, b6) : S38 × List UInt8 × Bool) := by unfold dTicket; simp only [andR, e0, e1, e2, e3, e4, e5]
  have HD := hid hd
  have HE0 := hid e0
  have HE1 := hid e1
  have HE2 := hid e2
  have HE3 := hid e3
  have HE4 := hid e4
  have HE5 := hid e5
  have hc := text_in hi0
  rw [e0] at hc
  have HC := hid hc
  have HBW := hid hbw0
  have HA := hid ha0
  have HX := hid hx0
  clear hd hc hbw0 ha0 hx0 hi0 e0 e1 e2 e3 e4 e5
  obtain ⟨W0, hW0⟩ : ∃ W, (((w.alloc (.cells rowZ 41)).alloc (.cells #[.string s, .bool true] 73)).alloc (.cells (rowK 7) 41)) = W := ⟨_, rfl⟩
  have HW0 := hid hW0
  rw [hW0] at HC HBW HA HX hz0
  go_enter Tryd.func7, Tryd.ntmps7
  go_wp2_with (first | (refine wpList_allocTo rfl (some 4) rfl _ _ (run_allocRow _ _ rfl _) ?_) | (refine wpList_allocTo rfl (some 7) rfl _ _ (run_allocRow _ _ rfl _) ?_) | (refine wpList_buildTo rfl 41 _ rfl (some 12) rfl (rowK 7) (by kernel_rfl) ?_) | (refine wpList_store_new rfl 41 (.tmp 7) (.tmp 12) rfl rfl ((w.alloc (.cells rowZ 41)).alloc (.cells #[.string s, .bool true] 73)) 41 rowZ (rowK 7) rfl (by simp only [World.size_alloc]; rfl) rfl (by kernel_rfl) (by kernel_rfl) (by kernel_rfl) ?_))
  clear hW0 HW0
  go_at_call 21
  refine HC.out.mono ?_
  clear HC
  rintro e u0 ⟨rfl, hi0, hm0⟩
  have hxu0 : AtB u0 (w.heap.size + 1 + 1) 41 (rowK 7) := hm0.heap HX.out (show ¬ ((w.heap.size + 1 + 1) = (w.heap.size + 1)) by omega)
  have hvs0 : ((rowK 7)).size = 46 := by exact rowK_size 7
  obtain ⟨q0, hq0⟩ := hxu0.some 39 (by rw [hvs0]; omega)
  have hf0 := hxu0.free 39
  have hxn : AtB (u0.setCell ⟨(w.heap.size + 1 + 1), 39, none⟩ (.string y0)) (w.heap.size + 1 + 1) 41 (((rowK 7)).setIfInBounds 39 (.string y0)) := hxu0.set 39 (.string y0)
  have hmn : Mod (fun k => k = (w.heap.size + 1 + 1) ∨ k = (w.heap.size + 1)) W0 (u0.setCell ⟨(w.heap.size + 1 + 1), 39, none⟩ (.string y0)) := (hm0.mono (fun _ _ e => .inr e)).setCell ⟨(w.heap.size + 1 + 1), 39, none⟩ (.string y0) (.inl (.inl rfl))
  have hin : InAt (u0.setCell ⟨(w.heap.size + 1 + 1), 39, none⟩ (.string y0)) (w.heap.size + 1) l1 b1 := hi0.mod (mod_set u0 (w.heap.size + 1 + 1) 39 (.string y0)) (show ¬ ((w.heap.size + 1) = (w.heap.size + 1 + 1)) by omega)
  have hzn : w.heap.size + 1 + 1 + 1 ≤ (u0.setCell ⟨(w.heap.size + 1 + 1), 39, none⟩ (.string y0)).heap.size := by have := hmn.size; omega
  have hc := text_in hin
  rw [HE1.out] at hc
  go_wp2_with fail
  generalize u0.setCell ⟨(w.heap.size + 1 + 1), 39, none⟩ (.string y0) = W1 at hxn hmn hin hzn hc ⊢
  have HBW := hid (HBW.out.trans (hmn.below (by omega) (fun x e => by omega)))
  have HA := hid (hmn.heap HA.out (show ¬ (w.heap.size = (w.heap.size + 1 + 1) ∨ w.heap.size = (w.heap.size + 1)) by omega))
  have HX := hid hxn
  have HI := hid hin
  have HC := hid hc
  clear hxn hmn hin hc hxu0 hvs0 hq0 hf0 hi0 hm0
  have hz1 := hzn
  clear hzn
  go_at_call 21
  refine HC.out.mono ?_
  clear HC
  rintro e u1 ⟨rfl, hi1, hm1⟩
  have hxu1 : AtB u1 (w.heap.size + 1 + 1) 41 ((rowK 7).setIfInBounds 39 (.string y0)) := hm1.heap HX.out (show ¬ ((w.heap.size + 1 + 1) = (w.heap.size + 1)) by omega)
  have hvs1 : (((rowK 7).setIfInBounds 39 (.string y0))).size = 46 := by simp only [Array.size_setIfInBounds]; exact rowK_size 7
  obtain ⟨q1, hq1⟩ := hxu1.some 40 (by rw [hvs1]; omega)
  have hf1 := hxu1.free 40
  have hxn : AtB (u1.setCell ⟨(w.heap.size + 1 + 1), 40, none⟩ (.string y1)) (w.heap.size + 1 + 1) 41 ((((rowK 7).setIfInBounds 39 (.string y0))).setIfInBounds 40 (.string y1)) := hxu1.set 40 (.string y1)
  have hmn : Mod (fun k => k = (w.heap.size + 1 + 1) ∨ k = (w.heap.size + 1)) W1 (u1.setCell ⟨(w.heap.size + 1 + 1), 40, none⟩ (.string y1)) := (hm1.mono (fun _ _ e => .inr e)).setCell ⟨(w.heap.size + 1 + 1), 40, none⟩ (.string y1) (.inl (.inl rfl))
  have hin : InAt (u1.setCell ⟨(w.heap.size + 1 + 1), 40, none⟩ (.string y1)) (w.heap.size + 1) l2 b2 := hi1.mod (mod_set u1 (w.heap.size + 1 + 1) 40 (.string y1)) (show ¬ ((w.heap.size + 1) = (w.heap.size + 1 + 1)) by omega)
  have hzn : w.heap.size + 1 + 1 + 1 ≤ (u1.setCell ⟨(w.heap.size + 1 + 1), 40, none⟩ (.string y1)).heap.size := by have := hmn.size; omega
  have hc := perms_in hin
  rw [HE2.out] at hc
  go_wp2_with fail
  generalize u1.setCell ⟨(w.heap.size + 1 + 1), 40, none⟩ (.string y1) = W2 at hxn hmn hin hzn hc ⊢
  have HBW := hid (HBW.out.trans (hmn.below (by omega) (fun x e => by omega)))
  have HA := hid (hmn.heap HA.out (show ¬ (w.heap.size = (w.heap.size + 1 + 1) ∨ w.heap.size = (w.heap.size + 1)) by omega))
  have HX := hid hxn
  have HI := hid hin
  have HC := hid hc
  clear hxn hmn hin hc hxu1 hvs1 hq1 hf1 hi1 hm1
  have hz2 := hzn
  clear hzn
  go_at_call 25
  refine HC.out.mono ?_
  clear HC
  rintro e u2 ⟨v2, rfl, hr2, hi2, hm2⟩
  obtain ⟨A2, m2, c2, rfl⟩ := r_form hr2
  have hxu2 : AtB u2 (w.heap.size + 1 + 1) 41 (((rowK 7).setIfInBounds 39 (.string y0)).setIfInBounds 40 (.string y1)) := hm2.heap HX.out (show ¬ ((w.heap.size + 1 + 1) = (w.heap.size + 1)) by omega)
  have hvs2 : ((((rowK 7).setIfInBounds 39 (.string y0)).setIfInBounds 40 (.string y1))).size = 46 := by simp only [Array.size_setIfInBounds]; exact rowK_size 7
  obtain ⟨q2, hq2⟩ := hxu2.some 41 (by rw [hvs2]; omega)
  have hf2 := hxu2.free 41
  have hxn : AtB (u2.setCell ⟨(w.heap.size + 1 + 1), 41, none⟩ (.slice A2 m2 c2)) (w.heap.size + 1 + 1) 41 (((((rowK 7).setIfInBounds 39 (.string y0)).setIfInBounds 40 (.string y1))).setIfInBounds 41 (.slice A2 m2 c2)) := hxu2.set 41 (.slice A2 m2 c2)
  have hmn : Mod (fun k => k = (w.heap.size + 1 + 1) ∨ k = (w.heap.size + 1)) W2 (u2.setCell ⟨(w.heap.size + 1 + 1), 41, none⟩ (.slice A2 m2 c2)) := (hm2.mono (fun _ _ e => .inr e)).setCell ⟨(w.heap.size + 1 + 1), 41, none⟩ (.slice A2 m2 c2) (.inl (.inl rfl))
  have hin : InAt (u2.setCell ⟨(w.heap.size + 1 + 1), 41, none⟩ (.slice A2 m2 c2)) (w.heap.size + 1) l3 b3 := hi2.mod (mod_set u2 (w.heap.size + 1 + 1) 41 (.slice A2 m2 c2)) (show ¬ ((w.heap.size + 1) = (w.heap.size + 1 + 1)) by omega)
  have hzn : w.heap.size + 1 + 1 + 1 ≤ (u2.setCell ⟨(w.heap.size + 1 + 1), 41, none⟩ (.slice A2 m2 c2)).heap.size := by have := hmn.size; omega
  have hrn2 : k86.R 86 (u2.setCell ⟨(w.heap.size + 1 + 1), 41, none⟩ (.slice A2 m2 c2)) (w.heap.size + 1 + 1 + 1) (fun _ => True) (.slice A2 m2 c2) y2 := Kd.R_lower (r_mod hr2 (mod_set u2 (w.heap.size + 1 + 1) 41 (.slice A2 m2 c2)) (fun k e => .inl (by have e2 : k = (w.heap.size + 1 + 1) := e; omega))) (by omega)
  have hc := text_in hin
  rw [HE3.out] at hc
  go_wp2_with fail
  generalize u2.setCell ⟨(w.heap.size + 1 + 1), 41, none⟩ (.slice A2 m2 c2) = W3 at hxn hmn hin hzn hrn2 hc ⊢
  have HBW := hid (HBW.out.trans (hmn.below (by omega) (fun x e => by omega)))
  have HA := hid (hmn.heap HA.out (show ¬ (w.heap.size = (w.heap.size + 1 + 1) ∨ w.heap.size = (w.heap.size + 1)) by omega))
  have HX := hid hxn
  have HI := hid hin
  have HR2 := hid hrn2
  have HC := hid hc
  clear hxn hmn hin hrn2 hc hxu2 hvs2 hq2 hf2 hi2 hm2 hr2
  have hz3 := hzn
  clear hzn
  go_at_call 21
  refine HC.out.mono ?_
  clear HC
  rintro e u3 ⟨rfl, hi3, hm3⟩
  have hxu3 : AtB u3 (w.heap.size + 1 + 1) 41 ((((rowK 7).setIfInBounds 39 (.string y0)).setIfInBounds 40 (.string y1)).setIfInBounds 41 (.slice A2 m2 c2)) := hm3.heap HX.out (show ¬ ((w.heap.size + 1 + 1) = (w.heap.size + 1)) by omega)
  have hvs3 : (((((rowK 7).setIfInBounds 39 (.string y0)).setIfInBounds 40 (.string y1)).setIfInBounds 41 (.slice A2 m2 c2))).size = 46 := by simp only [Array.size_setIfInBounds]; exact rowK_size 7
  obtain ⟨q3, hq3⟩ := hxu3.some 42 (by rw [hvs3]; omega)
  have hf3 := hxu3.free 42
  have hxn : AtB (u3.setCell ⟨(w.heap.size + 1 + 1), 42, none⟩ (.string y3)) (w.heap.size + 1 + 1) 41 ((((((rowK 7).setIfInBounds 39 (.string y0)).setIfInBounds 40 (.string y1)).setIfInBounds 41 (.slice A2 m2 c2))).setIfInBounds 42 (.string y3)) := hxu3.set 42 (.string y3)
  have hmn : Mod (fun k => k = (w.heap.size + 1 + 1) ∨ k = (w.heap.size + 1)) W3 (u3.setCell ⟨(w.heap.size + 1 + 1), 42, none⟩ (.string y3)) := (hm3.mono (fun _ _ e => .inr e)).setCell ⟨(w.heap.size + 1 + 1), 42, none⟩ (.string y3) (.inl (.inl rfl))
  have hin : InAt (u3.setCell ⟨(w.heap.size + 1 + 1), 42, none⟩ (.string y3)) (w.heap.size + 1) l4 b4 := hi3.mod (mod_set u3 (w.heap.size + 1 + 1) 42 (.string y3)) (show ¬ ((w.heap.size + 1) = (w.heap.size + 1 + 1)) by omega)
  have hzn : w.heap.size + 1 + 1 + 1 ≤ (u3.setCell ⟨(w.heap.size + 1 + 1), 42, none⟩ (.string y3)).heap.size := by have := hmn.size; omega
  have hrn2 := r_mod HR2.out hmn (fun k e => .inl (by omega))
  clear HR2
  have hc := num_in hin
  rw [HE4.out] at hc
  go_wp2_with fail
  generalize u3.setCell ⟨(w.heap.size + 1 + 1), 42, none⟩ (.string y3) = W4 at hxn hmn hin hzn hrn2 hc ⊢
  have HBW := hid (HBW.out.trans (hmn.below (by omega) (fun x e => by omega)))
  have HA := hid (hmn.heap HA.out (show ¬ (w.heap.size = (w.heap.size + 1 + 1) ∨ w.heap.size = (w.heap.size + 1)) by omega))
  have HX := hid hxn
  have HI := hid hin
  have HR2 := hid hrn2
  have HC := hid hc
  clear hxn hmn hin hrn2 hc hxu3 hvs3 hq3 hf3 hi3 hm3
  have hz4 := hzn
  clear hzn
  go_at_call 24
  refine HC.out.mono ?_
  clear HC
  rintro e u4 ⟨rfl, hi4, hm4⟩
  have hxu4 : AtB u4 (w.heap.size + 1 + 1) 41 (((((rowK 7).setIfInBounds 39 (.string y0)).setIfInBounds 40 (.string y1)).setIfInBounds 41 (.slice A2 m2 c2)).setIfInBounds 42 (.string y3)) := hm4.heap HX.out (show ¬ ((w.heap.size + 1 + 1) = (w.heap.size + 1)) by omega)
  have hvs4 : ((((((rowK 7).setIfInBounds 39 (.string y0)).setIfInBounds 40 (.string y1)).setIfInBounds 41 (.slice A2 m2 c2)).setIfInBounds 42 (.string y3))).size = 46 := by simp only [Array.size_setIfInBounds]; exact rowK_size 7
  obtain ⟨q4, hq4⟩ := hxu4.some 43 (by rw [hvs4]; omega)
  have hf4 := hxu4.free 43
  have hxn : AtB (u4.setCell ⟨(w.heap.size + 1 + 1), 43, none⟩ (.int .i64 y4)) (w.heap.size + 1 + 1) 41 (((((((rowK 7).setIfInBounds 39 (.string y0)).setIfInBounds 40 (.string y1)).setIfInBounds 41 (.slice A2 m2 c2)).setIfInBounds 42 (.string y3))).setIfInBounds 43 (.int .i64 y4)) := hxu4.set 43 (.int .i64 y4)
  have hmn : Mod (fun k => k = (w.heap.size + 1 + 1) ∨ k = (w.heap.size + 1)) W4 (u4.setCell ⟨(w.heap.size + 1 + 1), 43, none⟩ (.int .i64 y4)) := (hm4.mono (fun _ _ e => .inr e)).setCell ⟨(w.heap.size + 1 + 1), 43, none⟩ (.int .i64 y4) (.inl (.inl rfl))
  have hin : InAt (u4.setCell ⟨(w.heap.size + 1 + 1), 43, none⟩ (.int .i64 y4)) (w.heap.size + 1) l5 b5 := hi4.mod (mod_set u4 (w.heap.size + 1 + 1) 43 (.int .i64 y4)) (show ¬ ((w.heap.size + 1) = (w.heap.size + 1 + 1)) by omega)
  have hzn : w.heap.size + 1 + 1 + 1 ≤ (u4.setCell ⟨(w.heap.size + 1 + 1), 43, none⟩ (.int .i64 y4)).heap.size := by have := hmn.size; omega
  have hrn2 := r_mod HR2.out hmn (fun k e => .inl (by omega))
  clear HR2
  have hc := truth_in hin
  rw [HE5.out] at hc
  go_wp2_with fail
  generalize u4.setCell ⟨(w.heap.size + 1 + 1), 43, none⟩ (.int .i64 y4) = W5 at hxn hmn hin hzn hrn2 hc ⊢
  have HBW := hid (HBW.out.trans (hmn.below (by omega) (fun x e => by omega)))
  have HA := hid (hmn.heap HA.out (show ¬ (w.heap.size = (w.heap.size + 1 + 1) ∨ w.heap.size = (w.heap.size + 1)) by omega))
  have HX := hid hxn
  have HI := hid hin
  have HR2 := hid hrn2
  have HC := hid hc
  clear hxn hmn hin hrn2 hc hxu4 hvs4 hq4 hf4 hi4 hm4
  have hz5 := hzn
  clear hzn
  go_at_call 23
  refine HC.out.mono ?_
  clear HC
  rintro e u5 ⟨rfl, hi5, hm5⟩
  have hxu5 : AtB u5 (w.heap.size + 1 + 1) 41 ((((((rowK 7).setIfInBounds 39 (.string y0)).setIfInBounds 40 (.string y1)).setIfInBounds 41 (.slice A2 m2 c2)).setIfInBounds 42 (.string y3)).setIfInBounds 43 (.int .i64 y4)) := hm5.heap HX.out (show ¬ ((w.heap.size + 1 + 1) = (w.heap.size + 1)) by omega)
  have hvs5 : (((((((rowK 7).setIfInBounds 39 (.string y0)).setIfInBounds 40 (.string y1)).setIfInBounds 41 (.slice A2 m2 c2)).setIfInBounds 42 (.string y3)).setIfInBounds 43 (.int .i64 y4))).size = 46 := by simp only [Array.size_setIfInBounds]; exact rowK_size 7
  obtain ⟨q5, hq5⟩ := hxu5.some 44 (by rw [hvs5]; omega)
  have hf5 := hxu5.free 44
  have hxn : AtB (u5.setCell ⟨(w.heap.size + 1 + 1), 44, none⟩ (.bool y5)) (w.heap.size + 1 + 1) 41 ((((((((rowK 7).setIfInBounds 39 (.string y0)).setIfInBounds 40 (.string y1)).setIfInBounds 41 (.slice A2 m2 c2)).setIfInBounds 42 (.string y3)).setIfInBounds 43 (.int .i64 y4))).setIfInBounds 44 (.bool y5)) := hxu5.set 44 (.bool y5)
  have hmn : Mod (fun k => k = (w.heap.size + 1 + 1) ∨ k = (w.heap.size + 1)) W5 (u5.setCell ⟨(w.heap.size + 1 + 1), 44, none⟩ (.bool y5)) := (hm5.mono (fun _ _ e => .inr e)).setCell ⟨(w.heap.size + 1 + 1), 44, none⟩ (.bool y5) (.inl (.inl rfl))
  have hin : InAt (u5.setCell ⟨(w.heap.size + 1 + 1), 44, none⟩ (.bool y5)) (w.heap.size + 1) l6 b6 := hi5.mod (mod_set u5 (w.heap.size + 1 + 1) 44 (.bool y5)) (show ¬ ((w.heap.size + 1) = (w.heap.size + 1 + 1)) by omega)
  have hzn : w.heap.size + 1 + 1 + 1 ≤ (u5.setCell ⟨(w.heap.size + 1 + 1), 44, none⟩ (.bool y5)).heap.size := by have := hmn.size; omega
  have hrn2 := r_mod HR2.out hmn (fun k e => .inl (by omega))
  clear HR2
  go_wp2_with (refine wpList_stop (some 212) rfl ?_)
  generalize u5.setCell ⟨(w.heap.size + 1 + 1), 44, none⟩ (.bool y5) = W6 at hxn hmn hin hzn hrn2 ⊢
  have HBW := hid (HBW.out.trans (hmn.below (by omega) (fun x e => by omega)))
  have HA := hid (hmn.heap HA.out (show ¬ (w.heap.size = (w.heap.size + 1 + 1) ∨ w.heap.size = (w.heap.size + 1)) by omega))
  have HX := hid hxn
  have HI := hid hin
  have HR2 := hid hrn2
  clear hxn hmn hin hrn2 hxu5 hvs5 hq5 hf5 hi5 hm5
  have hz6 := hzn
  clear hzn
  obtain ⟨S, hS, hsa⟩ := HI.out
  have cS : W6.cell? ⟨(w.heap.size + 1), 0, none⟩ = some (.string S) := hsa.cell 0
  have cB : W6.cell? ⟨(w.heap.size + 1), 1, none⟩ = some (.bool (!b6)) := hsa.cell 1
  clear hsa
  obtain ⟨V, hV⟩ : ∃ V, (((((((rowK 7).setIfInBounds 39 (.string y0)).setIfInBounds 40 (.string y1)).setIfInBounds 41 (.slice A2 m2 c2)).setIfInBounds 42 (.string y3)).setIfInBounds 43 (.int .i64 y4)).setIfInBounds 44 (.bool y5)) = V := ⟨_, rfl⟩
  rw [hV] at HX
  have HV := hid hV
  have hVs : V.size = 46 := by rw [← hV]; simp only [Array.size_setIfInBounds]; exact rowK_size 7
  have hV1 : V.all (·.oneCell') = true := by rw [← hV]; kernel_rfl
  have hVi : (Tryd.prog.info? 41).map (·.size) = some V.size := by rw [hVs]; exact rowInfo
  clear hV
  have HUN := hid (show unR (dTicket s.data.toList false) = unR ((⟨y0, y1, y2, y3, y4, y5⟩, l6, b6) : S38 × List UInt8 × Bool) by rw [HD.out])
  cases b6 with
  | true =>
    have cB : W6.cell? ⟨(w.heap.size + 1), 1, none⟩ = some (.bool false) := cB
    have hon : o = none := by rw [← HO.out, HUN.out]; exact if_pos (.inl rfl)
    refine Stood.mk ?_
    go_wp2_with (first | (refine wpList_buildTo rfl 41 _ rfl (some 227) rfl rowZ rowZ_built ?_) | (refine wpList_store_at rfl 41 (.tmp 4) (.tmp 227) rfl rfl w.heap.size 41 rowZ rowZ HA.out rfl rfl rowZ_info rfl rowZ_one ?_))
    have hzr := at_setRow HA.out rowZ
    have hbr : Below w.heap.size w (W6.setRow w.heap.size rowZ) := HBW.out.trans ((mod_setRow W6 w.heap.size rowZ).below HBW.out.size (fun x e => by omega))
    refine bodyPost_ret (results_ct rfl _ _ w.heap.size 41 rowZ (0, 0) _ rfl hzr Tryd.underlying41 rfl rowZ_info) rfl ?_
    refine ⟨rowZ, ?_, rowZ_size, rowZ_one, ?_, hbr⟩
    · rw [hon]; rfl
    · rw [hon]; intro h; cases h
  | false =>
    have cB : W6.cell? ⟨(w.heap.size + 1), 1, none⟩ = some (.bool true) := cB
    by_cases hS0 : S.size = 0
    · have hSe : S = ⟨#[]⟩ := by
        apply ByteArray.ext
        exact Array.eq_empty_of_size_eq_zero hS0
      subst hSe
      have hl0 : l6 = [] := by rw [← hS]
      have hon : o = some (⟨y0, y1, y2, y3, y4, y5⟩) := by rw [← HO.out, HUN.out]; exact if_neg (by simp [hl0])
      obtain ⟨hb, hcc⟩ := dTicketCod.un_bwd (HO.out.trans hon)
      have hsm := smallTicket (by rw [← hb, str_len]; exact hs) hcc
      have hfin := k41_mkM W6 (w.heap.size + 1 + 1 + 1) (fun _ => True) (rowTicket (⟨y0, y1, y2, y3, y4, y5⟩)) (Kd.R_nil _ _ _ _ _) (Kd.R_nil _ _ _ _ _) (Kd.R_nil _ _ _ _ _) (Kd.R_nil _ _ _ _ _) (Kd.R_nil _ _ _ _ _) (Kd.R_nil _ _ _ _ _) HR2.out (Kd.R_nil _ _ _ _ _)
      have key : ∀ c c', c = c' → k41.M W6 (w.heap.size + 1 + 1 + 1) (fun _ => True) (rowTicket (⟨y0, y1, y2, y3, y4, y5⟩)) c → k41.M W6 (w.heap.size + 1 + 1 + 1) (fun _ => True) (rowTicket (⟨y0, y1, y2, y3, y4, y5⟩)) c' := fun _ _ e h => e ▸ h
      have hVM : k41.M W6 (w.heap.size + 1 + 1 + 1) (fun _ => True) (rowTicket (⟨y0, y1, y2, y3, y4, y5⟩)) V.toList := by
        rw [← HV.out]
        exact key _ _ (by kernel_rfl) hfin
      have HVM := hid hVM
      have hK : k41.K W6 (rowTicket (⟨y0, y1, y2, y3, y4, y5⟩)) V.toList := by
        exact k41.K_of_M hVM
      have hby := refBytes_at W6 V _ hK hsm.1 hsm.2
      have hbs : rowB (rowTicket (⟨y0, y1, y2, y3, y4, y5⟩)) = s.data.toList := by rw [hb]; unfold rowB rowTicket; simp
      rw [hbs] at hby
      have HBY := hid hby
      have HK := hid hK
      clear hfin key hVM hK hby hbs hcc hb hsm hl0 hS hS0
      refine Stood.mk ?_
      go_wp2_with (first | (refine wpList_load_rowH (by rfl) 41 (.tmp 7) rfl (w.heap.size + 1 + 1) rfl 41 V (0, 0) _ HX.out Tryd.underlying41 rfl hVi ?_))
      refine HBY.out.mono ?_
      clear HBY
      rintro e u9 ⟨rfl, hb9⟩
      have hx9 : AtB u9 (w.heap.size + 1 + 1) 41 V := (hb9.block _ (lt_of_heap HX.out)).trans HX.out
      have ha9 : AtB u9 w.heap.size 41 rowZ := (hb9.block _ (lt_of_heap HA.out)).trans HA.out
      have HX9 := hid hx9
      have HA9 := hid ha9
      have HB9 := hid (below_then HBW.out hb9)
      have HK9 := hid (k41.M_bound (k41.M_below HVM.out hb9))
      clear hx9 ha9 hb9
      go_wp2_with (first | (refine wpList_load_row rfl 41 (.tmp 7) rfl (w.heap.size + 1 + 1) rfl 41 V (0, 0) _ HX9.out Tryd.underlying41 rfl hVi ?_) | (refine wpList_store_at rfl 41 (.tmp 4) (.tmp 228) rfl rfl w.heap.size 41 rowZ V HA9.out rfl rfl hVi (by rw [hVs]; rfl) hV1 ?_))
      have hzr := at_setRow HA9.out V
      have hbr : Below w.heap.size w (u9.setRow w.heap.size V) := HB9.out.trans ((mod_setRow u9 w.heap.size V).below HB9.out.size (fun x e => by omega))
      refine bodyPost_ret (results_ct rfl _ _ w.heap.size 41 V (0, 0) _ rfl hzr Tryd.underlying41 rfl hVi) rfl ?_
      have hK9 := k41.K_of_M (k41.M_step HK9.out (fun k hk hlt => (mod_setRow u9 w.heap.size V).block k hlt (show ¬ (k = w.heap.size) by have := hk.2.1; omega)))
      refine ⟨V, by rw [hon]; rfl, hVs, hV1, fun _ => by rw [hon]; exact hK9, hbr⟩
    · have hon : o = none := by
        rw [← HO.out, HUN.out]
        exact if_pos (.inr (by show 0 < l6.length; rw [← hS, str_len]; omega))
      have n1 := str_ne_empty S (by omega)
      have n2 := str_not_empty S (by omega)
      refine Stood.mk ?_
      go_wp2_with (first | (refine wpList_buildTo rfl 41 _ rfl (some 227) rfl rowZ rowZ_built ?_) | (refine wpList_store_at rfl 41 (.tmp 4) (.tmp 227) rfl rfl w.heap.size 41 rowZ rowZ HA.out rfl rfl rowZ_info rfl rowZ_one ?_))
      have hzr := at_setRow HA.out rowZ
      have hbr : Below w.heap.size w (W6.setRow w.heap.size rowZ) := HBW.out.trans ((mod_setRow W6 w.heap.size rowZ).below HBW.out.size (fun x e => by omega))
      refine bodyPost_ret (results_ct rfl _ _ w.heap.size 41 rowZ (0, 0) _ rfl hzr Tryd.underlying41 rfl rowZ_info) rfl ?_
      refine ⟨rowZ, ?_, rowZ_size, rowZ_one, ?_, hbr⟩
      · rw [hon]; rfl
      · rw [hon]; intro h; cases h
end Go.Proofs.YtcgjacffemjehaaDoor

namespace Go.Proofs.YtcgjacffemjehaaDoor
open Go.RowKit
open Go.Proofs.YtcgjacffemjehaaDoorW.PrintWords (Kd rdOf results_ct)
open Go.Proofs.YtcgjacffemjehaaDoor.PRowReads
set_option linter.unusedVariables false
set_option linter.unusedSimpArgs false
set_option maxHeartbeats 8000000 in
set_option maxRecDepth 100000 in
theorem docKeys (w : World) (s : ByteArray) (hs : s.size ≤ 1048576) :
    Calls Tryd.prog 7 #[.int .i64 8, .string s] w (DocPost (rowKeysR ((unR ((listR keyR) s.data.toList false)).getD [])) (unR ((listR keyR) s.data.toList false)).isSome w) := by
  rw [keysCod.same dKeysCod]
  have hsl := str_len s
  obtain ⟨o, ho⟩ : ∃ o, unR ((dList dKey) s.data.toList false) = o := ⟨_, rfl⟩
  rw [ho]
  have HO := hid ho
  clear ho
  have hbw0 : Below w.heap.size w (((w.alloc (.cells rowZ 41)).alloc (.cells #[.string s, .bool true] 73)).alloc (.cells (rowK 8) 41)) := (((Below.refl w.heap.size w).alloc (Nat.le_refl _) _).alloc (by simp) _).alloc (by simp; omega) _
  have ha0 : AtB (((w.alloc (.cells rowZ 41)).alloc (.cells #[.string s, .bool true] 73)).alloc (.cells (rowK 8) 41)) w.heap.size 41 rowZ := ((at_make rfl).alloc _).alloc _
  have hi0 : InAt (((w.alloc (.cells rowZ 41)).alloc (.cells #[.string s, .bool true] 73)).alloc (.cells (rowK 8) 41)) (w.heap.size + 1) s.data.toList false := ⟨s, rfl, (at_make (by simp)).alloc _⟩
  have hx0 : AtB (((w.alloc (.cells rowZ 41)).alloc (.cells #[.string s, .bool true] 73)).alloc (.cells (rowK 8) 41)) (w.heap.size + 1 + 1) 41 (rowK 8) := at_make (by simp)
  have hz0 : (((w.alloc (.cells rowZ 41)).alloc (.cells #[.string s, .bool true] 73)).alloc (.cells (rowK 8) 41)).heap.size = w.heap.size + 1 + 1 + 1 := by simp
  obtain ⟨y0, l1, b1, e0⟩ := trip (dList dKey s.data.toList false)
  have hd : (dList dKey) s.data.toList false = (y0, l1, b1) := e0
  have HD := hid hd
  have HE0 := hid e0
  have hc := keys_in hi0
  rw [e0] at hc
  have HC := hid hc
  have HBW := hid hbw0
  have HA := hid ha0
  have HX := hid hx0
  clear hd hc hbw0 ha0 hx0 hi0 e0
  obtain ⟨W0, hW0⟩ : ∃ W, (((w.alloc (.cells rowZ 41)).alloc (.cells #[.string s, .bool true] 73)).alloc (.cells (rowK 8) 41)) = W := ⟨_, rfl⟩
  have HW0 := hid hW0
  rw [hW0] at HC HBW HA HX hz0
  go_enter Tryd.func7, Tryd.ntmps7
  go_wp2_with (first | (refine wpList_allocTo rfl (some 4) rfl _ _ (run_allocRow _ _ rfl _) ?_) | (refine wpList_allocTo rfl (some 7) rfl _ _ (run_allocRow _ _ rfl _) ?_) | (refine wpList_buildTo rfl 41 _ rfl (some 12) rfl (rowK 8) (by kernel_rfl) ?_) | (refine wpList_store_new rfl 41 (.tmp 7) (.tmp 12) rfl rfl ((w.alloc (.cells rowZ 41)).alloc (.cells #[.string s, .bool true] 73)) 41 rowZ (rowK 8) rfl (by simp only [World.size_alloc]; rfl) rfl (by kernel_rfl) (by kernel_rfl) (by kernel_rfl) ?_))
  clear hW0 HW0
  go_at_call 26
  refine HC.out.mono ?_
  clear HC
  rintro e u0 ⟨v0, rfl, hr0, hi0, hm0⟩
  obtain ⟨A0, m0, c0, rfl⟩ := r_form hr0
  have hxu0 : AtB u0 (w.heap.size + 1 + 1) 41 (rowK 8) := hm0.heap HX.out (show ¬ ((w.heap.size + 1 + 1) = (w.heap.size + 1)) by omega)
  have hvs0 : ((rowK 8)).size = 46 := by exact rowK_size 8
  obtain ⟨q0, hq0⟩ := hxu0.some 45 (by rw [hvs0]; omega)
  have hf0 := hxu0.free 45
  have hxn : AtB (u0.setCell ⟨(w.heap.size + 1 + 1), 45, none⟩ (.slice A0 m0 c0)) (w.heap.size + 1 + 1) 41 (((rowK 8)).setIfInBounds 45 (.slice A0 m0 c0)) := hxu0.set 45 (.slice A0 m0 c0)
  have hmn : Mod (fun k => k = (w.heap.size + 1 + 1) ∨ k = (w.heap.size + 1)) W0 (u0.setCell ⟨(w.heap.size + 1 + 1), 45, none⟩ (.slice A0 m0 c0)) := (hm0.mono (fun _ _ e => .inr e)).setCell ⟨(w.heap.size + 1 + 1), 45, none⟩ (.slice A0 m0 c0) (.inl (.inl rfl))
  have hin : InAt (u0.setCell ⟨(w.heap.size + 1 + 1), 45, none⟩ (.slice A0 m0 c0)) (w.heap.size + 1) l1 b1 := hi0.mod (mod_set u0 (w.heap.size + 1 + 1) 45 (.slice A0 m0 c0)) (show ¬ ((w.heap.size + 1) = (w.heap.size + 1 + 1)) by omega)
  have hzn : w.heap.size + 1 + 1 + 1 ≤ (u0.setCell ⟨(w.heap.size + 1 + 1), 45, none⟩ (.slice A0 m0 c0)).heap.size := by have := hmn.size; omega
  have hrn0 : k117.R 117 (u0.setCell ⟨(w.heap.size + 1 + 1), 45, none⟩ (.slice A0 m0 c0)) (w.heap.size + 1 + 1 + 1) (fun _ => True) (.slice A0 m0 c0) y0 := Kd.R_lower (r_mod hr0 (mod_set u0 (w.heap.size + 1 + 1) 45 (.slice A0 m0 c0)) (fun k e => .inl (by have e2 : k = (w.heap.size + 1 + 1) := e; omega))) (by omega)
  go_wp2_with (refine wpList_stop (some 212) rfl ?_)
  generalize u0.setCell ⟨(w.heap.size + 1 + 1), 45, none⟩ (.slice A0 m0 c0) = W1 at hxn hmn hin hzn hrn0 ⊢
  have HBW := hid (HBW.out.trans (hmn.below (by omega) (fun x e => by omega)))
  have HA := hid (hmn.heap HA.out (show ¬ (w.heap.size = (w.heap.size + 1 + 1) ∨ w.heap.size = (w.heap.size + 1)) by omega))
  have HX := hid hxn
  have HI := hid hin
  have HR0 := hid hrn0
  clear hxn hmn hin hrn0 hxu0 hvs0 hq0 hf0 hi0 hm0 hr0
  have hz1 := hzn
  clear hzn
  obtain ⟨S, hS, hsa⟩ := HI.out
  have cS : W1.cell? ⟨(w.heap.size + 1), 0, none⟩ = some (.string S) := hsa.cell 0
  have cB : W1.cell? ⟨(w.heap.size + 1), 1, none⟩ = some (.bool (!b1)) := hsa.cell 1
  clear hsa
  obtain ⟨V, hV⟩ : ∃ V, ((rowK 8).setIfInBounds 45 (.slice A0 m0 c0)) = V := ⟨_, rfl⟩
  rw [hV] at HX
  have HV := hid hV
  have hVs : V.size = 46 := by rw [← hV]; simp only [Array.size_setIfInBounds]; exact rowK_size 8
  have hV1 : V.all (·.oneCell') = true := by rw [← hV]; kernel_rfl
  have hVi : (Tryd.prog.info? 41).map (·.size) = some V.size := by rw [hVs]; exact rowInfo
  clear hV
  have HUN := hid (show unR ((dList dKey) s.data.toList false) = unR ((y0, l1, b1) : List S117 × List UInt8 × Bool) by rw [HD.out])
  cases b1 with
  | true =>
    have cB : W1.cell? ⟨(w.heap.size + 1), 1, none⟩ = some (.bool false) := cB
    have hon : o = none := by rw [← HO.out, HUN.out]; exact if_pos (.inl rfl)
    refine Stood.mk ?_
    go_wp2_with (first | (refine wpList_buildTo rfl 41 _ rfl (some 227) rfl rowZ rowZ_built ?_) | (refine wpList_store_at rfl 41 (.tmp 4) (.tmp 227) rfl rfl w.heap.size 41 rowZ rowZ HA.out rfl rfl rowZ_info rfl rowZ_one ?_))
    have hzr := at_setRow HA.out rowZ
    have hbr : Below w.heap.size w (W1.setRow w.heap.size rowZ) := HBW.out.trans ((mod_setRow W1 w.heap.size rowZ).below HBW.out.size (fun x e => by omega))
    refine bodyPost_ret (results_ct rfl _ _ w.heap.size 41 rowZ (0, 0) _ rfl hzr Tryd.underlying41 rfl rowZ_info) rfl ?_
    refine ⟨rowZ, ?_, rowZ_size, rowZ_one, ?_, hbr⟩
    · rw [hon]; rfl
    · rw [hon]; intro h; cases h
  | false =>
    have cB : W1.cell? ⟨(w.heap.size + 1), 1, none⟩ = some (.bool true) := cB
    by_cases hS0 : S.size = 0
    · have hSe : S = ⟨#[]⟩ := by
        apply ByteArray.ext
        exact Array.eq_empty_of_size_eq_zero hS0
      subst hSe
      have hl0 : l1 = [] := by rw [← hS]
      have hon : o = some (y0) := by rw [← HO.out, HUN.out]; exact if_neg (by simp [hl0])
      obtain ⟨hb, hcc⟩ := dKeysCod.un_bwd (HO.out.trans hon)
      have hsm := smallKeys (by rw [← hb, str_len]; exact hs) hcc
      have hfin := k41_mkM W1 (w.heap.size + 1 + 1 + 1) (fun _ => True) (rowKeysR (y0)) (Kd.R_nil _ _ _ _ _) (Kd.R_nil _ _ _ _ _) (Kd.R_nil _ _ _ _ _) (Kd.R_nil _ _ _ _ _) (Kd.R_nil _ _ _ _ _) (Kd.R_nil _ _ _ _ _) (Kd.R_nil _ _ _ _ _) HR0.out
      have key : ∀ c c', c = c' → k41.M W1 (w.heap.size + 1 + 1 + 1) (fun _ => True) (rowKeysR (y0)) c → k41.M W1 (w.heap.size + 1 + 1 + 1) (fun _ => True) (rowKeysR (y0)) c' := fun _ _ e h => e ▸ h
      have hVM : k41.M W1 (w.heap.size + 1 + 1 + 1) (fun _ => True) (rowKeysR (y0)) V.toList := by
        rw [← HV.out]
        exact key _ _ (by kernel_rfl) hfin
      have HVM := hid hVM
      have hK : k41.K W1 (rowKeysR (y0)) V.toList := by
        exact k41.K_of_M hVM
      have hby := refBytes_at W1 V _ hK hsm.1 hsm.2
      have hbs : rowB (rowKeysR (y0)) = s.data.toList := by rw [hb]; unfold rowB rowKeysR; simp
      rw [hbs] at hby
      have HBY := hid hby
      have HK := hid hK
      clear hfin key hVM hK hby hbs hcc hb hsm hl0 hS hS0
      refine Stood.mk ?_
      go_wp2_with (first | (refine wpList_load_rowH (by rfl) 41 (.tmp 7) rfl (w.heap.size + 1 + 1) rfl 41 V (0, 0) _ HX.out Tryd.underlying41 rfl hVi ?_))
      refine HBY.out.mono ?_
      clear HBY
      rintro e u9 ⟨rfl, hb9⟩
      have hx9 : AtB u9 (w.heap.size + 1 + 1) 41 V := (hb9.block _ (lt_of_heap HX.out)).trans HX.out
      have ha9 : AtB u9 w.heap.size 41 rowZ := (hb9.block _ (lt_of_heap HA.out)).trans HA.out
      have HX9 := hid hx9
      have HA9 := hid ha9
      have HB9 := hid (below_then HBW.out hb9)
      have HK9 := hid (k41.M_bound (k41.M_below HVM.out hb9))
      clear hx9 ha9 hb9
      go_wp2_with (first | (refine wpList_load_row rfl 41 (.tmp 7) rfl (w.heap.size + 1 + 1) rfl 41 V (0, 0) _ HX9.out Tryd.underlying41 rfl hVi ?_) | (refine wpList_store_at rfl 41 (.tmp 4) (.tmp 228) rfl rfl w.heap.size 41 rowZ V HA9.out rfl rfl hVi (by rw [hVs]; rfl) hV1 ?_))
      have hzr := at_setRow HA9.out V
      have hbr : Below w.heap.size w (u9.setRow w.heap.size V) := HB9.out.trans ((mod_setRow u9 w.heap.size V).below HB9.out.size (fun x e => by omega))
      refine bodyPost_ret (results_ct rfl _ _ w.heap.size 41 V (0, 0) _ rfl hzr Tryd.underlying41 rfl hVi) rfl ?_
      have hK9 := k41.K_of_M (k41.M_step HK9.out (fun k hk hlt => (mod_setRow u9 w.heap.size V).block k hlt (show ¬ (k = w.heap.size) by have := hk.2.1; omega)))
      refine ⟨V, by rw [hon]; rfl, hVs, hV1, fun _ => by rw [hon]; exact hK9, hbr⟩
    · have hon : o = none := by
        rw [← HO.out, HUN.out]
        exact if_pos (.inr (by show 0 < l1.length; rw [← hS, str_len]; omega))
      have n1 := str_ne_empty S (by omega)
      have n2 := str_not_empty S (by omega)
      refine Stood.mk ?_
      go_wp2_with (first | (refine wpList_buildTo rfl 41 _ rfl (some 227) rfl rowZ rowZ_built ?_) | (refine wpList_store_at rfl 41 (.tmp 4) (.tmp 227) rfl rfl w.heap.size 41 rowZ rowZ HA.out rfl rfl rowZ_info rfl rowZ_one ?_))
      have hzr := at_setRow HA.out rowZ
      have hbr : Below w.heap.size w (W1.setRow w.heap.size rowZ) := HBW.out.trans ((mod_setRow W1 w.heap.size rowZ).below HBW.out.size (fun x e => by omega))
      refine bodyPost_ret (results_ct rfl _ _ w.heap.size 41 rowZ (0, 0) _ rfl hzr Tryd.underlying41 rfl rowZ_info) rfl ?_
      refine ⟨rowZ, ?_, rowZ_size, rowZ_one, ?_, hbr⟩
      · rw [hon]; rfl
      · rw [hon]; intro h; cases h
end Go.Proofs.YtcgjacffemjehaaDoor

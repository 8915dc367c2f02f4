/-
  The document's disk, by contract: Erase, Cut; no power; no file.
-/
import Derived.Test.YtdchpabcaoghpaaDoorDiskRef
namespace Go.Proofs.YtdchpabcaoghpaaDoor
open Go.RowKit
set_option linter.unusedVariables false
theorem rSync_off {w : World} {r : Nat} {B0 B1 : ByteArray} {s : DS} (h : RefIs w r B0 B1 s) (hoff : s.off = true) (n : Int) (hn : n = 0 ∨ n = 1) :
    Calls Tryd.prog 26 #[.pointer (some ⟨r, 0, none⟩), .int .i64 n] w (RPost r (s.sync n) w) := by
  have H := hid h
  have HS : Hid (s.sync n = (150, s)) := hid (by unfold DS.sync DS.one; rw [if_pos hoff])
  clear h
  go_enter Tryd.func26, Tryd.ntmps26
  go_wp2_with (go_at_call 45; refine (rbad_off H.out n hn hoff).mono ?_; rintro e w' ⟨rfl, rfl⟩)
  go_ret
  exact RPost.mk HS.out rfl H.out (Mod.refl _ _)
theorem rSync_none (r : Nat) (n : Int) (hn : ¬ (n = 0 ∨ n = 1)) (w : World) :
    Calls Tryd.prog 26 #[.pointer (some ⟨r, 0, none⟩), .int .i64 n] w fun e w' => e = .returned (.int .i64 1) ∧ w = w' := by
  go_enter Tryd.func26, Tryd.ntmps26
  go_wp2_with (go_at_call 45; refine (rbad_none r n hn _).mono ?_; rintro e w' ⟨rfl, rfl⟩)
  go_ret
  exact ⟨rfl, rfl⟩
theorem rErase_off {w : World} {r : Nat} {B0 B1 : ByteArray} {s : DS} (h : RefIs w r B0 B1 s) (hoff : s.off = true) (n : Int) (hn : n = 0 ∨ n = 1) :
    Calls Tryd.prog 27 #[.pointer (some ⟨r, 0, none⟩), .int .i64 n] w (RPost r (s.erase n) w) := by
  have H := hid h
  have HS : Hid (s.erase n = (150, s)) := hid (by unfold DS.erase DS.one; rw [if_pos hoff])
  clear h
  go_enter Tryd.func27, Tryd.ntmps27
  go_wp2_with (go_at_call 45; refine (rbad_off H.out n hn hoff).mono ?_; rintro e w' ⟨rfl, rfl⟩)
  go_ret
  exact RPost.mk HS.out rfl H.out (Mod.refl _ _)
theorem rErase_none (r : Nat) (n : Int) (hn : ¬ (n = 0 ∨ n = 1)) (w : World) :
    Calls Tryd.prog 27 #[.pointer (some ⟨r, 0, none⟩), .int .i64 n] w fun e w' => e = .returned (.int .i64 1) ∧ w = w' := by
  go_enter Tryd.func27, Tryd.ntmps27
  go_wp2_with (go_at_call 45; refine (rbad_none r n hn _).mono ?_; rintro e w' ⟨rfl, rfl⟩)
  go_ret
  exact ⟨rfl, rfl⟩
theorem rWrite_off {w : World} {r : Nat} {B0 B1 : ByteArray} {s : DS} (h : RefIs w r B0 B1 s) (hoff : s.off = true) (n : Int) (hn : n = 0 ∨ n = 1) (m : ByteArray) :
    Calls Tryd.prog 25 #[.pointer (some ⟨r, 0, none⟩), .int .i64 n, .string m] w (RPost r (s.write n m.data.toList) w) := by
  have H := hid h
  have HS : Hid (s.write n m.data.toList = (150, s)) := hid (by unfold DS.write; rw [if_pos hoff])
  clear h
  go_enter Tryd.func25, Tryd.ntmps25
  go_wp2_with (go_at_call 45; refine (rbad_off H.out n hn hoff).mono ?_; rintro e w' ⟨rfl, rfl⟩)
  go_ret
  exact RPost.mk HS.out rfl H.out (Mod.refl _ _)
theorem rWrite_none (r : Nat) (n : Int) (hn : ¬ (n = 0 ∨ n = 1)) (m : ByteArray) (w : World) :
    Calls Tryd.prog 25 #[.pointer (some ⟨r, 0, none⟩), .int .i64 n, .string m] w fun e w' => e = .returned (.int .i64 1) ∧ w = w' := by
  go_enter Tryd.func25, Tryd.ntmps25
  go_wp2_with (go_at_call 45; refine (rbad_none r n hn _).mono ?_; rintro e w' ⟨rfl, rfl⟩)
  go_ret
  exact ⟨rfl, rfl⟩
theorem rCut_off {w : World} {r : Nat} {B0 B1 : ByteArray} {s : DS} (h : RefIs w r B0 B1 s) (hoff : s.off = true) (n : Int) (hn : n = 0 ∨ n = 1) (k : Int) :
    Calls Tryd.prog 31 #[.pointer (some ⟨r, 0, none⟩), .int .i64 n, .int .i64 k] w (RPost r (s.cut n k) w) := by
  have H := hid h
  have HS : Hid (s.cut n k = (150, s)) := hid (by unfold DS.cut; rw [if_pos hoff])
  clear h
  go_enter Tryd.func31, Tryd.ntmps31
  go_wp2_with (go_at_call 45; refine (rbad_off H.out n hn hoff).mono ?_; rintro e w' ⟨rfl, rfl⟩)
  go_ret
  exact RPost.mk HS.out rfl H.out (Mod.refl _ _)
theorem rCut_none (r : Nat) (n : Int) (hn : ¬ (n = 0 ∨ n = 1)) (k : Int) (w : World) :
    Calls Tryd.prog 31 #[.pointer (some ⟨r, 0, none⟩), .int .i64 n, .int .i64 k] w fun e w' => e = .returned (.int .i64 1) ∧ w = w' := by
  go_enter Tryd.func31, Tryd.ntmps31
  go_wp2_with (go_at_call 45; refine (rbad_none r n hn _).mono ?_; rintro e w' ⟨rfl, rfl⟩)
  go_ret
  exact ⟨rfl, rfl⟩
theorem rerase_0 {w : World} {r : Nat} {B0 B1 : ByteArray} {s : DS} (h : RefIs w r B0 B1 s) (hoff : s.off = false) :
    Calls Tryd.prog 27 #[.pointer (some ⟨r, 0, none⟩), .int .i64 0] w (RPost r (s.erase 0) w) := by
  have H := hid h
  by_cases hf : s.fuse = 0
  · have HS : Hid (s.erase 0 = (150, s.unitsS 1)) := hid (by unfold DS.erase DS.one; rw [if_neg (by rw [hoff]; simp), if_pos hf])
    have HD : Hid (decide (¬ s.fuse = 0) = false) := hid (by simp [hf])
    clear h hf
    go_enter Tryd.func27, Tryd.ntmps27
    go_wp2_with (first
      | (go_at_call 45; refine (rbad_any H.out 0 (by omega) hoff).mono ?_; rintro e w' ⟨rfl, rfl⟩)
      | (go_at_call 46; refine (runit_any H.out).mono ?_; intro e w1 hp; unfold UnitPost at hp; rw [HD.out] at hp; obtain ⟨rfl, hd, hm⟩ := hp; have H1 := hid hd; have HM1 := hid hm; have hc := hd.cells; obtain ⟨⟨hc0, hc1, hc2, hc3, _⟩, hfz⟩ := hc; clear hd hm))
    go_ret
    exact RPost.mk HS.out rfl H1.out HM1.out
  · have HS : Hid (s.erase 0 = (0, { s.unitsS 1 with b0 := [], s0 := 0 })) := hid (by unfold DS.erase DS.one; rw [if_neg (by rw [hoff]; simp), if_neg hf]; rfl)
    have HD : Hid (decide (¬ s.fuse = 0) = true) := hid (by simp [hf])
    clear h hf
    go_enter Tryd.func27, Tryd.ntmps27
    go_wp2_with (first
      | (go_at_call 45; refine (rbad_any H.out 0 (by omega) hoff).mono ?_; rintro e w' ⟨rfl, rfl⟩)
      | (go_at_call 46; refine (runit_any H.out).mono ?_; intro e w1 hp; unfold UnitPost at hp; rw [HD.out] at hp; obtain ⟨rfl, hd, hm⟩ := hp; have H1 := hid hd; have HM1 := hid hm; have hc := hd.cells; obtain ⟨⟨hc0, hc1, hc2, hc3, _⟩, hfz⟩ := hc; clear hd hm))
    go_ret
    obtain ⟨T, hT⟩ := H1.out.heap
    have hm2 : Mod (fun k => k = r) w1 ((w1.setCell ⟨r, 0, none⟩ (.string ⟨#[]⟩)).setCell ⟨r, 2, none⟩ (.int .i64 0)) := ((Mod.refl (fun k => k = r) w1).setCell ⟨r, 0, none⟩ _ (.inl rfl)).setCell ⟨r, 2, none⟩ _ (.inl rfl)
    have hh2 : ((w1.setCell ⟨r, 0, none⟩ (.string ⟨#[]⟩)).setCell ⟨r, 2, none⟩ (.int .i64 0)).heap[r]? = some _ := heap_setCell_same _ _ _ _ _ _ (heap_setCell_same _ _ _ _ _ _ hT)
    have hok := H1.out.ok
    have hr := hok.room0
    refine RPost.mk (B0 := ⟨#[]⟩) (B1 := B1) HS.out rfl ⟨⟨T, by simpa using hh2⟩, rfl, H1.out.b1, ⟨by simp, hok.safe1, by simp; omega, hok.room1, hok.fuse0, hok.fuse1⟩⟩ (HM1.out.trans hm2 (fun _ e => .inl e))
set_option maxHeartbeats 1000000 in
theorem rcut_0 {w : World} {r : Nat} {B0 B1 : ByteArray} {s : DS} (h : RefIs w r B0 B1 s) (hoff : s.off = false) (k : Int) :
    Calls Tryd.prog 31 #[.pointer (some ⟨r, 0, none⟩), .int .i64 0, .int .i64 k] w (RPost r (s.cut 0 k) w) := by
  have H := hid h
  obtain ⟨⟨hb0, hb1, _⟩, _⟩ := h.cells
  have hsz := h.size0.1
  have hsf := h.ok.safe0
  have hrm := h.ok.room0
  have hrm1 := h.ok.room1
  by_cases hbad : k < 0 ∨ (s.b0.length : Int) < k
  · have HS : Hid (s.cut 0 k = (1, s)) := hid (by unfold DS.cut; rw [if_neg (by rw [hoff]; simp), if_pos (by simpa [DS.bytes] using hbad)])
    have hways : decide (k < 0) = true ∨ (decide (k < 0) = false ∧ decide ((B0.size : Int) < k) = true) := by
      by_cases h1 : k < 0
      · exact .inl (decide_eq_true h1)
      · exact .inr ⟨decide_eq_false h1, decide_eq_true (by omega)⟩
    clear h hbad hsz
    rcases hways with t1 | ⟨t1, t2⟩
    all_goals
      go_enter Tryd.func31, Tryd.ntmps31
      go_wp2_with (go_at_call 45; refine (rbad_any H.out 0 (by omega) hoff).mono ?_; rintro e w' ⟨rfl, rfl⟩)
      go_ret
      exact RPost.mk HS.out rfl H.out (Mod.refl _ _)
  · obtain ⟨k, rfl⟩ := Int.eq_ofNat_of_zero_le (show 0 ≤ k by omega)
    have hk : k ≤ s.b0.length := by omega
    have hkB : k ≤ B0.size := by omega
    have t1 : decide ((k : Int) < 0) = false := decide_eq_false (by omega)
    have t2 : decide (B0.size < k) = false := decide_eq_false (by omega)
    have hc0 : s.cut 0 (k : Int) = s.one fun t => t.setFile 0 ((t.bytes 0).take k) (min (t.safe 0) k) := by unfold DS.cut; rw [if_neg (by rw [hoff]; simp), if_neg (by simpa [DS.bytes] using hbad)]; rfl
    have hmin : min (s.s0 : Int) (k : Int) = ((min s.s0 k : Nat) : Int) := by omega
    by_cases hf : s.fuse = 0
    · have HS : Hid (s.cut 0 (k : Int) = (150, s.unitsS 1)) := hid (by rw [hc0]; unfold DS.one; rw [if_neg (by rw [hoff]; simp), if_pos hf])
      have HD : Hid (decide (¬ s.fuse = 0) = false) := hid (by simp [hf])
      clear h hf hbad hsz hc0
      go_enter Tryd.func31, Tryd.ntmps31
      go_wp2_with (first
        | (go_at_call 45; refine (rbad_any H.out 0 (by omega) hoff).mono ?_; rintro e w' ⟨rfl, rfl⟩)
        | (go_at_call 46; refine (runit_any H.out).mono ?_; intro e w1 hp; unfold UnitPost at hp; rw [HD.out] at hp; obtain ⟨rfl, hd, hm⟩ := hp; have H1 := hid hd; have HM1 := hid hm; have hc := hd.cells; obtain ⟨⟨hc0, hc1, hc2, hc3, _⟩, hfz⟩ := hc; clear hd hm))
      go_ret
      exact RPost.mk HS.out rfl H1.out HM1.out
    · have HS : Hid (s.cut 0 (k : Int) = (0, { s.unitsS 1 with b0 := (s.unitsS 1).b0.take k, s0 := min (s.unitsS 1).s0 k })) := hid (by rw [hc0]; unfold DS.one; rw [if_neg (by rw [hoff]; simp), if_neg hf]; rfl)
      have HD : Hid (decide (¬ s.fuse = 0) = true) := hid (by simp [hf])
      have hu := unitsS_same s 1
      have HU := hid hu
      clear h hf hbad hsz hc0 hu
      go_enter Tryd.func31, Tryd.ntmps31
      go_wp2_with (first
        | (go_at_call 45; refine (rbad_any H.out 0 (by omega) hoff).mono ?_; rintro e w' ⟨rfl, rfl⟩)
        | (go_at_call 46; refine (runit_any H.out).mono ?_; intro e w1 hp; unfold UnitPost at hp; rw [HD.out] at hp; obtain ⟨rfl, hd, hm⟩ := hp; have H1 := hid hd; have HM1 := hid hm; have hc := hd.cells; obtain ⟨⟨hc0, hc1, hc2, hc3, _⟩, hfz⟩ := hc; rw [HU.out.2.2.1] at hc2; rw [HU.out.2.2.2.1] at hc3; clear hd hm))
      go_region
      all_goals go_wp2
      all_goals go_region
      all_goals go_wp2
      all_goals
        go_ret
        obtain ⟨T, hT⟩ := H1.out.heap
        have hX := str_cut B0 _ H1.out.b0 k
        have hok := H1.out.ok
        have hr := hok.room0
        have hs := hok.safe0
        have hm2 : Mod (fun x => x = r) w1 ((w1.setCell ⟨r, 0, none⟩ (.string (B0.extract 0 k))).setCell ⟨r, 2, none⟩ (.int .i64 ((min s.s0 k : Nat) : Int))) := ((Mod.refl (fun x => x = r) w1).setCell ⟨r, 0, none⟩ _ (.inl rfl)).setCell ⟨r, 2, none⟩ _ (.inl rfl)
        have hh2 : ((w1.setCell ⟨r, 0, none⟩ (.string (B0.extract 0 k))).setCell ⟨r, 2, none⟩ (.int .i64 ((min s.s0 k : Nat) : Int))).heap[r]? = some _ := heap_setCell_same _ _ _ _ _ _ (heap_setCell_same _ _ _ _ _ _ hT)
        have hlk : k ≤ (s.unitsS 1).b0.length := by rw [HU.out.1]; exact hk
        have hend : RefIs ((w1.setCell ⟨r, 0, none⟩ (.string (B0.extract 0 k))).setCell ⟨r, 2, none⟩ (.int .i64 ((min s.s0 k : Nat) : Int))) r (B0.extract 0 k) B1 { s.unitsS 1 with b0 := (s.unitsS 1).b0.take k, s0 := min (s.unitsS 1).s0 k } :=
          ⟨⟨T, by rw [HU.out.2.2.1]; simpa using hh2⟩, hX, H1.out.b1, ⟨by simp; omega, hok.safe1, by simp; omega, hok.room1, hok.fuse0, hok.fuse1⟩⟩
        exact RPost.mk HS.out rfl hend.drew.drew ((HM1.out.trans hm2 (fun _ e => .inl e)).drew.drew)
theorem rerase_1 {w : World} {r : Nat} {B0 B1 : ByteArray} {s : DS} (h : RefIs w r B0 B1 s) (hoff : s.off = false) :
    Calls Tryd.prog 27 #[.pointer (some ⟨r, 0, none⟩), .int .i64 1] w (RPost r (s.erase 1) w) := by
  have H := hid h
  by_cases hf : s.fuse = 0
  · have HS : Hid (s.erase 1 = (150, s.unitsS 1)) := hid (by unfold DS.erase DS.one; rw [if_neg (by rw [hoff]; simp), if_pos hf])
    have HD : Hid (decide (¬ s.fuse = 0) = false) := hid (by simp [hf])
    clear h hf
    go_enter Tryd.func27, Tryd.ntmps27
    go_wp2_with (first
      | (go_at_call 45; refine (rbad_any H.out 1 (by omega) hoff).mono ?_; rintro e w' ⟨rfl, rfl⟩)
      | (go_at_call 46; refine (runit_any H.out).mono ?_; intro e w1 hp; unfold UnitPost at hp; rw [HD.out] at hp; obtain ⟨rfl, hd, hm⟩ := hp; have H1 := hid hd; have HM1 := hid hm; have hc := hd.cells; obtain ⟨⟨hc0, hc1, hc2, hc3, _⟩, hfz⟩ := hc; clear hd hm))
    go_ret
    exact RPost.mk HS.out rfl H1.out HM1.out
  · have HS : Hid (s.erase 1 = (0, { s.unitsS 1 with b1 := [], s1 := 0 })) := hid (by unfold DS.erase DS.one; rw [if_neg (by rw [hoff]; simp), if_neg hf]; rfl)
    have HD : Hid (decide (¬ s.fuse = 0) = true) := hid (by simp [hf])
    clear h hf
    go_enter Tryd.func27, Tryd.ntmps27
    go_wp2_with (first
      | (go_at_call 45; refine (rbad_any H.out 1 (by omega) hoff).mono ?_; rintro e w' ⟨rfl, rfl⟩)
      | (go_at_call 46; refine (runit_any H.out).mono ?_; intro e w1 hp; unfold UnitPost at hp; rw [HD.out] at hp; obtain ⟨rfl, hd, hm⟩ := hp; have H1 := hid hd; have HM1 := hid hm; have hc := hd.cells; obtain ⟨⟨hc0, hc1, hc2, hc3, _⟩, hfz⟩ := hc; clear hd hm))
    go_ret
    obtain ⟨T, hT⟩ := H1.out.heap
    have hm2 : Mod (fun k => k = r) w1 ((w1.setCell ⟨r, 1, none⟩ (.string ⟨#[]⟩)).setCell ⟨r, 3, none⟩ (.int .i64 0)) := ((Mod.refl (fun k => k = r) w1).setCell ⟨r, 1, none⟩ _ (.inl rfl)).setCell ⟨r, 3, none⟩ _ (.inl rfl)
    have hh2 : ((w1.setCell ⟨r, 1, none⟩ (.string ⟨#[]⟩)).setCell ⟨r, 3, none⟩ (.int .i64 0)).heap[r]? = some _ := heap_setCell_same _ _ _ _ _ _ (heap_setCell_same _ _ _ _ _ _ hT)
    have hok := H1.out.ok
    have hr := hok.room0
    refine RPost.mk (B0 := B0) (B1 := ⟨#[]⟩) HS.out rfl ⟨⟨T, by simpa using hh2⟩, H1.out.b0, rfl, ⟨hok.safe0, by simp, by simp; omega, hok.room1, hok.fuse0, hok.fuse1⟩⟩ (HM1.out.trans hm2 (fun _ e => .inl e))
set_option maxHeartbeats 1000000 in
theorem rcut_1 {w : World} {r : Nat} {B0 B1 : ByteArray} {s : DS} (h : RefIs w r B0 B1 s) (hoff : s.off = false) (k : Int) :
    Calls Tryd.prog 31 #[.pointer (some ⟨r, 0, none⟩), .int .i64 1, .int .i64 k] w (RPost r (s.cut 1 k) w) := by
  have H := hid h
  obtain ⟨⟨hb0, hb1, _⟩, _⟩ := h.cells
  have hsz := h.size0.2
  have hsf := h.ok.safe1
  have hrm := h.ok.room0
  have hrm1 := h.ok.room1
  by_cases hbad : k < 0 ∨ (s.b1.length : Int) < k
  · have HS : Hid (s.cut 1 k = (1, s)) := hid (by unfold DS.cut; rw [if_neg (by rw [hoff]; simp), if_pos (by simpa [DS.bytes] using hbad)])
    have hways : decide (k < 0) = true ∨ (decide (k < 0) = false ∧ decide ((B1.size : Int) < k) = true) := by
      by_cases h1 : k < 0
      · exact .inl (decide_eq_true h1)
      · exact .inr ⟨decide_eq_false h1, decide_eq_true (by omega)⟩
    clear h hbad hsz
    rcases hways with t1 | ⟨t1, t2⟩
    all_goals
      go_enter Tryd.func31, Tryd.ntmps31
      go_wp2_with (go_at_call 45; refine (rbad_any H.out 1 (by omega) hoff).mono ?_; rintro e w' ⟨rfl, rfl⟩)
      go_ret
      exact RPost.mk HS.out rfl H.out (Mod.refl _ _)
  · obtain ⟨k, rfl⟩ := Int.eq_ofNat_of_zero_le (show 0 ≤ k by omega)
    have hk : k ≤ s.b1.length := by omega
    have hkB : k ≤ B1.size := by omega
    have t1 : decide ((k : Int) < 0) = false := decide_eq_false (by omega)
    have t2 : decide (B1.size < k) = false := decide_eq_false (by omega)
    have hc0 : s.cut 1 (k : Int) = s.one fun t => t.setFile 1 ((t.bytes 1).take k) (min (t.safe 1) k) := by unfold DS.cut; rw [if_neg (by rw [hoff]; simp), if_neg (by simpa [DS.bytes] using hbad)]; rfl
    have hmin : min (s.s1 : Int) (k : Int) = ((min s.s1 k : Nat) : Int) := by omega
    by_cases hf : s.fuse = 0
    · have HS : Hid (s.cut 1 (k : Int) = (150, s.unitsS 1)) := hid (by rw [hc0]; unfold DS.one; rw [if_neg (by rw [hoff]; simp), if_pos hf])
      have HD : Hid (decide (¬ s.fuse = 0) = false) := hid (by simp [hf])
      clear h hf hbad hsz hc0
      go_enter Tryd.func31, Tryd.ntmps31
      go_wp2_with (first
        | (go_at_call 45; refine (rbad_any H.out 1 (by omega) hoff).mono ?_; rintro e w' ⟨rfl, rfl⟩)
        | (go_at_call 46; refine (runit_any H.out).mono ?_; intro e w1 hp; unfold UnitPost at hp; rw [HD.out] at hp; obtain ⟨rfl, hd, hm⟩ := hp; have H1 := hid hd; have HM1 := hid hm; have hc := hd.cells; obtain ⟨⟨hc0, hc1, hc2, hc3, _⟩, hfz⟩ := hc; clear hd hm))
      go_ret
      exact RPost.mk HS.out rfl H1.out HM1.out
    · have HS : Hid (s.cut 1 (k : Int) = (0, { s.unitsS 1 with b1 := (s.unitsS 1).b1.take k, s1 := min (s.unitsS 1).s1 k })) := hid (by rw [hc0]; unfold DS.one; rw [if_neg (by rw [hoff]; simp), if_neg hf]; rfl)
      have HD : Hid (decide (¬ s.fuse = 0) = true) := hid (by simp [hf])
      have hu := unitsS_same s 1
      have HU := hid hu
      clear h hf hbad hsz hc0 hu
      go_enter Tryd.func31, Tryd.ntmps31
      go_wp2_with (first
        | (go_at_call 45; refine (rbad_any H.out 1 (by omega) hoff).mono ?_; rintro e w' ⟨rfl, rfl⟩)
        | (go_at_call 46; refine (runit_any H.out).mono ?_; intro e w1 hp; unfold UnitPost at hp; rw [HD.out] at hp; obtain ⟨rfl, hd, hm⟩ := hp; have H1 := hid hd; have HM1 := hid hm; have hc := hd.cells; obtain ⟨⟨hc0, hc1, hc2, hc3, _⟩, hfz⟩ := hc; rw [HU.out.2.2.1] at hc2; rw [HU.out.2.2.2.1] at hc3; clear hd hm))
      go_region
      all_goals go_wp2
      all_goals go_region
      all_goals go_wp2
      all_goals
        go_ret
        obtain ⟨T, hT⟩ := H1.out.heap
        have hX := str_cut B1 _ H1.out.b1 k
        have hok := H1.out.ok
        have hr := hok.room0
        have hs := hok.safe1
        have hm2 : Mod (fun x => x = r) w1 ((w1.setCell ⟨r, 1, none⟩ (.string (B1.extract 0 k))).setCell ⟨r, 3, none⟩ (.int .i64 ((min s.s1 k : Nat) : Int))) := ((Mod.refl (fun x => x = r) w1).setCell ⟨r, 1, none⟩ _ (.inl rfl)).setCell ⟨r, 3, none⟩ _ (.inl rfl)
        have hh2 : ((w1.setCell ⟨r, 1, none⟩ (.string (B1.extract 0 k))).setCell ⟨r, 3, none⟩ (.int .i64 ((min s.s1 k : Nat) : Int))).heap[r]? = some _ := heap_setCell_same _ _ _ _ _ _ (heap_setCell_same _ _ _ _ _ _ hT)
        have hlk : k ≤ (s.unitsS 1).b1.length := by rw [HU.out.2.1]; exact hk
        have hend : RefIs ((w1.setCell ⟨r, 1, none⟩ (.string (B1.extract 0 k))).setCell ⟨r, 3, none⟩ (.int .i64 ((min s.s1 k : Nat) : Int))) r B0 (B1.extract 0 k) { s.unitsS 1 with b1 := (s.unitsS 1).b1.take k, s1 := min (s.unitsS 1).s1 k } :=
          ⟨⟨T, by rw [HU.out.2.2.2.1]; simpa using hh2⟩, H1.out.b0, hX, ⟨hok.safe0, by simp; omega, by simp; omega, hok.room1, hok.fuse0, hok.fuse1⟩⟩
        exact RPost.mk HS.out rfl hend.drew.drew ((HM1.out.trans hm2 (fun _ e => .inl e)).drew.drew)
end Go.Proofs.YtdchpabcaoghpaaDoor

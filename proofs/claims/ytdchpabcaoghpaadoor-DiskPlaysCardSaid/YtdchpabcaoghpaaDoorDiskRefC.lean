/-
  The document's disk, by contract: Write.
-/
import Derived.Test.YtdchpabcaoghpaaDoorDiskRefB
import Derived.Laws.Concat
namespace Go.Proofs.YtdchpabcaoghpaaDoor
open Go.RowKit
set_option linter.unusedVariables false
set_option maxHeartbeats 2000000 in
theorem rwrite_0 {w : World} {r : Nat} {B0 B1 : ByteArray} {s : DS} (h : RefIs w r B0 B1 s) (hoff : s.off = false) (m : ByteArray) (hm : m.size ≤ 1099511627776) :
    Calls Tryd.prog 25 #[.pointer (some ⟨r, 0, none⟩), .int .i64 0, .string m] w (RPost r (s.write 0 m.data.toList) w) := by
  have H := hid h
  obtain ⟨⟨hb0, hb1, _, _, hrm, _⟩, _⟩ := h.cells
  have hsz := h.size0
  have hr0 := h.ok.room0
  have hr1 := h.ok.room1
  have hml := str_len m
  have w1 : IntKind.i64.wrap ((B0.size : Int) + B1.size) = (B0.size : Int) + B1.size := IntWalk.i64_in _ (by omega)
  have w2 : IntKind.i64.wrap ((B0.size : Int) + B1.size + m.size) = (B0.size : Int) + B1.size + m.size := IntWalk.i64_in _ (by omega)
  by_cases hroom : s.room - s.used < m.size
  · have HS : Hid (s.write 0 m.data.toList = (151, s)) := hid (by unfold DS.write; rw [if_neg (by rw [hoff]; simp), if_pos (by rw [hml]; exact hroom)])
    have t1 : decide (s.room < (B0.size : Int) + B1.size + m.size) = true := decide_eq_true (by unfold DS.used at hroom; omega)
    clear h hroom hsz hml
    go_enter Tryd.func25, Tryd.ntmps25
    go_wp2_with (go_at_call 45; refine (rbad_any H.out 0 (by omega) hoff).mono ?_; rintro e w' ⟨rfl, rfl⟩)
    go_quiet (fail)
    go_wp2
    go_ret
    exact RPost.mk HS.out rfl (H.out.drewN _) ((Mod.refl _ _).drewN _)
  · have t1 : decide (s.room < (B0.size : Int) + B1.size + m.size) = false := decide_eq_false (by unfold DS.used at hroom; omega)
    have hww := fun k hk => write_eq0 s m.data.toList k hoff (by rw [hml]; exact hroom) hk
    have HWW := hid hww
    have HML := hid hml
    have hf0 := h.ok.fuse0
    have HU0 := hid (units_0 s hf0)
    have hq1 : m.size ≤ 16777216 := by unfold DS.used at hroom; omega
    have hq2 : B0.size ≤ 16777216 ∧ B1.size ≤ 16777216 := by omega
    have HRM : Hid ((s.b0.length : Int) + s.b1.length + m.size ≤ s.room) := hid (by unfold DS.used at hroom; omega)
    clear h hroom hsz hml hww
    go_enter Tryd.func25, Tryd.ntmps25
    go_wp2_with (go_at_call 45; refine (rbad_any H.out 0 (by omega) hoff).mono ?_; rintro e w' ⟨rfl, rfl⟩)
    go_quiet (fail)
    go_wp2
    go_loopw [8] (fun i wr => RWRel r B0 B1 s w m.size i wr) (fun i _ => m.size - (intOf i).toNat)
    case atStart => exact ⟨0, by omega, rfl, by omega, by rw [HU0.out]; exact H.out.drewN _, (Mod.refl _ _).drewN _⟩
    case round =>
      obtain ⟨k, hk, rfl, hfk, hrf, hmd⟩ := hrel
      have HR := hid hrf
      have HMD := hid hmd
      have hcs := hrf.cells
      obtain ⟨⟨hc0, hc1, _⟩, hfz⟩ := hcs
      clear hrf hmd
      by_cases hlt : k < m.size
      · by_cases hout : s.fuse = k
        · have huo := units_out s k m.size hout hlt
          have HUO := hid huo
          have HD : Hid (decide (¬ (s.unitsS k).fuse = 0) = false) := hid (by simp [huo.1])
          have hadd := fun w' => run_string_add_sum (P := Tryd.prog) (w := w') B0 (m.extract 0 k) (by rw [ByteArray.size_extract]; omega)
          clear huo hout
          go_wp2_with (go_at_call 46; refine (runit_any HR.out).mono ?_; intro e w1 hp; unfold UnitPost at hp; rw [HD.out] at hp; obtain ⟨rfl, hd, hm⟩ := hp; rw [HUO.out.2.1] at hd; have H1 := hid hd; have HM1 := hid hm; have hc := hd.cells; obtain ⟨⟨hc0', hc1', _⟩, hfz'⟩ := hc; clear hd hm)
          go_region
          all_goals go_wp2
          all_goals
            go_ret
            have hlen : (s.unitsS m.size).b0 = s.b0 := (unitsS_same s _).1
            have hX := str_add B0 _ _ (H1.out.b0.trans hlen) (m.extract 0 k) (str_cut m _ rfl k)
            have hok := H1.out.ok
            have hs := hok.safe0
            rw [hlen] at hs
            have hput := H1.out.put0 (X := B0 ++ m.extract 0 k) (s.b0 ++ m.data.toList.take k) hX (by rw [List.length_append]; omega) (by rw [List.length_append, List.length_take, HML.out, (unitsS_same s _).2.1, (unitsS_same s _).2.2.2.2]; have := HRM.out; omega)
            have hw := HWW.out k (by rw [HML.out]; exact HUO.out.2.2)
            rw [if_pos (by rw [HML.out]; exact hlt), HML.out] at hw
            exact RPost.mk hw rfl hput.1.drew (((HMD.out.trans HM1.out (fun _ e => .inl e)).trans hput.2 (fun _ e => .inl e)).drew)
        · have huo := units_one s k (by omega)
          have HUO := hid huo
          have HD : Hid (decide (¬ (s.unitsS k).fuse = 0) = true) := hid (by simp [huo.2])
          clear huo
          go_wp2_with (go_at_call 46; refine (runit_any HR.out).mono ?_; intro e w1 hp; unfold UnitPost at hp; rw [HD.out] at hp; obtain ⟨rfl, hd, hm⟩ := hp; rw [HUO.out.1] at hd; have H1 := hid hd; have HM1 := hid hm; clear hd hm)
          exact ⟨⟨k + 1, hlt, by go_num, by omega, H1.out, HMD.out.trans HM1.out (fun _ e => .inl e)⟩, by simp [intOf]; omega⟩
      · obtain rfl : k = m.size := by omega
        have hadd := fun w' => run_string_add_sum (P := Tryd.prog) (w := w') B0 m (by omega)
        go_wp2
        go_region
        all_goals go_wp2
        all_goals
          go_ret
          have hlen : (s.unitsS m.size).b0 = s.b0 := (unitsS_same s _).1
          have hX := str_add B0 _ _ (HR.out.b0.trans hlen) m rfl
          have hs := HR.out.ok.safe0
          rw [hlen] at hs
          have hput := HR.out.put0 (X := B0 ++ m) (s.b0 ++ m.data.toList) hX (by rw [List.length_append]; omega) (by rw [List.length_append, HML.out, (unitsS_same s _).2.1, (unitsS_same s _).2.2.2.2]; have := HRM.out; omega)
          have hw := HWW.out m.size (by rw [HML.out]; exact units_all s _ hfk)
          rw [if_neg (by rw [HML.out]; omega), HML.out, ← HML.out, List.take_length, HML.out] at hw
          exact RPost.mk hw rfl hput.1.drew ((HMD.out.trans hput.2 (fun _ e => .inl e)).drew)
set_option maxHeartbeats 2000000 in
theorem rwrite_1 {w : World} {r : Nat} {B0 B1 : ByteArray} {s : DS} (h : RefIs w r B0 B1 s) (hoff : s.off = false) (m : ByteArray) (hm : m.size ≤ 1099511627776) :
    Calls Tryd.prog 25 #[.pointer (some ⟨r, 0, none⟩), .int .i64 1, .string m] w (RPost r (s.write 1 m.data.toList) w) := by
  have H := hid h
  obtain ⟨⟨hb0, hb1, _, _, hrm, _⟩, _⟩ := h.cells
  have hsz := h.size0
  have hr0 := h.ok.room0
  have hr1 := h.ok.room1
  have hml := str_len m
  have w1 : IntKind.i64.wrap ((B0.size : Int) + B1.size) = (B0.size : Int) + B1.size := IntWalk.i64_in _ (by omega)
  have w2 : IntKind.i64.wrap ((B0.size : Int) + B1.size + m.size) = (B0.size : Int) + B1.size + m.size := IntWalk.i64_in _ (by omega)
  by_cases hroom : s.room - s.used < m.size
  · have HS : Hid (s.write 1 m.data.toList = (151, s)) := hid (by unfold DS.write; rw [if_neg (by rw [hoff]; simp), if_pos (by rw [hml]; exact hroom)])
    have t1 : decide (s.room < (B0.size : Int) + B1.size + m.size) = true := decide_eq_true (by unfold DS.used at hroom; omega)
    clear h hroom hsz hml
    go_enter Tryd.func25, Tryd.ntmps25
    go_wp2_with (go_at_call 45; refine (rbad_any H.out 1 (by omega) hoff).mono ?_; rintro e w' ⟨rfl, rfl⟩)
    go_quiet (fail)
    go_wp2
    go_ret
    exact RPost.mk HS.out rfl (H.out.drewN _) ((Mod.refl _ _).drewN _)
  · have t1 : decide (s.room < (B0.size : Int) + B1.size + m.size) = false := decide_eq_false (by unfold DS.used at hroom; omega)
    have hww := fun k hk => write_eq1 s m.data.toList k hoff (by rw [hml]; exact hroom) hk
    have HWW := hid hww
    have HML := hid hml
    have hf0 := h.ok.fuse0
    have HU0 := hid (units_0 s hf0)
    have hq1 : m.size ≤ 16777216 := by unfold DS.used at hroom; omega
    have hq2 : B0.size ≤ 16777216 ∧ B1.size ≤ 16777216 := by omega
    have HRM : Hid ((s.b0.length : Int) + s.b1.length + m.size ≤ s.room) := hid (by unfold DS.used at hroom; omega)
    clear h hroom hsz hml hww
    go_enter Tryd.func25, Tryd.ntmps25
    go_wp2_with (go_at_call 45; refine (rbad_any H.out 1 (by omega) hoff).mono ?_; rintro e w' ⟨rfl, rfl⟩)
    go_quiet (fail)
    go_wp2
    go_loopw [8] (fun i wr => RWRel r B0 B1 s w m.size i wr) (fun i _ => m.size - (intOf i).toNat)
    case atStart => exact ⟨0, by omega, rfl, by omega, by rw [HU0.out]; exact H.out.drewN _, (Mod.refl _ _).drewN _⟩
    case round =>
      obtain ⟨k, hk, rfl, hfk, hrf, hmd⟩ := hrel
      have HR := hid hrf
      have HMD := hid hmd
      have hcs := hrf.cells
      obtain ⟨⟨hc0, hc1, _⟩, hfz⟩ := hcs
      clear hrf hmd
      by_cases hlt : k < m.size
      · by_cases hout : s.fuse = k
        · have huo := units_out s k m.size hout hlt
          have HUO := hid huo
          have HD : Hid (decide (¬ (s.unitsS k).fuse = 0) = false) := hid (by simp [huo.1])
          have hadd := fun w' => run_string_add_sum (P := Tryd.prog) (w := w') B1 (m.extract 0 k) (by rw [ByteArray.size_extract]; omega)
          clear huo hout
          go_wp2_with (go_at_call 46; refine (runit_any HR.out).mono ?_; intro e w1 hp; unfold UnitPost at hp; rw [HD.out] at hp; obtain ⟨rfl, hd, hm⟩ := hp; rw [HUO.out.2.1] at hd; have H1 := hid hd; have HM1 := hid hm; have hc := hd.cells; obtain ⟨⟨hc0', hc1', _⟩, hfz'⟩ := hc; clear hd hm)
          go_region
          all_goals go_wp2
          all_goals
            go_ret
            have hlen : (s.unitsS m.size).b1 = s.b1 := (unitsS_same s _).2.1
            have hX := str_add B1 _ _ (H1.out.b1.trans hlen) (m.extract 0 k) (str_cut m _ rfl k)
            have hok := H1.out.ok
            have hs := hok.safe1
            rw [hlen] at hs
            have hput := H1.out.put1 (X := B1 ++ m.extract 0 k) (s.b1 ++ m.data.toList.take k) hX (by rw [List.length_append]; omega) (by rw [List.length_append, List.length_take, HML.out, (unitsS_same s _).1, (unitsS_same s _).2.2.2.2]; have := HRM.out; omega)
            have hw := HWW.out k (by rw [HML.out]; exact HUO.out.2.2)
            rw [if_pos (by rw [HML.out]; exact hlt), HML.out] at hw
            exact RPost.mk hw rfl hput.1.drew (((HMD.out.trans HM1.out (fun _ e => .inl e)).trans hput.2 (fun _ e => .inl e)).drew)
        · have huo := units_one s k (by omega)
          have HUO := hid huo
          have HD : Hid (decide (¬ (s.unitsS k).fuse = 0) = true) := hid (by simp [huo.2])
          clear huo
          go_wp2_with (go_at_call 46; refine (runit_any HR.out).mono ?_; intro e w1 hp; unfold UnitPost at hp; rw [HD.out] at hp; obtain ⟨rfl, hd, hm⟩ := hp; rw [HUO.out.1] at hd; have H1 := hid hd; have HM1 := hid hm; clear hd hm)
          exact ⟨⟨k + 1, hlt, by go_num, by omega, H1.out, HMD.out.trans HM1.out (fun _ e => .inl e)⟩, by simp [intOf]; omega⟩
      · obtain rfl : k = m.size := by omega
        have hadd := fun w' => run_string_add_sum (P := Tryd.prog) (w := w') B1 m (by omega)
        go_wp2
        go_region
        all_goals go_wp2
        all_goals
          go_ret
          have hlen : (s.unitsS m.size).b1 = s.b1 := (unitsS_same s _).2.1
          have hX := str_add B1 _ _ (HR.out.b1.trans hlen) m rfl
          have hs := HR.out.ok.safe1
          rw [hlen] at hs
          have hput := HR.out.put1 (X := B1 ++ m) (s.b1 ++ m.data.toList) hX (by rw [List.length_append]; omega) (by rw [List.length_append, HML.out, (unitsS_same s _).1, (unitsS_same s _).2.2.2.2]; have := HRM.out; omega)
          have hw := HWW.out m.size (by rw [HML.out]; exact units_all s _ hfk)
          rw [if_neg (by rw [HML.out]; omega), HML.out, ← HML.out, List.take_length, HML.out] at hw
          exact RPost.mk hw rfl hput.1.drew ((HMD.out.trans hput.2 (fun _ e => .inl e)).drew)
end Go.Proofs.YtdchpabcaoghpaaDoor

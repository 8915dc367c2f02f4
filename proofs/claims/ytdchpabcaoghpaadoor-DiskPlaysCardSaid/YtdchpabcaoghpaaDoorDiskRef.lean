/-
  The document's disk, by contract: the same data as the program's.
-/
import Derived.Test.YtdchpabcaoghpaaDoorDiskMore
import Derived.Deep.RegionLaw
namespace Go.Proofs.YtdchpabcaoghpaaDoor
open Go.RowKit
set_option linter.unusedVariables false

/-- The document's disk in block r: the same data. -/
structure RefIs (w : World) (r : Nat) (B0 B1 : ByteArray) (s : DS) : Prop where
  heap : ∃ T, w.heap[r]? = some (.cells #[.string B0, .string B1, .int .i64 s.s0, .int .i64 s.s1, .int .i64 s.room, .int .i64 s.fuse, .bool s.off] T (0, 0))
  b0 : B0.data.toList = s.b0
  b1 : B1.data.toList = s.b1
  ok : s.Ok
theorem RefIs.cells {w : World} {r : Nat} {B0 B1 : ByteArray} {s : DS} (h : RefIs w r B0 B1 s) :
    (w.cell? ⟨r, 0, none⟩ = some (.string B0) ∧ w.cell? ⟨r, 1, none⟩ = some (.string B1) ∧ w.cell? ⟨r, 2, none⟩ = some (.int .i64 s.s0) ∧ w.cell? ⟨r, 3, none⟩ = some (.int .i64 s.s1) ∧
    w.cell? ⟨r, 4, none⟩ = some (.int .i64 s.room) ∧ w.cell? ⟨r, 5, none⟩ = some (.int .i64 s.fuse) ∧ w.cell? ⟨r, 6, none⟩ = some (.bool s.off)) ∧ ∀ k, w.frozen? ⟨r, k, none⟩ = false := by
  obtain ⟨T, h⟩ := h.heap
  simp [World.cell?, World.frozen?, h]
theorem RefIs.lt {w : World} {r : Nat} {B0 B1 : ByteArray} {s : DS} (h : RefIs w r B0 B1 s) : r < w.heap.size := by obtain ⟨T, h⟩ := h.heap; exact lt_of_heap h
theorem RefIs.mod {S : Nat → Prop} {w w' : World} {r : Nat} {B0 B1 : ByteArray} {s : DS} (h : RefIs w r B0 B1 s) (hm : Mod S w w') (hn : ¬ S r) : RefIs w' r B0 B1 s := by
  obtain ⟨T, hh⟩ := h.heap; exact ⟨⟨T, hm.heap hh hn⟩, h.b0, h.b1, h.ok⟩
theorem RefIs.new {w w' : World} {r : Nat} {B0 B1 : ByteArray} {s : DS} (h : RefIs w r B0 B1 s) (hb : Below w.heap.size w w') : RefIs w' r B0 B1 s := h.mod (Mod.new hb (fun _ => False)) (fun e => e)
theorem RefIs.drew {w : World} {r : Nat} {B0 B1 : ByteArray} {s : DS} (h : RefIs w r B0 B1 s) : RefIs w.drew r B0 B1 s := ⟨h.heap, h.b0, h.b1, h.ok⟩
theorem RefIs.drewN {w : World} {r : Nat} {B0 B1 : ByteArray} {s : DS} (h : RefIs w r B0 B1 s) (n : Nat) : RefIs (w.drewN n) r B0 B1 s := ⟨h.heap, h.b0, h.b1, h.ok⟩
theorem RefIs.size0 {w : World} {r : Nat} {B0 B1 : ByteArray} {s : DS} (h : RefIs w r B0 B1 s) : B0.size = s.b0.length ∧ B1.size = s.b1.length := by rw [← h.b0, ← h.b1, str_len, str_len]; exact ⟨rfl, rfl⟩

def RPost (r : Nat) (x : Int × DS) (w : World) (e : Ending) (w' : World) : Prop := e = .returned (.int .i64 x.1) ∧ ∃ B0 B1, RefIs w' r B0 B1 x.2 ∧ Mod (fun k => k = r) w w'
theorem RPost.mk {r : Nat} {x : Int × DS} {n m : Int} {s : DS} {w w' : World} {B0 B1 : ByteArray} (hx : x = (n, s)) (hn : m = n) (h : RefIs w' r B0 B1 s) (hm : Mod (fun k => k = r) w w') : RPost r x w (.returned (.int .i64 m)) w' := by
  subst hx hn; exact ⟨rfl, B0, B1, h, hm⟩
theorem rbad_any {w : World} {r : Nat} {B0 B1 : ByteArray} {s : DS} (h : RefIs w r B0 B1 s) (n : Int) (hn : n = 0 ∨ n = 1) (hoff : s.off = false) :
    Calls Tryd.prog 45 #[.pointer (some ⟨r, 0, none⟩), .int .i64 n] w fun e w' => e = .returned (.int .i64 0) ∧ w = w' := by
  have h6 := h.cells.1.2.2.2.2.2.2
  rw [hoff] at h6
  clear h
  rcases hn with rfl | rfl
  all_goals
    go_enter Tryd.func45, Tryd.ntmps45
    go_wp2
    go_ret
    exact ⟨rfl, rfl⟩
theorem rbad_off {w : World} {r : Nat} {B0 B1 : ByteArray} {s : DS} (h : RefIs w r B0 B1 s) (n : Int) (hn : n = 0 ∨ n = 1) (hoff : s.off = true) :
    Calls Tryd.prog 45 #[.pointer (some ⟨r, 0, none⟩), .int .i64 n] w fun e w' => e = .returned (.int .i64 150) ∧ w = w' := by
  have h6 := h.cells.1.2.2.2.2.2.2
  rw [hoff] at h6
  clear h
  rcases hn with rfl | rfl
  all_goals
    go_enter Tryd.func45, Tryd.ntmps45
    go_wp2
    go_ret
    exact ⟨rfl, rfl⟩
theorem rbad_none (r : Nat) (n : Int) (hn : ¬ (n = 0 ∨ n = 1)) (w : World) :
    Calls Tryd.prog 45 #[.pointer (some ⟨r, 0, none⟩), .int .i64 n] w fun e w' => e = .returned (.int .i64 1) ∧ w = w' := by
  have t0 : (n != 0) = true := by rw [bne_iff_ne]; omega
  have t1 : (n != 1) = true := by rw [bne_iff_ne]; omega
  go_enter Tryd.func45, Tryd.ntmps45
  go_wp2
  go_ret
  exact ⟨rfl, rfl⟩
theorem RefIs.setFO {w w' : World} {r : Nat} {B0 B1 : ByteArray} {s : DS} (h : RefIs w r B0 B1 s) (f : Int) (o : Bool) (hf : -1 ≤ f ∧ f ≤ 9223372036854775807)
    (hw : ∃ T, w'.heap[r]? = some (.cells #[.string B0, .string B1, .int .i64 s.s0, .int .i64 s.s1, .int .i64 s.room, .int .i64 f, .bool o] T (0, 0))) : RefIs w' r B0 B1 { s with fuse := f, off := o } :=
  ⟨hw, h.b0, h.b1, ⟨h.ok.safe0, h.ok.safe1, h.ok.room0, h.ok.room1, hf.1, hf.2⟩⟩
def UnitPost (r : Nat) (B0 B1 : ByteArray) (s : DS) (w : World) (e : Ending) (w' : World) : Prop := e = .returned (.bool (decide (¬ s.fuse = 0))) ∧ RefIs w' r B0 B1 (s.unitsS 1) ∧ Mod (fun k => k = r) w w'
theorem UnitPost.mk {r : Nat} {B0 B1 : ByteArray} {s : DS} {w w' : World} {b : Bool} (hb : b = decide (¬ s.fuse = 0)) (h : RefIs w' r B0 B1 (s.unitsS 1)) (hm : Mod (fun k => k = r) w w') : UnitPost r B0 B1 s w (.returned (.bool b)) w' := ⟨by rw [hb], h, hm⟩
theorem runit_any {w : World} {r : Nat} {B0 B1 : ByteArray} {s : DS} (h : RefIs w r B0 B1 s) :
    Calls Tryd.prog 46 #[.pointer (some ⟨r, 0, none⟩)] w (UnitPost r B0 B1 s w) := by
  have H := hid h
  obtain ⟨T, hT⟩ := h.heap
  have HT := hid hT
  have h5 := h.cells.1.2.2.2.2.2.1
  have h6 := h.cells.1.2.2.2.2.2.2
  have hfz := h.cells.2
  have hf0 := h.ok.fuse0
  have hf1 := h.ok.fuse1
  clear h hT
  by_cases c0 : s.fuse = 0
  · have C0 := hid c0
    have hu : s.unitsS 1 = { s with fuse := s.fuse, off := true } := by unfold DS.unitsS; rw [if_neg (by omega), if_pos (by omega), c0]
    have HU := hid hu
    rw [c0] at h5
    clear c0 hu
    go_enter Tryd.func46, Tryd.ntmps46
    go_wp2
    go_ret
    refine UnitPost.mk (by rw [C0.out]; rfl) (by rw [HU.out]; exact H.out.setFO s.fuse true (by omega) ⟨T, heap_setCell_same _ _ _ _ _ _ HT.out⟩) ((Mod.refl (fun k => k = r) w).setCell ⟨r, 6, none⟩ _ (.inl rfl))
  · have C0 := hid c0
    have t0 : (s.fuse == 0) = false := beq_eq_false_iff_ne.2 c0
    by_cases c1 : 0 < s.fuse
    · have hu : s.unitsS 1 = { s with fuse := s.fuse - 1, off := s.off } := by unfold DS.unitsS; rw [if_neg (by omega), if_neg (by omega)]; rfl
      have HU := hid hu
      clear hu c0
      go_enter Tryd.func46, Tryd.ntmps46
      go_wp2
      go_ret
      refine UnitPost.mk (by simp [C0.out]) (by rw [HU.out]; exact H.out.setFO (s.fuse - 1) s.off (by omega) ⟨T, heap_setCell_same _ _ _ _ _ _ HT.out⟩) ((Mod.refl (fun k => k = r) w).setCell ⟨r, 5, none⟩ _ (.inl rfl))
    · have hu : s.unitsS 1 = s := by unfold DS.unitsS; rw [if_pos (by omega)]
      have HU := hid hu
      clear hu c0
      go_enter Tryd.func46, Tryd.ntmps46
      go_wp2
      go_ret
      exact UnitPost.mk (by simp [C0.out]) (by rw [HU.out]; exact H.out) (Mod.refl _ _)
theorem str_add (B : ByteArray) (l m : List UInt8) (h : B.data.toList = l) (s : ByteArray) (hs : s.data.toList = m) : (B ++ s).data.toList = l ++ m := by
  rw [← h, ← hs]; simp [ByteArray.data_append]
theorem str_cut (B : ByteArray) (l : List UInt8) (h : B.data.toList = l) (k : Nat) : (B.extract 0 k).data.toList = l.take k := by
  rw [← h]; simp [ByteArray.data_extract]
/-- units, one by one -/
theorem units_one (s : DS) (i : Nat) (h : s.fuse < 0 ∨ (i : Int) < s.fuse) : (s.unitsS i).unitsS 1 = s.unitsS (i + 1) ∧ ¬ (s.unitsS i).fuse = 0 := by
  by_cases h0 : s.fuse < 0
  · have e : ∀ j, s.unitsS j = s := fun j => by unfold DS.unitsS; rw [if_pos h0]
    rw [e, e, e]; exact ⟨rfl, by omega⟩
  · have e : s.unitsS i = { s with fuse := s.fuse - i } := by unfold DS.unitsS; rw [if_neg h0, if_neg (by omega)]
    have e2 : s.unitsS (i + 1) = { s with fuse := s.fuse - ((i + 1 : Nat) : Int) } := by unfold DS.unitsS; rw [if_neg h0, if_neg (by omega)]
    rw [e, e2]
    refine ⟨?_, by show ¬ (s.fuse - (i : Int) = 0); omega⟩
    unfold DS.unitsS
    rw [if_neg (by show ¬ (s.fuse - (i : Int) < 0); omega), if_neg (by show ¬ (s.fuse - (i : Int) < ((1 : Nat) : Int)); omega)]
    show ({ s with fuse := s.fuse - (i : Int) - ((1 : Nat) : Int) } : DS) = _
    congr 1; omega
theorem units_out (s : DS) (i M : Nat) (h : s.fuse = i) (hM : i < M) : (s.unitsS i).fuse = 0 ∧ (s.unitsS i).unitsS 1 = s.unitsS M ∧ s.unitsN M = i := by
  have e : s.unitsS i = { s with fuse := 0 } := by
    unfold DS.unitsS; rw [if_neg (by omega), if_neg (by omega)]
    simp [h]
  refine ⟨by rw [e], ?_, ?_⟩
  · rw [e]; unfold DS.unitsS; rw [if_neg (by simp), if_pos (by simp), if_neg (by omega), if_pos (by omega)]
  · unfold DS.unitsN; rw [if_neg (by omega), if_pos (by omega)]; omega
theorem units_0 (s : DS) (h : -1 ≤ s.fuse) : s.unitsS 0 = s := by
  unfold DS.unitsS
  by_cases h0 : s.fuse < 0
  · rw [if_pos h0]
  · rw [if_neg h0, if_neg (by omega)]; simp
theorem units_all (s : DS) (M : Nat) (h : s.fuse < 0 ∨ (M : Int) ≤ s.fuse) : s.unitsN M = M := by
  unfold DS.unitsN; split
  · rfl
  · rw [if_neg (by omega)]
def RWRel (r : Nat) (B0 B1 : ByteArray) (s : DS) (w0 : World) (M : Nat) (i : Value) (w : World) : Prop := ∃ k : Nat, k ≤ M ∧ i = .int .i64 k ∧ (s.fuse < 0 ∨ (k : Int) ≤ s.fuse) ∧ RefIs w r B0 B1 (s.unitsS k) ∧ Mod (fun k => k = r) w0 w
theorem RefIs.put0 {w : World} {r : Nat} {B0 B1 X : ByteArray} {s : DS} (h : RefIs w r B0 B1 s) (l : List UInt8) (hX : X.data.toList = l) (h1 : s.s0 ≤ l.length) (h2 : (l.length : Int) + s.b1.length ≤ s.room) :
    RefIs (w.setCell ⟨r, 0, none⟩ (.string X)) r X B1 { s with b0 := l } ∧ Mod (fun k => k = r) w (w.setCell ⟨r, 0, none⟩ (.string X)) := by
  obtain ⟨T, hh⟩ := h.heap
  exact ⟨⟨⟨T, heap_setCell_same _ _ _ _ _ _ hh⟩, hX, h.b1, ⟨h1, h.ok.safe1, by simp only; omega, h.ok.room1, h.ok.fuse0, h.ok.fuse1⟩⟩, (Mod.refl (fun k => k = r) w).setCell ⟨r, 0, none⟩ _ (.inl rfl)⟩
theorem RefIs.safeAt0 {w : World} {r : Nat} {B0 B1 : ByteArray} {s : DS} (h : RefIs w r B0 B1 s) (k : Nat) (h1 : k ≤ s.b0.length) :
    RefIs (w.setCell ⟨r, 2, none⟩ (.int .i64 k)) r B0 B1 { s with s0 := k } ∧ Mod (fun k => k = r) w (w.setCell ⟨r, 2, none⟩ (.int .i64 k)) := by
  obtain ⟨T, hh⟩ := h.heap
  exact ⟨⟨⟨T, heap_setCell_same _ _ _ _ _ _ hh⟩, h.b0, h.b1, ⟨h1, h.ok.safe1, h.ok.room0, h.ok.room1, h.ok.fuse0, h.ok.fuse1⟩⟩, (Mod.refl (fun k => k = r) w).setCell ⟨r, 2, none⟩ _ (.inl rfl)⟩
set_option maxHeartbeats 1000000 in
theorem rsync_0 {w : World} {r : Nat} {B0 B1 : ByteArray} {s : DS} (h : RefIs w r B0 B1 s) (hoff : s.off = false) :
    Calls Tryd.prog 26 #[.pointer (some ⟨r, 0, none⟩), .int .i64 0] w (RPost r (s.sync 0) w) := by
  have H := hid h
  by_cases hf : s.fuse = 0
  · have HS : Hid (s.sync 0 = (150, s.unitsS 1)) := hid (by unfold DS.sync DS.one; rw [if_neg (by rw [hoff]; simp), if_pos hf])
    have HD : Hid (decide (¬ s.fuse = 0) = false) := hid (by simp [hf])
    clear h hf
    go_enter Tryd.func26, Tryd.ntmps26
    go_wp2_with (first
      | (go_at_call 45; refine (rbad_any H.out 0 (by omega) hoff).mono ?_; rintro e w' ⟨rfl, rfl⟩)
      | (go_at_call 46; refine (runit_any H.out).mono ?_; intro e w1 hp; unfold UnitPost at hp; rw [HD.out] at hp; obtain ⟨rfl, hd, hm⟩ := hp; have H1 := hid hd; have HM1 := hid hm; clear hd hm))
    go_ret
    exact RPost.mk HS.out rfl H1.out HM1.out
  · have HS : Hid (s.sync 0 = (0, { s.unitsS 1 with s0 := (s.unitsS 1).b0.length })) := hid (by unfold DS.sync DS.one; rw [if_neg (by rw [hoff]; simp), if_neg hf]; rfl)
    have HD : Hid (decide (¬ s.fuse = 0) = true) := hid (by simp [hf])
    clear h hf
    go_enter Tryd.func26, Tryd.ntmps26
    go_wp2_with (first
      | (go_at_call 45; refine (rbad_any H.out 0 (by omega) hoff).mono ?_; rintro e w' ⟨rfl, rfl⟩)
      | (go_at_call 46; refine (runit_any H.out).mono ?_; intro e w1 hp; unfold UnitPost at hp; rw [HD.out] at hp; obtain ⟨rfl, hd, hm⟩ := hp; have H1 := hid hd; have HM1 := hid hm; have hc := hd.cells; obtain ⟨⟨hc0, hc1, hc2, hc3, _⟩, hfz⟩ := hc; clear hd hm))
    go_region
    all_goals go_wp2
    all_goals
      go_ret
      have hs := H1.out.drew.safeAt0 B0.size (by rw [H1.out.size0.1]; exact Nat.le_refl _)
      rw [H1.out.size0.1] at hs
      first
      | exact RPost.mk HS.out rfl (by have e := H1.out.size0.1; rw [← e] at hs ⊢; exact hs.1) (HM1.out.drew.trans (by have e := H1.out.size0.1; rw [← e] at hs; exact hs.2) (fun _ e => .inl e))

theorem RefIs.put1 {w : World} {r : Nat} {B0 B1 X : ByteArray} {s : DS} (h : RefIs w r B0 B1 s) (l : List UInt8) (hX : X.data.toList = l) (h1 : s.s1 ≤ l.length) (h2 : (l.length : Int) + s.b0.length ≤ s.room) :
    RefIs (w.setCell ⟨r, 1, none⟩ (.string X)) r B0 X { s with b1 := l } ∧ Mod (fun k => k = r) w (w.setCell ⟨r, 1, none⟩ (.string X)) := by
  obtain ⟨T, hh⟩ := h.heap
  exact ⟨⟨⟨T, heap_setCell_same _ _ _ _ _ _ hh⟩, h.b0, hX, ⟨h.ok.safe0, h1, by simp only; omega, h.ok.room1, h.ok.fuse0, h.ok.fuse1⟩⟩, (Mod.refl (fun k => k = r) w).setCell ⟨r, 1, none⟩ _ (.inl rfl)⟩
theorem RefIs.safeAt1 {w : World} {r : Nat} {B0 B1 : ByteArray} {s : DS} (h : RefIs w r B0 B1 s) (k : Nat) (h1 : k ≤ s.b1.length) :
    RefIs (w.setCell ⟨r, 3, none⟩ (.int .i64 k)) r B0 B1 { s with s1 := k } ∧ Mod (fun k => k = r) w (w.setCell ⟨r, 3, none⟩ (.int .i64 k)) := by
  obtain ⟨T, hh⟩ := h.heap
  exact ⟨⟨⟨T, heap_setCell_same _ _ _ _ _ _ hh⟩, h.b0, h.b1, ⟨h.ok.safe0, h1, h.ok.room0, h.ok.room1, h.ok.fuse0, h.ok.fuse1⟩⟩, (Mod.refl (fun k => k = r) w).setCell ⟨r, 3, none⟩ _ (.inl rfl)⟩
set_option maxHeartbeats 1000000 in
theorem rsync_1 {w : World} {r : Nat} {B0 B1 : ByteArray} {s : DS} (h : RefIs w r B0 B1 s) (hoff : s.off = false) :
    Calls Tryd.prog 26 #[.pointer (some ⟨r, 0, none⟩), .int .i64 1] w (RPost r (s.sync 1) w) := by
  have H := hid h
  by_cases hf : s.fuse = 0
  · have HS : Hid (s.sync 1 = (150, s.unitsS 1)) := hid (by unfold DS.sync DS.one; rw [if_neg (by rw [hoff]; simp), if_pos hf])
    have HD : Hid (decide (¬ s.fuse = 0) = false) := hid (by simp [hf])
    clear h hf
    go_enter Tryd.func26, Tryd.ntmps26
    go_wp2_with (first
      | (go_at_call 45; refine (rbad_any H.out 1 (by omega) hoff).mono ?_; rintro e w' ⟨rfl, rfl⟩)
      | (go_at_call 46; refine (runit_any H.out).mono ?_; intro e w1 hp; unfold UnitPost at hp; rw [HD.out] at hp; obtain ⟨rfl, hd, hm⟩ := hp; have H1 := hid hd; have HM1 := hid hm; clear hd hm))
    go_ret
    exact RPost.mk HS.out rfl H1.out HM1.out
  · have HS : Hid (s.sync 1 = (0, { s.unitsS 1 with s1 := (s.unitsS 1).b1.length })) := hid (by unfold DS.sync DS.one; rw [if_neg (by rw [hoff]; simp), if_neg hf]; rfl)
    have HD : Hid (decide (¬ s.fuse = 0) = true) := hid (by simp [hf])
    clear h hf
    go_enter Tryd.func26, Tryd.ntmps26
    go_wp2_with (first
      | (go_at_call 45; refine (rbad_any H.out 1 (by omega) hoff).mono ?_; rintro e w' ⟨rfl, rfl⟩)
      | (go_at_call 46; refine (runit_any H.out).mono ?_; intro e w1 hp; unfold UnitPost at hp; rw [HD.out] at hp; obtain ⟨rfl, hd, hm⟩ := hp; have H1 := hid hd; have HM1 := hid hm; have hc := hd.cells; obtain ⟨⟨hc0, hc1, hc2, hc3, _⟩, hfz⟩ := hc; clear hd hm))
    go_region
    all_goals go_wp2
    all_goals
      go_ret
      have hs := H1.out.drew.safeAt1 B1.size (by rw [H1.out.size0.2]; exact Nat.le_refl _)
      rw [H1.out.size0.2] at hs
      first
      | exact RPost.mk HS.out rfl (by have e := H1.out.size0.2; rw [← e] at hs ⊢; exact hs.1) (HM1.out.drew.trans (by have e := H1.out.size0.2; rw [← e] at hs; exact hs.2) (fun _ e => .inl e))

end Go.Proofs.YtdchpabcaoghpaaDoor

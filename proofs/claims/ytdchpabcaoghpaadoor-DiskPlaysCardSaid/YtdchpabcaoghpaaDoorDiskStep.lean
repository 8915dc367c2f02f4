/-
  The disk's calls of one unit by contract: Sync, Erase, Cut.
-/
import Derived.Test.YtdchpabcaoghpaaDoorDiskOps
namespace Go.Proofs.YtdchpabcaoghpaaDoor
open Go.RowKit
set_option linter.unusedVariables false

/-- A call on a disk, as data: its error's number, and the disk behind it. -/
def ActPost (d : Nat) (va vb : Value) (r : Int × DS) (w : World) (e : Ending) (w' : World) : Prop :=
  e = .returned (if r.1 = 0 then .nilIface else errno r.1) ∧ ∃ va' vb', DiskIs w' d va' vb' r.2 ∧ Step (dfoot d va vb) w w' (dfoot d va' vb')
theorem ActPost.mk {d : Nat} {va vb va' vb' : Value} {r : Int × DS} {n : Int} {s : DS} {w w' : World} {v : Value} (hr : r = (n, s)) (hv : v = if n = 0 then .nilIface else errno n) (h : DiskIs w' d va' vb' s) (hst : Step (dfoot d va vb) w w' (dfoot d va' vb')) : ActPost d va vb r w (.returned v) w' := by
  subst hr; exact ⟨by rw [hv], va', vb', h, hst⟩
/-- One unit. -/
def DS.one (s : DS) (f : DS → DS) : Int × DS := if s.off then (150, s) else if s.fuse = 0 then (150, s.unitsS 1) else (0, f (s.unitsS 1))
def DS.sync (s : DS) (n : Int) : Int × DS := s.one fun t => t.setFile n (t.bytes n) (t.bytes n).length
def DS.erase (s : DS) (n : Int) : Int × DS := s.one fun t => t.setFile n [] 0
theorem unitsN_1 (s : DS) (h : -1 ≤ s.fuse) : (s.fuse = 0 → s.unitsN 1 = 0) ∧ (¬ s.fuse = 0 → s.unitsN 1 = 1) := by
  unfold DS.unitsN
  constructor
  · intro e; rw [if_neg (by omega), if_pos (by omega)]; omega
  · intro e; split
    · rfl
    · rw [if_neg (by omega)]
/-- A file's number of safe bytes stored anew. -/
theorem DiskIs.safe0 {w : World} {d : Nat} {va vb : Value} {s : DS} (h : DiskIs w d va vb s) (k : Nat) (hk : k ≤ s.b0.length) : DiskIs (w.setCell ⟨d, 1, none⟩ (.int .i64 k)) d va vb { s with s0 := k } ∧ Mod (fun k => k = d) w (w.setCell ⟨d, 1, none⟩ (.int .i64 k)) := by
  obtain ⟨T, hh⟩ := h.heap
  have hm : Mod (fun k => k = d) w (w.setCell ⟨d, 1, none⟩ (.int .i64 k)) := (Mod.refl _ w).setCell _ _ (.inl rfl)
  exact ⟨⟨⟨T, heap_setCell_same _ _ _ _ _ _ hh⟩, h.own0.mod hm (fun k hk e => h.ne0 (e ▸ hk)), h.own1.mod hm (fun k hk e => h.ne1 (e ▸ hk)), h.ne0, h.ne1, h.ne, ⟨hk, h.ok.safe1, h.ok.room0, h.ok.room1, h.ok.fuse0, h.ok.fuse1⟩⟩, hm⟩
theorem DiskIs.safe1 {w : World} {d : Nat} {va vb : Value} {s : DS} (h : DiskIs w d va vb s) (k : Nat) (hk : k ≤ s.b1.length) : DiskIs (w.setCell ⟨d, 3, none⟩ (.int .i64 k)) d va vb { s with s1 := k } ∧ Mod (fun k => k = d) w (w.setCell ⟨d, 3, none⟩ (.int .i64 k)) := by
  obtain ⟨T, hh⟩ := h.heap
  have hm : Mod (fun k => k = d) w (w.setCell ⟨d, 3, none⟩ (.int .i64 k)) := (Mod.refl _ w).setCell _ _ (.inl rfl)
  exact ⟨⟨⟨T, heap_setCell_same _ _ _ _ _ _ hh⟩, h.own0.mod hm (fun k hk e => h.ne0 (e ▸ hk)), h.own1.mod hm (fun k hk e => h.ne1 (e ▸ hk)), h.ne0, h.ne1, h.ne, ⟨h.ok.safe0, hk, h.ok.room0, h.ok.room1, h.ok.fuse0, h.ok.fuse1⟩⟩, hm⟩
theorem Step.of_mod {w w' : World} {d : Nat} {va vb : Value} (h : Mod (fun k => k = d) w w') : Step (dfoot d va vb) w w' (dfoot d va vb) := ⟨h.mono (fun x _ e => .inl e), fun _ e => .inl e⟩

theorem sync1_0 {w : World} {d : Nat} {va vb : Value} {s : DS} (h : DiskIs w d va vb s) : Calls Tryd.prog 37 #[.pointer (some ⟨d, 0, none⟩)] w
    fun e w' => e = .returned (.tuple #[]) ∧ DiskIs w' d va vb { s with s0 := s.b0.length } ∧ Mod (fun k => k = d) w w' := by
  have H := hid (h.safe0 s.b0.length (Nat.le_refl _))
  have hc := h.cells.1.1
  have hf := h.cells.2
  have hc1 := h.cells.1.2.1
  obtain ⟨a, c, rfl, _⟩ := reads_slice h.own0.reads
  clear h
  go_enter Tryd.func37, Tryd.ntmps37
  go_wp2
  go_end0
  exact ⟨rfl, H.out.1, H.out.2⟩
set_option maxHeartbeats 2000000 in
theorem syncS_0 {w : World} {d : Nat} {va vb : Value} {s : DS} (h : DiskIs w d va vb s) (hoff : s.off = false) (hf : ¬ s.fuse = 0) :
    Calls Tryd.prog 36 #[.pointer (some ⟨d, 0, none⟩), .int .i64 0, .func (Fn.func 37) #[] #[]] w (ActPost d va vb (s.sync 0) w) := by
  have H := hid h
  have HN := hid ((unitsN_1 s h.ok.fuse0).2 hf)
  have HS : Hid (s.sync 0 = (0, { s.unitsS 1 with s0 := (s.unitsS 1).b0.length })) := hid (by unfold DS.sync DS.one; rw [if_neg (by rw [hoff]; simp), if_neg hf]; rfl)
  clear h hf
  go_enter Tryd.func36, Tryd.ntmps36
  go_wp2_with (first
    | (go_at_call 33; refine (on_any H.out hoff 0 (by omega)).mono ?_; rintro e w' ⟨rfl, rfl⟩)
    | (go_at_call 35; refine (units_any H.out 1 (by omega)).mono ?_; rintro e w2 ⟨he, hd, hmm⟩; rw [HN.out] at he; subst he; have H2 := hid hd; have HM2 := hid hmm; clear hd hmm)
    | (go_at_call 37; refine (sync1_0 H2.out).mono ?_; rintro e w3 ⟨rfl, hd, hmm⟩; have H3 := hid hd; have HM3 := hid hmm; clear hd hmm))
  go_ret
  exact ActPost.mk HS.out rfl H3.out (Step.of_mod (HM2.out.trans HM3.out (fun _ e => .inl e)))
theorem sync1_1 {w : World} {d : Nat} {va vb : Value} {s : DS} (h : DiskIs w d va vb s) : Calls Tryd.prog 37 #[.pointer (some ⟨d, 2, none⟩)] w
    fun e w' => e = .returned (.tuple #[]) ∧ DiskIs w' d va vb { s with s1 := s.b1.length } ∧ Mod (fun k => k = d) w w' := by
  have H := hid (h.safe1 s.b1.length (Nat.le_refl _))
  have hc := h.cells.1.2.2.1
  have hf := h.cells.2
  have hc1 := h.cells.1.2.2.2.1
  obtain ⟨a, c, rfl, _⟩ := reads_slice h.own1.reads
  clear h
  go_enter Tryd.func37, Tryd.ntmps37
  go_wp2
  go_end0
  exact ⟨rfl, H.out.1, H.out.2⟩
set_option maxHeartbeats 2000000 in
theorem syncS_1 {w : World} {d : Nat} {va vb : Value} {s : DS} (h : DiskIs w d va vb s) (hoff : s.off = false) (hf : ¬ s.fuse = 0) :
    Calls Tryd.prog 36 #[.pointer (some ⟨d, 0, none⟩), .int .i64 1, .func (Fn.func 37) #[] #[]] w (ActPost d va vb (s.sync 1) w) := by
  have H := hid h
  have HN := hid ((unitsN_1 s h.ok.fuse0).2 hf)
  have HS : Hid (s.sync 1 = (0, { s.unitsS 1 with s1 := (s.unitsS 1).b1.length })) := hid (by unfold DS.sync DS.one; rw [if_neg (by rw [hoff]; simp), if_neg hf]; rfl)
  clear h hf
  go_enter Tryd.func36, Tryd.ntmps36
  go_wp2_with (first
    | (go_at_call 33; refine (on_any H.out hoff 1 (by omega)).mono ?_; rintro e w' ⟨rfl, rfl⟩)
    | (go_at_call 35; refine (units_any H.out 1 (by omega)).mono ?_; rintro e w2 ⟨he, hd, hmm⟩; rw [HN.out] at he; subst he; have H2 := hid hd; have HM2 := hid hmm; clear hd hmm)
    | (go_at_call 37; refine (sync1_1 H2.out).mono ?_; rintro e w3 ⟨rfl, hd, hmm⟩; have H3 := hid hd; have HM3 := hid hmm; clear hd hmm))
  go_ret
  exact ActPost.mk HS.out rfl H3.out (Step.of_mod (HM2.out.trans HM3.out (fun _ e => .inl e)))
/-- No unit is done. -/
def NoStep (r : Int × DS) (s : DS) : Prop := (s.off = true → r = (150, s)) ∧ (s.off = false → s.fuse = 0 → r = (150, s.unitsS 1))
theorem one_noStep (s : DS) (f : DS → DS) : NoStep (s.one f) s :=
  ⟨fun h => by unfold DS.one; rw [if_pos h], fun h1 h2 => by unfold DS.one; rw [if_neg (by rw [h1]; simp), if_pos h2]⟩
theorem step_off {w : World} {d : Nat} {va vb : Value} {s : DS} (h : DiskIs w d va vb s) (hoff : s.off = true) (n : Int) (hn : n = 0 ∨ n = 1) (v : Value) (r : Int × DS) (hr : NoStep r s) :
    Calls Tryd.prog 36 #[.pointer (some ⟨d, 0, none⟩), .int .i64 n, v] w (ActPost d va vb r w) := by
  have H := hid h
  have HR := hid (hr.1 hoff)
  clear h hr
  go_enter Tryd.func36, Tryd.ntmps36
  go_wp2_with (go_at_call 33; refine (on_off H.out hoff _ hn).mono ?_; rintro e w' ⟨rfl, rfl⟩)
  go_ret
  exact ActPost.mk HR.out rfl H.out (Step.refl _ _)
theorem step_out {w : World} {d : Nat} {va vb : Value} {s : DS} (h : DiskIs w d va vb s) (hoff : s.off = false) (hf : s.fuse = 0) (n : Int) (hn : n = 0 ∨ n = 1) (v : Value) (r : Int × DS) (hr : NoStep r s) :
    Calls Tryd.prog 36 #[.pointer (some ⟨d, 0, none⟩), .int .i64 n, v] w (ActPost d va vb r w) := by
  have H := hid h
  have HN := hid ((unitsN_1 s h.ok.fuse0).1 hf)
  have HR := hid (hr.2 hoff hf)
  clear h hr hf
  go_enter Tryd.func36, Tryd.ntmps36
  go_wp2_with (first
    | (go_at_call 33; refine (on_any H.out hoff n hn).mono ?_; rintro e w' ⟨rfl, rfl⟩)
    | (go_at_call 35; refine (units_any H.out 1 (by omega)).mono ?_; rintro e w2 ⟨he, hd, hmm⟩; rw [HN.out] at he; subst he; have H2 := hid hd; have HM2 := hid hmm; clear hd hmm))
  go_ret
  exact ActPost.mk HR.out rfl H2.out (Step.of_mod HM2.out)
theorem step_bad (d : Nat) (n : Int) (hn : ¬ (n = 0 ∨ n = 1)) (v : Value) (w : World) :
    Calls Tryd.prog 36 #[.pointer (some ⟨d, 0, none⟩), .int .i64 n, v] w fun e w' => e = .returned (errno 1) ∧ w = w' := by
  go_enter Tryd.func36, Tryd.ntmps36
  go_wp2_with (go_at_call 33; refine (on_bad _ _ hn _).mono ?_; rintro e w' ⟨rfl, rfl⟩)
  go_ret
  exact ⟨rfl, rfl⟩
theorem step_nil (n : Int) (v : Value) (w : World) :
    Calls Tryd.prog 36 #[.pointer none, .int .i64 n, v] w fun e w' => e = .returned (errno 3) ∧ w = w' := by
  go_enter Tryd.func36, Tryd.ntmps36
  go_wp2_with (go_at_call 33; refine (on_nil _ _).mono ?_; rintro e w' ⟨rfl, rfl⟩)
  go_ret
  exact ⟨rfl, rfl⟩
theorem ActPost.ret {d : Nat} {va vb : Value} {r : Int × DS} {w w' : World} {e : Ending} (h : ActPost d va vb r w e w') : ∃ v, e = .returned v ∧ ActPost d va vb r w (.returned v) w' := ⟨_, h.1, rfl, h.2⟩
theorem syncS_any {w : World} {d : Nat} {va vb : Value} {s : DS} (h : DiskIs w d va vb s) (n : Int) (hn : n = 0 ∨ n = 1) :
    Calls Tryd.prog 36 #[.pointer (some ⟨d, 0, none⟩), .int .i64 n, .func (Fn.func 37) #[] #[]] w (ActPost d va vb (s.sync n) w) := by
  by_cases hoff : s.off = true
  · exact step_off h hoff n hn _ _ (one_noStep s _)
  · have hoff' : s.off = false := by simpa using hoff
    by_cases hf : s.fuse = 0
    · exact step_out h hoff' hf n hn _ _ (one_noStep s _)
    · rcases hn with rfl | rfl
      · exact syncS_0 h hoff' hf
      · exact syncS_1 h hoff' hf
theorem sync_any {w : World} {d : Nat} {va vb : Value} {s : DS} (h : DiskIs w d va vb s) (n : Int) (hn : n = 0 ∨ n = 1) :
    Calls Tryd.prog 15 #[.pointer (some ⟨d, 0, none⟩), .int .i64 n] w (ActPost d va vb (s.sync n) w) := by
  have H := hid (syncS_any h n hn)
  clear h
  go_enter Tryd.func15, Tryd.ntmps15
  go_wp2_with (go_at_call 36; refine H.out.mono ?_; intro e w1 hp; obtain ⟨v, rfl, hp⟩ := hp.ret; have HP := hid hp; clear hp)
  go_ret
  exact HP.out
theorem sync_bad (d : Nat) (n : Int) (hn : ¬ (n = 0 ∨ n = 1)) (w : World) :
    Calls Tryd.prog 15 #[.pointer (some ⟨d, 0, none⟩), .int .i64 n] w fun e w' => e = .returned (errno 1) ∧ w = w' := by
  go_enter Tryd.func15, Tryd.ntmps15
  go_wp2_with (go_at_call 36; refine (step_bad d n hn _ _).mono ?_; rintro e w' ⟨rfl, rfl⟩)
  go_ret
  exact ⟨rfl, rfl⟩
theorem sync_nil (n : Int) (w : World) :
    Calls Tryd.prog 15 #[.pointer none, .int .i64 n] w fun e w' => e = .returned (errno 3) ∧ w = w' := by
  go_enter Tryd.func15, Tryd.ntmps15
  go_wp2_with (go_at_call 36; refine (step_nil n _ _).mono ?_; rintro e w' ⟨rfl, rfl⟩)
  go_ret
  exact ⟨rfl, rfl⟩
end Go.Proofs.YtdchpabcaoghpaaDoor

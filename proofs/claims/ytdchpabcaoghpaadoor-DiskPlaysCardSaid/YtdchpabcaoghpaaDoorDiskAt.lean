/-
  A disk as it lies in memory; its small functions by contract.
-/
import Derived.Test.YtdchpabcaoghpaaDoorFoot
import Derived.Test.YtdchpabcaoghpaaDoorBytes
import Derived.Test.YtdchpabcaoghpaaDoorProg
namespace Go.Proofs.YtdchpabcaoghpaaDoor
open Go.RowKit
set_option linter.unusedVariables false

/-- A disk, as data: two files (bytes, how many are safe), the room, the fuse, is the power off. -/
structure DS where
  b0 : List UInt8
  s0 : Nat
  b1 : List UInt8
  s1 : Nat
  room : Int
  fuse : Int
  off : Bool
/-- What always holds of it. -/
structure DS.Ok (s : DS) : Prop where
  safe0 : s.s0 ≤ s.b0.length
  safe1 : s.s1 ≤ s.b1.length
  room0 : (s.b0.length : Int) + s.b1.length ≤ s.room
  room1 : s.room ≤ 16777216
  fuse0 : -1 ≤ s.fuse
  fuse1 : s.fuse ≤ 9223372036854775807
/-- A slice that owns its bytes, by block and room. -/
def dfoot (d : Nat) (va vb : Value) : Nat → Prop := fun k => k = d ∨ va.ownBlock = some k ∨ vb.ownBlock = some k
structure DiskIs (w : World) (d : Nat) (va vb : Value) (s : DS) : Prop where
  heap : ∃ T, w.heap[d]? = some (.cells #[va, .int .i64 s.s0, vb, .int .i64 s.s1, .int .i64 s.room, .int .i64 s.fuse, .bool s.off] T (0, 0))
  own0 : OwnB w 0 5 va s.b0
  own1 : OwnB w 0 5 vb s.b1
  ne0 : va.ownBlock ≠ some d
  ne1 : vb.ownBlock ≠ some d
  ne : ∀ k, va.ownBlock = some k → vb.ownBlock ≠ some k
  ok : s.Ok
/-- A disk behind a pointer, in the blocks F. -/
def DiskAt (w : World) (F : Nat → Prop) (v : Value) (s : DS) : Prop := ∃ d va vb, v = .pointer (some ⟨d, 0, none⟩) ∧ F = dfoot d va vb ∧ DiskIs w d va vb s

theorem DiskIs.cells {w : World} {d : Nat} {va vb : Value} {s : DS} (h : DiskIs w d va vb s) :
    (w.cell? ⟨d, 0, none⟩ = some va ∧ w.cell? ⟨d, 1, none⟩ = some (.int .i64 s.s0) ∧ w.cell? ⟨d, 2, none⟩ = some vb ∧ w.cell? ⟨d, 3, none⟩ = some (.int .i64 s.s1) ∧
    w.cell? ⟨d, 4, none⟩ = some (.int .i64 s.room) ∧ w.cell? ⟨d, 5, none⟩ = some (.int .i64 s.fuse) ∧ w.cell? ⟨d, 6, none⟩ = some (.bool s.off)) ∧ ∀ k, w.frozen? ⟨d, k, none⟩ = false := by
  obtain ⟨T, h⟩ := h.heap
  simp [World.cell?, World.frozen?, h]
theorem DiskIs.lt {w : World} {d : Nat} {va vb : Value} {s : DS} (h : DiskIs w d va vb s) : ∀ k, dfoot d va vb k → k < w.heap.size := by
  intro k hk
  rcases hk with rfl | hk | hk
  · obtain ⟨T, h⟩ := h.heap; exact lt_of_heap h
  · exact (h.own0.lt hk).2
  · exact (h.own1.lt hk).2
theorem OwnB.mod {S : Nat → Prop} {w w' : World} {base : Nat} {e : TypeId} {v : Value} {l : List UInt8} (h : OwnB w base e v l) (hm : Mod S w w') (hn : ∀ k, v.ownBlock = some k → ¬ S k) : OwnB w' base e v l := by
  obtain ⟨h1, h2⟩ := h
  refine ⟨h1, ?_⟩
  rcases h2 with h2 | ⟨g, cap, cur, hv, hg, hh, r⟩
  · exact .inl h2
  · exact .inr ⟨g, cap, cur, hv, hg, hm.heap hh (hn g (by rw [hv]; rfl)), r⟩
theorem DiskIs.mod {S : Nat → Prop} {w w' : World} {d : Nat} {va vb : Value} {s : DS} (h : DiskIs w d va vb s) (hm : Mod S w w') (hn : ∀ k, dfoot d va vb k → ¬ S k) : DiskIs w' d va vb s := by
  obtain ⟨T, hh⟩ := h.heap
  exact ⟨⟨T, hm.heap hh (hn d (.inl rfl))⟩, h.own0.mod hm (fun k hk => hn k (.inr (.inl hk))), h.own1.mod hm (fun k hk => hn k (.inr (.inr hk))), h.ne0, h.ne1, h.ne, h.ok⟩
theorem DiskAt.mod {S F : Nat → Prop} {w w' : World} {v : Value} {s : DS} (h : DiskAt w F v s) (hm : Mod S w w') (hn : ∀ k, F k → ¬ S k) : DiskAt w' F v s := by
  obtain ⟨d, va, vb, hv, rfl, h⟩ := h
  exact ⟨d, va, vb, hv, rfl, h.mod hm hn⟩
theorem DiskAt.lt {F : Nat → Prop} {w : World} {v : Value} {s : DS} (h : DiskAt w F v s) : ∀ k, F k → k < w.heap.size := by
  obtain ⟨d, va, vb, hv, rfl, h⟩ := h; exact h.lt
theorem DiskAt.new {F : Nat → Prop} {w w' : World} {v : Value} {s : DS} (h : DiskAt w F v s) (hb : Below w.heap.size w w') : DiskAt w' F v s :=
  h.mod (Mod.new hb (fun _ => False)) (fun _ _ e => e)

theorem at_any (d : Nat) (n : Int) (hn : n = 0 ∨ n = 1) (w : World) : Calls Tryd.prog 40 #[.pointer (some ⟨d, 0, none⟩), .int .i64 n] w
    fun e w' => e = .returned (.tuple #[.pointer (some ⟨d, 2 * n.toNat, none⟩), .nilIface]) ∧ w = w' := by
  rcases hn with rfl | rfl
  all_goals
    go_enter Tryd.func40, Tryd.ntmps40
    go_wp2
    go_ret2
    exact ⟨rfl, rfl⟩
theorem at_bad (d : Nat) (n : Int) (hn : ¬ (n = 0 ∨ n = 1)) (w : World) : Calls Tryd.prog 40 #[.pointer (some ⟨d, 0, none⟩), .int .i64 n] w
    fun e w' => e = .returned (.tuple #[.pointer none, .iface 52 (.int .i64 1)]) ∧ w = w' := by
  have h : n < 0 ∨ 1 < n := by omega
  rcases h with h | h
  all_goals
    go_enter Tryd.func40, Tryd.ntmps40
    go_wp2
    go_ret2
    exact ⟨rfl, rfl⟩
theorem at_nil (n : Int) (w : World) : Calls Tryd.prog 40 #[.pointer none, .int .i64 n] w
    fun e w' => e = .returned (.tuple #[.pointer none, .iface 52 (.int .i64 3)]) ∧ w = w' := by
  go_enter Tryd.func40, Tryd.ntmps40
  go_wp2
  go_ret2
  exact ⟨rfl, rfl⟩

theorem new_any (room : Int) (h0 : 0 ≤ room) (h1 : room ≤ 16777216) (w : World) : Calls Tryd.prog 7 #[.int .i64 room] w
    fun e w' => ∃ v F, e = .returned (.tuple #[v, .nilIface]) ∧ DiskAt w' F v ⟨[], 0, [], 0, room, -1, false⟩ ∧ Below w.heap.size w w' ∧ ∀ k, F k → w.heap.size ≤ k := by
  have t1 : decide (room < 0) = false := decide_eq_false (by omega)
  have t2 : decide ((16777216 : Int) < room) = false := decide_eq_false (by omega)
  go_enter Tryd.func7, Tryd.ntmps7
  go_wp2
  go_ret2
  refine ⟨_, _, rfl, ⟨w.heap.size, .slice none 0 0, .slice none 0 0, rfl, rfl, ⟨⟨_, heap_alloc_new w _⟩, OwnB.nil _ _ _, OwnB.nil _ _ _, by simp [Value.ownBlock], by simp [Value.ownBlock], by simp [Value.ownBlock], ⟨by simp, by simp, by simp; omega, h1, by simp, by simp⟩⟩⟩, (Below.refl _ _).alloc (Nat.le_refl _) _, ?_⟩
  intro k hk
  rcases hk with rfl | hk | hk
  · exact Nat.le_refl _
  · simp [Value.ownBlock] at hk
  · simp [Value.ownBlock] at hk

/-- A file with the power on. -/
theorem on_any {w : World} {d : Nat} {va vb : Value} {s : DS} (h : DiskIs w d va vb s) (hoff : s.off = false) (n : Int) (hn : n = 0 ∨ n = 1) :
    Calls Tryd.prog 33 #[.pointer (some ⟨d, 0, none⟩), .int .i64 n] w
    fun e w' => e = .returned (.tuple #[.pointer (some ⟨d, 2 * n.toNat, none⟩), .nilIface]) ∧ w = w' := by
  have h6 := h.cells.1.2.2.2.2.2.2
  rw [hoff] at h6
  clear h
  go_enter Tryd.func33, Tryd.ntmps33
  go_wp2_with (go_at_call 40; refine (at_any _ _ hn _).mono ?_; rintro e w' ⟨rfl, rfl⟩)
  go_ret2
  exact ⟨rfl, rfl⟩
theorem on_off {w : World} {d : Nat} {va vb : Value} {s : DS} (h : DiskIs w d va vb s) (hoff : s.off = true) (n : Int) (hn : n = 0 ∨ n = 1) :
    Calls Tryd.prog 33 #[.pointer (some ⟨d, 0, none⟩), .int .i64 n] w
    fun e w' => e = .returned (.tuple #[.pointer (some ⟨d, 2 * n.toNat, none⟩), .iface 52 (.int .i64 150)]) ∧ w = w' := by
  have h6 := h.cells.1.2.2.2.2.2.2
  rw [hoff] at h6
  clear h
  go_enter Tryd.func33, Tryd.ntmps33
  go_wp2_with (go_at_call 40; refine (at_any _ _ hn _).mono ?_; rintro e w' ⟨rfl, rfl⟩)
  go_ret2
  exact ⟨rfl, rfl⟩
theorem on_bad (d : Nat) (n : Int) (hn : ¬ (n = 0 ∨ n = 1)) (w : World) : Calls Tryd.prog 33 #[.pointer (some ⟨d, 0, none⟩), .int .i64 n] w
    fun e w' => e = .returned (.tuple #[.pointer none, .iface 52 (.int .i64 1)]) ∧ w = w' := by
  go_enter Tryd.func33, Tryd.ntmps33
  go_wp2_with (go_at_call 40; refine (at_bad _ _ hn _).mono ?_; rintro e w' ⟨rfl, rfl⟩)
  go_ret2
  exact ⟨rfl, rfl⟩
theorem on_nil (n : Int) (w : World) : Calls Tryd.prog 33 #[.pointer none, .int .i64 n] w
    fun e w' => e = .returned (.tuple #[.pointer none, .iface 52 (.int .i64 3)]) ∧ w = w' := by
  go_enter Tryd.func33, Tryd.ntmps33
  go_wp2_with (go_at_call 40; refine (at_nil _ _).mono ?_; rintro e w' ⟨rfl, rfl⟩)
  go_ret2
  exact ⟨rfl, rfl⟩

/-- How many of n units are done, and what is left of the fuse. -/
def DS.unitsN (s : DS) (n : Nat) : Nat := if s.fuse < 0 then n else if s.fuse < n then s.fuse.toNat else n
def DS.unitsS (s : DS) (n : Nat) : DS := if s.fuse < 0 then s else if s.fuse < n then { s with fuse := 0, off := true } else { s with fuse := s.fuse - n }
theorem unitsN_le (s : DS) (n : Nat) : s.unitsN n ≤ n := by unfold DS.unitsN; split; omega; split <;> omega
theorem DiskIs.setFO {w : World} {d : Nat} {va vb : Value} {s : DS} (h : DiskIs w d va vb s) {w' : World} (f : Int) (o : Bool) (hf : -1 ≤ f ∧ f ≤ 9223372036854775807)
    (hw : ∃ T, w'.heap[d]? = some (.cells #[va, .int .i64 s.s0, vb, .int .i64 s.s1, .int .i64 s.room, .int .i64 f, .bool o] T (0, 0))) (hm : Mod (fun k => k = d) w w') : DiskIs w' d va vb { s with fuse := f, off := o } :=
  ⟨hw, h.own0.mod hm (fun k hk e => h.ne0 (e ▸ hk)), h.own1.mod hm (fun k hk e => h.ne1 (e ▸ hk)), h.ne0, h.ne1, h.ne, ⟨h.ok.safe0, h.ok.safe1, h.ok.room0, h.ok.room1, hf.1, hf.2⟩⟩
def UnitsPost (d : Nat) (va vb : Value) (s : DS) (n : Nat) (w : World) (e : Ending) (w' : World) : Prop := e = .returned (.int .i64 (s.unitsN n)) ∧ DiskIs w' d va vb (s.unitsS n) ∧ Mod (fun k => k = d) w w'
theorem UnitsPost.mk {d : Nat} {va vb : Value} {s : DS} {n : Nat} {w w' : World} {m : Int} (h1 : s.unitsN n = m) (h2 : DiskIs w' d va vb (s.unitsS n)) (h3 : Mod (fun k => k = d) w w') : UnitsPost d va vb s n w (.returned (.int .i64 m)) w' := ⟨by rw [h1], h2, h3⟩
theorem units_any {w : World} {d : Nat} {va vb : Value} {s : DS} (h : DiskIs w d va vb s) (n : Nat) (hn : n ≤ 1099511627776) :
    Calls Tryd.prog 35 #[.pointer (some ⟨d, 0, none⟩), .int .i64 n] w
    (UnitsPost d va vb s n w) := by
  have H := hid h
  obtain ⟨T, hT⟩ := h.heap
  have HT := hid hT
  have h5 := h.cells.1.2.2.2.2.2.1
  have h6 := h.cells.1.2.2.2.2.2.2
  have hfz := h.cells.2
  have hf0 := h.ok.fuse0
  have hf1 := h.ok.fuse1
  clear h hT
  by_cases c1 : s.fuse < 0
  · go_enter Tryd.func35, Tryd.ntmps35
    go_wp2
    go_ret
    refine UnitsPost.mk (by unfold DS.unitsN; rw [if_pos c1]) ?_ (Mod.refl _ _)
    unfold DS.unitsS; rw [if_pos c1]; exact H.out
  · by_cases c2 : s.fuse < n
    · have t2 : decide (s.fuse < (n : Int)) = true := decide_eq_true c2
      go_enter Tryd.func35, Tryd.ntmps35
      go_wp2
      go_ret
      have hm : Mod (fun k => k = d) w ((w.setCell ⟨d, 6, none⟩ (.bool true)).setCell ⟨d, 5, none⟩ (.int .i64 0)) := ((Mod.refl (fun k => k = d) w).setCell ⟨d, 6, none⟩ _ (.inl rfl)).setCell ⟨d, 5, none⟩ _ (.inl rfl)
      refine UnitsPost.mk (by unfold DS.unitsN; rw [if_neg (by omega), if_pos c2]; omega) ?_ hm
      unfold DS.unitsS; rw [if_neg (by omega), if_pos c2]
      exact H.out.setFO 0 true (by omega) ⟨T, heap_setCell_same _ _ _ _ _ _ (heap_setCell_same _ _ _ _ _ _ HT.out)⟩ hm
    · have t2 : decide (s.fuse < (n : Int)) = false := decide_eq_false c2
      go_enter Tryd.func35, Tryd.ntmps35
      go_wp2
      go_ret
      have hm : Mod (fun k => k = d) w (w.setCell ⟨d, 5, none⟩ (.int .i64 (s.fuse - n))) := (Mod.refl _ w).setCell _ _ (.inl rfl)
      refine UnitsPost.mk (by unfold DS.unitsN; rw [if_neg (by omega), if_neg (by omega)]) ?_ hm
      unfold DS.unitsS; rw [if_neg (by omega), if_neg (by omega)]
      exact H.out.setFO (s.fuse - n) s.off (by omega) ⟨T, heap_setCell_same _ _ _ _ _ _ HT.out⟩ hm

theorem reads_slice {w : World} {v : Value} {l : List UInt8} (h : ReadsB w v l) : ∃ a cap, v = .slice a l.length cap ∧ l.length ≤ cap := by
  rcases h with ⟨rfl, rfl⟩ | ⟨b, o, cap, rfl, hc, _⟩
  · exact ⟨_, _, rfl, Nat.le_refl _⟩
  · exact ⟨_, _, rfl, hc⟩
def SameInt (n : Int) (w : World) (e : Ending) (w' : World) : Prop := e = .returned (.int .i64 n) ∧ w = w'
def IntPost (n : Int) (w : World) (e : Ending) (w' : World) : Prop := e = .returned (.int .i64 n) ∧ Below w.heap.size w w'
theorem IntPost.mk {n m : Int} {w w' : World} (h : n = m) (hb : Below w.heap.size w w') : IntPost n w (.returned (.int .i64 m)) w' := ⟨by rw [h], hb⟩
theorem SameInt.mk {n m : Int} {w : World} (h : n = m) : SameInt n w (.returned (.int .i64 m)) w := ⟨by rw [h], rfl⟩
theorem used_any {w : World} {d : Nat} {va vb : Value} {s : DS} (h : DiskIs w d va vb s) : Calls Tryd.prog 22 #[.pointer (some ⟨d, 0, none⟩)] w (IntPost ((s.b0.length : Int) + s.b1.length) w) := by
  have h0 := h.cells.1.1
  have h2 := h.cells.1.2.2.1
  obtain ⟨a0, c0, rfl, _⟩ := reads_slice h.own0.reads
  obtain ⟨a1, c1, rfl, _⟩ := reads_slice h.own1.reads
  have k1 := h.ok.room0
  have k2 := h.ok.room1
  clear h
  go_enter Tryd.func22, Tryd.ntmps22
  go_wp2
  go_region
  all_goals go_wp2
  all_goals
    go_ret
    exact IntPost.mk (by omega) (Below.drew (Below.refl _ _))
theorem used_nil (w : World) : Calls Tryd.prog 22 #[.pointer none] w (SameInt 0 w) := by
  go_enter Tryd.func22, Tryd.ntmps22
  go_wp2
  go_ret
  exact SameInt.mk (by omega)
def DS.safe (s : DS) (n : Int) : Nat := if n = 0 then s.s0 else s.s1
def DS.bytes (s : DS) (n : Int) : List UInt8 := if n = 0 then s.b0 else s.b1
theorem safe_any {w : World} {d : Nat} {va vb : Value} {s : DS} (h : DiskIs w d va vb s) (n : Int) (hn : n = 0 ∨ n = 1) : Calls Tryd.prog 23 #[.pointer (some ⟨d, 0, none⟩), .int .i64 n] w (SameInt (s.safe n) w) := by
  have h1 := h.cells.1.2.1
  have h3 := h.cells.1.2.2.2.1
  clear h
  rcases hn with rfl | rfl
  all_goals
    go_enter Tryd.func23, Tryd.ntmps23
    go_wp2_with (go_at_call 40; refine (at_any _ _ (by omega) _).mono ?_; rintro e w' ⟨rfl, rfl⟩)
    go_ret
    exact SameInt.mk rfl
theorem fuse_any {w : World} {d : Nat} {va vb : Value} {s : DS} (h : DiskIs w d va vb s) (n : Int) (hn : 0 ≤ n) (hn1 : n ≤ 9223372036854775807) : Calls Tryd.prog 18 #[.pointer (some ⟨d, 0, none⟩), .int .i64 n] w
    fun e w' => e = .returned .nilIface ∧ DiskIs w' d va vb { s with fuse := n } ∧ Mod (fun k => k = d) w w' := by
  have H := hid h
  obtain ⟨T, hT⟩ := h.heap
  have HT := hid hT
  have hfz := h.cells.2
  have h5 := h.cells.1.2.2.2.2.2.1
  clear h hT
  go_enter Tryd.func18, Tryd.ntmps18
  go_wp2
  go_ret
  have hm : Mod (fun k => k = d) w (w.setCell ⟨d, 5, none⟩ (.int .i64 n)) := (Mod.refl _ w).setCell _ _ (.inl rfl)
  exact ⟨rfl, H.out.setFO n s.off (by omega) ⟨T, heap_setCell_same _ _ _ _ _ _ HT.out⟩ hm, hm⟩
end Go.Proofs.YtdchpabcaoghpaaDoor

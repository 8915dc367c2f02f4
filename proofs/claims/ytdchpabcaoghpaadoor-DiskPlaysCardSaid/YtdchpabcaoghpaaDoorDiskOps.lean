/-
  The disk's calls by contract: Read, Write, Sync, Erase, Cut.
-/
import Derived.Test.YtdchpabcaoghpaaDoorDiskAt
import Derived.Test.YtdchpabcaoghpaaDoorClone
import Derived.Deep.RegionWith
import Derived.Deep.RegionLaw
namespace Go.Proofs.YtdchpabcaoghpaaDoor
open Go.RowKit
set_option linter.unusedVariables false

/-- A call that answers bytes and an error. -/
def ReadPost (l : List UInt8) (er : Value) (w : World) (e : Ending) (w' : World) : Prop := ∃ v, e = .returned (.tuple #[v, er]) ∧ OwnB w' w.heap.size 5 v l ∧ Below w.heap.size w w'
theorem ReadPost.mk {l : List UInt8} {w w' : World} {v er : Value} (h : OwnB w' w.heap.size 5 v l) (hb : Below w.heap.size w w') : ReadPost l er w (.returned (.tuple #[v, er])) w' := ⟨v, rfl, h, hb⟩
abbrev errno (n : Int) : Value := .iface 52 (.int .i64 n)

theorem read_any {w : World} {d : Nat} {va vb : Value} {s : DS} (h : DiskIs w d va vb s) (hoff : s.off = false) (n : Int) (hn : n = 0 ∨ n = 1) :
    Calls Tryd.prog 13 #[.pointer (some ⟨d, 0, none⟩), .int .i64 n] w (ReadPost (s.bytes n) .nilIface w) := by
  have H := hid h
  have h0 := h.cells.1.1
  have h2 := h.cells.1.2.2.1
  have hl : s.b0.length ≤ 1099511627776 ∧ s.b1.length ≤ 1099511627776 := by have := h.ok.room0; have := h.ok.room1; omega
  have HL := hid hl
  have R0 := hid h.own0.reads
  have R1 := hid h.own1.reads
  clear h hl
  rcases hn with rfl | rfl
  · go_enter Tryd.func13, Tryd.ntmps13
    go_wp2_with (first
      | (go_at_call 33; refine (on_any H.out hoff 0 (.inl rfl)).mono ?_; rintro e w' ⟨rfl, rfl⟩)
      | (go_at_call 34; refine (clone_any va s.b0 _ R0.out HL.out.1).mono ?_; rintro e w' ⟨v, rfl, ho, hb⟩; have HO := hid ho; have HB := hid hb; clear ho hb))
    go_ret2
    exact ReadPost.mk HO.out HB.out
  · go_enter Tryd.func13, Tryd.ntmps13
    go_wp2_with (first
      | (go_at_call 33; refine (on_any H.out hoff 1 (.inr rfl)).mono ?_; rintro e w' ⟨rfl, rfl⟩)
      | (go_at_call 34; refine (clone_any vb s.b1 _ R1.out HL.out.2).mono ?_; rintro e w' ⟨v, rfl, ho, hb⟩; have HO := hid ho; have HB := hid hb; clear ho hb))
    go_ret2
    exact ReadPost.mk HO.out HB.out
theorem read_off {w : World} {d : Nat} {va vb : Value} {s : DS} (h : DiskIs w d va vb s) (hoff : s.off = true) (n : Int) (hn : n = 0 ∨ n = 1) :
    Calls Tryd.prog 13 #[.pointer (some ⟨d, 0, none⟩), .int .i64 n] w (ReadPost [] (errno 150) w) := by
  have H := hid h
  clear h
  go_enter Tryd.func13, Tryd.ntmps13
  go_wp2_with (go_at_call 33; refine (on_off H.out hoff _ hn).mono ?_; rintro e w' ⟨rfl, rfl⟩)
  go_ret2
  exact ReadPost.mk (OwnB.nil _ _ _) (Below.refl _ _)
theorem read_bad (d : Nat) (n : Int) (hn : ¬ (n = 0 ∨ n = 1)) (w : World) :
    Calls Tryd.prog 13 #[.pointer (some ⟨d, 0, none⟩), .int .i64 n] w (ReadPost [] (errno 1) w) := by
  go_enter Tryd.func13, Tryd.ntmps13
  go_wp2_with (go_at_call 33; refine (on_bad _ _ hn _).mono ?_; rintro e w' ⟨rfl, rfl⟩)
  go_ret2
  exact ReadPost.mk (OwnB.nil _ _ _) (Below.refl _ _)
theorem read_nil (n : Int) (w : World) :
    Calls Tryd.prog 13 #[.pointer none, .int .i64 n] w (ReadPost [] (errno 3) w) := by
  go_enter Tryd.func13, Tryd.ntmps13
  go_wp2_with (go_at_call 33; refine (on_nil _ _).mono ?_; rintro e w' ⟨rfl, rfl⟩)
  go_ret2
  exact ReadPost.mk (OwnB.nil _ _ _) (Below.refl _ _)

/-- One file's bytes and safe number anew. -/
def DS.setFile (s : DS) (n : Int) (b : List UInt8) (k : Nat) : DS := if n = 0 then { s with b0 := b, s0 := k } else { s with b1 := b, s1 := k }
def DS.used (s : DS) : Nat := s.b0.length + s.b1.length
/-- Write, as data: the error's number and the disk behind. -/
def DS.write (s : DS) (n : Int) (m : List UInt8) : Int × DS :=
  if s.off then (150, s) else if s.room - s.used < m.length then (151, s)
  else (if s.unitsN m.length < m.length then 150 else 0, (s.unitsS m.length).setFile n (s.bytes n ++ m.take (s.unitsN m.length)) (s.safe n))
/-- A cut of bytes that read. -/
theorem ReadsB.take {w : World} {b o len cap : Nat} {l : List UInt8} (h : ReadsB w (.slice (some ⟨b, o, none⟩) len cap) l) (k : Nat) (hk : k ≤ l.length) : ReadsB w (.slice (some ⟨b, o, none⟩) k cap) (l.take k) := by
  rcases h with ⟨h, _⟩ | ⟨b', o', cap', hv, hc, hcell⟩
  · cases h
  · cases hv
    refine .inr ⟨b, o, cap, by rw [List.length_take, Nat.min_eq_left hk], by rw [List.length_take]; omega, fun i hi => ?_⟩
    rw [List.length_take] at hi
    rw [hcell i (by omega)]
    simp [List.getD, show i < k by omega]
def WritePost (d : Nat) (va vb : Value) (s : DS) (n : Int) (m : List UInt8) (w : World) (e : Ending) (w' : World) : Prop :=
  e = .returned (if (s.write n m).1 = 0 then .nilIface else errno (s.write n m).1) ∧ ∃ va' vb', DiskIs w' d va' vb' (s.write n m).2 ∧ Step (dfoot d va vb) w w' (dfoot d va' vb')

theorem ReadsB.mod {S : Nat → Prop} {w w' : World} {v : Value} {l : List UInt8} (h : ReadsB w v l) (hm : Mod S w w') (hn : ∀ k, v.ownBlock = some k → ¬ S k ∨ l = []) : ReadsB w' v l := by
  rcases h with h | ⟨b, o, cap, rfl, hc, hcell⟩
  · exact .inl h
  · refine .inr ⟨b, o, cap, rfl, hc, fun i hi => ?_⟩
    rcases hn b rfl with h1 | rfl
    · exact hm.cell (hcell i hi) h1
    · simp at hi
/-- Bytes don't lie in a disk's own block. -/
theorem DiskIs.apart {w : World} {d : Nat} {va vb : Value} {s : DS} (h : DiskIs w d va vb s) {v : Value} {l : List UInt8} (hr : ReadsB w v l) : ∀ k, v.ownBlock = some k → ¬ k = d ∨ l = [] := by
  intro k hk
  rcases hr with ⟨rfl, rfl⟩ | ⟨b, o, cap, rfl, hc, hcell⟩
  · exact .inr rfl
  · obtain rfl : b = k := by simpa [Value.ownBlock] using hk
    by_cases hl : l = []
    · exact .inr hl
    · refine .inl (fun e => ?_)
      subst e
      have hlt : 0 < l.length := List.length_pos_iff.2 hl
      have h0 := hcell 0 hlt
      obtain ⟨T, hh⟩ := h.heap
      simp only [World.cell?, hh, Nat.add_zero] at h0
      obtain ⟨a0, c0, hva, _⟩ := reads_slice h.own0.reads
      obtain ⟨a1, c1, hvb, _⟩ := reads_slice h.own1.reads
      subst hva hvb
      rcases o with _ | _ | _ | _ | _ | _ | _ | o <;> simp [cellOf] at h0
theorem unitsS_same (s : DS) (n : Nat) : (s.unitsS n).b0 = s.b0 ∧ (s.unitsS n).b1 = s.b1 ∧ (s.unitsS n).s0 = s.s0 ∧ (s.unitsS n).s1 = s.s1 ∧ (s.unitsS n).room = s.room := by
  unfold DS.unitsS; split <;> (try split) <;> exact ⟨rfl, rfl, rfl, rfl, rfl⟩
theorem DiskIs.drew {w : World} {d : Nat} {va vb : Value} {s : DS} (h : DiskIs w d va vb s) : DiskIs w.drew d va vb s := h.mod (Mod.drew (Mod.refl (fun _ => False) w)) (fun _ _ e => e)
/-- A file's bytes stored anew behind an append. -/
theorem DiskIs.put0 {w w' : World} {d : Nat} {va vb v' : Value} {s : DS} (h : DiskIs w d va vb s) (hg : w.grownBy w' va.ownBlock) {l : List UInt8} (ho : OwnB w' 0 5 v' l) (hbk : v'.ownBlock = va.ownBlock ∨ v'.ownBlock = some w.heap.size)
    (k : Nat) (hs : s.s0 ≤ l.length) (hr : (l.length : Int) + s.b1.length ≤ s.room) : DiskIs (w'.setCell ⟨d, 0, none⟩ v') d v' vb { s with b0 := l } ∧ Step (dfoot d va vb) w (w'.setCell ⟨d, 0, none⟩ v') (dfoot d v' vb) := by
  obtain ⟨T, hh⟩ := h.heap
  have hd := lt_of_heap hh
  have hh' : w'.heap[d]? = some _ := (hg.block d hd (fun e => h.ne0 e.symm)).trans hh
  have hv : ∀ k, v'.ownBlock = some k → va.ownBlock = some k ∨ k = w.heap.size := by
    intro k hk
    rcases hbk with e | e
    · exact .inl (e ▸ hk)
    · right; rw [e] at hk; exact (Option.some.inj hk).symm
  have hnd : v'.ownBlock ≠ some d := by
    intro e
    rcases hv d e with e | e
    · exact h.ne0 e
    · omega
  have hoth : ∀ k, vb.ownBlock = some k → k < w.heap.size ∧ ¬ va.ownBlock = some k := by
    intro k hk
    refine ⟨(h.own1.lt hk).2, fun e => ?_⟩
    exact h.ne k e hk
  have hm : Mod (dfoot d va vb) w (w'.setCell ⟨d, 0, none⟩ v') := ((Mod.refl (dfoot d va vb) w).grown hg (fun k hk => .inl (.inr (.inl hk)))).setCell _ _ (.inl (.inl rfl))
  refine ⟨⟨⟨T, heap_setCell_same _ _ _ _ _ _ hh'⟩, ?_, ?_, ?_, ?_, ?_, ?_⟩, hm, ?_⟩
  · exact ownsRow_setCell_other ho (fun e => hnd (by simpa using e)) _
  · exact ownsRow_setCell_other (h.own1.kept hg (by cases e : vb.ownBlock with | none => exact .inl rfl | some k => exact .inr (fun e2 => (hoth k e).2 e2.symm))) (fun e => h.ne1 (by simpa using e)) _
  · exact hnd
  · exact h.ne1
  · intro k hk e
    have := hoth k e
    rcases hv k hk with e2 | e2
    · exact this.2 e2
    · omega
  · exact ⟨hs, h.ok.safe1, hr, h.ok.room1, h.ok.fuse0, h.ok.fuse1⟩
  · intro k hk
    rcases hk with e | e | e
    · exact .inl (.inl e)
    · rcases hv k e with e2 | e2
      · exact .inl (.inr (.inl e2))
      · exact .inr (by omega)
    · exact .inl (.inr (.inr e))
/-- A file's bytes stored anew behind an append. -/
theorem DiskIs.put1 {w w' : World} {d : Nat} {va vb v' : Value} {s : DS} (h : DiskIs w d va vb s) (hg : w.grownBy w' vb.ownBlock) {l : List UInt8} (ho : OwnB w' 0 5 v' l) (hbk : v'.ownBlock = vb.ownBlock ∨ v'.ownBlock = some w.heap.size)
    (k : Nat) (hs : s.s1 ≤ l.length) (hr : (l.length : Int) + s.b0.length ≤ s.room) : DiskIs (w'.setCell ⟨d, 2, none⟩ v') d va v' { s with b1 := l } ∧ Step (dfoot d va vb) w (w'.setCell ⟨d, 2, none⟩ v') (dfoot d va v') := by
  obtain ⟨T, hh⟩ := h.heap
  have hd := lt_of_heap hh
  have hh' : w'.heap[d]? = some _ := (hg.block d hd (fun e => h.ne1 e.symm)).trans hh
  have hv : ∀ k, v'.ownBlock = some k → vb.ownBlock = some k ∨ k = w.heap.size := by
    intro k hk
    rcases hbk with e | e
    · exact .inl (e ▸ hk)
    · right; rw [e] at hk; exact (Option.some.inj hk).symm
  have hnd : v'.ownBlock ≠ some d := by
    intro e
    rcases hv d e with e | e
    · exact h.ne1 e
    · omega
  have hoth : ∀ k, va.ownBlock = some k → k < w.heap.size ∧ ¬ vb.ownBlock = some k := by
    intro k hk
    refine ⟨(h.own0.lt hk).2, fun e => ?_⟩
    exact h.ne k hk e
  have hm : Mod (dfoot d va vb) w (w'.setCell ⟨d, 2, none⟩ v') := ((Mod.refl (dfoot d va vb) w).grown hg (fun k hk => .inl (.inr (.inr hk)))).setCell _ _ (.inl (.inl rfl))
  refine ⟨⟨⟨T, heap_setCell_same _ _ _ _ _ _ hh'⟩, ?_, ?_, ?_, ?_, ?_, ?_⟩, hm, ?_⟩
  · exact ownsRow_setCell_other (h.own0.kept hg (by cases e : va.ownBlock with | none => exact .inl rfl | some k => exact .inr (fun e2 => (hoth k e).2 e2.symm))) (fun e => h.ne0 (by simpa using e)) _
  · exact ownsRow_setCell_other ho (fun e => hnd (by simpa using e)) _
  · exact h.ne0
  · exact hnd
  · intro k hk e
    have := hoth k hk
    rcases hv k e with e2 | e2
    · exact this.2 e2
    · omega
  · exact ⟨h.ok.safe0, hs, by have := hr; simp only; omega, h.ok.room1, h.ok.fuse0, h.ok.fuse1⟩
  · intro k hk
    rcases hk with e | e | e
    · exact .inl (.inl e)
    · exact .inl (.inr (.inl e))
    · rcases hv k e with e2 | e2
      · exact .inl (.inr (.inr e2))
      · exact .inr (by omega)
theorem write_eq0 (s : DS) (m : List UInt8) (k : Nat) (hoff : s.off = false) (hroom : ¬ s.room - s.used < m.length) (hk : s.unitsN m.length = k) : s.write 0 m = (if k < m.length then 150 else 0, { s.unitsS m.length with b0 := s.b0 ++ m.take k }) := by
  unfold DS.write; rw [if_neg (by rw [hoff]; simp), if_neg hroom, hk]
  have h := (unitsS_same s m.length).2.2.1
  simp [DS.setFile, DS.safe, DS.bytes, ← h]
theorem write_eq1 (s : DS) (m : List UInt8) (k : Nat) (hoff : s.off = false) (hroom : ¬ s.room - s.used < m.length) (hk : s.unitsN m.length = k) : s.write 1 m = (if k < m.length then 150 else 0, { s.unitsS m.length with b1 := s.b1 ++ m.take k }) := by
  unfold DS.write; rw [if_neg (by rw [hoff]; simp), if_neg hroom, hk]
  have h := (unitsS_same s m.length).2.2.2.1
  simp [DS.setFile, DS.safe, DS.bytes, ← h]
theorem write_err {s : DS} {n : Int} {m : List UInt8} {k : Nat} {t : DS} (h : s.write n m = (if k < m.length then 150 else 0, t)) :
    (k < m.length → errno 150 = if (s.write n m).1 = 0 then .nilIface else errno (s.write n m).1) ∧ (m.length ≤ k → .nilIface = if (s.write n m).1 = 0 then .nilIface else errno (s.write n m).1) := by
  rw [h]
  constructor
  · intro hk; simp [hk]
  · intro hk; simp [show ¬ k < m.length by omega]
theorem step_units {w w1 w2 : World} {d : Nat} {va vb : Value} (h1 : Below w.heap.size w w1) (h2 : Mod (fun k => k = d) w1 w2) : Step (dfoot d va vb) w w2 (dfoot d va vb) :=
  Step.new_then h1 ⟨h2.mono (fun x _ e => .inl e), fun _ e => .inl e⟩
theorem Step.drew {F G : Nat → Prop} {a b : World} (h : Step F a b G) : Step F a b.drew G := ⟨h.mod.drew, h.foot⟩
theorem WritePost.mk {d : Nat} {va vb va' vb' : Value} {s : DS} {n : Int} {m : List UInt8} {w w' : World} {r : Value} {s' : DS} (hr : r = if (s.write n m).1 = 0 then .nilIface else errno (s.write n m).1) (hs : (s.write n m).2 = s')
    (h : DiskIs w' d va' vb' s') (hst : Step (dfoot d va vb) w w' (dfoot d va' vb')) : WritePost d va vb s n m w (.returned r) w' := ⟨by rw [hr], va', vb', by rw [hs]; exact h, hst⟩
set_option maxHeartbeats 2000000 in
theorem write_0 {w : World} {d : Nat} {va vb : Value} {s : DS} (h : DiskIs w d va vb s) (hoff : s.off = false) (b o cap : Nat) (m : List UInt8) (hm : ReadsB w (.slice (some ⟨b, o, none⟩) m.length cap) m) (hcap : m.length ≤ cap) (hlen : m.length ≤ 1099511627776) (hroom : ¬ s.room - s.used < m.length) :
    Calls Tryd.prog 14 #[.pointer (some ⟨d, 0, none⟩), .int .i64 0, .slice (some ⟨b, o, none⟩) m.length cap] w (WritePost d va vb s 0 m w) := by
  have H := hid h
  have HM := hid hm
  have hroom' := h.ok.room1
  have t1 : decide (s.room - ((s.b0.length : Int) + s.b1.length) < (m.length : Int)) = false := decide_eq_false (by unfold DS.used at hroom; omega)
  have hwr : IntKind.i64.wrap (s.room - ((s.b0.length : Int) + s.b1.length)) = s.room - ((s.b0.length : Int) + s.b1.length) := by rw [IntKind.wrap_i64]; have := h.ok.room0; omega
  have h4 := h.cells.1.2.2.2.2.1
  have hroom0 := h.ok.room0
  have hkm := unitsN_le s m.length
  obtain ⟨k, hk⟩ : ∃ k, s.unitsN m.length = k := ⟨_, rfl⟩
  rw [hk] at hkm
  have HK := hid hk
  clear h hm hk
  go_enter Tryd.func14, Tryd.ntmps14
  go_wp2_with (go_at_call 33; refine (on_any H.out hoff 0 (by omega)).mono ?_; rintro e w' ⟨rfl, rfl⟩)
  go_region_with (go_at_call 22; refine (used_any (H.out.mod (Mod.drew (Mod.refl (fun _ => False) w)) (fun _ _ e => e))).mono ?_; rintro e w1 ⟨rfl, hb⟩; have hb' : Below w.heap.size w w1 := (Below.drew (Below.refl _ w)).trans hb; have HB1 := hid hb'; have hd1 := H.out.mod (Mod.new hb' (fun _ => False)) (fun _ _ e => e); clear hb'; have H1 := hid hd1; have h41 := hd1.cells.1.2.2.2.2.1; clear hb hd1)
  all_goals go_wp2_with (go_at_call 35; refine (units_any H1.out m.length hlen).mono ?_; rintro e w2 ⟨he, hd, hmm⟩; rw [HK.out] at he; subst he; have H2 := hid hd; have HM2 := hid hmm; have hc2 := hd.cells.1.1; have hf2 := hd.cells.2; clear hd hmm)
  all_goals
    have HR2 : Hid (ReadsB w2.drew (.slice (some ⟨b, o, none⟩) k cap) (m.take k)) := hid (((HM.out.below HB1.out).mod HM2.out (H1.out.apart (HM.out.below HB1.out))).take k hkm |>.mod (Mod.drew (Mod.refl (fun _ => False) w2)) (fun _ _ => .inl (fun e => e)))
    have HO2 : Hid (OwnB w2.drew 0 5 va s.b0) := hid (by have := H2.out.drew.own0; rw [(unitsS_same s _).1] at this; exact this)
    have hkc : k ≤ cap := by omega
    have hb0 : s.b0.length + (m.take k).length ≤ 1099511627776 := by rw [List.length_take]; omega
    have hdlt : d < w2.heap.size := H2.out.lt d (.inl rfl)
    have hne2 : va.ownBlock ≠ some d := H2.out.ne0
    go_region_law (refine step_append_b byteT rfl _ _ rfl 0 s.b0 (m.take k) va _ rfl rfl HO2.out HR2.out hb0 (Nat.zero_le _) ?_; intro v3 w3 ho3 hg3 _ hbk; obtain ⟨a3, c3, rfl, _⟩ := reads_slice ho3.reads; have HO3 := hid ho3; have HBK := hid hbk; clear hbk; have HG3 := hid hg3; have hf3 : w3.frozen? ⟨d, 0, none⟩ = false := (World.frozen?_of_block (hg3.block d hdlt (fun e => hne2 e.symm))).trans (hf2 0); have hc3 : w3.cell? ⟨d, 0, none⟩ = some va := hg3.cell hc2 (fun e => hne2 e.symm); clear ho3 hg3)
  all_goals
    have hend := H2.out.drew.put0 HG3.out HO3.out HBK.out k (by have := H2.out.ok.safe0; rw [(unitsS_same s _).1] at this; simp; omega) (by rw [(unitsS_same s _).2.1, (unitsS_same s _).2.2.2.2]; unfold DS.used at hroom; simp; omega)
    rw [show (s.b0 ++ m.take k).length = s.b0.length + k by rw [List.length_append, List.length_take]; omega] at hend
    have HEND := hid hend
    have HST := hid (step_units (va := va) (vb := vb) HB1.out HM2.out)
    clear hend
    go_wp2
  all_goals
    go_ret
    have hw := write_eq0 s m k hoff (by omega) HK.out
    refine WritePost.mk ?_ (by rw [hw]) HEND.out.1 (HST.out.drew.trans HEND.out.2)
    first | exact (write_err hw).1 (by omega) | exact (write_err hw).2 (by omega)
set_option maxHeartbeats 2000000 in
theorem write_1 {w : World} {d : Nat} {va vb : Value} {s : DS} (h : DiskIs w d va vb s) (hoff : s.off = false) (b o cap : Nat) (m : List UInt8) (hm : ReadsB w (.slice (some ⟨b, o, none⟩) m.length cap) m) (hcap : m.length ≤ cap) (hlen : m.length ≤ 1099511627776) (hroom : ¬ s.room - s.used < m.length) :
    Calls Tryd.prog 14 #[.pointer (some ⟨d, 0, none⟩), .int .i64 1, .slice (some ⟨b, o, none⟩) m.length cap] w (WritePost d va vb s 1 m w) := by
  have H := hid h
  have HM := hid hm
  have hroom' := h.ok.room1
  have t1 : decide (s.room - ((s.b0.length : Int) + s.b1.length) < (m.length : Int)) = false := decide_eq_false (by unfold DS.used at hroom; omega)
  have hwr : IntKind.i64.wrap (s.room - ((s.b0.length : Int) + s.b1.length)) = s.room - ((s.b0.length : Int) + s.b1.length) := by rw [IntKind.wrap_i64]; have := h.ok.room0; omega
  have h4 := h.cells.1.2.2.2.2.1
  have hroom0 := h.ok.room0
  have hkm := unitsN_le s m.length
  obtain ⟨k, hk⟩ : ∃ k, s.unitsN m.length = k := ⟨_, rfl⟩
  rw [hk] at hkm
  have HK := hid hk
  clear h hm hk
  go_enter Tryd.func14, Tryd.ntmps14
  go_wp2_with (go_at_call 33; refine (on_any H.out hoff 1 (by omega)).mono ?_; rintro e w' ⟨rfl, rfl⟩)
  go_region_with (go_at_call 22; refine (used_any (H.out.mod (Mod.drew (Mod.refl (fun _ => False) w)) (fun _ _ e => e))).mono ?_; rintro e w1 ⟨rfl, hb⟩; have hb' : Below w.heap.size w w1 := (Below.drew (Below.refl _ w)).trans hb; have HB1 := hid hb'; have hd1 := H.out.mod (Mod.new hb' (fun _ => False)) (fun _ _ e => e); clear hb'; have H1 := hid hd1; have h41 := hd1.cells.1.2.2.2.2.1; clear hb hd1)
  all_goals go_wp2_with (go_at_call 35; refine (units_any H1.out m.length hlen).mono ?_; rintro e w2 ⟨he, hd, hmm⟩; rw [HK.out] at he; subst he; have H2 := hid hd; have HM2 := hid hmm; have hc2 := hd.cells.1.2.2.1; have hf2 := hd.cells.2; clear hd hmm)
  all_goals
    have HR2 : Hid (ReadsB w2.drew (.slice (some ⟨b, o, none⟩) k cap) (m.take k)) := hid (((HM.out.below HB1.out).mod HM2.out (H1.out.apart (HM.out.below HB1.out))).take k hkm |>.mod (Mod.drew (Mod.refl (fun _ => False) w2)) (fun _ _ => .inl (fun e => e)))
    have HO2 : Hid (OwnB w2.drew 0 5 vb s.b1) := hid (by have := H2.out.drew.own1; rw [(unitsS_same s _).2.1] at this; exact this)
    have hkc : k ≤ cap := by omega
    have hb0 : s.b1.length + (m.take k).length ≤ 1099511627776 := by rw [List.length_take]; omega
    have hdlt : d < w2.heap.size := H2.out.lt d (.inl rfl)
    have hne2 : vb.ownBlock ≠ some d := H2.out.ne1
    go_region_law (refine step_append_b byteT rfl _ _ rfl 0 s.b1 (m.take k) vb _ rfl rfl HO2.out HR2.out hb0 (Nat.zero_le _) ?_; intro v3 w3 ho3 hg3 _ hbk; obtain ⟨a3, c3, rfl, _⟩ := reads_slice ho3.reads; have HO3 := hid ho3; have HBK := hid hbk; clear hbk; have HG3 := hid hg3; have hf3 : w3.frozen? ⟨d, 2, none⟩ = false := (World.frozen?_of_block (hg3.block d hdlt (fun e => hne2 e.symm))).trans (hf2 2); have hc3 : w3.cell? ⟨d, 2, none⟩ = some vb := hg3.cell hc2 (fun e => hne2 e.symm); clear ho3 hg3)
  all_goals
    have hend := H2.out.drew.put1 HG3.out HO3.out HBK.out k (by have := H2.out.ok.safe1; rw [(unitsS_same s _).2.1] at this; simp; omega) (by rw [(unitsS_same s _).1, (unitsS_same s _).2.2.2.2]; unfold DS.used at hroom; simp; omega)
    rw [show (s.b1 ++ m.take k).length = s.b1.length + k by rw [List.length_append, List.length_take]; omega] at hend
    have HEND := hid hend
    have HST := hid (step_units (va := va) (vb := vb) HB1.out HM2.out)
    clear hend
    go_wp2
  all_goals
    go_ret
    have hw := write_eq1 s m k hoff (by omega) HK.out
    refine WritePost.mk ?_ (by rw [hw]) HEND.out.1 (HST.out.drew.trans HEND.out.2)
    first | exact (write_err hw).1 (by omega) | exact (write_err hw).2 (by omega)
/-- No room. -/
theorem write_room {w : World} {d : Nat} {va vb : Value} {s : DS} (h : DiskIs w d va vb s) (hoff : s.off = false) (n : Int) (hn : n = 0 ∨ n = 1) (a : Option Addr) (cap : Nat) (m : List UInt8) (hlen : m.length ≤ 1099511627776) (hroom : s.room - s.used < m.length) :
    Calls Tryd.prog 14 #[.pointer (some ⟨d, 0, none⟩), .int .i64 n, .slice a m.length cap] w (WritePost d va vb s n m w) := by
  have H := hid h
  have hroom' := h.ok.room1
  have t1 : decide (s.room - ((s.b0.length : Int) + s.b1.length) < (m.length : Int)) = true := decide_eq_true (by unfold DS.used at hroom; omega)
  have hwr : IntKind.i64.wrap (s.room - ((s.b0.length : Int) + s.b1.length)) = s.room - ((s.b0.length : Int) + s.b1.length) := by rw [IntKind.wrap_i64]; have := h.ok.room0; omega
  have h4 := h.cells.1.2.2.2.2.1
  have hroom0 := h.ok.room0
  have hw : s.write n m = (151, s) := by unfold DS.write; rw [if_neg (by rw [hoff]; simp), if_pos hroom]
  have HW := hid hw
  clear h hw
  go_enter Tryd.func14, Tryd.ntmps14
  go_wp2_with (go_at_call 33; refine (on_any H.out hoff n hn).mono ?_; rintro e w' ⟨rfl, rfl⟩)
  go_region_with (go_at_call 22; refine (used_any (H.out.mod (Mod.drew (Mod.refl (fun _ => False) w)) (fun _ _ e => e))).mono ?_; rintro e w1 ⟨rfl, hb⟩; have hb' : Below w.heap.size w w1 := (Below.drew (Below.refl _ w)).trans hb; have HB1 := hid hb'; have hd1 := H.out.mod (Mod.new hb' (fun _ => False)) (fun _ _ e => e); clear hb'; have H1 := hid hd1; have h41 := hd1.cells.1.2.2.2.2.1; clear hb hd1)
  all_goals go_wp2
  all_goals
    go_ret
    refine WritePost.mk ?_ (by rw [HW.out]) H1.out (Step.then_new (Step.refl _ _) HB1.out)
    rw [HW.out]; rfl
theorem write_off {w : World} {d : Nat} {va vb : Value} {s : DS} (h : DiskIs w d va vb s) (hoff : s.off = true) (n : Int) (hn : n = 0 ∨ n = 1) (m : List UInt8) (v : Value) :
    Calls Tryd.prog 14 #[.pointer (some ⟨d, 0, none⟩), .int .i64 n, v] w (WritePost d va vb s n m w) := by
  have H := hid h
  have HW : Hid (s.write n m = (150, s)) := hid (by unfold DS.write; rw [if_pos hoff])
  clear h
  go_enter Tryd.func14, Tryd.ntmps14
  go_wp2_with (go_at_call 33; refine (on_off H.out hoff _ hn).mono ?_; rintro e w' ⟨rfl, rfl⟩)
  go_ret
  refine WritePost.mk ?_ (by rw [HW.out]) H.out (Step.refl _ _)
  rw [HW.out]; rfl
theorem write_bad (d : Nat) (n : Int) (hn : ¬ (n = 0 ∨ n = 1)) (v : Value) (w : World) :
    Calls Tryd.prog 14 #[.pointer (some ⟨d, 0, none⟩), .int .i64 n, v] w fun e w' => e = .returned (errno 1) ∧ w = w' := by
  go_enter Tryd.func14, Tryd.ntmps14
  go_wp2_with (go_at_call 33; refine (on_bad _ _ hn _).mono ?_; rintro e w' ⟨rfl, rfl⟩)
  go_ret
  exact ⟨rfl, rfl⟩
theorem write_nil (n : Int) (v : Value) (w : World) :
    Calls Tryd.prog 14 #[.pointer none, .int .i64 n, v] w fun e w' => e = .returned (errno 3) ∧ w = w' := by
  go_enter Tryd.func14, Tryd.ntmps14
  go_wp2_with (go_at_call 33; refine (on_nil _ _).mono ?_; rintro e w' ⟨rfl, rfl⟩)
  go_ret
  exact ⟨rfl, rfl⟩
end Go.Proofs.YtdchpabcaoghpaaDoor

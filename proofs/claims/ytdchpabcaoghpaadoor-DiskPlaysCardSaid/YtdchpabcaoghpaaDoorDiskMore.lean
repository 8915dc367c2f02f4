/-
  Erase, Cut, Turn, On by contract.
-/
import Derived.Test.YtdchpabcaoghpaaDoorDiskLaw
import Derived.Deep.QuietTactic
import Derived.BigQuiet
import Derived.IntWalk
namespace Go.Proofs.YtdchpabcaoghpaaDoor
open Go.RowKit
set_option linter.unusedVariables false

def DS.cut (s : DS) (n k : Int) : Int × DS :=
  if s.off then (150, s) else if k < 0 ∨ ((s.bytes n).length : Int) < k then (1, s) else s.one fun t => t.setFile n ((t.bytes n).take k.toNat) (min (t.safe n) k.toNat)
def DS.turn (s : DS) (n i : Int) (c : UInt8) : Int × DS :=
  if i < 0 ∨ ((s.bytes n).length : Int) ≤ i then (1, s) else (0, s.setFile n ((s.bytes n).set i.toNat ((s.bytes n).getD i.toNat 0 ^^^ c)) (s.safe n))

theorem DiskIs.clear0 {w : World} {d : Nat} {va vb : Value} {s : DS} (h : DiskIs w d va vb s) : DiskIs ((w.setCell ⟨d, 0, none⟩ (.slice none 0 0)).setCell ⟨d, 1, none⟩ (.int .i64 0)) d (.slice none 0 0) vb { s with b0 := [], s0 := 0 } ∧ Mod (fun k => k = d) w ((w.setCell ⟨d, 0, none⟩ (.slice none 0 0)).setCell ⟨d, 1, none⟩ (.int .i64 0)) := by
  obtain ⟨T, hh⟩ := h.heap
  have hm : Mod (fun k => k = d) w ((w.setCell ⟨d, 0, none⟩ (.slice none 0 0)).setCell ⟨d, 1, none⟩ (.int .i64 0)) := ((Mod.refl (fun k => k = d) w).setCell ⟨d, 0, none⟩ _ (.inl rfl)).setCell ⟨d, 1, none⟩ _ (.inl rfl)
  refine ⟨⟨⟨T, ?_⟩, OwnB.nil _ _ _, h.own1.mod hm (fun k hk e => h.ne1 (e ▸ hk)), by simp [Value.ownBlock], h.ne1, by simp [Value.ownBlock], ⟨by simp, h.ok.safe1, ?_, h.ok.room1, h.ok.fuse0, h.ok.fuse1⟩⟩, hm⟩
  · have : ((w.setCell ⟨d, 0, none⟩ (.slice none 0 0)).setCell ⟨d, 1, none⟩ (.int .i64 0)).heap[d]? = some _ := heap_setCell_same _ _ _ _ _ _ (heap_setCell_same _ _ _ _ _ _ hh)
    simpa using this
  · have := h.ok.room0; simp; omega
theorem DiskIs.clear1 {w : World} {d : Nat} {va vb : Value} {s : DS} (h : DiskIs w d va vb s) : DiskIs ((w.setCell ⟨d, 2, none⟩ (.slice none 0 0)).setCell ⟨d, 3, none⟩ (.int .i64 0)) d va (.slice none 0 0) { s with b1 := [], s1 := 0 } ∧ Mod (fun k => k = d) w ((w.setCell ⟨d, 2, none⟩ (.slice none 0 0)).setCell ⟨d, 3, none⟩ (.int .i64 0)) := by
  obtain ⟨T, hh⟩ := h.heap
  have hm : Mod (fun k => k = d) w ((w.setCell ⟨d, 2, none⟩ (.slice none 0 0)).setCell ⟨d, 3, none⟩ (.int .i64 0)) := ((Mod.refl (fun k => k = d) w).setCell ⟨d, 2, none⟩ _ (.inl rfl)).setCell ⟨d, 3, none⟩ _ (.inl rfl)
  refine ⟨⟨⟨T, ?_⟩, h.own0.mod hm (fun k hk e => h.ne0 (e ▸ hk)), OwnB.nil _ _ _, h.ne0, by simp [Value.ownBlock], by simp [Value.ownBlock], ⟨h.ok.safe0, by simp, ?_, h.ok.room1, h.ok.fuse0, h.ok.fuse1⟩⟩, hm⟩
  · have : ((w.setCell ⟨d, 2, none⟩ (.slice none 0 0)).setCell ⟨d, 3, none⟩ (.int .i64 0)).heap[d]? = some _ := heap_setCell_same _ _ _ _ _ _ (heap_setCell_same _ _ _ _ _ _ hh)
    simpa using this
  · have := h.ok.room0; simp; omega
theorem Step.same0 {w w' : World} {d : Nat} {va vb : Value} (h : Mod (fun k => k = d) w w') : Step (dfoot d va vb) w w' (dfoot d (.slice none 0 0) vb) := ⟨h.mono (fun x _ e => .inl e), fun k hk => by
  rcases hk with e | e | e
  · exact .inl (.inl e)
  · simp [Value.ownBlock] at e
  · exact .inl (.inr (.inr e))⟩
theorem Step.same1 {w w' : World} {d : Nat} {va vb : Value} (h : Mod (fun k => k = d) w w') : Step (dfoot d va vb) w w' (dfoot d va (.slice none 0 0)) := ⟨h.mono (fun x _ e => .inl e), fun k hk => by
  rcases hk with e | e | e
  · exact .inl (.inl e)
  · exact .inl (.inr (.inl e))
  · simp [Value.ownBlock] at e⟩

theorem erase1_0 {w : World} {d : Nat} {va vb : Value} {s : DS} (h : DiskIs w d va vb s) : Calls Tryd.prog 38 #[.pointer (some ⟨d, 0, none⟩)] w
    fun e w' => e = .returned (.tuple #[]) ∧ DiskIs w' d (.slice none 0 0) vb { s with b0 := [], s0 := 0 } ∧ Mod (fun k => k = d) w w' := by
  have H := hid h.clear0
  have hc := h.cells.1.1
  have hf := h.cells.2
  have hc1 := h.cells.1.2.1
  clear h
  go_enter Tryd.func38, Tryd.ntmps38
  go_wp2
  go_end0
  exact ⟨rfl, H.out.1, H.out.2⟩
theorem erase1_1 {w : World} {d : Nat} {va vb : Value} {s : DS} (h : DiskIs w d va vb s) : Calls Tryd.prog 38 #[.pointer (some ⟨d, 2, none⟩)] w
    fun e w' => e = .returned (.tuple #[]) ∧ DiskIs w' d va (.slice none 0 0) { s with b1 := [], s1 := 0 } ∧ Mod (fun k => k = d) w w' := by
  have H := hid h.clear1
  have hc := h.cells.1.2.2.1
  have hf := h.cells.2
  have hc1 := h.cells.1.2.2.2.1
  clear h
  go_enter Tryd.func38, Tryd.ntmps38
  go_wp2
  go_end0
  exact ⟨rfl, H.out.1, H.out.2⟩
set_option maxHeartbeats 2000000 in
theorem eraseS_0 {w : World} {d : Nat} {va vb : Value} {s : DS} (h : DiskIs w d va vb s) (hoff : s.off = false) (hf : ¬ s.fuse = 0) :
    Calls Tryd.prog 36 #[.pointer (some ⟨d, 0, none⟩), .int .i64 0, .func (Fn.func 38) #[] #[]] w (ActPost d va vb (s.erase 0) w) := by
  have H := hid h
  have HN := hid ((unitsN_1 s h.ok.fuse0).2 hf)
  have HS : Hid (s.erase 0 = (0, { s.unitsS 1 with b0 := [], s0 := 0 })) := hid (by unfold DS.erase DS.one; rw [if_neg (by rw [hoff]; simp), if_neg hf]; rfl)
  clear h hf
  go_enter Tryd.func36, Tryd.ntmps36
  go_wp2_with (first
    | (go_at_call 33; refine (on_any H.out hoff 0 (by omega)).mono ?_; rintro e w' ⟨rfl, rfl⟩)
    | (go_at_call 35; refine (units_any H.out 1 (by omega)).mono ?_; rintro e w2 ⟨he, hd, hmm⟩; rw [HN.out] at he; subst he; have H2 := hid hd; have HM2 := hid hmm; clear hd hmm)
    | (go_at_call 38; refine (erase1_0 H2.out).mono ?_; rintro e w3 ⟨rfl, hd, hmm⟩; have H3 := hid hd; have HM3 := hid hmm; clear hd hmm))
  go_ret
  exact ActPost.mk HS.out rfl H3.out (Step.same0 (HM2.out.trans HM3.out (fun _ e => .inl e)))
set_option maxHeartbeats 2000000 in
theorem eraseS_1 {w : World} {d : Nat} {va vb : Value} {s : DS} (h : DiskIs w d va vb s) (hoff : s.off = false) (hf : ¬ s.fuse = 0) :
    Calls Tryd.prog 36 #[.pointer (some ⟨d, 0, none⟩), .int .i64 1, .func (Fn.func 38) #[] #[]] w (ActPost d va vb (s.erase 1) w) := by
  have H := hid h
  have HN := hid ((unitsN_1 s h.ok.fuse0).2 hf)
  have HS : Hid (s.erase 1 = (0, { s.unitsS 1 with b1 := [], s1 := 0 })) := hid (by unfold DS.erase DS.one; rw [if_neg (by rw [hoff]; simp), if_neg hf]; rfl)
  clear h hf
  go_enter Tryd.func36, Tryd.ntmps36
  go_wp2_with (first
    | (go_at_call 33; refine (on_any H.out hoff 1 (by omega)).mono ?_; rintro e w' ⟨rfl, rfl⟩)
    | (go_at_call 35; refine (units_any H.out 1 (by omega)).mono ?_; rintro e w2 ⟨he, hd, hmm⟩; rw [HN.out] at he; subst he; have H2 := hid hd; have HM2 := hid hmm; clear hd hmm)
    | (go_at_call 38; refine (erase1_1 H2.out).mono ?_; rintro e w3 ⟨rfl, hd, hmm⟩; have H3 := hid hd; have HM3 := hid hmm; clear hd hmm))
  go_ret
  exact ActPost.mk HS.out rfl H3.out (Step.same1 (HM2.out.trans HM3.out (fun _ e => .inl e)))
theorem eraseS_any {w : World} {d : Nat} {va vb : Value} {s : DS} (h : DiskIs w d va vb s) (n : Int) (hn : n = 0 ∨ n = 1) :
    Calls Tryd.prog 36 #[.pointer (some ⟨d, 0, none⟩), .int .i64 n, .func (Fn.func 38) #[] #[]] w (ActPost d va vb (s.erase n) w) := by
  by_cases hoff : s.off = true
  · exact step_off h hoff n hn _ _ (one_noStep s _)
  · have hoff' : s.off = false := by simpa using hoff
    by_cases hf : s.fuse = 0
    · exact step_out h hoff' hf n hn _ _ (one_noStep s _)
    · rcases hn with rfl | rfl
      · exact eraseS_0 h hoff' hf
      · exact eraseS_1 h hoff' hf
theorem erase_any {w : World} {d : Nat} {va vb : Value} {s : DS} (h : DiskIs w d va vb s) (n : Int) (hn : n = 0 ∨ n = 1) :
    Calls Tryd.prog 16 #[.pointer (some ⟨d, 0, none⟩), .int .i64 n] w (ActPost d va vb (s.erase n) w) := by
  have H := hid (eraseS_any h n hn)
  clear h
  go_enter Tryd.func16, Tryd.ntmps16
  go_wp2_with (go_at_call 36; refine H.out.mono ?_; intro e w1 hp; obtain ⟨v, rfl, hp⟩ := hp.ret; have HP := hid hp; clear hp)
  go_ret
  exact HP.out
theorem isOn_any {w : World} {d : Nat} {va vb : Value} {s : DS} (h : DiskIs w d va vb s) : Calls Tryd.prog 21 #[.pointer (some ⟨d, 0, none⟩)] w fun e w' => e = .returned (.bool (!s.off)) ∧ w = w' := by
  have hc := h.cells.1.2.2.2.2.2.2
  clear h
  go_enter Tryd.func21, Tryd.ntmps21
  go_wp2
  go_ret
  exact ⟨rfl, rfl⟩

theorem xor_u8 (c d : UInt8) : bits .xor .u8 (c.toNat : Int) (d.toNat : Int) = (((c ^^^ d).toNat : Nat) : Int) := by
  have hc := c.toNat_lt; have hd := d.toNat_lt
  have hx := (c ^^^ d).toNat_lt
  rw [UInt8.toNat_xor] at hx ⊢
  have hc' : c.toNat % 2 ^ IntKind.u8.bits = c.toNat := Nat.mod_eq_of_lt hc
  have hd' : d.toNat % 2 ^ IntKind.u8.bits = d.toNat := Nat.mod_eq_of_lt hd
  simp only [bits, BitVec.ofInt_natCast, BitVec.toNat_xor, BitVec.toNat_ofNat, hc', hd']
  rw [IntKind.wrap_u8]; omega
/-- A byte of bytes of one's own stored anew. -/
theorem OwnB.set {w : World} {base : Nat} {e : TypeId} {g n c : Nat} {l : List UInt8} (h : OwnB w base e (.slice (some ⟨g, 0, none⟩) n c) l) (i : Nat) (hi : i < l.length) (x : UInt8) : OwnB (w.setCell ⟨g, i, none⟩ (cellOf x)) base e (.slice (some ⟨g, 0, none⟩) n c) (l.set i x) := by
  obtain ⟨h1, h2⟩ := h
  refine ⟨by simp, ?_⟩
  rcases h2 with ⟨hv, h0⟩ | ⟨g', cap, cur, hv, hb, hg, hn, hm, hs, ht⟩
  · cases hv
  · cases hv
    refine .inr ⟨g, c, cur.setIfInBounds i (cellOf x), by simp, hb, heap_setCell_same _ _ _ _ _ _ hg, by simpa using hn, hm, by simpa using hs, ?_⟩
    rw [List.length_set, Array.toList_setIfInBounds, List.take_set, ht, List.map_set]
def CutPost (d : Nat) (va vb : Value) (t : DS) (w : World) (e : Ending) (w' : World) : Prop := e = .returned (.tuple #[]) ∧ ∃ va' vb', DiskIs w' d va' vb' t ∧ Step (dfoot d va vb) w w' (dfoot d va' vb')
theorem cutF0 {w : World} {d : Nat} {a : Option Addr} {L c : Nat} {vb : Value} {s : DS} (h : DiskIs w d (.slice a L c) vb s) (k : Nat) (hk : k ≤ s.b0.length) :
    DiskIs ((w.setCell ⟨d, 0, none⟩ (.slice a k c)).setCell ⟨d, 1, none⟩ (.int .i64 ((min s.s0 k : Nat) : Int))) d (.slice a k c) vb { s with b0 := s.b0.take k, s0 := min s.s0 k } ∧ Mod (fun k => k = d) w ((w.setCell ⟨d, 0, none⟩ (.slice a k c)).setCell ⟨d, 1, none⟩ (.int .i64 ((min s.s0 k : Nat) : Int))) := by
  obtain ⟨T, hh⟩ := h.heap
  have hm : Mod (fun k => k = d) w ((w.setCell ⟨d, 0, none⟩ (.slice a k c)).setCell ⟨d, 1, none⟩ (.int .i64 ((min s.s0 k : Nat) : Int))) := ((Mod.refl (fun k => k = d) w).setCell ⟨d, 0, none⟩ _ (.inl rfl)).setCell ⟨d, 1, none⟩ _ (.inl rfl)
  have hob : (Value.slice a k c).ownBlock = (Value.slice a L c).ownBlock := own_slice a k L c c
  have hh2 : ((w.setCell ⟨d, 0, none⟩ (.slice a k c)).setCell ⟨d, 1, none⟩ (.int .i64 ((min s.s0 k : Nat) : Int))).heap[d]? = some _ := heap_setCell_same _ _ _ _ _ _ (heap_setCell_same _ _ _ _ _ _ hh)
  have hsf := h.ok.safe0
  have hr := h.ok.room0
  refine ⟨⟨⟨T, by simpa using hh2⟩, (h.own0.cut k hk).mod hm (fun k hk e => h.ne0 (by subst e; rw [← hk, hob])), h.own1.mod hm (fun k hk e => h.ne1 (e ▸ hk)), by rw [hob]; exact h.ne0, h.ne1, by rw [hob]; exact h.ne, ⟨by simp; omega, h.ok.safe1, by simp; omega, h.ok.room1, h.ok.fuse0, h.ok.fuse1⟩⟩, hm⟩
set_option maxHeartbeats 1000000 in
theorem cut1_0 {w : World} {d : Nat} {va vb : Value} {s : DS} (h : DiskIs w d va vb s) (p : Addr) (k : Nat) (hp : w.cell? p = some (.int .i64 (k : Int))) (hpd : p.block ≠ d) (hk : k ≤ s.b0.length) : Calls Tryd.prog 39 #[.pointer (some ⟨d, 0, none⟩), .pointer (some p)] w
    (CutPost d va vb { s with b0 := s.b0.take k, s0 := min s.s0 k } w) := by
  have hc := h.cells.1.1
  have hf := h.cells.2
  have hc1 := h.cells.1.2.1
  obtain ⟨a, c, rfl, hlc⟩ := reads_slice h.own0.reads
  have H := hid (cutF0 h k hk)
  have hr0 := h.ok.room0
  have hr1 := h.ok.room1
  have hkc : k ≤ c := by omega
  have hps : ∀ (i : Nat) (v : Value), (w.setCell ⟨d, i, none⟩ v).cell? p = some (.int .i64 (k : Int)) := fun i v => (World.cell?_setCell_other w ⟨d, i, none⟩ p v (fun e => hpd (by rw [← e]))).trans hp
  have hmin : min (s.s0 : Int) (k : Int) = ((min s.s0 k : Nat) : Int) := by omega
  clear h
  go_enter Tryd.func39, Tryd.ntmps39
  go_wp2
  go_region
  all_goals go_wp2
  all_goals
    go_end0
    refine ⟨rfl, _, _, H.out.1.drew, ⟨(H.out.2.drew).mono (fun x _ e => .inl e), ?_⟩⟩
    intro x hx
    unfold dfoot at hx ⊢
    rw [own_slice a k s.b0.length c c] at hx
    exact .inl hx
theorem cutF1 {w : World} {d : Nat} {a : Option Addr} {L c : Nat} {va : Value} {s : DS} (h : DiskIs w d va (.slice a L c) s) (k : Nat) (hk : k ≤ s.b1.length) :
    DiskIs ((w.setCell ⟨d, 2, none⟩ (.slice a k c)).setCell ⟨d, 3, none⟩ (.int .i64 ((min s.s1 k : Nat) : Int))) d va (.slice a k c) { s with b1 := s.b1.take k, s1 := min s.s1 k } ∧ Mod (fun k => k = d) w ((w.setCell ⟨d, 2, none⟩ (.slice a k c)).setCell ⟨d, 3, none⟩ (.int .i64 ((min s.s1 k : Nat) : Int))) := by
  obtain ⟨T, hh⟩ := h.heap
  have hm : Mod (fun k => k = d) w ((w.setCell ⟨d, 2, none⟩ (.slice a k c)).setCell ⟨d, 3, none⟩ (.int .i64 ((min s.s1 k : Nat) : Int))) := ((Mod.refl (fun k => k = d) w).setCell ⟨d, 2, none⟩ _ (.inl rfl)).setCell ⟨d, 3, none⟩ _ (.inl rfl)
  have hob : (Value.slice a k c).ownBlock = (Value.slice a L c).ownBlock := own_slice a k L c c
  have hh2 : ((w.setCell ⟨d, 2, none⟩ (.slice a k c)).setCell ⟨d, 3, none⟩ (.int .i64 ((min s.s1 k : Nat) : Int))).heap[d]? = some _ := heap_setCell_same _ _ _ _ _ _ (heap_setCell_same _ _ _ _ _ _ hh)
  have hsf := h.ok.safe1
  have hr := h.ok.room0
  refine ⟨⟨⟨T, by simpa using hh2⟩, h.own0.mod hm (fun k hk e => h.ne0 (e ▸ hk)), (h.own1.cut k hk).mod hm (fun k hk e => h.ne1 (by subst e; rw [← hk, hob])), h.ne0, by rw [hob]; exact h.ne1, fun x hx => by rw [hob]; exact h.ne x hx, ⟨h.ok.safe0, by simp; omega, by simp; omega, h.ok.room1, h.ok.fuse0, h.ok.fuse1⟩⟩, hm⟩
set_option maxHeartbeats 1000000 in
theorem cut1_1 {w : World} {d : Nat} {va vb : Value} {s : DS} (h : DiskIs w d va vb s) (p : Addr) (k : Nat) (hp : w.cell? p = some (.int .i64 (k : Int))) (hpd : p.block ≠ d) (hk : k ≤ s.b1.length) : Calls Tryd.prog 39 #[.pointer (some ⟨d, 2, none⟩), .pointer (some p)] w
    (CutPost d va vb { s with b1 := s.b1.take k, s1 := min s.s1 k } w) := by
  have hc := h.cells.1.2.2.1
  have hf := h.cells.2
  have hc1 := h.cells.1.2.2.2.1
  obtain ⟨a, c, rfl, hlc⟩ := reads_slice h.own1.reads
  have H := hid (cutF1 h k hk)
  have hr0 := h.ok.room0
  have hr1 := h.ok.room1
  have hkc : k ≤ c := by omega
  have hps : ∀ (i : Nat) (v : Value), (w.setCell ⟨d, i, none⟩ v).cell? p = some (.int .i64 (k : Int)) := fun i v => (World.cell?_setCell_other w ⟨d, i, none⟩ p v (fun e => hpd (by rw [← e]))).trans hp
  have hmin : min (s.s1 : Int) (k : Int) = ((min s.s1 k : Nat) : Int) := by omega
  clear h
  go_enter Tryd.func39, Tryd.ntmps39
  go_wp2
  go_region
  all_goals go_wp2
  all_goals
    go_end0
    refine ⟨rfl, _, _, H.out.1.drew, ⟨(H.out.2.drew).mono (fun x _ e => .inl e), ?_⟩⟩
    intro x hx
    unfold dfoot at hx ⊢
    rw [own_slice a k s.b1.length c c] at hx
    exact .inl hx
set_option maxHeartbeats 2000000 in
theorem cutS_0 {w : World} {d : Nat} {va vb : Value} {s : DS} (h : DiskIs w d va vb s) (hoff : s.off = false) (hf : ¬ s.fuse = 0) (p : Addr) (k : Nat) (hp : w.cell? p = some (.int .i64 (k : Int))) (hpd : p.block ≠ d) (hk : k ≤ s.b0.length) (r : Int × DS)
    (hr : r = (0, { s.unitsS 1 with b0 := (s.unitsS 1).b0.take k, s0 := min (s.unitsS 1).s0 k })) :
    Calls Tryd.prog 36 #[.pointer (some ⟨d, 0, none⟩), .int .i64 0, .func (Fn.func 39) #[] #[.pointer (some p)]] w (ActPost d va vb r w) := by
  have H := hid h
  have HN := hid ((unitsN_1 s h.ok.fuse0).2 hf)
  have HR := hid hr
  have HP := hid hp
  have HK : Hid (k ≤ (s.unitsS 1).b0.length) := hid (by rw [(unitsS_same s 1).1]; exact hk)
  clear h hf hr hp
  go_enter Tryd.func36, Tryd.ntmps36
  go_wp2_with (first
    | (go_at_call 33; refine (on_any H.out hoff 0 (by omega)).mono ?_; rintro e w' ⟨rfl, rfl⟩)
    | (go_at_call 35; refine (units_any H.out 1 (by omega)).mono ?_; rintro e w2 ⟨he, hd, hmm⟩; rw [HN.out] at he; subst he; have H2 := hid hd; have HM2 := hid hmm; clear hd hmm)
    | (go_at_call 39; refine (cut1_0 H2.out p k (HM2.out.cell HP.out hpd) hpd HK.out).mono ?_; intro e w3 hp3; obtain ⟨rfl, va3, vb3, hd, hst⟩ := hp3; have H3 := hid hd; have HS3 := hid hst; clear hd hst))
  go_ret
  exact ActPost.mk HR.out rfl H3.out ((Step.of_mod HM2.out).trans HS3.out)
set_option maxHeartbeats 2000000 in
theorem cutS_1 {w : World} {d : Nat} {va vb : Value} {s : DS} (h : DiskIs w d va vb s) (hoff : s.off = false) (hf : ¬ s.fuse = 0) (p : Addr) (k : Nat) (hp : w.cell? p = some (.int .i64 (k : Int))) (hpd : p.block ≠ d) (hk : k ≤ s.b1.length) (r : Int × DS)
    (hr : r = (0, { s.unitsS 1 with b1 := (s.unitsS 1).b1.take k, s1 := min (s.unitsS 1).s1 k })) :
    Calls Tryd.prog 36 #[.pointer (some ⟨d, 0, none⟩), .int .i64 1, .func (Fn.func 39) #[] #[.pointer (some p)]] w (ActPost d va vb r w) := by
  have H := hid h
  have HN := hid ((unitsN_1 s h.ok.fuse0).2 hf)
  have HR := hid hr
  have HP := hid hp
  have HK : Hid (k ≤ (s.unitsS 1).b1.length) := hid (by rw [(unitsS_same s 1).2.1]; exact hk)
  clear h hf hr hp
  go_enter Tryd.func36, Tryd.ntmps36
  go_wp2_with (first
    | (go_at_call 33; refine (on_any H.out hoff 1 (by omega)).mono ?_; rintro e w' ⟨rfl, rfl⟩)
    | (go_at_call 35; refine (units_any H.out 1 (by omega)).mono ?_; rintro e w2 ⟨he, hd, hmm⟩; rw [HN.out] at he; subst he; have H2 := hid hd; have HM2 := hid hmm; clear hd hmm)
    | (go_at_call 39; refine (cut1_1 H2.out p k (HM2.out.cell HP.out hpd) hpd HK.out).mono ?_; intro e w3 hp3; obtain ⟨rfl, va3, vb3, hd, hst⟩ := hp3; have H3 := hid hd; have HS3 := hid hst; clear hd hst))
  go_ret
  exact ActPost.mk HR.out rfl H3.out ((Step.of_mod HM2.out).trans HS3.out)
theorem DiskIs.turnF0 {w : World} {d g L c : Nat} {vb : Value} {s : DS} (h : DiskIs w d (.slice (some ⟨g, 0, none⟩) L c) vb s) (i : Nat) (hi : i < s.b0.length) (x : UInt8) :
    DiskIs (w.setCell ⟨g, i, none⟩ (cellOf x)) d (.slice (some ⟨g, 0, none⟩) L c) vb { s with b0 := s.b0.set i x } ∧ Mod (fun k => k = g) w (w.setCell ⟨g, i, none⟩ (cellOf x)) := by
  obtain ⟨T, hh⟩ := h.heap
  have hm : Mod (fun k => k = g) w (w.setCell ⟨g, i, none⟩ (cellOf x)) := (Mod.refl (fun k => k = g) w).setCell ⟨g, i, none⟩ _ (.inl rfl)
  have hgd : g ≠ d := fun e => h.ne0 (by rw [e]; rfl)
  have hr := h.ok.room0
  exact ⟨⟨⟨T, hm.heap hh (fun e => hgd e.symm)⟩, h.own0.set i hi x, h.own1.mod hm (fun k hk e => h.ne g rfl (by rw [hk, e])), h.ne0, h.ne1, h.ne, ⟨by simpa using h.ok.safe0, h.ok.safe1, by simpa using hr, h.ok.room1, h.ok.fuse0, h.ok.fuse1⟩⟩, hm⟩
theorem DiskIs.turnF1 {w : World} {d g L c : Nat} {va : Value} {s : DS} (h : DiskIs w d va (.slice (some ⟨g, 0, none⟩) L c) s) (i : Nat) (hi : i < s.b1.length) (x : UInt8) :
    DiskIs (w.setCell ⟨g, i, none⟩ (cellOf x)) d va (.slice (some ⟨g, 0, none⟩) L c) { s with b1 := s.b1.set i x } ∧ Mod (fun k => k = g) w (w.setCell ⟨g, i, none⟩ (cellOf x)) := by
  obtain ⟨T, hh⟩ := h.heap
  have hm : Mod (fun k => k = g) w (w.setCell ⟨g, i, none⟩ (cellOf x)) := (Mod.refl (fun k => k = g) w).setCell ⟨g, i, none⟩ _ (.inl rfl)
  have hgd : g ≠ d := fun e => h.ne1 (by rw [e]; rfl)
  have hr := h.ok.room0
  exact ⟨⟨⟨T, hm.heap hh (fun e => hgd e.symm)⟩, h.own0.mod hm (fun k hk e => h.ne k hk (by rw [e]; rfl)), h.own1.set i hi x, h.ne0, h.ne1, h.ne, ⟨h.ok.safe0, by simpa using h.ok.safe1, by simpa using hr, h.ok.room1, h.ok.fuse0, h.ok.fuse1⟩⟩, hm⟩
set_option maxHeartbeats 1000000 in
theorem turn_0 {w : World} {d : Nat} {va vb : Value} {s : DS} (h : DiskIs w d va vb s) (i : Nat) (hi : i < s.b0.length) (x : UInt8) (r : Int × DS) (hr : r = (0, { s with b0 := s.b0.set i (s.b0.getD i 0 ^^^ x) })) :
    Calls Tryd.prog 20 #[.pointer (some ⟨d, 0, none⟩), .int .i64 0, .int .i64 (i : Int), .int .u8 (x.toNat : Int)] w (ActPost d va vb r w) := by
  have hc := h.cells.1.1
  have ho := h.own0
  have hr0 := h.ok.room0
  have hr1 := h.ok.room1
  obtain ⟨h1, h2⟩ := h.own0
  rcases h2 with ⟨hv, h0⟩ | ⟨g, cap, cur, rfl, hb, hg, hnc, hm, hs, ht⟩
  · omega
  have hcell := (World.ownsRow.cells (g := g) ho rfl i (cellOf (s.b0.getD i 0)) (getD_map_cell _ i hi))
  rw [cellOf_def, Addr.add_lit] at hcell
  have hfz : w.frozen? ⟨g, i, none⟩ = false := by simp [World.frozen?, hg]
  have hx := xor_u8 (s.b0.getD i 0) x
  have H := hid (h.turnF0 i hi (s.b0.getD i 0 ^^^ x))
  obtain ⟨y, hy⟩ : ∃ y, s.b0.getD i 0 = y := ⟨_, rfl⟩
  rw [hy] at hcell hx H hr
  have HR := hid hr
  have t1 : decide ((i : Int) < 0) = false := decide_eq_false (by omega)
  have t2 : decide (s.b0.length ≤ i) = false := decide_eq_false (by omega)
  simp only [Nat.zero_add] at hcell
  clear h ho h1 hr hy ht hs hg
  go_enter Tryd.func20, Tryd.ntmps20
  go_wp2_with (go_at_call 40; refine (at_any _ _ (by omega) _).mono ?_; rintro e w' ⟨rfl, rfl⟩)
  go_ret
  exact ActPost.mk HR.out rfl H.out.1 ⟨H.out.2.mono (fun x _ e => .inr (.inl (by rw [e]; rfl))), fun _ e => .inl e⟩
set_option maxHeartbeats 1000000 in
theorem turn_1 {w : World} {d : Nat} {va vb : Value} {s : DS} (h : DiskIs w d va vb s) (i : Nat) (hi : i < s.b1.length) (x : UInt8) (r : Int × DS) (hr : r = (0, { s with b1 := s.b1.set i (s.b1.getD i 0 ^^^ x) })) :
    Calls Tryd.prog 20 #[.pointer (some ⟨d, 0, none⟩), .int .i64 1, .int .i64 (i : Int), .int .u8 (x.toNat : Int)] w (ActPost d va vb r w) := by
  have hc := h.cells.1.2.2.1
  have ho := h.own1
  have hr0 := h.ok.room0
  have hr1 := h.ok.room1
  obtain ⟨h1, h2⟩ := h.own1
  rcases h2 with ⟨hv, h0⟩ | ⟨g, cap, cur, rfl, hb, hg, hnc, hm, hs, ht⟩
  · omega
  have hcell := (World.ownsRow.cells (g := g) ho rfl i (cellOf (s.b1.getD i 0)) (getD_map_cell _ i hi))
  rw [cellOf_def, Addr.add_lit] at hcell
  have hfz : w.frozen? ⟨g, i, none⟩ = false := by simp [World.frozen?, hg]
  have hx := xor_u8 (s.b1.getD i 0) x
  have H := hid (h.turnF1 i hi (s.b1.getD i 0 ^^^ x))
  obtain ⟨y, hy⟩ : ∃ y, s.b1.getD i 0 = y := ⟨_, rfl⟩
  rw [hy] at hcell hx H hr
  have HR := hid hr
  have t1 : decide ((i : Int) < 0) = false := decide_eq_false (by omega)
  have t2 : decide (s.b1.length ≤ i) = false := decide_eq_false (by omega)
  simp only [Nat.zero_add] at hcell
  clear h ho h1 hr hy ht hs hg
  go_enter Tryd.func20, Tryd.ntmps20
  go_wp2_with (go_at_call 40; refine (at_any _ _ (by omega) _).mono ?_; rintro e w' ⟨rfl, rfl⟩)
  go_ret
  exact ActPost.mk HR.out rfl H.out.1 ⟨H.out.2.mono (fun x _ e => .inr (.inr (by rw [e]; rfl))), fun _ e => .inl e⟩
theorem turn_any {w : World} {d : Nat} {va vb : Value} {s : DS} (h : DiskIs w d va vb s) (n : Int) (hn : n = 0 ∨ n = 1) (i : Int) (x : UInt8) :
    Calls Tryd.prog 20 #[.pointer (some ⟨d, 0, none⟩), .int .i64 n, .int .i64 i, .int .u8 (x.toNat : Int)] w (ActPost d va vb (s.turn n i x) w) := by
  by_cases hb : i < 0 ∨ ((s.bytes n).length : Int) ≤ i
  · have HC : Hid (s.turn n i x = (1, s)) := hid (by unfold DS.turn; rw [if_pos hb])
    have hc0 := h.cells.1.1
    have hc2 := h.cells.1.2.2.1
    have H := hid h
    have ok := h.ok
    obtain ⟨a0, c0, rfl, hl0⟩ := reads_slice h.own0.reads
    obtain ⟨a1, c1, rfl, hl1⟩ := reads_slice h.own1.reads
    have hways : decide (i < 0) = true ∨ (decide (i < 0) = false ∧ decide (((s.bytes n).length : Int) ≤ i) = true) := by
      by_cases h1 : i < 0
      · exact .inl (decide_eq_true h1)
      · exact .inr ⟨decide_eq_false h1, decide_eq_true (by omega)⟩
    clear h hb
    rcases hn with rfl | rfl
    all_goals
      unfold DS.bytes at hways
      simp only [if_true, Int.one_ne_zero, if_false] at hways
      rcases hways with t1 | ⟨t1, t2⟩
      all_goals
        go_enter Tryd.func20, Tryd.ntmps20
        go_wp2_with (go_at_call 40; refine (at_any _ _ (by omega) _).mono ?_; rintro e w' ⟨rfl, rfl⟩)
        go_ret
        exact ActPost.mk HC.out rfl H.out (Step.refl _ _)
  · obtain ⟨m, rfl⟩ := Int.eq_ofNat_of_zero_le (show 0 ≤ i by omega)
    rcases hn with rfl | rfl
    · exact turn_0 h m (by simp only [DS.bytes, if_true] at hb; omega) x _ (by unfold DS.turn; rw [if_neg hb]; rfl)
    · exact turn_1 h m (by simp only [DS.bytes, Int.one_ne_zero, if_false] at hb; omega) x _ (by unfold DS.turn; rw [if_neg hb]; rfl)
/-- Cut's size is none. -/
theorem cut_any {w : World} {d : Nat} {va vb : Value} {s : DS} (h : DiskIs w d va vb s) (n : Int) (hn : n = 0 ∨ n = 1) (k : Int) (hk0 : -9223372036854775808 ≤ k) (hk1 : k ≤ 9223372036854775807) :
    Calls Tryd.prog 17 #[.pointer (some ⟨d, 0, none⟩), .int .i64 n, .int .i64 k] w (ActPost d va vb (s.cut n k) w) := by
  have HA := hid (h.new (below_alloc1 w (.cells #[.int .i64 k] 3)))
  have hd := h.lt d (.inl rfl)
  have HST := hid (Step.then_new (Step.refl (dfoot d va vb) w) (below_alloc1 w (.cells #[.int .i64 k] 3)))
  by_cases hoff : s.off = true
  · have HC : Hid (s.cut n k = (150, s)) := hid (by unfold DS.cut; rw [if_pos hoff])
    clear h
    go_enter Tryd.func17, Tryd.ntmps17
    go_wp2_with (go_at_call 33; refine (on_off HA.out hoff n hn).mono ?_; rintro e w' ⟨rfl, rfl⟩)
    go_ret
    exact ActPost.mk HC.out rfl HA.out HST.out
  · have hoff' : s.off = false := by simpa using hoff
    have hc0 := HA.out.cells.1.1
    have hc2 := HA.out.cells.1.2.2.1
    have ok := h.ok
    obtain ⟨a0, c0, rfl, hl0⟩ := reads_slice h.own0.reads
    obtain ⟨a1, c1, rfl, hl1⟩ := reads_slice h.own1.reads
    by_cases hb : k < 0 ∨ ((s.bytes n).length : Int) < k
    · have HC : Hid (s.cut n k = (1, s)) := hid (by unfold DS.cut; rw [if_neg (by rw [hoff']; simp), if_pos hb])
      have hways : decide (k < 0) = true ∨ (decide (k < 0) = false ∧ decide (((s.bytes n).length : Int) < k) = true) := by
        by_cases h1 : k < 0
        · exact .inl (decide_eq_true h1)
        · exact .inr ⟨decide_eq_false h1, decide_eq_true (by omega)⟩
      clear h hb
      rcases hn with rfl | rfl
      all_goals
        unfold DS.bytes at hways
        simp only [if_true, Int.one_ne_zero, if_false] at hways
        rcases hways with t1 | ⟨t1, t2⟩
        all_goals
          go_enter Tryd.func17, Tryd.ntmps17
          go_wp2_with (go_at_call 33; refine (on_any HA.out hoff' _ (by omega)).mono ?_; rintro e w' ⟨rfl, rfl⟩)
          go_quiet (fail)
          go_wp2
          go_ret
          exact ActPost.mk HC.out rfl (HA.out.drewN _) ⟨HST.out.mod.drewN _, HST.out.foot⟩
    · obtain ⟨m, rfl⟩ := Int.eq_ofNat_of_zero_le (show 0 ≤ k by omega)
      have hm : m ≤ (s.bytes n).length := by omega
      have hcut : s.cut n (m : Int) = s.one fun t => t.setFile n ((t.bytes n).take m) (min (t.safe n) m) := by unfold DS.cut; rw [if_neg (by rw [hoff']; simp), if_neg hb]; rfl
      have hstep : ∀ q, Calls Tryd.prog 36 #[.pointer (some ⟨d, 0, none⟩), .int .i64 n, .func (Fn.func 39) #[] #[.pointer (some ⟨w.heap.size, 0, none⟩)]] ((w.alloc (.cells #[.int .i64 (m : Int)] 3)).drewN q) (ActPost d (.slice a0 s.b0.length c0) (.slice a1 s.b1.length c1) (s.cut n (m : Int)) ((w.alloc (.cells #[.int .i64 (m : Int)] 3)).drewN q)) := by
        intro q
        have hp : ((w.alloc (.cells #[.int .i64 (m : Int)] 3)).drewN q).cell? ⟨w.heap.size, 0, none⟩ = some (.int .i64 (m : Int)) := by simp
        by_cases hf : s.fuse = 0
        · exact step_out (HA.out.drewN q) hoff' hf n hn _ _ (by rw [hcut]; exact one_noStep s _)
        · rcases hn with rfl | rfl
          · exact cutS_0 (HA.out.drewN q) hoff' hf _ m hp (by show w.heap.size ≠ d; omega) hm _ (by rw [hcut]; unfold DS.one; rw [if_neg (by rw [hoff']; simp), if_neg hf]; rfl)
          · exact cutS_1 (HA.out.drewN q) hoff' hf _ m hp (by show w.heap.size ≠ d; omega) hm _ (by rw [hcut]; unfold DS.one; rw [if_neg (by rw [hoff']; simp), if_neg hf]; rfl)
      have HSTEP := hid hstep
      have t1 : decide ((m : Int) < 0) = false := decide_eq_false (by omega)
      have t2 : decide ((s.bytes n).length < m) = false := decide_eq_false (by omega)
      clear h hb hcut hstep
      rcases hn with rfl | rfl
      all_goals
        unfold DS.bytes at t2
        simp only [if_true, Int.one_ne_zero, if_false] at t2
        go_enter Tryd.func17, Tryd.ntmps17
        go_wp2_with (go_at_call 33; refine (on_any HA.out hoff' _ (by omega)).mono ?_; rintro e w' ⟨rfl, rfl⟩)
        go_quiet (fail)
        go_wp2_with (go_at_call 36; refine (HSTEP.out _).mono ?_; intro e w1 hp; obtain ⟨v, rfl, hp⟩ := hp.ret; have HP := hid hp; clear hp)
        go_ret
        obtain ⟨he, va3, vb3, hd3, hs3⟩ := HP.out
        exact ⟨he, va3, vb3, hd3, Step.trans ⟨HST.out.mod.drewN _, HST.out.foot⟩ hs3⟩
end Go.Proofs.YtdchpabcaoghpaaDoor

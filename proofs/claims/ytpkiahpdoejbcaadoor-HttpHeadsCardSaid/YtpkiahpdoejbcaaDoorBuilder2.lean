/-
  strings.Builder: WriteByte, WriteString, Len; what they leave as it was.
-/
import Derived.Test.YtpkiahpdoejbcaaDoorBuilder
namespace Go.Proofs.YtpkiahpdoejbcaaDoor
open Go.RowKit
set_option linter.unusedVariables false
set_option linter.unusedSimpArgs false
theorem lt_of_heap2 {w : World} {k : Nat} {o : Obj} (h : w.heap[k]? = some o) : k < w.heap.size := (Array.getElem?_eq_some_iff.1 h).1
/-- Blocks that are no bytes' and not the builder's stay. -/
def BldK (b : Nat) (w w' : World) : Prop := ∀ k cs T fr, k ≠ b → T ≠ 5 → w.heap[k]? = some (.cells cs T fr) → w'.heap[k]? = some (.cells cs T fr)
theorem BldK.refl (b : Nat) (w : World) : BldK b w w := fun k cs T fr _ _ h => h
theorem bldcheck2 (B b : Nat) (bs : List Value) (w : World) (h : Lib.IsBuilderF 50 5 B b bs w) :
    Calls Tryd.prog 37 #[.pointer (some ⟨b, 0, none⟩)] w fun e w' => e = .returned (.tuple #[]) ∧ (Lib.BuilderAtF 50 5 B b (.pointer (some ⟨b, 0, none⟩)) bs w' ∧ Below B w w' ∧ BldK b w w') := by
  rcases h with h | h
  · refine (check_fresh b w h.cell0 h.shape h.frozen0).mono ?_
    rintro e w' ⟨rfl, rfl⟩
    exact ⟨rfl, h.used _, (Below.refl B w).setCell (p := ⟨b, 0, none⟩) h.1 _, fun k cs T fr hkb _ hk => by rw [Below.heap_setCell _ _ _ _ hkb]; exact hk⟩
  · refine (check_used b w h.cell0).mono ?_
    rintro e w' ⟨rfl, rfl⟩
    exact ⟨rfl, h, Below.refl B _, BldK.refl b _⟩
def BldPost2 (B b : Nat) (l : List UInt8) (v : Value) (w : World) (e : Ending) (w' : World) : Prop := e = .returned v ∧ Bld B b l w' ∧ Below B w w' ∧ BldK b w w'
set_option maxHeartbeats 2000000 in
set_option maxRecDepth 100000 in
theorem bld_byte2 (B b : Nat) (l : List UInt8) (c : UInt8) (w : World) (h : Bld B b l w) (hlen : l.length + 1 ≤ 140737488355328) (hBw : B ≤ w.heap.size) :
    Calls Tryd.prog 58 #[.pointer (some ⟨b, 0, none⟩), .int .u8 (c.toNat : Int)] w (BldPost2 B b (l ++ [c]) .nilIface w) := by
  obtain ⟨i0, hi, hz0, hz1, hz2⟩ := info_parts bldString_extra.infoByte
  obtain ⟨bs, hbs⟩ : ∃ bs, Lib.byteCells l = bs := ⟨_, rfl⟩
  have hl : bs.length = l.length := by rw [← hbs]; exact Lib.byteCells_length l
  unfold Bld at h
  rw [hbs] at h
  have HBS := hid hbs
  have hlen' : bs.length + 1 ≤ 140737488355328 := by omega
  clear hbs hl hlen
  go_enter Tryd.func58, Tryd.ntmps58
  go_wp2_with (go_at_call 37; refine (bldcheck2 B b bs _ h).mono ?_)
  rintro e w1 ⟨rfl, h1, hb1, hk1⟩
  have HK1 := hid hk1
  clear hk1
  obtain ⟨hB, v, hbk, hown, hne⟩ := h1
  have c0 : w1.cell? ⟨b, 0, none⟩ = some (.pointer (some ⟨b, 0, none⟩)) := by rw [Lib.cell_of_heap hbk]; rfl
  have c1 : w1.cell? ⟨b, 1, none⟩ = some v := by rw [Lib.cell_of_heap hbk]; rfl
  go_wp2_with (at_builtin; refine wpList_append_ownF _ rfl _ _ 38 rfl B 5 i0 (.int .u8 0) 1 1 Tryd.underlying38 hi hz0 hz1 hz2 rfl (by decide) _ _ _ rfl (hown.alloc _) ⟨w1.heap.size, 0, none⟩ 1 1 [.int .u8 c.toNat] rfl rfl ?c1 ?c2 ?c3 ?c4 ?c5 ?_)
  case c1 =>
    intro j u hj
    match j, hj with
    | 0, hj => simp at hj; subst hj; simp [Addr.add]
  case c2 => intro u hu; simp at hu; subst hu; rfl
  case c3 => unfold maxLen; omega
  case c4 => omega
  case c5 => have := hb1.size; simp; omega
  intro v' w2 hown' hgrow _
  have HGB : Hid (∀ (k : Nat) (cs : Array Value) (T : TypeId) (fr : Nat × Nat), T ≠ 5 → w1.heap[k]? = some (Obj.cells cs T fr) → w2.heap[k]? = some (Obj.cells cs T fr)) := hid (fun k cs T fr hT hk => by
    have hkl := lt_of_heap2 hk
    refine (hgrow.block k (by first | exact hkl | (simp; omega)) (fun e => ?_)).trans ?_
    · rcases hown.2 with ⟨e2, _⟩ | ⟨g, cap, cur, fz, e2, _, hh, _⟩
      · rw [e2] at e; cases e
      · rw [e2] at e
        obtain rfl : k = g := by simpa [Value.ownBlock] using e
        rw [hk] at hh
        injection hh with hh
        injection hh with _ h8
        exact hT h8
    · first | exact hk | exact (Below.heap_alloc _ _ _ hkl).trans hk)
  have hlt : b < w1.heap.size := by
    rcases Nat.lt_or_ge b w1.heap.size with h' | h'
    · exact h'
    · simp [Array.getElem?_eq_none h'] at hbk
  have hb2 : w2.heap[b]? = some (.cells #[.pointer (some ⟨b, 0, none⟩), v] 50 (0, 0)) := by
    rw [hgrow.block b (by simp; omega) (fun e => hne e.symm), Lib.alloc_old w1 _ b hlt]
    exact hbk
  have d0 : w2.cell? ⟨b, 0, none⟩ = some (.pointer (some ⟨b, 0, none⟩)) := by rw [Lib.cell_of_heap hb2]; rfl
  have d1 : w2.cell? ⟨b, 1, none⟩ = some v := by rw [Lib.cell_of_heap hb2]; rfl
  have f1 : w2.frozen? ⟨b, 1, none⟩ = false := Lib.frozen_of_heap hb2 1
  obtain ⟨g, cap, rfl⟩ : ∃ g cap, v' = .slice (some ⟨g, 0, none⟩) (bs.length + 1) cap := by
    rcases hown'.2 with ⟨_, h0⟩ | ⟨g, cap, cur, fz, hv, _⟩
    · omega
    · exact ⟨g, cap, hv⟩
  go_wp2
  go_ret
  refine ⟨rfl, ?_, ?_, ?_⟩
  · unfold Bld
    rw [bytes_snoc, HBS.out]
    exact .inr (Lib.BuilderAtF.put (T := 50) (e := 5) hB hb2 (bs' := bs ++ [.int .u8 c.toNat]) (by simpa using hown') (by decide))
  · exact ((hb1.alloc (by have := hb1.size; omega) _).grown hgrow (by have := hb1.size; simp; omega) (fun k hk => (hown.lt k hk).1)).setCell (p := ⟨b, 1, none⟩) hB _
  · intro k cs T fr hkb hT hk
    have h3 := HK1.out k cs T fr hkb hT hk
    have h4 := HGB.out k cs T fr hT h3
    rw [Below.heap_setCell _ _ _ _ hkb]
    exact h4
set_option maxHeartbeats 2000000 in
set_option maxRecDepth 100000 in
theorem bld_text2 (B b : Nat) (l : List UInt8) (s : ByteArray) (w : World) (h : Bld B b l w) (hlen : l.length + s.size ≤ 140737488355328) (hBw : B ≤ w.heap.size) :
    Calls Tryd.prog 18 #[.pointer (some ⟨b, 0, none⟩), .string s] w (BldPost2 B b (l ++ s.data.toList) (.tuple #[.int .i64 s.size, .nilIface]) w) := by
  obtain ⟨i0, hi, hz0, hz1, hz2⟩ := info_parts bldString_extra.infoByte
  obtain ⟨bs, hbs⟩ : ∃ bs, Lib.byteCells l = bs := ⟨_, rfl⟩
  have hl : bs.length = l.length := by rw [← hbs]; exact Lib.byteCells_length l
  unfold Bld at h
  rw [hbs] at h
  have HBS := hid hbs
  have hlen' : bs.length + s.size ≤ 140737488355328 := by omega
  clear hbs hl hlen
  go_enter Tryd.func18, Tryd.ntmps18
  go_wp2_with (go_at_call 37; refine (bldcheck2 B b bs _ h).mono ?_)
  rintro e w1 ⟨rfl, h1, hb1, hk1⟩
  have HK1 := hid hk1
  clear hk1
  obtain ⟨hB, v, hbk, hown, hne⟩ := h1
  have c0 : w1.cell? ⟨b, 0, none⟩ = some (.pointer (some ⟨b, 0, none⟩)) := by rw [Lib.cell_of_heap hbk]; rfl
  have c1 : w1.cell? ⟨b, 1, none⟩ = some v := by rw [Lib.cell_of_heap hbk]; rfl
  go_wp2_with (at_builtin; refine Lib.wpList_append_own_stringF _ rfl _ _ 38 9 rfl B 5 i0 Tryd.underlying38 Tryd.underlying9 hi hz0 hz1 hz2 _ _ _ rfl hown s rfl ?c3 ?c4 ?c5 ?_)
  case c3 => unfold maxLen; omega
  case c4 => omega
  case c5 => have := hb1.size; omega
  intro v' w2 hown' hgrow _
  have HGB : Hid (∀ (k : Nat) (cs : Array Value) (T : TypeId) (fr : Nat × Nat), T ≠ 5 → w1.heap[k]? = some (Obj.cells cs T fr) → w2.heap[k]? = some (Obj.cells cs T fr)) := hid (fun k cs T fr hT hk => by
    have hkl := lt_of_heap2 hk
    refine (hgrow.block k (by first | exact hkl | (simp; omega)) (fun e => ?_)).trans ?_
    · rcases hown.2 with ⟨e2, _⟩ | ⟨g, cap, cur, fz, e2, _, hh, _⟩
      · rw [e2] at e; cases e
      · rw [e2] at e
        obtain rfl : k = g := by simpa [Value.ownBlock] using e
        rw [hk] at hh
        injection hh with hh
        injection hh with _ h8
        exact hT h8
    · first | exact hk | exact (Below.heap_alloc _ _ _ hkl).trans hk)
  have hlt : b < w1.heap.size := by
    rcases Nat.lt_or_ge b w1.heap.size with h' | h'
    · exact h'
    · simp [Array.getElem?_eq_none h'] at hbk
  have hb2 : w2.heap[b]? = some (.cells #[.pointer (some ⟨b, 0, none⟩), v] 50 (0, 0)) := by
    rw [hgrow.block b hlt (fun e => hne e.symm)]
    exact hbk
  have d0 : w2.cell? ⟨b, 0, none⟩ = some (.pointer (some ⟨b, 0, none⟩)) := by rw [Lib.cell_of_heap hb2]; rfl
  have d1 : w2.cell? ⟨b, 1, none⟩ = some v := by rw [Lib.cell_of_heap hb2]; rfl
  have f1 : w2.frozen? ⟨b, 1, none⟩ = false := Lib.frozen_of_heap hb2 1
  obtain ⟨ao, n', cap, rfl⟩ : ∃ ao n' cap, v' = .slice ao n' cap := by
    rcases hown'.2 with ⟨hv, _⟩ | ⟨g, cap, cur, fz, hv, _⟩
    · exact ⟨_, _, _, hv⟩
    · exact ⟨_, _, _, hv⟩
  go_wp2
  go_ret2
  refine ⟨rfl, ?_, ?_, ?_⟩
  · unfold Bld
    rw [bytes_app, HBS.out]
    exact .inr (Lib.BuilderAtF.put (T := 50) (e := 5) hB hb2 (bs' := bs ++ Lib.strCells s) (by simpa [Lib.strCells_length] using hown') (by decide))
  · exact (hb1.grown hgrow (by have := hb1.size; omega) (fun k hk => (hown.lt k hk).1)).setCell (p := ⟨b, 1, none⟩) hB _
  · intro k cs T fr hkb hT hk
    have h3 := HK1.out k cs T fr hkb hT hk
    have h4 := HGB.out k cs T fr hT h3
    rw [Below.heap_setCell _ _ _ _ hkb]
    exact h4
end Go.Proofs.YtpkiahpdoejbcaaDoor

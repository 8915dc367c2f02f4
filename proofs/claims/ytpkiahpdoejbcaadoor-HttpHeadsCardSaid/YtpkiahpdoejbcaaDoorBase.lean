/-
  First words over any program: a fact kept from the walk; stores and blocks.
-/
import Derived.WalkKit
import Derived.WalkSpells
import Derived.WalkLawsBesides
namespace Go.Proofs.YtpkiahpdoejbcaaDoor
open Go.RowKit

/-- A fact kept from the walk. -/
theorem hid {p : Prop} (h : p) : RowKit.Hid p := h
theorem lt_of_cell {w : World} {a : Addr} {v : Value} (h : w.cell? a = some v) : a.block < w.heap.size := by
  rcases Nat.lt_or_ge a.block w.heap.size with h' | h'
  · exact h'
  · simp [World.cell?, Array.getElem?_eq_none h'] at h
/-- A store into one old block on both sides. -/
theorem below_setCell_both {B : Nat} {w w' : World} (h : Below B w w') (t : Addr) (v : Value) : Below B (w.setCell t v) (w'.setCell t v) := by
  refine ⟨h.os, h.tape, h.output, ?_, fun k hk => ?_⟩
  · have := h.size; simp [World.setCell]; omega
  · by_cases e : k = t.block
    · subst e; have := h.block t.block hk; simp only [World.setCell, Array.getElem?_modify]; rw [this]
    · rw [Below.heap_setCell _ _ _ _ e, Below.heap_setCell _ _ _ _ e]; exact h.block k hk
theorem below_of_set {w w1 : World} {o : Obj} {v : Value} (h : Below (w.alloc o).heap.size ((w.alloc o).setCell ⟨w.heap.size, 0, none⟩ v) w1) : Below w.heap.size w w1 :=
  (((Below.refl w.heap.size w).alloc (Nat.le_refl _) o).setCell (p := ⟨w.heap.size, 0, none⟩) (Nat.le_refl _) v).trans (h.mono (by simp))
theorem cell_of_set {w w1 : World} {T : TypeId} {v0 v : Value} (h : Below (w.alloc (.cells #[v0] T)).heap.size ((w.alloc (.cells #[v0] T)).setCell ⟨w.heap.size, 0, none⟩ v) w1) : w1.cell? ⟨w.heap.size, 0, none⟩ = some v := by
  rw [h.cell (p := ⟨w.heap.size, 0, none⟩) (by simp)]
  exact World.cell?_setCell_same (u := v0) _ _ _ (by simp)

end Go.Proofs.YtpkiahpdoejbcaaDoor

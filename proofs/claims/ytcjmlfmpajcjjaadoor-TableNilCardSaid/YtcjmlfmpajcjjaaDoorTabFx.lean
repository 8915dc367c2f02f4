/-
  What a walk over a range over a function imports.
-/
import Derived.RangeFuncNested
import Derived.RangeFuncBound
import Derived.RangeFuncCalls
import Derived.RangeFuncLeaves
import Derived.Shelf.Abstract
import Derived.Shelf.RegionOpen
import Derived.WalkKit
import Derived.OwnWalkIn
import Derived.TacticsInMore
import Derived.LoopNIn
import Derived.LoopIn
import Derived.RegionIn
import Derived.Test.YtcjmlfmpajcjjaaDoorTabAlive
namespace Go.Proofs.YtcjmlfmpajcjjaaDoor
open Go.RowKit Go.Shelf
set_option linter.unusedVariables false
theorem grown_below {w w' : World} (h : Below w.heap.size w w') : w.grownBy w' none := ⟨h.os, h.tape, h.output, h.size, fun i hi _ => h.block i hi⟩
/-- A box. -/
def Bx (W : World) (b : Nat) (v : Value) : Prop := W.cell? ⟨b, 0, none⟩ = some v ∧ W.frozen? ⟨b, 0, none⟩ = false
theorem Bx.new (W : World) (v : Value) (t : TypeId) : Bx (W.alloc (.cells #[v] t)) W.heap.size v := by
  have h := World.alloc_heap_new W (.cells #[v] t)
  refine ⟨?_, ?_⟩
  · unfold World.cell?; simp only [h]; rfl
  · unfold World.frozen?; simp only [h]; rfl
theorem Bx.kept {A B : World} {b : Nat} {v : Value} {row : Option Nat} (h : Bx A b v) (hg : A.grownBy B row) (hr : ∀ r, row = some r → ∃ o : Obj, A.heap[r]? = some o ∧ o.isCells = false) : Bx B b v :=
  ⟨cell_kept h.1 hg hr, (frozen_kept h.1 hg hr).trans h.2⟩
theorem Bx.alloc {W : World} {b : Nat} {v : Value} (h : Bx W b v) (o : Obj) : Bx (W.alloc o) b v := h.kept (World.grownBy_alloc W o none) (fun r e => by cases e)
theorem Bx.lt {W : World} {b : Nat} {v : Value} (h : Bx W b v) : b < W.heap.size := lt_of_cell h.1
theorem Bx.below {A B : World} {b : Nat} {v : Value} (h : Bx A b v) (hb : Below A.heap.size A B) : Bx B b v := h.kept (grown_below hb) (fun r e => by cases e)
theorem Bx.set {W : World} {b : Nat} {v : Value} (h : Bx W b v) (u : Value) : Bx (W.setCell ⟨b, 0, none⟩ u) b u :=
  ⟨World.cell?_setCell_same' _ _ _ (by rw [h.1]; rfl), by rw [World.frozen?_setCell]; exact h.2⟩
theorem Bx.new' {W : World} {b : Nat} {v : Value} {t : TypeId} (h : b = W.heap.size) : Bx (W.alloc (.cells #[v] t)) b v := h ▸ Bx.new W v t
theorem Bx.put {W : World} {b : Nat} {v : Value} (h : Bx W b v) {p : Addr} (hp : b ≠ p.block) (u : Value) : Bx (W.setCell p u) b v :=
  ⟨(World.cell?_setCell_other _ _ _ _ (by intro e; apply hp; rw [e])).trans h.1, by rw [World.frozen?_setCell]; exact h.2⟩
theorem at_world {F : Fence} {n : Nat} {P : Program} {c : Code} {Q : Exit → Act → World → Prop} {a : Act} {w0 : World} (Φ : World → Prop) (h : Φ w0) (k : ∀ w, Φ w → c.wpIn F n P Q a w) : c.wpIn F n P Q a w0 := k _ h
theorem at_post {F : Fence} {n : Nat} {P : Program} {fn : Func} {R : Ending → World → Prop} {A : Act} {y0 : World} (Φ : World → Prop) (h : Φ y0) (k : ∀ y, Φ y → bodyPostM F n P fn R .ret A y) : bodyPostM F n P fn R .ret A y0 := k _ h
theorem put_other {x : World} {D E : Nat} {o o' : Obj} (h : x.heap[E]? = some o) (hne : D ≠ E) : (x.putObj D o').heap[E]? = some o := by
  simp only [World.putObj]
  rw [Array.getElem?_setIfInBounds_ne hne]
  exact h
theorem below_put {w x : World} {D : Nat} {o : Obj} (h : Below w.heap.size w x) (hD : w.heap.size ≤ D) (hk : x.heap[D]? = some (.deferred (some []))) : Below w.heap.size w (x.putObj D o) :=
  h.trans (belowK_b (w := w) (Nat.le_refl _) x D _ _ hD hk rfl rfl)
end Go.Proofs.YtcjmlfmpajcjjaaDoor

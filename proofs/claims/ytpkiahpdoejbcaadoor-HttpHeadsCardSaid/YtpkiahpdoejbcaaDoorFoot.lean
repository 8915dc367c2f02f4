/-
  What a call may write: a set of blocks. 'Mod S w w'': outside S, what was there is there. 'Step F w w' F'': a thing that lay in the blocks F lies now in the blocks F'.
-/
import Derived.Test.YtpkiahpdoejbcaaDoorWords
import Derived.OneCell
namespace Go.Proofs.YtpkiahpdoejbcaaDoor
open Go.RowKit
set_option linter.unusedVariables false

structure Mod (S : Nat → Prop) (w w' : World) : Prop where
  os : w'.os = w.os
  tape : w'.tape = w.tape
  output : w'.output = w.output
  size : w.heap.size ≤ w'.heap.size
  block : ∀ k, k < w.heap.size → ¬ S k → w'.heap[k]? = w.heap[k]?

theorem Mod.refl (S : Nat → Prop) (w : World) : Mod S w w := ⟨rfl, rfl, rfl, Nat.le_refl _, fun _ _ _ => rfl⟩
theorem Mod.trans {S S' : Nat → Prop} {a b c : World} (h : Mod S a b) (k : Mod S' b c) (hS : ∀ x, S' x → S x ∨ a.heap.size ≤ x) : Mod S a c :=
  ⟨k.os.trans h.os, k.tape.trans h.tape, k.output.trans h.output, Nat.le_trans h.size k.size, fun i hi hn =>
    (k.block i (Nat.lt_of_lt_of_le hi h.size) (fun e => by rcases hS i e with e | e; exact hn e; omega)).trans (h.block i hi hn)⟩
theorem Mod.mono {S S' : Nat → Prop} {a b : World} (h : Mod S a b) (hS : ∀ x, x < a.heap.size → S x → S' x) : Mod S' a b := ⟨h.os, h.tape, h.output, h.size, fun k hk hn => h.block k hk (fun e => hn (hS k hk e))⟩
theorem Mod.drew {S : Nat → Prop} {a b : World} (h : Mod S a b) : Mod S a b.drew := ⟨h.os, h.tape, h.output, h.size, h.block⟩
theorem Mod.alloc {S : Nat → Prop} {a b : World} (h : Mod S a b) (o : Obj) : Mod S a (b.alloc o) :=
  ⟨h.os, h.tape, h.output, by have := h.size; simp; omega, fun k hk hn => by rw [Below.heap_alloc _ _ _ (by have := h.size; omega)]; exact h.block k hk hn⟩
theorem Mod.setCell {S : Nat → Prop} {a b : World} (h : Mod S a b) (p : Addr) (v : Value) (hp : S p.block ∨ a.heap.size ≤ p.block) : Mod S a (b.setCell p v) :=
  ⟨h.os, h.tape, h.output, by have := h.size; simp [World.setCell]; exact this, fun k hk hn => by
    rw [Below.heap_setCell _ _ _ _ (fun e => by subst e; rcases hp with hp | hp; exact hn hp; omega)]; exact h.block k hk hn⟩
theorem Mod.below {S : Nat → Prop} {w w' : World} (h : Mod S w w') {B : Nat} (hB : B ≤ w.heap.size) (hS : ∀ x, S x → B ≤ x) : Below B w w' :=
  ⟨h.os, h.tape, h.output, h.size, fun k hk => h.block k (by omega) (fun e => by have := hS k e; omega)⟩
theorem Mod.of_below {B : Nat} {w w' : World} (h : Below B w w') {S : Nat → Prop} (hS : ∀ x, x < w.heap.size → B ≤ x → S x) : Mod S w w' :=
  ⟨h.os, h.tape, h.output, h.size, fun k hk hn => h.block k (by rcases Nat.lt_or_ge k B with e | e; exact e; exact absurd (hS k hk e) hn)⟩
theorem Mod.new {w w' : World} (h : Below w.heap.size w w') (S : Nat → Prop) : Mod S w w' := Mod.of_below h (fun x h1 h2 => by omega)
theorem Mod.grown {S : Nat → Prop} {a b c : World} {row : Option Nat} (h : Mod S a b) (hg : b.grownBy c row) (hr : ∀ k, row = some k → S k ∨ a.heap.size ≤ k) : Mod S a c :=
  ⟨hg.os.trans h.os, hg.tape.trans h.tape, hg.output.trans h.output, Nat.le_trans h.size hg.size, fun k hk hn =>
    (hg.block k (Nat.lt_of_lt_of_le hk h.size) (fun e => by rcases hr k e.symm with e | e; exact hn e; omega)).trans (h.block k hk hn)⟩
theorem Mod.cell {S : Nat → Prop} {w w' : World} (h : Mod S w w') {p : Addr} {v : Value} (hc : w.cell? p = some v) (hn : ¬ S p.block) : w'.cell? p = some v :=
  (World.cell?_of_block (w := w) (h.block p.block (lt_of_cell hc) hn)).trans hc
theorem lt_of_heap {w : World} {k : Nat} {o : Obj} (h : w.heap[k]? = some o) : k < w.heap.size := (Array.getElem?_eq_some_iff.1 h).1
theorem Mod.heap {S : Nat → Prop} {w w' : World} (h : Mod S w w') {k : Nat} {o : Obj} (hc : w.heap[k]? = some o) (hn : ¬ S k) : w'.heap[k]? = some o :=
  (h.block k (lt_of_heap hc) hn).trans hc

/-- A thing that lay in F lies in F'; nothing else that was there was written. -/
structure Step (F : Nat → Prop) (w w' : World) (F' : Nat → Prop) : Prop where
  mod : Mod F w w'
  foot : ∀ k, F' k → F k ∨ w.heap.size ≤ k
theorem Step.refl (F : Nat → Prop) (w : World) : Step F w w F := ⟨Mod.refl _ _, fun _ h => .inl h⟩
theorem Step.trans {F G H : Nat → Prop} {a b c : World} (h : Step F a b G) (k : Step G b c H) : Step F a c H :=
  ⟨h.mod.trans k.mod h.foot, fun x hx => by
    rcases k.foot x hx with e | e
    · exact h.foot x e
    · exact .inr (Nat.le_trans h.mod.size e)⟩
/-- Beside a call that writes nothing that was there. -/
theorem Step.then_new {F G : Nat → Prop} {a b c : World} (h : Step F a b G) (k : Below b.heap.size b c) : Step F a c G :=
  h.trans ⟨Mod.new k _, fun _ e => .inl e⟩
theorem Step.new_then {F G : Nat → Prop} {a b c : World} (h : Below a.heap.size a b) (k : Step F b c G) : Step F a c G :=
  Step.trans ⟨Mod.new h _, fun _ e => .inl e⟩ k
theorem Step.below {F F' : Nat → Prop} {w w' : World} (h : Step F w w' F') {B : Nat} (hB : B ≤ w.heap.size) (hF : ∀ x, F x → B ≤ x) : Below B w w' ∧ ∀ x, F' x → B ≤ x :=
  ⟨h.mod.below hB hF, fun x hx => by rcases h.foot x hx with e | e; exact hF x e; omega⟩
end Go.Proofs.YtpkiahpdoejbcaaDoor

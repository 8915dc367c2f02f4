/-
  Words of the statement UtfAll: boxes of one cell, what a round keeps.
-/
import Derived.Test.YtjbfkblobaikdaaDoorUtfAllPure
namespace Go.Proofs.YtjbfkblobaikdaaDoor
open Go.RowKit Go.Shelf
attribute [local go_sem] Oper.semAt_some
set_option linter.unusedVariables false

/-- A box of one cell. -/
def Bx (W : World) (b : Nat) (v : Value) : Prop := W.cell? ⟨b, 0, none⟩ = some v ∧ W.frozen? ⟨b, 0, none⟩ = false
theorem Bx.new (W : World) (v : Value) (t : TypeId) : Bx (W.alloc (.cells #[v] t)) W.heap.size v := by
  have h := World.alloc_heap_new W (.cells #[v] t)
  refine ⟨?_, ?_⟩
  · unfold World.cell?; simp only [h]; rfl
  · unfold World.frozen?; simp only [h]; rfl
theorem Bx.kept {A B : World} {b : Nat} {v : Value} {row : Option Nat} (h : Bx A b v) (hg : A.grownBy B row) (hr : ∀ r, row = some r → ∃ o : Obj, A.heap[r]? = some o ∧ o.isCells = false) : Bx B b v :=
  ⟨cell_kept h.1 hg hr, (frozen_kept h.1 hg hr).trans h.2⟩
theorem Bx.alloc {W : World} {b : Nat} {v : Value} (h : Bx W b v) (o : Obj) : Bx (W.alloc o) b v := h.kept (World.grownBy_alloc W o none) (fun r e => by cases e)
theorem Bx.lt {W : World} {b : Nat} {v : Value} (h : Bx W b v) : b < W.heap.size := lt_of_cell h.1
theorem Bx.below {A B : World} {b : Nat} {v : Value} (h : Bx A b v) (hb : Below A.heap.size A B) : Bx B b v := h.kept (grown_below hb) (fun r e => by cases e)
theorem Bx.set {W : World} {b : Nat} {v : Value} (h : Bx W b v) (u : Value) : Bx (W.setCell ⟨b, 0, none⟩ u) b u :=
  ⟨World.cell?_setCell_same' _ _ _ (by rw [h.1]; rfl), by rw [World.frozen?_setCell]; exact h.2⟩
theorem Bx.new' {W : World} {b : Nat} {v : Value} {t : TypeId} (h : b = W.heap.size) : Bx (W.alloc (.cells #[v] t)) b v := h ▸ Bx.new W v t
theorem Bx.put {W : World} {b : Nat} {v : Value} (h : Bx W b v) {p : Addr} (hp : b ≠ p.block) (u : Value) : Bx (W.setCell p u) b v :=
  ⟨(World.cell?_setCell_other _ _ _ _ (by intro e; apply hp; rw [e])).trans h.1, by rw [World.frozen?_setCell]; exact h.2⟩
theorem at_world {F : Fence} {n : Nat} {P : Program} {c : Code} {Q : Exit → Act → World → Prop} {a : Act} {w0 : World} (Φ : World → Prop) (h : Φ w0) (k : ∀ w, Φ w → c.wpIn F n P Q a w) : c.wpIn F n P Q a w0 := k _ h
theorem at_exit {K : Act → World → Prop} {Q : Exit → Act → World → Prop} {A : Act} {y0 : World} (Φ : World → Prop) (h : Φ y0) (k : ∀ y, Φ y → Exit.then K Q .normal A y) : Exit.then K Q .normal A y0 := k _ h
theorem all_any (s : ByteArray) (w : World) : Calls Tryd.prog 16 #[.string s] w fun e w' => ∃ T, e = .returned (.func (.func 20) #[] #[.pointer (some ⟨w.heap.size, 0, none⟩)]) ∧ w' = w.alloc (.cells #[.string s] T) := by
  go_enter Tryd.func16, Tryd.ntmps16
  go_wp2
  go_ret
  exact ⟨_, rfl, rfl⟩
theorem eq_fnIn (w : World) (d : Nat) (lb : Array Value) : (Op.equalIn (d + 1) 37 (Value.func (.func 20) #[] lb) Value.nilFunc).run Tryd.prog w = .ok false w := by
  simp [Op.equalIn, run_underlying Tryd.underlying37]
theorem eq_fnE (w : World) (lb : Array Value) : (Op.equal 37 (Value.func (.func 20) #[] lb) Value.nilFunc).run Tryd.prog w = .ok false w := eq_fnIn w 9999 lb
theorem eq_fn (w : World) (lb : Array Value) : (binOp BinOp.eql 37 (Value.func (.func 20) #[] lb) Value.nilFunc).run Tryd.prog w = .ok (.bool false) w := by
  simp only [binOp]
  simp [eq_fnE w lb]
/-- The letters are good while each stands behind the bytes of those before it. -/
def GoodP (pre : List (Int × Int)) : Prop := ∀ (q : List (Int × Int)) (x : Int × Int), q ++ [x] <+: pre → x.1 = ((catS q).length : Int) ∧ 0 ≤ x.2
/-- What the turn's own boxes hold. -/
def IAll (s : ByteArray) (w : World) (stop : Int) (B : Nat) (turn : Int) (pre : List (Int × Int)) (W : World) : Prop :=
  (∃ t : ByteArray, t.data.toList = catS pre ∧ Bx W (B + 2) (.string t)) ∧ Bx W (B + 1) (.int .i64 ((catS pre).length : Int)) ∧ Bx W (B + 3) (.int .i64 (pre.length : Int)) ∧ Bx W B (.int .i64 turn) ∧
    Bx W w.heap.size (.int .u8 stop) ∧ Bx W (w.heap.size + 1) (.bool false) ∧ GoodP pre
/-- How a round leaves: by 'return' where a letter is not where it should be, by 'break' with all in place. -/
def XAll (s : ByteArray) (w : World) (stop : Int) (B : Nat) (c : Code) (pre : List (Int × Int)) (W : World) : Prop :=
  (c = .ret ∧ ¬ GoodP pre) ∨ (c = .exit 2 ∧ IAll s w stop B 0 pre W)
theorem good_nil : GoodP [] := fun q x h => by simp at h
theorem iall_kept {s : ByteArray} {w : World} {stop : Int} {B : Nat} {turn : Int} {pre : List (Int × Int)} {X Y : World} {row : Option Nat} (h : IAll s w stop B turn pre X) (hg : X.grownBy Y row) (hr : ∀ r, row = some r → ∃ o : Obj, X.heap[r]? = some o ∧ o.isCells = false) : IAll s w stop B turn pre Y := by
  obtain ⟨⟨t, ht, b2⟩, b1, b3, b0, bs, br, hgd⟩ := h
  exact ⟨⟨t, ht, b2.kept hg hr⟩, b1.kept hg hr, b3.kept hg hr, b0.kept hg hr, bs.kept hg hr, br.kept hg hr, hgd⟩
theorem xall_kept {s : ByteArray} {w : World} {stop : Int} {B : Nat} {c : Code} {pre : List (Int × Int)} {X Y : World} {row : Option Nat} (h : XAll s w stop B c pre X) (hg : X.grownBy Y row) (hr : ∀ r, row = some r → ∃ o : Obj, X.heap[r]? = some o ∧ o.isCells = false) : XAll s w stop B c pre Y := by
  rcases h with h | ⟨h1, h2⟩
  · exact .inl h
  · exact .inr ⟨h1, iall_kept h2 hg hr⟩
theorem iall_own {s : ByteArray} {w : World} {stop : Int} {B : Nat} {turn : Int} (D : Nat) : OwnFrom D (IAll s w stop B turn) := fun pre X Y row h hg hr => iall_kept h hg (fun r e => (hr r e).2)
theorem xall_own {s : ByteArray} {w : World} {stop : Int} {B : Nat} {c : Code} (D : Nat) : OwnFrom D (XAll s w stop B c) := fun pre X Y row h hg hr => xall_kept h hg (fun r e => (hr r e).2)
theorem not_good {pre : List (Int × Int)} {x : Int × Int} (h : ¬ (x.1 = ((catS pre).length : Int) ∧ 0 ≤ x.2)) : ¬ GoodP (pre ++ [x]) := fun hg => h (hg pre x (List.prefix_refl _))
theorem good_snoc {pre : List (Int × Int)} {x : Int × Int} (h : GoodP pre) (h1 : x.1 = ((catS pre).length : Int)) (h2 : 0 ≤ x.2) : GoodP (pre ++ [x]) := by
  intro q y hq
  rcases List.prefix_concat_iff.1 hq with h3 | h3
  · obtain ⟨rfl, rfl⟩ := List.append_singleton_inj.1 h3
    exact ⟨h1, h2⟩
  · exact h q y h3
theorem catS_snoc (pre : List (Int × Int)) (x : Int × Int) : catS (pre ++ [x]) = catS pre ++ putS x.2 := by simp [catS]
theorem putS_le (n : Int) : (putS n).length ≤ 4 := by
  unfold putS
  split
  · exact (put_length _).2
  · simp
theorem catS_le (pre : List (Int × Int)) : (catS pre).length ≤ 4 * pre.length := by
  induction pre with
  | nil => simp [catS]
  | cons x r ih =>
    have h : catS (x :: r) = putS x.2 ++ catS r := by simp [catS]
    have h1 := putS_le x.2
    rw [h, List.length_append, List.length_cons]
    omega
/-- The world within a round. -/
structure Rd (w : World) (B : Nat) (stop turn : Int) (W : World) (t : ByteArray) (a n : Int) (y : World) : Prop where
  lt : w.heap.size + 2 ≤ B
  b2 : Bx y (B + 2) (.string t)
  b1 : Bx y (B + 1) (.int .i64 a)
  b3 : Bx y (B + 3) (.int .i64 n)
  b0 : Bx y B (.int .i64 turn)
  bs : Bx y w.heap.size (.int .u8 stop)
  br : Bx y (w.heap.size + 1) (.bool false)
  bl : Below w.heap.size w y
  kp : KeepsOthers W y
  bk : Below B W y
theorem Rd.call {w : World} {B : Nat} {stop turn : Int} {W : World} {t : ByteArray} {a n : Int} {y z : World} (h : Rd w B stop turn W t a n y) (hb : Below y.heap.size y z) : Rd w B stop turn W t a n z :=
  ⟨h.lt, h.b2.below hb, h.b1.below hb, h.b3.below hb, h.b0.below hb, h.bs.below hb, h.br.below hb, below_then h.bl hb, h.kp.trans (KeepsOthers.of_grownBy (grown_below hb) (by simp)), h.bk.trans (hb.mono (by have := h.b0.lt; omega))⟩
theorem Rd.drew {w : World} {B : Nat} {stop turn : Int} {W : World} {t : ByteArray} {a n : Int} {y : World} (h : Rd w B stop turn W t a n y) : Rd w B stop turn W t a n y.drew := h.call (Below.drew (Below.refl _ _))
theorem Rd.text {w : World} {B : Nat} {stop turn : Int} {W : World} {t : ByteArray} {a n : Int} {y : World} (h : Rd w B stop turn W t a n y) (u : ByteArray) : Rd w B stop turn W u a n (y.setCell ⟨B + 2, 0, none⟩ (.string u)) :=
  have l := h.lt
  ⟨l, h.b2.set _, h.b1.put (by simp) _, h.b3.put (by simp) _, h.b0.put (by simp) _, h.bs.put (by simp; omega) _, h.br.put (by simp; omega) _, h.bl.setCell (by simp; omega) _, h.kp.trans (KeepsOthers.setCell _ _ _), h.bk.setCell (by simp) _⟩
theorem Rd.at_ {w : World} {B : Nat} {stop turn : Int} {W : World} {t : ByteArray} {a n : Int} {y : World} (h : Rd w B stop turn W t a n y) (u : Int) : Rd w B stop turn W t u n (y.setCell ⟨B + 1, 0, none⟩ (.int .i64 u)) :=
  have l := h.lt
  ⟨l, h.b2.put (by simp) _, h.b1.set _, h.b3.put (by simp) _, h.b0.put (by simp) _, h.bs.put (by simp; omega) _, h.br.put (by simp; omega) _, h.bl.setCell (by simp; omega) _, h.kp.trans (KeepsOthers.setCell _ _ _), h.bk.setCell (by simp) _⟩
theorem Rd.n_ {w : World} {B : Nat} {stop turn : Int} {W : World} {t : ByteArray} {a n : Int} {y : World} (h : Rd w B stop turn W t a n y) (u : Int) : Rd w B stop turn W t a u (y.setCell ⟨B + 3, 0, none⟩ (.int .i64 u)) :=
  have l := h.lt
  ⟨l, h.b2.put (by simp) _, h.b1.put (by simp) _, h.b3.set _, h.b0.put (by simp) _, h.bs.put (by simp; omega) _, h.br.put (by simp; omega) _, h.bl.setCell (by simp; omega) _, h.kp.trans (KeepsOthers.setCell _ _ _), h.bk.setCell (by simp) _⟩
theorem Rd.iall {s : ByteArray} {w : World} {B : Nat} {stop turn : Int} {W : World} {t p : ByteArray} {y : World} {pre : List (Int × Int)} {x : Int × Int} {a n : Int} (h : Rd w B stop turn W (t ++ p) a n y) (ht : t.data.toList = catS pre) (hp : p.data.toList = putS x.2) (ha : a = ((catS pre).length : Int) + (p.size : Int)) (hn : n = (pre.length : Int) + 1) (hg : GoodP (pre ++ [x])) : IAll s w stop B turn (pre ++ [x]) y := by
  have e1 : catS (pre ++ [x]) = catS pre ++ putS x.2 := catS_snoc pre x
  have e2 : (t ++ p).data.toList = catS pre ++ putS x.2 := by rw [← ht, ← hp]; simp
  have e3 := str_len p
  refine ⟨⟨t ++ p, by rw [e2, e1], h.b2⟩, ?_, ?_, h.b0, h.bs, h.br, hg⟩
  · have h1 := h.b1
    rw [ha] at h1
    rw [e1, List.length_append, ← hp, e3, Int.natCast_add]
    exact h1
  · have h1 := h.b3
    rw [hn] at h1
    rw [List.length_append]
    simpa using h1
theorem lt_of_obj {w : World} {k : Nat} {o : Obj} (h : w.heap[k]? = some o) : k < w.heap.size := (Array.getElem?_eq_some_iff.1 h).1
theorem at_post {F : Fence} {n : Nat} {P : Program} {fn : Func} {R : Ending → World → Prop} {A : Act} {y0 : World} (Φ : World → Prop) (h : Φ y0) (k : ∀ y, Φ y → bodyPostM F n P fn R .ret A y) : bodyPostM F n P fn R .ret A y0 := k _ h
theorem put_other {x : World} {D E : Nat} {o o' : Obj} (h : x.heap[E]? = some o) (hne : D ≠ E) : (x.putObj D o').heap[E]? = some o := by
  simp only [World.putObj]
  rw [Array.getElem?_setIfInBounds_ne hne]
  exact h
theorem below_put {w x : World} {D : Nat} {o : Obj} (h : Below w.heap.size w x) (hD : w.heap.size ≤ D) (hk : x.heap[D]? = some (.deferred (some []))) : Below w.heap.size w (x.putObj D o) :=
  h.trans (belowK_b (w := w) (Nat.le_refl _) x D _ _ hD hk rfl rfl)
theorem Bx.under {A C : World} {b B : Nat} {v : Value} (h : Bx A b v) (hb : Below B A C) (hlt : b < B) : Bx C b v :=
  ⟨(hb.cell (p := ⟨b, 0, none⟩) hlt).trans h.1, (hb.frozen (p := ⟨b, 0, none⟩) hlt).trans h.2⟩
/-- What holds between two rounds: the boxes, what lay ahead of the call, what lay below the turn's own boxes. -/
def IB (s : ByteArray) (w : World) (stop : Int) (B : Nat) (turn : Int) (w0 : World) (pre : List (Int × Int)) (W : World) : Prop := IAll s w stop B turn pre W ∧ Below w.heap.size w W ∧ Below B w0 W
/-- How a round leaves. -/
def XB (s : ByteArray) (w : World) (stop : Int) (B : Nat) (turn : Int) (w0 : World) (c : Code) (pre : List (Int × Int)) (W : World) : Prop := (c = .ret ∧ ¬ GoodP pre) ∨ (c = .exit 2 ∧ turn = 0 ∧ IB s w stop B turn w0 pre W)
theorem ib_own {s : ByteArray} {w : World} {stop : Int} {B : Nat} {turn : Int} {w0 : World} {D : Nat} (h1 : w.heap.size ≤ D) (h0 : B ≤ w0.heap.size) (h2 : B ≤ D) : OwnFrom D (IB s w stop B turn w0) :=
  OwnFrom.and (iall_own _) (OwnFrom.and (ownFrom_below (Nat.le_refl _) h1) (ownFrom_below h0 h2))
theorem xb_own {s : ByteArray} {w : World} {stop : Int} {B : Nat} {turn : Int} {w0 : World} {c : Code} {D : Nat} (h1 : w.heap.size ≤ D) (h0 : B ≤ w0.heap.size) (h2 : B ≤ D) : OwnFrom D (XB s w stop B turn w0 c) := fun pre X Y row h hg hr => by
  rcases h with h | ⟨e, e2, h⟩
  · exact .inl h
  · exact .inr ⟨e, e2, ib_own h1 h0 h2 pre X Y row h hg hr⟩
end Go.Proofs.YtjbfkblobaikdaaDoor

/-
  Rows that rise by their keys: put, drop, what is in them.
-/
import Derived.Test.YtcjmlfmpajcjjaaDoorTabFind
namespace Go.Proofs.YtcjmlfmpajcjjaaDoor
open Go.RowKit
open Go.Proofs.YtcjmlfmpajcjjaaDoorW.PrintWords (Kd rdOf)
open Go.Proofs.YtcjmlfmpajcjjaaDoor.PTableLast
set_option linter.unusedVariables false
theorem bl_tri (a b : List UInt8) (h1 : ¬ a < b) (h2 : ¬ b < a) : a = b := by
  induction a generalizing b with
  | nil => cases b with
    | nil => rfl
    | cons y ys => exact absurd (List.nil_lt_cons y ys) h1
  | cons x xs ih => cases b with
    | nil => exact absurd (List.nil_lt_cons x xs) h2
    | cons y ys =>
      rw [List.cons_lt_cons_iff] at h1 h2
      have hxy : x = y := by
        rcases Nat.lt_trichotomy x.toNat y.toNat with e | e | e
        · exact absurd (.inl (UInt8.lt_iff_toNat_lt.2 e)) h1
        · exact UInt8.toNat_inj.1 e
        · exact absurd (.inl (UInt8.lt_iff_toNat_lt.2 e)) h2
      subst hxy
      rw [ih ys (fun e => h1 (.inr ⟨rfl, e⟩)) (fun e => h2 (.inr ⟨rfl, e⟩))]
theorem bl_irr (a : List UInt8) : ¬ a < a := List.lt_irrefl a
theorem bl_trans {a b c : List UInt8} (h : a < b) (k : b < c) : a < c := List.lt_trans h k
def KLt (x y : Ent) : Prop := x.f0.toList < y.f0.toList
theorem rising_iff (xs : List Ent) : Rising xs ↔ xs.Pairwise KLt := by
  rw [List.pairwise_iff_getElem]
  constructor
  · intro h i j hi hj hij
    exact h i j _ _ hij (by simp) (by simp)
  · intro h p q x y hpq hx hy
    obtain ⟨h1, rfl⟩ := List.getElem?_eq_some_iff.1 hx
    obtain ⟨h2, rfl⟩ := List.getElem?_eq_some_iff.1 hy
    exact h p q h1 h2 hpq
theorem rising_cons {x : Ent} {xs : List Ent} (h : Rising (x :: xs)) : (∀ y ∈ xs, KLt x y) ∧ Rising xs := by
  rw [rising_iff, List.pairwise_cons] at h
  exact ⟨h.1, (rising_iff xs).2 h.2⟩
/-- Two lists that rise and hold the same rows are one. -/
theorem rising_ext (xs ys : List Ent) (hx : Rising xs) (hy : Rising ys) (h : ∀ z, z ∈ xs ↔ z ∈ ys) : xs = ys := by
  induction xs generalizing ys with
  | nil => cases ys with
    | nil => rfl
    | cons y ys => exact absurd ((h y).2 (by simp)) (by simp)
  | cons x xs ih => cases ys with
    | nil => exact absurd ((h x).1 (by simp)) (by simp)
    | cons y ys =>
      obtain ⟨hx1, hx2⟩ := rising_cons hx
      obtain ⟨hy1, hy2⟩ := rising_cons hy
      have exy : x = y := by
        rcases List.mem_cons.1 ((h x).1 (by simp)) with e | e
        · exact e
        · rcases List.mem_cons.1 ((h y).2 (by simp)) with e2 | e2
          · exact e2.symm
          · exact absurd (bl_trans (hy1 x e) (hx1 y e2)) (bl_irr _)
      subst exy
      rw [ih ys hx2 hy2 (fun z => ?_)]
      have hz := h z
      rw [List.mem_cons, List.mem_cons] at hz
      constructor
      · intro hm
        rcases hz.1 (.inr hm) with e | e
        · subst e; exact absurd (hx1 z hm) (bl_irr _)
        · exact e
      · intro hm
        rcases hz.2 (.inr hm) with e | e
        · subst e; exact absurd (hy1 z hm) (bl_irr _)
        · exact e
theorem split_at (xs : List Ent) (i : Nat) : xs = xs.take i ++ xs.drop i := (List.take_append_drop i xs).symm
theorem split_get (xs : List Ent) (i : Nat) (x : Ent) (h : xs[i]? = some x) : xs = xs.take i ++ x :: xs.drop (i + 1) := by
  obtain ⟨hi, rfl⟩ := List.getElem?_eq_some_iff.1 h
  rw [← List.drop_eq_getElem_cons hi, List.take_append_drop]
theorem lb_take {xs : List Ent} {key : ByteArray} {i : Nat} (h : IsLb xs key i) : ∀ x ∈ xs.take i, x.f0.toList < key.toList := by
  intro x hx
  obtain ⟨q, hq⟩ := List.mem_iff_getElem?.1 hx
  have hql : q < i := by have := (List.getElem?_eq_some_iff.1 hq).1; rw [List.length_take] at this; omega
  rw [List.getElem?_take, if_pos hql] at hq
  exact h.2.1 q x hql hq
theorem lb_drop {xs : List Ent} {key : ByteArray} {i : Nat} (h : IsLb xs key i) : ∀ x ∈ xs.drop i, ¬ x.f0.toList < key.toList := by
  intro x hx
  obtain ⟨q, hq⟩ := List.mem_iff_getElem?.1 hx
  rw [List.getElem?_drop] at hq
  exact h.2.2 (i + q) x (by omega) hq
/-- A row's value is changed. -/
theorem put_set {xs : List Ent} {key : ByteArray} {i : Nat} {x : Ent} (hr : Rising xs) (h : IsLb xs key i) (hx : xs[i]? = some x) (hk : x.f0 = key) (n : Int) :
    Rising (xs.set i ⟨key, n⟩) ∧ (∀ z, z ∈ xs.set i ⟨key, n⟩ ↔ z = ⟨key, n⟩ ∨ z ∈ xs ∧ z.f0 ≠ key) := by
  have hil := (List.getElem?_eq_some_iff.1 hx).1
  have e : xs.set i ⟨key, n⟩ = xs.take i ++ ⟨key, n⟩ :: xs.drop (i + 1) := by rw [List.set_eq_take_append_cons_drop, if_pos hil]
  have es := split_get xs i x hx
  have hp := (rising_iff xs).1 hr
  rw [es, List.pairwise_append, List.pairwise_cons] at hp
  obtain ⟨h1, ⟨h2, h3⟩, h4⟩ := hp
  rw [e]
  constructor
  · rw [rising_iff, List.pairwise_append, List.pairwise_cons]
    refine ⟨h1, ⟨fun z hz => ?_, h3⟩, fun a ha z hz => ?_⟩
    · have := h2 z hz; unfold KLt at this ⊢; rw [← hk]; exact this
    · rcases List.mem_cons.1 hz with rfl | hz
      · have := h4 a ha x (by simp); unfold KLt at this ⊢; rw [← hk]; exact this
      · exact h4 a ha z (by simp [hz])
  · intro z
    have em : z ∈ xs ↔ z ∈ xs.take i ∨ z = x ∨ z ∈ xs.drop (i + 1) := by
      have : z ∈ xs ↔ z ∈ xs.take i ++ x :: xs.drop (i + 1) := by rw [← es]
      rw [this, List.mem_append, List.mem_cons]
    rw [List.mem_append, List.mem_cons, em]
    constructor
    · rintro (hz | rfl | hz)
      · exact .inr ⟨.inl hz, fun e => by have := h4 z hz x (by simp); unfold KLt at this; rw [e, hk] at this; exact bl_irr _ this⟩
      · exact .inl rfl
      · exact .inr ⟨.inr (.inr hz), fun e => by have := h2 z hz; unfold KLt at this; rw [e, hk] at this; exact bl_irr _ this⟩
    · rintro (rfl | ⟨hz | rfl | hz, hne⟩)
      · exact .inr (.inl rfl)
      · exact .inl hz
      · exact absurd hk hne
      · exact .inr (.inr hz)
/-- The keys behind the place of one that is not there. -/
theorem no_lt {xs : List Ent} {key : ByteArray} {i : Nat} (hr : Rising xs) (h : IsLb xs key i) (hno : ∀ x, xs[i]? = some x → x.f0 ≠ key) : ∀ z ∈ xs.drop i, key.toList < z.f0.toList := by
  intro z hz
  obtain ⟨q, hq⟩ := List.mem_iff_getElem?.1 hz
  rw [List.getElem?_drop] at hq
  have h1 := h.2.2 (i + q) z (by omega) hq
  by_cases hlt : key.toList < z.f0.toList
  · exact hlt
  · have e := bl_tri _ _ h1 hlt
    rcases Nat.eq_zero_or_pos q with rfl | hp
    · exact absurd (toList_inj e) (hno z hq)
    · have hil : i < xs.length := by have := (List.getElem?_eq_some_iff.1 hq).1; omega
      have h2 := hr i (i + q) xs[i] z (by omega) (by simp) hq
      rw [e] at h2
      exact absurd h2 (h.2.2 i xs[i] (Nat.le_refl _) (by simp))
theorem no_key {xs : List Ent} {key : ByteArray} {i : Nat} (hr : Rising xs) (h : IsLb xs key i) (hno : ∀ x, xs[i]? = some x → x.f0 ≠ key) : ∀ z ∈ xs, z.f0 ≠ key := by
  intro z hz e
  rw [split_at xs i, List.mem_append] at hz
  rcases hz with hz | hz
  · have := lb_take h z hz; rw [e] at this; exact bl_irr _ this
  · have := no_lt hr h hno z hz; rw [e] at this; exact bl_irr _ this
/-- A row goes in. -/
theorem put_new {xs : List Ent} {key : ByteArray} {i : Nat} (hr : Rising xs) (h : IsLb xs key i) (hno : ∀ x, xs[i]? = some x → x.f0 ≠ key) (n : Int) :
    Rising (xs.take i ++ ⟨key, n⟩ :: xs.drop i) ∧ (∀ z, z ∈ xs.take i ++ ⟨key, n⟩ :: xs.drop i ↔ z = ⟨key, n⟩ ∨ z ∈ xs ∧ z.f0 ≠ key) := by
  have hp := (rising_iff xs).1 hr
  rw [split_at xs i, List.pairwise_append] at hp
  obtain ⟨h1, h2, h3⟩ := hp
  constructor
  · rw [rising_iff, List.pairwise_append, List.pairwise_cons]
    refine ⟨h1, ⟨fun z hz => no_lt hr h hno z hz, h2⟩, fun a ha z hz => ?_⟩
    rcases List.mem_cons.1 hz with rfl | hz
    · exact lb_take h a ha
    · exact h3 a ha z hz
  · intro z
    have em : z ∈ xs ↔ z ∈ xs.take i ∨ z ∈ xs.drop i := by
      have : z ∈ xs ↔ z ∈ xs.take i ++ xs.drop i := by rw [← split_at]
      rw [this, List.mem_append]
    rw [List.mem_append, List.mem_cons]
    constructor
    · rintro (hz | rfl | hz)
      · exact .inr ⟨em.2 (.inl hz), no_key hr h hno z (em.2 (.inl hz))⟩
      · exact .inl rfl
      · exact .inr ⟨em.2 (.inr hz), no_key hr h hno z (em.2 (.inr hz))⟩
    · rintro (rfl | ⟨hz, _⟩)
      · exact .inr (.inl rfl)
      · rcases em.1 hz with hz | hz
        · exact .inl hz
        · exact .inr (.inr hz)
/-- A row goes. -/
theorem drop_one {xs : List Ent} {key : ByteArray} {i : Nat} {x : Ent} (hr : Rising xs) (hx : xs[i]? = some x) (hk : x.f0 = key) :
    Rising (xs.take i ++ xs.drop (i + 1)) ∧ (∀ z, z ∈ xs.take i ++ xs.drop (i + 1) ↔ z ∈ xs ∧ z.f0 ≠ key) := by
  have es := split_get xs i x hx
  have hp := (rising_iff xs).1 hr
  rw [es, List.pairwise_append, List.pairwise_cons] at hp
  obtain ⟨h1, ⟨h2, h3⟩, h4⟩ := hp
  constructor
  · rw [rising_iff, List.pairwise_append]
    exact ⟨h1, h3, fun a ha z hz => h4 a ha z (by simp [hz])⟩
  · intro z
    have em : z ∈ xs ↔ z ∈ xs.take i ∨ z = x ∨ z ∈ xs.drop (i + 1) := by
      have : z ∈ xs ↔ z ∈ xs.take i ++ x :: xs.drop (i + 1) := by rw [← es]
      rw [this, List.mem_append, List.mem_cons]
    rw [List.mem_append, em]
    constructor
    · rintro (hz | hz)
      · exact ⟨.inl hz, fun e => by have := h4 z hz x (by simp); unfold KLt at this; rw [e, hk] at this; exact bl_irr _ this⟩
      · exact ⟨.inr (.inr hz), fun e => by have := h2 z hz; unfold KLt at this; rw [e, hk] at this; exact bl_irr _ this⟩
    · rintro ⟨hz | rfl | hz, hne⟩
      · exact .inl hz
      · exact absurd hk hne
      · exact .inr hz
/-- At most one row of a key. -/
theorem key_one {xs : List Ent} (hr : Rising xs) {x y : Ent} (hx : x ∈ xs) (hy : y ∈ xs) (h : x.f0 = y.f0) : x = y := by
  obtain ⟨p, hp⟩ := List.mem_iff_getElem?.1 hx
  obtain ⟨q, hq⟩ := List.mem_iff_getElem?.1 hy
  rcases Nat.lt_trichotomy p q with e | e | e
  · have := hr p q x y e hp hq; rw [h] at this; exact absurd this (bl_irr _)
  · subst e; rw [hp] at hq; exact Option.some.inj hq
  · have := hr q p y x e hq hp; rw [h] at this; exact absurd this (bl_irr _)
end Go.Proofs.YtcjmlfmpajcjjaaDoor

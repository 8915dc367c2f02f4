/-
  What was put last: the plain law.
-/
import Derived.Test.YtcjmlfmpajcjjaaDoorTabOps
namespace Go.Proofs.YtcjmlfmpajcjjaaDoor
open Go.RowKit
open Go.Proofs.YtcjmlfmpajcjjaaDoorW.PrintWords (Kd rdOf)
open Go.Proofs.YtcjmlfmpajcjjaaDoor.PTableLast
set_option linter.unusedVariables false
abbrev KV := ByteArray × Int
def lastOf : List KV → ByteArray → Option Int
  | [], _ => none
  | (k, v) :: l, x => match lastOf l x with
    | some n => some n
    | none => if k = x then some v else none
theorem lastOf_snoc (l : List KV) (k : ByteArray) (v : Int) (x : ByteArray) : lastOf (l ++ [(k, v)]) x = if k = x then some v else lastOf l x := by
  induction l with
  | nil => simp [lastOf]
  | cons p l ih =>
    obtain ⟨k', v'⟩ := p
    rw [List.cons_append, lastOf, ih, lastOf]
    by_cases h : k = x
    · simp [h]
    · simp [h]
theorem lastOf_cons_old {l : List KV} {k : ByteArray} {n : Int} (h : lastOf l k = some n) (v : Int) (x : ByteArray) : lastOf ((k, v) :: l) x = lastOf l x := by
  rw [lastOf]
  cases e : lastOf l x with
  | some m => rfl
  | none =>
    have : k ≠ x := fun e2 => by subst e2; rw [h] at e; cases e
    simp [this]
theorem lastOf_cons_new {l : List KV} {k : ByteArray} (h : lastOf l k = none) (v : Int) (x : ByteArray) : lastOf ((k, v) :: l) x = if k = x then some v else lastOf l x := by
  rw [lastOf]
  by_cases e : k = x
  · subst e; rw [h]
  · simp only [e, if_false]
    cases lastOf l x <;> rfl
/-- A list that rises and holds what was put last. -/
def Holds (xs : List Ent) (l : List KV) : Prop := Rising xs ∧ (∀ z : Ent, z ∈ xs ↔ lastOf l z.f0 = some z.f1) ∧ xs.length ≤ l.length
theorem holds_nil : Holds [] [] := ⟨rising_nil, fun z => by simp [lastOf], by simp⟩
theorem ent_eta (z : Ent) : z = ⟨z.f0, z.f1⟩ := rfl
theorem holds_put {xs ys : List Ent} {l : List KV} {k : ByteArray} {v : Int} (h : Holds xs l) (hp : IsPut xs ys k v) : Holds ys (l ++ [(k, v)]) := by
  refine ⟨hp.1, fun z => ?_, by rw [List.length_append]; have := hp.2.2; have := h.2.2; simp; omega⟩
  rw [hp.2.1, lastOf_snoc]
  constructor
  · rintro (rfl | ⟨h1, h2⟩)
    · simp
    · rw [if_neg (fun e => h2 e.symm)]; exact (h.2.1 z).1 h1
  · intro hz
    by_cases e : k = z.f0
    · rw [if_pos e] at hz
      left
      have := Option.some.inj hz
      obtain ⟨f0, f1⟩ := z
      simp at e this
      rw [e, this]
    · rw [if_neg e] at hz
      exact .inr ⟨(h.2.1 z).2 hz, fun e2 => e e2.symm⟩
theorem holds_old {xs : List Ent} {l : List KV} {k : ByteArray} {n v : Int} (h : Holds xs l) (hp : (⟨k, n⟩ : Ent) ∈ xs) : Holds xs ((k, v) :: l) := by
  have h1 := (h.2.1 ⟨k, n⟩).1 hp
  refine ⟨h.1, fun z => ?_, by have := h.2.2; simp; omega⟩
  rw [lastOf_cons_old h1, h.2.1]
theorem holds_none {xs : List Ent} {l : List KV} {k : ByteArray} (h : Holds xs l) (hno : ∀ z ∈ xs, z.f0 ≠ k) : lastOf l k = none := by
  cases e : lastOf l k with
  | none => rfl
  | some n => exact absurd rfl (hno ⟨k, n⟩ ((h.2.1 ⟨k, n⟩).2 e))
theorem holds_new {xs ys : List Ent} {l : List KV} {k : ByteArray} {v : Int} (h : Holds xs l) (hno : ∀ z ∈ xs, z.f0 ≠ k) (hp : IsPut xs ys k v) : Holds ys ((k, v) :: l) := by
  refine ⟨hp.1, fun z => ?_, by have := hp.2.2; have := h.2.2; simp; omega⟩
  rw [hp.2.1, lastOf_cons_new (holds_none h hno)]
  constructor
  · rintro (rfl | ⟨h1, h2⟩)
    · simp
    · rw [if_neg (fun e => h2 e.symm)]; exact (h.2.1 z).1 h1
  · intro hz
    by_cases e : k = z.f0
    · rw [if_pos e] at hz
      left
      have := Option.some.inj hz
      obtain ⟨f0, f1⟩ := z
      simp at e this
      rw [e, this]
    · rw [if_neg e] at hz
      exact .inr ⟨(h.2.1 z).2 hz, fun e2 => e e2.symm⟩
theorem holds_one {xs ys : List Ent} {l : List KV} (h : Holds xs l) (k : Holds ys l) : xs = ys := rising_ext xs ys h.1 k.1 (fun z => by rw [h.2.1, k.2.1])
/-- What the law keeps: the last value, and whether there is one. -/
def lastN (l : List KV) (key : ByteArray) : Int := (lastOf l key).getD 0
def lastB (l : List KV) (key : ByteArray) : Bool := (lastOf l key).isSome
theorem get_last {xs : List Ent} {l : List KV} {key : ByteArray} {n : Int} {b : Bool} (h : Holds xs l) (hg : (b = true ∧ (⟨key, n⟩ : Ent) ∈ xs) ∨ (b = false ∧ n = 0 ∧ ∀ z ∈ xs, z.f0 ≠ key)) : n = lastN l key ∧ b = lastB l key := by
  unfold lastN lastB
  rcases hg with ⟨rfl, h1⟩ | ⟨rfl, rfl, h1⟩
  · rw [(h.2.1 _).1 h1]; exact ⟨rfl, rfl⟩
  · rw [holds_none h h1]; exact ⟨rfl, rfl⟩
theorem last_put (l : List KV) (k key : ByteArray) (v : Int) : lastN (l ++ [(k, v)]) key = (if k = key then v else lastN l key) ∧ lastB (l ++ [(k, v)]) key = (if k = key then true else lastB l key) := by
  unfold lastN lastB
  rw [lastOf_snoc]
  by_cases e : k = key <;> simp [e]
theorem drop_last {xs : List Ent} {l : List KV} {key : ByteArray} {r : Bool} (h : Holds xs l) (hr : r = true ↔ ∃ z ∈ xs, z.f0 = key) : r = lastB l key := by
  have : r = true ↔ lastB l key = true := by
    rw [hr]
    unfold lastB
    constructor
    · rintro ⟨z, hz, rfl⟩
      rw [(h.2.1 z).1 hz]; rfl
    · intro h1
      obtain ⟨n, hn⟩ := Option.isSome_iff_exists.1 h1
      exact ⟨⟨key, n⟩, (h.2.1 _).2 hn, rfl⟩
  cases r <;> cases hb : lastB l key <;> simp [hb] at this <;> rfl
end Go.Proofs.YtcjmlfmpajcjjaaDoor

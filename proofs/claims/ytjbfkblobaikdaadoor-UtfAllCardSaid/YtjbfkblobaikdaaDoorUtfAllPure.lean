/-
  The letters of a text, in plain Lean: their bytes are the text's.
-/
import Derived.Test.YtjbfkblobaikdaaDoorUtfAllSeq
namespace Go.Proofs.YtjbfkblobaikdaaDoor
open Go.RowKit
set_option linter.unusedVariables false

theorem ok_bad {x n : Int} {l : List UInt8} (h : ((-1 : Int), (1 : Int)) = (x, n)) (hx : 0 ≤ x) : putS x = l.take n.toNat := by
  have := (Prod.mk.inj h).1
  omega
theorem try_ok4 {l : List UInt8} {x n : Int} (h : tryS l 4 = (x, n)) (hx : 0 ≤ x) : putS x = l.take n.toNat := by
  rw [try_4] at h
  split at h
  · split at h
    · rename_i h1
      obtain ⟨rfl, rfl⟩ := Prod.mk.inj h
      exact h1
    · exact ok_bad h hx
  · exact ok_bad h hx
theorem try_ok3 {l : List UInt8} {x n : Int} (h : tryS l 3 = (x, n)) (hx : 0 ≤ x) : putS x = l.take n.toNat := by
  rw [try_3] at h
  split at h
  · split at h
    · rename_i h1
      obtain ⟨rfl, rfl⟩ := Prod.mk.inj h
      exact h1
    · exact try_ok4 h hx
  · exact ok_bad h hx
theorem try_ok2 {l : List UInt8} {x n : Int} (h : tryS l 2 = (x, n)) (hx : 0 ≤ x) : putS x = l.take n.toNat := by
  rw [try_2] at h
  split at h
  · split at h
    · rename_i h1
      obtain ⟨rfl, rfl⟩ := Prod.mk.inj h
      exact h1
    · exact try_ok3 h hx
  · exact ok_bad h hx
theorem try_ok1 {l : List UInt8} {x n : Int} (h : tryS l 1 = (x, n)) (hx : 0 ≤ x) : putS x = l.take n.toNat := by
  rw [try_1] at h
  split at h
  · split at h
    · rename_i h1
      obtain ⟨rfl, rfl⟩ := Prod.mk.inj h
      exact h1
    · exact try_ok2 h hx
  · exact ok_bad h hx
theorem next_ok {l : List UInt8} {x n : Int} (h : nextS l = (x, n)) (hx : 0 ≤ x) : putS x = l.take n.toNat := by
  rw [← try_next] at h
  split at h
  · have := (Prod.mk.inj h).1
    omega
  · exact try_ok1 h hx
def catS (pre : List (Int × Int)) : List UInt8 := pre.flatMap (fun x => putS x.2)
/-- The letters from k on: their bytes, and where they end. -/
theorem cat_let (f : Nat) : ∀ (l : List UInt8) (k : Nat), l.length ≤ k + f → k ≤ l.length →
    ((k + (catS (letS f l k)).length : Nat) : Int) = (if badAt l k < 0 then (l.length : Int) else badAt l k) := by
  induction f with
  | zero =>
    intro l k h1 h2
    rw [badAt_end l k (by omega), if_pos (by omega)]
    simp [letS, catS]
    omega
  | succ f ih =>
    intro l k h1 h2
    by_cases hk : k < l.length
    · have hp := nextS_pos _ (drop_ne l k hk)
      by_cases hb : (nextS (l.drop k)).1 < 0
      · rw [letS_bad _ _ _ hb, badAt_here l k hk hb, if_neg (by omega)]
        simp [catS]
      · have hs := badAt_step l k hk hb
        have hput := next_ok (l := l.drop k) (x := (nextS (l.drop k)).1) (n := (nextS (l.drop k)).2) rfl (by omega)
        rw [List.length_drop] at hp
        have hi := ih l (k + (nextS (l.drop k)).2.toNat) (by omega) (by omega)
        rw [hs] at hi
        rw [← hi, letS, if_pos hk, if_neg hb]
        have hc : catS (((k : Int), (nextS (l.drop k)).1) :: letS f l (k + (nextS (l.drop k)).2.toNat)) = putS (nextS (l.drop k)).1 ++ catS (letS f l (k + (nextS (l.drop k)).2.toNat)) := by simp [catS]
        rw [hc, List.length_append, hput, List.length_take, List.length_drop]
        omega
    · rw [letS_end _ _ _ hk, badAt_end l k (by omega), if_pos (by omega)]
      simp [catS]
      omega
/-- A beginning of the letters from k on. -/
theorem cat_pre (f : Nat) : ∀ (l : List UInt8) (k : Nat) (pre : List (Int × Int)), pre <+: letS f l k → k ≤ l.length →
    catS pre = (l.drop k).take (catS pre).length ∧ k + (catS pre).length ≤ l.length := by
  induction f with
  | zero =>
    intro l k pre h hk
    have : pre = [] := by simpa [letS] using h
    subst this
    simp [catS]
    exact hk
  | succ f ih =>
    intro l k pre h hk
    cases pre with
    | nil => simp [catS]; exact hk
    | cons x r =>
      rw [letS] at h
      split at h
      · rename_i hkl
        split at h
        · simp at h
        · rename_i hb
          have hp := nextS_pos _ (drop_ne l k hkl)
          rw [List.length_drop] at hp
          have hput := next_ok (l := l.drop k) (x := (nextS (l.drop k)).1) (n := (nextS (l.drop k)).2) rfl (by omega)
          rw [List.cons_prefix_cons] at h
          obtain ⟨rfl, hr⟩ := h
          have hi := ih l _ r hr (by omega)
          have hc : catS (((k : Int), (nextS (l.drop k)).1) :: r) = putS (nextS (l.drop k)).1 ++ catS r := by simp [catS]
          have hl : (putS (nextS (l.drop k)).1).length = (nextS (l.drop k)).2.toNat := by rw [hput, List.length_take, List.length_drop]; omega
          rw [hc, List.length_append, hl]
          refine ⟨?_, by omega⟩
          rw [List.take_add, List.drop_drop, ← hput, ← hi.1]
      · simp at h
theorem let_good (f : Nat) : ∀ (l : List UInt8) (k : Nat) (q : List (Int × Int)) (x : Int × Int), q ++ [x] <+: letS f l k → x.1 = ((k + (catS q).length : Nat) : Int) ∧ 0 ≤ x.2 := by
  induction f with
  | zero => intro l k q x h; simp [letS] at h
  | succ f ih =>
    intro l k q x h
    rw [letS] at h
    split at h
    · rename_i hkl
      split at h
      · simp at h
      · rename_i hb
        cases q with
        | nil =>
          rw [List.nil_append, List.cons_prefix_cons] at h
          obtain ⟨rfl, _⟩ := h
          exact ⟨by simp [catS], by simp only; omega⟩
        | cons y r =>
          rw [List.cons_append, List.cons_prefix_cons] at h
          obtain ⟨rfl, hr⟩ := h
          have hp := nextS_pos _ (drop_ne l k hkl)
          rw [List.length_drop] at hp
          have hput := next_ok (l := l.drop k) (x := (nextS (l.drop k)).1) (n := (nextS (l.drop k)).2) rfl (by omega)
          have hl : (putS (nextS (l.drop k)).1).length = (nextS (l.drop k)).2.toNat := by rw [hput, List.length_take, List.length_drop]; omega
          have hc : catS (((k : Int), (nextS (l.drop k)).1) :: r) = putS (nextS (l.drop k)).1 ++ catS r := by simp [catS]
          have hi := ih l _ r x hr
          rw [hc, List.length_append, hl, hi.1]
          exact ⟨by congr 1; omega, hi.2⟩
    · simp at h
end Go.Proofs.YtjbfkblobaikdaaDoor

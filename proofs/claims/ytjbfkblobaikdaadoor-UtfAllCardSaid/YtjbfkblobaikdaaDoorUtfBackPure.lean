/-
  Plain facts on a letter's bytes: they come back, whatever stands behind them; no beginning and no end of them is a letter.
-/
import Derived.Test.YtjbfkblobaikdaaDoorUtfSpec
namespace Go.Proofs.YtjbfkblobaikdaaDoor
set_option linter.unusedVariables false

theorem next_no (c : UInt8) (r : List UInt8) (h1 : 128 ≤ c.toNat) (h2 : c.toNat < 192) : nextS (c :: r) = (-1, 1) := by
  rcases next_class c r with h | h | h | h | h
  all_goals first | omega | exact h.2.2
theorem next_cut (c : UInt8) (r : List UInt8) (h1 : 192 ≤ c.toNat) (h2 : (c.toNat < 224 ∧ r.length + 1 < 2) ∨ (224 ≤ c.toNat ∧ c.toNat < 240 ∧ r.length + 1 < 3) ∨ (240 ≤ c.toNat ∧ c.toNat < 248 ∧ r.length + 1 < 4)) : nextS (c :: r) = (-1, 1) := by
  rcases next_class c r with h | h | h | h | h
  · omega
  · rw [h.2.2.2.2.2, if_pos (by omega)]
  · rw [h.2.2.2.2.2, if_pos (by omega)]
  · rw [h.2.2.2.2.2, if_pos (by omega)]
  · exact h.2.2

theorem next_put (n : Nat) (t : List UInt8) (hr : rightB n = true) : nextS (putN n ++ t) = ((n : Int), ((putN n).length : Int)) := by
  have hb := (rightB_iff n).1 hr
  unfold putN
  by_cases h1 : n < 128
  · rw [if_pos h1]
    have e := by8_toNat n (by omega)
    show nextS (by8 n :: t) = _
    rw [nextS_cons, if_pos (by omega), e]; rfl
  rw [if_neg h1]
  by_cases h2 : n < 2048
  · rw [if_pos h2]
    have e1 := by8_toNat (192 + n / 64) (by omega)
    have e2 := by8_toNat (128 + n % 64) (by omega)
    generalize by8 (192 + n / 64) = a at *
    generalize by8 (128 + n % 64) = b at *
    show nextS (a :: (b :: t)) = _
    rcases next_class a (b :: t) with h | h | h | h | h
    all_goals first | omega | skip
    obtain ⟨g1, g2, g3, g4, g5, g6⟩ := h
    rw [g6, if_neg (by simp), restS_def a (b :: t) [b] (by rw [g3]; rfl) n 128 (by rw [g4]; unfold accB; simp; omega) g5]
    rw [if_neg (by rw [all_one]; omega), if_neg (by rw [hr]; simp; omega), g3]; rfl
  rw [if_neg h2]
  by_cases h3 : n < 65536
  · rw [if_pos h3]
    have e1 := by8_toNat (224 + n / 4096) (by omega)
    have e2 := by8_toNat (128 + n / 64 % 64) (by omega)
    have e3 := by8_toNat (128 + n % 64) (by omega)
    generalize by8 (224 + n / 4096) = a at *
    generalize by8 (128 + n / 64 % 64) = b at *
    generalize by8 (128 + n % 64) = d at *
    show nextS (a :: (b :: d :: t)) = _
    rcases next_class a (b :: d :: t) with h | h | h | h | h
    all_goals first | omega | skip
    obtain ⟨g1, g2, g3, g4, g5, g6⟩ := h
    rw [g6, if_neg (by simp), restS_def a (b :: d :: t) [b, d] (by rw [g3]; rfl) n 2048 (by rw [g4]; unfold accB; simp; omega) g5]
    rw [if_neg (by rw [all_two]; omega), if_neg (by rw [hr]; simp; omega), g3]; rfl
  · rw [if_neg h3]
    have e1 := by8_toNat (240 + n / 262144) (by omega)
    have e2 := by8_toNat (128 + n / 4096 % 64) (by omega)
    have e3 := by8_toNat (128 + n / 64 % 64) (by omega)
    have e4 := by8_toNat (128 + n % 64) (by omega)
    generalize by8 (240 + n / 262144) = a at *
    generalize by8 (128 + n / 4096 % 64) = b at *
    generalize by8 (128 + n / 64 % 64) = d at *
    generalize by8 (128 + n % 64) = f at *
    show nextS (a :: (b :: d :: f :: t)) = _
    rcases next_class a (b :: d :: f :: t) with h | h | h | h | h
    all_goals first | omega | skip
    obtain ⟨g1, g2, g3, g4, g5, g6⟩ := h
    rw [g6, if_neg (by simp), restS_def a (b :: d :: f :: t) [b, d, f] (by rw [g3]; rfl) n 65536 (by rw [g4]; unfold accB; simp; omega) g5]
    rw [if_neg (by rw [all_three]; omega), if_neg (by rw [hr]; simp; omega), g3]; rfl

theorem put_length (n : Nat) : 1 ≤ (putN n).length ∧ (putN n).length ≤ 4 := by
  unfold putN; split <;> (try split) <;> (try split) <;> simp
theorem next_put_part (n : Nat) (hr : rightB n = true) (i : Nat) (h1 : 1 ≤ i) (h2 : i < (putN n).length) : nextS ((putN n).take i) = (-1, 1) ∧ nextS ((putN n).drop i) = (-1, 1) := by
  have hb := (rightB_iff n).1 hr
  unfold putN at h2 ⊢
  by_cases h1' : n < 128
  · rw [if_pos h1'] at h2; simp at h2; omega
  rw [if_neg h1'] at h2 ⊢
  by_cases h2' : n < 2048
  · rw [if_pos h2'] at h2 ⊢
    have e1 := by8_toNat (192 + n / 64) (by omega)
    have e2 := by8_toNat (128 + n % 64) (by omega)
    simp at h2
    obtain rfl : i = 1 := by omega
    exact ⟨next_cut _ _ (by omega) (by simp; omega), next_no _ _ (by omega) (by omega)⟩
  rw [if_neg h2'] at h2 ⊢
  by_cases h3 : n < 65536
  · rw [if_pos h3] at h2 ⊢
    have e1 := by8_toNat (224 + n / 4096) (by omega)
    have e2 := by8_toNat (128 + n / 64 % 64) (by omega)
    have e3 := by8_toNat (128 + n % 64) (by omega)
    simp at h2
    obtain rfl | rfl : i = 1 ∨ i = 2 := by omega
    all_goals exact ⟨next_cut _ _ (by omega) (by simp; omega), next_no _ _ (by omega) (by omega)⟩
  · rw [if_neg h3] at h2 ⊢
    have e1 := by8_toNat (240 + n / 262144) (by omega)
    have e2 := by8_toNat (128 + n / 4096 % 64) (by omega)
    have e3 := by8_toNat (128 + n / 64 % 64) (by omega)
    have e4 := by8_toNat (128 + n % 64) (by omega)
    simp at h2
    obtain rfl | rfl | rfl : i = 1 ∨ i = 2 ∨ i = 3 := by omega
    all_goals exact ⟨next_cut _ _ (by omega) (by simp; omega), next_no _ _ (by omega) (by omega)⟩
end Go.Proofs.YtjbfkblobaikdaaDoor

/-
  Plain facts on decimal texts: the digits of a number, the text of a whole number, how many bytes begin a number's text.
-/
import Derived.Test.YtpkiahpdoejbcaaDoorWords
namespace Go.Proofs.YtpkiahpdoejbcaaDoor

/-- The sign of a digit. -/
def dig8 (d : Nat) : UInt8 := UInt8.ofNat (48 + d)
theorem dig8_toNat (d : Nat) (h : d < 10) : (dig8 d).toNat = 48 + d := by unfold dig8; simp; omega
/-- The digits of a number. -/
def digs (n : Nat) : List UInt8 := if n < 10 then [dig8 n] else digs (n / 10) ++ [dig8 (n % 10)]
termination_by n
decreasing_by omega

theorem digs_pos (n : Nat) : 1 ≤ (digs n).length := by
  unfold digs; split <;> simp
theorem digs_len (k : Nat) : ∀ n, n < 10 ^ (k + 1) → (digs n).length ≤ k + 1 := by
  induction k with
  | zero => intro n h; unfold digs; rw [if_pos (by omega)]; simp
  | succ k ih =>
    intro n h
    unfold digs
    split
    · simp
    · have := ih (n / 10) (by rw [Nat.pow_succ] at h; omega)
      simp; omega
theorem digs_len19 (n : Nat) (h : n ≤ 9223372036854775808) : (digs n).length ≤ 19 := digs_len 18 n (by omega)

/-- The text of a whole number. -/
def decText (n : Int) : List UInt8 := if n < 0 then 45 :: digs n.natAbs else digs n.natAbs

theorem decText_len (n : Int) (h0 : -9223372036854775808 ≤ n) (h1 : n ≤ 9223372036854775807) : (decText n).length ≤ 20 := by
  have := digs_len19 n.natAbs (by omega)
  unfold decText; split <;> simp <;> omega

theorem digs_step (x : Nat) (em : List UInt8) (N : Nat) (h : digs x ++ em = digs N) (h10 : 10 ≤ x) : digs (x / 10) ++ (dig8 (x % 10) :: em) = digs N := by
  rw [← h, show digs x = digs (x / 10) ++ [dig8 (x % 10)] by rw [digs]; rw [if_neg (by omega)]]
  simp
theorem digs_last (x : Nat) (em : List UInt8) (N : Nat) (h : digs x ++ em = digs N) (h10 : x < 10) : (dig8 (x % 10) :: em) = digs N := by
  rw [← h, show digs x = [dig8 (x % 10)] by rw [digs]; rw [if_pos (by omega), Nat.mod_eq_of_lt h10]]
  simp
theorem cell_digit (x : Nat) : (Value.int .u8 (48 + (x : Int) % 10)) = cellOf (dig8 (x % 10)) := by
  unfold cellOf
  congr 1
  rw [dig8_toNat _ (by omega)]; omega
end Go.Proofs.YtpkiahpdoejbcaaDoor

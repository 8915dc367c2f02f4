/-
  Plain facts on UTF-8: the letter at the beginning of bytes, a letter's bytes.
-/
import Derived.Test.YtjbfkblobaikdaaDoorWords
import Derived.Laws.BitsLemmas
namespace Go.Proofs.YtjbfkblobaikdaaDoor
set_option linter.unusedVariables false

/-- Is it a byte that goes on? -/
def cont (c : UInt8) : Bool := c.toNat / 64 == 2
/-- How many bytes begin with it. -/
def sizeB (c : UInt8) : Nat := if 192 ≤ c.toNat ∧ c.toNat < 224 then 2 else if 224 ≤ c.toNat ∧ c.toNat < 240 then 3 else if 240 ≤ c.toNat ∧ c.toNat < 248 then 4 else 0
def headB (c : UInt8) : Nat := if c.toNat < 224 then c.toNat % 32 else if c.toNat < 240 then c.toNat % 16 else c.toNat % 8
def accB (a : Nat) (l : List UInt8) : Nat := l.foldl (fun a x => a * 64 + x.toNat % 64) a
def leastB (n : Nat) : Nat := if n = 2 then 128 else if n = 3 then 2048 else if n = 4 then 65536 else 0
def rightB (n : Int) : Bool := decide (0 ≤ n) && decide (n ≤ 1114111) && (decide (n < 55296) || decide (57343 < n))
theorem rightB_iff (n : Int) : rightB n = true ↔ 0 ≤ n ∧ n ≤ 1114111 ∧ (n < 55296 ∨ 57343 < n) := by
  unfold rightB; simp [and_assoc]
/-- What is behind the first byte. -/
def restS (c : UInt8) (r : List UInt8) : Int × Int :=
  if (r.take (sizeB c - 1)).all cont = false then (-1, 1)
  else if accB (headB c) (r.take (sizeB c - 1)) < leastB (sizeB c) ∨ rightB (accB (headB c) (r.take (sizeB c - 1)) : Nat) = false then (-1, 1)
  else ((accB (headB c) (r.take (sizeB c - 1)) : Nat), (sizeB c : Nat))
/-- The letter at the beginning, and its bytes' number. -/
def nextS (l : List UInt8) : Int × Int :=
  match l with
  | [] => (-1, 0)
  | c :: r => if c.toNat < 128 then ((c.toNat : Int), 1) else if sizeB c = 0 ∨ r.length + 1 < sizeB c then (-1, 1) else restS c r

theorem nextS_cons (c : UInt8) (r : List UInt8) : nextS (c :: r) = if c.toNat < 128 then ((c.toNat : Int), 1) else if sizeB c = 0 ∨ r.length + 1 < sizeB c then (-1, 1) else restS c r := rfl
theorem accB_snoc (a : Nat) (l : List UInt8) (k : Nat) (h : k < l.length) : accB a (l.take (k + 1)) = accB a (l.take k) * 64 + (l.getD k 0).toNat % 64 := by
  have : l.take (k + 1) = l.take k ++ [l.getD k 0] := by
    rw [List.take_succ_eq_append_getElem h]; simp [List.getD, h]
  rw [this]; unfold accB; simp
theorem accB_lt (l : List UInt8) : ∀ a k : Nat, a < 2 ^ k → accB a l < 2 ^ (k + 6 * l.length) := by
  induction l with
  | nil => intro a k h; simpa [accB] using h
  | cons x r ih =>
    intro a k h
    have := ih (a * 64 + x.toNat % 64) (k + 6) (by rw [Nat.pow_add]; omega)
    show accB (a * 64 + x.toNat % 64) r < _
    rw [List.length_cons, show k + 6 * (r.length + 1) = k + 6 + 6 * r.length by omega]
    exact this

/-! ### bits -/
theorem cont_bits (c : UInt8) : (bits .and .u8 (c.toNat : Int) 192 != 128) = !(cont c) := by
  have h : ∀ n : Fin 256, (bits .and .u8 ((n.val : Nat) : Int) 192 != 128) = !(n.val / 64 == 2) := by decide +kernel
  exact h ⟨c.toNat, c.toNat_lt⟩
theorem and63 (c : UInt8) : bits .and .u8 (c.toNat : Int) 63 = (c.toNat : Int) % 64 :=
  u8_and63 _ (by omega) (by have := c.toNat_lt; omega)
theorem and_i64 (m : Nat) (k : Nat) (hk : ∀ n : Fin 256, bits .and .i64 ((n.val : Nat) : Int) m = ((n.val : Nat) : Int) % k) (c : UInt8) : bits .and .i64 (c.toNat : Int) m = (c.toNat : Int) % k := hk ⟨c.toNat, c.toNat_lt⟩
theorem and31 (c : UInt8) : bits .and .i64 (c.toNat : Int) 31 = (c.toNat : Int) % 32 := and_i64 31 32 (by decide +kernel) c
theorem and15 (c : UInt8) : bits .and .i64 (c.toNat : Int) 15 = (c.toNat : Int) % 16 := and_i64 15 16 (by decide +kernel) c
theorem and7 (c : UInt8) : bits .and .i64 (c.toNat : Int) 7 = (c.toNat : Int) % 8 := and_i64 7 8 (by decide +kernel) c
theorem wraps_i64 (n : Int) (h₀ : 0 ≤ n) (h₁ : n < 2 ^ 62) : IntKind.i64.wrap n = n := by rw [IntKind.wrap_i64]; omega
/-- letter<<6 | low. -/
theorem or64 (a y : Nat) (ha : a < 1099511627776) : bits .or .i64 ((a : Int) * 64) ((y : Int) % 64) = (a : Int) * 64 + (y : Int) % 64 :=
  bits_join .i64 62 (by decide) wraps_i64 6 ((a : Int) * 64) ((y : Int) % 64) (by omega) (by omega) (by omega) (by omega) (by omega) (by omega)
end Go.Proofs.YtjbfkblobaikdaaDoor

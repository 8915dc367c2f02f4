/-
  Plain facts on UTF-8, more: the document's answers are the same plain functions; where a text stops being UTF-8.
-/
import Derived.Test.YtjbfkblobaikdaaDoorUtfPure
namespace Go.Proofs.YtjbfkblobaikdaaDoor
set_option linter.unusedVariables false

/-- A number as a byte. -/
def by8 (n : Nat) : UInt8 := UInt8.ofNat n
theorem by8_toNat (n : Nat) (h : n < 256) : (by8 n).toNat = n := by unfold by8; simp; omega
theorem by8_eq (n : Nat) (h : n < 256) (c : UInt8) : by8 n = c ↔ n = c.toNat := by
  rw [← UInt8.toNat_inj, by8_toNat n h]
/-- A letter's bytes. -/
def putN (n : Nat) : List UInt8 :=
  if n < 128 then [by8 n] else if n < 2048 then [by8 (192 + n / 64), by8 (128 + n % 64)]
  else if n < 65536 then [by8 (224 + n / 4096), by8 (128 + n / 64 % 64), by8 (128 + n % 64)]
  else [by8 (240 + n / 262144), by8 (128 + n / 4096 % 64), by8 (128 + n / 64 % 64), by8 (128 + n % 64)]
def putS (n : Int) : List UInt8 := if rightB n = true then putN n.toNat else []

/-- The document's value of the first k bytes. -/
def valS (l : List UInt8) (k : Nat) : Nat := accB (if k = 1 then (l.getD 0 0).toNat else if k = 2 then (l.getD 0 0).toNat % 32 else if k = 3 then (l.getD 0 0).toNat % 16 else (l.getD 0 0).toNat % 8) ((l.drop 1).take (k - 1))
/-- The document's answer from size k on. -/
def tryS (l : List UInt8) (k : Nat) : Int × Int :=
  if k ≤ 4 ∧ k ≤ l.length then (if putS (valS l k) = l.take k then ((valS l k : Nat), (k : Nat)) else tryS l (k + 1)) else (-1, 1)
termination_by 5 - k

theorem accB_lt0 (l : List UInt8) (a : Nat) : accB a l < (a + 1) * 64 ^ l.length := by
  induction l generalizing a with
  | nil => simp [accB]
  | cons x r ih =>
    have := ih (a * 64 + x.toNat % 64)
    show accB (a * 64 + x.toNat % 64) r < _
    have h2 : (a * 64 + x.toNat % 64 + 1) * 64 ^ r.length ≤ ((a + 1) * 64) * 64 ^ r.length := Nat.mul_le_mul_right _ (by omega)
    rw [List.length_cons, Nat.pow_succ, Nat.mul_comm (64 ^ r.length) 64, ← Nat.mul_assoc]
    omega
theorem cont_iff (c : UInt8) : cont c = true ↔ 128 ≤ c.toNat ∧ c.toNat < 192 := by unfold cont; rw [beq_iff_eq]; omega
theorem cont_no (c : UInt8) : cont c = false ↔ ¬ (128 ≤ c.toNat ∧ c.toNat < 192) := by rw [← cont_iff]; simp
theorem put_len1 (n : Int) (c : UInt8) (h : putS n = [c]) : n = c.toNat ∧ c.toNat < 128 := by
  unfold putS at h
  by_cases hr : rightB n = true
  · rw [if_pos hr] at h
    have := (rightB_iff n).1 hr
    unfold putN at h
    by_cases h1 : n.toNat < 128
    · rw [if_pos h1] at h
      simp at h
      have := (by8_eq _ (by omega) c).1 h
      omega
    · rw [if_neg h1] at h
      by_cases h2 : n.toNat < 2048
      · rw [if_pos h2] at h; simp at h
      · rw [if_neg h2] at h
        by_cases h3 : n.toNat < 65536
        · rw [if_pos h3] at h; simp at h
        · rw [if_neg h3] at h; simp at h
  · rw [if_neg hr] at h; simp at h
theorem put_one (c : UInt8) (h : c.toNat < 128) : putS (c.toNat : Int) = [c] := by
  unfold putS putN
  rw [if_pos ((rightB_iff _).2 (by omega)), if_pos (by omega)]
  simp [(by8_eq c.toNat (by have := c.toNat_lt; omega) c).2 rfl]
theorem put_two (v : Nat) (a b : UInt8) (h : v < 2048) : putS (v : Int) = [a, b] ↔ 128 ≤ v ∧ 192 + v / 64 = a.toNat ∧ 128 + v % 64 = b.toNat := by
  unfold putS putN
  rw [if_pos ((rightB_iff _).2 (by omega)), Int.toNat_natCast]
  by_cases h1 : v < 128
  · rw [if_pos h1]; simp; omega
  · rw [if_neg h1, if_pos h]
    simp only [List.cons.injEq, and_true]
    rw [by8_eq _ (by omega), by8_eq _ (by omega)]
    omega
theorem put_three (v : Nat) (a b c : UInt8) (h : v < 65536) : putS (v : Int) = [a, b, c] ↔ 2048 ≤ v ∧ rightB v = true ∧ 224 + v / 4096 = a.toNat ∧ 128 + v / 64 % 64 = b.toNat ∧ 128 + v % 64 = c.toNat := by
  unfold putS putN
  rw [Int.toNat_natCast]
  by_cases hr : rightB v = true
  · rw [if_pos hr]
    by_cases h1 : v < 128
    · rw [if_pos h1]; simp; omega
    · rw [if_neg h1]
      by_cases h2 : v < 2048
      · rw [if_pos h2]; simp; omega
      · rw [if_neg h2, if_pos h]
        simp only [List.cons.injEq, and_true]
        rw [by8_eq _ (by omega), by8_eq _ (by omega), by8_eq _ (by omega)]
        simp only [hr, true_and]; omega
  · rw [if_neg hr]; simp [hr]
theorem put_four (v : Nat) (a b c d : UInt8) (h : v < 2097152) : putS (v : Int) = [a, b, c, d] ↔ 65536 ≤ v ∧ rightB v = true ∧ 240 + v / 262144 = a.toNat ∧ 128 + v / 4096 % 64 = b.toNat ∧ 128 + v / 64 % 64 = c.toNat ∧ 128 + v % 64 = d.toNat := by
  unfold putS putN
  rw [Int.toNat_natCast]
  by_cases hr : rightB v = true
  · rw [if_pos hr]
    by_cases h1 : v < 128
    · rw [if_pos h1]; simp; omega
    · rw [if_neg h1]
      by_cases h2 : v < 2048
      · rw [if_pos h2]; simp; omega
      · rw [if_neg h2]
        by_cases h3 : v < 65536
        · rw [if_pos h3]; simp; omega
        · rw [if_neg h3]
          have := (rightB_iff v).1 hr
          simp only [List.cons.injEq, and_true]
          rw [by8_eq _ (by omega), by8_eq _ (by omega), by8_eq _ (by omega), by8_eq _ (by omega)]
          simp only [hr, true_and]; omega
  · rw [if_neg hr]; simp [hr]

theorem restS_def (c : UInt8) (r : List UInt8) (m : List UInt8) (hm : r.take (sizeB c - 1) = m) (x L : Nat) (hx : accB (headB c) m = x) (hL : leastB (sizeB c) = L) :
    restS c r = if m.all cont = false then (-1, 1) else if x < L ∨ rightB x = false then (-1, 1) else ((x : Int), (sizeB c : Int)) := by
  unfold restS; rw [hm, hx, hL]

theorem rightB_no (n : Int) : rightB n = false ↔ ¬ (0 ≤ n ∧ n ≤ 1114111 ∧ (n < 55296 ∨ 57343 < n)) := by rw [← rightB_iff]; simp
theorem put_one_iff (c : UInt8) : putS (c.toNat : Int) = [c] ↔ c.toNat < 128 := ⟨fun h => (put_len1 _ _ h).2, put_one c⟩
theorem try_4 (l : List UInt8) : tryS l 4 = if 4 ≤ l.length then (if putS (valS l 4) = l.take 4 then (((valS l 4 : Nat) : Int), 4) else (-1, 1)) else (-1, 1) := by
  unfold tryS
  by_cases h : 4 ≤ l.length
  · rw [if_pos ⟨Nat.le_refl _, h⟩, if_pos h]
    by_cases h2 : putS (valS l 4) = l.take 4
    · rw [if_pos h2, if_pos h2]; rfl
    · rw [if_neg h2, if_neg h2]; unfold tryS; rw [if_neg (by omega)]
  · rw [if_neg (by omega), if_neg h]
theorem try_3 (l : List UInt8) : tryS l 3 = if 3 ≤ l.length then (if putS (valS l 3) = l.take 3 then (((valS l 3 : Nat) : Int), 3) else tryS l 4) else (-1, 1) := by
  rw [tryS]
  by_cases h : 3 ≤ l.length
  · rw [if_pos ⟨by omega, h⟩, if_pos h]; rfl
  · rw [if_neg (by omega), if_neg h]
theorem try_2 (l : List UInt8) : tryS l 2 = if 2 ≤ l.length then (if putS (valS l 2) = l.take 2 then (((valS l 2 : Nat) : Int), 2) else tryS l 3) else (-1, 1) := by
  rw [tryS]
  by_cases h : 2 ≤ l.length
  · rw [if_pos ⟨by omega, h⟩, if_pos h]; rfl
  · rw [if_neg (by omega), if_neg h]
theorem try_1 (l : List UInt8) : tryS l 1 = if 1 ≤ l.length then (if putS (valS l 1) = l.take 1 then (((valS l 1 : Nat) : Int), 1) else tryS l 2) else (-1, 1) := by
  rw [tryS]
  by_cases h : 1 ≤ l.length
  · rw [if_pos ⟨by omega, h⟩, if_pos h]; rfl
  · rw [if_neg (by omega), if_neg h]

theorem try_2n (l : List UInt8) (h : l.length < 2) : tryS l 2 = (-1, 1) := by rw [try_2, if_neg (by omega)]
theorem try_2y (l : List UInt8) (h : 2 ≤ l.length) : tryS l 2 = if putS (valS l 2) = l.take 2 then (((valS l 2 : Nat) : Int), 2) else tryS l 3 := by rw [try_2, if_pos h]
theorem try_3n (l : List UInt8) (h : l.length < 3) : tryS l 3 = (-1, 1) := by rw [try_3, if_neg (by omega)]
theorem try_3y (l : List UInt8) (h : 3 ≤ l.length) : tryS l 3 = if putS (valS l 3) = l.take 3 then (((valS l 3 : Nat) : Int), 3) else tryS l 4 := by rw [try_3, if_pos h]
theorem try_4n (l : List UInt8) (h : l.length < 4) : tryS l 4 = (-1, 1) := by rw [try_4, if_neg (by omega)]
theorem try_4y (l : List UInt8) (h : 4 ≤ l.length) : tryS l 4 = if putS (valS l 4) = l.take 4 then (((valS l 4 : Nat) : Int), 4) else (-1, 1) := by rw [try_4, if_pos h]

/-- The program's answer by classes of the first byte. -/
theorem next_class (c : UInt8) (r : List UInt8) :
    (c.toNat < 128 ∧ nextS (c :: r) = ((c.toNat : Int), 1)) ∨
    (192 ≤ c.toNat ∧ c.toNat < 224 ∧ sizeB c = 2 ∧ headB c = c.toNat % 32 ∧ leastB (sizeB c) = 128 ∧ nextS (c :: r) = if r.length + 1 < 2 then (-1, 1) else restS c r) ∨
    (224 ≤ c.toNat ∧ c.toNat < 240 ∧ sizeB c = 3 ∧ headB c = c.toNat % 16 ∧ leastB (sizeB c) = 2048 ∧ nextS (c :: r) = if r.length + 1 < 3 then (-1, 1) else restS c r) ∨
    (240 ≤ c.toNat ∧ c.toNat < 248 ∧ sizeB c = 4 ∧ headB c = c.toNat % 8 ∧ leastB (sizeB c) = 65536 ∧ nextS (c :: r) = if r.length + 1 < 4 then (-1, 1) else restS c r) ∨
    (128 ≤ c.toNat ∧ (c.toNat < 192 ∨ 248 ≤ c.toNat) ∧ nextS (c :: r) = (-1, 1)) := by
  rw [nextS_cons]
  by_cases h0 : c.toNat < 128
  · left; rw [if_pos h0]; exact ⟨h0, rfl⟩
  right
  rw [if_neg h0]
  by_cases h2 : 192 ≤ c.toNat ∧ c.toNat < 224
  · left
    have hs : sizeB c = 2 := by unfold sizeB; rw [if_pos h2]
    refine ⟨h2.1, h2.2, hs, by unfold headB; rw [if_pos h2.2], by rw [hs]; rfl, ?_⟩
    rw [hs]
    by_cases h : r.length + 1 < 2
    · rw [if_pos (.inr h), if_pos h]
    · rw [if_neg (by omega), if_neg h]
  right
  by_cases h3 : 224 ≤ c.toNat ∧ c.toNat < 240
  · left
    have hs : sizeB c = 3 := by unfold sizeB; rw [if_neg h2, if_pos h3]
    refine ⟨h3.1, h3.2, hs, by unfold headB; rw [if_neg (by omega), if_pos h3.2], by rw [hs]; rfl, ?_⟩
    rw [hs]
    by_cases h : r.length + 1 < 3
    · rw [if_pos (.inr h), if_pos h]
    · rw [if_neg (by omega), if_neg h]
  right
  by_cases h4 : 240 ≤ c.toNat ∧ c.toNat < 248
  · left
    have hs : sizeB c = 4 := by unfold sizeB; rw [if_neg h2, if_neg h3, if_pos h4]
    refine ⟨h4.1, h4.2, hs, by unfold headB; rw [if_neg (by omega), if_neg (by omega)], by rw [hs]; unfold leastB; rw [if_neg (by omega), if_neg (by omega), if_pos rfl], ?_⟩
    rw [hs]
    by_cases h : r.length + 1 < 4
    · rw [if_pos (.inr h), if_pos h]
    · rw [if_neg (by omega), if_neg h]
  · right
    have hs : sizeB c = 0 := by unfold sizeB; rw [if_neg h2, if_neg h3, if_neg h4]
    rw [if_pos (.inl hs)]
    exact ⟨by omega, by omega, rfl⟩

theorem all_one (a : UInt8) : ([a].all cont = false) ↔ ¬ (128 ≤ a.toNat ∧ a.toNat < 192) := by simp [cont_no]
theorem all_two (a b : UInt8) : ([a, b].all cont = false) ↔ ¬ ((128 ≤ a.toNat ∧ a.toNat < 192) ∧ (128 ≤ b.toNat ∧ b.toNat < 192)) := by
  rw [← cont_iff a, ← cont_iff b]; cases h1 : cont a <;> cases h2 : cont b <;> simp [h1, h2]
theorem all_three (a b d : UInt8) : ([a, b, d].all cont = false) ↔ ¬ ((128 ≤ a.toNat ∧ a.toNat < 192) ∧ (128 ≤ b.toNat ∧ b.toNat < 192) ∧ (128 ≤ d.toNat ∧ d.toNat < 192)) := by
  rw [← cont_iff a, ← cont_iff b, ← cont_iff d]; cases h1 : cont a <;> cases h2 : cont b <;> cases h3 : cont d <;> simp [h1, h2, h3]

/-- The document's answer is the program's. -/
theorem try_next (l : List UInt8) : (if l.length = 0 then (-1, 0) else tryS l 1) = nextS l := by
  cases l with
  | nil => rfl
  | cons c r =>
    have hlt := c.toNat_lt
    rw [if_neg (by simp), try_1, if_pos (by simp), show valS (c :: r) 1 = c.toNat from rfl, show (c :: r).take 1 = [c] from rfl]
    have p1 := put_one_iff c
    match r with
    | [] =>
      rw [try_2n _ (by simp)]
      rcases next_class c [] with ⟨k1, k2⟩ | ⟨k1, k2, _, _, _, k3⟩ | ⟨k1, k2, _, _, _, k3⟩ | ⟨k1, k2, _, _, _, k3⟩ | ⟨k1, k2, k3⟩
      · rw [k2, if_pos (p1.2 k1)]
      · rw [if_pos (by simp)] at k3
        rw [k3, if_neg (fun e => by have := p1.1 e; omega)]
      · rw [if_pos (by simp)] at k3
        rw [k3, if_neg (fun e => by have := p1.1 e; omega)]
      · rw [if_pos (by simp)] at k3
        rw [k3, if_neg (fun e => by have := p1.1 e; omega)]
      · rw [k3, if_neg (fun e => by have := p1.1 e; omega)]
    | a :: r2 =>
      have ha := a.toNat_lt
      have p2 := put_two (c.toNat % 32 * 64 + a.toNat % 64) c a (by omega)
      rw [try_2y _ (by simp), show valS (c :: a :: r2) 2 = c.toNat % 32 * 64 + a.toNat % 64 from rfl, show (c :: a :: r2).take 2 = [c, a] from rfl]
      have hc2 : 192 ≤ c.toNat ∧ c.toNat < 224 → sizeB c = 2 → headB c = c.toNat % 32 → leastB (sizeB c) = 128 → restS c (a :: r2) = if putS ((c.toNat % 32 * 64 + a.toNat % 64 : Nat) : Int) = [c, a] then (((c.toNat % 32 * 64 + a.toNat % 64 : Nat) : Int), 2) else (-1, 1) := by
        intro h hs hh hl
        rw [restS_def c (a :: r2) [a] (by rw [hs]; rfl) (c.toNat % 32 * 64 + a.toNat % 64) 128 (by rw [hh]; rfl) hl, hs]
        by_cases hp : putS ((c.toNat % 32 * 64 + a.toNat % 64 : Nat) : Int) = [c, a]
        · rw [if_pos hp]
          have := p2.1 hp
          rw [if_neg (by rw [all_one]; omega), if_neg (by rw [rightB_no]; omega)]; rfl
        · rw [if_neg hp]
          have hn := fun h => hp (p2.2 h)
          by_cases h1 : [a].all cont = false
          · rw [if_pos h1]
          · rw [if_neg h1]
            rw [all_one] at h1
            rw [if_pos (.inl (by apply Classical.byContradiction; intro hlt2; exact hn ⟨by omega, by omega, by omega⟩))]
      match r2 with
      | [] =>
        rw [try_3n _ (by simp)]
        rcases next_class c [a] with ⟨k1, k2⟩ | ⟨k1, k2, k4, k5, k6, k3⟩ | ⟨k1, k2, _, _, _, k3⟩ | ⟨k1, k2, _, _, _, k3⟩ | ⟨k1, k2, k3⟩
        · rw [k2, if_pos (p1.2 k1)]
        · rw [if_neg (by simp)] at k3
          rw [k3, if_neg (fun e => by have := p1.1 e; omega), hc2 ⟨k1, k2⟩ k4 k5 k6]
        · rw [if_pos (by simp)] at k3
          rw [k3, if_neg (fun e => by have := p1.1 e; omega), if_neg (fun e => by have := p2.1 e; omega)]
        · rw [if_pos (by simp)] at k3
          rw [k3, if_neg (fun e => by have := p1.1 e; omega), if_neg (fun e => by have := p2.1 e; omega)]
        · rw [k3, if_neg (fun e => by have := p1.1 e; omega), if_neg (fun e => by have := p2.1 e; omega)]
      | b :: r3 =>
        have hb := b.toNat_lt
        have p3 := put_three ((c.toNat % 16 * 64 + a.toNat % 64) * 64 + b.toNat % 64) c a b (by omega)
        rw [try_3y _ (by simp), show valS (c :: a :: b :: r3) 3 = (c.toNat % 16 * 64 + a.toNat % 64) * 64 + b.toNat % 64 from rfl, show (c :: a :: b :: r3).take 3 = [c, a, b] from rfl]
        have hc3 : 224 ≤ c.toNat ∧ c.toNat < 240 → sizeB c = 3 → headB c = c.toNat % 16 → leastB (sizeB c) = 2048 → restS c (a :: b :: r3) = if putS (((c.toNat % 16 * 64 + a.toNat % 64) * 64 + b.toNat % 64 : Nat) : Int) = [c, a, b] then ((((c.toNat % 16 * 64 + a.toNat % 64) * 64 + b.toNat % 64 : Nat) : Int), 3) else (-1, 1) := by
          intro h hs hh hl
          rw [restS_def c (a :: b :: r3) [a, b] (by rw [hs]; rfl) ((c.toNat % 16 * 64 + a.toNat % 64) * 64 + b.toNat % 64) 2048 (by rw [hh]; rfl) hl, hs]
          by_cases hp : putS (((c.toNat % 16 * 64 + a.toNat % 64) * 64 + b.toNat % 64 : Nat) : Int) = [c, a, b]
          · rw [if_pos hp]
            obtain ⟨q1, q2, q3, q4, q5⟩ := p3.1 hp
            rw [if_neg (by rw [all_two]; omega), if_neg (by rw [q2]; simp only [Bool.true_eq_false, or_false]; omega)]; rfl
          · rw [if_neg hp]
            have hn := fun h => hp (p3.2 h)
            by_cases h1 : [a, b].all cont = false
            · rw [if_pos h1]
            · rw [if_neg h1]
              rw [all_two] at h1
              by_cases hr : rightB (((c.toNat % 16 * 64 + a.toNat % 64) * 64 + b.toNat % 64 : Nat) : Int) = true
              · rw [if_pos (.inl (by apply Classical.byContradiction; intro hlt2; exact hn ⟨by omega, hr, by omega, by omega, by omega⟩))]
              · rw [if_pos (.inr (by simpa using hr))]
        match r3 with
        | [] =>
          rw [try_4n _ (by simp)]
          rcases next_class c [a, b] with ⟨k1, k2⟩ | ⟨k1, k2, k4, k5, k6, k3⟩ | ⟨k1, k2, k4, k5, k6, k3⟩ | ⟨k1, k2, _, _, _, k3⟩ | ⟨k1, k2, k3⟩
          · rw [k2, if_pos (p1.2 k1)]
          · rw [if_neg (by simp)] at k3
            have n3 : ¬ (putS _ = [c, a, b]) := fun e => by have := p3.1 e; omega
            rw [k3, if_neg (fun e => by have := p1.1 e; omega), hc2 ⟨k1, k2⟩ k4 k5 k6, if_neg n3]
          · rw [if_neg (by simp)] at k3
            rw [k3, if_neg (fun e => by have := p1.1 e; omega), if_neg (fun e => by have := p2.1 e; omega), hc3 ⟨k1, k2⟩ k4 k5 k6]
          · rw [if_pos (by simp)] at k3
            rw [k3, if_neg (fun e => by have := p1.1 e; omega), if_neg (fun e => by have := p2.1 e; omega), if_neg (fun e => by have := p3.1 e; omega)]
          · rw [k3, if_neg (fun e => by have := p1.1 e; omega), if_neg (fun e => by have := p2.1 e; omega), if_neg (fun e => by have := p3.1 e; omega)]
        | d :: r4 =>
          have hd := d.toNat_lt
          have p4 := put_four (((c.toNat % 8 * 64 + a.toNat % 64) * 64 + b.toNat % 64) * 64 + d.toNat % 64) c a b d (by omega)
          rw [try_4y _ (by simp), show valS (c :: a :: b :: d :: r4) 4 = ((c.toNat % 8 * 64 + a.toNat % 64) * 64 + b.toNat % 64) * 64 + d.toNat % 64 from rfl, show (c :: a :: b :: d :: r4).take 4 = [c, a, b, d] from rfl]
          have hc4 : 240 ≤ c.toNat ∧ c.toNat < 248 → sizeB c = 4 → headB c = c.toNat % 8 → leastB (sizeB c) = 65536 → restS c (a :: b :: d :: r4) = if putS ((((c.toNat % 8 * 64 + a.toNat % 64) * 64 + b.toNat % 64) * 64 + d.toNat % 64 : Nat) : Int) = [c, a, b, d] then (((((c.toNat % 8 * 64 + a.toNat % 64) * 64 + b.toNat % 64) * 64 + d.toNat % 64 : Nat) : Int), 4) else (-1, 1) := by
            intro h hs hh hl
            rw [restS_def c (a :: b :: d :: r4) [a, b, d] (by rw [hs]; rfl) (((c.toNat % 8 * 64 + a.toNat % 64) * 64 + b.toNat % 64) * 64 + d.toNat % 64) 65536 (by rw [hh]; rfl) hl, hs]
            by_cases hp : putS ((((c.toNat % 8 * 64 + a.toNat % 64) * 64 + b.toNat % 64) * 64 + d.toNat % 64 : Nat) : Int) = [c, a, b, d]
            · rw [if_pos hp]
              obtain ⟨q1, q2, q3, q4, q5, q6⟩ := p4.1 hp
              rw [if_neg (by rw [all_three]; omega), if_neg (by rw [q2]; simp only [Bool.true_eq_false, or_false]; omega)]; rfl
            · rw [if_neg hp]
              have hn := fun h => hp (p4.2 h)
              by_cases h1 : [a, b, d].all cont = false
              · rw [if_pos h1]
              · rw [if_neg h1]
                rw [all_three] at h1
                by_cases hr : rightB ((((c.toNat % 8 * 64 + a.toNat % 64) * 64 + b.toNat % 64) * 64 + d.toNat % 64 : Nat) : Int) = true
                · rw [if_pos (.inl (by apply Classical.byContradiction; intro hlt2; exact hn ⟨by omega, hr, by omega, by omega, by omega, by omega⟩))]
                · rw [if_pos (.inr (by simpa using hr))]
          rcases next_class c (a :: b :: d :: r4) with ⟨k1, k2⟩ | ⟨k1, k2, k4, k5, k6, k3⟩ | ⟨k1, k2, k4, k5, k6, k3⟩ | ⟨k1, k2, k4, k5, k6, k3⟩ | ⟨k1, k2, k3⟩
          · rw [k2, if_pos (p1.2 k1)]
          · rw [if_neg (by simp)] at k3
            have n3 : ¬ (putS _ = [c, a, b]) := fun e => by have := p3.1 e; omega
            have n4 : ¬ (putS _ = [c, a, b, d]) := fun e => by have := p4.1 e; omega
            rw [k3, if_neg (fun e => by have := p1.1 e; omega), hc2 ⟨k1, k2⟩ k4 k5 k6, if_neg n3, if_neg n4]
          · rw [if_neg (by simp)] at k3
            have n4 : ¬ (putS _ = [c, a, b, d]) := fun e => by have := p4.1 e; omega
            rw [k3, if_neg (fun e => by have := p1.1 e; omega), if_neg (fun e => by have := p2.1 e; omega), hc3 ⟨k1, k2⟩ k4 k5 k6, if_neg n4]
          · rw [if_neg (by simp)] at k3
            rw [k3, if_neg (fun e => by have := p1.1 e; omega), if_neg (fun e => by have := p2.1 e; omega), if_neg (fun e => by have := p3.1 e; omega), hc4 ⟨k1, k2⟩ k4 k5 k6]
          · rw [k3, if_neg (fun e => by have := p1.1 e; omega), if_neg (fun e => by have := p2.1 e; omega), if_neg (fun e => by have := p3.1 e; omega), if_neg (fun e => by have := p4.1 e; omega)]
end Go.Proofs.YtjbfkblobaikdaaDoor

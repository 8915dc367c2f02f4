/-
  The document's Encode (its printed function) answers what b64's plain words say.
-/
import Derived.Test.YtnbfllfccfppgaaDoorPB64Encodesx1
import Derived.Test.YtnbfllfccfppgaaDoorB64Pure
namespace Go.Proofs.YtnbfllfccfppgaaDoor.B64
open Go.RowKit Go.Proofs.YtnbfllfccfppgaaDoor Go.Proofs.YtnbfllfccfppgaaDoor.PB64Encodes Go.Proofs.YtnbfllfccfppgaaDoorW.PrintWords Go.Proofs.YtnbfllfccfppgaaDoorW.PrintLast Go.Proofs.YtnbfllfccfppgaaDoorW.PrintMore
set_option linter.unusedVariables false

theorem bt_nb (s : ByteArray) (p : Nat) : bt s (p : Int) = (nb s.data.toList p : Nat) := by
  unfold bt
  rw [Int.toNat_natCast]
  split
  · rename_i h; rw [str_get s p h]; rfl
  · rename_i h; rw [nb_behind _ _ (by rw [str_len]; omega)]; rfl
theorem wrap_in (n : Int) (h0 : -9223372036854775808 ≤ n) (h1 : n ≤ 9223372036854775807) : wrap64 n = n := by unfold wrap64; omega
theorem wrap_u64 (n : Int) (h0 : 0 ≤ n) (h1 : n < 18446744073709551616) : IntKind.u64.wrap n = n := by
  simp [IntKind.wrap, IntKind.bits, IntKind.signed]; omega
/-- A bit of bytes. -/
def bitN (l : List UInt8) (p : Nat) : Nat := nb l (p / 8) / 2 ^ (7 - p % 8) % 2
theorem enc_step (s : ByteArray) (x3 : List Int) (i p n k : Nat) (hs : s.size ≤ 20000) (hp : p < 6 * i + 6) (hp0 : 6 * i ≤ p) (hi : 6 * i < 8 * s.size) (hn : n < 1000) :
    warrantref02_Encode.l1 (k + 1) s x3 (6 * i : Nat) (n : Nat) (p : Nat) = warrantref02_Encode.l1 k s x3 (6 * i : Nat) ((2 * n + bitN s.data.toList p : Nat) : Int) ((p + 1 : Nat) : Int) := by
  have hb : bitN s.data.toList p < 2 := Nat.mod_lt _ (by omega)
  simp only [warrantref02_Encode.l1]
  rw [wrap_in (((6 * i : Nat) : Int) + 6) (by omega) (by omega), if_pos (by omega), wrap_in (8 * (s.size : Int)) (by omega) (by omega), wrap_in (2 * ((n : Nat) : Int)) (by omega) (by omega), wrap_in (((p : Nat) : Int) + 1) (by omega) (by omega)]
  by_cases h8 : p < 8 * s.size
  · have hd : Int.tdiv (p : Int) 8 = ((p / 8 : Nat) : Int) := by simp
    have hm : Int.tmod (p : Int) 8 = ((p % 8 : Nat) : Int) := by rw [Int.tmod_eq_emod_of_nonneg (by omega)]; omega
    rw [if_pos (by omega), hd, hm, wrap_in ((p / 8 : Nat) : Int) (by omega) (by omega), if_pos (by omega), if_pos (by omega), wrap_u64 ((p % 8 : Nat) : Int) (by omega) (by omega), wrap_u64 (7 - ((p % 8 : Nat) : Int)) (by omega) (by omega), if_pos (by omega), bt_nb]
    have hsh : shr .u8 (nb s.data.toList (p / 8) : Nat) (7 - ((p % 8 : Nat) : Int)) = ((nb s.data.toList (p / 8) / 2 ^ (7 - p % 8) : Nat) : Int) := by
      unfold shr
      rw [show (7 - ((p % 8 : Nat) : Int)).toNat = 7 - p % 8 by omega, Nat.min_eq_left (by simp [IntKind.bits]; omega)]
      simp
    have hle : nb s.data.toList (p / 8) / 2 ^ (7 - p % 8) ≤ nb s.data.toList (p / 8) := Nat.div_le_self _ _
    have hlt := nb_lt s.data.toList (p / 8)
    have hbe : bitN s.data.toList p = nb s.data.toList (p / 8) / 2 ^ (7 - p % 8) % 2 := rfl
    rw [hsh]
    generalize nb s.data.toList (p / 8) / 2 ^ (7 - p % 8) = z at *
    rw [wrap_in (z : Int) (by omega) (by omega)]
    have hm2 : Int.tmod (z : Int) 2 = ((bitN s.data.toList p : Nat) : Int) := by
      rw [Int.tmod_eq_emod_of_nonneg (by omega), hbe]; omega
    rw [hm2, wrap_in _ (by omega) (by omega)]
    congr 1
  · rw [if_neg (by omega), wrap_in _ (by omega) (by omega)]
    have : bitN s.data.toList p = 0 := by unfold bitN; rw [nb_behind _ _ (by rw [str_len]; omega)]; simp
    rw [this]; congr 1
theorem six (l : List UInt8) (i : Nat) : 2 * (2 * (2 * (2 * (2 * (2 * 0 + bitN l (6 * i)) + bitN l (6 * i + 1)) + bitN l (6 * i + 2)) + bitN l (6 * i + 3)) + bitN l (6 * i + 4)) + bitN l (6 * i + 5) = encW l i := by
  obtain ⟨q, r, rfl, hr⟩ : ∃ q r, i = 4 * q + r ∧ r < 4 := ⟨i / 4, i % 4, by omega, by omega⟩
  have h0 := nb_lt l (3 * q); have h1 := nb_lt l (3 * q + 1); have h2 := nb_lt l (3 * q + 2)
  unfold encW bitN
  rw [show (4 * q + r) / 4 = q by omega]
  rcases (by omega : r = 0 ∨ r = 1 ∨ r = 2 ∨ r = 3) with rfl | rfl | rfl | rfl
  · rw [if_pos (by omega)]
    rw [show 6 * (4 * q + 0) / 8 = 3 * q by omega, show 6 * (4 * q + 0) % 8 = 0 by omega, show (6 * (4 * q + 0) + 1) / 8 = 3 * q by omega, show (6 * (4 * q + 0) + 1) % 8 = 1 by omega, show (6 * (4 * q + 0) + 2) / 8 = 3 * q by omega, show (6 * (4 * q + 0) + 2) % 8 = 2 by omega, show (6 * (4 * q + 0) + 3) / 8 = 3 * q by omega, show (6 * (4 * q + 0) + 3) % 8 = 3 by omega, show (6 * (4 * q + 0) + 4) / 8 = 3 * q by omega, show (6 * (4 * q + 0) + 4) % 8 = 4 by omega, show (6 * (4 * q + 0) + 5) / 8 = 3 * q by omega, show (6 * (4 * q + 0) + 5) % 8 = 5 by omega]
    generalize nb l (3 * q) = a at *
    simp only [Nat.reduceSub, Nat.reducePow]; omega
  · rw [if_neg (by omega), if_pos (by omega)]
    rw [show 6 * (4 * q + 1) / 8 = 3 * q by omega, show 6 * (4 * q + 1) % 8 = 6 by omega, show (6 * (4 * q + 1) + 1) / 8 = 3 * q by omega, show (6 * (4 * q + 1) + 1) % 8 = 7 by omega, show (6 * (4 * q + 1) + 2) / 8 = 3 * q + 1 by omega, show (6 * (4 * q + 1) + 2) % 8 = 0 by omega, show (6 * (4 * q + 1) + 3) / 8 = 3 * q + 1 by omega, show (6 * (4 * q + 1) + 3) % 8 = 1 by omega, show (6 * (4 * q + 1) + 4) / 8 = 3 * q + 1 by omega, show (6 * (4 * q + 1) + 4) % 8 = 2 by omega, show (6 * (4 * q + 1) + 5) / 8 = 3 * q + 1 by omega, show (6 * (4 * q + 1) + 5) % 8 = 3 by omega]
    generalize nb l (3 * q) = a at *
    generalize nb l (3 * q + 1) = b at *
    simp only [Nat.reduceSub, Nat.reducePow]; omega
  · rw [if_neg (by omega), if_neg (by omega), if_pos (by omega)]
    rw [show 6 * (4 * q + 2) / 8 = 3 * q + 1 by omega, show 6 * (4 * q + 2) % 8 = 4 by omega, show (6 * (4 * q + 2) + 1) / 8 = 3 * q + 1 by omega, show (6 * (4 * q + 2) + 1) % 8 = 5 by omega, show (6 * (4 * q + 2) + 2) / 8 = 3 * q + 1 by omega, show (6 * (4 * q + 2) + 2) % 8 = 6 by omega, show (6 * (4 * q + 2) + 3) / 8 = 3 * q + 1 by omega, show (6 * (4 * q + 2) + 3) % 8 = 7 by omega, show (6 * (4 * q + 2) + 4) / 8 = 3 * q + 2 by omega, show (6 * (4 * q + 2) + 4) % 8 = 0 by omega, show (6 * (4 * q + 2) + 5) / 8 = 3 * q + 2 by omega, show (6 * (4 * q + 2) + 5) % 8 = 1 by omega]
    generalize nb l (3 * q + 1) = b at *
    generalize nb l (3 * q + 2) = c at *
    simp only [Nat.reduceSub, Nat.reducePow]; omega
  · rw [if_neg (by omega), if_neg (by omega), if_neg (by omega)]
    rw [show 6 * (4 * q + 3) / 8 = 3 * q + 2 by omega, show 6 * (4 * q + 3) % 8 = 2 by omega, show (6 * (4 * q + 3) + 1) / 8 = 3 * q + 2 by omega, show (6 * (4 * q + 3) + 1) % 8 = 3 by omega, show (6 * (4 * q + 3) + 2) / 8 = 3 * q + 2 by omega, show (6 * (4 * q + 3) + 2) % 8 = 4 by omega, show (6 * (4 * q + 3) + 3) / 8 = 3 * q + 2 by omega, show (6 * (4 * q + 3) + 3) % 8 = 5 by omega, show (6 * (4 * q + 3) + 4) / 8 = 3 * q + 2 by omega, show (6 * (4 * q + 3) + 4) % 8 = 6 by omega, show (6 * (4 * q + 3) + 5) / 8 = 3 * q + 2 by omega, show (6 * (4 * q + 3) + 5) % 8 = 7 by omega]
    generalize nb l (3 * q + 2) = c at *
    simp only [Nat.reduceSub, Nat.reducePow]; omega
theorem sign_f (n : Nat) (h : n < 64) : warrantref02_sign.f (n : Int) = some ((sg n).toNat : Int) := by
  unfold warrantref02_sign.f
  rw [if_pos (by omega), if_pos (by omega)]
  congr 1
  unfold bt
  rw [Int.toNat_natCast, dif_pos (by exact h), str_get _ n (by exact h)]
  rfl
def numsOf (l : List UInt8) : List Int := l.map fun b => (b.toNat : Int)
theorem enc_round (s : ByteArray) (i k : Nat) (hs : s.size ≤ 20000) (hi : i < encLen s.data.toList) :
    warrantref02_Encode.l0 (k + 8) s (numsOf ((encS s.data.toList).take i)) (6 * i : Nat) = warrantref02_Encode.l0 k s (numsOf ((encS s.data.toList).take (i + 1))) ((6 * (i + 1) : Nat) : Int) := by
  have hlen := str_len s
  have h8 : 6 * i < 8 * s.size := by unfold encLen at hi; omega
  have hb : ∀ p, bitN s.data.toList p < 2 := fun p => Nat.mod_lt _ (by omega)
  have b0 := hb (6 * i); have b1 := hb (6 * i + 1); have b2 := hb (6 * i + 2); have b3 := hb (6 * i + 3); have b4 := hb (6 * i + 4)
  rw [show k + 8 = (k + 7) + 1 by rfl]
  simp only [warrantref02_Encode.l0]
  rw [wrap_in (8 * (s.size : Int)) (by omega) (by omega), if_pos (by omega)]
  have e0 := enc_step s (numsOf ((encS s.data.toList).take i)) i (6 * i) 0 (k + 6) hs (by omega) (by omega) h8 (by omega)
  have e1 := enc_step s (numsOf ((encS s.data.toList).take i)) i (6 * i + 1) (2 * 0 + bitN s.data.toList (6 * i)) (k + 5) hs (by omega) (by omega) h8 (by omega)
  have e2 := enc_step s (numsOf ((encS s.data.toList).take i)) i (6 * i + 2) (2 * (2 * 0 + bitN s.data.toList (6 * i)) + bitN s.data.toList (6 * i + 1)) (k + 4) hs (by omega) (by omega) h8 (by omega)
  have e3 := enc_step s (numsOf ((encS s.data.toList).take i)) i (6 * i + 3) (2 * (2 * (2 * 0 + bitN s.data.toList (6 * i)) + bitN s.data.toList (6 * i + 1)) + bitN s.data.toList (6 * i + 2)) (k + 3) hs (by omega) (by omega) h8 (by omega)
  have e4 := enc_step s (numsOf ((encS s.data.toList).take i)) i (6 * i + 4) (2 * (2 * (2 * (2 * 0 + bitN s.data.toList (6 * i)) + bitN s.data.toList (6 * i + 1)) + bitN s.data.toList (6 * i + 2)) + bitN s.data.toList (6 * i + 3)) (k + 2) hs (by omega) (by omega) h8 (by omega)
  have e5 := enc_step s (numsOf ((encS s.data.toList).take i)) i (6 * i + 5) (2 * (2 * (2 * (2 * (2 * 0 + bitN s.data.toList (6 * i)) + bitN s.data.toList (6 * i + 1)) + bitN s.data.toList (6 * i + 2)) + bitN s.data.toList (6 * i + 3)) + bitN s.data.toList (6 * i + 4)) (k + 1) hs (by omega) (by omega) h8 (by omega)
  have ez : warrantref02_Encode.l1 (k + 7) s (numsOf ((encS s.data.toList).take i)) (6 * i : Nat) 0 (6 * i : Nat) = warrantref02_Encode.l1 (k + 7) s (numsOf ((encS s.data.toList).take i)) (6 * i : Nat) ((0 : Nat) : Int) (6 * i : Nat) := rfl
  rw [ez, e0, e1, e2, e3, e4, e5, six]
  simp only [warrantref02_Encode.l1]
  have hw := encW_lt s.data.toList i
  rw [wrap_in (((6 * i : Nat) : Int) + 6) (by omega) (by omega), if_neg (by omega), sign_f _ hw]
  simp only [Option.bind_some]
  have htl : (numsOf ((encS s.data.toList).take i)).length < 140737488355328 := by
    have := List.length_take_le' i (encS s.data.toList)
    have h2 := encS_length s.data.toList
    unfold encLen at h2
    simp only [numsOf, List.length_map]; omega
  rw [if_pos htl, encS_take _ _ hi]
  simp only [numsOf, List.map_append, List.map_cons, List.map_nil]
  congr 1
theorem enc_from (s : ByteArray) (hs : s.size ≤ 20000) (d : Nat) : ∀ i, encLen s.data.toList - i = d → i ≤ encLen s.data.toList →
    warrantref02_Encode.l0 (8 * d + 1) s (numsOf ((encS s.data.toList).take i)) (6 * i : Nat) = some ⟨(encS s.data.toList).toArray⟩ := by
  have hlen := str_len s
  induction d with
  | zero =>
    intro i h1 h2
    simp only [warrantref02_Encode.l0]
    rw [wrap_in (8 * (s.size : Int)) (by omega) (by omega), if_neg (by unfold encLen at *; omega), encS_done _ _ (by omega)]
    congr 1
    exact str_of_nums _
  | succ d ih =>
    intro i h1 h2
    rw [show 8 * (d + 1) + 1 = (8 * d + 1) + 8 by omega, enc_round s i _ hs (by omega)]
    exact ih (i + 1) (by omega) (by omega)
theorem ref_enc (s : ByteArray) (hs : s.size ≤ 20000) : ∃ k, warrantref02_Encode.f k s = some ⟨(encS s.data.toList).toArray⟩ := by
  refine ⟨8 * encLen s.data.toList + 1, ?_⟩
  have := enc_from s hs (encLen s.data.toList) 0 (by omega) (by omega)
  simpa [warrantref02_Encode.f, numsOf] using this
end Go.Proofs.YtnbfllfccfppgaaDoor.B64

/-
  The document's Decode (its printed function) answers what b64's plain words say.
-/
import Derived.Test.YtnbfllfccfppgaaDoorPB64Decodesx2
import Derived.Test.YtnbfllfccfppgaaDoorB64Pure
namespace Go.Proofs.YtnbfllfccfppgaaDoor.B64R
open Go.RowKit Go.Proofs.YtnbfllfccfppgaaDoor Go.Proofs.YtnbfllfccfppgaaDoor.B64 Go.Proofs.YtnbfllfccfppgaaDoor.PB64Decodes Go.Proofs.YtnbfllfccfppgaaDoorW.PrintWords Go.Proofs.YtnbfllfccfppgaaDoorW.PrintLast Go.Proofs.YtnbfllfccfppgaaDoorW.PrintMore
set_option linter.unusedVariables false

theorem bt_nb (s : ByteArray) (p : Nat) : bt s (p : Int) = (nb s.data.toList p : Nat) := by
  unfold bt
  rw [Int.toNat_natCast]
  split
  · rename_i h; rw [str_get s p h]; rfl
  · rename_i h; rw [nb_behind _ _ (by rw [str_len]; omega)]; rfl
theorem wrap_in (n : Int) (h0 : -9223372036854775808 ≤ n) (h1 : n ≤ 9223372036854775807) : wrap64 n = n := by unfold wrap64; omega
theorem wrap_u64 (n : Int) (h0 : 0 ≤ n) (h1 : n < 18446744073709551616) : IntKind.u64.wrap n = n := by
  simp [IntKind.wrap, IntKind.bits, IntKind.signed]; omega
theorem sign_f (n : Nat) (h : n < 64) : warrantref02_sign.f (n : Int) = some ((sg n).toNat : Int) := by
  unfold warrantref02_sign.f
  rw [if_pos (by omega), if_pos (by omega)]
  congr 1
  unfold bt
  rw [Int.toNat_natCast, dif_pos (by exact h), str_get _ n (by exact h)]
  rfl
/-- The worth, as far as n signs have been looked at. -/
def wTo (c : UInt8) (n : Nat) : Int := if 0 ≤ worthS c ∧ worthS c < n then worthS c else -1
theorem wTo_step (c : UInt8) (n : Nat) (hn : n < 64) : wTo c (n + 1) = if ((sg n).toNat : Int) = (c.toNat : Int) then (n : Int) else wTo c n := by
  have hs := worth_sg n hn
  by_cases e : sg n = c
  · rw [if_pos (by rw [e])]
    unfold wTo
    rw [← e, hs, if_pos (by omega)]
  · have hne : ¬ ((sg n).toNat : Int) = (c.toNat : Int) := fun h => e (UInt8.toNat_inj.1 (by omega))
    rw [if_neg hne]
    have hw : ¬ worthS c = n := by
      intro h
      apply e
      have := sg_worth c (by omega)
      rw [← this, h]; simp
    unfold wTo
    by_cases h0 : 0 ≤ worthS c
    · by_cases h1 : worthS c < n
      · rw [if_pos (by omega), if_pos (by omega)]
      · rw [if_neg (by omega), if_neg (by omega)]
    · rw [if_neg (by omega), if_neg (by omega)]
theorem wTo_end (c : UInt8) : wTo c 64 = worthS c := by
  have := worthS_range c
  unfold wTo
  split <;> omega
theorem look (s : ByteArray) (bits : List Int) (i : Nat) (hi : i < s.size) (r : ByteArray × Int × Int) (h : Ev (fun k => warrantref02_Decode.l1 k s bits i (worthS (s.data.toList.getD i 0)) 64) r) (d : Nat) : ∀ n : Nat, 64 - n = d → n ≤ 64 →
    Ev (fun k => warrantref02_Decode.l1 k s bits i (wTo (s.data.toList.getD i 0) n) n) r := by
  induction d with
  | zero =>
    intro n h1 h2
    obtain rfl : n = 64 := by omega
    rw [wTo_end]; exact h
  | succ d ih =>
    intro n h1 h2
    refine Ev.step (f := fun k => warrantref02_Decode.l1 k s bits i (wTo (s.data.toList.getD i 0) (n + 1)) ((n + 1 : Nat) : Int)) (fun k => ?_) (ih (n + 1) (by omega) (by omega))
    simp only [warrantref02_Decode.l1]
    rw [if_pos (by omega), sign_f n (by omega)]
    simp only [Option.bind_some]
    rw [if_pos (by omega), if_pos (by omega), bt_nb, wTo_step _ _ (by omega), wrap_in ((n : Int) + 1) (by omega) (by omega)]
    have e : ((nb s.data.toList i : Nat) : Int) = ((s.data.toList.getD i 0).toNat : Int) := rfl
    rw [e]
    split <;> rfl
/-- A bit of a text's worths. -/
def bitW (s : List UInt8) (p : Nat) : Nat := wv s (p / 6) / 2 ^ (5 - p % 6) % 2
def bitsW (s : List UInt8) (n : Nat) : List Int := (List.range n).map fun p => (bitW s p : Int)
theorem bitsW_succ (s : List UInt8) (n : Nat) : bitsW s (n + 1) = bitsW s n ++ [(bitW s n : Int)] := by unfold bitsW; rw [List.range_succ]; simp
theorem bitsW_length (s : List UInt8) (n : Nat) : (bitsW s n).length = n := by simp [bitsW]
theorem bitsW_get (s : List UInt8) (n p : Nat) (h : p < n) : rd (bitsW s n) (p : Int) = (bitW s p : Int) := by simp [rd, bitsW, List.getD, h]
theorem put_bits (s : ByteArray) (hs : s.size ≤ 65536) (i : Nat) (hi : i < s.size) (r : ByteArray × Int × Int) (h : Ev (fun k => warrantref02_Decode.l0 k s (bitsW s.data.toList (6 * (i + 1))) ((i + 1 : Nat) : Int)) r) (d : Nat) : ∀ j : Nat, 6 - j = d → j ≤ 6 →
    Ev (fun k => warrantref02_Decode.l2 k s (bitsW s.data.toList (6 * i + j)) i (wv s.data.toList i : Nat) (5 - (j : Int))) r := by
  induction d with
  | zero =>
    intro j h1 h2
    obtain rfl : j = 6 := by omega
    refine Ev.step (f := fun k => warrantref02_Decode.l0 k s (bitsW s.data.toList (6 * (i + 1))) ((i + 1 : Nat) : Int)) (fun k => ?_) h
    simp only [warrantref02_Decode.l2]
    rw [if_neg (by omega), wrap_in ((i : Int) + 1) (by omega) (by omega)]
    rfl
  | succ d ih =>
    intro j h1 h2
    refine Ev.step (f := fun k => warrantref02_Decode.l2 k s (bitsW s.data.toList (6 * i + (j + 1))) i (wv s.data.toList i : Nat) (5 - ((j + 1 : Nat) : Int))) (fun k => ?_) (ih (j + 1) (by omega) (by omega))
    simp only [warrantref02_Decode.l2]
    have hw := wv_lt s.data.toList i
    have hlen := bitsW_length s.data.toList (6 * i + j)
    rw [if_pos (by omega), wrap_u64 (5 - (j : Int)) (by omega) (by omega), if_pos (by omega), if_pos (by rw [hlen]; omega), wrap_in (5 - (j : Int) - 1) (by omega) (by omega), ← Nat.add_assoc, bitsW_succ]
    have hsh : shr .i64 (wv s.data.toList i : Nat) (5 - (j : Int)) = ((wv s.data.toList i / 2 ^ (5 - j) : Nat) : Int) := by
      unfold shr
      rw [show (5 - (j : Int)).toNat = 5 - j by omega, Nat.min_eq_left (by simp [IntKind.bits]; omega)]
      simp
    have hb : bitW s.data.toList (6 * i + j) = wv s.data.toList i / 2 ^ (5 - j) % 2 := by
      unfold bitW; rw [show (6 * i + j) / 6 = i by omega, show (6 * i + j) % 6 = j by omega]
    rw [hsh, hb]
    generalize wv s.data.toList i / 2 ^ (5 - j) = z at *
    rw [Int.tmod_eq_emod_of_nonneg (by omega), show (z : Int) % 2 % 256 = ((z % 2 : Nat) : Int) by omega, show (5 : Int) - (j : Int) - 1 = 5 - ((j + 1 : Nat) : Int) by omega]
/-- One sign. -/
theorem one_bad (s : ByteArray) (hs : s.size ≤ 65536) (i : Nat) (hi : i < s.size) (hb : worthS (s.data.toList.getD i 0) < 0) :
    Ev (fun k => warrantref02_Decode.l0 k s (bitsW s.data.toList (6 * i)) (i : Int)) (⟨#[]⟩, 20, (i : Int)) := by
  refine Ev.step (f := fun k => warrantref02_Decode.l1 k s (bitsW s.data.toList (6 * i)) i (wTo (s.data.toList.getD i 0) 0) ((0 : Nat) : Int)) (fun k => ?_) (look s _ i hi _ ?_ 64 0 (by omega) (by omega))
  · simp only [warrantref02_Decode.l0]
    rw [if_pos (by omega)]
    have : wTo (s.data.toList.getD i 0) 0 = -1 := by unfold wTo; rw [if_neg (by omega)]
    rw [this]; rfl
  · refine Ev.step (f := fun _ => some (⟨#[]⟩, 20, (i : Int))) (fun k => ?_) (Ev.now _)
    simp only [warrantref02_Decode.l1]
    rw [if_neg (by omega), if_pos hb]
theorem one_good (s : ByteArray) (hs : s.size ≤ 65536) (i : Nat) (hi : i < s.size) (hb : 0 ≤ worthS (s.data.toList.getD i 0)) (r : ByteArray × Int × Int) (h : Ev (fun k => warrantref02_Decode.l0 k s (bitsW s.data.toList (6 * (i + 1))) ((i + 1 : Nat) : Int)) r) :
    Ev (fun k => warrantref02_Decode.l0 k s (bitsW s.data.toList (6 * i)) (i : Int)) r := by
  refine Ev.step (f := fun k => warrantref02_Decode.l1 k s (bitsW s.data.toList (6 * i)) i (wTo (s.data.toList.getD i 0) 0) ((0 : Nat) : Int)) (fun k => ?_) (look s _ i hi _ ?_ 64 0 (by omega) (by omega))
  · simp only [warrantref02_Decode.l0]
    rw [if_pos (by omega)]
    have : wTo (s.data.toList.getD i 0) 0 = -1 := by unfold wTo; rw [if_neg (by omega)]
    rw [this]; rfl
  · refine Ev.step (f := fun k => warrantref02_Decode.l2 k s (bitsW s.data.toList (6 * i + 0)) i (wv s.data.toList i : Nat) (5 - ((0 : Nat) : Int))) (fun k => ?_) (put_bits s hs i hi r h 6 0 (by omega) (by omega))
    simp only [warrantref02_Decode.l1]
    rw [if_neg (by omega), if_neg (by omega)]
    have : worthS (s.data.toList.getD i 0) = (wv s.data.toList i : Nat) := by unfold wv; omega
    rw [this]; rfl
/-- The bits of byte j. -/
theorem eight (s : List UInt8) (j : Nat) : 2 * (2 * (2 * (2 * (2 * (2 * (2 * (2 * 0 + bitW s (8 * j)) + bitW s (8 * j + 1)) + bitW s (8 * j + 2)) + bitW s (8 * j + 3)) + bitW s (8 * j + 4)) + bitW s (8 * j + 5)) + bitW s (8 * j + 6)) + bitW s (8 * j + 7) = decO s j := by
  obtain ⟨q, r, rfl, hr⟩ : ∃ q r, j = 3 * q + r ∧ r < 3 := ⟨j / 3, j % 3, by omega, by omega⟩
  have h0 := wv_lt s (4 * q); have h1 := wv_lt s (4 * q + 1); have h2 := wv_lt s (4 * q + 2); have h3 := wv_lt s (4 * q + 3)
  unfold decO bitW
  rw [show (3 * q + r) / 3 = q by omega]
  rcases (by omega : r = 0 ∨ r = 1 ∨ r = 2) with rfl | rfl | rfl
  · rw [if_pos (by omega)]
    rw [show 8 * (3 * q + 0) / 6 = 4 * q by omega, show 8 * (3 * q + 0) % 6 = 0 by omega, show (8 * (3 * q + 0) + 1) / 6 = 4 * q by omega, show (8 * (3 * q + 0) + 1) % 6 = 1 by omega, show (8 * (3 * q + 0) + 2) / 6 = 4 * q by omega, show (8 * (3 * q + 0) + 2) % 6 = 2 by omega, show (8 * (3 * q + 0) + 3) / 6 = 4 * q by omega, show (8 * (3 * q + 0) + 3) % 6 = 3 by omega, show (8 * (3 * q + 0) + 4) / 6 = 4 * q by omega, show (8 * (3 * q + 0) + 4) % 6 = 4 by omega, show (8 * (3 * q + 0) + 5) / 6 = 4 * q by omega, show (8 * (3 * q + 0) + 5) % 6 = 5 by omega, show (8 * (3 * q + 0) + 6) / 6 = 4 * q + 1 by omega, show (8 * (3 * q + 0) + 6) % 6 = 0 by omega, show (8 * (3 * q + 0) + 7) / 6 = 4 * q + 1 by omega, show (8 * (3 * q + 0) + 7) % 6 = 1 by omega]
    generalize wv s (4 * q) = a at *
    generalize wv s (4 * q + 1) = b at *
    simp only [Nat.reduceSub, Nat.reducePow]; omega
  · rw [if_neg (by omega), if_pos (by omega)]
    rw [show 8 * (3 * q + 1) / 6 = 4 * q + 1 by omega, show 8 * (3 * q + 1) % 6 = 2 by omega, show (8 * (3 * q + 1) + 1) / 6 = 4 * q + 1 by omega, show (8 * (3 * q + 1) + 1) % 6 = 3 by omega, show (8 * (3 * q + 1) + 2) / 6 = 4 * q + 1 by omega, show (8 * (3 * q + 1) + 2) % 6 = 4 by omega, show (8 * (3 * q + 1) + 3) / 6 = 4 * q + 1 by omega, show (8 * (3 * q + 1) + 3) % 6 = 5 by omega, show (8 * (3 * q + 1) + 4) / 6 = 4 * q + 2 by omega, show (8 * (3 * q + 1) + 4) % 6 = 0 by omega, show (8 * (3 * q + 1) + 5) / 6 = 4 * q + 2 by omega, show (8 * (3 * q + 1) + 5) % 6 = 1 by omega, show (8 * (3 * q + 1) + 6) / 6 = 4 * q + 2 by omega, show (8 * (3 * q + 1) + 6) % 6 = 2 by omega, show (8 * (3 * q + 1) + 7) / 6 = 4 * q + 2 by omega, show (8 * (3 * q + 1) + 7) % 6 = 3 by omega]
    generalize wv s (4 * q + 1) = a at *
    generalize wv s (4 * q + 2) = b at *
    simp only [Nat.reduceSub, Nat.reducePow]; omega
  · rw [if_neg (by omega), if_neg (by omega)]
    rw [show 8 * (3 * q + 2) / 6 = 4 * q + 2 by omega, show 8 * (3 * q + 2) % 6 = 4 by omega, show (8 * (3 * q + 2) + 1) / 6 = 4 * q + 2 by omega, show (8 * (3 * q + 2) + 1) % 6 = 5 by omega, show (8 * (3 * q + 2) + 2) / 6 = 4 * q + 3 by omega, show (8 * (3 * q + 2) + 2) % 6 = 0 by omega, show (8 * (3 * q + 2) + 3) / 6 = 4 * q + 3 by omega, show (8 * (3 * q + 2) + 3) % 6 = 1 by omega, show (8 * (3 * q + 2) + 4) / 6 = 4 * q + 3 by omega, show (8 * (3 * q + 2) + 4) % 6 = 2 by omega, show (8 * (3 * q + 2) + 5) / 6 = 4 * q + 3 by omega, show (8 * (3 * q + 2) + 5) % 6 = 3 by omega, show (8 * (3 * q + 2) + 6) / 6 = 4 * q + 3 by omega, show (8 * (3 * q + 2) + 6) % 6 = 4 by omega, show (8 * (3 * q + 2) + 7) / 6 = 4 * q + 3 by omega, show (8 * (3 * q + 2) + 7) % 6 = 5 by omega]
    generalize wv s (4 * q + 2) = a at *
    generalize wv s (4 * q + 3) = b at *
    simp only [Nat.reduceSub, Nat.reducePow]; omega
def numsOf (l : List UInt8) : List Int := l.map fun b => (b.toNat : Int)
theorem byte_step (s : ByteArray) (x : List Int) (whole : Int) (N j t n k : Nat) (hs : N ≤ 400000) (ht : t < 8) (hj : 8 * j + 8 ≤ N) (hn : 2 * n + 1 < 256) :
    warrantref02_Decode.l4 (k + 1) s (bitsW s.data.toList N) x whole ((8 * j : Nat) : Int) (n : Nat) (t : Nat) = warrantref02_Decode.l4 k s (bitsW s.data.toList N) x whole ((8 * j : Nat) : Int) ((2 * n + bitW s.data.toList (8 * j + t) : Nat) : Int) ((t + 1 : Nat) : Int) := by
  have hb : bitW s.data.toList (8 * j + t) < 2 := Nat.mod_lt _ (by omega)
  have hlen := bitsW_length s.data.toList N
  simp only [warrantref02_Decode.l4]
  rw [if_pos (by omega), wrap_in (((8 * j : Nat) : Int) + (t : Nat)) (by omega) (by omega), if_pos (by omega), hlen, if_pos (by omega), show ((8 * j : Nat) : Int) + (t : Nat) = ((8 * j + t : Nat) : Int) by omega, bitsW_get _ _ _ (by omega), wrap_in ((t : Int) + 1) (by omega) (by omega)]
  rw [show (2 * ((n : Nat) : Int) % 256 + ((bitW s.data.toList (8 * j + t) : Nat) : Int)) % 256 = ((2 * n + bitW s.data.toList (8 * j + t) : Nat) : Int) by omega]
  congr 1
theorem byte_round (s : ByteArray) (N j k : Nat) (whole : Int) (hs : N ≤ 400000) (hj : 8 * j + 8 ≤ N) (hw : ((8 * j : Nat) : Int) < whole) :
    warrantref02_Decode.l3 (k + 10) s (bitsW s.data.toList N) (numsOf ((List.range j).map fun j => UInt8.ofNat (decO s.data.toList j))) whole ((8 * j : Nat) : Int) = warrantref02_Decode.l3 k s (bitsW s.data.toList N) (numsOf ((List.range (j + 1)).map fun j => UInt8.ofNat (decO s.data.toList j))) whole ((8 * (j + 1) : Nat) : Int) := by
  have hb : ∀ p, bitW s.data.toList p < 2 := fun p => Nat.mod_lt _ (by omega)
  have b0 := hb (8 * j); have b1 := hb (8 * j + 1); have b2 := hb (8 * j + 2); have b3 := hb (8 * j + 3); have b4 := hb (8 * j + 4); have b5 := hb (8 * j + 5); have b6 := hb (8 * j + 6); have b7 := hb (8 * j + 7)
  generalize hx : numsOf ((List.range j).map fun j => UInt8.ofNat (decO s.data.toList j)) = x
  rw [show k + 10 = (k + 9) + 1 by rfl]
  simp only [warrantref02_Decode.l3]
  rw [if_pos hw]
  have e0 := byte_step s x whole N j 0 0 (k + 8) hs (by omega) hj (by omega)
  have e1 := byte_step s x whole N j 1 (2 * 0 + bitW s.data.toList (8 * j)) (k := k + 7) (hs := hs) (ht := by omega) (hj := hj) (hn := by omega)
  have e2 := byte_step s x whole N j 2 (2 * (2 * 0 + bitW s.data.toList (8 * j)) + bitW s.data.toList (8 * j + 1)) (k := k + 6) (hs := hs) (ht := by omega) (hj := hj) (hn := by omega)
  have e3 := byte_step s x whole N j 3 (2 * (2 * (2 * 0 + bitW s.data.toList (8 * j)) + bitW s.data.toList (8 * j + 1)) + bitW s.data.toList (8 * j + 2)) (k := k + 5) (hs := hs) (ht := by omega) (hj := hj) (hn := by omega)
  have e4 := byte_step s x whole N j 4 (2 * (2 * (2 * (2 * 0 + bitW s.data.toList (8 * j)) + bitW s.data.toList (8 * j + 1)) + bitW s.data.toList (8 * j + 2)) + bitW s.data.toList (8 * j + 3)) (k := k + 4) (hs := hs) (ht := by omega) (hj := hj) (hn := by omega)
  have e5 := byte_step s x whole N j 5 (2 * (2 * (2 * (2 * (2 * 0 + bitW s.data.toList (8 * j)) + bitW s.data.toList (8 * j + 1)) + bitW s.data.toList (8 * j + 2)) + bitW s.data.toList (8 * j + 3)) + bitW s.data.toList (8 * j + 4)) (k := k + 3) (hs := hs) (ht := by omega) (hj := hj) (hn := by omega)
  have e6 := byte_step s x whole N j 6 (2 * (2 * (2 * (2 * (2 * (2 * 0 + bitW s.data.toList (8 * j)) + bitW s.data.toList (8 * j + 1)) + bitW s.data.toList (8 * j + 2)) + bitW s.data.toList (8 * j + 3)) + bitW s.data.toList (8 * j + 4)) + bitW s.data.toList (8 * j + 5)) (k := k + 2) (hs := hs) (ht := by omega) (hj := hj) (hn := by omega)
  have e7 := byte_step s x whole N j 7 (2 * (2 * (2 * (2 * (2 * (2 * (2 * 0 + bitW s.data.toList (8 * j)) + bitW s.data.toList (8 * j + 1)) + bitW s.data.toList (8 * j + 2)) + bitW s.data.toList (8 * j + 3)) + bitW s.data.toList (8 * j + 4)) + bitW s.data.toList (8 * j + 5)) + bitW s.data.toList (8 * j + 6)) (k := k + 1) (hs := hs) (ht := by omega) (hj := hj) (hn := by omega)
  have ez : warrantref02_Decode.l4 (k + 9) s (bitsW s.data.toList N) x whole ((8 * j : Nat) : Int) 0 0 = warrantref02_Decode.l4 (k + 8 + 1) s (bitsW s.data.toList N) x whole ((8 * j : Nat) : Int) ((0 : Nat) : Int) ((0 : Nat) : Int) := rfl
  refine (ez.trans <| e0.trans <| e1.trans <| e2.trans <| e3.trans <| e4.trans <| e5.trans <| e6.trans e7).trans ?_
  rw [eight]
  simp only [warrantref02_Decode.l4]
  have hd := decO_lt s.data.toList j
  have hxl : x.length < 140737488355328 := by rw [← hx]; simp [numsOf]; omega
  rw [if_neg (by omega), if_pos hxl, wrap_in (((8 * j : Nat) : Int) + 8) (by omega) (by omega), ← hx]
  have e : numsOf ((List.range (j + 1)).map fun j => UInt8.ofNat (decO s.data.toList j)) = numsOf ((List.range j).map fun j => UInt8.ofNat (decO s.data.toList j)) ++ [((decO s.data.toList j : Nat) : Int)] := by
    unfold numsOf
    rw [List.range_succ, List.map_append, List.map_append]
    simp [Nat.mod_eq_of_lt hd]
  rw [e]
  congr 1
theorem bytes_from (s : ByteArray) (N M : Nat) (hs : N ≤ 400000) (hM : 8 * M ≤ N) (r : ByteArray × Int × Int)
    (h : Ev (fun k => warrantref02_Decode.l5 k s (bitsW s.data.toList N) (numsOf ((List.range M).map fun j => UInt8.ofNat (decO s.data.toList j))) ((8 * M : Nat) : Int)) r) (d : Nat) : ∀ j, M - j = d → j ≤ M →
    Ev (fun k => warrantref02_Decode.l3 k s (bitsW s.data.toList N) (numsOf ((List.range j).map fun j => UInt8.ofNat (decO s.data.toList j))) ((8 * M : Nat) : Int) ((8 * j : Nat) : Int)) r := by
  induction d with
  | zero =>
    intro j h1 h2
    obtain rfl : j = M := by omega
    refine Ev.step (f := fun k => warrantref02_Decode.l5 k s (bitsW s.data.toList N) (numsOf ((List.range j).map fun j => UInt8.ofNat (decO s.data.toList j))) ((8 * j : Nat) : Int)) (fun k => ?_) h
    simp only [warrantref02_Decode.l3]
    rw [if_neg (by omega)]
  | succ d ih =>
    intro j h1 h2
    obtain ⟨K, hK⟩ := ih (j + 1) (by omega) (by omega)
    refine ⟨K + 10, fun k hk => ?_⟩
    obtain ⟨m, rfl⟩ : ∃ m, k = m + 10 := ⟨k - 10, by omega⟩
    have := byte_round s N j m ((8 * M : Nat) : Int) hs (by omega) (by omega)
    show warrantref02_Decode.l3 (m + 10) _ _ _ _ _ = _
    rw [this]
    exact hK m (by omega)
theorem rest_zero (s : ByteArray) (N : Nat) (x : List Int) (hs : N ≤ 400000) (d : Nat) : ∀ p, N - p = d → p ≤ N → (∀ q, p ≤ q → q < N → bitW s.data.toList q = 0) →
    Ev (fun k => warrantref02_Decode.l5 k s (bitsW s.data.toList N) x (p : Int)) (strOfNums x, 0, -1) := by
  have hlen := bitsW_length s.data.toList N
  induction d with
  | zero =>
    intro p h1 h2 hz
    refine Ev.step (f := fun _ => some (strOfNums x, 0, -1)) (fun k => ?_) (Ev.now _)
    simp only [warrantref02_Decode.l5]
    rw [if_neg (by rw [hlen]; omega)]
  | succ d ih =>
    intro p h1 h2 hz
    refine Ev.step (f := fun k => warrantref02_Decode.l5 k s (bitsW s.data.toList N) x ((p + 1 : Nat) : Int)) (fun k => ?_) (ih (p + 1) (by omega) (by omega) (fun q h3 h4 => hz q (by omega) h4))
    simp only [warrantref02_Decode.l5]
    rw [if_pos (by rw [hlen]; omega), if_pos (by omega), bitsW_get _ _ _ (by omega), if_pos (by rw [hz p (by omega) (by omega)]; rfl), wrap_in ((p : Int) + 1) (by omega) (by omega)]
    rfl
theorem rest_one (s : ByteArray) (N : Nat) (x : List Int) (hs : N ≤ 400000) (hsz : s.size ≤ 65536) (d : Nat) : ∀ p, N - p = d → p ≤ N → (∃ q, p ≤ q ∧ q < N ∧ bitW s.data.toList q ≠ 0) →
    Ev (fun k => warrantref02_Decode.l5 k s (bitsW s.data.toList N) x (p : Int)) (⟨#[]⟩, 20, (s.size : Int) - 1) := by
  have hlen := bitsW_length s.data.toList N
  induction d with
  | zero => intro p h1 h2 ⟨q, h3, h4, _⟩; omega
  | succ d ih =>
    intro p h1 h2 hz
    by_cases hp : bitW s.data.toList p = 0
    · refine Ev.step (f := fun k => warrantref02_Decode.l5 k s (bitsW s.data.toList N) x ((p + 1 : Nat) : Int)) (fun k => ?_) (ih (p + 1) (by omega) (by omega) ?_)
      · simp only [warrantref02_Decode.l5]
        rw [if_pos (by rw [hlen]; omega), if_pos (by omega), bitsW_get _ _ _ (by omega), if_pos (by rw [hp]; rfl), wrap_in ((p : Int) + 1) (by omega) (by omega)]
        rfl
      · obtain ⟨q, h3, h4, h5⟩ := hz
        refine ⟨q, ?_, h4, h5⟩
        have : q ≠ p := fun e => h5 (e ▸ hp)
        omega
    · refine Ev.step (f := fun _ => some (⟨#[]⟩, 20, (s.size : Int) - 1)) (fun k => ?_) (Ev.now _)
      simp only [warrantref02_Decode.l5]
      rw [if_pos (by rw [hlen]; omega), if_pos (by omega), bitsW_get _ _ _ (by omega), if_neg (by omega), wrap_in ((s.size : Int) - 1) (by omega) (by omega)]
/-- What is left is nothing where all its bits are. -/
theorem rest_iff (s : List UInt8) (n : Nat) (h4 : ¬ n % 4 = 1) : restX s n = 0 ↔ ∀ q, 8 * (6 * n / 8) ≤ q → q < 6 * n → bitW s q = 0 := by
  obtain ⟨m, r, rfl, hr⟩ : ∃ m r, n = 4 * m + r ∧ r < 4 := ⟨n / 4, n % 4, by omega, by omega⟩
  have hw := wv_lt s (4 * m + r - 1)
  rcases (by omega : r = 0 ∨ r = 2 ∨ r = 3) with rfl | rfl | rfl
  · constructor
    · intro _ q h1 h2; omega
    · intro _; unfold restX; rw [if_pos (by omega)]
  · have e : 8 * (6 * (4 * m + 2) / 8) = 24 * m + 8 := by omega
    rw [e]
    unfold restX
    rw [if_neg (by omega), if_neg (by omega), if_pos (by omega)]
    rw [show 4 * m + 2 - 1 = 4 * m + 1 by omega] at hw ⊢
    have hb : ∀ t, t < 4 → bitW s (24 * m + 8 + t) = wv s (4 * m + 1) / 2 ^ (3 - t) % 2 := by
      intro t ht; unfold bitW; rw [show (24 * m + 8 + t) / 6 = 4 * m + 1 by omega, show (24 * m + 8 + t) % 6 = 2 + t by omega, show 5 - (2 + t) = 3 - t by omega]
    have b0 := hb 0 (by omega); have b1 := hb 1 (by omega); have b2 := hb 2 (by omega); have b3 := hb 3 (by omega)
    simp only [Nat.reduceSub, Nat.reducePow, Nat.add_zero] at b0 b1 b2 b3
    constructor
    · intro h q h1 h2
      rcases (by omega : q = 24 * m + 8 ∨ q = 24 * m + 8 + 1 ∨ q = 24 * m + 8 + 2 ∨ q = 24 * m + 8 + 3) with rfl | rfl | rfl | rfl
      · rw [b0]; omega
      · rw [b1]; omega
      · rw [b2]; omega
      · rw [b3]; omega
    · intro h
      have c0 := h (24 * m + 8) (by omega) (by omega); have c1 := h (24 * m + 8 + 1) (by omega) (by omega); have c2 := h (24 * m + 8 + 2) (by omega) (by omega); have c3 := h (24 * m + 8 + 3) (by omega) (by omega)
      rw [b0] at c0; rw [b1] at c1; rw [b2] at c2; rw [b3] at c3
      omega
  · have e : 8 * (6 * (4 * m + 3) / 8) = 24 * m + 16 := by omega
    rw [e]
    unfold restX
    rw [if_neg (by omega), if_neg (by omega), if_neg (by omega)]
    rw [show 4 * m + 3 - 1 = 4 * m + 2 by omega] at hw ⊢
    have hb : ∀ t, t < 2 → bitW s (24 * m + 16 + t) = wv s (4 * m + 2) / 2 ^ (1 - t) % 2 := by
      intro t ht; unfold bitW; rw [show (24 * m + 16 + t) / 6 = 4 * m + 2 by omega, show (24 * m + 16 + t) % 6 = 4 + t by omega, show 5 - (4 + t) = 1 - t by omega]
    have b0 := hb 0 (by omega); have b1 := hb 1 (by omega)
    simp only [Nat.reduceSub, Nat.reducePow, Nat.add_zero] at b0 b1
    constructor
    · intro h q h1 h2
      rcases (by omega : q = 24 * m + 16 ∨ q = 24 * m + 16 + 1) with rfl | rfl
      · rw [b0]; omega
      · rw [b1]; omega
    · intro h
      have c0 := h (24 * m + 16) (by omega) (by omega); have c1 := h (24 * m + 16 + 1) (by omega) (by omega)
      rw [b0] at c0; rw [b1] at c1
      omega
def good (s : List UInt8) (k : Nat) : Prop := ∀ i, i < k → badS (s.getD i 0) = false
theorem getD_at (l : List UInt8) (i : Nat) (h : i < l.length) : l.getD i 0 = l[i] := by simp [List.getD, h]
theorem all_from (s : ByteArray) (hs : s.size ≤ 65536) (d : Nat) : ∀ i, s.size - i = d → i ≤ s.size → good s.data.toList i → Ev (fun k => warrantref02_Decode.l0 k s (bitsW s.data.toList (6 * i)) (i : Int)) (⟨(decS s.data.toList).1.toArray⟩, (decS s.data.toList).2.1, (decS s.data.toList).2.2) := by
  have hlen := str_len s
  induction d with
  | zero =>
    intro i h1 h2 hg
    obtain rfl : i = s.size := by omega
    have hf : s.data.toList.findIdx? badS = none := by
      rw [List.findIdx?_eq_none_iff]
      intro c hc
      obtain ⟨j, hj, rfl⟩ := List.mem_iff_getElem.1 hc
      have := hg j (by omega)
      have e : s.data.toList.getD j 0 = s.data.toList[j] := getD_at _ _ hj
      rwa [e] at this
    unfold decS
    rw [if_neg (by omega), hf, hlen]
    simp only []
    by_cases h4 : s.size % 4 = 1
    · rw [if_pos h4]
      refine Ev.step (f := fun _ => some (⟨#[]⟩, 20, (s.size : Int))) (fun k => ?_) (Ev.now _)
      simp only [warrantref02_Decode.l0]
      rw [if_neg (by omega), if_pos (by omega)]
    · rw [if_neg h4]
      have hbl := bitsW_length s.data.toList (6 * s.size)
      have hM : ((6 * s.size / 8 : Nat) : Int) * 8 = ((8 * (6 * s.size / 8) : Nat) : Int) := by omega
      have hstep : ∀ k, warrantref02_Decode.l0 (k + 1) s (bitsW s.data.toList (6 * s.size)) (s.size : Int) = warrantref02_Decode.l3 k s (bitsW s.data.toList (6 * s.size)) (numsOf ((List.range 0).map fun j => UInt8.ofNat (decO s.data.toList j))) ((8 * (6 * s.size / 8) : Nat) : Int) ((8 * 0 : Nat) : Int) := by
        intro k
        simp only [warrantref02_Decode.l0]
        rw [if_neg (by omega), if_neg (by omega), hbl, show (((6 * s.size : Nat) : Int) / 8) = ((6 * s.size / 8 : Nat) : Int) by omega, wrap_in ((6 * s.size / 8 : Nat) : Int) (by omega) (by omega), hM, wrap_in ((8 * (6 * s.size / 8) : Nat) : Int) (by omega) (by omega)]
        rfl
      refine Ev.step hstep (bytes_from s (6 * s.size) (6 * s.size / 8) (by omega) (by omega) _ ?_ _ 0 rfl (by omega))
      by_cases hr : restX s.data.toList s.size = 0
      · rw [if_pos hr]
        have := rest_zero s (6 * s.size) (numsOf ((List.range (6 * s.size / 8)).map fun j => UInt8.ofNat (decO s.data.toList j))) (by omega) _ (8 * (6 * s.size / 8)) rfl (by omega) ((rest_iff _ _ h4).1 hr)
        have e : strOfNums (numsOf ((List.range (6 * s.size / 8)).map fun j => UInt8.ofNat (decO s.data.toList j))) = ⟨(decB s.data.toList s.size).toArray⟩ := str_of_nums _
        rw [e] at this
        exact this
      · rw [if_neg hr]
        refine rest_one s (6 * s.size) _ (by omega) hs _ (8 * (6 * s.size / 8)) rfl (by omega) ?_
        apply Classical.byContradiction
        intro hn
        apply hr
        rw [rest_iff _ _ h4]
        intro q h1 h2
        apply Classical.byContradiction
        intro hq
        exact hn ⟨q, h1, h2, hq⟩
  | succ d ih =>
    intro i h1 h2 hg
    by_cases hb : worthS (s.data.toList.getD i 0) < 0
    · have hf : s.data.toList.findIdx? badS = some i := by
        rw [List.findIdx?_eq_some_iff_getElem]
        refine ⟨by omega, ?_, ?_⟩
        · have : s.data.toList.getD i 0 = s.data.toList[i] := getD_at _ _ (by omega)
          rw [← this]; simpa [badS] using hb
        · intro j hj
          have := hg j hj
          have e : s.data.toList.getD j 0 = s.data.toList[j] := getD_at _ _ (by omega)
          rw [e] at this; rw [this]; exact Bool.false_ne_true
      have hd : decS s.data.toList = ([], 20, (i : Int)) := by unfold decS; rw [if_neg (by omega), hf]
      rw [hd]
      exact one_bad s hs i (by omega) hb
    · refine one_good s hs i (by omega) (by omega) _ (ih (i + 1) (by omega) (by omega) ?_)
      intro j hj
      by_cases e : j = i
      · subst e; unfold badS; simpa using hb
      · exact hg j (by omega)
theorem ref_dec (s : ByteArray) : ∃ k, warrantref02_Decode.f k s = some (⟨(decS s.data.toList).1.toArray⟩, (decS s.data.toList).2.1, (decS s.data.toList).2.2) := by
  unfold warrantref02_Decode.f
  by_cases h : 65536 < s.size
  · refine ⟨0, ?_⟩
    have hd : decS s.data.toList = ([], 2, -1) := by unfold decS; rw [if_pos (by rw [str_len]; omega)]
    rw [if_pos (by omega), hd]
  · obtain ⟨k, hk⟩ := (all_from s (by omega) s.size 0 (by omega) (by omega) (fun i hi => by omega)).rounds
    refine ⟨k, ?_⟩
    rw [if_neg (by omega)]
    exact hk
end Go.Proofs.YtnbfllfccfppgaaDoor.B64R

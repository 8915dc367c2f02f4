/-
  b64 in plain words: the signs, a text of bytes, the bytes of a text; there and back. No program in sight.
-/
import Derived.Test.YtnbfllfccfppgaaDoorWords
namespace Go.Proofs.YtnbfllfccfppgaaDoor.B64
open Go.Proofs.YtnbfllfccfppgaaDoor

/-- The signs by their worth. -/
def signsT : List UInt8 := [65, 66, 67, 68, 69, 70, 71, 72, 73, 74, 75, 76, 77, 78, 79, 80, 81, 82, 83, 84, 85, 86, 87, 88, 89, 90, 97, 98, 99, 100, 101, 102, 103, 104, 105, 106, 107, 108, 109, 110, 111, 112, 113, 114, 115, 116, 117, 118, 119, 120, 121, 122, 48, 49, 50, 51, 52, 53, 54, 55, 56, 57, 45, 95]
def sg (n : Nat) : UInt8 := signsT.getD n 0
/-- A sign's worth; below 0: none. -/
def worthS (c : UInt8) : Int :=
  if 65 ≤ c.toNat ∧ c.toNat ≤ 90 then (c.toNat : Int) - 65
  else if 97 ≤ c.toNat ∧ c.toNat ≤ 122 then (c.toNat : Int) - 71
  else if 48 ≤ c.toNat ∧ c.toNat ≤ 57 then (c.toNat : Int) + 4
  else if c.toNat = 45 then 62 else if c.toNat = 95 then 63 else -1
theorem worthS_range (c : UInt8) : -1 ≤ worthS c ∧ worthS c ≤ 63 := by
  unfold worthS; (repeat' split) <;> omega
theorem worth_sg : ∀ n, n < 64 → worthS (sg n) = n := by decide +kernel
theorem sg_worth_all : ∀ n, n < 256 → 0 ≤ worthS (UInt8.ofNat n) → sg (worthS (UInt8.ofNat n)).toNat = UInt8.ofNat n := by decide +kernel
theorem sg_worth (c : UInt8) (h : 0 ≤ worthS c) : sg (worthS c).toNat = c := by
  have e : UInt8.ofNat c.toNat = c := by simp
  have := sg_worth_all c.toNat c.toNat_lt (by rw [e]; exact h)
  rwa [e] at this
theorem sg_kind_all : ∀ n, n < 64 → ((65 ≤ (sg n).toNat ∧ (sg n).toNat ≤ 90) ∨ (97 ≤ (sg n).toNat ∧ (sg n).toNat ≤ 122) ∨ (48 ≤ (sg n).toNat ∧ (sg n).toNat ≤ 57) ∨ (sg n).toNat = 45 ∨ (sg n).toNat = 95) := by decide +kernel

/-- A byte of a list, as a number; 0 behind its end. -/
def nb (l : List UInt8) (i : Nat) : Nat := (l.getD i 0).toNat
theorem nb_lt (l : List UInt8) (i : Nat) : nb l i < 256 := (l.getD i 0).toNat_lt
theorem nb_behind (l : List UInt8) (i : Nat) (h : l.length ≤ i) : nb l i = 0 := by unfold nb; simp [List.getD, List.getElem?_eq_none h]
/-- The worth of the text's sign i. -/
def encW (l : List UInt8) (i : Nat) : Nat :=
  if i % 4 = 0 then nb l (3 * (i / 4)) / 4
  else if i % 4 = 1 then nb l (3 * (i / 4)) % 4 * 16 + nb l (3 * (i / 4) + 1) / 16
  else if i % 4 = 2 then nb l (3 * (i / 4) + 1) % 16 * 4 + nb l (3 * (i / 4) + 2) / 64
  else nb l (3 * (i / 4) + 2) % 64
theorem encW_lt (l : List UInt8) (i : Nat) : encW l i < 64 := by
  have := nb_lt l (3 * (i / 4)); have := nb_lt l (3 * (i / 4) + 1); have := nb_lt l (3 * (i / 4) + 2)
  unfold encW; (repeat' split) <;> omega
def encLen (l : List UInt8) : Nat := (8 * l.length + 5) / 6
def encS (l : List UInt8) : List UInt8 := (List.range (encLen l)).map fun i => sg (encW l i)
theorem encS_length (l : List UInt8) : (encS l).length = encLen l := by simp [encS]
theorem encS_get (l : List UInt8) (i : Nat) (h : i < encLen l) : (encS l).getD i 0 = sg (encW l i) := by simp [encS, List.getD, h]
theorem encS_take (l : List UInt8) (k : Nat) (h : k < encLen l) : (encS l).take (k + 1) = (encS l).take k ++ [sg (encW l k)] := by
  rw [List.take_succ_eq_append_getElem (by rw [encS_length]; exact h)]
  simp [encS]
theorem encS_done (l : List UInt8) (k : Nat) (h : encLen l ≤ k) : (encS l).take k = encS l := List.take_of_length_le (by rw [encS_length]; exact h)

/-- Three bytes as one number. -/
def tri (l : List UInt8) (q : Nat) : Nat := nb l (3 * q) * 65536 + nb l (3 * q + 1) * 256 + nb l (3 * q + 2)
theorem tri_lt (l : List UInt8) (q : Nat) : tri l q < 16777216 := by
  have := nb_lt l (3 * q); have := nb_lt l (3 * q + 1); have := nb_lt l (3 * q + 2)
  unfold tri; omega
theorem tri_sign (l : List UInt8) (q k : Nat) (hk : k < 4) : tri l q / 2 ^ (18 - 6 * k) % 64 = encW l (4 * q + k) := by
  have h0 := nb_lt l (3 * q); have h1 := nb_lt l (3 * q + 1); have h2 := nb_lt l (3 * q + 2)
  have e : (4 * q + k) / 4 = q := by omega
  unfold encW tri
  rw [e]
  rcases (by omega : k = 0 ∨ k = 1 ∨ k = 2 ∨ k = 3) with rfl | rfl | rfl | rfl
  · rw [if_pos (by omega)]; omega
  · rw [if_neg (by omega), if_pos (by omega)]; omega
  · rw [if_neg (by omega), if_neg (by omega), if_pos (by omega)]; omega
  · rw [if_neg (by omega), if_neg (by omega), if_neg (by omega)]; omega

/-- The worths of a text. -/
def wv (s : List UInt8) (i : Nat) : Nat := (worthS (s.getD i 0)).toNat
/-- What is left of the bits behind n signs. -/
def restX (s : List UInt8) (n : Nat) : Nat :=
  if n % 4 = 0 then 0 else if n % 4 = 1 then wv s (n - 1) else if n % 4 = 2 then wv s (n - 1) % 16 else wv s (n - 1) % 4
/-- Byte j of what a text stands for. -/
def decO (s : List UInt8) (j : Nat) : Nat :=
  if j % 3 = 0 then wv s (4 * (j / 3)) * 4 + wv s (4 * (j / 3) + 1) / 16
  else if j % 3 = 1 then wv s (4 * (j / 3) + 1) % 16 * 16 + wv s (4 * (j / 3) + 2) / 4
  else wv s (4 * (j / 3) + 2) % 4 * 64 + wv s (4 * (j / 3) + 3)
theorem wv_lt (s : List UInt8) (i : Nat) : wv s i < 64 := by have := worthS_range (s.getD i 0); unfold wv; omega
theorem decO_lt (s : List UInt8) (j : Nat) : decO s j < 256 := by
  have := wv_lt s (4 * (j / 3)); have := wv_lt s (4 * (j / 3) + 1); have := wv_lt s (4 * (j / 3) + 2); have := wv_lt s (4 * (j / 3) + 3)
  unfold decO; (repeat' split) <;> omega
def decB (s : List UInt8) (n : Nat) : List UInt8 := (List.range (6 * n / 8)).map fun j => UInt8.ofNat (decO s j)
theorem decB_length (s : List UInt8) (n : Nat) : (decB s n).length = 6 * n / 8 := by simp [decB]
theorem decB_zero (s : List UInt8) : decB s 0 = [] := by simp [decB]
/-- One sign more: nothing is told. -/
theorem dec_quiet (s : List UInt8) (n : Nat) (h : n % 4 = 0) : decB s (n + 1) = decB s n ∧ restX s (n + 1) = restX s n * 64 + wv s n := by
  constructor
  · unfold decB; rw [show 6 * (n + 1) / 8 = 6 * n / 8 by omega]
  · unfold restX; rw [if_neg (by omega), if_pos (by omega), if_pos h, Nat.add_sub_cancel]; omega
/-- One sign more: a byte is told. -/
theorem dec_byte (s : List UInt8) (n : Nat) (h : n % 4 ≠ 0) :
    decB s (n + 1) = decB s n ++ [UInt8.ofNat ((restX s n * 64 + wv s n) / 2 ^ (6 * n % 8 + 6 - 8))] ∧ restX s (n + 1) = (restX s n * 64 + wv s n) % 2 ^ (6 * n % 8 + 6 - 8) ∧ (restX s n * 64 + wv s n) / 2 ^ (6 * n % 8 + 6 - 8) < 256 := by
  have h0 := wv_lt s n; have h1 := wv_lt s (n - 1)
  have hb : decO s (6 * n / 8) = (restX s n * 64 + wv s n) / 2 ^ (6 * n % 8 + 6 - 8) := by
    rcases (by omega : n % 4 = 1 ∨ n % 4 = 2 ∨ n % 4 = 3) with e | e | e
    · obtain ⟨q, rfl⟩ : ∃ q, n = 4 * q + 1 := ⟨n / 4, by omega⟩
      rw [show 6 * (4 * q + 1) % 8 + 6 - 8 = 4 by omega, show 6 * (4 * q + 1) / 8 = 3 * q by omega]
      unfold decO restX
      rw [if_pos (by omega), if_neg (by omega), if_pos e, show 3 * q / 3 = q by omega, Nat.add_sub_cancel]; rw [Nat.add_sub_cancel] at h1
      omega
    · obtain ⟨q, rfl⟩ : ∃ q, n = 4 * q + 2 := ⟨n / 4, by omega⟩
      rw [show 6 * (4 * q + 2) % 8 + 6 - 8 = 2 by omega, show 6 * (4 * q + 2) / 8 = 3 * q + 1 by omega]
      unfold decO restX
      rw [if_neg (by omega), if_pos (by omega), if_neg (by omega), if_neg (by omega), if_pos e, show (3 * q + 1) / 3 = q by omega, show 4 * q + 2 - 1 = 4 * q + 1 by omega]; rw [show 4 * q + 2 - 1 = 4 * q + 1 by omega] at h1
      omega
    · obtain ⟨q, rfl⟩ : ∃ q, n = 4 * q + 3 := ⟨n / 4, by omega⟩
      rw [show 6 * (4 * q + 3) % 8 + 6 - 8 = 0 by omega, show 6 * (4 * q + 3) / 8 = 3 * q + 2 by omega]
      unfold decO restX
      rw [if_neg (by omega), if_neg (by omega), if_neg (by omega), if_neg (by omega), if_neg (by omega), show (3 * q + 2) / 3 = q by omega, show 4 * q + 3 - 1 = 4 * q + 2 by omega]
      omega
  refine ⟨?_, ?_, ?_⟩
  · unfold decB
    have e1 : 6 * (n + 1) / 8 = 6 * n / 8 + 1 := by
      obtain ⟨q, r, rfl, hr⟩ : ∃ q r, n = 4 * q + r ∧ r < 4 := ⟨n / 4, n % 4, by omega, by omega⟩
      rcases (by omega : r = 1 ∨ r = 2 ∨ r = 3) with rfl | rfl | rfl <;> omega
    rw [e1, List.range_succ, List.map_append, List.map_singleton, hb]
  · rcases (by omega : n % 4 = 1 ∨ n % 4 = 2 ∨ n % 4 = 3) with e | e | e
    · rw [show 6 * n % 8 + 6 - 8 = 4 by omega]; unfold restX
      rw [if_neg (by omega), if_neg (by omega), if_pos (by omega), if_neg (by omega), if_pos e, Nat.add_sub_cancel]; omega
    · rw [show 6 * n % 8 + 6 - 8 = 2 by omega]; unfold restX
      rw [if_neg (by omega), if_neg (by omega), if_neg (by omega), if_neg (by omega), if_neg (by omega), if_pos e, Nat.add_sub_cancel]; omega
    · rw [show 6 * n % 8 + 6 - 8 = 0 by omega]; unfold restX
      rw [if_pos (by omega), if_neg (by omega), if_neg (by omega), if_neg (by omega)]; omega
  · rw [← hb]; exact decO_lt _ _
theorem restX_lt (s : List UInt8) (n : Nat) : restX s n < 64 := by have := wv_lt s (n - 1); unfold restX; (repeat' split) <;> omega

/-- Is it no sign? -/
def badS (c : UInt8) : Bool := decide (worthS c < 0)
/-- Decode, as data: the bytes, the error's number (0: none), its place. -/
def decS (s : List UInt8) : List UInt8 × Int × Int :=
  if 65536 < s.length then ([], 2, -1)
  else match s.findIdx? badS with
    | some i => ([], 20, i)
    | none => if s.length % 4 = 1 then ([], 20, s.length) else if restX s s.length = 0 then (decB s s.length, 0, -1) else ([], 20, s.length - 1)

theorem ext_getD (a b : List UInt8) (h : a.length = b.length) (k : ∀ i, i < a.length → a.getD i 0 = b.getD i 0) : a = b := by
  apply List.ext_getElem h
  intro i h1 h2
  have := k i h1
  simpa [List.getD, h1, h2] using this
theorem u8_ofNat_nb (l : List UInt8) (i : Nat) : UInt8.ofNat (nb l i) = l.getD i 0 := by unfold nb; simp
/-- Bytes come back. -/
theorem dec_enc (l : List UInt8) (h : l.length ≤ 20000) : decS (encS l) = (l, 0, -1) := by
  have hwv : ∀ i, i < encLen l → wv (encS l) i = encW l i := by
    intro i hi
    unfold wv
    rw [encS_get l i hi, worth_sg _ (encW_lt l i)]; simp
  have hlen := encS_length l
  have hbad : (encS l).findIdx? badS = none := by
    rw [List.findIdx?_eq_none_iff]
    intro c hc
    obtain ⟨i, hi, rfl⟩ := List.mem_map.1 hc
    unfold badS
    rw [worth_sg _ (encW_lt l i)]; simp
  unfold decS
  rw [hbad, hlen]
  have hE : encLen l = (8 * l.length + 5) / 6 := rfl
  rw [if_neg (by omega)]
  simp only []
  rw [if_neg (by omega)]
  have hrest : restX (encS l) (encLen l) = 0 := by
    unfold restX
    rcases (by omega : l.length % 3 = 0 ∨ l.length % 3 = 1 ∨ l.length % 3 = 2) with e | e | e
    · rw [if_pos (by omega)]
    · rw [if_neg (by omega), if_neg (by omega), if_pos (by omega), hwv _ (by omega)]
      unfold encW
      rw [if_neg (by omega), if_pos (by omega), nb_behind l (3 * ((encLen l - 1) / 4) + 1) (by omega)]; omega
    · rw [if_neg (by omega), if_neg (by omega), if_neg (by omega), hwv _ (by omega)]
      unfold encW
      rw [if_neg (by omega), if_neg (by omega), if_pos (by omega), nb_behind l (3 * ((encLen l - 1) / 4) + 2) (by omega)]; omega
  rw [if_pos hrest]
  have hb : decB (encS l) (encLen l) = l := by
    apply ext_getD
    · rw [decB_length]; omega
    · intro j hj
      rw [decB_length] at hj
      have hj2 : j < l.length := by omega
      have hd : (decB (encS l) (encLen l)).getD j 0 = UInt8.ofNat (decO (encS l) j) := by simp [decB, List.getD, hj]
      rw [hd, ← u8_ofNat_nb]
      congr 1
      have h0 := nb_lt l (3 * (j / 3)); have h1 := nb_lt l (3 * (j / 3) + 1); have h2 := nb_lt l (3 * (j / 3) + 2)
      unfold decO
      rcases (by omega : j % 3 = 0 ∨ j % 3 = 1 ∨ j % 3 = 2) with e | e | e
      · rw [if_pos e, hwv _ (by omega), hwv _ (by omega)]
        unfold encW
        rw [if_pos (by omega), if_neg (by omega), if_pos (by omega), show 4 * (j / 3) / 4 = j / 3 by omega, show (4 * (j / 3) + 1) / 4 = j / 3 by omega, show nb l j = nb l (3 * (j / 3)) by rw [show 3 * (j / 3) = j by omega]]; omega
      · rw [if_neg (by omega), if_pos e, hwv _ (by omega), hwv _ (by omega)]
        unfold encW
        rw [if_neg (by omega), if_pos (by omega), if_neg (by omega), if_neg (by omega), if_pos (by omega), show (4 * (j / 3) + 1) / 4 = j / 3 by omega, show (4 * (j / 3) + 2) / 4 = j / 3 by omega, show nb l j = nb l (3 * (j / 3) + 1) by rw [show 3 * (j / 3) + 1 = j by omega]]; omega
      · rw [if_neg (by omega), if_neg (by omega), hwv _ (by omega), hwv _ (by omega)]
        unfold encW
        rw [if_neg (by omega), if_neg (by omega), if_pos (by omega), if_neg (by omega), if_neg (by omega), if_neg (by omega), show (4 * (j / 3) + 2) / 4 = j / 3 by omega, show (4 * (j / 3) + 3) / 4 = j / 3 by omega, show nb l j = nb l (3 * (j / 3) + 2) by rw [show 3 * (j / 3) + 2 = j by omega]]; omega
  rw [hb]

theorem lo4 (a w : Nat) (h : w < 64) : (a * 4 + w / 16) % 4 = w / 16 := by omega
theorem hi16 (a w : Nat) (h : w < 64) : (a % 16 * 16 + w / 4) / 16 = a % 16 := by omega
theorem idx0 (n j : Nat) (h : 4 * j < n) (h4 : ¬ n % 4 = 1) : 3 * j < 6 * n / 8 := by
  have : 4 * j + 2 ≤ n := by omega
  omega
/-- A text that stands for bytes is their text. -/
theorem enc_dec (s b : List UInt8) (h : decS s = (b, 0, -1)) : encS b = s := by
  unfold decS at h
  by_cases hl : 65536 < s.length
  · rw [if_pos hl] at h; simp at h
  rw [if_neg hl] at h
  cases hf : s.findIdx? badS with
  | some i => rw [hf] at h; simp at h
  | none =>
  rw [hf] at h
  simp only [] at h
  by_cases h4 : s.length % 4 = 1
  · rw [if_pos h4] at h; simp at h
  rw [if_neg h4] at h
  by_cases hx : ¬ restX s s.length = 0
  · rw [if_neg hx] at h; simp at h
  replace hx := Classical.not_not.1 hx
  rw [if_pos hx] at h
  obtain rfl : decB s s.length = b := by simpa using congrArg Prod.fst h
  clear h
  have hgood : ∀ i, i < s.length → 0 ≤ worthS (s.getD i 0) := by
    intro i hi
    have := (List.findIdx?_eq_none_iff.1 hf) s[i] (List.getElem_mem hi)
    simpa [badS, List.getD, hi] using this
  have hn : ∀ j, j < 6 * s.length / 8 → nb (decB s s.length) j = decO s j := by
    intro j hj
    unfold nb
    have hd : (decB s s.length).getD j 0 = UInt8.ofNat (decO s j) := by simp [decB, List.getD, hj]
    rw [hd]; have := decO_lt s j; simp; omega
  have hz : ∀ j, 6 * s.length / 8 ≤ j → nb (decB s s.length) j = 0 := fun j hj => nb_behind _ _ (by rw [decB_length]; exact hj)
  have hL : encLen (decB s s.length) = s.length := by
    unfold encLen; rw [decB_length]
    obtain ⟨q, r, e, hr⟩ : ∃ q r, s.length = 4 * q + r ∧ r < 4 := ⟨s.length / 4, s.length % 4, by omega, by omega⟩
    rw [e]
    rcases (by omega : r = 0 ∨ r = 2 ∨ r = 3) with rfl | rfl | rfl <;> omega
  apply ext_getD
  · rw [encS_length, hL]
  · intro i hi
    rw [encS_length, hL] at hi
    rw [encS_get _ _ (by rw [hL]; exact hi), ← sg_worth _ (hgood i hi)]
    congr 1
    show _ = wv s i
    have w0 := wv_lt s (4 * (i / 4)); have w1 := wv_lt s (4 * (i / 4) + 1); have w2 := wv_lt s (4 * (i / 4) + 2); have w3 := wv_lt s (4 * (i / 4) + 3)
    have d0 : decO s (3 * (i / 4)) = wv s (4 * (i / 4)) * 4 + wv s (4 * (i / 4) + 1) / 16 := by
      unfold decO; rw [if_pos (by omega), show 3 * (i / 4) / 3 = i / 4 by omega]
    have d1 : decO s (3 * (i / 4) + 1) = wv s (4 * (i / 4) + 1) % 16 * 16 + wv s (4 * (i / 4) + 2) / 4 := by
      unfold decO; rw [if_neg (by omega), if_pos (by omega), show (3 * (i / 4) + 1) / 3 = i / 4 by omega]
    have d2 : decO s (3 * (i / 4) + 2) = wv s (4 * (i / 4) + 2) % 4 * 64 + wv s (4 * (i / 4) + 3) := by
      unfold decO; rw [if_neg (by omega), if_neg (by omega), show (3 * (i / 4) + 2) / 3 = i / 4 by omega]
    unfold encW
    unfold restX at hx
    rcases (by omega : i % 4 = 0 ∨ i % 4 = 1 ∨ i % 4 = 2 ∨ i % 4 = 3) with e | e | e | e
    · rw [if_pos e, hn _ (idx0 _ _ (by omega) h4), d0, show wv s i = wv s (4 * (i / 4)) by rw [show 4 * (i / 4) = i by omega]]; omega
    · rw [if_neg (by omega), if_pos e, hn _ (idx0 _ _ (by omega) h4), d0, show wv s i = wv s (4 * (i / 4) + 1) by rw [show 4 * (i / 4) + 1 = i by omega]]
      by_cases hm : 3 * (i / 4) + 1 < 6 * s.length / 8
      · rw [hn _ hm, d1, lo4 _ _ w1, hi16 _ _ w2]; omega
      · rw [hz _ (by omega)]
        rw [if_neg (by omega), if_neg (by omega), if_pos (by omega), show s.length - 1 = 4 * (i / 4) + 1 by omega] at hx
        omega
    · rw [if_neg (by omega), if_neg (by omega), if_pos e, hn _ (by omega), d1, show wv s i = wv s (4 * (i / 4) + 2) by rw [show 4 * (i / 4) + 2 = i by omega]]
      by_cases hm : 3 * (i / 4) + 2 < 6 * s.length / 8
      · rw [hn _ hm, d2]; omega
      · rw [hz _ (by omega)]
        rw [if_neg (by omega), if_neg (by omega), if_neg (by omega), show s.length - 1 = 4 * (i / 4) + 2 by omega] at hx
        omega
    · rw [if_neg (by omega), if_neg (by omega), if_neg (by omega), hn _ (by omega), d2, show wv s i = wv s (4 * (i / 4) + 3) by rw [show 4 * (i / 4) + 3 = i by omega]]; omega
end Go.Proofs.YtnbfllfccfppgaaDoor.B64

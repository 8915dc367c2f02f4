/-
  StrLib, UtfPure, UtfSpec, UtfNext, UtfRefPut, UtfRefNext, UtfBad, UtfCheck, UrlPart: this proof's parts in one text.
-/
import Derived.Test.YtgdbjkkanjgbnaaDoorMUrlParsesRowa
import Derived.Lib.Strings
import Derived.Lib.Slices
import Derived.Lib.Walk
import Derived.Lib.Bytealg
import Derived.Lib.IndexLaws
import Derived.Deep.QuietTactic
import Derived.BigQuiet
import Derived.OwnWalk
import Derived.Laws.OwnMore
import Derived.Laws.BitsLemmas
import Derived.Test.YtgdbjkkanjgbnaaDoorProg
import Derived.Deep.RegionWith
import Derived.Test.YtgdbjkkanjgbnaaDoorWWords
namespace Go.Proofs.YtgdbjkkanjgbnaaDoor
open Go.RowKit
set_option linter.unusedVariables false
set_option maxHeartbeats 1000000 in
set_option maxRecDepth 100000 in
theorem lib_indexByte (s : ByteArray) (c : Int) (w : World) :
    Calls Tryd.prog 60 #[.string s, .int .u8 c] w fun e w' => e = .returned (.int .i64 (Lib.indexByte s.data.toList c.toNat.toUInt8)) ∧ w' = w := by
  go_enter Tryd.func60, Tryd.ntmps60
  go_wp2
  rw [run_callFunc_extern Tryd.func64 (by kernel_rfl) (by kernel_rfl) (by kernel_rfl) (e := Extern.BytealgIndexByte.indexByte) (by kernel_rfl), Lib.run_indexByteString]
  simp only [Result.andThen]
  rw [Oper.upon_value]
  go_wp2
  go_ret
  exact ⟨rfl, rfl⟩
set_option maxHeartbeats 2000000 in
set_option maxRecDepth 100000 in
theorem lib_index1 (s : ByteArray) (c : UInt8) (w : World) :
    Calls Tryd.prog 58 #[.string s, .string ⟨#[c]⟩] w fun e w' => e = .returned (.int .i64 (Lib.indexByte s.data.toList c)) ∧ w' = w := by
  go_enter Tryd.func58, Tryd.ntmps58
  go_wp2_with (go_at_call 60; refine (lib_indexByte _ _ _).mono ?_; rintro e w' ⟨rfl, rfl⟩)
  · have h : ([c] == s.toList) = true := by assumption
    go_ret
    refine ⟨?_, rfl⟩
    have e : s.data.toList = [c] := by rw [← Lib.toList_data]; exact (beq_iff_eq.1 h).symm
    rw [e]
    simp [Lib.indexByte]
  · go_ret
    exact ⟨rfl, rfl⟩
/-- The parts of bytes. -/
def splitS (c : UInt8) : List UInt8 → List (List UInt8)
  | [] => [[]]
  | b :: l => if b = c then [] :: splitS c l else match splitS c l with | [] => [[b]] | p :: ps => (b :: p) :: ps
theorem splitS_ne (c : UInt8) (l : List UInt8) : splitS c l ≠ [] := by
  cases l with
  | nil => simp [splitS]
  | cons b l => rw [splitS]; split; simp; split <;> simp
theorem splitS_len (c : UInt8) (l : List UInt8) : (splitS c l).length = l.count c + 1 := by
  induction l with
  | nil => simp [splitS]
  | cons b l ih =>
    rw [splitS, List.count_cons]
    by_cases h : b = c
    · simp [h, ih]
    · rw [if_neg h]
      have hne := splitS_ne c l
      cases e : splitS c l with
      | nil => exact absurd e hne
      | cons p ps => rw [e] at ih; simp [h] at ih ⊢; omega
theorem splitS_none {c : UInt8} {l : List UInt8} (h : c ∉ l) : splitS c l = [l] := by
  induction l with
  | nil => rfl
  | cons b l ih =>
    rw [List.mem_cons, not_or] at h
    rw [splitS, if_neg (fun e => h.1 e.symm), ih h.2]
theorem splitS_at {c : UInt8} : ∀ {l : List UInt8} {m : Nat}, l[m]? = some c → (∀ k, k < m → l[k]? ≠ some c) → splitS c l = l.take m :: splitS c (l.drop (m + 1))
  | [], m, h, _ => by simp at h
  | b :: l, 0, h, _ => by
    simp at h
    subst h
    rw [splitS, if_pos rfl]; simp
  | b :: l, m + 1, h, hk => by
    have hb : b ≠ c := fun e => hk 0 (by omega) (by simp [e])
    have ih := splitS_at (l := l) (m := m) (by simpa using h) (fun k hk2 => by have := hk (k + 1) (by omega); simpa using this)
    rw [splitS, if_neg hb, ih]
    simp
theorem count_zero_not {c : UInt8} {l : List UInt8} (h : l.count c = 0) : c ∉ l := List.count_eq_zero.1 h
theorem count_at {c : UInt8} {l : List UInt8} {m : Nat} (h : l[m]? = some c) (hk : ∀ k, k < m → l[k]? ≠ some c) : l.count c = (l.drop (m + 1)).count c + 1 := by
  have h1 := splitS_len c l
  rw [splitS_at h hk, List.length_cons, splitS_len] at h1
  omega
/-- The first place, where there is one. -/
theorem index_pos {c : UInt8} {l : List UInt8} (h : 0 < l.count c) : ∃ m : Nat, Lib.indexByte l c = (m : Int) ∧ m < l.length ∧ l[m]? = some c ∧ ∀ k, k < m → l[k]? ≠ some c := by
  have hge := Lib.indexByte_ge l c
  by_cases hn : Lib.indexByte l c = -1
  · have := Lib.indexByte_none hn
    have hm : c ∈ l := List.count_pos_iff.1 h
    obtain ⟨k, hk⟩ := List.mem_iff_getElem?.1 hm
    exact absurd hk (this k)
  · obtain ⟨m, hm⟩ : ∃ m : Nat, Lib.indexByte l c = (m : Int) := ⟨(Lib.indexByte l c).toNat, by omega⟩
    obtain ⟨h1, h2⟩ := Lib.indexByte_some hm
    exact ⟨m, hm, (List.getElem?_eq_some_iff.1 h1).1, h1, h2⟩
theorem index_neg {c : UInt8} {l : List UInt8} (h : l.count c = 0) : Lib.indexByte l c = -1 := by
  have hge := Lib.indexByte_ge l c
  by_cases hn : Lib.indexByte l c = -1
  · exact hn
  · obtain ⟨m, hm⟩ : ∃ m : Nat, Lib.indexByte l c = (m : Int) := ⟨(Lib.indexByte l c).toNat, by omega⟩
    obtain ⟨h1, _⟩ := Lib.indexByte_some hm
    exact absurd (List.mem_of_getElem? h1) (count_zero_not h)
theorem ext_take (s : ByteArray) (m : Nat) : (s.extract 0 m).data.toList = s.data.toList.take m := by rw [Lib.extract_data]; simp
theorem ext_drop (s : ByteArray) (m : Nat) : (s.extract m s.size).data.toList = s.data.toList.drop m := by
  rw [Lib.extract_data]
  rw [List.take_of_length_le (by rw [List.length_drop]; simp)]
/-- What strings.Cut answers. -/
def CutPost (l : List UInt8) (c : UInt8) (w : World) (e : Ending) (w' : World) : Prop :=
  ∃ a b : ByteArray, ((∃ m : Nat, l[m]? = some c ∧ (∀ k, k < m → l[k]? ≠ some c) ∧ a.data.toList = l.take m ∧ b.data.toList = l.drop (m + 1) ∧ e = .returned (.tuple #[.string a, .string b, .bool true])) ∨
    (c ∉ l ∧ a.data.toList = l ∧ b.data.toList = [] ∧ e = .returned (.tuple #[.string a, .string b, .bool false]))) ∧ Below w.heap.size w w'
set_option maxHeartbeats 2000000 in
set_option maxRecDepth 100000 in
theorem lite_cut (s : ByteArray) (c : UInt8) (w : World) (hs : s.size ≤ 1099511627776) : Calls Tryd.prog 48 #[.string s, .string ⟨#[c]⟩] w (CutPost s.data.toList c w) := by
  have hln := str_len s
  by_cases h0 : 0 < s.data.toList.count c
  · obtain ⟨m, hm, hml, h1, h2⟩ := index_pos h0
    rw [hln] at hml
    have HM := hid hm
    have H1 := hid h1
    have H2 := hid h2
    clear hm h1 h2 h0 hln
    have p0 : decide ((0 : Int) ≤ (m : Int)) = true := decide_eq_true (by omega)
    have p1 : (0 : Int) ≤ (m : Int) := by omega
    have p2 : (m : Int) ≤ (s.size : Int) := by omega
    have p3 : (m : Int) + 1 ≤ (s.size : Int) := by omega
    have p4 : (0 : Int) ≤ (m : Int) + 1 := by omega
    have p5 : ((m : Int) + 1).toNat = m + 1 := by omega
    have p6 : IntKind.i64.wrap ((m : Int) + 1) = (m : Int) + 1 := by rw [IntKind.wrap_i64]; omega
    go_enter Tryd.func48, Tryd.ntmps48
    go_wp2_with (go_at_call 58; refine (lib_index1 _ _ _).mono ?_; rintro e w' ⟨rfl, he⟩; rw [he]; clear he w'; rw [HM.out])
    go_quiet (fail)
    go_wp2
    go_ret3
    refine ⟨_, _, .inl ⟨m, H1.out, H2.out, ext_take s m, ext_drop s (m + 1), rfl⟩, ⟨rfl, rfl, rfl, Nat.le_refl _, fun _ _ => rfl⟩⟩
  · have hc : s.data.toList.count c = 0 := by omega
    have HM := hid (index_neg hc)
    have HN := hid (count_zero_not hc)
    clear hc h0 hln
    go_enter Tryd.func48, Tryd.ntmps48
    go_wp2_with (go_at_call 58; refine (lib_index1 _ _ _).mono ?_; rintro e w' ⟨rfl, he⟩; rw [he]; clear he w'; rw [HM.out])
    go_ret3
    exact ⟨s, ⟨#[]⟩, .inr ⟨HN.out, rfl, rfl, rfl⟩, Below.refl _ _⟩
theorem cut_any (s : ByteArray) (c : UInt8) (w : World) (hs : s.size ≤ 1099511627776) : Calls Tryd.prog 36 #[.string s, .string ⟨#[c]⟩] w (CutPost s.data.toList c w) := by
  go_enter Tryd.func36, Tryd.ntmps36
  go_wp2_with fail
  refine (lite_cut s c w hs).mono ?_
  rintro e w1 ⟨a, b, (⟨m, h1, h2, h3, h4, rfl⟩ | ⟨h1, h2, h3, rfl⟩), hb⟩
  · have HB := hid hb
    have H3 := hid h3
    have H4 := hid h4
    have H1 := hid h1
    have H2 := hid h2
    clear hb h1 h2 h3 h4
    go_wp2
    go_ret3
    exact ⟨a, b, .inl ⟨m, H1.out, H2.out, H3.out, H4.out, rfl⟩, HB.out⟩
  · have HB := hid hb
    have H1 := hid h1
    have H2 := hid h2
    have H3 := hid h3
    clear hb h1 h2 h3
    go_wp2
    go_ret3
    exact ⟨a, b, .inr ⟨H1.out, H2.out, H3.out, rfl⟩, HB.out⟩
end Go.Proofs.YtgdbjkkanjgbnaaDoor

namespace Go.Proofs.YtgdbjkkanjgbnaaDoor
set_option linter.unusedVariables false

/-- Is it a byte that goes on? -/
def cont (c : UInt8) : Bool := c.toNat / 64 == 2
/-- How many bytes begin with it. -/
def sizeB (c : UInt8) : Nat := if 192 ≤ c.toNat ∧ c.toNat < 224 then 2 else if 224 ≤ c.toNat ∧ c.toNat < 240 then 3 else if 240 ≤ c.toNat ∧ c.toNat < 248 then 4 else 0
def headB (c : UInt8) : Nat := if c.toNat < 224 then c.toNat % 32 else if c.toNat < 240 then c.toNat % 16 else c.toNat % 8
def accB (a : Nat) (l : List UInt8) : Nat := l.foldl (fun a x => a * 64 + x.toNat % 64) a
def leastB (n : Nat) : Nat := if n = 2 then 128 else if n = 3 then 2048 else if n = 4 then 65536 else 0
def rightB (n : Int) : Bool := decide (0 ≤ n) && decide (n ≤ 1114111) && (decide (n < 55296) || decide (57343 < n))
theorem rightB_iff (n : Int) : rightB n = true ↔ 0 ≤ n ∧ n ≤ 1114111 ∧ (n < 55296 ∨ 57343 < n) := by
  unfold rightB; simp [and_assoc]
/-- What is behind the first byte. -/
def restS (c : UInt8) (r : List UInt8) : Int × Int :=
  if (r.take (sizeB c - 1)).all cont = false then (-1, 1)
  else if accB (headB c) (r.take (sizeB c - 1)) < leastB (sizeB c) ∨ rightB (accB (headB c) (r.take (sizeB c - 1)) : Nat) = false then (-1, 1)
  else ((accB (headB c) (r.take (sizeB c - 1)) : Nat), (sizeB c : Nat))
/-- The letter at the beginning, and its bytes' number. -/
def nextS (l : List UInt8) : Int × Int :=
  match l with
  | [] => (-1, 0)
  | c :: r => if c.toNat < 128 then ((c.toNat : Int), 1) else if sizeB c = 0 ∨ r.length + 1 < sizeB c then (-1, 1) else restS c r

theorem nextS_cons (c : UInt8) (r : List UInt8) : nextS (c :: r) = if c.toNat < 128 then ((c.toNat : Int), 1) else if sizeB c = 0 ∨ r.length + 1 < sizeB c then (-1, 1) else restS c r := rfl
theorem accB_snoc (a : Nat) (l : List UInt8) (k : Nat) (h : k < l.length) : accB a (l.take (k + 1)) = accB a (l.take k) * 64 + (l.getD k 0).toNat % 64 := by
  have : l.take (k + 1) = l.take k ++ [l.getD k 0] := by
    rw [List.take_succ_eq_append_getElem h]; simp [List.getD, h]
  rw [this]; unfold accB; simp
/-! ### bits -/
theorem cont_bits (c : UInt8) : (bits .and .u8 (c.toNat : Int) 192 != 128) = !(cont c) := by
  have h : ∀ n : Fin 256, (bits .and .u8 ((n.val : Nat) : Int) 192 != 128) = !(n.val / 64 == 2) := by decide +kernel
  exact h ⟨c.toNat, c.toNat_lt⟩
theorem and63 (c : UInt8) : bits .and .u8 (c.toNat : Int) 63 = (c.toNat : Int) % 64 :=
  u8_and63 _ (by omega) (by have := c.toNat_lt; omega)
theorem and_i64 (m : Nat) (k : Nat) (hk : ∀ n : Fin 256, bits .and .i64 ((n.val : Nat) : Int) m = ((n.val : Nat) : Int) % k) (c : UInt8) : bits .and .i64 (c.toNat : Int) m = (c.toNat : Int) % k := hk ⟨c.toNat, c.toNat_lt⟩
theorem and31 (c : UInt8) : bits .and .i64 (c.toNat : Int) 31 = (c.toNat : Int) % 32 := and_i64 31 32 (by decide +kernel) c
theorem and15 (c : UInt8) : bits .and .i64 (c.toNat : Int) 15 = (c.toNat : Int) % 16 := and_i64 15 16 (by decide +kernel) c
theorem and7 (c : UInt8) : bits .and .i64 (c.toNat : Int) 7 = (c.toNat : Int) % 8 := and_i64 7 8 (by decide +kernel) c
theorem wraps_i64 (n : Int) (h₀ : 0 ≤ n) (h₁ : n < 2 ^ 62) : IntKind.i64.wrap n = n := by rw [IntKind.wrap_i64]; omega
/-- letter<<6 | low. -/
theorem or64 (a y : Nat) (ha : a < 1099511627776) : bits .or .i64 ((a : Int) * 64) ((y : Int) % 64) = (a : Int) * 64 + (y : Int) % 64 :=
  bits_join .i64 62 (by decide) wraps_i64 6 ((a : Int) * 64) ((y : Int) % 64) (by omega) (by omega) (by omega) (by omega) (by omega) (by omega)
end Go.Proofs.YtgdbjkkanjgbnaaDoor

namespace Go.Proofs.YtgdbjkkanjgbnaaDoor
set_option linter.unusedVariables false

/-- A number as a byte. -/
def by8 (n : Nat) : UInt8 := UInt8.ofNat n
theorem by8_toNat (n : Nat) (h : n < 256) : (by8 n).toNat = n := by unfold by8; simp; omega
theorem by8_eq (n : Nat) (h : n < 256) (c : UInt8) : by8 n = c ↔ n = c.toNat := by
  rw [← UInt8.toNat_inj, by8_toNat n h]
/-- A letter's bytes. -/
def putN (n : Nat) : List UInt8 :=
  if n < 128 then [by8 n] else if n < 2048 then [by8 (192 + n / 64), by8 (128 + n % 64)]
  else if n < 65536 then [by8 (224 + n / 4096), by8 (128 + n / 64 % 64), by8 (128 + n % 64)]
  else [by8 (240 + n / 262144), by8 (128 + n / 4096 % 64), by8 (128 + n / 64 % 64), by8 (128 + n % 64)]
def putS (n : Int) : List UInt8 := if rightB n = true then putN n.toNat else []

/-- The document's value of the first k bytes. -/
def valS (l : List UInt8) (k : Nat) : Nat := accB (if k = 1 then (l.getD 0 0).toNat else if k = 2 then (l.getD 0 0).toNat % 32 else if k = 3 then (l.getD 0 0).toNat % 16 else (l.getD 0 0).toNat % 8) ((l.drop 1).take (k - 1))
/-- The document's answer from size k on. -/
def tryS (l : List UInt8) (k : Nat) : Int × Int :=
  if k ≤ 4 ∧ k ≤ l.length then (if putS (valS l k) = l.take k then ((valS l k : Nat), (k : Nat)) else tryS l (k + 1)) else (-1, 1)
termination_by 5 - k

theorem accB_lt0 (l : List UInt8) (a : Nat) : accB a l < (a + 1) * 64 ^ l.length := by
  induction l generalizing a with
  | nil => simp [accB]
  | cons x r ih =>
    have := ih (a * 64 + x.toNat % 64)
    show accB (a * 64 + x.toNat % 64) r < _
    have h2 : (a * 64 + x.toNat % 64 + 1) * 64 ^ r.length ≤ ((a + 1) * 64) * 64 ^ r.length := Nat.mul_le_mul_right _ (by omega)
    rw [List.length_cons, Nat.pow_succ, Nat.mul_comm (64 ^ r.length) 64, ← Nat.mul_assoc]
    omega
theorem cont_iff (c : UInt8) : cont c = true ↔ 128 ≤ c.toNat ∧ c.toNat < 192 := by unfold cont; rw [beq_iff_eq]; omega
theorem cont_no (c : UInt8) : cont c = false ↔ ¬ (128 ≤ c.toNat ∧ c.toNat < 192) := by rw [← cont_iff]; simp
theorem put_len1 (n : Int) (c : UInt8) (h : putS n = [c]) : n = c.toNat ∧ c.toNat < 128 := by
  unfold putS at h
  by_cases hr : rightB n = true
  · rw [if_pos hr] at h
    have := (rightB_iff n).1 hr
    unfold putN at h
    by_cases h1 : n.toNat < 128
    · rw [if_pos h1] at h
      simp at h
      have := (by8_eq _ (by omega) c).1 h
      omega
    · rw [if_neg h1] at h
      by_cases h2 : n.toNat < 2048
      · rw [if_pos h2] at h; simp at h
      · rw [if_neg h2] at h
        by_cases h3 : n.toNat < 65536
        · rw [if_pos h3] at h; simp at h
        · rw [if_neg h3] at h; simp at h
  · rw [if_neg hr] at h; simp at h
theorem put_one (c : UInt8) (h : c.toNat < 128) : putS (c.toNat : Int) = [c] := by
  unfold putS putN
  rw [if_pos ((rightB_iff _).2 (by omega)), if_pos (by omega)]
  simp [(by8_eq c.toNat (by have := c.toNat_lt; omega) c).2 rfl]
theorem put_two (v : Nat) (a b : UInt8) (h : v < 2048) : putS (v : Int) = [a, b] ↔ 128 ≤ v ∧ 192 + v / 64 = a.toNat ∧ 128 + v % 64 = b.toNat := by
  unfold putS putN
  rw [if_pos ((rightB_iff _).2 (by omega)), Int.toNat_natCast]
  by_cases h1 : v < 128
  · rw [if_pos h1]; simp; omega
  · rw [if_neg h1, if_pos h]
    simp only [List.cons.injEq, and_true]
    rw [by8_eq _ (by omega), by8_eq _ (by omega)]
    omega
theorem put_three (v : Nat) (a b c : UInt8) (h : v < 65536) : putS (v : Int) = [a, b, c] ↔ 2048 ≤ v ∧ rightB v = true ∧ 224 + v / 4096 = a.toNat ∧ 128 + v / 64 % 64 = b.toNat ∧ 128 + v % 64 = c.toNat := by
  unfold putS putN
  rw [Int.toNat_natCast]
  by_cases hr : rightB v = true
  · rw [if_pos hr]
    by_cases h1 : v < 128
    · rw [if_pos h1]; simp; omega
    · rw [if_neg h1]
      by_cases h2 : v < 2048
      · rw [if_pos h2]; simp; omega
      · rw [if_neg h2, if_pos h]
        simp only [List.cons.injEq, and_true]
        rw [by8_eq _ (by omega), by8_eq _ (by omega), by8_eq _ (by omega)]
        simp only [hr, true_and]; omega
  · rw [if_neg hr]; simp [hr]
theorem put_four (v : Nat) (a b c d : UInt8) (h : v < 2097152) : putS (v : Int) = [a, b, c, d] ↔ 65536 ≤ v ∧ rightB v = true ∧ 240 + v / 262144 = a.toNat ∧ 128 + v / 4096 % 64 = b.toNat ∧ 128 + v / 64 % 64 = c.toNat ∧ 128 + v % 64 = d.toNat := by
  unfold putS putN
  rw [Int.toNat_natCast]
  by_cases hr : rightB v = true
  · rw [if_pos hr]
    by_cases h1 : v < 128
    · rw [if_pos h1]; simp; omega
    · rw [if_neg h1]
      by_cases h2 : v < 2048
      · rw [if_pos h2]; simp; omega
      · rw [if_neg h2]
        by_cases h3 : v < 65536
        · rw [if_pos h3]; simp; omega
        · rw [if_neg h3]
          have := (rightB_iff v).1 hr
          simp only [List.cons.injEq, and_true]
          rw [by8_eq _ (by omega), by8_eq _ (by omega), by8_eq _ (by omega), by8_eq _ (by omega)]
          simp only [hr, true_and]; omega
  · rw [if_neg hr]; simp [hr]

theorem restS_def (c : UInt8) (r : List UInt8) (m : List UInt8) (hm : r.take (sizeB c - 1) = m) (x L : Nat) (hx : accB (headB c) m = x) (hL : leastB (sizeB c) = L) :
    restS c r = if m.all cont = false then (-1, 1) else if x < L ∨ rightB x = false then (-1, 1) else ((x : Int), (sizeB c : Int)) := by
  unfold restS; rw [hm, hx, hL]

theorem rightB_no (n : Int) : rightB n = false ↔ ¬ (0 ≤ n ∧ n ≤ 1114111 ∧ (n < 55296 ∨ 57343 < n)) := by rw [← rightB_iff]; simp
theorem put_one_iff (c : UInt8) : putS (c.toNat : Int) = [c] ↔ c.toNat < 128 := ⟨fun h => (put_len1 _ _ h).2, put_one c⟩
theorem try_4 (l : List UInt8) : tryS l 4 = if 4 ≤ l.length then (if putS (valS l 4) = l.take 4 then (((valS l 4 : Nat) : Int), 4) else (-1, 1)) else (-1, 1) := by
  unfold tryS
  by_cases h : 4 ≤ l.length
  · rw [if_pos ⟨Nat.le_refl _, h⟩, if_pos h]
    by_cases h2 : putS (valS l 4) = l.take 4
    · rw [if_pos h2, if_pos h2]; rfl
    · rw [if_neg h2, if_neg h2]; unfold tryS; rw [if_neg (by omega)]
  · rw [if_neg (by omega), if_neg h]
theorem try_3 (l : List UInt8) : tryS l 3 = if 3 ≤ l.length then (if putS (valS l 3) = l.take 3 then (((valS l 3 : Nat) : Int), 3) else tryS l 4) else (-1, 1) := by
  rw [tryS]
  by_cases h : 3 ≤ l.length
  · rw [if_pos ⟨by omega, h⟩, if_pos h]; rfl
  · rw [if_neg (by omega), if_neg h]
theorem try_2 (l : List UInt8) : tryS l 2 = if 2 ≤ l.length then (if putS (valS l 2) = l.take 2 then (((valS l 2 : Nat) : Int), 2) else tryS l 3) else (-1, 1) := by
  rw [tryS]
  by_cases h : 2 ≤ l.length
  · rw [if_pos ⟨by omega, h⟩, if_pos h]; rfl
  · rw [if_neg (by omega), if_neg h]
theorem try_1 (l : List UInt8) : tryS l 1 = if 1 ≤ l.length then (if putS (valS l 1) = l.take 1 then (((valS l 1 : Nat) : Int), 1) else tryS l 2) else (-1, 1) := by
  rw [tryS]
  by_cases h : 1 ≤ l.length
  · rw [if_pos ⟨by omega, h⟩, if_pos h]; rfl
  · rw [if_neg (by omega), if_neg h]

theorem try_2n (l : List UInt8) (h : l.length < 2) : tryS l 2 = (-1, 1) := by rw [try_2, if_neg (by omega)]
theorem try_2y (l : List UInt8) (h : 2 ≤ l.length) : tryS l 2 = if putS (valS l 2) = l.take 2 then (((valS l 2 : Nat) : Int), 2) else tryS l 3 := by rw [try_2, if_pos h]
theorem try_3n (l : List UInt8) (h : l.length < 3) : tryS l 3 = (-1, 1) := by rw [try_3, if_neg (by omega)]
theorem try_3y (l : List UInt8) (h : 3 ≤ l.length) : tryS l 3 = if putS (valS l 3) = l.take 3 then (((valS l 3 : Nat) : Int), 3) else tryS l 4 := by rw [try_3, if_pos h]
theorem try_4n (l : List UInt8) (h : l.length < 4) : tryS l 4 = (-1, 1) := by rw [try_4, if_neg (by omega)]
theorem try_4y (l : List UInt8) (h : 4 ≤ l.length) : tryS l 4 = if putS (valS l 4) = l.take 4 then (((valS l 4 : Nat) : Int), 4) else (-1, 1) := by rw [try_4, if_pos h]

/-- The program's answer by classes of the first byte. -/
theorem next_class (c : UInt8) (r : List UInt8) :
    (c.toNat < 128 ∧ nextS (c :: r) = ((c.toNat : Int), 1)) ∨
    (192 ≤ c.toNat ∧ c.toNat < 224 ∧ sizeB c = 2 ∧ headB c = c.toNat % 32 ∧ leastB (sizeB c) = 128 ∧ nextS (c :: r) = if r.length + 1 < 2 then (-1, 1) else restS c r) ∨
    (224 ≤ c.toNat ∧ c.toNat < 240 ∧ sizeB c = 3 ∧ headB c = c.toNat % 16 ∧ leastB (sizeB c) = 2048 ∧ nextS (c :: r) = if r.length + 1 < 3 then (-1, 1) else restS c r) ∨
    (240 ≤ c.toNat ∧ c.toNat < 248 ∧ sizeB c = 4 ∧ headB c = c.toNat % 8 ∧ leastB (sizeB c) = 65536 ∧ nextS (c :: r) = if r.length + 1 < 4 then (-1, 1) else restS c r) ∨
    (128 ≤ c.toNat ∧ (c.toNat < 192 ∨ 248 ≤ c.toNat) ∧ nextS (c :: r) = (-1, 1)) := by
  rw [nextS_cons]
  by_cases h0 : c.toNat < 128
  · left; rw [if_pos h0]; exact ⟨h0, rfl⟩
  right
  rw [if_neg h0]
  by_cases h2 : 192 ≤ c.toNat ∧ c.toNat < 224
  · left
    have hs : sizeB c = 2 := by unfold sizeB; rw [if_pos h2]
    refine ⟨h2.1, h2.2, hs, by unfold headB; rw [if_pos h2.2], by rw [hs]; rfl, ?_⟩
    rw [hs]
    by_cases h : r.length + 1 < 2
    · rw [if_pos (.inr h), if_pos h]
    · rw [if_neg (by omega), if_neg h]
  right
  by_cases h3 : 224 ≤ c.toNat ∧ c.toNat < 240
  · left
    have hs : sizeB c = 3 := by unfold sizeB; rw [if_neg h2, if_pos h3]
    refine ⟨h3.1, h3.2, hs, by unfold headB; rw [if_neg (by omega), if_pos h3.2], by rw [hs]; rfl, ?_⟩
    rw [hs]
    by_cases h : r.length + 1 < 3
    · rw [if_pos (.inr h), if_pos h]
    · rw [if_neg (by omega), if_neg h]
  right
  by_cases h4 : 240 ≤ c.toNat ∧ c.toNat < 248
  · left
    have hs : sizeB c = 4 := by unfold sizeB; rw [if_neg h2, if_neg h3, if_pos h4]
    refine ⟨h4.1, h4.2, hs, by unfold headB; rw [if_neg (by omega), if_neg (by omega)], by rw [hs]; unfold leastB; rw [if_neg (by omega), if_neg (by omega), if_pos rfl], ?_⟩
    rw [hs]
    by_cases h : r.length + 1 < 4
    · rw [if_pos (.inr h), if_pos h]
    · rw [if_neg (by omega), if_neg h]
  · right
    have hs : sizeB c = 0 := by unfold sizeB; rw [if_neg h2, if_neg h3, if_neg h4]
    rw [if_pos (.inl hs)]
    exact ⟨by omega, by omega, rfl⟩

theorem all_one (a : UInt8) : ([a].all cont = false) ↔ ¬ (128 ≤ a.toNat ∧ a.toNat < 192) := by simp [cont_no]
theorem all_two (a b : UInt8) : ([a, b].all cont = false) ↔ ¬ ((128 ≤ a.toNat ∧ a.toNat < 192) ∧ (128 ≤ b.toNat ∧ b.toNat < 192)) := by
  rw [← cont_iff a, ← cont_iff b]; cases h1 : cont a <;> cases h2 : cont b <;> simp [h1, h2]
theorem all_three (a b d : UInt8) : ([a, b, d].all cont = false) ↔ ¬ ((128 ≤ a.toNat ∧ a.toNat < 192) ∧ (128 ≤ b.toNat ∧ b.toNat < 192) ∧ (128 ≤ d.toNat ∧ d.toNat < 192)) := by
  rw [← cont_iff a, ← cont_iff b, ← cont_iff d]; cases h1 : cont a <;> cases h2 : cont b <;> cases h3 : cont d <;> simp [h1, h2, h3]

/-- The document's answer is the program's. -/
theorem try_next (l : List UInt8) : (if l.length = 0 then (-1, 0) else tryS l 1) = nextS l := by
  cases l with
  | nil => rfl
  | cons c r =>
    have hlt := c.toNat_lt
    rw [if_neg (by simp), try_1, if_pos (by simp), show valS (c :: r) 1 = c.toNat from rfl, show (c :: r).take 1 = [c] from rfl]
    have p1 := put_one_iff c
    match r with
    | [] =>
      rw [try_2n _ (by simp)]
      rcases next_class c [] with ⟨k1, k2⟩ | ⟨k1, k2, _, _, _, k3⟩ | ⟨k1, k2, _, _, _, k3⟩ | ⟨k1, k2, _, _, _, k3⟩ | ⟨k1, k2, k3⟩
      · rw [k2, if_pos (p1.2 k1)]
      · rw [if_pos (by simp)] at k3
        rw [k3, if_neg (fun e => by have := p1.1 e; omega)]
      · rw [if_pos (by simp)] at k3
        rw [k3, if_neg (fun e => by have := p1.1 e; omega)]
      · rw [if_pos (by simp)] at k3
        rw [k3, if_neg (fun e => by have := p1.1 e; omega)]
      · rw [k3, if_neg (fun e => by have := p1.1 e; omega)]
    | a :: r2 =>
      have ha := a.toNat_lt
      have p2 := put_two (c.toNat % 32 * 64 + a.toNat % 64) c a (by omega)
      rw [try_2y _ (by simp), show valS (c :: a :: r2) 2 = c.toNat % 32 * 64 + a.toNat % 64 from rfl, show (c :: a :: r2).take 2 = [c, a] from rfl]
      have hc2 : 192 ≤ c.toNat ∧ c.toNat < 224 → sizeB c = 2 → headB c = c.toNat % 32 → leastB (sizeB c) = 128 → restS c (a :: r2) = if putS ((c.toNat % 32 * 64 + a.toNat % 64 : Nat) : Int) = [c, a] then (((c.toNat % 32 * 64 + a.toNat % 64 : Nat) : Int), 2) else (-1, 1) := by
        intro h hs hh hl
        rw [restS_def c (a :: r2) [a] (by rw [hs]; rfl) (c.toNat % 32 * 64 + a.toNat % 64) 128 (by rw [hh]; rfl) hl, hs]
        by_cases hp : putS ((c.toNat % 32 * 64 + a.toNat % 64 : Nat) : Int) = [c, a]
        · rw [if_pos hp]
          have := p2.1 hp
          rw [if_neg (by rw [all_one]; omega), if_neg (by rw [rightB_no]; omega)]; rfl
        · rw [if_neg hp]
          have hn := fun h => hp (p2.2 h)
          by_cases h1 : [a].all cont = false
          · rw [if_pos h1]
          · rw [if_neg h1]
            rw [all_one] at h1
            rw [if_pos (.inl (by apply Classical.byContradiction; intro hlt2; exact hn ⟨by omega, by omega, by omega⟩))]
      match r2 with
      | [] =>
        rw [try_3n _ (by simp)]
        rcases next_class c [a] with ⟨k1, k2⟩ | ⟨k1, k2, k4, k5, k6, k3⟩ | ⟨k1, k2, _, _, _, k3⟩ | ⟨k1, k2, _, _, _, k3⟩ | ⟨k1, k2, k3⟩
        · rw [k2, if_pos (p1.2 k1)]
        · rw [if_neg (by simp)] at k3
          rw [k3, if_neg (fun e => by have := p1.1 e; omega), hc2 ⟨k1, k2⟩ k4 k5 k6]
        · rw [if_pos (by simp)] at k3
          rw [k3, if_neg (fun e => by have := p1.1 e; omega), if_neg (fun e => by have := p2.1 e; omega)]
        · rw [if_pos (by simp)] at k3
          rw [k3, if_neg (fun e => by have := p1.1 e; omega), if_neg (fun e => by have := p2.1 e; omega)]
        · rw [k3, if_neg (fun e => by have := p1.1 e; omega), if_neg (fun e => by have := p2.1 e; omega)]
      | b :: r3 =>
        have hb := b.toNat_lt
        have p3 := put_three ((c.toNat % 16 * 64 + a.toNat % 64) * 64 + b.toNat % 64) c a b (by omega)
        rw [try_3y _ (by simp), show valS (c :: a :: b :: r3) 3 = (c.toNat % 16 * 64 + a.toNat % 64) * 64 + b.toNat % 64 from rfl, show (c :: a :: b :: r3).take 3 = [c, a, b] from rfl]
        have hc3 : 224 ≤ c.toNat ∧ c.toNat < 240 → sizeB c = 3 → headB c = c.toNat % 16 → leastB (sizeB c) = 2048 → restS c (a :: b :: r3) = if putS (((c.toNat % 16 * 64 + a.toNat % 64) * 64 + b.toNat % 64 : Nat) : Int) = [c, a, b] then ((((c.toNat % 16 * 64 + a.toNat % 64) * 64 + b.toNat % 64 : Nat) : Int), 3) else (-1, 1) := by
          intro h hs hh hl
          rw [restS_def c (a :: b :: r3) [a, b] (by rw [hs]; rfl) ((c.toNat % 16 * 64 + a.toNat % 64) * 64 + b.toNat % 64) 2048 (by rw [hh]; rfl) hl, hs]
          by_cases hp : putS (((c.toNat % 16 * 64 + a.toNat % 64) * 64 + b.toNat % 64 : Nat) : Int) = [c, a, b]
          · rw [if_pos hp]
            obtain ⟨q1, q2, q3, q4, q5⟩ := p3.1 hp
            rw [if_neg (by rw [all_two]; omega), if_neg (by rw [q2]; simp only [Bool.true_eq_false, or_false]; omega)]; rfl
          · rw [if_neg hp]
            have hn := fun h => hp (p3.2 h)
            by_cases h1 : [a, b].all cont = false
            · rw [if_pos h1]
            · rw [if_neg h1]
              rw [all_two] at h1
              by_cases hr : rightB (((c.toNat % 16 * 64 + a.toNat % 64) * 64 + b.toNat % 64 : Nat) : Int) = true
              · rw [if_pos (.inl (by apply Classical.byContradiction; intro hlt2; exact hn ⟨by omega, hr, by omega, by omega, by omega⟩))]
              · rw [if_pos (.inr (by simpa using hr))]
        match r3 with
        | [] =>
          rw [try_4n _ (by simp)]
          rcases next_class c [a, b] with ⟨k1, k2⟩ | ⟨k1, k2, k4, k5, k6, k3⟩ | ⟨k1, k2, k4, k5, k6, k3⟩ | ⟨k1, k2, _, _, _, k3⟩ | ⟨k1, k2, k3⟩
          · rw [k2, if_pos (p1.2 k1)]
          · rw [if_neg (by simp)] at k3
            have n3 : ¬ (putS _ = [c, a, b]) := fun e => by have := p3.1 e; omega
            rw [k3, if_neg (fun e => by have := p1.1 e; omega), hc2 ⟨k1, k2⟩ k4 k5 k6, if_neg n3]
          · rw [if_neg (by simp)] at k3
            rw [k3, if_neg (fun e => by have := p1.1 e; omega), if_neg (fun e => by have := p2.1 e; omega), hc3 ⟨k1, k2⟩ k4 k5 k6]
          · rw [if_pos (by simp)] at k3
            rw [k3, if_neg (fun e => by have := p1.1 e; omega), if_neg (fun e => by have := p2.1 e; omega), if_neg (fun e => by have := p3.1 e; omega)]
          · rw [k3, if_neg (fun e => by have := p1.1 e; omega), if_neg (fun e => by have := p2.1 e; omega), if_neg (fun e => by have := p3.1 e; omega)]
        | d :: r4 =>
          have hd := d.toNat_lt
          have p4 := put_four (((c.toNat % 8 * 64 + a.toNat % 64) * 64 + b.toNat % 64) * 64 + d.toNat % 64) c a b d (by omega)
          rw [try_4y _ (by simp), show valS (c :: a :: b :: d :: r4) 4 = ((c.toNat % 8 * 64 + a.toNat % 64) * 64 + b.toNat % 64) * 64 + d.toNat % 64 from rfl, show (c :: a :: b :: d :: r4).take 4 = [c, a, b, d] from rfl]
          have hc4 : 240 ≤ c.toNat ∧ c.toNat < 248 → sizeB c = 4 → headB c = c.toNat % 8 → leastB (sizeB c) = 65536 → restS c (a :: b :: d :: r4) = if putS ((((c.toNat % 8 * 64 + a.toNat % 64) * 64 + b.toNat % 64) * 64 + d.toNat % 64 : Nat) : Int) = [c, a, b, d] then (((((c.toNat % 8 * 64 + a.toNat % 64) * 64 + b.toNat % 64) * 64 + d.toNat % 64 : Nat) : Int), 4) else (-1, 1) := by
            intro h hs hh hl
            rw [restS_def c (a :: b :: d :: r4) [a, b, d] (by rw [hs]; rfl) (((c.toNat % 8 * 64 + a.toNat % 64) * 64 + b.toNat % 64) * 64 + d.toNat % 64) 65536 (by rw [hh]; rfl) hl, hs]
            by_cases hp : putS ((((c.toNat % 8 * 64 + a.toNat % 64) * 64 + b.toNat % 64) * 64 + d.toNat % 64 : Nat) : Int) = [c, a, b, d]
            · rw [if_pos hp]
              obtain ⟨q1, q2, q3, q4, q5, q6⟩ := p4.1 hp
              rw [if_neg (by rw [all_three]; omega), if_neg (by rw [q2]; simp only [Bool.true_eq_false, or_false]; omega)]; rfl
            · rw [if_neg hp]
              have hn := fun h => hp (p4.2 h)
              by_cases h1 : [a, b, d].all cont = false
              · rw [if_pos h1]
              · rw [if_neg h1]
                rw [all_three] at h1
                by_cases hr : rightB ((((c.toNat % 8 * 64 + a.toNat % 64) * 64 + b.toNat % 64) * 64 + d.toNat % 64 : Nat) : Int) = true
                · rw [if_pos (.inl (by apply Classical.byContradiction; intro hlt2; exact hn ⟨by omega, hr, by omega, by omega, by omega, by omega⟩))]
                · rw [if_pos (.inr (by simpa using hr))]
          rcases next_class c (a :: b :: d :: r4) with ⟨k1, k2⟩ | ⟨k1, k2, k4, k5, k6, k3⟩ | ⟨k1, k2, k4, k5, k6, k3⟩ | ⟨k1, k2, k4, k5, k6, k3⟩ | ⟨k1, k2, k3⟩
          · rw [k2, if_pos (p1.2 k1)]
          · rw [if_neg (by simp)] at k3
            have n3 : ¬ (putS _ = [c, a, b]) := fun e => by have := p3.1 e; omega
            have n4 : ¬ (putS _ = [c, a, b, d]) := fun e => by have := p4.1 e; omega
            rw [k3, if_neg (fun e => by have := p1.1 e; omega), hc2 ⟨k1, k2⟩ k4 k5 k6, if_neg n3, if_neg n4]
          · rw [if_neg (by simp)] at k3
            have n4 : ¬ (putS _ = [c, a, b, d]) := fun e => by have := p4.1 e; omega
            rw [k3, if_neg (fun e => by have := p1.1 e; omega), if_neg (fun e => by have := p2.1 e; omega), hc3 ⟨k1, k2⟩ k4 k5 k6, if_neg n4]
          · rw [if_neg (by simp)] at k3
            rw [k3, if_neg (fun e => by have := p1.1 e; omega), if_neg (fun e => by have := p2.1 e; omega), if_neg (fun e => by have := p3.1 e; omega), hc4 ⟨k1, k2⟩ k4 k5 k6]
          · rw [k3, if_neg (fun e => by have := p1.1 e; omega), if_neg (fun e => by have := p2.1 e; omega), if_neg (fun e => by have := p3.1 e; omega), if_neg (fun e => by have := p4.1 e; omega)]
end Go.Proofs.YtgdbjkkanjgbnaaDoor

namespace Go.Proofs.YtgdbjkkanjgbnaaDoor
open Go.RowKit
set_option linter.unusedVariables false

/-- The table of the least letters, as it is laid. -/
def LeastAt (w : World) : Prop := w.cell? ⟨1, 2, none⟩ = some (.int .i64 128) ∧ w.cell? ⟨1, 3, none⟩ = some (.int .i64 2048) ∧ w.cell? ⟨1, 4, none⟩ = some (.int .i64 65536)
/-- A slice that reads as bytes. -/
def BytesAt (w : World) (a : Option Addr) (len cap : Nat) (l : List UInt8) : Prop :=
  len = l.length ∧ len ≤ cap ∧ (l = [] ∨ ∃ b o, a = some ⟨b, o, none⟩ ∧ ∀ i, i < l.length → w.cell? ⟨b, o + i, none⟩ = some (cellOf (l.getD i 0)))
theorem rightB_false (n : Int) (h : ¬ (0 ≤ n ∧ n ≤ 1114111 ∧ (n < 55296 ∨ 57343 < n))) : rightB n = false := by rw [← Bool.not_eq_true, rightB_iff]; exact h

def RBPost (b : Bool) (w : World) (e : Ending) (w' : World) : Prop := e = .returned (.bool b) ∧ w = w'
theorem RBPost.mk {b c : Bool} {w : World} (h : b = c) : RBPost b w (.returned (.bool c)) w := ⟨by rw [h], rfl⟩

set_option maxHeartbeats 1000000 in
theorem right_any (n : Int) (w : World) : Calls Tryd.prog 53 #[.int .i64 n] w (RBPost (rightB n) w) := by
  obtain ⟨b, hb⟩ : ∃ b, rightB n = b := ⟨_, rfl⟩
  rw [hb]
  have HB := hid hb
  clear hb
  go_enter Tryd.func53, Tryd.ntmps53
  go_wp2_with (fail)
  all_goals
    go_ret
    refine RBPost.mk ?_
    rw [← HB.out]
    first
    | (rw [Bool.eq_iff_iff, rightB_iff]; simp; omega)
    | (apply rightB_false; omega)

/-- What Next's call comes to. -/
def NextPost (l : List UInt8) (w : World) (e : Ending) (w' : World) : Prop := e = .returned (.tuple #[.int .i64 (nextS l).1, .int .i64 (nextS l).2]) ∧ w = w'
theorem NextPost.mk {l : List UInt8} {w : World} {x n : Int} (h : nextS l = (x, n)) : NextPost l w (.returned (.tuple #[.int .i64 x, .int .i64 n])) w := ⟨by rw [h], rfl⟩

set_option maxHeartbeats 1000000 in
theorem next_nil (a : Option Addr) (len cap : Nat) (w : World) (h : len = 0) : Calls Tryd.prog 43 #[.slice a len cap] w (NextPost [] w) := by
  subst h
  go_enter Tryd.func43, Tryd.ntmps43
  go_wp2_with (fail)
  go_ret2
  exact NextPost.mk rfl

set_option maxRecDepth 100000 in
set_option maxHeartbeats 1000000 in
theorem next_short (b o len cap : Nat) (c : UInt8) (r : List UInt8) (w : World) (hlen : 0 < len) (h0 : w.cell? ⟨b, o, none⟩ = some (.int .u8 (c.toNat : Int))) (hr : len = r.length + 1)
    (hc : c.toNat < 128 ∨ (128 ≤ c.toNat ∧ (sizeB c = 0 ∨ r.length + 1 < sizeB c))) : Calls Tryd.prog 43 #[.slice (some ⟨b, o, none⟩) len cap] w (NextPost (c :: r) w) := by
  have h00 : ((len : Int) == 0) = false := by simp; omega
  have h0i : (0 : Int) < (len : Int) := by omega
  rcases hc with hc | ⟨hc, hs⟩
  · have HF : Hid (nextS (c :: r) = ((c.toNat : Int), 1)) := by rw [nextS_cons, if_pos hc]; rfl
    go_enter Tryd.func43, Tryd.ntmps43
    go_wp2_with (fail)
    go_ret2
    exact NextPost.mk HF.out
  · have HF : Hid (nextS (c :: r) = (-1, 1)) := by rw [nextS_cons, if_neg (by omega), if_pos hs]; rfl
    have h31 := and31 c
    have h15 := and15 c
    have h7 := and7 c
    have HR := hid hr
    clear hr
    unfold sizeB at hs
    by_cases c1 : 192 ≤ c.toNat ∧ c.toNat < 224
    · rw [if_pos c1] at hs
      have hl2 : (len : Int) < 2 := by have := HR.out; omega
      obtain ⟨c2, c3⟩ := c1
      clear hs
      go_enter Tryd.func43, Tryd.ntmps43
      go_wp2_with (fail)
      go_ret2
      exact NextPost.mk HF.out
    · rw [if_neg c1] at hs
      by_cases c2 : 224 ≤ c.toNat ∧ c.toNat < 240
      · rw [if_pos c2] at hs
        have hl2 : (len : Int) < 3 := by have := HR.out; omega
        obtain ⟨c2, c3⟩ := c2
        clear hs c1
        go_enter Tryd.func43, Tryd.ntmps43
        go_wp2_with (fail)
        go_ret2
        exact NextPost.mk HF.out
      · rw [if_neg c2] at hs
        by_cases c3 : 240 ≤ c.toNat ∧ c.toNat < 248
        · rw [if_pos c3] at hs
          have hl2 : (len : Int) < 4 := by have := HR.out; omega
          obtain ⟨c4, c5⟩ := c3
          clear hs c1 c2
          go_enter Tryd.func43, Tryd.ntmps43
          go_wp2_with (fail)
          go_ret2
          exact NextPost.mk HF.out
        · have hlt := c.toNat_lt
          clear hs
          by_cases c4 : c.toNat < 192
          · clear c1 c2 c3
            go_enter Tryd.func43, Tryd.ntmps43
            go_wp2_with (fail)
            go_ret2
            exact NextPost.mk HF.out
          · have c5 : 248 ≤ c.toNat := by omega
            clear c1 c2 c3 c4
            go_enter Tryd.func43, Tryd.ntmps43
            go_wp2_with (fail)
            go_ret2
            exact NextPost.mk HF.out

/-- The loop's relation: k bytes go on, and the letter so far. -/
def NextRel (c : UInt8) (r : List UInt8) (sz : Nat) (v s i : Value) : Prop := ∃ k x : Nat, k + 1 ≤ sz ∧ s = .int .i64 sz ∧ i = .int .i64 k ∧ v = .int .i64 (x : Int) ∧ x = accB (headB c) (r.take k) ∧ x < 2 ^ (5 + 6 * k) ∧ ∀ j, j < k → cont (r.getD j 0) = true
theorem least_2 : leastB 2 = 128 := rfl
theorem least_3 : leastB 3 = 2048 := rfl
theorem least_4 : leastB 4 = 65536 := by unfold leastB; rw [if_neg (by omega), if_neg (by omega), if_pos rfl]
theorem headB_lt (c : UInt8) : headB c < 2 ^ 5 := by unfold headB; split <;> (try split) <;> omega
theorem cont_step (c : UInt8) (r : List UInt8) (k x : Nat) (hk : k < r.length) (hx : x = accB (headB c) (r.take k)) : x * 64 + (r.getD k 0).toNat % 64 = accB (headB c) (r.take (k + 1)) := by
  rw [accB_snoc _ _ _ hk, hx]
theorem all_no (r : List UInt8) (n k : Nat) (hk : k < n) (hn : n ≤ r.length) (h : cont (r.getD k 0) = false) : (r.take n).all cont = false := by
  rw [← Bool.not_eq_true, List.all_eq_true]
  intro hall
  have := hall (r.getD k 0) (by
    rw [List.mem_take_iff_getElem]
    exact ⟨k, by omega, by rw [List.getD_eq_getElem?_getD, List.getElem?_eq_getElem (by omega)]; rfl⟩)
  rw [h] at this; cases this
theorem all_yes (r : List UInt8) (n : Nat) (hn : n ≤ r.length) (h : ∀ j, j < n → cont (r.getD j 0) = true) : (r.take n).all cont = true := by
  rw [List.all_eq_true]
  intro x hx
  obtain ⟨k, hk, rfl⟩ := List.mem_take_iff_getElem.1 hx
  have := h k (by omega)
  rwa [List.getD_eq_getElem?_getD, List.getElem?_eq_getElem (by omega)] at this

set_option maxRecDepth 100000 in
set_option maxHeartbeats 4000000 in
theorem next_2 (b o len cap : Nat) (c : UInt8) (r : List UInt8) (w : World) (hL : LeastAt w) (h0 : w.cell? ⟨b, o, none⟩ = some (.int .u8 (c.toNat : Int))) (hr : len = r.length + 1) (hcap : len ≤ cap)
    (hcell : ∀ i, i < r.length → w.cell? ⟨b, o + 1 + i, none⟩ = some (cellOf (r.getD i 0))) (c1 : 192 ≤ c.toNat) (c2 : c.toNat < 224) (hlen : 2 ≤ len) :
    Calls Tryd.prog 43 #[.slice (some ⟨b, o, none⟩) len cap] w (NextPost (c :: r) w) := by
  have hleast := hL.1
  have h00 : ((len : Int) == 0) = false := by simp; omega
  have h0i : (0 : Int) < (len : Int) := by omega
  have hli : (2 : Int) ≤ (len : Int) := by omega
  have hcapi : 2 ≤ cap := by omega
  have hmask := and31 c
  have hhead : Hid (headB c = c.toNat % 32) := by unfold headB; rw [if_pos (by omega)]; rfl
  have hsz : sizeB c = 2 := by unfold sizeB; rw [if_pos ⟨c1, c2⟩]
  have hN : Hid (nextS (c :: r) = restS c r) := by rw [nextS_cons, if_neg (by omega), if_neg (by omega)]; rfl
  have HSZ := hid hsz
  have HL := hid hL
  have HC := hid hcell
  have HR := hid hr
  clear hsz hL hcell hr
  go_enter Tryd.func43, Tryd.ntmps43
  go_wp2_with (fail)
  go_loop [2, 3, 57] (fun v s i => NextRel c r 2 v s i) (fun _ _ i => 2 - (intOf i).toNat)
  case atStart => exact ⟨0, c.toNat % 32, by omega, rfl, rfl, by first | rfl | (congr 1; omega), by rw [hhead.out]; rfl, by have := headB_lt c; rw [hhead.out] at this; omega, fun j hj => absurd hj (Nat.not_lt_zero j)⟩
  case round =>
    obtain ⟨k, x, hk, rfl, rfl, rfl, hx, hxl, hall⟩ := hrel
    have hx40 : x < 1099511627776 := by
      have : (2 : Nat) ^ (5 + 6 * k) ≤ 2 ^ 40 := Nat.pow_le_pow_right (by omega) (by omega)
      omega
    have HX := hid hx
    have HA := hid hall
    have HXL := hid hxl
    clear hx hall hxl
    by_cases hlt : k < 1
    · have hkr : k < r.length := by have := HR.out; omega
      have hck := HC.out k hkr
      rw [cellOf_def] at hck
      obtain ⟨y, hy⟩ : ∃ y, r.getD k 0 = y := ⟨_, rfl⟩
      rw [hy] at hck
      have HY := hid hy
      have h63 := and63 y
      have hcb := cont_bits y
      have hor := or64 x y.toNat hx40
      have hlti : (k : Int) < 1 := by omega
      have HK := hid hkr
      clear hy hkr
      cases hct : cont y with
      | false =>
        rw [hct] at hcb
        have HF : Hid (restS c r = (-1, 1)) := by
          have := all_no r 1 k hlt (by have := HR.out; omega) (by rw [HY.out]; exact hct)
          unfold restS; rw [HSZ.out]; rw [if_pos this]; rfl
        clear hct
        go_wp2_with (fail)
        go_ret2
        exact NextPost.mk (by rw [hN.out, HF.out])
      | true =>
        rw [hct] at hcb
        have HCT := hid hct
        clear hct
        go_wp2_with (fail)
        refine ⟨⟨k + 1, x * 64 + y.toNat % 64, by omega, rfl, by go_num, by first | rfl | (congr 1; omega), ?_, ?_, fun j hj => ?_⟩, by simp [intOf]; omega⟩
        · rw [← HY.out]; exact cont_step c r k x HK.out HX.out
        · have h1 := HXL.out
          rw [show 5 + 6 * (k + 1) = 5 + 6 * k + 6 by omega, Nat.pow_add]; omega
        · by_cases e : j = k
          · subst e; rw [HY.out]; exact HCT.out
          · exact HA.out j (by omega)
    · have hke : k = 1 := by omega
      subst hke
      have hall := all_yes r 1 (by have := HR.out; omega) HA.out
      have HALL := hid hall
      clear hall hlt
      by_cases hmin : x < 128
      · have HF : Hid (restS c r = (-1, 1)) := by
          unfold restS; rw [HSZ.out, if_neg (by rw [HALL.out]; simp), ← HX.out, if_pos (.inl (by rw [least_2]; exact hmin))]; rfl
        go_wp2_with (go_at_call 53; refine (right_any _ _).mono ?_; rintro e w' ⟨rfl, rfl⟩)
        go_ret2
        exact NextPost.mk (by rw [hN.out, HF.out])
      · have hbm : decide ((x : Int) < 128) = false := decide_eq_false (by omega)
        have HMIN := hid hmin
        clear hmin
        cases hrt : rightB (x : Int) with
        | false =>
          have HF : Hid (restS c r = (-1, 1)) := by
            unfold restS; rw [HSZ.out, if_neg (by rw [HALL.out]; simp), ← HX.out, if_pos (.inr hrt)]; rfl
          go_wp2_with (go_at_call 53; refine (right_any _ _).mono ?_; rintro e w' ⟨rfl, rfl⟩)
          go_ret2
          exact NextPost.mk (by rw [hN.out, HF.out])
        | true =>
          have HF : Hid (restS c r = ((x : Int), 2)) := by
            unfold restS; rw [HSZ.out, if_neg (by rw [HALL.out]; simp), ← HX.out, if_neg (by rw [hrt, least_2]; simp only [Bool.true_eq_false, or_false]; exact HMIN.out)]; rfl
          go_wp2_with (go_at_call 53; refine (right_any _ _).mono ?_; rintro e w' ⟨rfl, rfl⟩)
          go_ret2
          exact NextPost.mk (by rw [hN.out, HF.out])

set_option maxRecDepth 100000 in
set_option maxHeartbeats 4000000 in
theorem next_3 (b o len cap : Nat) (c : UInt8) (r : List UInt8) (w : World) (hL : LeastAt w) (h0 : w.cell? ⟨b, o, none⟩ = some (.int .u8 (c.toNat : Int))) (hr : len = r.length + 1) (hcap : len ≤ cap)
    (hcell : ∀ i, i < r.length → w.cell? ⟨b, o + 1 + i, none⟩ = some (cellOf (r.getD i 0))) (c1 : 224 ≤ c.toNat) (c2 : c.toNat < 240) (hlen : 3 ≤ len) :
    Calls Tryd.prog 43 #[.slice (some ⟨b, o, none⟩) len cap] w (NextPost (c :: r) w) := by
  have hleast := hL.2.1
  have h00 : ((len : Int) == 0) = false := by simp; omega
  have h0i : (0 : Int) < (len : Int) := by omega
  have hli : (3 : Int) ≤ (len : Int) := by omega
  have hcapi : 3 ≤ cap := by omega
  have hmask := and15 c
  have hhead : Hid (headB c = c.toNat % 16) := by unfold headB; rw [if_neg (by omega), if_pos (by omega)]; rfl
  have hsz : sizeB c = 3 := by unfold sizeB; rw [if_neg (by omega), if_pos ⟨c1, c2⟩]
  have hN : Hid (nextS (c :: r) = restS c r) := by rw [nextS_cons, if_neg (by omega), if_neg (by omega)]; rfl
  have HSZ := hid hsz
  have HL := hid hL
  have HC := hid hcell
  have HR := hid hr
  clear hsz hL hcell hr
  go_enter Tryd.func43, Tryd.ntmps43
  go_wp2_with (fail)
  go_loop [2, 3, 57] (fun v s i => NextRel c r 3 v s i) (fun _ _ i => 3 - (intOf i).toNat)
  case atStart => exact ⟨0, c.toNat % 16, by omega, rfl, rfl, by first | rfl | (congr 1; omega), by rw [hhead.out]; rfl, by have := headB_lt c; rw [hhead.out] at this; omega, fun j hj => absurd hj (Nat.not_lt_zero j)⟩
  case round =>
    obtain ⟨k, x, hk, rfl, rfl, rfl, hx, hxl, hall⟩ := hrel
    have hx40 : x < 1099511627776 := by
      have : (2 : Nat) ^ (5 + 6 * k) ≤ 2 ^ 40 := Nat.pow_le_pow_right (by omega) (by omega)
      omega
    have HX := hid hx
    have HA := hid hall
    have HXL := hid hxl
    clear hx hall hxl
    by_cases hlt : k < 2
    · have hkr : k < r.length := by have := HR.out; omega
      have hck := HC.out k hkr
      rw [cellOf_def] at hck
      obtain ⟨y, hy⟩ : ∃ y, r.getD k 0 = y := ⟨_, rfl⟩
      rw [hy] at hck
      have HY := hid hy
      have h63 := and63 y
      have hcb := cont_bits y
      have hor := or64 x y.toNat hx40
      have hlti : (k : Int) < 2 := by omega
      have HK := hid hkr
      clear hy hkr
      cases hct : cont y with
      | false =>
        rw [hct] at hcb
        have HF : Hid (restS c r = (-1, 1)) := by
          have := all_no r 2 k hlt (by have := HR.out; omega) (by rw [HY.out]; exact hct)
          unfold restS; rw [HSZ.out]; rw [if_pos this]; rfl
        clear hct
        go_wp2_with (fail)
        go_ret2
        exact NextPost.mk (by rw [hN.out, HF.out])
      | true =>
        rw [hct] at hcb
        have HCT := hid hct
        clear hct
        go_wp2_with (fail)
        refine ⟨⟨k + 1, x * 64 + y.toNat % 64, by omega, rfl, by go_num, by first | rfl | (congr 1; omega), ?_, ?_, fun j hj => ?_⟩, by simp [intOf]; omega⟩
        · rw [← HY.out]; exact cont_step c r k x HK.out HX.out
        · have h1 := HXL.out
          rw [show 5 + 6 * (k + 1) = 5 + 6 * k + 6 by omega, Nat.pow_add]; omega
        · by_cases e : j = k
          · subst e; rw [HY.out]; exact HCT.out
          · exact HA.out j (by omega)
    · have hke : k = 2 := by omega
      subst hke
      have hall := all_yes r 2 (by have := HR.out; omega) HA.out
      have HALL := hid hall
      clear hall hlt
      by_cases hmin : x < 2048
      · have HF : Hid (restS c r = (-1, 1)) := by
          unfold restS; rw [HSZ.out, if_neg (by rw [HALL.out]; simp), ← HX.out, if_pos (.inl (by rw [least_3]; exact hmin))]; rfl
        go_wp2_with (go_at_call 53; refine (right_any _ _).mono ?_; rintro e w' ⟨rfl, rfl⟩)
        go_ret2
        exact NextPost.mk (by rw [hN.out, HF.out])
      · have hbm : decide ((x : Int) < 2048) = false := decide_eq_false (by omega)
        have HMIN := hid hmin
        clear hmin
        cases hrt : rightB (x : Int) with
        | false =>
          have HF : Hid (restS c r = (-1, 1)) := by
            unfold restS; rw [HSZ.out, if_neg (by rw [HALL.out]; simp), ← HX.out, if_pos (.inr hrt)]; rfl
          go_wp2_with (go_at_call 53; refine (right_any _ _).mono ?_; rintro e w' ⟨rfl, rfl⟩)
          go_ret2
          exact NextPost.mk (by rw [hN.out, HF.out])
        | true =>
          have HF : Hid (restS c r = ((x : Int), 3)) := by
            unfold restS; rw [HSZ.out, if_neg (by rw [HALL.out]; simp), ← HX.out, if_neg (by rw [hrt, least_3]; simp only [Bool.true_eq_false, or_false]; exact HMIN.out)]; rfl
          go_wp2_with (go_at_call 53; refine (right_any _ _).mono ?_; rintro e w' ⟨rfl, rfl⟩)
          go_ret2
          exact NextPost.mk (by rw [hN.out, HF.out])

set_option maxRecDepth 100000 in
set_option maxHeartbeats 4000000 in
theorem next_4 (b o len cap : Nat) (c : UInt8) (r : List UInt8) (w : World) (hL : LeastAt w) (h0 : w.cell? ⟨b, o, none⟩ = some (.int .u8 (c.toNat : Int))) (hr : len = r.length + 1) (hcap : len ≤ cap)
    (hcell : ∀ i, i < r.length → w.cell? ⟨b, o + 1 + i, none⟩ = some (cellOf (r.getD i 0))) (c1 : 240 ≤ c.toNat) (c2 : c.toNat < 248) (hlen : 4 ≤ len) :
    Calls Tryd.prog 43 #[.slice (some ⟨b, o, none⟩) len cap] w (NextPost (c :: r) w) := by
  have hleast := hL.2.2
  have h00 : ((len : Int) == 0) = false := by simp; omega
  have h0i : (0 : Int) < (len : Int) := by omega
  have hli : (4 : Int) ≤ (len : Int) := by omega
  have hcapi : 4 ≤ cap := by omega
  have hmask := and7 c
  have hhead : Hid (headB c = c.toNat % 8) := by unfold headB; rw [if_neg (by omega), if_neg (by omega)]; rfl
  have hsz : sizeB c = 4 := by unfold sizeB; rw [if_neg (by omega), if_neg (by omega), if_pos ⟨c1, c2⟩]
  have hN : Hid (nextS (c :: r) = restS c r) := by rw [nextS_cons, if_neg (by omega), if_neg (by omega)]; rfl
  have HSZ := hid hsz
  have HL := hid hL
  have HC := hid hcell
  have HR := hid hr
  clear hsz hL hcell hr
  go_enter Tryd.func43, Tryd.ntmps43
  go_wp2_with (fail)
  go_loop [2, 3, 57] (fun v s i => NextRel c r 4 v s i) (fun _ _ i => 4 - (intOf i).toNat)
  case atStart => exact ⟨0, c.toNat % 8, by omega, rfl, rfl, by first | rfl | (congr 1; omega), by rw [hhead.out]; rfl, by have := headB_lt c; rw [hhead.out] at this; omega, fun j hj => absurd hj (Nat.not_lt_zero j)⟩
  case round =>
    obtain ⟨k, x, hk, rfl, rfl, rfl, hx, hxl, hall⟩ := hrel
    have hx40 : x < 1099511627776 := by
      have : (2 : Nat) ^ (5 + 6 * k) ≤ 2 ^ 40 := Nat.pow_le_pow_right (by omega) (by omega)
      omega
    have HX := hid hx
    have HA := hid hall
    have HXL := hid hxl
    clear hx hall hxl
    by_cases hlt : k < 3
    · have hkr : k < r.length := by have := HR.out; omega
      have hck := HC.out k hkr
      rw [cellOf_def] at hck
      obtain ⟨y, hy⟩ : ∃ y, r.getD k 0 = y := ⟨_, rfl⟩
      rw [hy] at hck
      have HY := hid hy
      have h63 := and63 y
      have hcb := cont_bits y
      have hor := or64 x y.toNat hx40
      have hlti : (k : Int) < 3 := by omega
      have HK := hid hkr
      clear hy hkr
      cases hct : cont y with
      | false =>
        rw [hct] at hcb
        have HF : Hid (restS c r = (-1, 1)) := by
          have := all_no r 3 k hlt (by have := HR.out; omega) (by rw [HY.out]; exact hct)
          unfold restS; rw [HSZ.out]; rw [if_pos this]; rfl
        clear hct
        go_wp2_with (fail)
        go_ret2
        exact NextPost.mk (by rw [hN.out, HF.out])
      | true =>
        rw [hct] at hcb
        have HCT := hid hct
        clear hct
        go_wp2_with (fail)
        refine ⟨⟨k + 1, x * 64 + y.toNat % 64, by omega, rfl, by go_num, by first | rfl | (congr 1; omega), ?_, ?_, fun j hj => ?_⟩, by simp [intOf]; omega⟩
        · rw [← HY.out]; exact cont_step c r k x HK.out HX.out
        · have h1 := HXL.out
          rw [show 5 + 6 * (k + 1) = 5 + 6 * k + 6 by omega, Nat.pow_add]; omega
        · by_cases e : j = k
          · subst e; rw [HY.out]; exact HCT.out
          · exact HA.out j (by omega)
    · have hke : k = 3 := by omega
      subst hke
      have hall := all_yes r 3 (by have := HR.out; omega) HA.out
      have HALL := hid hall
      clear hall hlt
      by_cases hmin : x < 65536
      · have HF : Hid (restS c r = (-1, 1)) := by
          unfold restS; rw [HSZ.out, if_neg (by rw [HALL.out]; simp), ← HX.out, if_pos (.inl (by rw [least_4]; exact hmin))]; rfl
        go_wp2_with (go_at_call 53; refine (right_any _ _).mono ?_; rintro e w' ⟨rfl, rfl⟩)
        go_ret2
        exact NextPost.mk (by rw [hN.out, HF.out])
      · have hbm : decide ((x : Int) < 65536) = false := decide_eq_false (by omega)
        have HMIN := hid hmin
        clear hmin
        cases hrt : rightB (x : Int) with
        | false =>
          have HF : Hid (restS c r = (-1, 1)) := by
            unfold restS; rw [HSZ.out, if_neg (by rw [HALL.out]; simp), ← HX.out, if_pos (.inr hrt)]; rfl
          go_wp2_with (go_at_call 53; refine (right_any _ _).mono ?_; rintro e w' ⟨rfl, rfl⟩)
          go_ret2
          exact NextPost.mk (by rw [hN.out, HF.out])
        | true =>
          have HF : Hid (restS c r = ((x : Int), 4)) := by
            unfold restS; rw [HSZ.out, if_neg (by rw [HALL.out]; simp), ← HX.out, if_neg (by rw [hrt, least_4]; simp only [Bool.true_eq_false, or_false]; exact HMIN.out)]; rfl
          go_wp2_with (go_at_call 53; refine (right_any _ _).mono ?_; rintro e w' ⟨rfl, rfl⟩)
          go_ret2
          exact NextPost.mk (by rw [hN.out, HF.out])

/-- utf.Next by contract. -/
theorem next_any (a : Option Addr) (len cap : Nat) (l : List UInt8) (w : World) (hL : LeastAt w) (h : BytesAt w a len cap l) :
    Calls Tryd.prog 43 #[.slice a len cap] w (NextPost l w) := by
  obtain ⟨hlen, hcap, hb⟩ := h
  cases l with
  | nil => exact next_nil a len cap w hlen
  | cons c r =>
    obtain ⟨b, o, rfl, hc⟩ := hb.resolve_left (by simp)
    have hl1 : len = r.length + 1 := by simpa using hlen
    have h0 := hc 0 (by simp)
    have hrest : ∀ i, i < r.length → w.cell? ⟨b, o + 1 + i, none⟩ = some (cellOf (r.getD i 0)) := fun i hi => by
      have := hc (i + 1) (by simp; omega)
      rw [show o + 1 + i = o + (i + 1) by omega, this]; simp [List.getD]
    have h0' : w.cell? ⟨b, o, none⟩ = some (.int .u8 (c.toNat : Int)) := h0
    by_cases h128 : c.toNat < 128
    · exact next_short b o len cap c r w (by omega) h0' hl1 (.inl h128)
    · by_cases hs : sizeB c = 0 ∨ r.length + 1 < sizeB c
      · exact next_short b o len cap c r w (by omega) h0' hl1 (.inr ⟨by omega, hs⟩)
      · unfold sizeB at hs
        by_cases c1 : 192 ≤ c.toNat ∧ c.toNat < 224
        · rw [if_pos c1] at hs
          exact next_2 b o len cap c r w hL h0' hl1 hcap hrest c1.1 c1.2 (by omega)
        · rw [if_neg c1] at hs
          by_cases c2 : 224 ≤ c.toNat ∧ c.toNat < 240
          · rw [if_pos c2] at hs
            exact next_3 b o len cap c r w hL h0' hl1 hcap hrest c2.1 c2.2 (by omega)
          · rw [if_neg c2] at hs
            by_cases c3 : 240 ≤ c.toNat ∧ c.toNat < 248
            · rw [if_pos c3] at hs
              exact next_4 b o len cap c r w hL h0' hl1 hcap hrest c3.1 c3.2 (by omega)
            · rw [if_neg c3] at hs; exact absurd (.inl rfl) hs
end Go.Proofs.YtgdbjkkanjgbnaaDoor

namespace Go.Proofs.YtgdbjkkanjgbnaaDoor
open Go.RowKit
set_option linter.unusedVariables false

end Go.Proofs.YtgdbjkkanjgbnaaDoor

namespace Go.Proofs.YtgdbjkkanjgbnaaDoor
open Go.RowKit
set_option linter.unusedVariables false

/-- What the document's Next comes to. -/
def RNextPost (l : List UInt8) (w : World) (e : Ending) (w' : World) : Prop := e = .returned (.tuple #[.int .i64 (nextS l).1, .int .i64 (nextS l).2]) ∧ Below w.heap.size w w'
theorem RNextPost.mk {l : List UInt8} {w w' : World} {x n : Int} (h : nextS l = (x, n)) (hb : Below w.heap.size w w') : RNextPost l w (.returned (.tuple #[.int .i64 x, .int .i64 n])) w' := ⟨by rw [h], hb⟩
theorem try_step (l : List UInt8) (k : Nat) (hk : k ≤ 4) (hl : k ≤ l.length) : tryS l k = if putS (valS l k) = l.take k then (((valS l k : Nat) : Int), (k : Int)) else tryS l (k + 1) := by
  rw [tryS, if_pos ⟨hk, hl⟩]
theorem try_end (l : List UInt8) (k : Nat) (h : ¬ (k ≤ 4 ∧ k ≤ l.length)) : tryS l k = (-1, 1) := by rw [tryS, if_neg h]
theorem extract_upto (s : ByteArray) (k : Nat) : (s.extract 0 k).toList = s.data.toList.take k := by
  rw [str_toList, Lib.extract_data]; simp
end Go.Proofs.YtgdbjkkanjgbnaaDoor

namespace Go.Proofs.YtgdbjkkanjgbnaaDoor
open Go.RowKit
set_option linter.unusedVariables false

theorem nextS_pos (l : List UInt8) (h : l ≠ []) : 1 ≤ (nextS l).2 ∧ (nextS l).2 ≤ l.length := by
  cases l with
  | nil => exact absurd rfl h
  | cons c r =>
    have hres : ∀ n : Int, n ≤ (r.length : Int) + 1 → 1 ≤ n → sizeB c = n.toNat → 1 ≤ (restS c r).2 ∧ (restS c r).2 ≤ (r.length : Int) + 1 := by
      intro n h1 h2 h3
      unfold restS
      split
      · simp; omega
      · split
        · simp; omega
        · simp only; omega
    rcases next_class c r with ⟨k1, k2⟩ | ⟨k1, k2, k4, k5, k6, k3⟩ | ⟨k1, k2, k4, k5, k6, k3⟩ | ⟨k1, k2, k4, k5, k6, k3⟩ | ⟨k1, k2, k3⟩
    · rw [k2]; simp; omega
    · rw [k3]; split
      · simp; omega
      · have := hres 2 (by omega) (by omega) (by omega); simpa using this
    · rw [k3]; split
      · simp; omega
      · have := hres 3 (by omega) (by omega) (by omega); simpa using this
    · rw [k3]; split
      · simp; omega
      · have := hres 4 (by omega) (by omega) (by omega); simpa using this
    · rw [k3]; simp; omega
/-- The first place from which no letter goes on; -1: there is none. -/
def badS (l : List UInt8) : Int :=
  if h : l = [] then -1
  else if (nextS l).1 < 0 then 0
  else (fun r : Int => if r < 0 then -1 else r + (nextS l).2) (badS (l.drop (nextS l).2.toNat))
termination_by l.length
decreasing_by
  have := nextS_pos l h
  simp; omega
/-- The same, with k bytes behind. -/
def badAt (l : List UInt8) (k : Nat) : Int := (fun r : Int => if r < 0 then -1 else r + (k : Int)) (badS (l.drop k))
theorem badS_nil : badS [] = -1 := by rw [badS]; simp
theorem badS_ge (l : List UInt8) : -1 ≤ badS l := by
  rw [badS]
  split
  · omega
  · rename_i h
    have := nextS_pos l h
    split
    · omega
    · simp only; split <;> omega
theorem badAt_zero (l : List UInt8) : badAt l 0 = badS l := by
  have := badS_ge l
  unfold badAt; simp only [List.drop_zero]
  split <;> first | omega | (simp; omega) | simp
theorem badAt_end (l : List UInt8) (k : Nat) (h : l.length ≤ k) : badAt l k = -1 := by
  unfold badAt; rw [List.drop_eq_nil_of_le h, badS_nil]; simp
theorem drop_ne (l : List UInt8) (k : Nat) (h : k < l.length) : l.drop k ≠ [] := by
  intro e; have := congrArg List.length e; simp at this; omega
theorem badAt_here (l : List UInt8) (k : Nat) (h : k < l.length) (hn : (nextS (l.drop k)).1 < 0) : badAt l k = k := by
  unfold badAt; rw [badS, dif_neg (drop_ne l k h), if_pos hn]; simp
theorem badAt_step (l : List UInt8) (k : Nat) (h : k < l.length) (hn : ¬ (nextS (l.drop k)).1 < 0) : badAt l (k + (nextS (l.drop k)).2.toNat) = badAt l k := by
  have hp := nextS_pos _ (drop_ne l k h)
  unfold badAt
  rw [show badS (l.drop k) = (fun r : Int => if r < 0 then -1 else r + (nextS (l.drop k)).2) (badS ((l.drop k).drop (nextS (l.drop k)).2.toNat)) by rw [badS, dif_neg (drop_ne l k h), if_neg hn]]
  rw [List.drop_drop]
  simp only
  split
  · simp
  · have := badS_ge (l.drop (k + (nextS (l.drop k)).2.toNat))
    rw [if_neg (by omega)]; omega

/-- A call that answers a number, and writes nothing that was there. -/
def NumPost (n : Int) (w : World) (e : Ending) (w' : World) : Prop := e = .returned (.int .i64 n) ∧ Below w.heap.size w w'
theorem NumPost.mk {n m : Int} {w w' : World} (h : n = m) (hb : Below w.heap.size w w') : NumPost n w (.returned (.int .i64 m)) w' := ⟨by rw [h], hb⟩
theorem extract_from (s : ByteArray) (k : Nat) : (s.extract k s.size).data.toList = s.data.toList.drop k := by
  rw [Lib.extract_data, List.take_of_length_le (by simp)]

end Go.Proofs.YtgdbjkkanjgbnaaDoor

namespace Go.Proofs.YtgdbjkkanjgbnaaDoor
open Go.RowKit
set_option linter.unusedVariables false

/-- What is wrong with bytes. -/
def checkE (l : List UInt8) : GErr := if badS l < 0 then .nil else .at_ (badS l) 30
/-- A call that answers an error, and writes nothing that was there. -/
def ErrPost (g : GErr) (w : World) (e : Ending) (w' : World) : Prop := ∃ v, e = .returned v ∧ IsErr w' g v ∧ Below w.heap.size w w'
theorem ErrPost.mk {g : GErr} {w w' : World} {v : Value} (h : IsErr w' g v) (hb : Below w.heap.size w w') : ErrPost g w (.returned v) w' := ⟨v, rfl, h, hb⟩
def CheckRel (l : List UInt8) (v : Value) : Prop := ∃ k : Nat, k ≤ l.length ∧ v = .int .i64 k ∧ badAt l k = badS l
theorem BytesAt.drop {w : World} {b o len cap : Nat} {l : List UInt8} (h : BytesAt w (some ⟨b, o, none⟩) len cap l) (k : Nat) (hk : k < len) : BytesAt w (some ⟨b, o + k, none⟩) (len - k) (cap - k) (l.drop k) := by
  obtain ⟨h1, h2, h3⟩ := h
  refine ⟨by simp; omega, by omega, .inr ⟨b, o + k, rfl, fun i hi => ?_⟩⟩
  rw [List.length_drop] at hi
  obtain ⟨b', o', he, hc⟩ := h3.resolve_left (by intro e; subst e; simp at h1; omega)
  obtain ⟨rfl, rfl⟩ : b = b' ∧ o = o' := by simpa using he
  rw [Nat.add_assoc, hc (k + i) (by omega)]
  simp [List.getD]

set_option maxRecDepth 100000 in
set_option maxHeartbeats 2000000 in
theorem check_any (b o len cap : Nat) (l : List UInt8) (w : World) (hL : LeastAt w) (h : BytesAt w (some ⟨b, o, none⟩) len cap l) (hlen : len ≤ 1048576) :
    Calls Tryd.prog 26 #[.slice (some ⟨b, o, none⟩) len cap] w (ErrPost (checkE l) w) := by
  have HH := hid h
  have HL := hid hL
  have HLEN := hid h.1
  have hcap := h.2.1
  clear h hL
  go_enter Tryd.func26, Tryd.ntmps26
  go_wp2_with fail
  go_loop [3] (fun v => CheckRel l v) (fun v => len - (intOf v).toNat)
  case atStart => exact ⟨0, by omega, rfl, badAt_zero _⟩
  case round =>
    obtain ⟨k, hk, rfl, ht⟩ := hrel
    have HT := hid ht
    have hk' : k ≤ len := by rw [HLEN.out]; exact hk
    clear ht hk
    by_cases hlt : k < len
    · have hlt' : k < l.length := by rw [← HLEN.out]; exact hlt
      have hp := nextS_pos _ (drop_ne l k hlt')
      have hcall := next_any (some ⟨b, o + k, none⟩) (len - k) (cap - k) (l.drop k) w HL.out (HH.out.drop k hlt)
      obtain ⟨x, n, hxn⟩ : ∃ x n, nextS (l.drop k) = (x, n) := ⟨_, _, rfl⟩
      have hstep := badAt_step l k hlt'
      have hhere := badAt_here l k hlt'
      unfold NextPost at hcall
      rw [hxn] at hcall hstep hhere hp
      simp only at hcall hstep hhere hp
      rw [List.length_drop, ← HLEN.out] at hp
      have HCALL := hid hcall
      have HSTEP := hid hstep
      have HHERE := hid hhere
      obtain ⟨hp1, hp2⟩ := hp
      have hp3 : (n.toNat : Int) = n := by omega
      have hn2 : n ≤ 1048576 := by omega
      have hnk : k + n.toNat ≤ len := by omega
      have HP3 := hid hp3
      have hck : ¬ cap = k := by omega
      have hki : (k : Int) ≤ (len : Int) := by omega
      clear hxn hcall hstep hhere hlt' hp3
      by_cases hx : x < 0
      · have HX := hid hx
        go_wp2_with (go_at_call 43; refine HCALL.out.mono ?_; intro e w1 hpp; obtain ⟨rfl, rfl⟩ := hpp)
        go_ret
        have hbe : badS l = k := by rw [← HT.out, HHERE.out HX.out]
        have hE : checkE l = .at_ k 30 := by unfold checkE; rw [hbe, if_neg (by omega)]
        rw [hE]
        exact ErrPost.mk ⟨w.heap.size, 0, rfl, by simp, by simp⟩ ((Below.refl _ _).alloc (Nat.le_refl _) _)
      · have HX := hid hx
        go_wp2_with (go_at_call 43; refine HCALL.out.mono ?_; intro e w1 hpp; obtain ⟨rfl, rfl⟩ := hpp)
        refine ⟨⟨k + n.toNat, by rw [← HLEN.out]; exact hnk, by have := HP3.out; congr 1; omega, by rw [HSTEP.out HX.out]; exact HT.out⟩, by simp [intOf]; omega⟩
    · have hke : k = len := by omega
      have hnl : decide (k < len) = false := decide_eq_false hlt
      have HE := hid (badAt_end l k (by rw [← HLEN.out]; omega))
      clear hke
      go_wp2_with fail
      go_ret
      have hE : checkE l = .nil := by unfold checkE; rw [← HT.out, HE.out, if_pos (by omega)]
      rw [hE]
      exact ErrPost.mk rfl (Below.refl _ _)
end Go.Proofs.YtgdbjkkanjgbnaaDoor

namespace Go.Proofs.YtgdbjkkanjgbnaaDoor.Url
open Go.RowKit Go.Proofs.YtgdbjkkanjgbnaaDoor
open Go.Proofs.YtgdbjkkanjgbnaaDoorW.PrintWords (results_ct)
set_option linter.unusedVariables false
set_option linter.unusedSimpArgs false
theorem LeastAt.below {B : Nat} {w w' : World} (h : LeastAt w) (hb : Below B w w') (hB : 1 < B) : LeastAt w' := by
  obtain ⟨h1, h2, h3⟩ := h
  exact ⟨by rw [hb.cell (p := ⟨1, 2, none⟩) hB]; exact h1, by rw [hb.cell (p := ⟨1, 3, none⟩) hB]; exact h2, by rw [hb.cell (p := ⟨1, 4, none⟩) hB]; exact h3⟩
theorem LeastAt.lt {w : World} (h : LeastAt w) : 1 < w.heap.size := lt_of_cell h.1
theorem bytes_at_world (w : World) (e : TypeId) (s : ByteArray) : BytesAt (Lib.bytesWorld w e s) (some ⟨w.heap.size, 0, none⟩) s.size (grownCap w s.size 0 e) s.data.toList := by
  refine ⟨(str_len s).symm, grownCap_ge _ _ _ _, .inr ⟨_, _, rfl, fun i hi => ?_⟩⟩
  rw [Nat.zero_add, Lib.bytesWorld_cell w e s i (by have := str_len s; omega)]
  rfl
/-- An error of a part, at its place in the whole. -/
theorem moved_any (p n d : Int) (v : Value) (w : World) (hg : ErrorType w) (he : IsErr w (.at_ p n) v) (h0 : 0 ≤ p) (h1 : p ≤ 1048576) (h2 : 0 ≤ d) (h3 : d ≤ 1048576) : Calls Tryd.prog 37 #[v, .int .i64 d] w (ErrPost (.at_ (p + d) n) w) := by
  have hlt := hg.lt
  have hgA : ErrorType (w.alloc (.cells #[.pointer none] 51)) := hg.below ((Below.refl w.heap.size w).alloc (Nat.le_refl _) _) hlt
  obtain ⟨b, o, rfl, h1, h2⟩ := he
  have hbl : b < w.heap.size := lt_of_cell h1
  go_enter Tryd.func37, Tryd.ntmps37
  go_wp2_with fail
  refine (as_AA ⟨b, o, none⟩ _ (.pointer none) _ hgA (by simp) (by simp)).mono ?_
  rintro e w1 ⟨rfl, hb⟩
  have hc := cell_of_set hb
  have hd := hid (below_of_set hb)
  have hcp : w1.cell? ⟨b, o, none⟩ = some (.int .i64 p) := (hd.out.cell (p := ⟨b, o, none⟩) hbl).trans h1
  have hcn : w1.cell? ⟨b, o + 1, none⟩ = some (.iface 46 (.int .i64 n)) := (hd.out.cell (p := ⟨b, o + 1, none⟩) hbl).trans h2
  clear hb hgA h1 h2
  go_wp2
  go_region
  go_wp2
  go_ret
  exact ErrPost.mk ⟨w1.heap.size, 0, rfl, by simp, by simp⟩ (hd.out.drew.alloc hd.out.size _)
/-- What utf.Check says of a text. -/
theorem chk_any (s : ByteArray) (w : World) (hL : LeastAt w) (hs : s.size ≤ 1048576) :
    Calls Tryd.prog 26 #[.slice (some ⟨w.heap.size, 0, none⟩) s.size (grownCap w s.size 0 5)] (Lib.bytesWorld w 5 s) (ErrPost (checkE s.data.toList) w) := by
  have hb := below_bytes w 5 s
  refine (check_any _ _ _ _ s.data.toList _ (LeastAt.below hL hb (LeastAt.lt hL)) (bytes_at_world w 5 s) hs).mono ?_
  rintro e w' ⟨v, rfl, he, hb2⟩
  exact ErrPost.mk he (hb.trans (hb2.mono hb.size))
def cutA (l : List UInt8) : List UInt8 := l.takeWhile (· != 61)
def cutB (l : List UInt8) : List UInt8 := (l.dropWhile (· != 61)).drop 1
theorem cut_at {l : List UInt8} : ∀ {m : Nat}, l[m]? = some 61 → (∀ k, k < m → l[k]? ≠ some 61) → cutA l = l.take m ∧ cutB l = l.drop (m + 1) := by
  unfold cutA cutB
  induction l with
  | nil => intro m h; simp at h
  | cons b l ih =>
    intro m h hk
    cases m with
    | zero => simp at h; subst h; simp
    | succ m =>
      have hb : b ≠ 61 := fun e => hk 0 (by omega) (by simp [e])
      obtain ⟨h1, h2⟩ := ih (m := m) (by simpa using h) (fun k hk2 => by have := hk (k + 1) (by omega); simpa using this)
      have hb' : (b != 61) = true := by simpa using hb
      rw [List.takeWhile_cons, if_pos hb', List.dropWhile_cons, if_pos hb', h1, h2]
      simp
theorem cut_no {l : List UInt8} (h : (61 : UInt8) ∉ l) : cutA l = l ∧ cutB l = [] := by
  unfold cutA cutB
  induction l with
  | nil => simp
  | cons b l ih =>
    rw [List.mem_cons, not_or] at h
    have hb' : (b != 61) = true := by simpa using fun e => h.1 e.symm
    obtain ⟨h1, h2⟩ := ih h.2
    rw [List.takeWhile_cons, if_pos hb', List.dropWhile_cons, if_pos hb', h1, h2]
    simp
theorem cut_len (l : List UInt8) : (cutA l).length + (cutB l).length ≤ l.length := by
  by_cases h : (61 : UInt8) ∈ l
  · obtain ⟨m, hm⟩ : ∃ m : Nat, l.findIdx? (· == 61) = some m := by
      cases e : l.findIdx? (· == 61) with
      | some m => exact ⟨m, rfl⟩
      | none => rw [List.findIdx?_eq_none_iff] at e; have := e 61 h; simp at this
    rw [List.findIdx?_eq_some_iff_getElem] at hm
    obtain ⟨h1, h2, h3⟩ := hm
    obtain ⟨e1, e2⟩ := cut_at (l := l) (m := m) (by rw [List.getElem?_eq_getElem h1]; simpa using h2) (fun k hk => by
      rw [List.getElem?_eq_getElem (by omega)]
      have := h3 k hk
      simpa using this)
    rw [e1, e2, List.length_take, List.length_drop]; omega
  · obtain ⟨e1, e2⟩ := cut_no h
    rw [e1, e2]; simp
theorem unF_len (f : Nat) : ∀ (l : List UInt8) (i : Nat) (out : List UInt8), out.length ≤ i → (unF f l i out).1.length ≤ max l.length out.length := by
  induction f with
  | zero => intro l i out h; rw [unF]; simp; omega
  | succ f ih =>
    intro l i out h
    rw [unF]
    by_cases hi : i < l.length
    · rw [if_pos hi]
      cases e : unStep l i with
      | none => simp
      | some p =>
        obtain ⟨c, k⟩ := p
        have hk := unStep_pos e
        have := ih l (i + k) (out ++ [c]) (by simp; omega)
        simp only at this ⊢
        rw [List.length_append] at this
        simp at this ⊢
        omega
    · rw [if_neg hi]; simp; omega
theorem unS_len (l : List UInt8) : (unS l).1.length ≤ l.length := by have := unF_len (l.length + 1) l 0 [] (by simp); simpa [unS] using this
theorem unF_pos (f : Nat) : ∀ (l : List UInt8) (i : Nat) (out : List UInt8), (unF f l i out).2 = -1 ∨ (0 ≤ (unF f l i out).2 ∧ (unF f l i out).2 < l.length) := by
  induction f with
  | zero => intro l i out; exact .inl rfl
  | succ f ih =>
    intro l i out
    rw [unF]
    by_cases hi : i < l.length
    · rw [if_pos hi]
      cases e : unStep l i with
      | none => right; simp; omega
      | some p => exact ih l _ _
    · rw [if_neg hi]; exact .inl rfl
theorem unS_pos (l : List UInt8) : (unS l).2 = -1 ∨ (0 ≤ (unS l).2 ∧ (unS l).2 < l.length) := unF_pos _ _ _ _
/-- The parameter of a part; or where it is wrong. -/
def partS (l : List UInt8) : Except Int (List UInt8 × List UInt8) :=
  if 0 ≤ (unS (cutA l)).2 then .error (unS (cutA l)).2
  else if 0 ≤ (unS (cutB l)).2 then .error ((cutA l).length + 1 + (unS (cutB l)).2)
  else if (unS (cutA l)).1 = [] ∨ 0 ≤ badS (unS (cutA l)).1 ∨ 0 ≤ badS (unS (cutB l)).1 then .error 0
  else .ok ((unS (cutA l)).1, (unS (cutB l)).1)
def PartPost (l : List UInt8) (d : Int) (w : World) (e : Ending) (w' : World) : Prop :=
  match partS l with
  | .ok p => e = .returned (.tuple #[.agg #[strV p.1, strV p.2], .nilIface]) ∧ Below w.heap.size w w'
  | .error q => ∃ v, e = .returned (.tuple #[.agg #[.string ⟨#[]⟩, .string ⟨#[]⟩], v]) ∧ IsErr w' (.at_ (d + q) 60) v ∧ Below w.heap.size w w'
theorem PartPost.ok {l : List UInt8} {d : Int} {w w' : World} {n v : List UInt8} (h : partS l = .ok (n, v)) (hb : Below w.heap.size w w') : PartPost l d w (.returned (.tuple #[.agg #[strV n, strV v], .nilIface])) w' := by
  unfold PartPost; rw [h]; exact ⟨rfl, hb⟩
theorem PartPost.bad {l : List UInt8} {d q : Int} {w w' : World} {v : Value} (h : partS l = .error q) (he : IsErr w' (.at_ (d + q) 60) v) (hb : Below w.heap.size w w') : PartPost l d w (.returned (.tuple #[.agg #[.string ⟨#[]⟩, .string ⟨#[]⟩], v])) w' := by
  unfold PartPost; rw [h]; exact ⟨v, rfl, he, hb⟩
theorem paramInfo : (Tryd.prog.info? 45).map (·.size) = some 2 := by kernel_rfl
end Go.Proofs.YtgdbjkkanjgbnaaDoor.Url

/-
  strings.Index, Count, Cut, Split at a separator of one byte, by contract.
-/
import Derived.Test.YtpkiahpdoejbcaaDoorFoot
import Derived.Test.YtpkiahpdoejbcaaDoorStrs
import Derived.Lib.Strings
import Derived.Lib.Slices
import Derived.Lib.Walk
import Derived.Lib.Bytealg
import Derived.Lib.IndexLaws
import Derived.Deep.QuietTactic
import Derived.BigQuiet
import Derived.OwnWalk
import Derived.Laws.OwnMore

namespace Go.Proofs.YtpkiahpdoejbcaaDoor
open Go.RowKit
set_option linter.unusedVariables false
set_option maxHeartbeats 1000000 in
set_option maxRecDepth 100000 in
theorem lib_indexByte (s : ByteArray) (c : Int) (w : World) :
    Calls Tryd.prog 68 #[.string s, .int .u8 c] w fun e w' => e = .returned (.int .i64 (Lib.indexByte s.data.toList c.toNat.toUInt8)) ∧ w' = w := by
  go_enter Tryd.func68, Tryd.ntmps68
  go_wp2
  rw [run_callFunc_extern Tryd.func80 (by kernel_rfl) (by kernel_rfl) (by kernel_rfl) (e := Extern.BytealgIndexByte.indexByte) (by kernel_rfl), Lib.run_indexByteString]
  simp only [Result.andThen]
  rw [Oper.upon_value]
  go_wp2
  go_ret
  exact ⟨rfl, rfl⟩
set_option maxHeartbeats 2000000 in
set_option maxRecDepth 100000 in
theorem lib_index1 (s : ByteArray) (c : UInt8) (w : World) :
    Calls Tryd.prog 55 #[.string s, .string ⟨#[c]⟩] w fun e w' => e = .returned (.int .i64 (Lib.indexByte s.data.toList c)) ∧ w' = w := by
  go_enter Tryd.func55, Tryd.ntmps55
  go_wp2_with (go_at_call 68; refine (lib_indexByte _ _ _).mono ?_; rintro e w' ⟨rfl, rfl⟩)
  · have h : ([c] == s.toList) = true := by assumption
    go_ret
    refine ⟨?_, rfl⟩
    have e : s.data.toList = [c] := by rw [← Lib.toList_data]; exact (beq_iff_eq.1 h).symm
    rw [e]
    simp [Lib.indexByte]
  · go_ret
    exact ⟨rfl, rfl⟩
/-- The parts of bytes. -/
def splitS (c : UInt8) : List UInt8 → List (List UInt8)
  | [] => [[]]
  | b :: l => if b = c then [] :: splitS c l else match splitS c l with | [] => [[b]] | p :: ps => (b :: p) :: ps
theorem splitS_ne (c : UInt8) (l : List UInt8) : splitS c l ≠ [] := by
  cases l with
  | nil => simp [splitS]
  | cons b l => rw [splitS]; split; simp; split <;> simp
theorem splitS_len (c : UInt8) (l : List UInt8) : (splitS c l).length = l.count c + 1 := by
  induction l with
  | nil => simp [splitS]
  | cons b l ih =>
    rw [splitS, List.count_cons]
    by_cases h : b = c
    · simp [h, ih]
    · rw [if_neg h]
      have hne := splitS_ne c l
      cases e : splitS c l with
      | nil => exact absurd e hne
      | cons p ps => rw [e] at ih; simp [h] at ih ⊢; omega
theorem splitS_none {c : UInt8} {l : List UInt8} (h : c ∉ l) : splitS c l = [l] := by
  induction l with
  | nil => rfl
  | cons b l ih =>
    rw [List.mem_cons, not_or] at h
    rw [splitS, if_neg (fun e => h.1 e.symm), ih h.2]
theorem splitS_at {c : UInt8} : ∀ {l : List UInt8} {m : Nat}, l[m]? = some c → (∀ k, k < m → l[k]? ≠ some c) → splitS c l = l.take m :: splitS c (l.drop (m + 1))
  | [], m, h, _ => by simp at h
  | b :: l, 0, h, _ => by
    simp at h
    subst h
    rw [splitS, if_pos rfl]; simp
  | b :: l, m + 1, h, hk => by
    have hb : b ≠ c := fun e => hk 0 (by omega) (by simp [e])
    have ih := splitS_at (l := l) (m := m) (by simpa using h) (fun k hk2 => by have := hk (k + 1) (by omega); simpa using this)
    rw [splitS, if_neg hb, ih]
    simp
theorem count_zero_not {c : UInt8} {l : List UInt8} (h : l.count c = 0) : c ∉ l := List.count_eq_zero.1 h
theorem count_at {c : UInt8} {l : List UInt8} {m : Nat} (h : l[m]? = some c) (hk : ∀ k, k < m → l[k]? ≠ some c) : l.count c = (l.drop (m + 1)).count c + 1 := by
  have h1 := splitS_len c l
  rw [splitS_at h hk, List.length_cons, splitS_len] at h1
  omega
/-- The first place, where there is one. -/
theorem index_pos {c : UInt8} {l : List UInt8} (h : 0 < l.count c) : ∃ m : Nat, Lib.indexByte l c = (m : Int) ∧ m < l.length ∧ l[m]? = some c ∧ ∀ k, k < m → l[k]? ≠ some c := by
  have hge := Lib.indexByte_ge l c
  by_cases hn : Lib.indexByte l c = -1
  · have := Lib.indexByte_none hn
    have hm : c ∈ l := List.count_pos_iff.1 h
    obtain ⟨k, hk⟩ := List.mem_iff_getElem?.1 hm
    exact absurd hk (this k)
  · obtain ⟨m, hm⟩ : ∃ m : Nat, Lib.indexByte l c = (m : Int) := ⟨(Lib.indexByte l c).toNat, by omega⟩
    obtain ⟨h1, h2⟩ := Lib.indexByte_some hm
    exact ⟨m, hm, (List.getElem?_eq_some_iff.1 h1).1, h1, h2⟩
theorem index_neg {c : UInt8} {l : List UInt8} (h : l.count c = 0) : Lib.indexByte l c = -1 := by
  have hge := Lib.indexByte_ge l c
  by_cases hn : Lib.indexByte l c = -1
  · exact hn
  · obtain ⟨m, hm⟩ : ∃ m : Nat, Lib.indexByte l c = (m : Int) := ⟨(Lib.indexByte l c).toNat, by omega⟩
    obtain ⟨h1, _⟩ := Lib.indexByte_some hm
    exact absurd (List.mem_of_getElem? h1) (count_zero_not h)
theorem ext_take (s : ByteArray) (m : Nat) : (s.extract 0 m).data.toList = s.data.toList.take m := by rw [Lib.extract_data]; simp
theorem ext_drop (s : ByteArray) (m : Nat) : (s.extract m s.size).data.toList = s.data.toList.drop m := by
  rw [Lib.extract_data]
  rw [List.take_of_length_le (by rw [List.length_drop]; simp)]
/-- What strings.Cut answers. -/
def CutPost (l : List UInt8) (c : UInt8) (w : World) (e : Ending) (w' : World) : Prop :=
  ∃ a b : ByteArray, ((∃ m : Nat, l[m]? = some c ∧ (∀ k, k < m → l[k]? ≠ some c) ∧ a.data.toList = l.take m ∧ b.data.toList = l.drop (m + 1) ∧ e = .returned (.tuple #[.string a, .string b, .bool true])) ∨
    (c ∉ l ∧ a.data.toList = l ∧ b.data.toList = [] ∧ e = .returned (.tuple #[.string a, .string b, .bool false]))) ∧ Below w.heap.size w w'
set_option maxHeartbeats 2000000 in
set_option maxRecDepth 100000 in
theorem lite_cut (s : ByteArray) (c : UInt8) (w : World) (hs : s.size ≤ 1099511627776) : Calls Tryd.prog 39 #[.string s, .string ⟨#[c]⟩] w (CutPost s.data.toList c w) := by
  have hln := str_len s
  by_cases h0 : 0 < s.data.toList.count c
  · obtain ⟨m, hm, hml, h1, h2⟩ := index_pos h0
    rw [hln] at hml
    have HM := hid hm
    have H1 := hid h1
    have H2 := hid h2
    clear hm h1 h2 h0 hln
    have p0 : decide ((0 : Int) ≤ (m : Int)) = true := decide_eq_true (by omega)
    have p1 : (0 : Int) ≤ (m : Int) := by omega
    have p2 : (m : Int) ≤ (s.size : Int) := by omega
    have p3 : (m : Int) + 1 ≤ (s.size : Int) := by omega
    have p4 : (0 : Int) ≤ (m : Int) + 1 := by omega
    have p5 : ((m : Int) + 1).toNat = m + 1 := by omega
    have p6 : IntKind.i64.wrap ((m : Int) + 1) = (m : Int) + 1 := by rw [IntKind.wrap_i64]; omega
    go_enter Tryd.func39, Tryd.ntmps39
    go_wp2_with (go_at_call 55; refine (lib_index1 _ _ _).mono ?_; rintro e w' ⟨rfl, he⟩; rw [he]; clear he w'; rw [HM.out])
    go_quiet (fail)
    go_wp2
    go_ret3
    refine ⟨_, _, .inl ⟨m, H1.out, H2.out, ext_take s m, ext_drop s (m + 1), rfl⟩, ⟨rfl, rfl, rfl, Nat.le_refl _, fun _ _ => rfl⟩⟩
  · have hc : s.data.toList.count c = 0 := by omega
    have HM := hid (index_neg hc)
    have HN := hid (count_zero_not hc)
    clear hc h0 hln
    go_enter Tryd.func39, Tryd.ntmps39
    go_wp2_with (go_at_call 55; refine (lib_index1 _ _ _).mono ?_; rintro e w' ⟨rfl, he⟩; rw [he]; clear he w'; rw [HM.out])
    go_ret3
    exact ⟨s, ⟨#[]⟩, .inr ⟨HN.out, rfl, rfl, rfl⟩, Below.refl _ _⟩
theorem cut_any (s : ByteArray) (c : UInt8) (w : World) (hs : s.size ≤ 1099511627776) : Calls Tryd.prog 25 #[.string s, .string ⟨#[c]⟩] w (CutPost s.data.toList c w) := by
  go_enter Tryd.func25, Tryd.ntmps25
  go_wp2_with fail
  refine (lite_cut s c w hs).mono ?_
  rintro e w1 ⟨a, b, (⟨m, h1, h2, h3, h4, rfl⟩ | ⟨h1, h2, h3, rfl⟩), hb⟩
  · have HB := hid hb
    have H3 := hid h3
    have H4 := hid h4
    have H1 := hid h1
    have H2 := hid h2
    clear hb h1 h2 h3 h4
    go_wp2
    go_ret3
    exact ⟨a, b, .inl ⟨m, H1.out, H2.out, H3.out, H4.out, rfl⟩, HB.out⟩
  · have HB := hid hb
    have H1 := hid h1
    have H2 := hid h2
    have H3 := hid h3
    clear hb h1 h2 h3
    go_wp2
    go_ret3
    exact ⟨a, b, .inr ⟨H1.out, H2.out, H3.out, rfl⟩, HB.out⟩
end Go.Proofs.YtpkiahpdoejbcaaDoor

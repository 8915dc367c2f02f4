/-
  Foot, RowInts, Strs, StrLib, UtfPure, UtfSpec, UtfNext, UtfRefPut, UtfRefNext: this proof's parts in one text.
-/
import Derived.Test.YtgdbjkkanjgbnaaDoorMUrlPrintsRowa
import Derived.OneCell
import Derived.ProofKit
import Derived.OpenShut
import Derived.Test.YtgdbjkkanjgbnaaDoorProg
import Derived.Deep.Slices
import Derived.ChangeArms
import Derived.Lib.Strings
import Derived.Lib.Slices
import Derived.Lib.Walk
import Derived.Lib.Bytealg
import Derived.Lib.IndexLaws
import Derived.Deep.QuietTactic
import Derived.BigQuiet
import Derived.OwnWalk
import Derived.Laws.OwnMore
import Derived.Laws.BitsLemmas
import Derived.Deep.RegionWith
namespace Go.Proofs.YtgdbjkkanjgbnaaDoor
open Go.RowKit
set_option linter.unusedVariables false

structure Mod (S : Nat → Prop) (w w' : World) : Prop where
  os : w'.os = w.os
  tape : w'.tape = w.tape
  output : w'.output = w.output
  size : w.heap.size ≤ w'.heap.size
  block : ∀ k, k < w.heap.size → ¬ S k → w'.heap[k]? = w.heap[k]?

theorem Mod.refl (S : Nat → Prop) (w : World) : Mod S w w := ⟨rfl, rfl, rfl, Nat.le_refl _, fun _ _ _ => rfl⟩
theorem Mod.trans {S S' : Nat → Prop} {a b c : World} (h : Mod S a b) (k : Mod S' b c) (hS : ∀ x, S' x → S x ∨ a.heap.size ≤ x) : Mod S a c :=
  ⟨k.os.trans h.os, k.tape.trans h.tape, k.output.trans h.output, Nat.le_trans h.size k.size, fun i hi hn =>
    (k.block i (Nat.lt_of_lt_of_le hi h.size) (fun e => by rcases hS i e with e | e; exact hn e; omega)).trans (h.block i hi hn)⟩
theorem Mod.mono {S S' : Nat → Prop} {a b : World} (h : Mod S a b) (hS : ∀ x, x < a.heap.size → S x → S' x) : Mod S' a b := ⟨h.os, h.tape, h.output, h.size, fun k hk hn => h.block k hk (fun e => hn (hS k hk e))⟩
theorem Mod.drew {S : Nat → Prop} {a b : World} (h : Mod S a b) : Mod S a b.drew := ⟨h.os, h.tape, h.output, h.size, h.block⟩
theorem Mod.alloc {S : Nat → Prop} {a b : World} (h : Mod S a b) (o : Obj) : Mod S a (b.alloc o) :=
  ⟨h.os, h.tape, h.output, by have := h.size; simp; omega, fun k hk hn => by rw [Below.heap_alloc _ _ _ (by have := h.size; omega)]; exact h.block k hk hn⟩
theorem Mod.setCell {S : Nat → Prop} {a b : World} (h : Mod S a b) (p : Addr) (v : Value) (hp : S p.block ∨ a.heap.size ≤ p.block) : Mod S a (b.setCell p v) :=
  ⟨h.os, h.tape, h.output, by have := h.size; simp [World.setCell]; exact this, fun k hk hn => by
    rw [Below.heap_setCell _ _ _ _ (fun e => by subst e; rcases hp with hp | hp; exact hn hp; omega)]; exact h.block k hk hn⟩
theorem Mod.below {S : Nat → Prop} {w w' : World} (h : Mod S w w') {B : Nat} (hB : B ≤ w.heap.size) (hS : ∀ x, S x → B ≤ x) : Below B w w' :=
  ⟨h.os, h.tape, h.output, h.size, fun k hk => h.block k (by omega) (fun e => by have := hS k e; omega)⟩
theorem Mod.of_below {B : Nat} {w w' : World} (h : Below B w w') {S : Nat → Prop} (hS : ∀ x, x < w.heap.size → B ≤ x → S x) : Mod S w w' :=
  ⟨h.os, h.tape, h.output, h.size, fun k hk hn => h.block k (by rcases Nat.lt_or_ge k B with e | e; exact e; exact absurd (hS k hk e) hn)⟩
theorem Mod.new {w w' : World} (h : Below w.heap.size w w') (S : Nat → Prop) : Mod S w w' := Mod.of_below h (fun x h1 h2 => by omega)
theorem Mod.grown {S : Nat → Prop} {a b c : World} {row : Option Nat} (h : Mod S a b) (hg : b.grownBy c row) (hr : ∀ k, row = some k → S k ∨ a.heap.size ≤ k) : Mod S a c :=
  ⟨hg.os.trans h.os, hg.tape.trans h.tape, hg.output.trans h.output, Nat.le_trans h.size hg.size, fun k hk hn =>
    (hg.block k (Nat.lt_of_lt_of_le hk h.size) (fun e => by rcases hr k e.symm with e | e; exact hn e; omega)).trans (h.block k hk hn)⟩
theorem Mod.cell {S : Nat → Prop} {w w' : World} (h : Mod S w w') {p : Addr} {v : Value} (hc : w.cell? p = some v) (hn : ¬ S p.block) : w'.cell? p = some v :=
  (World.cell?_of_block (w := w) (h.block p.block (lt_of_cell hc) hn)).trans hc
theorem lt_of_heap {w : World} {k : Nat} {o : Obj} (h : w.heap[k]? = some o) : k < w.heap.size := (Array.getElem?_eq_some_iff.1 h).1
theorem Mod.heap {S : Nat → Prop} {w w' : World} (h : Mod S w w') {k : Nat} {o : Obj} (hc : w.heap[k]? = some o) (hn : ¬ S k) : w'.heap[k]? = some o :=
  (h.block k (lt_of_heap hc) hn).trans hc

/-- A thing that lay in F lies in F'; nothing else that was there was written. -/
structure Step (F : Nat → Prop) (w w' : World) (F' : Nat → Prop) : Prop where
  mod : Mod F w w'
  foot : ∀ k, F' k → F k ∨ w.heap.size ≤ k
theorem Step.refl (F : Nat → Prop) (w : World) : Step F w w F := ⟨Mod.refl _ _, fun _ h => .inl h⟩
theorem Step.trans {F G H : Nat → Prop} {a b c : World} (h : Step F a b G) (k : Step G b c H) : Step F a c H :=
  ⟨h.mod.trans k.mod h.foot, fun x hx => by
    rcases k.foot x hx with e | e
    · exact h.foot x e
    · exact .inr (Nat.le_trans h.mod.size e)⟩
theorem Step.below {F F' : Nat → Prop} {w w' : World} (h : Step F w w' F') {B : Nat} (hB : B ≤ w.heap.size) (hF : ∀ x, F x → B ≤ x) : Below B w w' ∧ ∀ x, F' x → B ≤ x :=
  ⟨h.mod.below hB hF, fun x hx => by rcases h.foot x hx with e | e; exact hF x e; omega⟩
end Go.Proofs.YtgdbjkkanjgbnaaDoor

namespace Go.Proofs.YtgdbjkkanjgbnaaDoor
open Go.RowKit
set_option linter.unusedVariables false
/-- A slice that came in, with all its room. -/
def IsRow (k : IntKind) (W : World) (a : Option Addr) (len cap : Nat) (zs : List Int) : Prop :=
  (a = none ∧ len = 0 ∧ cap = 0 ∧ zs = []) ∨ ∃ x, a = some x ∧ len ≤ cap ∧ cap ≤ maxLen ∧ zs.length = cap ∧ (∀ i, i < zs.length → W.cell? (x.add i) = some (.int k (zs.getD i 0))) ∧ (∀ n ∈ zs, (Lit.int k n).wf = true)
theorem IsRow.len {k : IntKind} {W : World} {a : Option Addr} {len cap : Nat} {zs : List Int} (h : IsRow k W a len cap zs) : (zs.take len).length = len ∧ len ≤ cap := by
  rcases h with ⟨_, rfl, rfl, rfl⟩ | ⟨x, _, h1, h2, h3, _⟩
  · simp
  · rw [List.length_take]; omega
theorem IsRow.cells {k : IntKind} {W : World} {a : Option Addr} {len cap : Nat} {zs : List Int} (h : IsRow k W a len cap zs) (h0 : 0 < len) : ∃ b o, a = some ⟨b, o, none⟩ ∧ ∀ i, i < len → W.cell? ⟨b, o + i, none⟩ = some (.int k ((zs.take len).getD i 0)) := by
  rcases h with ⟨_, rfl, rfl, rfl⟩ | ⟨x, rfl, h1, h2, h3, h4, _⟩
  · omega
  · obtain ⟨b, o, rfl, hc⟩ := ints_at h4 (by omega)
    refine ⟨b, o, rfl, fun i hi => ?_⟩
    rw [hc i (by omega)]
    simp [List.getD, hi]
end Go.Proofs.YtgdbjkkanjgbnaaDoor

namespace Go.Proofs.YtgdbjkkanjgbnaaDoor
open Go.RowKit Go.ChangeShapes Go.WideShapes Go.ChangeAt Go.Deep
set_option linter.unusedVariables false
/-- A slice of one-cell elements. -/
def RowC (W : World) (v : Value) (cs : List Value) : Prop := ∃ a cap, v = .slice a cs.length cap ∧ cs.length ≤ maxLen ∧ (0 < cs.length → ∃ b o, a = some ⟨b, o, none⟩ ∧ ∀ i u, cs[i]? = some u → W.cell? ⟨b, o + i, none⟩ = some u)
theorem RowC.below {W w : World} {v : Value} {cs : List Value} (h : RowC W v cs) (hb : Below W.heap.size W w) : RowC w v cs := by
  obtain ⟨a, cap, rfl, hl, hc⟩ := h
  refine ⟨a, cap, rfl, hl, fun h0 => ?_⟩
  obtain ⟨b, o, rfl, hi⟩ := hc h0
  exact ⟨b, o, rfl, fun i u hu => (hb.cell (lt_of_cell (hi i u hu))).trans (hi i u hu)⟩
section
variable {H : Type} {enc : TypeId × Value → H} {W : World}
end
end Go.Proofs.YtgdbjkkanjgbnaaDoor

namespace Go.Proofs.YtgdbjkkanjgbnaaDoor
open Go.RowKit
set_option linter.unusedVariables false
set_option maxHeartbeats 1000000 in
set_option maxRecDepth 100000 in
theorem lib_indexByte (s : ByteArray) (c : Int) (w : World) :
    Calls Tryd.prog 60 #[.string s, .int .u8 c] w fun e w' => e = .returned (.int .i64 (Lib.indexByte s.data.toList c.toNat.toUInt8)) ∧ w' = w := by
  go_enter Tryd.func60, Tryd.ntmps60
  go_wp2
  rw [run_callFunc_extern Tryd.func64 (by kernel_rfl) (by kernel_rfl) (by kernel_rfl) (e := Extern.BytealgIndexByte.indexByte) (by kernel_rfl), Lib.run_indexByteString]
  simp only [Result.andThen]
  rw [Oper.upon_value]
  go_wp2
  go_ret
  exact ⟨rfl, rfl⟩
set_option maxHeartbeats 2000000 in
set_option maxRecDepth 100000 in
theorem lib_index1 (s : ByteArray) (c : UInt8) (w : World) :
    Calls Tryd.prog 58 #[.string s, .string ⟨#[c]⟩] w fun e w' => e = .returned (.int .i64 (Lib.indexByte s.data.toList c)) ∧ w' = w := by
  go_enter Tryd.func58, Tryd.ntmps58
  go_wp2_with (go_at_call 60; refine (lib_indexByte _ _ _).mono ?_; rintro e w' ⟨rfl, rfl⟩)
  · have h : ([c] == s.toList) = true := by assumption
    go_ret
    refine ⟨?_, rfl⟩
    have e : s.data.toList = [c] := by rw [← Lib.toList_data]; exact (beq_iff_eq.1 h).symm
    rw [e]
    simp [Lib.indexByte]
  · go_ret
    exact ⟨rfl, rfl⟩
/-- The parts of bytes. -/
def splitS (c : UInt8) : List UInt8 → List (List UInt8)
  | [] => [[]]
  | b :: l => if b = c then [] :: splitS c l else match splitS c l with | [] => [[b]] | p :: ps => (b :: p) :: ps
theorem splitS_ne (c : UInt8) (l : List UInt8) : splitS c l ≠ [] := by
  cases l with
  | nil => simp [splitS]
  | cons b l => rw [splitS]; split; simp; split <;> simp
theorem splitS_len (c : UInt8) (l : List UInt8) : (splitS c l).length = l.count c + 1 := by
  induction l with
  | nil => simp [splitS]
  | cons b l ih =>
    rw [splitS, List.count_cons]
    by_cases h : b = c
    · simp [h, ih]
    · rw [if_neg h]
      have hne := splitS_ne c l
      cases e : splitS c l with
      | nil => exact absurd e hne
      | cons p ps => rw [e] at ih; simp [h] at ih ⊢; omega
theorem splitS_none {c : UInt8} {l : List UInt8} (h : c ∉ l) : splitS c l = [l] := by
  induction l with
  | nil => rfl
  | cons b l ih =>
    rw [List.mem_cons, not_or] at h
    rw [splitS, if_neg (fun e => h.1 e.symm), ih h.2]
theorem splitS_at {c : UInt8} : ∀ {l : List UInt8} {m : Nat}, l[m]? = some c → (∀ k, k < m → l[k]? ≠ some c) → splitS c l = l.take m :: splitS c (l.drop (m + 1))
  | [], m, h, _ => by simp at h
  | b :: l, 0, h, _ => by
    simp at h
    subst h
    rw [splitS, if_pos rfl]; simp
  | b :: l, m + 1, h, hk => by
    have hb : b ≠ c := fun e => hk 0 (by omega) (by simp [e])
    have ih := splitS_at (l := l) (m := m) (by simpa using h) (fun k hk2 => by have := hk (k + 1) (by omega); simpa using this)
    rw [splitS, if_neg hb, ih]
    simp
theorem count_zero_not {c : UInt8} {l : List UInt8} (h : l.count c = 0) : c ∉ l := List.count_eq_zero.1 h
theorem count_at {c : UInt8} {l : List UInt8} {m : Nat} (h : l[m]? = some c) (hk : ∀ k, k < m → l[k]? ≠ some c) : l.count c = (l.drop (m + 1)).count c + 1 := by
  have h1 := splitS_len c l
  rw [splitS_at h hk, List.length_cons, splitS_len] at h1
  omega
/-- The first place, where there is one. -/
theorem index_pos {c : UInt8} {l : List UInt8} (h : 0 < l.count c) : ∃ m : Nat, Lib.indexByte l c = (m : Int) ∧ m < l.length ∧ l[m]? = some c ∧ ∀ k, k < m → l[k]? ≠ some c := by
  have hge := Lib.indexByte_ge l c
  by_cases hn : Lib.indexByte l c = -1
  · have := Lib.indexByte_none hn
    have hm : c ∈ l := List.count_pos_iff.1 h
    obtain ⟨k, hk⟩ := List.mem_iff_getElem?.1 hm
    exact absurd hk (this k)
  · obtain ⟨m, hm⟩ : ∃ m : Nat, Lib.indexByte l c = (m : Int) := ⟨(Lib.indexByte l c).toNat, by omega⟩
    obtain ⟨h1, h2⟩ := Lib.indexByte_some hm
    exact ⟨m, hm, (List.getElem?_eq_some_iff.1 h1).1, h1, h2⟩
theorem index_neg {c : UInt8} {l : List UInt8} (h : l.count c = 0) : Lib.indexByte l c = -1 := by
  have hge := Lib.indexByte_ge l c
  by_cases hn : Lib.indexByte l c = -1
  · exact hn
  · obtain ⟨m, hm⟩ : ∃ m : Nat, Lib.indexByte l c = (m : Int) := ⟨(Lib.indexByte l c).toNat, by omega⟩
    obtain ⟨h1, _⟩ := Lib.indexByte_some hm
    exact absurd (List.mem_of_getElem? h1) (count_zero_not h)
theorem ext_take (s : ByteArray) (m : Nat) : (s.extract 0 m).data.toList = s.data.toList.take m := by rw [Lib.extract_data]; simp
theorem ext_drop (s : ByteArray) (m : Nat) : (s.extract m s.size).data.toList = s.data.toList.drop m := by
  rw [Lib.extract_data]
  rw [List.take_of_length_le (by rw [List.length_drop]; simp)]
/-- What strings.Cut answers. -/
def CutPost (l : List UInt8) (c : UInt8) (w : World) (e : Ending) (w' : World) : Prop :=
  ∃ a b : ByteArray, ((∃ m : Nat, l[m]? = some c ∧ (∀ k, k < m → l[k]? ≠ some c) ∧ a.data.toList = l.take m ∧ b.data.toList = l.drop (m + 1) ∧ e = .returned (.tuple #[.string a, .string b, .bool true])) ∨
    (c ∉ l ∧ a.data.toList = l ∧ b.data.toList = [] ∧ e = .returned (.tuple #[.string a, .string b, .bool false]))) ∧ Below w.heap.size w w'
set_option maxHeartbeats 2000000 in
set_option maxRecDepth 100000 in
theorem lite_cut (s : ByteArray) (c : UInt8) (w : World) (hs : s.size ≤ 1099511627776) : Calls Tryd.prog 48 #[.string s, .string ⟨#[c]⟩] w (CutPost s.data.toList c w) := by
  have hln := str_len s
  by_cases h0 : 0 < s.data.toList.count c
  · obtain ⟨m, hm, hml, h1, h2⟩ := index_pos h0
    rw [hln] at hml
    have HM := hid hm
    have H1 := hid h1
    have H2 := hid h2
    clear hm h1 h2 h0 hln
    have p0 : decide ((0 : Int) ≤ (m : Int)) = true := decide_eq_true (by omega)
    have p1 : (0 : Int) ≤ (m : Int) := by omega
    have p2 : (m : Int) ≤ (s.size : Int) := by omega
    have p3 : (m : Int) + 1 ≤ (s.size : Int) := by omega
    have p4 : (0 : Int) ≤ (m : Int) + 1 := by omega
    have p5 : ((m : Int) + 1).toNat = m + 1 := by omega
    have p6 : IntKind.i64.wrap ((m : Int) + 1) = (m : Int) + 1 := by rw [IntKind.wrap_i64]; omega
    go_enter Tryd.func48, Tryd.ntmps48
    go_wp2_with (go_at_call 58; refine (lib_index1 _ _ _).mono ?_; rintro e w' ⟨rfl, he⟩; rw [he]; clear he w'; rw [HM.out])
    go_quiet (fail)
    go_wp2
    go_ret3
    refine ⟨_, _, .inl ⟨m, H1.out, H2.out, ext_take s m, ext_drop s (m + 1), rfl⟩, ⟨rfl, rfl, rfl, Nat.le_refl _, fun _ _ => rfl⟩⟩
  · have hc : s.data.toList.count c = 0 := by omega
    have HM := hid (index_neg hc)
    have HN := hid (count_zero_not hc)
    clear hc h0 hln
    go_enter Tryd.func48, Tryd.ntmps48
    go_wp2_with (go_at_call 58; refine (lib_index1 _ _ _).mono ?_; rintro e w' ⟨rfl, he⟩; rw [he]; clear he w'; rw [HM.out])
    go_ret3
    exact ⟨s, ⟨#[]⟩, .inr ⟨HN.out, rfl, rfl, rfl⟩, Below.refl _ _⟩
theorem cut_any (s : ByteArray) (c : UInt8) (w : World) (hs : s.size ≤ 1099511627776) : Calls Tryd.prog 36 #[.string s, .string ⟨#[c]⟩] w (CutPost s.data.toList c w) := by
  go_enter Tryd.func36, Tryd.ntmps36
  go_wp2_with fail
  refine (lite_cut s c w hs).mono ?_
  rintro e w1 ⟨a, b, (⟨m, h1, h2, h3, h4, rfl⟩ | ⟨h1, h2, h3, rfl⟩), hb⟩
  · have HB := hid hb
    have H3 := hid h3
    have H4 := hid h4
    have H1 := hid h1
    have H2 := hid h2
    clear hb h1 h2 h3 h4
    go_wp2
    go_ret3
    exact ⟨a, b, .inl ⟨m, H1.out, H2.out, H3.out, H4.out, rfl⟩, HB.out⟩
  · have HB := hid hb
    have H1 := hid h1
    have H2 := hid h2
    have H3 := hid h3
    clear hb h1 h2 h3
    go_wp2
    go_ret3
    exact ⟨a, b, .inr ⟨H1.out, H2.out, H3.out, rfl⟩, HB.out⟩
end Go.Proofs.YtgdbjkkanjgbnaaDoor

namespace Go.Proofs.YtgdbjkkanjgbnaaDoor
set_option linter.unusedVariables false

/-- Is it a byte that goes on? -/
def cont (c : UInt8) : Bool := c.toNat / 64 == 2
/-- How many bytes begin with it. -/
def sizeB (c : UInt8) : Nat := if 192 ≤ c.toNat ∧ c.toNat < 224 then 2 else if 224 ≤ c.toNat ∧ c.toNat < 240 then 3 else if 240 ≤ c.toNat ∧ c.toNat < 248 then 4 else 0
def headB (c : UInt8) : Nat := if c.toNat < 224 then c.toNat % 32 else if c.toNat < 240 then c.toNat % 16 else c.toNat % 8
def accB (a : Nat) (l : List UInt8) : Nat := l.foldl (fun a x => a * 64 + x.toNat % 64) a
def leastB (n : Nat) : Nat := if n = 2 then 128 else if n = 3 then 2048 else if n = 4 then 65536 else 0
def rightB (n : Int) : Bool := decide (0 ≤ n) && decide (n ≤ 1114111) && (decide (n < 55296) || decide (57343 < n))
theorem rightB_iff (n : Int) : rightB n = true ↔ 0 ≤ n ∧ n ≤ 1114111 ∧ (n < 55296 ∨ 57343 < n) := by
  unfold rightB; simp [and_assoc]
/-- What is behind the first byte. -/
def restS (c : UInt8) (r : List UInt8) : Int × Int :=
  if (r.take (sizeB c - 1)).all cont = false then (-1, 1)
  else if accB (headB c) (r.take (sizeB c - 1)) < leastB (sizeB c) ∨ rightB (accB (headB c) (r.take (sizeB c - 1)) : Nat) = false then (-1, 1)
  else ((accB (headB c) (r.take (sizeB c - 1)) : Nat), (sizeB c : Nat))
/-- The letter at the beginning, and its bytes' number. -/
def nextS (l : List UInt8) : Int × Int :=
  match l with
  | [] => (-1, 0)
  | c :: r => if c.toNat < 128 then ((c.toNat : Int), 1) else if sizeB c = 0 ∨ r.length + 1 < sizeB c then (-1, 1) else restS c r

theorem nextS_cons (c : UInt8) (r : List UInt8) : nextS (c :: r) = if c.toNat < 128 then ((c.toNat : Int), 1) else if sizeB c = 0 ∨ r.length + 1 < sizeB c then (-1, 1) else restS c r := rfl
theorem accB_snoc (a : Nat) (l : List UInt8) (k : Nat) (h : k < l.length) : accB a (l.take (k + 1)) = accB a (l.take k) * 64 + (l.getD k 0).toNat % 64 := by
  have : l.take (k + 1) = l.take k ++ [l.getD k 0] := by
    rw [List.take_succ_eq_append_getElem h]; simp [List.getD, h]
  rw [this]; unfold accB; simp
/-! ### bits -/
theorem cont_bits (c : UInt8) : (bits .and .u8 (c.toNat : Int) 192 != 128) = !(cont c) := by
  have h : ∀ n : Fin 256, (bits .and .u8 ((n.val : Nat) : Int) 192 != 128) = !(n.val / 64 == 2) := by decide +kernel
  exact h ⟨c.toNat, c.toNat_lt⟩
theorem and63 (c : UInt8) : bits .and .u8 (c.toNat : Int) 63 = (c.toNat : Int) % 64 :=
  u8_and63 _ (by omega) (by have := c.toNat_lt; omega)
theorem and_i64 (m : Nat) (k : Nat) (hk : ∀ n : Fin 256, bits .and .i64 ((n.val : Nat) : Int) m = ((n.val : Nat) : Int) % k) (c : UInt8) : bits .and .i64 (c.toNat : Int) m = (c.toNat : Int) % k := hk ⟨c.toNat, c.toNat_lt⟩
theorem and31 (c : UInt8) : bits .and .i64 (c.toNat : Int) 31 = (c.toNat : Int) % 32 := and_i64 31 32 (by decide +kernel) c
theorem and15 (c : UInt8) : bits .and .i64 (c.toNat : Int) 15 = (c.toNat : Int) % 16 := and_i64 15 16 (by decide +kernel) c
theorem and7 (c : UInt8) : bits .and .i64 (c.toNat : Int) 7 = (c.toNat : Int) % 8 := and_i64 7 8 (by decide +kernel) c
theorem wraps_i64 (n : Int) (h₀ : 0 ≤ n) (h₁ : n < 2 ^ 62) : IntKind.i64.wrap n = n := by rw [IntKind.wrap_i64]; omega
/-- letter<<6 | low. -/
theorem or64 (a y : Nat) (ha : a < 1099511627776) : bits .or .i64 ((a : Int) * 64) ((y : Int) % 64) = (a : Int) * 64 + (y : Int) % 64 :=
  bits_join .i64 62 (by decide) wraps_i64 6 ((a : Int) * 64) ((y : Int) % 64) (by omega) (by omega) (by omega) (by omega) (by omega) (by omega)
end Go.Proofs.YtgdbjkkanjgbnaaDoor

namespace Go.Proofs.YtgdbjkkanjgbnaaDoor
set_option linter.unusedVariables false

/-- A number as a byte. -/
def by8 (n : Nat) : UInt8 := UInt8.ofNat n
theorem by8_toNat (n : Nat) (h : n < 256) : (by8 n).toNat = n := by unfold by8; simp; omega
theorem by8_eq (n : Nat) (h : n < 256) (c : UInt8) : by8 n = c ↔ n = c.toNat := by
  rw [← UInt8.toNat_inj, by8_toNat n h]
/-- A letter's bytes. -/
def putN (n : Nat) : List UInt8 :=
  if n < 128 then [by8 n] else if n < 2048 then [by8 (192 + n / 64), by8 (128 + n % 64)]
  else if n < 65536 then [by8 (224 + n / 4096), by8 (128 + n / 64 % 64), by8 (128 + n % 64)]
  else [by8 (240 + n / 262144), by8 (128 + n / 4096 % 64), by8 (128 + n / 64 % 64), by8 (128 + n % 64)]
def putS (n : Int) : List UInt8 := if rightB n = true then putN n.toNat else []

/-- The document's value of the first k bytes. -/
def valS (l : List UInt8) (k : Nat) : Nat := accB (if k = 1 then (l.getD 0 0).toNat else if k = 2 then (l.getD 0 0).toNat % 32 else if k = 3 then (l.getD 0 0).toNat % 16 else (l.getD 0 0).toNat % 8) ((l.drop 1).take (k - 1))
/-- The document's answer from size k on. -/
def tryS (l : List UInt8) (k : Nat) : Int × Int :=
  if k ≤ 4 ∧ k ≤ l.length then (if putS (valS l k) = l.take k then ((valS l k : Nat), (k : Nat)) else tryS l (k + 1)) else (-1, 1)
termination_by 5 - k

theorem cont_iff (c : UInt8) : cont c = true ↔ 128 ≤ c.toNat ∧ c.toNat < 192 := by unfold cont; rw [beq_iff_eq]; omega
theorem cont_no (c : UInt8) : cont c = false ↔ ¬ (128 ≤ c.toNat ∧ c.toNat < 192) := by rw [← cont_iff]; simp
theorem put_len1 (n : Int) (c : UInt8) (h : putS n = [c]) : n = c.toNat ∧ c.toNat < 128 := by
  unfold putS at h
  by_cases hr : rightB n = true
  · rw [if_pos hr] at h
    have := (rightB_iff n).1 hr
    unfold putN at h
    by_cases h1 : n.toNat < 128
    · rw [if_pos h1] at h
      simp at h
      have := (by8_eq _ (by omega) c).1 h
      omega
    · rw [if_neg h1] at h
      by_cases h2 : n.toNat < 2048
      · rw [if_pos h2] at h; simp at h
      · rw [if_neg h2] at h
        by_cases h3 : n.toNat < 65536
        · rw [if_pos h3] at h; simp at h
        · rw [if_neg h3] at h; simp at h
  · rw [if_neg hr] at h; simp at h
theorem put_one (c : UInt8) (h : c.toNat < 128) : putS (c.toNat : Int) = [c] := by
  unfold putS putN
  rw [if_pos ((rightB_iff _).2 (by omega)), if_pos (by omega)]
  simp [(by8_eq c.toNat (by have := c.toNat_lt; omega) c).2 rfl]
theorem put_two (v : Nat) (a b : UInt8) (h : v < 2048) : putS (v : Int) = [a, b] ↔ 128 ≤ v ∧ 192 + v / 64 = a.toNat ∧ 128 + v % 64 = b.toNat := by
  unfold putS putN
  rw [if_pos ((rightB_iff _).2 (by omega)), Int.toNat_natCast]
  by_cases h1 : v < 128
  · rw [if_pos h1]; simp; omega
  · rw [if_neg h1, if_pos h]
    simp only [List.cons.injEq, and_true]
    rw [by8_eq _ (by omega), by8_eq _ (by omega)]
    omega
theorem put_three (v : Nat) (a b c : UInt8) (h : v < 65536) : putS (v : Int) = [a, b, c] ↔ 2048 ≤ v ∧ rightB v = true ∧ 224 + v / 4096 = a.toNat ∧ 128 + v / 64 % 64 = b.toNat ∧ 128 + v % 64 = c.toNat := by
  unfold putS putN
  rw [Int.toNat_natCast]
  by_cases hr : rightB v = true
  · rw [if_pos hr]
    by_cases h1 : v < 128
    · rw [if_pos h1]; simp; omega
    · rw [if_neg h1]
      by_cases h2 : v < 2048
      · rw [if_pos h2]; simp; omega
      · rw [if_neg h2, if_pos h]
        simp only [List.cons.injEq, and_true]
        rw [by8_eq _ (by omega), by8_eq _ (by omega), by8_eq _ (by omega)]
        simp only [hr, true_and]; omega
  · rw [if_neg hr]; simp [hr]
theorem put_four (v : Nat) (a b c d : UInt8) (h : v < 2097152) : putS (v : Int) = [a, b, c, d] ↔ 65536 ≤ v ∧ rightB v = true ∧ 240 + v / 262144 = a.toNat ∧ 128 + v / 4096 % 64 = b.toNat ∧ 128 + v / 64 % 64 = c.toNat ∧ 128 + v % 64 = d.toNat := by
  unfold putS putN
  rw [Int.toNat_natCast]
  by_cases hr : rightB v = true
  · rw [if_pos hr]
    by_cases h1 : v < 128
    · rw [if_pos h1]; simp; omega
    · rw [if_neg h1]
      by_cases h2 : v < 2048
      · rw [if_pos h2]; simp; omega
      · rw [if_neg h2]
        by_cases h3 : v < 65536
        · rw [if_pos h3]; simp; omega
        · rw [if_neg h3]
          have := (rightB_iff v).1 hr
          simp only [List.cons.injEq, and_true]
          rw [by8_eq _ (by omega), by8_eq _ (by omega), by8_eq _ (by omega), by8_eq _ (by omega)]
          simp only [hr, true_and]; omega
  · rw [if_neg hr]; simp [hr]

theorem restS_def (c : UInt8) (r : List UInt8) (m : List UInt8) (hm : r.take (sizeB c - 1) = m) (x L : Nat) (hx : accB (headB c) m = x) (hL : leastB (sizeB c) = L) :
    restS c r = if m.all cont = false then (-1, 1) else if x < L ∨ rightB x = false then (-1, 1) else ((x : Int), (sizeB c : Int)) := by
  unfold restS; rw [hm, hx, hL]

theorem rightB_no (n : Int) : rightB n = false ↔ ¬ (0 ≤ n ∧ n ≤ 1114111 ∧ (n < 55296 ∨ 57343 < n)) := by rw [← rightB_iff]; simp
theorem put_one_iff (c : UInt8) : putS (c.toNat : Int) = [c] ↔ c.toNat < 128 := ⟨fun h => (put_len1 _ _ h).2, put_one c⟩
theorem try_4 (l : List UInt8) : tryS l 4 = if 4 ≤ l.length then (if putS (valS l 4) = l.take 4 then (((valS l 4 : Nat) : Int), 4) else (-1, 1)) else (-1, 1) := by
  unfold tryS
  by_cases h : 4 ≤ l.length
  · rw [if_pos ⟨Nat.le_refl _, h⟩, if_pos h]
    by_cases h2 : putS (valS l 4) = l.take 4
    · rw [if_pos h2, if_pos h2]; rfl
    · rw [if_neg h2, if_neg h2]; unfold tryS; rw [if_neg (by omega)]
  · rw [if_neg (by omega), if_neg h]
theorem try_3 (l : List UInt8) : tryS l 3 = if 3 ≤ l.length then (if putS (valS l 3) = l.take 3 then (((valS l 3 : Nat) : Int), 3) else tryS l 4) else (-1, 1) := by
  rw [tryS]
  by_cases h : 3 ≤ l.length
  · rw [if_pos ⟨by omega, h⟩, if_pos h]; rfl
  · rw [if_neg (by omega), if_neg h]
theorem try_2 (l : List UInt8) : tryS l 2 = if 2 ≤ l.length then (if putS (valS l 2) = l.take 2 then (((valS l 2 : Nat) : Int), 2) else tryS l 3) else (-1, 1) := by
  rw [tryS]
  by_cases h : 2 ≤ l.length
  · rw [if_pos ⟨by omega, h⟩, if_pos h]; rfl
  · rw [if_neg (by omega), if_neg h]
theorem try_1 (l : List UInt8) : tryS l 1 = if 1 ≤ l.length then (if putS (valS l 1) = l.take 1 then (((valS l 1 : Nat) : Int), 1) else tryS l 2) else (-1, 1) := by
  rw [tryS]
  by_cases h : 1 ≤ l.length
  · rw [if_pos ⟨by omega, h⟩, if_pos h]; rfl
  · rw [if_neg (by omega), if_neg h]

theorem try_2n (l : List UInt8) (h : l.length < 2) : tryS l 2 = (-1, 1) := by rw [try_2, if_neg (by omega)]
theorem try_2y (l : List UInt8) (h : 2 ≤ l.length) : tryS l 2 = if putS (valS l 2) = l.take 2 then (((valS l 2 : Nat) : Int), 2) else tryS l 3 := by rw [try_2, if_pos h]
theorem try_3n (l : List UInt8) (h : l.length < 3) : tryS l 3 = (-1, 1) := by rw [try_3, if_neg (by omega)]
theorem try_3y (l : List UInt8) (h : 3 ≤ l.length) : tryS l 3 = if putS (valS l 3) = l.take 3 then (((valS l 3 : Nat) : Int), 3) else tryS l 4 := by rw [try_3, if_pos h]
theorem try_4n (l : List UInt8) (h : l.length < 4) : tryS l 4 = (-1, 1) := by rw [try_4, if_neg (by omega)]
theorem try_4y (l : List UInt8) (h : 4 ≤ l.length) : tryS l 4 = if putS (valS l 4) = l.take 4 then (((valS l 4 : Nat) : Int), 4) else (-1, 1) := by rw [try_4, if_pos h]

/-- The program's answer by classes of the first byte. -/
theorem next_class (c : UInt8) (r : List UInt8) :
    (c.toNat < 128 ∧ nextS (c :: r) = ((c.toNat : Int), 1)) ∨
    (192 ≤ c.toNat ∧ c.toNat < 224 ∧ sizeB c = 2 ∧ headB c = c.toNat % 32 ∧ leastB (sizeB c) = 128 ∧ nextS (c :: r) = if r.length + 1 < 2 then (-1, 1) else restS c r) ∨
    (224 ≤ c.toNat ∧ c.toNat < 240 ∧ sizeB c = 3 ∧ headB c = c.toNat % 16 ∧ leastB (sizeB c) = 2048 ∧ nextS (c :: r) = if r.length + 1 < 3 then (-1, 1) else restS c r) ∨
    (240 ≤ c.toNat ∧ c.toNat < 248 ∧ sizeB c = 4 ∧ headB c = c.toNat % 8 ∧ leastB (sizeB c) = 65536 ∧ nextS (c :: r) = if r.length + 1 < 4 then (-1, 1) else restS c r) ∨
    (128 ≤ c.toNat ∧ (c.toNat < 192 ∨ 248 ≤ c.toNat) ∧ nextS (c :: r) = (-1, 1)) := by
  rw [nextS_cons]
  by_cases h0 : c.toNat < 128
  · left; rw [if_pos h0]; exact ⟨h0, rfl⟩
  right
  rw [if_neg h0]
  by_cases h2 : 192 ≤ c.toNat ∧ c.toNat < 224
  · left
    have hs : sizeB c = 2 := by unfold sizeB; rw [if_pos h2]
    refine ⟨h2.1, h2.2, hs, by unfold headB; rw [if_pos h2.2], by rw [hs]; rfl, ?_⟩
    rw [hs]
    by_cases h : r.length + 1 < 2
    · rw [if_pos (.inr h), if_pos h]
    · rw [if_neg (by omega), if_neg h]
  right
  by_cases h3 : 224 ≤ c.toNat ∧ c.toNat < 240
  · left
    have hs : sizeB c = 3 := by unfold sizeB; rw [if_neg h2, if_pos h3]
    refine ⟨h3.1, h3.2, hs, by unfold headB; rw [if_neg (by omega), if_pos h3.2], by rw [hs]; rfl, ?_⟩
    rw [hs]
    by_cases h : r.length + 1 < 3
    · rw [if_pos (.inr h), if_pos h]
    · rw [if_neg (by omega), if_neg h]
  right
  by_cases h4 : 240 ≤ c.toNat ∧ c.toNat < 248
  · left
    have hs : sizeB c = 4 := by unfold sizeB; rw [if_neg h2, if_neg h3, if_pos h4]
    refine ⟨h4.1, h4.2, hs, by unfold headB; rw [if_neg (by omega), if_neg (by omega)], by rw [hs]; unfold leastB; rw [if_neg (by omega), if_neg (by omega), if_pos rfl], ?_⟩
    rw [hs]
    by_cases h : r.length + 1 < 4
    · rw [if_pos (.inr h), if_pos h]
    · rw [if_neg (by omega), if_neg h]
  · right
    have hs : sizeB c = 0 := by unfold sizeB; rw [if_neg h2, if_neg h3, if_neg h4]
    rw [if_pos (.inl hs)]
    exact ⟨by omega, by omega, rfl⟩

theorem all_one (a : UInt8) : ([a].all cont = false) ↔ ¬ (128 ≤ a.toNat ∧ a.toNat < 192) := by simp [cont_no]
theorem all_two (a b : UInt8) : ([a, b].all cont = false) ↔ ¬ ((128 ≤ a.toNat ∧ a.toNat < 192) ∧ (128 ≤ b.toNat ∧ b.toNat < 192)) := by
  rw [← cont_iff a, ← cont_iff b]; cases h1 : cont a <;> cases h2 : cont b <;> simp [h1, h2]
theorem all_three (a b d : UInt8) : ([a, b, d].all cont = false) ↔ ¬ ((128 ≤ a.toNat ∧ a.toNat < 192) ∧ (128 ≤ b.toNat ∧ b.toNat < 192) ∧ (128 ≤ d.toNat ∧ d.toNat < 192)) := by
  rw [← cont_iff a, ← cont_iff b, ← cont_iff d]; cases h1 : cont a <;> cases h2 : cont b <;> cases h3 : cont d <;> simp [h1, h2, h3]

/-- The document's answer is the program's. -/
theorem try_next (l : List UInt8) : (if l.length = 0 then (-1, 0) else tryS l 1) = nextS l := by
  cases l with
  | nil => rfl
  | cons c r =>
    have hlt := c.toNat_lt
    rw [if_neg (by simp), try_1, if_pos (by simp), show valS (c :: r) 1 = c.toNat from rfl, show (c :: r).take 1 = [c] from rfl]
    have p1 := put_one_iff c
    match r with
    | [] =>
      rw [try_2n _ (by simp)]
      rcases next_class c [] with ⟨k1, k2⟩ | ⟨k1, k2, _, _, _, k3⟩ | ⟨k1, k2, _, _, _, k3⟩ | ⟨k1, k2, _, _, _, k3⟩ | ⟨k1, k2, k3⟩
      · rw [k2, if_pos (p1.2 k1)]
      · rw [if_pos (by simp)] at k3
        rw [k3, if_neg (fun e => by have := p1.1 e; omega)]
      · rw [if_pos (by simp)] at k3
        rw [k3, if_neg (fun e => by have := p1.1 e; omega)]
      · rw [if_pos (by simp)] at k3
        rw [k3, if_neg (fun e => by have := p1.1 e; omega)]
      · rw [k3, if_neg (fun e => by have := p1.1 e; omega)]
    | a :: r2 =>
      have ha := a.toNat_lt
      have p2 := put_two (c.toNat % 32 * 64 + a.toNat % 64) c a (by omega)
      rw [try_2y _ (by simp), show valS (c :: a :: r2) 2 = c.toNat % 32 * 64 + a.toNat % 64 from rfl, show (c :: a :: r2).take 2 = [c, a] from rfl]
      have hc2 : 192 ≤ c.toNat ∧ c.toNat < 224 → sizeB c = 2 → headB c = c.toNat % 32 → leastB (sizeB c) = 128 → restS c (a :: r2) = if putS ((c.toNat % 32 * 64 + a.toNat % 64 : Nat) : Int) = [c, a] then (((c.toNat % 32 * 64 + a.toNat % 64 : Nat) : Int), 2) else (-1, 1) := by
        intro h hs hh hl
        rw [restS_def c (a :: r2) [a] (by rw [hs]; rfl) (c.toNat % 32 * 64 + a.toNat % 64) 128 (by rw [hh]; rfl) hl, hs]
        by_cases hp : putS ((c.toNat % 32 * 64 + a.toNat % 64 : Nat) : Int) = [c, a]
        · rw [if_pos hp]
          have := p2.1 hp
          rw [if_neg (by rw [all_one]; omega), if_neg (by rw [rightB_no]; omega)]; rfl
        · rw [if_neg hp]
          have hn := fun h => hp (p2.2 h)
          by_cases h1 : [a].all cont = false
          · rw [if_pos h1]
          · rw [if_neg h1]
            rw [all_one] at h1
            rw [if_pos (.inl (by apply Classical.byContradiction; intro hlt2; exact hn ⟨by omega, by omega, by omega⟩))]
      match r2 with
      | [] =>
        rw [try_3n _ (by simp)]
        rcases next_class c [a] with ⟨k1, k2⟩ | ⟨k1, k2, k4, k5, k6, k3⟩ | ⟨k1, k2, _, _, _, k3⟩ | ⟨k1, k2, _, _, _, k3⟩ | ⟨k1, k2, k3⟩
        · rw [k2, if_pos (p1.2 k1)]
        · rw [if_neg (by simp)] at k3
          rw [k3, if_neg (fun e => by have := p1.1 e; omega), hc2 ⟨k1, k2⟩ k4 k5 k6]
        · rw [if_pos (by simp)] at k3
          rw [k3, if_neg (fun e => by have := p1.1 e; omega), if_neg (fun e => by have := p2.1 e; omega)]
        · rw [if_pos (by simp)] at k3
          rw [k3, if_neg (fun e => by have := p1.1 e; omega), if_neg (fun e => by have := p2.1 e; omega)]
        · rw [k3, if_neg (fun e => by have := p1.1 e; omega), if_neg (fun e => by have := p2.1 e; omega)]
      | b :: r3 =>
        have hb := b.toNat_lt
        have p3 := put_three ((c.toNat % 16 * 64 + a.toNat % 64) * 64 + b.toNat % 64) c a b (by omega)
        rw [try_3y _ (by simp), show valS (c :: a :: b :: r3) 3 = (c.toNat % 16 * 64 + a.toNat % 64) * 64 + b.toNat % 64 from rfl, show (c :: a :: b :: r3).take 3 = [c, a, b] from rfl]
        have hc3 : 224 ≤ c.toNat ∧ c.toNat < 240 → sizeB c = 3 → headB c = c.toNat % 16 → leastB (sizeB c) = 2048 → restS c (a :: b :: r3) = if putS (((c.toNat % 16 * 64 + a.toNat % 64) * 64 + b.toNat % 64 : Nat) : Int) = [c, a, b] then ((((c.toNat % 16 * 64 + a.toNat % 64) * 64 + b.toNat % 64 : Nat) : Int), 3) else (-1, 1) := by
          intro h hs hh hl
          rw [restS_def c (a :: b :: r3) [a, b] (by rw [hs]; rfl) ((c.toNat % 16 * 64 + a.toNat % 64) * 64 + b.toNat % 64) 2048 (by rw [hh]; rfl) hl, hs]
          by_cases hp : putS (((c.toNat % 16 * 64 + a.toNat % 64) * 64 + b.toNat % 64 : Nat) : Int) = [c, a, b]
          · rw [if_pos hp]
            obtain ⟨q1, q2, q3, q4, q5⟩ := p3.1 hp
            rw [if_neg (by rw [all_two]; omega), if_neg (by rw [q2]; simp only [Bool.true_eq_false, or_false]; omega)]; rfl
          · rw [if_neg hp]
            have hn := fun h => hp (p3.2 h)
            by_cases h1 : [a, b].all cont = false
            · rw [if_pos h1]
            · rw [if_neg h1]
              rw [all_two] at h1
              by_cases hr : rightB (((c.toNat % 16 * 64 + a.toNat % 64) * 64 + b.toNat % 64 : Nat) : Int) = true
              · rw [if_pos (.inl (by apply Classical.byContradiction; intro hlt2; exact hn ⟨by omega, hr, by omega, by omega, by omega⟩))]
              · rw [if_pos (.inr (by simpa using hr))]
        match r3 with
        | [] =>
          rw [try_4n _ (by simp)]
          rcases next_class c [a, b] with ⟨k1, k2⟩ | ⟨k1, k2, k4, k5, k6, k3⟩ | ⟨k1, k2, k4, k5, k6, k3⟩ | ⟨k1, k2, _, _, _, k3⟩ | ⟨k1, k2, k3⟩
          · rw [k2, if_pos (p1.2 k1)]
          · rw [if_neg (by simp)] at k3
            have n3 : ¬ (putS _ = [c, a, b]) := fun e => by have := p3.1 e; omega
            rw [k3, if_neg (fun e => by have := p1.1 e; omega), hc2 ⟨k1, k2⟩ k4 k5 k6, if_neg n3]
          · rw [if_neg (by simp)] at k3
            rw [k3, if_neg (fun e => by have := p1.1 e; omega), if_neg (fun e => by have := p2.1 e; omega), hc3 ⟨k1, k2⟩ k4 k5 k6]
          · rw [if_pos (by simp)] at k3
            rw [k3, if_neg (fun e => by have := p1.1 e; omega), if_neg (fun e => by have := p2.1 e; omega), if_neg (fun e => by have := p3.1 e; omega)]
          · rw [k3, if_neg (fun e => by have := p1.1 e; omega), if_neg (fun e => by have := p2.1 e; omega), if_neg (fun e => by have := p3.1 e; omega)]
        | d :: r4 =>
          have hd := d.toNat_lt
          have p4 := put_four (((c.toNat % 8 * 64 + a.toNat % 64) * 64 + b.toNat % 64) * 64 + d.toNat % 64) c a b d (by omega)
          rw [try_4y _ (by simp), show valS (c :: a :: b :: d :: r4) 4 = ((c.toNat % 8 * 64 + a.toNat % 64) * 64 + b.toNat % 64) * 64 + d.toNat % 64 from rfl, show (c :: a :: b :: d :: r4).take 4 = [c, a, b, d] from rfl]
          have hc4 : 240 ≤ c.toNat ∧ c.toNat < 248 → sizeB c = 4 → headB c = c.toNat % 8 → leastB (sizeB c) = 65536 → restS c (a :: b :: d :: r4) = if putS ((((c.toNat % 8 * 64 + a.toNat % 64) * 64 + b.toNat % 64) * 64 + d.toNat % 64 : Nat) : Int) = [c, a, b, d] then (((((c.toNat % 8 * 64 + a.toNat % 64) * 64 + b.toNat % 64) * 64 + d.toNat % 64 : Nat) : Int), 4) else (-1, 1) := by
            intro h hs hh hl
            rw [restS_def c (a :: b :: d :: r4) [a, b, d] (by rw [hs]; rfl) (((c.toNat % 8 * 64 + a.toNat % 64) * 64 + b.toNat % 64) * 64 + d.toNat % 64) 65536 (by rw [hh]; rfl) hl, hs]
            by_cases hp : putS ((((c.toNat % 8 * 64 + a.toNat % 64) * 64 + b.toNat % 64) * 64 + d.toNat % 64 : Nat) : Int) = [c, a, b, d]
            · rw [if_pos hp]
              obtain ⟨q1, q2, q3, q4, q5, q6⟩ := p4.1 hp
              rw [if_neg (by rw [all_three]; omega), if_neg (by rw [q2]; simp only [Bool.true_eq_false, or_false]; omega)]; rfl
            · rw [if_neg hp]
              have hn := fun h => hp (p4.2 h)
              by_cases h1 : [a, b, d].all cont = false
              · rw [if_pos h1]
              · rw [if_neg h1]
                rw [all_three] at h1
                by_cases hr : rightB ((((c.toNat % 8 * 64 + a.toNat % 64) * 64 + b.toNat % 64) * 64 + d.toNat % 64 : Nat) : Int) = true
                · rw [if_pos (.inl (by apply Classical.byContradiction; intro hlt2; exact hn ⟨by omega, hr, by omega, by omega, by omega, by omega⟩))]
                · rw [if_pos (.inr (by simpa using hr))]
          rcases next_class c (a :: b :: d :: r4) with ⟨k1, k2⟩ | ⟨k1, k2, k4, k5, k6, k3⟩ | ⟨k1, k2, k4, k5, k6, k3⟩ | ⟨k1, k2, k4, k5, k6, k3⟩ | ⟨k1, k2, k3⟩
          · rw [k2, if_pos (p1.2 k1)]
          · rw [if_neg (by simp)] at k3
            have n3 : ¬ (putS _ = [c, a, b]) := fun e => by have := p3.1 e; omega
            have n4 : ¬ (putS _ = [c, a, b, d]) := fun e => by have := p4.1 e; omega
            rw [k3, if_neg (fun e => by have := p1.1 e; omega), hc2 ⟨k1, k2⟩ k4 k5 k6, if_neg n3, if_neg n4]
          · rw [if_neg (by simp)] at k3
            have n4 : ¬ (putS _ = [c, a, b, d]) := fun e => by have := p4.1 e; omega
            rw [k3, if_neg (fun e => by have := p1.1 e; omega), if_neg (fun e => by have := p2.1 e; omega), hc3 ⟨k1, k2⟩ k4 k5 k6, if_neg n4]
          · rw [if_neg (by simp)] at k3
            rw [k3, if_neg (fun e => by have := p1.1 e; omega), if_neg (fun e => by have := p2.1 e; omega), if_neg (fun e => by have := p3.1 e; omega), hc4 ⟨k1, k2⟩ k4 k5 k6]
          · rw [k3, if_neg (fun e => by have := p1.1 e; omega), if_neg (fun e => by have := p2.1 e; omega), if_neg (fun e => by have := p3.1 e; omega), if_neg (fun e => by have := p4.1 e; omega)]
end Go.Proofs.YtgdbjkkanjgbnaaDoor

namespace Go.Proofs.YtgdbjkkanjgbnaaDoor
open Go.RowKit
set_option linter.unusedVariables false

/-- The table of the least letters, as it is laid. -/
def LeastAt (w : World) : Prop := w.cell? ⟨1, 2, none⟩ = some (.int .i64 128) ∧ w.cell? ⟨1, 3, none⟩ = some (.int .i64 2048) ∧ w.cell? ⟨1, 4, none⟩ = some (.int .i64 65536)
/-- A slice that reads as bytes. -/
def BytesAt (w : World) (a : Option Addr) (len cap : Nat) (l : List UInt8) : Prop :=
  len = l.length ∧ len ≤ cap ∧ (l = [] ∨ ∃ b o, a = some ⟨b, o, none⟩ ∧ ∀ i, i < l.length → w.cell? ⟨b, o + i, none⟩ = some (cellOf (l.getD i 0)))
theorem rightB_false (n : Int) (h : ¬ (0 ≤ n ∧ n ≤ 1114111 ∧ (n < 55296 ∨ 57343 < n))) : rightB n = false := by rw [← Bool.not_eq_true, rightB_iff]; exact h

def RBPost (b : Bool) (w : World) (e : Ending) (w' : World) : Prop := e = .returned (.bool b) ∧ w = w'
theorem RBPost.mk {b c : Bool} {w : World} (h : b = c) : RBPost b w (.returned (.bool c)) w := ⟨by rw [h], rfl⟩

set_option maxHeartbeats 1000000 in
theorem right_any (n : Int) (w : World) : Calls Tryd.prog 53 #[.int .i64 n] w (RBPost (rightB n) w) := by
  obtain ⟨b, hb⟩ : ∃ b, rightB n = b := ⟨_, rfl⟩
  rw [hb]
  have HB := hid hb
  clear hb
  go_enter Tryd.func53, Tryd.ntmps53
  go_wp2_with (fail)
  all_goals
    go_ret
    refine RBPost.mk ?_
    rw [← HB.out]
    first
    | (rw [Bool.eq_iff_iff, rightB_iff]; simp; omega)
    | (apply rightB_false; omega)

/-- What Next's call comes to. -/
def NextPost (l : List UInt8) (w : World) (e : Ending) (w' : World) : Prop := e = .returned (.tuple #[.int .i64 (nextS l).1, .int .i64 (nextS l).2]) ∧ w = w'
theorem NextPost.mk {l : List UInt8} {w : World} {x n : Int} (h : nextS l = (x, n)) : NextPost l w (.returned (.tuple #[.int .i64 x, .int .i64 n])) w := ⟨by rw [h], rfl⟩

set_option maxHeartbeats 1000000 in
theorem next_nil (a : Option Addr) (len cap : Nat) (w : World) (h : len = 0) : Calls Tryd.prog 43 #[.slice a len cap] w (NextPost [] w) := by
  subst h
  go_enter Tryd.func43, Tryd.ntmps43
  go_wp2_with (fail)
  go_ret2
  exact NextPost.mk rfl

set_option maxRecDepth 100000 in
set_option maxHeartbeats 1000000 in
theorem next_short (b o len cap : Nat) (c : UInt8) (r : List UInt8) (w : World) (hlen : 0 < len) (h0 : w.cell? ⟨b, o, none⟩ = some (.int .u8 (c.toNat : Int))) (hr : len = r.length + 1)
    (hc : c.toNat < 128 ∨ (128 ≤ c.toNat ∧ (sizeB c = 0 ∨ r.length + 1 < sizeB c))) : Calls Tryd.prog 43 #[.slice (some ⟨b, o, none⟩) len cap] w (NextPost (c :: r) w) := by
  have h00 : ((len : Int) == 0) = false := by simp; omega
  have h0i : (0 : Int) < (len : Int) := by omega
  rcases hc with hc | ⟨hc, hs⟩
  · have HF : Hid (nextS (c :: r) = ((c.toNat : Int), 1)) := by rw [nextS_cons, if_pos hc]; rfl
    go_enter Tryd.func43, Tryd.ntmps43
    go_wp2_with (fail)
    go_ret2
    exact NextPost.mk HF.out
  · have HF : Hid (nextS (c :: r) = (-1, 1)) := by rw [nextS_cons, if_neg (by omega), if_pos hs]; rfl
    have h31 := and31 c
    have h15 := and15 c
    have h7 := and7 c
    have HR := hid hr
    clear hr
    unfold sizeB at hs
    by_cases c1 : 192 ≤ c.toNat ∧ c.toNat < 224
    · rw [if_pos c1] at hs
      have hl2 : (len : Int) < 2 := by have := HR.out; omega
      obtain ⟨c2, c3⟩ := c1
      clear hs
      go_enter Tryd.func43, Tryd.ntmps43
      go_wp2_with (fail)
      go_ret2
      exact NextPost.mk HF.out
    · rw [if_neg c1] at hs
      by_cases c2 : 224 ≤ c.toNat ∧ c.toNat < 240
      · rw [if_pos c2] at hs
        have hl2 : (len : Int) < 3 := by have := HR.out; omega
        obtain ⟨c2, c3⟩ := c2
        clear hs c1
        go_enter Tryd.func43, Tryd.ntmps43
        go_wp2_with (fail)
        go_ret2
        exact NextPost.mk HF.out
      · rw [if_neg c2] at hs
        by_cases c3 : 240 ≤ c.toNat ∧ c.toNat < 248
        · rw [if_pos c3] at hs
          have hl2 : (len : Int) < 4 := by have := HR.out; omega
          obtain ⟨c4, c5⟩ := c3
          clear hs c1 c2
          go_enter Tryd.func43, Tryd.ntmps43
          go_wp2_with (fail)
          go_ret2
          exact NextPost.mk HF.out
        · have hlt := c.toNat_lt
          clear hs
          by_cases c4 : c.toNat < 192
          · clear c1 c2 c3
            go_enter Tryd.func43, Tryd.ntmps43
            go_wp2_with (fail)
            go_ret2
            exact NextPost.mk HF.out
          · have c5 : 248 ≤ c.toNat := by omega
            clear c1 c2 c3 c4
            go_enter Tryd.func43, Tryd.ntmps43
            go_wp2_with (fail)
            go_ret2
            exact NextPost.mk HF.out

/-- The loop's relation: k bytes go on, and the letter so far. -/
def NextRel (c : UInt8) (r : List UInt8) (sz : Nat) (v s i : Value) : Prop := ∃ k x : Nat, k + 1 ≤ sz ∧ s = .int .i64 sz ∧ i = .int .i64 k ∧ v = .int .i64 (x : Int) ∧ x = accB (headB c) (r.take k) ∧ x < 2 ^ (5 + 6 * k) ∧ ∀ j, j < k → cont (r.getD j 0) = true
theorem least_2 : leastB 2 = 128 := rfl
theorem least_3 : leastB 3 = 2048 := rfl
theorem least_4 : leastB 4 = 65536 := by unfold leastB; rw [if_neg (by omega), if_neg (by omega), if_pos rfl]
theorem headB_lt (c : UInt8) : headB c < 2 ^ 5 := by unfold headB; split <;> (try split) <;> omega
theorem cont_step (c : UInt8) (r : List UInt8) (k x : Nat) (hk : k < r.length) (hx : x = accB (headB c) (r.take k)) : x * 64 + (r.getD k 0).toNat % 64 = accB (headB c) (r.take (k + 1)) := by
  rw [accB_snoc _ _ _ hk, hx]
theorem all_no (r : List UInt8) (n k : Nat) (hk : k < n) (hn : n ≤ r.length) (h : cont (r.getD k 0) = false) : (r.take n).all cont = false := by
  rw [← Bool.not_eq_true, List.all_eq_true]
  intro hall
  have := hall (r.getD k 0) (by
    rw [List.mem_take_iff_getElem]
    exact ⟨k, by omega, by rw [List.getD_eq_getElem?_getD, List.getElem?_eq_getElem (by omega)]; rfl⟩)
  rw [h] at this; cases this
theorem all_yes (r : List UInt8) (n : Nat) (hn : n ≤ r.length) (h : ∀ j, j < n → cont (r.getD j 0) = true) : (r.take n).all cont = true := by
  rw [List.all_eq_true]
  intro x hx
  obtain ⟨k, hk, rfl⟩ := List.mem_take_iff_getElem.1 hx
  have := h k (by omega)
  rwa [List.getD_eq_getElem?_getD, List.getElem?_eq_getElem (by omega)] at this

set_option maxRecDepth 100000 in
set_option maxHeartbeats 4000000 in
theorem next_2 (b o len cap : Nat) (c : UInt8) (r : List UInt8) (w : World) (hL : LeastAt w) (h0 : w.cell? ⟨b, o, none⟩ = some (.int .u8 (c.toNat : Int))) (hr : len = r.length + 1) (hcap : len ≤ cap)
    (hcell : ∀ i, i < r.length → w.cell? ⟨b, o + 1 + i, none⟩ = some (cellOf (r.getD i 0))) (c1 : 192 ≤ c.toNat) (c2 : c.toNat < 224) (hlen : 2 ≤ len) :
    Calls Tryd.prog 43 #[.slice (some ⟨b, o, none⟩) len cap] w (NextPost (c :: r) w) := by
  have hleast := hL.1
  have h00 : ((len : Int) == 0) = false := by simp; omega
  have h0i : (0 : Int) < (len : Int) := by omega
  have hli : (2 : Int) ≤ (len : Int) := by omega
  have hcapi : 2 ≤ cap := by omega
  have hmask := and31 c
  have hhead : Hid (headB c = c.toNat % 32) := by unfold headB; rw [if_pos (by omega)]; rfl
  have hsz : sizeB c = 2 := by unfold sizeB; rw [if_pos ⟨c1, c2⟩]
  have hN : Hid (nextS (c :: r) = restS c r) := by rw [nextS_cons, if_neg (by omega), if_neg (by omega)]; rfl
  have HSZ := hid hsz
  have HL := hid hL
  have HC := hid hcell
  have HR := hid hr
  clear hsz hL hcell hr
  go_enter Tryd.func43, Tryd.ntmps43
  go_wp2_with (fail)
  go_loop [2, 3, 57] (fun v s i => NextRel c r 2 v s i) (fun _ _ i => 2 - (intOf i).toNat)
  case atStart => exact ⟨0, c.toNat % 32, by omega, rfl, rfl, by first | rfl | (congr 1; omega), by rw [hhead.out]; rfl, by have := headB_lt c; rw [hhead.out] at this; omega, fun j hj => absurd hj (Nat.not_lt_zero j)⟩
  case round =>
    obtain ⟨k, x, hk, rfl, rfl, rfl, hx, hxl, hall⟩ := hrel
    have hx40 : x < 1099511627776 := by
      have : (2 : Nat) ^ (5 + 6 * k) ≤ 2 ^ 40 := Nat.pow_le_pow_right (by omega) (by omega)
      omega
    have HX := hid hx
    have HA := hid hall
    have HXL := hid hxl
    clear hx hall hxl
    by_cases hlt : k < 1
    · have hkr : k < r.length := by have := HR.out; omega
      have hck := HC.out k hkr
      rw [cellOf_def] at hck
      obtain ⟨y, hy⟩ : ∃ y, r.getD k 0 = y := ⟨_, rfl⟩
      rw [hy] at hck
      have HY := hid hy
      have h63 := and63 y
      have hcb := cont_bits y
      have hor := or64 x y.toNat hx40
      have hlti : (k : Int) < 1 := by omega
      have HK := hid hkr
      clear hy hkr
      cases hct : cont y with
      | false =>
        rw [hct] at hcb
        have HF : Hid (restS c r = (-1, 1)) := by
          have := all_no r 1 k hlt (by have := HR.out; omega) (by rw [HY.out]; exact hct)
          unfold restS; rw [HSZ.out]; rw [if_pos this]; rfl
        clear hct
        go_wp2_with (fail)
        go_ret2
        exact NextPost.mk (by rw [hN.out, HF.out])
      | true =>
        rw [hct] at hcb
        have HCT := hid hct
        clear hct
        go_wp2_with (fail)
        refine ⟨⟨k + 1, x * 64 + y.toNat % 64, by omega, rfl, by go_num, by first | rfl | (congr 1; omega), ?_, ?_, fun j hj => ?_⟩, by simp [intOf]; omega⟩
        · rw [← HY.out]; exact cont_step c r k x HK.out HX.out
        · have h1 := HXL.out
          rw [show 5 + 6 * (k + 1) = 5 + 6 * k + 6 by omega, Nat.pow_add]; omega
        · by_cases e : j = k
          · subst e; rw [HY.out]; exact HCT.out
          · exact HA.out j (by omega)
    · have hke : k = 1 := by omega
      subst hke
      have hall := all_yes r 1 (by have := HR.out; omega) HA.out
      have HALL := hid hall
      clear hall hlt
      by_cases hmin : x < 128
      · have HF : Hid (restS c r = (-1, 1)) := by
          unfold restS; rw [HSZ.out, if_neg (by rw [HALL.out]; simp), ← HX.out, if_pos (.inl (by rw [least_2]; exact hmin))]; rfl
        go_wp2_with (go_at_call 53; refine (right_any _ _).mono ?_; rintro e w' ⟨rfl, rfl⟩)
        go_ret2
        exact NextPost.mk (by rw [hN.out, HF.out])
      · have hbm : decide ((x : Int) < 128) = false := decide_eq_false (by omega)
        have HMIN := hid hmin
        clear hmin
        cases hrt : rightB (x : Int) with
        | false =>
          have HF : Hid (restS c r = (-1, 1)) := by
            unfold restS; rw [HSZ.out, if_neg (by rw [HALL.out]; simp), ← HX.out, if_pos (.inr hrt)]; rfl
          go_wp2_with (go_at_call 53; refine (right_any _ _).mono ?_; rintro e w' ⟨rfl, rfl⟩)
          go_ret2
          exact NextPost.mk (by rw [hN.out, HF.out])
        | true =>
          have HF : Hid (restS c r = ((x : Int), 2)) := by
            unfold restS; rw [HSZ.out, if_neg (by rw [HALL.out]; simp), ← HX.out, if_neg (by rw [hrt, least_2]; simp only [Bool.true_eq_false, or_false]; exact HMIN.out)]; rfl
          go_wp2_with (go_at_call 53; refine (right_any _ _).mono ?_; rintro e w' ⟨rfl, rfl⟩)
          go_ret2
          exact NextPost.mk (by rw [hN.out, HF.out])

set_option maxRecDepth 100000 in
set_option maxHeartbeats 4000000 in
theorem next_3 (b o len cap : Nat) (c : UInt8) (r : List UInt8) (w : World) (hL : LeastAt w) (h0 : w.cell? ⟨b, o, none⟩ = some (.int .u8 (c.toNat : Int))) (hr : len = r.length + 1) (hcap : len ≤ cap)
    (hcell : ∀ i, i < r.length → w.cell? ⟨b, o + 1 + i, none⟩ = some (cellOf (r.getD i 0))) (c1 : 224 ≤ c.toNat) (c2 : c.toNat < 240) (hlen : 3 ≤ len) :
    Calls Tryd.prog 43 #[.slice (some ⟨b, o, none⟩) len cap] w (NextPost (c :: r) w) := by
  have hleast := hL.2.1
  have h00 : ((len : Int) == 0) = false := by simp; omega
  have h0i : (0 : Int) < (len : Int) := by omega
  have hli : (3 : Int) ≤ (len : Int) := by omega
  have hcapi : 3 ≤ cap := by omega
  have hmask := and15 c
  have hhead : Hid (headB c = c.toNat % 16) := by unfold headB; rw [if_neg (by omega), if_pos (by omega)]; rfl
  have hsz : sizeB c = 3 := by unfold sizeB; rw [if_neg (by omega), if_pos ⟨c1, c2⟩]
  have hN : Hid (nextS (c :: r) = restS c r) := by rw [nextS_cons, if_neg (by omega), if_neg (by omega)]; rfl
  have HSZ := hid hsz
  have HL := hid hL
  have HC := hid hcell
  have HR := hid hr
  clear hsz hL hcell hr
  go_enter Tryd.func43, Tryd.ntmps43
  go_wp2_with (fail)
  go_loop [2, 3, 57] (fun v s i => NextRel c r 3 v s i) (fun _ _ i => 3 - (intOf i).toNat)
  case atStart => exact ⟨0, c.toNat % 16, by omega, rfl, rfl, by first | rfl | (congr 1; omega), by rw [hhead.out]; rfl, by have := headB_lt c; rw [hhead.out] at this; omega, fun j hj => absurd hj (Nat.not_lt_zero j)⟩
  case round =>
    obtain ⟨k, x, hk, rfl, rfl, rfl, hx, hxl, hall⟩ := hrel
    have hx40 : x < 1099511627776 := by
      have : (2 : Nat) ^ (5 + 6 * k) ≤ 2 ^ 40 := Nat.pow_le_pow_right (by omega) (by omega)
      omega
    have HX := hid hx
    have HA := hid hall
    have HXL := hid hxl
    clear hx hall hxl
    by_cases hlt : k < 2
    · have hkr : k < r.length := by have := HR.out; omega
      have hck := HC.out k hkr
      rw [cellOf_def] at hck
      obtain ⟨y, hy⟩ : ∃ y, r.getD k 0 = y := ⟨_, rfl⟩
      rw [hy] at hck
      have HY := hid hy
      have h63 := and63 y
      have hcb := cont_bits y
      have hor := or64 x y.toNat hx40
      have hlti : (k : Int) < 2 := by omega
      have HK := hid hkr
      clear hy hkr
      cases hct : cont y with
      | false =>
        rw [hct] at hcb
        have HF : Hid (restS c r = (-1, 1)) := by
          have := all_no r 2 k hlt (by have := HR.out; omega) (by rw [HY.out]; exact hct)
          unfold restS; rw [HSZ.out]; rw [if_pos this]; rfl
        clear hct
        go_wp2_with (fail)
        go_ret2
        exact NextPost.mk (by rw [hN.out, HF.out])
      | true =>
        rw [hct] at hcb
        have HCT := hid hct
        clear hct
        go_wp2_with (fail)
        refine ⟨⟨k + 1, x * 64 + y.toNat % 64, by omega, rfl, by go_num, by first | rfl | (congr 1; omega), ?_, ?_, fun j hj => ?_⟩, by simp [intOf]; omega⟩
        · rw [← HY.out]; exact cont_step c r k x HK.out HX.out
        · have h1 := HXL.out
          rw [show 5 + 6 * (k + 1) = 5 + 6 * k + 6 by omega, Nat.pow_add]; omega
        · by_cases e : j = k
          · subst e; rw [HY.out]; exact HCT.out
          · exact HA.out j (by omega)
    · have hke : k = 2 := by omega
      subst hke
      have hall := all_yes r 2 (by have := HR.out; omega) HA.out
      have HALL := hid hall
      clear hall hlt
      by_cases hmin : x < 2048
      · have HF : Hid (restS c r = (-1, 1)) := by
          unfold restS; rw [HSZ.out, if_neg (by rw [HALL.out]; simp), ← HX.out, if_pos (.inl (by rw [least_3]; exact hmin))]; rfl
        go_wp2_with (go_at_call 53; refine (right_any _ _).mono ?_; rintro e w' ⟨rfl, rfl⟩)
        go_ret2
        exact NextPost.mk (by rw [hN.out, HF.out])
      · have hbm : decide ((x : Int) < 2048) = false := decide_eq_false (by omega)
        have HMIN := hid hmin
        clear hmin
        cases hrt : rightB (x : Int) with
        | false =>
          have HF : Hid (restS c r = (-1, 1)) := by
            unfold restS; rw [HSZ.out, if_neg (by rw [HALL.out]; simp), ← HX.out, if_pos (.inr hrt)]; rfl
          go_wp2_with (go_at_call 53; refine (right_any _ _).mono ?_; rintro e w' ⟨rfl, rfl⟩)
          go_ret2
          exact NextPost.mk (by rw [hN.out, HF.out])
        | true =>
          have HF : Hid (restS c r = ((x : Int), 3)) := by
            unfold restS; rw [HSZ.out, if_neg (by rw [HALL.out]; simp), ← HX.out, if_neg (by rw [hrt, least_3]; simp only [Bool.true_eq_false, or_false]; exact HMIN.out)]; rfl
          go_wp2_with (go_at_call 53; refine (right_any _ _).mono ?_; rintro e w' ⟨rfl, rfl⟩)
          go_ret2
          exact NextPost.mk (by rw [hN.out, HF.out])

set_option maxRecDepth 100000 in
set_option maxHeartbeats 4000000 in
theorem next_4 (b o len cap : Nat) (c : UInt8) (r : List UInt8) (w : World) (hL : LeastAt w) (h0 : w.cell? ⟨b, o, none⟩ = some (.int .u8 (c.toNat : Int))) (hr : len = r.length + 1) (hcap : len ≤ cap)
    (hcell : ∀ i, i < r.length → w.cell? ⟨b, o + 1 + i, none⟩ = some (cellOf (r.getD i 0))) (c1 : 240 ≤ c.toNat) (c2 : c.toNat < 248) (hlen : 4 ≤ len) :
    Calls Tryd.prog 43 #[.slice (some ⟨b, o, none⟩) len cap] w (NextPost (c :: r) w) := by
  have hleast := hL.2.2
  have h00 : ((len : Int) == 0) = false := by simp; omega
  have h0i : (0 : Int) < (len : Int) := by omega
  have hli : (4 : Int) ≤ (len : Int) := by omega
  have hcapi : 4 ≤ cap := by omega
  have hmask := and7 c
  have hhead : Hid (headB c = c.toNat % 8) := by unfold headB; rw [if_neg (by omega), if_neg (by omega)]; rfl
  have hsz : sizeB c = 4 := by unfold sizeB; rw [if_neg (by omega), if_neg (by omega), if_pos ⟨c1, c2⟩]
  have hN : Hid (nextS (c :: r) = restS c r) := by rw [nextS_cons, if_neg (by omega), if_neg (by omega)]; rfl
  have HSZ := hid hsz
  have HL := hid hL
  have HC := hid hcell
  have HR := hid hr
  clear hsz hL hcell hr
  go_enter Tryd.func43, Tryd.ntmps43
  go_wp2_with (fail)
  go_loop [2, 3, 57] (fun v s i => NextRel c r 4 v s i) (fun _ _ i => 4 - (intOf i).toNat)
  case atStart => exact ⟨0, c.toNat % 8, by omega, rfl, rfl, by first | rfl | (congr 1; omega), by rw [hhead.out]; rfl, by have := headB_lt c; rw [hhead.out] at this; omega, fun j hj => absurd hj (Nat.not_lt_zero j)⟩
  case round =>
    obtain ⟨k, x, hk, rfl, rfl, rfl, hx, hxl, hall⟩ := hrel
    have hx40 : x < 1099511627776 := by
      have : (2 : Nat) ^ (5 + 6 * k) ≤ 2 ^ 40 := Nat.pow_le_pow_right (by omega) (by omega)
      omega
    have HX := hid hx
    have HA := hid hall
    have HXL := hid hxl
    clear hx hall hxl
    by_cases hlt : k < 3
    · have hkr : k < r.length := by have := HR.out; omega
      have hck := HC.out k hkr
      rw [cellOf_def] at hck
      obtain ⟨y, hy⟩ : ∃ y, r.getD k 0 = y := ⟨_, rfl⟩
      rw [hy] at hck
      have HY := hid hy
      have h63 := and63 y
      have hcb := cont_bits y
      have hor := or64 x y.toNat hx40
      have hlti : (k : Int) < 3 := by omega
      have HK := hid hkr
      clear hy hkr
      cases hct : cont y with
      | false =>
        rw [hct] at hcb
        have HF : Hid (restS c r = (-1, 1)) := by
          have := all_no r 3 k hlt (by have := HR.out; omega) (by rw [HY.out]; exact hct)
          unfold restS; rw [HSZ.out]; rw [if_pos this]; rfl
        clear hct
        go_wp2_with (fail)
        go_ret2
        exact NextPost.mk (by rw [hN.out, HF.out])
      | true =>
        rw [hct] at hcb
        have HCT := hid hct
        clear hct
        go_wp2_with (fail)
        refine ⟨⟨k + 1, x * 64 + y.toNat % 64, by omega, rfl, by go_num, by first | rfl | (congr 1; omega), ?_, ?_, fun j hj => ?_⟩, by simp [intOf]; omega⟩
        · rw [← HY.out]; exact cont_step c r k x HK.out HX.out
        · have h1 := HXL.out
          rw [show 5 + 6 * (k + 1) = 5 + 6 * k + 6 by omega, Nat.pow_add]; omega
        · by_cases e : j = k
          · subst e; rw [HY.out]; exact HCT.out
          · exact HA.out j (by omega)
    · have hke : k = 3 := by omega
      subst hke
      have hall := all_yes r 3 (by have := HR.out; omega) HA.out
      have HALL := hid hall
      clear hall hlt
      by_cases hmin : x < 65536
      · have HF : Hid (restS c r = (-1, 1)) := by
          unfold restS; rw [HSZ.out, if_neg (by rw [HALL.out]; simp), ← HX.out, if_pos (.inl (by rw [least_4]; exact hmin))]; rfl
        go_wp2_with (go_at_call 53; refine (right_any _ _).mono ?_; rintro e w' ⟨rfl, rfl⟩)
        go_ret2
        exact NextPost.mk (by rw [hN.out, HF.out])
      · have hbm : decide ((x : Int) < 65536) = false := decide_eq_false (by omega)
        have HMIN := hid hmin
        clear hmin
        cases hrt : rightB (x : Int) with
        | false =>
          have HF : Hid (restS c r = (-1, 1)) := by
            unfold restS; rw [HSZ.out, if_neg (by rw [HALL.out]; simp), ← HX.out, if_pos (.inr hrt)]; rfl
          go_wp2_with (go_at_call 53; refine (right_any _ _).mono ?_; rintro e w' ⟨rfl, rfl⟩)
          go_ret2
          exact NextPost.mk (by rw [hN.out, HF.out])
        | true =>
          have HF : Hid (restS c r = ((x : Int), 4)) := by
            unfold restS; rw [HSZ.out, if_neg (by rw [HALL.out]; simp), ← HX.out, if_neg (by rw [hrt, least_4]; simp only [Bool.true_eq_false, or_false]; exact HMIN.out)]; rfl
          go_wp2_with (go_at_call 53; refine (right_any _ _).mono ?_; rintro e w' ⟨rfl, rfl⟩)
          go_ret2
          exact NextPost.mk (by rw [hN.out, HF.out])

/-- utf.Next by contract. -/
theorem next_any (a : Option Addr) (len cap : Nat) (l : List UInt8) (w : World) (hL : LeastAt w) (h : BytesAt w a len cap l) :
    Calls Tryd.prog 43 #[.slice a len cap] w (NextPost l w) := by
  obtain ⟨hlen, hcap, hb⟩ := h
  cases l with
  | nil => exact next_nil a len cap w hlen
  | cons c r =>
    obtain ⟨b, o, rfl, hc⟩ := hb.resolve_left (by simp)
    have hl1 : len = r.length + 1 := by simpa using hlen
    have h0 := hc 0 (by simp)
    have hrest : ∀ i, i < r.length → w.cell? ⟨b, o + 1 + i, none⟩ = some (cellOf (r.getD i 0)) := fun i hi => by
      have := hc (i + 1) (by simp; omega)
      rw [show o + 1 + i = o + (i + 1) by omega, this]; simp [List.getD]
    have h0' : w.cell? ⟨b, o, none⟩ = some (.int .u8 (c.toNat : Int)) := h0
    by_cases h128 : c.toNat < 128
    · exact next_short b o len cap c r w (by omega) h0' hl1 (.inl h128)
    · by_cases hs : sizeB c = 0 ∨ r.length + 1 < sizeB c
      · exact next_short b o len cap c r w (by omega) h0' hl1 (.inr ⟨by omega, hs⟩)
      · unfold sizeB at hs
        by_cases c1 : 192 ≤ c.toNat ∧ c.toNat < 224
        · rw [if_pos c1] at hs
          exact next_2 b o len cap c r w hL h0' hl1 hcap hrest c1.1 c1.2 (by omega)
        · rw [if_neg c1] at hs
          by_cases c2 : 224 ≤ c.toNat ∧ c.toNat < 240
          · rw [if_pos c2] at hs
            exact next_3 b o len cap c r w hL h0' hl1 hcap hrest c2.1 c2.2 (by omega)
          · rw [if_neg c2] at hs
            by_cases c3 : 240 ≤ c.toNat ∧ c.toNat < 248
            · rw [if_pos c3] at hs
              exact next_4 b o len cap c r w hL h0' hl1 hcap hrest c3.1 c3.2 (by omega)
            · rw [if_neg c3] at hs; exact absurd (.inl rfl) hs
end Go.Proofs.YtgdbjkkanjgbnaaDoor

namespace Go.Proofs.YtgdbjkkanjgbnaaDoor
open Go.RowKit
set_option linter.unusedVariables false

set_option maxRecDepth 100000 in
set_option maxHeartbeats 1000000 in
theorem rput_1 (n : Nat) (w : World)  (hb : n < 128) : Calls Tryd.prog 49 #[.int .i64 n] w (TextPost (putS n) w) := by
  have hl : putS n = [by8 n] := by
    unfold putS putN; rw [if_pos ((rightB_iff _).2 (by omega)), Int.toNat_natCast]; rw [if_pos (by omega)]
  obtain ⟨L, hL⟩ : ∃ L, putS n = L := ⟨_, rfl⟩
  rw [hL] at hl ⊢
  have hcv := run_string_of_new (P := Tryd.prog) (w := w) Tryd.underlying59 Tryd.underlying5 Tryd.underlying9 #[.int .u8 n] L (by
    rw [hl]
    simp only [List.map_cons, List.map_nil, cellOf]
    rw [by8_toNat _ (by omega)]; first | done | rfl | (simp; done) | (simp; omega)) 1 (by rw [hl]; rfl) 1
  have tz : decide ((n : Int) < 0) = false := decide_eq_false (by omega)
  have t0 : decide ((1114111 : Int) < (n : Int)) = false := decide_eq_false (by omega)
  have t1 : decide ((55296 : Int) ≤ (n : Int)) = false := decide_eq_false (by omega)
  have t2 : decide ((n : Int) < 128) = true := decide_eq_true (by omega)
  clear hl hL 
  have HCV := hid hcv
  clear hcv
  go_enter Tryd.func49, Tryd.ntmps49
  go_wp2_with (fail)
  rw [HCV.out]
  go_wp2_with (fail)
  go_ret
  exact ⟨rfl, (Below.refl _ _).alloc (Nat.le_refl _) _⟩

set_option maxRecDepth 100000 in
set_option maxHeartbeats 1000000 in
theorem rput_2 (n : Nat) (w : World) (hl1 : 128 ≤ n) (hb : n < 2048) : Calls Tryd.prog 49 #[.int .i64 n] w (TextPost (putS n) w) := by
  have hl : putS n = [by8 (192 + n / 64), by8 (128 + n % 64)] := by
    unfold putS putN; rw [if_pos ((rightB_iff _).2 (by omega)), Int.toNat_natCast]; rw [if_neg (by omega)]; rw [if_pos (by omega)]
  obtain ⟨L, hL⟩ : ∃ L, putS n = L := ⟨_, rfl⟩
  rw [hL] at hl ⊢
  have hcv := run_string_of_new (P := Tryd.prog) (w := w) Tryd.underlying59 Tryd.underlying5 Tryd.underlying9 #[.int .u8 (192 + (n : Int) / 64), .int .u8 (128 + (n : Int) % 64)] L (by
    rw [hl]
    simp only [List.map_cons, List.map_nil, cellOf]
    rw [by8_toNat _ (by omega)]; rw [by8_toNat _ (by omega)]; first | done | rfl | (simp; done) | (simp; omega)) 2 (by rw [hl]; rfl) 2
  have tz : decide ((n : Int) < 0) = false := decide_eq_false (by omega)
  have t0 : decide ((1114111 : Int) < (n : Int)) = false := decide_eq_false (by omega)
  have t1 : decide ((55296 : Int) ≤ (n : Int)) = false := decide_eq_false (by omega)
  have t2 : decide ((n : Int) < 128) = false := decide_eq_false (by omega)
  have t3 : decide ((n : Int) < 2048) = true := decide_eq_true (by omega)
  clear hl hL hl1
  have HCV := hid hcv
  clear hcv
  go_enter Tryd.func49, Tryd.ntmps49
  go_wp2_with (fail)
  rw [HCV.out]
  go_wp2_with (fail)
  go_ret
  exact ⟨rfl, (Below.refl _ _).alloc (Nat.le_refl _) _⟩

set_option maxRecDepth 100000 in
set_option maxHeartbeats 1000000 in
theorem rput_3a (n : Nat) (w : World) (hl1 : 2048 ≤ n) (hl2 : n < 55296) (hb : n < 65536) : Calls Tryd.prog 49 #[.int .i64 n] w (TextPost (putS n) w) := by
  have hl : putS n = [by8 (224 + n / 4096), by8 (128 + n / 64 % 64), by8 (128 + n % 64)] := by
    unfold putS putN; rw [if_pos ((rightB_iff _).2 (by omega)), Int.toNat_natCast]; rw [if_neg (by omega)]; rw [if_neg (by omega)]; rw [if_pos (by omega)]
  obtain ⟨L, hL⟩ : ∃ L, putS n = L := ⟨_, rfl⟩
  rw [hL] at hl ⊢
  have hcv := run_string_of_new (P := Tryd.prog) (w := w) Tryd.underlying59 Tryd.underlying5 Tryd.underlying9 #[.int .u8 (224 + (n : Int) / 4096), .int .u8 (128 + (n : Int) / 64 % 64), .int .u8 (128 + (n : Int) % 64)] L (by
    rw [hl]
    simp only [List.map_cons, List.map_nil, cellOf]
    rw [by8_toNat _ (by omega)]; rw [by8_toNat _ (by omega)]; rw [by8_toNat _ (by omega)]; first | done | rfl | (simp; done) | (simp; omega)) 3 (by rw [hl]; rfl) 3
  have tz : decide ((n : Int) < 0) = false := decide_eq_false (by omega)
  have t0 : decide ((1114111 : Int) < (n : Int)) = false := decide_eq_false (by omega)
  have t1 : decide ((55296 : Int) ≤ (n : Int)) = false := decide_eq_false (by omega)
  have t2 : decide ((n : Int) < 128) = false := decide_eq_false (by omega)
  have t3 : decide ((n : Int) < 2048) = false := decide_eq_false (by omega)
  have t4 : decide ((n : Int) < 65536) = true := decide_eq_true (by omega)
  clear hl hL hl1 hl2
  have HCV := hid hcv
  clear hcv
  go_enter Tryd.func49, Tryd.ntmps49
  go_wp2_with (fail)
  rw [HCV.out]
  go_wp2_with (fail)
  go_ret
  exact ⟨rfl, (Below.refl _ _).alloc (Nat.le_refl _) _⟩

set_option maxRecDepth 100000 in
set_option maxHeartbeats 1000000 in
theorem rput_3b (n : Nat) (w : World) (hl1 : 2048 ≤ n) (hl2 : 57343 < n) (hb : n < 65536) : Calls Tryd.prog 49 #[.int .i64 n] w (TextPost (putS n) w) := by
  have hl : putS n = [by8 (224 + n / 4096), by8 (128 + n / 64 % 64), by8 (128 + n % 64)] := by
    unfold putS putN; rw [if_pos ((rightB_iff _).2 (by omega)), Int.toNat_natCast]; rw [if_neg (by omega)]; rw [if_neg (by omega)]; rw [if_pos (by omega)]
  obtain ⟨L, hL⟩ : ∃ L, putS n = L := ⟨_, rfl⟩
  rw [hL] at hl ⊢
  have hcv := run_string_of_new (P := Tryd.prog) (w := w) Tryd.underlying59 Tryd.underlying5 Tryd.underlying9 #[.int .u8 (224 + (n : Int) / 4096), .int .u8 (128 + (n : Int) / 64 % 64), .int .u8 (128 + (n : Int) % 64)] L (by
    rw [hl]
    simp only [List.map_cons, List.map_nil, cellOf]
    rw [by8_toNat _ (by omega)]; rw [by8_toNat _ (by omega)]; rw [by8_toNat _ (by omega)]; first | done | rfl | (simp; done) | (simp; omega)) 3 (by rw [hl]; rfl) 3
  have tz : decide ((n : Int) < 0) = false := decide_eq_false (by omega)
  have t0 : decide ((1114111 : Int) < (n : Int)) = false := decide_eq_false (by omega)
  have t1 : decide ((55296 : Int) ≤ (n : Int)) = true := decide_eq_true (by omega)
  have t2 : decide ((n : Int) ≤ 57343) = false := decide_eq_false (by omega)
  have t3 : decide ((n : Int) < 128) = false := decide_eq_false (by omega)
  have t4 : decide ((n : Int) < 2048) = false := decide_eq_false (by omega)
  have t5 : decide ((n : Int) < 65536) = true := decide_eq_true (by omega)
  clear hl hL hl1 hl2
  have HCV := hid hcv
  clear hcv
  go_enter Tryd.func49, Tryd.ntmps49
  go_wp2_with (fail)
  rw [HCV.out]
  go_wp2_with (fail)
  go_ret
  exact ⟨rfl, (Below.refl _ _).alloc (Nat.le_refl _) _⟩

set_option maxRecDepth 100000 in
set_option maxHeartbeats 1000000 in
theorem rput_4 (n : Nat) (w : World) (hl1 : 65536 ≤ n) (hb : n ≤ 1114111) : Calls Tryd.prog 49 #[.int .i64 n] w (TextPost (putS n) w) := by
  have hl : putS n = [by8 (240 + n / 262144), by8 (128 + n / 4096 % 64), by8 (128 + n / 64 % 64), by8 (128 + n % 64)] := by
    unfold putS putN; rw [if_pos ((rightB_iff _).2 (by omega)), Int.toNat_natCast]; rw [if_neg (by omega)]; rw [if_neg (by omega)]; rw [if_neg (by omega)]
  obtain ⟨L, hL⟩ : ∃ L, putS n = L := ⟨_, rfl⟩
  rw [hL] at hl ⊢
  have hcv := run_string_of_new (P := Tryd.prog) (w := w) Tryd.underlying59 Tryd.underlying5 Tryd.underlying9 #[.int .u8 (240 + (n : Int) / 262144), .int .u8 (128 + (n : Int) / 4096 % 64), .int .u8 (128 + (n : Int) / 64 % 64), .int .u8 (128 + (n : Int) % 64)] L (by
    rw [hl]
    simp only [List.map_cons, List.map_nil, cellOf]
    rw [by8_toNat _ (by omega)]; rw [by8_toNat _ (by omega)]; rw [by8_toNat _ (by omega)]; rw [by8_toNat _ (by omega)]; first | done | rfl | (simp; done) | (simp; omega)) 4 (by rw [hl]; rfl) 4
  have tz : decide ((n : Int) < 0) = false := decide_eq_false (by omega)
  have t0 : decide ((1114111 : Int) < (n : Int)) = false := decide_eq_false (by omega)
  have t1 : decide ((55296 : Int) ≤ (n : Int)) = true := decide_eq_true (by omega)
  have t2 : decide ((n : Int) ≤ 57343) = false := decide_eq_false (by omega)
  have t3 : decide ((n : Int) < 128) = false := decide_eq_false (by omega)
  have t4 : decide ((n : Int) < 2048) = false := decide_eq_false (by omega)
  have t5 : decide ((n : Int) < 65536) = false := decide_eq_false (by omega)
  clear hl hL hl1
  have HCV := hid hcv
  clear hcv
  go_enter Tryd.func49, Tryd.ntmps49
  go_wp2_with (fail)
  rw [HCV.out]
  go_wp2_with (fail)
  go_ret
  exact ⟨rfl, (Below.refl _ _).alloc (Nat.le_refl _) _⟩

set_option maxRecDepth 100000 in
set_option maxHeartbeats 1000000 in
theorem rput_no (n : Int) (w : World) (h : rightB n = false) : Calls Tryd.prog 49 #[.int .i64 n] w (TextPost (putS n) w) := by
  have hl : putS n = [] := by unfold putS; rw [if_neg (by rw [h]; simp)]
  rw [hl]
  have hn := (rightB_no n).1 h
  by_cases h1 : n < 0
  · clear h hn hl
    go_enter Tryd.func49, Tryd.ntmps49
    go_wp2_with (fail)
    go_ret
    exact ⟨rfl, Below.refl _ _⟩
  · have t0 : decide (n < 0) = false := decide_eq_false h1
    by_cases h2 : 1114111 < n
    · have t1 : decide (1114111 < n) = true := decide_eq_true h2
      clear h hn hl h1 h2
      go_enter Tryd.func49, Tryd.ntmps49
      go_wp2_with (fail)
      go_ret
      exact ⟨rfl, Below.refl _ _⟩
    · have t1 : decide (1114111 < n) = false := decide_eq_false h2
      have t2 : decide (55296 ≤ n) = true := decide_eq_true (by omega)
      have t3 : decide (n ≤ 57343) = true := decide_eq_true (by omega)
      clear h hn hl h1 h2
      go_enter Tryd.func49, Tryd.ntmps49
      go_wp2_with (fail)
      go_ret
      exact ⟨rfl, Below.refl _ _⟩

theorem rput_any (n : Int) (w : World) : Calls Tryd.prog 49 #[.int .i64 n] w (TextPost (putS n) w) := by
  cases hr : rightB n with
  | false => exact rput_no n w hr
  | true =>
    have h := (rightB_iff n).1 hr
    obtain ⟨m, rfl⟩ := Int.eq_ofNat_of_zero_le h.1
    by_cases h1 : m < 128
    · exact rput_1 m w h1
    by_cases h2 : m < 2048
    · exact rput_2 m w (by omega) h2
    by_cases h3 : m < 65536
    · by_cases h4 : m < 55296
      · exact rput_3a m w (by omega) h4 h3
      · exact rput_3b m w (by omega) (by omega) h3
    · exact rput_4 m w (by omega) (by omega)
end Go.Proofs.YtgdbjkkanjgbnaaDoor

namespace Go.Proofs.YtgdbjkkanjgbnaaDoor
open Go.RowKit
set_option linter.unusedVariables false

/-- What the document's Next comes to. -/
def RNextPost (l : List UInt8) (w : World) (e : Ending) (w' : World) : Prop := e = .returned (.tuple #[.int .i64 (nextS l).1, .int .i64 (nextS l).2]) ∧ Below w.heap.size w w'
theorem RNextPost.mk {l : List UInt8} {w w' : World} {x n : Int} (h : nextS l = (x, n)) (hb : Below w.heap.size w w') : RNextPost l w (.returned (.tuple #[.int .i64 x, .int .i64 n])) w' := ⟨by rw [h], hb⟩
def RNRel (l : List UInt8) (w : World) (v : Value) (wr : World) : Prop := ∃ k : Nat, 1 ≤ k ∧ k ≤ 5 ∧ v = .int .i64 k ∧ tryS l k = nextS l ∧ Below w.heap.size w wr
theorem try_step (l : List UInt8) (k : Nat) (hk : k ≤ 4) (hl : k ≤ l.length) : tryS l k = if putS (valS l k) = l.take k then (((valS l k : Nat) : Int), (k : Int)) else tryS l (k + 1) := by
  rw [tryS, if_pos ⟨hk, hl⟩]
theorem try_end (l : List UInt8) (k : Nat) (h : ¬ (k ≤ 4 ∧ k ≤ l.length)) : tryS l k = (-1, 1) := by rw [tryS, if_neg h]
theorem extract_upto (s : ByteArray) (k : Nat) : (s.extract 0 k).toList = s.data.toList.take k := by
  rw [str_toList, Lib.extract_data]; simp
theorem val_1 (s : ByteArray) (c0 : UInt8) (hs : 1 ≤ s.size) (g0 : s.data.toList.getD 0 0 = c0) : valS s.data.toList 1 = c0.toNat := by
  have hl : s.data.toList.length = s.size := str_len s
  match hm : s.data.toList, hl with
  | [], hl => simp at hl; omega
  | x0 :: r, _ =>
    rw [hm] at g0
    simp only [List.getD_cons_zero] at g0
    subst g0
    rfl

theorem val_2 (s : ByteArray) (c0 c1 : UInt8) (hs : 2 ≤ s.size) (g0 : s.data.toList.getD 0 0 = c0) (g1 : s.data.toList.getD 1 0 = c1) : valS s.data.toList 2 = (c0.toNat % 32) * 64 + c1.toNat % 64 := by
  have hl : s.data.toList.length = s.size := str_len s
  match hm : s.data.toList, hl with
  | [], hl => simp at hl; omega
  | [x0], hl => simp at hl; omega
  | x0 :: x1 :: r, _ =>
    rw [hm] at g0 g1
    simp only [List.getD_cons_zero, List.getD_cons_succ] at g0 g1
    subst g0; subst g1
    rfl

theorem val_3 (s : ByteArray) (c0 c1 c2 : UInt8) (hs : 3 ≤ s.size) (g0 : s.data.toList.getD 0 0 = c0) (g1 : s.data.toList.getD 1 0 = c1) (g2 : s.data.toList.getD 2 0 = c2) : valS s.data.toList 3 = ((c0.toNat % 16) * 64 + c1.toNat % 64) * 64 + c2.toNat % 64 := by
  have hl : s.data.toList.length = s.size := str_len s
  match hm : s.data.toList, hl with
  | [], hl => simp at hl; omega
  | [x0], hl => simp at hl; omega
  | [x0, x1], hl => simp at hl; omega
  | x0 :: x1 :: x2 :: r, _ =>
    rw [hm] at g0 g1 g2
    simp only [List.getD_cons_zero, List.getD_cons_succ] at g0 g1 g2
    subst g0; subst g1; subst g2
    rfl

theorem val_4 (s : ByteArray) (c0 c1 c2 c3 : UInt8) (hs : 4 ≤ s.size) (g0 : s.data.toList.getD 0 0 = c0) (g1 : s.data.toList.getD 1 0 = c1) (g2 : s.data.toList.getD 2 0 = c2) (g3 : s.data.toList.getD 3 0 = c3) : valS s.data.toList 4 = (((c0.toNat % 8) * 64 + c1.toNat % 64) * 64 + c2.toNat % 64) * 64 + c3.toNat % 64 := by
  have hl : s.data.toList.length = s.size := str_len s
  match hm : s.data.toList, hl with
  | [], hl => simp at hl; omega
  | [x0], hl => simp at hl; omega
  | [x0, x1], hl => simp at hl; omega
  | [x0, x1, x2], hl => simp at hl; omega
  | x0 :: x1 :: x2 :: x3 :: r, _ =>
    rw [hm] at g0 g1 g2 g3
    simp only [List.getD_cons_zero, List.getD_cons_succ] at g0 g1 g2 g3
    subst g0; subst g1; subst g2; subst g3
    rfl

set_option maxRecDepth 100000 in
set_option maxHeartbeats 8000000 in
theorem rnext_any (s : ByteArray) (w : World) (hs : s.size ≤ 1048576) : Calls Tryd.prog 38 #[.string s] w (RNextPost s.data.toList w) := by
  have hlen := str_len s
  have HLEN := hid hlen
  by_cases h0 : s.size = 0
  · have h1 : ((s.size : Int) == 0) = true := int_beq_true (by omega)
    have HF : Hid (nextS s.data.toList = (-1, 0)) := by
      have : s.data.toList = [] := List.eq_nil_of_length_eq_zero (by omega)
      rw [this]; rfl
    clear hlen
    go_enter Tryd.func38, Tryd.ntmps38
    go_wp2_with fail
    go_ret2
    exact RNextPost.mk HF.out (Below.refl _ _)
  · have h1 : ((s.size : Int) == 0) = false := int_beq_false (by omega)
    have htry := try_next s.data.toList
    rw [if_neg (by omega)] at htry
    have HTRY := hid htry
    have h0p : 0 < s.size := by omega
    clear hlen htry h0
    go_enter Tryd.func38, Tryd.ntmps38
    go_wp2_with fail
    go_loopw [4] (fun v wr => RNRel s.data.toList w v wr) (fun v _ => 5 - (intOf v).toNat)
    case atStart => exact ⟨1, by omega, by omega, rfl, HTRY.out, Below.refl _ _⟩
    case round =>
      obtain ⟨k, hk1, hk5, rfl, ht, hb⟩ := hrel
      have HB := hid hb
      have HT := hid ht
      clear hb ht
      by_cases hk : k ≤ 4 ∧ k ≤ s.size
      · have hstep := try_step s.data.toList k hk.1 (by rw [HLEN.out]; exact hk.2)
        have HSTEP := hid hstep
        clear hstep
        obtain ⟨k4, ks⟩ := hk
        have hcase : k = 1 ∨ k = 2 ∨ k = 3 ∨ k = 4 := by omega
        rcases hcase with rfl | rfl | rfl | rfl
        · have hle : decide ((1 : Int) ≤ (s.size : Int)) = true := decide_eq_true (by omega)
          have p0 : 0 < s.size := by omega
          have e0 := str_get s 0 p0
          obtain ⟨c0, g0⟩ : ∃ c, s.data.toList.getD 0 0 = c := ⟨_, rfl⟩
          rw [g0] at e0
          have b0 : c0.toNat < 256 := c0.toNat_lt
          have hv := val_1 s c0 ks g0
          have HV := hid hv
          clear hv g0
          obtain ⟨bb, hbb⟩ : ∃ bb, (putS ((c0.toNat : Int)) == (s.extract 0 1).toList) = bb := ⟨_, rfl⟩
          have hbd0 : (bb = decide (putS (valS s.data.toList 1) = s.data.toList.take 1)) := by
            rw [← hbb, extract_upto, Bool.eq_iff_iff, beq_iff_eq, decide_eq_true_eq, HV.out]
          have hbd := hid hbd0
          clear hbd0
          cases bb with
          | true =>
            go_wp2_with fail
            refine wp_loop_rounds 1 ?_
            rw [rounds_succ]
            go_wp2_with fail
            go_region_with (go_at_call 49; refine (rput_any _ _).mono ?_; intro e w1 hp; obtain ⟨rfl, hb2⟩ := hp; have HB2 := hid hb2; clear hb2)
            all_goals
              go_wp2_with fail
              go_ret2
              have hx : nextS s.data.toList = ((c0.toNat : Int), 1) := by
                rw [← HT.out, HSTEP.out, if_pos (of_decide_eq_true hbd.out.symm), HV.out]
                exact congrArg (fun x : Int => (x, (1 : Int))) (by omega)
              exact RNextPost.mk hx (HB.out.drew.trans (HB2.out.mono (by have := HB.out.size; exact this)))
          | false =>
            go_wp2_with fail
            refine wp_loop_rounds 1 ?_
            rw [rounds_succ]
            go_wp2_with fail
            go_region_with (go_at_call 49; refine (rput_any _ _).mono ?_; intro e w1 hp; obtain ⟨rfl, hb2⟩ := hp; have HB2 := hid hb2; clear hb2)
            all_goals
              go_wp2_with fail
              refine ⟨⟨2, by omega, by omega, rfl, ?_, (HB.out.drew.trans (HB2.out.mono (by have := HB.out.size; exact this)))⟩, by simp [intOf]⟩
              rw [← HT.out, HSTEP.out, if_neg (of_decide_eq_false hbd.out.symm)]
        · have hle : decide ((2 : Int) ≤ (s.size : Int)) = true := decide_eq_true (by omega)
          have p0 : 0 < s.size := by omega
          have e0 := str_get s 0 p0
          obtain ⟨c0, g0⟩ : ∃ c, s.data.toList.getD 0 0 = c := ⟨_, rfl⟩
          rw [g0] at e0
          have b0 : c0.toNat < 256 := c0.toNat_lt
          have p1 : 1 < s.size := by omega
          have e1 := str_get s 1 p1
          obtain ⟨c1, g1⟩ : ∃ c, s.data.toList.getD 1 0 = c := ⟨_, rfl⟩
          rw [g1] at e1
          have b1 : c1.toNat < 256 := c1.toNat_lt
          have hv := val_2 s c0 c1 ks g0 g1
          have HV := hid hv
          clear hv g0 g1
          obtain ⟨bb, hbb⟩ : ∃ bb, (putS (((c0.toNat : Int) % 32) * 64 + (c1.toNat : Int) % 64) == (s.extract 0 2).toList) = bb := ⟨_, rfl⟩
          have hbd0 : (bb = decide (putS (valS s.data.toList 2) = s.data.toList.take 2)) := by
            rw [← hbb, extract_upto, Bool.eq_iff_iff, beq_iff_eq, decide_eq_true_eq, HV.out]
            have : (((((c0.toNat % 32) * 64 + c1.toNat % 64 : Nat)) : Int)) = ((c0.toNat : Int) % 32) * 64 + (c1.toNat : Int) % 64 := by omega
            rw [this]
          have hbd := hid hbd0
          clear hbd0
          cases bb with
          | true =>
            go_wp2_with fail
            refine wp_loop_rounds 2 ?_
            rw [rounds_succ]
            go_wp2_with fail
            rw [rounds_succ]
            go_wp2_with fail
            go_region_with (go_at_call 49; refine (rput_any _ _).mono ?_; intro e w1 hp; obtain ⟨rfl, hb2⟩ := hp; have HB2 := hid hb2; clear hb2)
            all_goals
              go_wp2_with fail
              go_ret2
              have hx : nextS s.data.toList = (((c0.toNat : Int) % 32) * 64 + (c1.toNat : Int) % 64, 2) := by
                rw [← HT.out, HSTEP.out, if_pos (of_decide_eq_true hbd.out.symm), HV.out]
                exact congrArg (fun x : Int => (x, (2 : Int))) (by omega)
              exact RNextPost.mk hx (HB.out.drew.trans (HB2.out.mono (by have := HB.out.size; exact this)))
          | false =>
            go_wp2_with fail
            refine wp_loop_rounds 2 ?_
            rw [rounds_succ]
            go_wp2_with fail
            rw [rounds_succ]
            go_wp2_with fail
            go_region_with (go_at_call 49; refine (rput_any _ _).mono ?_; intro e w1 hp; obtain ⟨rfl, hb2⟩ := hp; have HB2 := hid hb2; clear hb2)
            all_goals
              go_wp2_with fail
              refine ⟨⟨3, by omega, by omega, rfl, ?_, (HB.out.drew.trans (HB2.out.mono (by have := HB.out.size; exact this)))⟩, by simp [intOf]⟩
              rw [← HT.out, HSTEP.out, if_neg (of_decide_eq_false hbd.out.symm)]
        · have hle : decide ((3 : Int) ≤ (s.size : Int)) = true := decide_eq_true (by omega)
          have p0 : 0 < s.size := by omega
          have e0 := str_get s 0 p0
          obtain ⟨c0, g0⟩ : ∃ c, s.data.toList.getD 0 0 = c := ⟨_, rfl⟩
          rw [g0] at e0
          have b0 : c0.toNat < 256 := c0.toNat_lt
          have p1 : 1 < s.size := by omega
          have e1 := str_get s 1 p1
          obtain ⟨c1, g1⟩ : ∃ c, s.data.toList.getD 1 0 = c := ⟨_, rfl⟩
          rw [g1] at e1
          have b1 : c1.toNat < 256 := c1.toNat_lt
          have p2 : 2 < s.size := by omega
          have e2 := str_get s 2 p2
          obtain ⟨c2, g2⟩ : ∃ c, s.data.toList.getD 2 0 = c := ⟨_, rfl⟩
          rw [g2] at e2
          have b2 : c2.toNat < 256 := c2.toNat_lt
          have hv := val_3 s c0 c1 c2 ks g0 g1 g2
          have HV := hid hv
          clear hv g0 g1 g2
          obtain ⟨bb, hbb⟩ : ∃ bb, (putS ((((c0.toNat : Int) % 16) * 64 + (c1.toNat : Int) % 64) * 64 + (c2.toNat : Int) % 64) == (s.extract 0 3).toList) = bb := ⟨_, rfl⟩
          have hbd0 : (bb = decide (putS (valS s.data.toList 3) = s.data.toList.take 3)) := by
            rw [← hbb, extract_upto, Bool.eq_iff_iff, beq_iff_eq, decide_eq_true_eq, HV.out]
            have : ((((((c0.toNat % 16) * 64 + c1.toNat % 64) * 64 + c2.toNat % 64 : Nat)) : Int)) = (((c0.toNat : Int) % 16) * 64 + (c1.toNat : Int) % 64) * 64 + (c2.toNat : Int) % 64 := by omega
            rw [this]
          have hbd := hid hbd0
          clear hbd0
          cases bb with
          | true =>
            go_wp2_with fail
            refine wp_loop_rounds 3 ?_
            rw [rounds_succ]
            go_wp2_with fail
            rw [rounds_succ]
            go_wp2_with fail
            rw [rounds_succ]
            go_wp2_with fail
            go_region_with (go_at_call 49; refine (rput_any _ _).mono ?_; intro e w1 hp; obtain ⟨rfl, hb2⟩ := hp; have HB2 := hid hb2; clear hb2)
            all_goals
              go_wp2_with fail
              go_ret2
              have hx : nextS s.data.toList = ((((c0.toNat : Int) % 16) * 64 + (c1.toNat : Int) % 64) * 64 + (c2.toNat : Int) % 64, 3) := by
                rw [← HT.out, HSTEP.out, if_pos (of_decide_eq_true hbd.out.symm), HV.out]
                exact congrArg (fun x : Int => (x, (3 : Int))) (by omega)
              exact RNextPost.mk hx (HB.out.drew.trans (HB2.out.mono (by have := HB.out.size; exact this)))
          | false =>
            go_wp2_with fail
            refine wp_loop_rounds 3 ?_
            rw [rounds_succ]
            go_wp2_with fail
            rw [rounds_succ]
            go_wp2_with fail
            rw [rounds_succ]
            go_wp2_with fail
            go_region_with (go_at_call 49; refine (rput_any _ _).mono ?_; intro e w1 hp; obtain ⟨rfl, hb2⟩ := hp; have HB2 := hid hb2; clear hb2)
            all_goals
              go_wp2_with fail
              refine ⟨⟨4, by omega, by omega, rfl, ?_, (HB.out.drew.trans (HB2.out.mono (by have := HB.out.size; exact this)))⟩, by simp [intOf]⟩
              rw [← HT.out, HSTEP.out, if_neg (of_decide_eq_false hbd.out.symm)]
        · have hle : decide ((4 : Int) ≤ (s.size : Int)) = true := decide_eq_true (by omega)
          have p0 : 0 < s.size := by omega
          have e0 := str_get s 0 p0
          obtain ⟨c0, g0⟩ : ∃ c, s.data.toList.getD 0 0 = c := ⟨_, rfl⟩
          rw [g0] at e0
          have b0 : c0.toNat < 256 := c0.toNat_lt
          have p1 : 1 < s.size := by omega
          have e1 := str_get s 1 p1
          obtain ⟨c1, g1⟩ : ∃ c, s.data.toList.getD 1 0 = c := ⟨_, rfl⟩
          rw [g1] at e1
          have b1 : c1.toNat < 256 := c1.toNat_lt
          have p2 : 2 < s.size := by omega
          have e2 := str_get s 2 p2
          obtain ⟨c2, g2⟩ : ∃ c, s.data.toList.getD 2 0 = c := ⟨_, rfl⟩
          rw [g2] at e2
          have b2 : c2.toNat < 256 := c2.toNat_lt
          have p3 : 3 < s.size := by omega
          have e3 := str_get s 3 p3
          obtain ⟨c3, g3⟩ : ∃ c, s.data.toList.getD 3 0 = c := ⟨_, rfl⟩
          rw [g3] at e3
          have b3 : c3.toNat < 256 := c3.toNat_lt
          have hv := val_4 s c0 c1 c2 c3 ks g0 g1 g2 g3
          have HV := hid hv
          clear hv g0 g1 g2 g3
          obtain ⟨bb, hbb⟩ : ∃ bb, (putS (((((c0.toNat : Int) % 8) * 64 + (c1.toNat : Int) % 64) * 64 + (c2.toNat : Int) % 64) * 64 + (c3.toNat : Int) % 64) == (s.extract 0 4).toList) = bb := ⟨_, rfl⟩
          have hbd0 : (bb = decide (putS (valS s.data.toList 4) = s.data.toList.take 4)) := by
            rw [← hbb, extract_upto, Bool.eq_iff_iff, beq_iff_eq, decide_eq_true_eq, HV.out]
            have : (((((((c0.toNat % 8) * 64 + c1.toNat % 64) * 64 + c2.toNat % 64) * 64 + c3.toNat % 64 : Nat)) : Int)) = ((((c0.toNat : Int) % 8) * 64 + (c1.toNat : Int) % 64) * 64 + (c2.toNat : Int) % 64) * 64 + (c3.toNat : Int) % 64 := by omega
            rw [this]
          have hbd := hid hbd0
          clear hbd0
          cases bb with
          | true =>
            go_wp2_with fail
            refine wp_loop_rounds 4 ?_
            rw [rounds_succ]
            go_wp2_with fail
            rw [rounds_succ]
            go_wp2_with fail
            rw [rounds_succ]
            go_wp2_with fail
            rw [rounds_succ]
            go_wp2_with fail
            go_region_with (go_at_call 49; refine (rput_any _ _).mono ?_; intro e w1 hp; obtain ⟨rfl, hb2⟩ := hp; have HB2 := hid hb2; clear hb2)
            all_goals
              go_wp2_with fail
              go_ret2
              have hx : nextS s.data.toList = (((((c0.toNat : Int) % 8) * 64 + (c1.toNat : Int) % 64) * 64 + (c2.toNat : Int) % 64) * 64 + (c3.toNat : Int) % 64, 4) := by
                rw [← HT.out, HSTEP.out, if_pos (of_decide_eq_true hbd.out.symm), HV.out]
                exact congrArg (fun x : Int => (x, (4 : Int))) (by omega)
              exact RNextPost.mk hx (HB.out.drew.trans (HB2.out.mono (by have := HB.out.size; exact this)))
          | false =>
            go_wp2_with fail
            refine wp_loop_rounds 4 ?_
            rw [rounds_succ]
            go_wp2_with fail
            rw [rounds_succ]
            go_wp2_with fail
            rw [rounds_succ]
            go_wp2_with fail
            rw [rounds_succ]
            go_wp2_with fail
            go_region_with (go_at_call 49; refine (rput_any _ _).mono ?_; intro e w1 hp; obtain ⟨rfl, hb2⟩ := hp; have HB2 := hid hb2; clear hb2)
            all_goals
              go_wp2_with fail
              refine ⟨⟨5, by omega, by omega, rfl, ?_, (HB.out.drew.trans (HB2.out.mono (by have := HB.out.size; exact this)))⟩, by simp [intOf]⟩
              rw [← HT.out, HSTEP.out, if_neg (of_decide_eq_false hbd.out.symm)]
      · have HE := hid (try_end s.data.toList k (by rw [HLEN.out]; exact hk))
        by_cases h5 : k = 5
        · have hle4 : decide ((k : Int) ≤ 4) = false := decide_eq_false (by omega)
          clear hk h5
          go_wp2_with fail
          go_ret2
          exact RNextPost.mk (by rw [← HT.out, HE.out]) HB.out
        · have hk4 : k ≤ 4 := by omega
          have hle4 : decide ((k : Int) ≤ 4) = true := decide_eq_true (by omega)
          have hle : decide (k ≤ s.size) = false := decide_eq_false (by omega)
          clear hk h5
          go_wp2_with fail
          go_ret2
          exact RNextPost.mk (by rw [← HT.out, HE.out]) HB.out
end Go.Proofs.YtgdbjkkanjgbnaaDoor

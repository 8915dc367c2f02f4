/-
  Base, Words, UrlPure, AsFacts, As, Err, Bytes, Builder, UrlEsc, UrlUn: this proof's parts in one text.
-/
import Derived.WalkKit
import Derived.WalkSpells
import Derived.WalkLawsBesides
import Derived.Laws.BytesArg
import Derived.Lib.ConvBytes
import Derived.Lib.Strings
import Derived.Test.YtgdbjkkanjgbnaaDoorProg
import Derived.LaidEql
import Derived.Stop.Asserts
import Derived.RowKitTokens
import Derived.Maps.AppendAt
import Derived.Shelf.Strings.BuilderK
namespace Go.Proofs.YtgdbjkkanjgbnaaDoor
open Go.RowKit

/-- A fact kept from the walk. -/
theorem hid {p : Prop} (h : p) : RowKit.Hid p := h
theorem lt_of_cell {w : World} {a : Addr} {v : Value} (h : w.cell? a = some v) : a.block < w.heap.size := by
  rcases Nat.lt_or_ge a.block w.heap.size with h' | h'
  · exact h'
  · simp [World.cell?, Array.getElem?_eq_none h'] at h
/-- A store into one old block on both sides. -/
theorem below_setCell_both {B : Nat} {w w' : World} (h : Below B w w') (t : Addr) (v : Value) : Below B (w.setCell t v) (w'.setCell t v) := by
  refine ⟨h.os, h.tape, h.output, ?_, fun k hk => ?_⟩
  · have := h.size; simp [World.setCell]; omega
  · by_cases e : k = t.block
    · subst e; have := h.block t.block hk; simp only [World.setCell, Array.getElem?_modify]; rw [this]
    · rw [Below.heap_setCell _ _ _ _ e, Below.heap_setCell _ _ _ _ e]; exact h.block k hk
theorem below_of_set {w w1 : World} {o : Obj} {v : Value} (h : Below (w.alloc o).heap.size ((w.alloc o).setCell ⟨w.heap.size, 0, none⟩ v) w1) : Below w.heap.size w w1 :=
  (((Below.refl w.heap.size w).alloc (Nat.le_refl _) o).setCell (p := ⟨w.heap.size, 0, none⟩) (Nat.le_refl _) v).trans (h.mono (by simp))
theorem cell_of_set {w w1 : World} {T : TypeId} {v0 v : Value} (h : Below (w.alloc (.cells #[v0] T)).heap.size ((w.alloc (.cells #[v0] T)).setCell ⟨w.heap.size, 0, none⟩ v) w1) : w1.cell? ⟨w.heap.size, 0, none⟩ = some v := by
  rw [h.cell (p := ⟨w.heap.size, 0, none⟩) (by simp)]
  exact World.cell?_setCell_same (u := v0) _ _ _ (by simp)

end Go.Proofs.YtgdbjkkanjgbnaaDoor

namespace Go.Proofs.YtgdbjkkanjgbnaaDoor
open Go.RowKit

/-- A byte as a cell. -/
def cellOf (b : UInt8) : Value := .int .u8 b.toNat
theorem cellOf_def (b : UInt8) : cellOf b = .int .u8 b.toNat := rfl
/-- A text as a value. -/
abbrev strV (l : List UInt8) : Value := .string ⟨l.toArray⟩

theorem str_of_nums (l : List UInt8) : strOfNums (l.map fun b => (b.toNat : Int)) = ⟨l.toArray⟩ := by
  unfold strOfNums
  congr 1
  simp [Function.comp_def]

/-- string(b), b a piece of memory that reads as l. -/
theorem run_string_of_cells {P : Program} {w : World} {src e dst : TypeId} (hs : P.underlying src = some (.slice e)) (he : P.underlying e = some (.int .u8)) (hd : P.underlying dst = some .string)
    (b off len cap : Nat) (l : List UInt8) (hlen : l.length = len) (hcell : ∀ i, i < len → w.cell? ⟨b, off + i, none⟩ = some (cellOf (l.getD i 0))) :
    (convert src dst (.slice (some ⟨b, off, none⟩) len cap)).run P w = .ok (strV l) w := by
  have h := run_convert_bytes_arg (P := P) w src e hs he b off len cap (l.map fun b => (b.toNat : Int)) (by simpa using hlen)
    (fun i hi => by rw [hcell i hi]; simp [cellOf, List.getD, show i < l.length by omega]) dst hd
  rw [h, str_of_nums]

/-- The cells of a new block. -/
theorem cells_of_new (w : World) (C : Array Value) (T : TypeId) (k : Nat) (l : List UInt8) (h : C.toList.drop k = l.map cellOf) :
    ∀ i, i < l.length → (w.alloc (.cells C T)).cell? ⟨w.heap.size, k + i, none⟩ = some (cellOf (l.getD i 0)) := by
  intro i hi
  rw [World.cell?_alloc_new]
  have h2 : (C.toList.drop k)[i]? = some (cellOf (l.getD i 0)) := by rw [h]; simp [List.getD, hi]
  rw [List.getElem?_drop] at h2
  simpa using h2

/-- A string's byte, by its list. -/
theorem str_get (s : ByteArray) (i : Nat) (h : i < s.size) : s[i] = s.data.toList.getD i 0 := by
  have h' : i < s.data.toList.length := by simpa using h
  rw [List.getD_eq_getElem?_getD, List.getElem?_eq_getElem h']
  simp; rfl
theorem str_len (s : ByteArray) : s.data.toList.length = s.size := by simp
theorem str_toList (s : ByteArray) : s.toList = s.data.toList := Lib.toList_data s
theorem str_ne_empty (s : ByteArray) (h : 0 < s.size) : (!s.toList.isEmpty) = true := by
  rw [str_toList]
  have : s.data.toList ≠ [] := fun e => by have h2 := str_len s; rw [e] at h2; simp at h2; omega
  simpa using this
theorem str_empty (s : ByteArray) (h : s.size = 0) : s.toList = [] := by
  rw [str_toList]
  exact List.eq_nil_of_length_eq_zero (by simpa using h)
theorem str_not_empty (s : ByteArray) (h : 0 < s.size) : ¬ s.toList = [] := fun e => by
  rw [str_toList] at e
  have h2 := str_len s; rw [e] at h2; simp at h2; omega
/-- A call that answers a text and writes nothing that was there. -/
def TextPost (l : List UInt8) (w : World) (e : Ending) (w' : World) : Prop := e = .returned (strV l) ∧ Below w.heap.size w w'
theorem TextPost.mk {l : List UInt8} {w w' : World} {v : Value} (h : v = strV l) (hb : Below w.heap.size w w') : TextPost l w (.returned v) w' := ⟨by rw [h], hb⟩
/-- One call behind another: nothing that was there is written. -/
theorem below_then {a b c : World} (h : Below a.heap.size a b) (k : Below b.heap.size b c) : Below a.heap.size a c := h.trans (k.mono h.size)
/-- A law's call: true, and nothing that was there is written. -/
def TruePost (w : World) (e : Ending) (w' : World) : Prop := e = .returned (.bool true) ∧ Below w.heap.size w w'
theorem TruePost.mk {w w' : World} {b : Bool} (h : b = true) (hb : Below w.heap.size w w') : TruePost w (.returned (.bool b)) w' := ⟨by rw [h], hb⟩
theorem int_beq_false {a b : Int} (h : ¬ a = b) : (a == b) = false := by simpa using h
theorem int_beq_true {a b : Int} (h : a = b) : (a == b) = true := by simpa using h
/-- string(b), b a new block. -/
theorem run_string_of_new {P : Program} {w : World} {src e dst : TypeId} (hs : P.underlying src = some (.slice e)) (he : P.underlying e = some (.int .u8)) (hd : P.underlying dst = some .string) (C : Array Value) (l : List UInt8) (hC : C.toList = l.map cellOf) (k : Nat) (hk : l.length = k) (m : Nat) :
    (convert src dst (.slice (some ⟨w.heap.size, 0, none⟩) k m)).run P (w.alloc (.cells C e)) = .ok (strV l) (w.alloc (.cells C e)) :=
  run_string_of_cells (P := P) (w := w.alloc (.cells C e)) hs he hd w.heap.size 0 k m l hk (fun i hi => cells_of_new w C e 0 l (by simpa using hC) i (by omega))
/-- []byte(s): a new block; nothing that was there is written. -/
theorem below_bytes (w : World) (e : TypeId) (s : ByteArray) : Below w.heap.size w (Lib.bytesWorld w e s) := by
  refine ⟨?_, ?_, ?_, ?_, fun k hk => Lib.bytesWorld_at_old w e s k hk⟩
  · unfold Lib.bytesWorld World.freeze; rfl
  · unfold Lib.bytesWorld World.freeze; rfl
  · unfold Lib.bytesWorld World.freeze; rfl
  · rw [Lib.bytesWorld_size]; omega
end Go.Proofs.YtgdbjkkanjgbnaaDoor

namespace Go.Proofs.YtgdbjkkanjgbnaaDoor.Url
open Go.RowKit Go.Proofs.YtgdbjkkanjgbnaaDoor
set_option linter.unusedVariables false
def plB (c : UInt8) : Bool := decide ((48 ≤ c.toNat ∧ c.toNat ≤ 57) ∨ (97 ≤ c.toNat ∧ c.toNat ≤ 122) ∨ (65 ≤ c.toNat ∧ c.toNat ≤ 90) ∨ c.toNat = 42 ∨ c.toNat = 45 ∨ c.toNat = 46 ∨ c.toNat = 95)
def hexU (n : Nat) : UInt8 := UInt8.ofNat (if n < 10 then 48 + n else 55 + n)
def escB (c : UInt8) : List UInt8 := if plB c = true then [c] else if c.toNat = 32 then [43] else [37, hexU (c.toNat / 16), hexU (c.toNat % 16)]
def escS (l : List UInt8) : List UInt8 := l.flatMap escB
/-- A digit's worth; none. -/
def nibB (c : UInt8) : Option Nat :=
  if 48 ≤ c.toNat ∧ c.toNat ≤ 57 then some (c.toNat - 48) else if 97 ≤ c.toNat ∧ c.toNat ≤ 102 then some (c.toNat - 87) else if 65 ≤ c.toNat ∧ c.toNat ≤ 70 then some (c.toNat - 55) else none
def nibAt (l : List UInt8) (i : Nat) : Option Nat := match l[i]? with | some c => nibB c | none => none
theorem nibB_lt {c : UInt8} {n : Nat} (h : nibB c = some n) : n < 16 := by
  unfold nibB at h
  split at h
  · cases h; omega
  · split at h
    · cases h; omega
    · split at h
      · cases h; omega
      · cases h
theorem nibAt_lt {l : List UInt8} {i n : Nat} (h : nibAt l i = some n) : n < 16 ∧ i < l.length := by
  unfold nibAt at h
  cases e : l[i]? with
  | none => rw [e] at h; cases h
  | some c => rw [e] at h; exact ⟨nibB_lt h, (List.getElem?_eq_some_iff.1 e).1⟩
/-- One step of what a text stands for: a byte and how many signs it takes. -/
def unStep (l : List UInt8) (i : Nat) : Option (UInt8 × Nat) :=
  match l[i]? with
  | none => none
  | some c =>
    if c.toNat = 37 then (match nibAt l (i + 1), nibAt l (i + 2) with | some h, some k => some (UInt8.ofNat (h * 16 + k), 3) | _, _ => none)
    else if c.toNat = 43 then some (32, 1) else some (c, 1)
/-- From a place on: the bytes, or where it fails. -/
def unF : Nat → List UInt8 → Nat → List UInt8 → List UInt8 × Int
  | 0, _, _, out => (out, -1)
  | f + 1, l, i, out => if i < l.length then (match unStep l i with | some (c, k) => unF f l (i + k) (out ++ [c]) | none => ([], (i : Int))) else (out, -1)
def unS (l : List UInt8) : List UInt8 × Int := unF (l.length + 1) l 0 []
theorem unF_end (f : Nat) (l : List UInt8) (i : Nat) (out : List UInt8) (h : ¬ i < l.length) : unF f l i out = (out, -1) := by
  cases f with
  | zero => rfl
  | succ f => rw [unF, if_neg h]
theorem unStep_pos {l : List UInt8} {i : Nat} {c : UInt8} {k : Nat} (h : unStep l i = some (c, k)) : 1 ≤ k ∧ k ≤ 3 ∧ i + k ≤ l.length := by
  unfold unStep at h
  cases e : l[i]? with
  | none => rw [e] at h; cases h
  | some d =>
    rw [e] at h
    have hi := (List.getElem?_eq_some_iff.1 e).1
    simp only at h
    split at h
    · cases e1 : nibAt l (i + 1) with
      | none => rw [e1] at h; cases h
      | some a =>
        cases e2 : nibAt l (i + 2) with
        | none => rw [e1, e2] at h; cases h
        | some b =>
          rw [e1, e2] at h
          cases h
          have := (nibAt_lt e2).2
          omega
    · split at h <;> (cases h; omega)
theorem unF_more (f : Nat) : ∀ (g : Nat) (l : List UInt8) (i : Nat) (out : List UInt8), l.length < f + i → l.length < g + i → unF f l i out = unF g l i out := by
  induction f with
  | zero => intro g l i out h1 h2; rw [unF_end 0 l i out (by omega), unF_end g l i out (by omega)]
  | succ f ih =>
    intro g l i out h1 h2
    by_cases hi : i < l.length
    · obtain ⟨g', rfl⟩ : ∃ g', g = g' + 1 := ⟨g - 1, by omega⟩
      rw [unF, unF, if_pos hi, if_pos hi]
      cases e : unStep l i with
      | none => rfl
      | some p =>
        obtain ⟨c, k⟩ := p
        have := unStep_pos e
        exact ih g' l (i + k) _ (by omega) (by omega)
    · rw [unF_end _ l i out hi, unF_end _ l i out hi]
/-- One step on. -/
theorem unF_step {f : Nat} {l : List UInt8} {i : Nat} {out : List UInt8} (hf : l.length < f + i) (hi : i < l.length) {c : UInt8} {k : Nat} (h : unStep l i = some (c, k)) : unF f l i out = unF f l (i + k) (out ++ [c]) := by
  have hk := unStep_pos h
  obtain ⟨g, rfl⟩ : ∃ g, f = g + 1 := ⟨f - 1, by omega⟩
  rw [unF, if_pos hi, h]
  exact unF_more g (g + 1) l (i + k) _ (by omega) (by omega)
theorem unF_stop {f : Nat} {l : List UInt8} {i : Nat} {out : List UInt8} (hf : l.length < f + i) (hi : i < l.length) (h : unStep l i = none) : unF f l i out = ([], (i : Int)) := by
  obtain ⟨g, rfl⟩ : ∃ g, f = g + 1 := ⟨f - 1, by omega⟩
  rw [unF, if_pos hi, h]
end Go.Proofs.YtgdbjkkanjgbnaaDoor.Url

namespace Go.Proofs.YtgdbjkkanjgbnaaDoor
open Go.RowKit Go.Extern.Stop Go.Stop Go.Extern

theorem A.valueOfPE (t : Addr) (w : World) : (ReflectliteValue.unpack (.iface 56 (.pointer (some t)))).run Tryd.prog w
    = .ok (.agg #[.pointer (some ⟨5, 56, none⟩), .pointer (some ⟨w.heap.size, 0, none⟩), .int .u64 150]) (w.alloc (.cells #[.pointer (some t)] 56)) := by kernel_rfl
theorem A.typePE (a : Addr) (w : World) : (ReflectliteValue.methodAny (ReflectliteValue.valueError "reflectlite.Value.Type" 0) (fun t _ _ _ => ReflectliteType.toType t) #[.agg #[.pointer (some ⟨5, 56, none⟩), .pointer (some a), .int .u64 150]]).run Tryd.prog w
    = .ok (.iface 98 (.agg #[.pointer (some ⟨5, 56, none⟩)])) w := by kernel_rfl
theorem A.valueOfPA (t : Addr) (w : World) : (ReflectliteValue.unpack (.iface 57 (.pointer (some t)))).run Tryd.prog w
    = .ok (.agg #[.pointer (some ⟨5, 57, none⟩), .pointer (some ⟨w.heap.size, 0, none⟩), .int .u64 150]) (w.alloc (.cells #[.pointer (some t)] 57)) := by kernel_rfl
theorem A.typePA (a : Addr) (w : World) : (ReflectliteValue.methodAny (ReflectliteValue.valueError "reflectlite.Value.Type" 0) (fun t _ _ _ => ReflectliteType.toType t) #[.agg #[.pointer (some ⟨5, 57, none⟩), .pointer (some a), .int .u64 150]]).run Tryd.prog w
    = .ok (.iface 98 (.agg #[.pointer (some ⟨5, 57, none⟩)])) w := by kernel_rfl
theorem A.methodKind (h : Value) (w : World) : (Go.method 251 98 (.agg #[h]) "Kind").run Tryd.prog w = .ok (80, h) w := by kernel_rfl
theorem A.methodElem (h : Value) (w : World) : (Go.method 251 98 (.agg #[h]) "Elem").run Tryd.prog w = .ok (93, .agg #[h]) w := by kernel_rfl
theorem A.methodImplements (h : Value) (w : World) : (Go.method 251 98 (.agg #[h]) "Implements").run Tryd.prog w = .ok (94, .agg #[h]) w := by kernel_rfl
theorem A.methodAssignableTo (h : Value) (w : World) : (Go.method 251 98 (.agg #[h]) "AssignableTo").run Tryd.prog w = .ok (91, .agg #[h]) w := by kernel_rfl
theorem A.methodUnwrap (a : Addr) (w : World) : (Go.method 251 51 (.pointer (some a)) "Unwrap").run Tryd.prog w = .ok (85, .pointer (some a)) w := by kernel_rfl
theorem A.kindPE (w : World) : ((ReflectliteType.abiMethod fun t => (fun a : Nat => Value.int IntKind.u8 (a : Int)) <$> Rtype.kind t) #[.pointer (some ⟨5, 56, none⟩)]).run Tryd.prog w = .ok (.int .u8 22) w := by kernel_rfl
theorem A.kindE (w : World) : ((ReflectliteType.abiMethod fun t => (fun a : Nat => Value.int IntKind.u8 (a : Int)) <$> Rtype.kind t) #[.pointer (some ⟨5, 46, none⟩)]).run Tryd.prog w = .ok (.int .u8 2) w := by kernel_rfl
theorem A.kindPA (w : World) : ((ReflectliteType.abiMethod fun t => (fun a : Nat => Value.int IntKind.u8 (a : Int)) <$> Rtype.kind t) #[.pointer (some ⟨5, 57, none⟩)]).run Tryd.prog w = .ok (.int .u8 22) w := by kernel_rfl
theorem A.kindA (w : World) : ((ReflectliteType.abiMethod fun t => (fun a : Nat => Value.int IntKind.u8 (a : Int)) <$> Rtype.kind t) #[.pointer (some ⟨5, 51, none⟩)]).run Tryd.prog w = .ok (.int .u8 22) w := by kernel_rfl

theorem rlm (z : Sem Value) (f : TypeId → Addr → Nat → Nat → Sem Value) (v : Value) :
    ReflectliteValue.method z f #[v] = (do match ← ReflectliteValue.parts v with | none => z | some (t, a, fl) => f t a fl (fl % 32)) := rfl
theorem A.partsPE (a : Addr) (w : World) : (ReflectliteValue.parts (.agg #[.pointer (some ⟨5, 56, none⟩), .pointer (some a), .int .u64 150])).run Tryd.prog w = .ok (some (56, a, 150)) w := by kernel_rfl
theorem A.partsPA (a : Addr) (w : World) : (ReflectliteValue.parts (.agg #[.pointer (some ⟨5, 57, none⟩), .pointer (some a), .int .u64 150])).run Tryd.prog w = .ok (some (57, a, 150)) w := by kernel_rfl
theorem A.isNilPE (a p : Addr) (W : World) (ha : W.cell? a = some (.pointer (some p))) :
    (ReflectliteValue.method (ReflectliteValue.valueError "reflectlite.Value.IsNil" 0) ReflectliteValue.isNil #[.agg #[.pointer (some ⟨5, 56, none⟩), .pointer (some a), .int .u64 150]]).run Tryd.prog W = .ok (.bool false) W := by
  rw [rlm]
  simp only [Sem.run_bind, A.partsPE, Result.andThen]
  simp [ReflectliteValue.isNil, loadVar, isAgg, underlying, Tryd.underlying56, ha, Result.andThen]
theorem A.isNilPA (a p : Addr) (W : World) (ha : W.cell? a = some (.pointer (some p))) :
    (ReflectliteValue.method (ReflectliteValue.valueError "reflectlite.Value.IsNil" 0) ReflectliteValue.isNil #[.agg #[.pointer (some ⟨5, 57, none⟩), .pointer (some a), .int .u64 150]]).run Tryd.prog W = .ok (.bool false) W := by
  rw [rlm]
  simp only [Sem.run_bind, A.partsPA, Result.andThen]
  simp [ReflectliteValue.isNil, loadVar, isAgg, underlying, Tryd.underlying57, ha, Result.andThen]

theorem A.elemPE (w : World) : (ReflectliteType.method ReflectliteType.elem #[.agg #[.pointer (some ⟨5, 56, none⟩)]]).run Tryd.prog w = .ok (.iface 98 (.agg #[.pointer (some ⟨5, 46, none⟩)])) w := by kernel_rfl
theorem A.elemPA (w : World) : (ReflectliteType.method ReflectliteType.elem #[.agg #[.pointer (some ⟨5, 57, none⟩)]]).run Tryd.prog w = .ok (.iface 98 (.agg #[.pointer (some ⟨5, 51, none⟩)])) w := by kernel_rfl
theorem A.implementsE (w : World) : (ReflectliteType.relation "Implements" ReflectliteType.implements_ #[.agg #[.pointer (some ⟨5, 46, none⟩)], .iface 98 (.agg #[.pointer (some ⟨5, 25, none⟩)])]).run Tryd.prog w = .ok (.bool true) w := by kernel_rfl
theorem A.implementsA (w : World) : (ReflectliteType.relation "Implements" ReflectliteType.implements_ #[.agg #[.pointer (some ⟨5, 51, none⟩)], .iface 98 (.agg #[.pointer (some ⟨5, 25, none⟩)])]).run Tryd.prog w = .ok (.bool true) w := by kernel_rfl
theorem A.typeOfE (v : Value) (w : World) : (ReflectliteType.typeOf #[.iface 46 v]).run Tryd.prog w = .ok (.iface 98 (.agg #[.pointer (some ⟨5, 46, none⟩)])) w := by kernel_rfl
theorem A.typeOfA (v : Value) (w : World) : (ReflectliteType.typeOf #[.iface 51 v]).run Tryd.prog w = .ok (.iface 98 (.agg #[.pointer (some ⟨5, 51, none⟩)])) w := by kernel_rfl
theorem A.assignableEE (w : World) : (ReflectliteType.relation "AssignableTo" ReflectliteType.assignableTo #[.agg #[.pointer (some ⟨5, 46, none⟩)], .iface 98 (.agg #[.pointer (some ⟨5, 46, none⟩)])]).run Tryd.prog w = .ok (.bool true) w := by kernel_rfl
theorem A.assignableAA (w : World) : (ReflectliteType.relation "AssignableTo" ReflectliteType.assignableTo #[.agg #[.pointer (some ⟨5, 51, none⟩)], .iface 98 (.agg #[.pointer (some ⟨5, 51, none⟩)])]).run Tryd.prog w = .ok (.bool true) w := by kernel_rfl
theorem A.assignableAE (w : World) : (ReflectliteType.relation "AssignableTo" ReflectliteType.assignableTo #[.agg #[.pointer (some ⟨5, 51, none⟩)], .iface 98 (.agg #[.pointer (some ⟨5, 46, none⟩)])]).run Tryd.prog w = .ok (.bool false) w := by kernel_rfl
theorem A.assignableEA (w : World) : (ReflectliteType.relation "AssignableTo" ReflectliteType.assignableTo #[.agg #[.pointer (some ⟨5, 46, none⟩)], .iface 98 (.agg #[.pointer (some ⟨5, 51, none⟩)])]).run Tryd.prog w = .ok (.bool false) w := by kernel_rfl
theorem A.valueOfE (n : Int) (w : World) : (ReflectliteValue.unpack (.iface 46 (.int .i64 n))).run Tryd.prog w
    = .ok (.agg #[.pointer (some ⟨5, 46, none⟩), .pointer (some ⟨w.heap.size, 0, none⟩), .int .u64 130]) (w.alloc (.cells #[.int .i64 n] 46)) := by kernel_rfl
theorem A.valueOfA (e : Addr) (w : World) : (ReflectliteValue.unpack (.iface 51 (.pointer (some e)))).run Tryd.prog w
    = .ok (.agg #[.pointer (some ⟨5, 51, none⟩), .pointer (some ⟨w.heap.size, 0, none⟩), .int .u64 150]) (w.alloc (.cells #[.pointer (some e)] 51)) := by kernel_rfl
theorem A.elemOfPE (w : World) : (Rtype.elem? 56).run Tryd.prog w = .ok (some 46) w := by kernel_rfl
theorem A.elemOfPA (w : World) : (Rtype.elem? 57).run Tryd.prog w = .ok (some 51) w := by kernel_rfl
theorem A.mkE (p : Addr) (w : World) : (ReflectliteValue.mk 46 p ReflectliteValue.flagAddr).run Tryd.prog w = .ok (.agg #[.pointer (some ⟨5, 46, none⟩), .pointer (some p), .int .u64 386]) w := by kernel_rfl
theorem A.mkA (p : Addr) (w : World) : (ReflectliteValue.mk 51 p ReflectliteValue.flagAddr).run Tryd.prog w = .ok (.agg #[.pointer (some ⟨5, 51, none⟩), .pointer (some p), .int .u64 406]) w := by kernel_rfl
theorem A.elemVPE (a p : Addr) (W : World) (ha : W.cell? a = some (.pointer (some p))) :
    (ReflectliteValue.method (ReflectliteValue.valueError "reflectlite.Value.Elem" 0) ReflectliteValue.elem #[.agg #[.pointer (some ⟨5, 56, none⟩), .pointer (some a), .int .u64 150]]).run Tryd.prog W
      = .ok (.agg #[.pointer (some ⟨5, 46, none⟩), .pointer (some p), .int .u64 386]) W := by
  rw [rlm]
  simp only [Sem.run_bind, A.partsPE, Result.andThen]
  simp [ReflectliteValue.elem, loadVar, isAgg, underlying, Tryd.underlying56, ha, Result.andThen, A.elemOfPE, A.mkE]
theorem A.elemVPA (a p : Addr) (W : World) (ha : W.cell? a = some (.pointer (some p))) :
    (ReflectliteValue.method (ReflectliteValue.valueError "reflectlite.Value.Elem" 0) ReflectliteValue.elem #[.agg #[.pointer (some ⟨5, 57, none⟩), .pointer (some a), .int .u64 150]]).run Tryd.prog W
      = .ok (.agg #[.pointer (some ⟨5, 51, none⟩), .pointer (some p), .int .u64 406]) W := by
  rw [rlm]
  simp only [Sem.run_bind, A.partsPA, Result.andThen]
  simp [ReflectliteValue.elem, loadVar, isAgg, underlying, Tryd.underlying57, ha, Result.andThen, A.elemOfPA, A.mkA]
theorem rls (v x : Value) : ReflectliteValue.set #[v, x] = (do
    let (some (dst, a, fl), some (src, b, _)) := (← ReflectliteValue.parts v, ← ReflectliteValue.parts x)
      | unsupported (.noEntry "extern/(internal/reflectlite.Value).Set.zeroValue")
    if fl / ReflectliteValue.flagAddr % 2 == 0 then unsupported (.noEntry "extern/(internal/reflectlite.Value).Set.unaddressable")
    let val ← loadVar src b
    if ← Rtype.directlyAssignable dst src then storeVar dst a val
    else if ← Rtype.implements dst src then
      if (← Rtype.kind src) == 20 then
        match val with
        | .nilIface => unsupported (.noEntry "extern/reflectlite: a nil value of one interface type handed on as a value of another")
        | _ => storeVar dst a val
      else storeVar dst a (.iface src val)
    else panicString ("reflectlite.Set: value of type " ++ (← Rtype.spelt src) ++ " is not assignable to type " ++ (← Rtype.spelt dst))
    pure (.tuple #[])) := rfl
theorem A.partsEa (a : Addr) (w : World) : (ReflectliteValue.parts (.agg #[.pointer (some ⟨5, 46, none⟩), .pointer (some a), .int .u64 386])).run Tryd.prog w = .ok (some (46, a, 386)) w := by kernel_rfl
theorem A.partsE (a : Addr) (w : World) : (ReflectliteValue.parts (.agg #[.pointer (some ⟨5, 46, none⟩), .pointer (some a), .int .u64 130])).run Tryd.prog w = .ok (some (46, a, 130)) w := by kernel_rfl
theorem A.partsAa (a : Addr) (w : World) : (ReflectliteValue.parts (.agg #[.pointer (some ⟨5, 51, none⟩), .pointer (some a), .int .u64 406])).run Tryd.prog w = .ok (some (51, a, 406)) w := by kernel_rfl
theorem A.partsA (a : Addr) (w : World) : (ReflectliteValue.parts (.agg #[.pointer (some ⟨5, 51, none⟩), .pointer (some a), .int .u64 150])).run Tryd.prog w = .ok (some (51, a, 150)) w := by kernel_rfl
theorem A.directE (w : World) : (Rtype.directlyAssignable 46 46).run Tryd.prog w = .ok true w := by kernel_rfl
theorem A.directA (w : World) : (Rtype.directlyAssignable 51 51).run Tryd.prog w = .ok true w := by kernel_rfl
theorem A.setE (ta b : Addr) (n : Int) (old : Value) (W : World) (hb : W.cell? b = some (.int .i64 n)) (ht : W.cell? ta = some old) (hf : W.frozen? ta = false) :
    (ReflectliteValue.set #[.agg #[.pointer (some ⟨5, 46, none⟩), .pointer (some ta), .int .u64 386], .agg #[.pointer (some ⟨5, 46, none⟩), .pointer (some b), .int .u64 130]]).run Tryd.prog W
      = .ok (.tuple #[]) (W.setCell ta (.int .i64 n)) := by
  rw [rls]
  simp only [Sem.run_bind, A.partsEa, A.partsE, Result.andThen]
  simp [ReflectliteValue.flagAddr, loadVar, isAgg, underlying, Tryd.underlying46, hb, Result.andThen, A.directE, storeVar, Value.cells, storeCells, Addr.add]
  rw [run_store Tryd.prog W ta _ _ (by rfl)]
  simp [ht, hf]
theorem A.setA (ta b e : Addr) (old : Value) (W : World) (hb : W.cell? b = some (.pointer (some e))) (ht : W.cell? ta = some old) (hf : W.frozen? ta = false) :
    (ReflectliteValue.set #[.agg #[.pointer (some ⟨5, 51, none⟩), .pointer (some ta), .int .u64 406], .agg #[.pointer (some ⟨5, 51, none⟩), .pointer (some b), .int .u64 150]]).run Tryd.prog W
      = .ok (.tuple #[]) (W.setCell ta (.pointer (some e))) := by
  rw [rls]
  simp only [Sem.run_bind, A.partsAa, A.partsA, Result.andThen]
  simp [ReflectliteValue.flagAddr, loadVar, isAgg, underlying, Tryd.underlying51, hb, Result.andThen, A.directA, storeVar, Value.cells, storeCells, Addr.add]
  rw [run_store Tryd.prog W ta _ _ (by rfl)]
  simp [ht, hf]

/-! ### the type assertions of errors.as -/
theorem A.noAsA (v : Value) (xT : TypeId) (w : World) : (Instr.typeAssert (.iface 51 v) xT 103 true).run Tryd.prog w = .ok (.tuple #[.nilIface, .bool false]) w := run_typeAssert_lacksB Tryd.underlying103 (by kernel_rfl) (by kernel_rfl) v xT w
theorem A.noAsE (v : Value) (xT : TypeId) (w : World) : (Instr.typeAssert (.iface 46 v) xT 103 true).run Tryd.prog w = .ok (.tuple #[.nilIface, .bool false]) w := run_typeAssert_lacksB Tryd.underlying103 (by kernel_rfl) (by kernel_rfl) v xT w
theorem A.unA (v : Value) (xT : TypeId) (w : World) : (Instr.typeAssert (.iface 51 v) xT 106 true).run Tryd.prog w = .ok (.tuple #[.iface 51 v, .bool true]) w := run_typeAssert_hasB Tryd.underlying106 (by kernel_rfl) v xT w
theorem A.noUnE (v : Value) (xT : TypeId) (w : World) : (Instr.typeAssert (.iface 46 v) xT 106 true).run Tryd.prog w = .ok (.tuple #[.nilIface, .bool false]) w := run_typeAssert_lacksB Tryd.underlying106 (by kernel_rfl) (by kernel_rfl) v xT w
theorem A.noUnsE (v : Value) (xT : TypeId) (w : World) : (Instr.typeAssert (.iface 46 v) xT 108 true).run Tryd.prog w = .ok (.tuple #[.nilIface, .bool false]) w := run_typeAssert_lacksB Tryd.underlying108 (by kernel_rfl) (by kernel_rfl) v xT w

end Go.Proofs.YtgdbjkkanjgbnaaDoor

namespace Go.Proofs.YtgdbjkkanjgbnaaDoor
open Go.RowKit Go.Extern.Stop Go.Stop Go.Extern

/-! ### the functions without a body, by name -/
theorem A.xValueOf (args : Array Value) (w : World) : (callFunc 39 args).run Tryd.prog w = (((fun args : Array Value => ReflectliteValue.unpack (args.getD 0 (.tuple #[]))) args).run Tryd.prog w).andThen fun v w' => .ok (.value v) w' :=
  run_callFunc_extern (e := (fun args : Array Value => ReflectliteValue.unpack (args.getD 0 (.tuple #[])))) Tryd.func39 (by kernel_rfl) (by kernel_rfl) (by kernel_rfl) (by kernel_rfl) args w
theorem A.xType (args : Array Value) (w : World) : (callFunc 40 args).run Tryd.prog w = (((ReflectliteValue.methodAny (ReflectliteValue.valueError "reflectlite.Value.Type" 0) (fun t _ _ _ => ReflectliteType.toType t)) args).run Tryd.prog w).andThen fun v w' => .ok (.value v) w' :=
  run_callFunc_extern (e := (ReflectliteValue.methodAny (ReflectliteValue.valueError "reflectlite.Value.Type" 0) (fun t _ _ _ => ReflectliteType.toType t))) Tryd.func40 (by kernel_rfl) (by kernel_rfl) (by kernel_rfl) (by kernel_rfl) args w
theorem A.xIsNil (args : Array Value) (w : World) : (callFunc 41 args).run Tryd.prog w = (((ReflectliteValue.method (ReflectliteValue.valueError "reflectlite.Value.IsNil" 0) ReflectliteValue.isNil) args).run Tryd.prog w).andThen fun v w' => .ok (.value v) w' :=
  run_callFunc_extern (e := (ReflectliteValue.method (ReflectliteValue.valueError "reflectlite.Value.IsNil" 0) ReflectliteValue.isNil)) Tryd.func41 (by kernel_rfl) (by kernel_rfl) (by kernel_rfl) (by kernel_rfl) args w
theorem A.xKind (args : Array Value) (w : World) : (callFunc 80 args).run Tryd.prog w = (((ReflectliteType.abiMethod fun t => do pure (.int .u8 (← Rtype.kind t))) args).run Tryd.prog w).andThen fun v w' => .ok (.value v) w' :=
  run_callFunc_extern (e := (ReflectliteType.abiMethod fun t => do pure (.int .u8 (← Rtype.kind t)))) Tryd.func80 (by kernel_rfl) (by kernel_rfl) (by kernel_rfl) (by kernel_rfl) args w
theorem A.xElem (args : Array Value) (w : World) : (callFunc 93 args).run Tryd.prog w = (((ReflectliteType.method ReflectliteType.elem) args).run Tryd.prog w).andThen fun v w' => .ok (.value v) w' :=
  run_callFunc_extern (e := (ReflectliteType.method ReflectliteType.elem)) Tryd.func93 (by kernel_rfl) (by kernel_rfl) (by kernel_rfl) (by kernel_rfl) args w
theorem A.xImplements (args : Array Value) (w : World) : (callFunc 94 args).run Tryd.prog w = (((ReflectliteType.relation "Implements" ReflectliteType.implements_) args).run Tryd.prog w).andThen fun v w' => .ok (.value v) w' :=
  run_callFunc_extern (e := (ReflectliteType.relation "Implements" ReflectliteType.implements_)) Tryd.func94 (by kernel_rfl) (by kernel_rfl) (by kernel_rfl) (by kernel_rfl) args w
theorem A.xTypeOf (args : Array Value) (w : World) : (callFunc 50 args).run Tryd.prog w = ((ReflectliteType.typeOf args).run Tryd.prog w).andThen fun v w' => .ok (.value v) w' :=
  run_callFunc_extern (e := ReflectliteType.typeOf) Tryd.func50 (by kernel_rfl) (by kernel_rfl) (by kernel_rfl) (by kernel_rfl) args w
theorem A.xAssignableTo (args : Array Value) (w : World) : (callFunc 91 args).run Tryd.prog w = (((ReflectliteType.relation "AssignableTo" ReflectliteType.assignableTo) args).run Tryd.prog w).andThen fun v w' => .ok (.value v) w' :=
  run_callFunc_extern (e := (ReflectliteType.relation "AssignableTo" ReflectliteType.assignableTo)) Tryd.func91 (by kernel_rfl) (by kernel_rfl) (by kernel_rfl) (by kernel_rfl) args w
theorem A.xElemV (args : Array Value) (w : World) : (callFunc 51 args).run Tryd.prog w = (((ReflectliteValue.method (ReflectliteValue.valueError "reflectlite.Value.Elem" 0) ReflectliteValue.elem) args).run Tryd.prog w).andThen fun v w' => .ok (.value v) w' :=
  run_callFunc_extern (e := (ReflectliteValue.method (ReflectliteValue.valueError "reflectlite.Value.Elem" 0) ReflectliteValue.elem)) Tryd.func51 (by kernel_rfl) (by kernel_rfl) (by kernel_rfl) (by kernel_rfl) args w
theorem A.xSet (args : Array Value) (w : World) : (callFunc 52 args).run Tryd.prog w = ((ReflectliteValue.set args).run Tryd.prog w).andThen fun v w' => .ok (.value v) w' :=
  run_callFunc_extern (e := ReflectliteValue.set) Tryd.func52 (by kernel_rfl) (by kernel_rfl) (by kernel_rfl) (by kernel_rfl) args w
attribute [local go_sem] A.xValueOf A.xType A.xIsNil A.xKind A.xElem A.xImplements A.xTypeOf A.xAssignableTo A.xElemV A.xSet A.valueOfPE A.typePE A.valueOfPA A.typePA A.methodKind A.methodElem A.methodImplements A.methodAssignableTo A.methodUnwrap A.kindPE A.kindE A.kindPA A.kindA A.elemPE A.elemPA A.implementsE A.implementsA A.typeOfE A.typeOfA A.assignableEE A.assignableAA A.assignableAE A.assignableEA A.valueOfE A.valueOfA A.noAsA A.noAsE A.unA A.noUnE A.noUnsE

/-- What errors.errorType holds. -/
def ErrorType (w : World) : Prop := w.cell? ⟨0, 0, none⟩ = some (.iface 98 (.agg #[.pointer (some ⟨5, 25, none⟩)]))
set_option maxHeartbeats 2000000 in
/-- errors.As(an Errno, a *Errno): true; the target is it. -/
theorem as_EE (n : Int) (t : Addr) (old : Value) (w : World) (hg : ErrorType w) (ht0 : w.cell? t = some old) (hf0 : w.frozen? t = false) :
    Calls Tryd.prog 25 #[.iface 46 (.int .i64 n), .iface 56 (.pointer (some t))] w fun ev w' => ev = .returned (.bool true) ∧ Below w.heap.size (w.setCell t (.int .i64 n)) w' := by
  unfold ErrorType at hg
  have hlt : 0 < w.heap.size := lt_of_cell hg
  have htl : t.block < w.heap.size := lt_of_cell ht0
  have n8 := A.isNilPE ⟨w.heap.size, 0, none⟩ t ((w.alloc (.cells #[.pointer (some t)] 56)).alloc (.cells #[.pointer (some ⟨5, 56, none⟩), .pointer (some ⟨w.heap.size, 0, none⟩), .int .u64 150] 83)) (by simp)
  have hg2 : ((w.alloc (.cells #[.pointer (some t)] 56)).alloc (.cells #[.pointer (some ⟨5, 56, none⟩), .pointer (some ⟨w.heap.size, 0, none⟩), .int .u64 150] 83)).cell? ⟨0, 0, none⟩ = some (.iface 98 (.agg #[.pointer (some ⟨5, 25, none⟩)])) := by
    rw [World.cell?_alloc_lt _ _ ⟨0, 0, none⟩ (by simp; try omega), World.cell?_alloc_lt _ _ ⟨0, 0, none⟩ hlt]; exact hg
  have el := A.elemVPE ⟨w.heap.size, 0, none⟩ t (((w.alloc (.cells #[.pointer (some t)] 56)).alloc (.cells #[.pointer (some ⟨5, 56, none⟩), .pointer (some ⟨w.heap.size, 0, none⟩), .int .u64 150] 83)).alloc (.cells #[.pointer (some ⟨5, 56, none⟩), .pointer (some ⟨w.heap.size, 0, none⟩), .int .u64 150] 83)) (by rw [World.cell?_alloc_lt _ _ ⟨w.heap.size, 0, none⟩ (by simp; omega)]; simp)
  have st := A.setE t ⟨w.heap.size + 1 + 1 + 1, 0, none⟩ n old ((((w.alloc (.cells #[.pointer (some t)] 56)).alloc (.cells #[.pointer (some ⟨5, 56, none⟩), .pointer (some ⟨w.heap.size, 0, none⟩), .int .u64 150] 83)).alloc (.cells #[.pointer (some ⟨5, 56, none⟩), .pointer (some ⟨w.heap.size, 0, none⟩), .int .u64 150] 83)).alloc (.cells #[.int .i64 n] 46))
    (by rw [World.cell?_alloc_at _ _ _ _ (by simp)]; rfl)
    (by rw [World.cell?_alloc_lt _ _ t (by simp; omega), World.cell?_alloc_lt _ _ t (by simp; omega), World.cell?_alloc_lt _ _ t (by simp; omega), World.cell?_alloc_lt _ _ t htl]; exact ht0)
    (by rw [World.frozen?_alloc_old _ _ t (by simp; omega), World.frozen?_alloc_old _ _ t (by simp; omega), World.frozen?_alloc_old _ _ t (by simp; omega), World.frozen?_alloc_old _ _ t (Nat.ne_of_lt htl)]; exact hf0)
  go_enter Tryd.func25, Tryd.ntmps25
  go_wp2
  refine wp_loop_rounds 1 ?_
  rw [rounds_succ]
  go_wp2
  go_ret
  exact ⟨rfl, below_setCell_both (((((Below.refl _ _).alloc (by simp) _).alloc (by simp; try omega) _).alloc (by simp; try omega) _).alloc (by simp; try omega) _) _ _⟩

set_option maxHeartbeats 2000000 in
/-- errors.As(an *At that holds an Errno, a *Errno): true; the target is the Errno. -/
theorem as_AE (ab ao : Nat) (pos n : Int) (t : Addr) (old : Value) (w : World) (hg : ErrorType w) (ht0 : w.cell? t = some old) (hf0 : w.frozen? t = false)
    (ha : w.cell? ⟨ab, ao, none⟩ = some (.int .i64 pos)) (ha1 : w.cell? ⟨ab, ao + 1, none⟩ = some (.iface 46 (.int .i64 n))) :
    Calls Tryd.prog 25 #[.iface 51 (.pointer (some ⟨ab, ao, none⟩)), .iface 56 (.pointer (some t))] w fun ev w' => ev = .returned (.bool true) ∧ Below w.heap.size (w.setCell t (.int .i64 n)) w' := by
  unfold ErrorType at hg
  have hlt : 0 < w.heap.size := lt_of_cell hg
  have htl : t.block < w.heap.size := lt_of_cell ht0
  have hal : ab < w.heap.size := lt_of_cell ha
  have n8 := A.isNilPE ⟨w.heap.size, 0, none⟩ t ((w.alloc (.cells #[.pointer (some t)] 56)).alloc (.cells #[.pointer (some ⟨5, 56, none⟩), .pointer (some ⟨w.heap.size, 0, none⟩), .int .u64 150] 83)) (by simp)
  have hg2 : ((w.alloc (.cells #[.pointer (some t)] 56)).alloc (.cells #[.pointer (some ⟨5, 56, none⟩), .pointer (some ⟨w.heap.size, 0, none⟩), .int .u64 150] 83)).cell? ⟨0, 0, none⟩ = some (.iface 98 (.agg #[.pointer (some ⟨5, 25, none⟩)])) := by
    rw [World.cell?_alloc_lt _ _ ⟨0, 0, none⟩ (by simp; try omega), World.cell?_alloc_lt _ _ ⟨0, 0, none⟩ hlt]; exact hg
  have n1 : ab < w.heap.size + 1 := by omega
  have n2 : ab < w.heap.size + 1 + 1 := by omega
  have el := A.elemVPE ⟨w.heap.size, 0, none⟩ t (((w.alloc (.cells #[.pointer (some t)] 56)).alloc (.cells #[.pointer (some ⟨5, 56, none⟩), .pointer (some ⟨w.heap.size, 0, none⟩), .int .u64 150] 83)).alloc (.cells #[.pointer (some ⟨5, 56, none⟩), .pointer (some ⟨w.heap.size, 0, none⟩), .int .u64 150] 83)) (by rw [World.cell?_alloc_lt _ _ ⟨w.heap.size, 0, none⟩ (by simp; omega)]; simp)
  have st := A.setE t ⟨w.heap.size + 1 + 1 + 1, 0, none⟩ n old ((((w.alloc (.cells #[.pointer (some t)] 56)).alloc (.cells #[.pointer (some ⟨5, 56, none⟩), .pointer (some ⟨w.heap.size, 0, none⟩), .int .u64 150] 83)).alloc (.cells #[.pointer (some ⟨5, 56, none⟩), .pointer (some ⟨w.heap.size, 0, none⟩), .int .u64 150] 83)).alloc (.cells #[.int .i64 n] 46))
    (by rw [World.cell?_alloc_at _ _ _ _ (by simp)]; rfl)
    (by rw [World.cell?_alloc_lt _ _ t (by simp; omega), World.cell?_alloc_lt _ _ t (by simp; omega), World.cell?_alloc_lt _ _ t (by simp; omega), World.cell?_alloc_lt _ _ t htl]; exact ht0)
    (by rw [World.frozen?_alloc_old _ _ t (by simp; omega), World.frozen?_alloc_old _ _ t (by simp; omega), World.frozen?_alloc_old _ _ t (by simp; omega), World.frozen?_alloc_old _ _ t (Nat.ne_of_lt htl)]; exact hf0)
  go_enter Tryd.func25, Tryd.ntmps25
  go_wp2
  refine wp_loop_rounds 2 ?_
  rw [rounds_succ]
  go_wp2
  rw [rounds_succ]
  go_wp2
  go_ret
  exact ⟨rfl, below_setCell_both (((((Below.refl _ _).alloc (by simp) _).alloc (by simp; try omega) _).alloc (by simp; try omega) _).alloc (by simp; try omega) _) _ _⟩

set_option maxHeartbeats 2000000 in
/-- errors.As(an *At, a **At): true; the target is it. -/
theorem as_AA (a : Addr) (t : Addr) (old : Value) (w : World) (hg : ErrorType w) (ht0 : w.cell? t = some old) (hf0 : w.frozen? t = false) :
    Calls Tryd.prog 25 #[.iface 51 (.pointer (some a)), .iface 57 (.pointer (some t))] w fun ev w' => ev = .returned (.bool true) ∧ Below w.heap.size (w.setCell t (.pointer (some a))) w' := by
  unfold ErrorType at hg
  have hlt : 0 < w.heap.size := lt_of_cell hg
  have htl : t.block < w.heap.size := lt_of_cell ht0
  have n8 := A.isNilPA ⟨w.heap.size, 0, none⟩ t ((w.alloc (.cells #[.pointer (some t)] 57)).alloc (.cells #[.pointer (some ⟨5, 57, none⟩), .pointer (some ⟨w.heap.size, 0, none⟩), .int .u64 150] 83)) (by simp)
  have hg2 : ((w.alloc (.cells #[.pointer (some t)] 57)).alloc (.cells #[.pointer (some ⟨5, 57, none⟩), .pointer (some ⟨w.heap.size, 0, none⟩), .int .u64 150] 83)).cell? ⟨0, 0, none⟩ = some (.iface 98 (.agg #[.pointer (some ⟨5, 25, none⟩)])) := by
    rw [World.cell?_alloc_lt _ _ ⟨0, 0, none⟩ (by simp; try omega), World.cell?_alloc_lt _ _ ⟨0, 0, none⟩ hlt]; exact hg
  have el := A.elemVPA ⟨w.heap.size, 0, none⟩ t (((w.alloc (.cells #[.pointer (some t)] 57)).alloc (.cells #[.pointer (some ⟨5, 57, none⟩), .pointer (some ⟨w.heap.size, 0, none⟩), .int .u64 150] 83)).alloc (.cells #[.pointer (some ⟨5, 57, none⟩), .pointer (some ⟨w.heap.size, 0, none⟩), .int .u64 150] 83)) (by rw [World.cell?_alloc_lt _ _ ⟨w.heap.size, 0, none⟩ (by simp; omega)]; simp)
  have st := A.setA t ⟨w.heap.size + 1 + 1 + 1, 0, none⟩ a old ((((w.alloc (.cells #[.pointer (some t)] 57)).alloc (.cells #[.pointer (some ⟨5, 57, none⟩), .pointer (some ⟨w.heap.size, 0, none⟩), .int .u64 150] 83)).alloc (.cells #[.pointer (some ⟨5, 57, none⟩), .pointer (some ⟨w.heap.size, 0, none⟩), .int .u64 150] 83)).alloc (.cells #[.pointer (some a)] 51))
    (by rw [World.cell?_alloc_at _ _ _ _ (by simp)]; rfl)
    (by rw [World.cell?_alloc_lt _ _ t (by simp; omega), World.cell?_alloc_lt _ _ t (by simp; omega), World.cell?_alloc_lt _ _ t (by simp; omega), World.cell?_alloc_lt _ _ t htl]; exact ht0)
    (by rw [World.frozen?_alloc_old _ _ t (by simp; omega), World.frozen?_alloc_old _ _ t (by simp; omega), World.frozen?_alloc_old _ _ t (by simp; omega), World.frozen?_alloc_old _ _ t (Nat.ne_of_lt htl)]; exact hf0)
  go_enter Tryd.func25, Tryd.ntmps25
  go_wp2
  refine wp_loop_rounds 1 ?_
  rw [rounds_succ]
  go_wp2
  go_ret
  exact ⟨rfl, below_setCell_both (((((Below.refl _ _).alloc (by simp) _).alloc (by simp; try omega) _).alloc (by simp; try omega) _).alloc (by simp; try omega) _) _ _⟩

set_option maxHeartbeats 2000000 in
/-- errors.As(an Errno, a **At): false. -/
theorem as_EA (n : Int) (t : Addr) (old : Value) (w : World) (hg : ErrorType w) (ht0 : w.cell? t = some old) :
    Calls Tryd.prog 25 #[.iface 46 (.int .i64 n), .iface 57 (.pointer (some t))] w fun ev w' => ev = .returned (.bool false) ∧ Below w.heap.size w w' := by
  unfold ErrorType at hg
  have hlt : 0 < w.heap.size := lt_of_cell hg
  have htl : t.block < w.heap.size := lt_of_cell ht0
  have n8 := A.isNilPA ⟨w.heap.size, 0, none⟩ t ((w.alloc (.cells #[.pointer (some t)] 57)).alloc (.cells #[.pointer (some ⟨5, 57, none⟩), .pointer (some ⟨w.heap.size, 0, none⟩), .int .u64 150] 83)) (by simp)
  have hg2 : ((w.alloc (.cells #[.pointer (some t)] 57)).alloc (.cells #[.pointer (some ⟨5, 57, none⟩), .pointer (some ⟨w.heap.size, 0, none⟩), .int .u64 150] 83)).cell? ⟨0, 0, none⟩ = some (.iface 98 (.agg #[.pointer (some ⟨5, 25, none⟩)])) := by
    rw [World.cell?_alloc_lt _ _ ⟨0, 0, none⟩ (by simp; try omega), World.cell?_alloc_lt _ _ ⟨0, 0, none⟩ hlt]; exact hg
  go_enter Tryd.func25, Tryd.ntmps25
  go_wp2
  refine wp_loop_rounds 1 ?_
  rw [rounds_succ]
  go_wp2
  go_ret
  exact ⟨rfl, (((Below.refl _ _).alloc (by simp) _).alloc (by simp; try omega) _).alloc (by simp; try omega) _⟩
end Go.Proofs.YtgdbjkkanjgbnaaDoor

namespace Go.Proofs.YtgdbjkkanjgbnaaDoor
open Go.RowKit
set_option linter.unusedVariables false

/-- The program's plain errors. -/
inductive GErr where
  | nil
  | no (n : Int)
  | at_ (pos n : Int)
/-- The error's number, as Num tells it. -/
def GErr.num : GErr → Int
  | .nil => 0
  | .no n => n
  | .at_ _ n => n
/-- The error's place, as Pos tells it. -/
def GErr.pos : GErr → Int
  | .nil => -1
  | .no _ => -1
  | .at_ p _ => p
attribute [simp, go_sem] GErr.num GErr.pos
/-- A value that is an error in a world. -/
def IsErr (w : World) : GErr → Value → Prop
  | .nil, v => v = .nilIface
  | .no n, v => v = .iface 46 (.int .i64 n)
  | .at_ p n, v => ∃ b o, v = .iface 51 (.pointer (some ⟨b, o, none⟩)) ∧ w.cell? ⟨b, o, none⟩ = some (.int .i64 p) ∧ w.cell? ⟨b, o + 1, none⟩ = some (.iface 46 (.int .i64 n))
theorem IsErr.below {w w' : World} {e : GErr} {v : Value} (h : IsErr w e v) (hb : Below w.heap.size w w') : IsErr w' e v := by
  cases e with
  | nil => exact h
  | no n => exact h
  | at_ p n =>
    obtain ⟨b, o, hv, h1, h2⟩ := h
    exact ⟨b, o, hv, by rw [hb.cell (p := ⟨b, o, none⟩) (lt_of_cell h1)]; exact h1, by rw [hb.cell (p := ⟨b, o + 1, none⟩) (lt_of_cell h2)]; exact h2⟩
theorem ErrorType.below {B : Nat} {w w' : World} (h : ErrorType w) (hb : Below B w w') (hB : 0 < B) : ErrorType w' := by
  unfold ErrorType at *
  rw [hb.cell (p := ⟨0, 0, none⟩) hB]; exact h
theorem ErrorType.lt {w : World} (h : ErrorType w) : 0 < w.heap.size := lt_of_cell h

set_option maxHeartbeats 1000000 in
theorem num_any (e : GErr) (v : Value) (w : World) (hg : ErrorType w) (he : IsErr w e v) :
    Calls Tryd.prog 10 #[v] w fun ev w' => ev = .returned (.int .i64 e.num) ∧ Below w.heap.size w w' := by
  have hlt := hg.lt
  have hgA : ErrorType (w.alloc (.cells #[.int .i64 0] 46)) := hg.below ((Below.refl w.heap.size w).alloc (Nat.le_refl _) _) hlt
  cases e with
  | nil =>
    obtain rfl : v = .nilIface := he
    go_enter Tryd.func10, Tryd.ntmps10
    go_wp2
    go_ret
    exact ⟨rfl, Below.refl _ _⟩
  | no n =>
    obtain rfl : v = .iface 46 (.int .i64 n) := he
    go_enter Tryd.func10, Tryd.ntmps10
    go_wp2_with (go_at_call 25; refine (as_EE n _ (.int .i64 0) _ hgA (by simp) (by simp)).mono ?_; rintro e w1 ⟨rfl, hb⟩; have hc := cell_of_set hb; have hd := hid (below_of_set hb); clear hb)
    go_ret
    exact ⟨rfl, hd.out⟩
  | at_ p n =>
    obtain ⟨b, o, rfl, h1, h2⟩ := he
    have hbl : b < w.heap.size := lt_of_cell h1
    have h1' : (w.alloc (.cells #[.int .i64 0] 46)).cell? ⟨b, o, none⟩ = some (.int .i64 p) := by rw [World.cell?_alloc_lt _ _ ⟨b, o, none⟩ hbl]; exact h1
    have h2' : (w.alloc (.cells #[.int .i64 0] 46)).cell? ⟨b, o + 1, none⟩ = some (.iface 46 (.int .i64 n)) := by rw [World.cell?_alloc_lt _ _ ⟨b, o + 1, none⟩ hbl]; exact h2
    go_enter Tryd.func10, Tryd.ntmps10
    go_wp2_with (go_at_call 25; refine (as_AE b o p n _ (.int .i64 0) _ hgA (by simp) (by simp) h1' h2').mono ?_; rintro e w1 ⟨rfl, hb⟩; have hc := cell_of_set hb; have hd := hid (below_of_set hb); clear hb)
    go_ret
    exact ⟨rfl, hd.out⟩

set_option maxHeartbeats 1000000 in
theorem pos_any (e : GErr) (v : Value) (w : World) (hg : ErrorType w) (he : IsErr w e v) :
    Calls Tryd.prog 11 #[v] w fun ev w' => ev = .returned (.int .i64 e.pos) ∧ Below w.heap.size w w' := by
  have hlt := hg.lt
  have hgA : ErrorType (w.alloc (.cells #[.pointer none] 51)) := hg.below ((Below.refl w.heap.size w).alloc (Nat.le_refl _) _) hlt
  cases e with
  | nil =>
    obtain rfl : v = .nilIface := he
    go_enter Tryd.func11, Tryd.ntmps11
    go_wp2
    go_ret
    exact ⟨rfl, (Below.refl w.heap.size w).alloc (Nat.le_refl _) _⟩
  | no n =>
    obtain rfl : v = .iface 46 (.int .i64 n) := he
    go_enter Tryd.func11, Tryd.ntmps11
    go_wp2_with (go_at_call 25; refine (as_EA n _ (.pointer none) _ hgA (by simp)).mono ?_; rintro e w1 ⟨rfl, hb⟩; have hd := hid (((Below.refl w.heap.size w).alloc (Nat.le_refl _) (.cells #[.pointer none] 51)).trans (hb.mono (by simp))); clear hb)
    go_ret
    exact ⟨rfl, hd.out⟩
  | at_ p n =>
    obtain ⟨b, o, rfl, h1, h2⟩ := he
    have hbl : b < w.heap.size := lt_of_cell h1
    go_enter Tryd.func11, Tryd.ntmps11
    go_wp2_with (go_at_call 25; refine (as_AA ⟨b, o, none⟩ _ (.pointer none) _ hgA (by simp) (by simp)).mono ?_; rintro e w1 ⟨rfl, hb⟩; have hc := cell_of_set hb; have hd := hid (below_of_set hb); have hcp : w1.cell? ⟨b, o, none⟩ = some (.int .i64 p) := (by rw [hd.out.cell (p := ⟨b, o, none⟩) hbl]; exact h1); clear hb)
    go_ret
    exact ⟨rfl, hd.out⟩
end Go.Proofs.YtgdbjkkanjgbnaaDoor

namespace Go.Proofs.YtgdbjkkanjgbnaaDoor
open Go.RowKit
set_option linter.unusedVariables false

/-- A slice value that reads as bytes. -/
def ReadsB (w : World) (v : Value) (l : List UInt8) : Prop :=
  (v = .slice none 0 0 ∧ l = []) ∨ ∃ b o cap, v = .slice (some ⟨b, o, none⟩) l.length cap ∧ l.length ≤ cap ∧ ∀ i, i < l.length → w.cell? ⟨b, o + i, none⟩ = some (cellOf (l.getD i 0))
/-- A slice value that owns its bytes, in blocks from base on. -/
def OwnB (w : World) (base : Nat) (e : TypeId) (v : Value) (l : List UInt8) : Prop := w.ownsRow base e 1 v l.length (l.map cellOf)
theorem getD_map_cell (l : List UInt8) (i : Nat) (h : i < l.length) : (l.map cellOf)[i]? = some (cellOf (l.getD i 0)) := by simp [List.getD, h]
theorem OwnB.reads {w : World} {base : Nat} {e : TypeId} {v : Value} {l : List UInt8} (h : OwnB w base e v l) : ReadsB w v l := by
  obtain ⟨h1, h2⟩ := h
  rcases h2 with ⟨rfl, h3⟩ | ⟨g, cap, cur, rfl, hb, hg, hn, hm, hs, ht⟩
  · exact .inl ⟨rfl, List.eq_nil_of_length_eq_zero h3⟩
  · refine .inr ⟨g, 0, cap, rfl, hn, fun i hi => ?_⟩
    have hc := getD_map_cell l i hi
    rw [← ht, List.getElem?_take] at hc
    rw [if_pos (by omega)] at hc
    simp only [World.cell?, hg, Nat.zero_add]
    simpa using hc
theorem OwnB.nil (w : World) (base : Nat) (e : TypeId) : OwnB w base e (.slice none 0 0) [] := World.ownsRow_nil w base e 1
/-- A new block of bytes is owned. -/
theorem OwnB.new (w : World) (base : Nat) (e : TypeId) (C : Array Value) (l : List UInt8) (n : Nat) (hn : n = l.length) (hC : C.toList = l.map cellOf) (hb : base ≤ w.heap.size) (hm : n ≤ maxLen) : OwnB (w.alloc (.cells C e)) base e (.slice (some ⟨w.heap.size, 0, none⟩) n n) l := by
  subst hn
  refine ⟨by simp, .inr ⟨w.heap.size, l.length, C, rfl, hb, ?_, Nat.le_refl _, hm, ?_, ?_⟩⟩
  · show (w.heap.push _)[w.heap.size]? = _; simp
  · have := congrArg List.length hC; simpa using this
  · rw [hC, List.take_of_length_le (by simp)]
theorem ReadsB.below {w w' : World} {v : Value} {l : List UInt8} (h : ReadsB w v l) (hb : Below w.heap.size w w') : ReadsB w' v l := by
  rcases h with h | ⟨b, o, cap, hv, hc, hcell⟩
  · exact .inl h
  · exact .inr ⟨b, o, cap, hv, hc, fun i hi => by rw [hb.cell (p := ⟨b, o + i, none⟩) (lt_of_cell (hcell i hi))]; exact hcell i hi⟩
/-- A slice of bytes, by its type's facts. -/
structure ByteT (P : Program) (t e : TypeId) : Prop where
  slice : P.underlying t = some (.slice e)
  byte : P.underlying e = some (.int .u8)
  info : (P.info? e).map (fun i => (i.zero, i.size, i.bytes)) = some (some (.int .u8 0), 1, 1)

/-- append(owned bytes, bytes): what it comes to. -/
theorem run_append_b {P : Program} {t e : TypeId} (HT : ByteT P t e) {w : World} (ty : TypeId) (base : Nat) (l m : List UInt8) (v xv : Value)
    (hown : OwnB w base e v l) (hm : ReadsB w xv m) (hlen : l.length + m.length ≤ 1099511627776) (hbase : base ≤ w.heap.size) :
    ∃ v' w', (Builtin.append_ #[t, t] ty #[v, xv]).run P w = .ok v' w' ∧ OwnB w' base e v' (l ++ m) ∧ w.grownBy w' v.ownBlock ∧ (v' = .slice none 0 0 → v = .slice none 0 0) ∧ (v'.ownBlock = v.ownBlock ∨ v'.ownBlock = some w.heap.size) := by
  obtain ⟨i, hi, hz, hsize, hby⟩ := info_parts HT.info
  rcases hm with ⟨rfl, rfl⟩ | ⟨b, off, cap, rfl, hcap, hcell⟩
  · exact ⟨v, w, run_append_owned_none (P := P) w base t ty e i 1 HT.slice hi v l.length (l.map cellOf) hown, by simpa using hown, World.grownBy.refl _ _, fun e => e, .inl rfl⟩
  · obtain ⟨v', w', h1, h2, h3, h4, h5⟩ := run_append_own_at (P := P) w base t ty e i (.int .u8 0) 1 1 HT.slice hi hz hsize hby rfl (by omega) v l.length (l.map cellOf) hown ⟨b, off, none⟩ m.length cap (m.map cellOf) (by simp)
      (by
        intro j u hu
        have hj : j < m.length := by have := (List.getElem?_eq_some_iff.1 hu).1; simpa using this
        rw [Addr.add_lit, hcell j hj, ← getD_map_cell m j hj]; exact hu)
      (by intro u hu; obtain ⟨c, _, rfl⟩ := List.mem_map.1 hu; rfl) (by unfold maxLen; omega) (by omega) hbase
    exact ⟨v', w', h1, by unfold OwnB; rw [List.length_append, List.map_append]; exact h2, h3, fun e => (h4.1 e).1, h5⟩
/-- At one operation. -/
theorem wp_append_b {P : Program} {t e : TypeId} (HT : ByteT P t e) {w : World} {o : Oper} {a : Act} {K : Act → World → Prop} {Q : Exit → Act → World → Prop} (s x : Operand)
    (ho : o.op = .call { callee := .builtin .append, args := #[s, x], argTypes := #[t, t] }) (base : Nat) (l m : List UInt8) (v xv : Value) (hs : a.eval s = v) (hx : a.eval x = xv)
    (hown : OwnB w base e v l) (hm : ReadsB w xv m) (hlen : l.length + m.length ≤ 1099511627776) (hbase : base ≤ w.heap.size)
    (h : ∀ v' w', OwnB w' base e v' (l ++ m) → w.grownBy w' v.ownBlock → (v' = .slice none 0 0 → v = .slice none 0 0) → (v'.ownBlock = v.ownBlock ∨ v'.ownBlock = some w.heap.size) → K (a.put o.dst v') w') : o.wp P a w K Q := by
  obtain ⟨v', w', hr, h2, h3, h4, h5⟩ := run_append_b HT o.type base l m v xv hown hm hlen hbase
  unfold Oper.wp execOp
  simp only [ho, resolve, invoke, builtin, Sem.run_bind, Sem.run_pure, Result.andThen_ok, List.map_toArray, List.map_cons, List.map_nil, hs, hx, hr]
  exact h v' w' h2 h3 h4 h5
/-- At the list of a plain region's operations. -/
theorem wpList_append_b {P : Program} {t e : TypeId} (HT : ByteT P t e) {w : World} {ops : Array Oper} {rest : List Oper} {o : Oper} {a : Act} {Q : Exit → Act → World → Prop} (hgd : o.guard = none) (s x : Operand)
    (ho : o.op = .call { callee := .builtin .append, args := #[s, x], argTypes := #[t, t] }) (base : Nat) (l m : List UInt8) (v xv : Value) (hs : a.eval s = v) (hx : a.eval x = xv)
    (hown : OwnB w base e v l) (hm : ReadsB w xv m) (hlen : l.length + m.length ≤ 1099511627776) (hbase : base ≤ w.heap.size)
    (h : ∀ v' w', OwnB w' base e v' (l ++ m) → w.grownBy w' v.ownBlock → (v' = .slice none 0 0 → v = .slice none 0 0) → (v'.ownBlock = v.ownBlock ∨ v'.ownBlock = some w.heap.size) → wpList P ops Q rest (a.put o.dst v') w') : wpList P ops Q (o :: rest) a w :=
  wpList_plain hgd fun _ hK => wp_append_b HT s x ho base l m v xv hs hx hown hm hlen hbase fun v' w' h2 h3 h4 h5 => hK _ _ (h v' w' h2 h3 h4 h5)
/-- At a step of a region that draws its order. -/
theorem step_append_b {P : Program} {t e : TypeId} (HT : ByteT P t e) {w : World} {ops : Array Oper} {o : Oper} {a : Act} {K : Act → World → Prop} {Q : Exit → Act → World → Prop} {E : Prop} (hgd : o.guard = none) (s x : Operand)
    (ho : o.op = .call { callee := .builtin .append, args := #[s, x], argTypes := #[t, t] }) (base : Nat) (l m : List UInt8) (v xv : Value) (hs : a.eval s = v) (hx : a.eval x = xv)
    (hown : OwnB w base e v l) (hm : ReadsB w xv m) (hlen : l.length + m.length ≤ 1099511627776) (hbase : base ≤ w.heap.size)
    (h : ∀ v' w', OwnB w' base e v' (l ++ m) → w.grownBy w' v.ownBlock → (v' = .slice none 0 0 → v = .slice none 0 0) → (v'.ownBlock = v.ownBlock ∨ v'.ownBlock = some w.heap.size) → K (a.put o.dst v') w') : if Region.wanted o (yielded ops a.tmps) = true then Oper.wp P o a w K Q else E := by
  have hw : Region.wanted o (yielded ops a.tmps) = true := by simp [Region.wanted, hgd]
  rw [if_pos hw]
  exact wp_append_b HT s x ho base l m v xv hs hx hown hm hlen hbase h
/-- string(owned bytes). -/
theorem run_string_of_reads {P : Program} {w : World} {t e dst : TypeId} (HT : ByteT P t e) (hd : P.underlying dst = some .string) {v : Value} {l : List UInt8} (h : ReadsB w v l) :
    (convert t dst v).run P w = .ok (strV l) w := by
  rcases h with ⟨rfl, rfl⟩ | ⟨b, o, cap, rfl, hcap, hcell⟩
  · exact run_convert_bytes_nil w t e HT.slice HT.byte 0 0 dst hd
  · exact run_string_of_cells HT.slice HT.byte hd b o l.length cap l rfl hcell
theorem OwnB.kept {w w' : World} {base : Nat} {e : TypeId} {v : Value} {l : List UInt8} (h : OwnB w base e v l) {row : Option Nat} (hg : w.grownBy w' row) (hne : v.ownBlock = none ∨ v.ownBlock ≠ row) : OwnB w' base e v l := World.ownsRow.kept h hg hne
theorem OwnB.alloc {w : World} {base : Nat} {e : TypeId} {v : Value} {l : List UInt8} (h : OwnB w base e v l) (o : Obj) : OwnB (w.alloc o) base e v l := World.ownsRow.alloc h o
theorem OwnB.lt {w : World} {base : Nat} {e : TypeId} {v : Value} {l : List UInt8} (h : OwnB w base e v l) {k : Nat} (hk : v.ownBlock = some k) : base ≤ k ∧ k < w.heap.size := World.ownsRow.lt h k hk
theorem below_grown {B : Nat} {w w' : World} {base : Nat} {e : TypeId} {v : Value} {l : List UInt8} (h : OwnB w base e v l) (hg : w.grownBy w' v.ownBlock) (hB : B ≤ base) (hb : B ≤ w.heap.size) : Below B w w' :=
  (Below.refl B w).grown hg hb (fun k hk => by have := (h.lt hk).1; omega)
end Go.Proofs.YtgdbjkkanjgbnaaDoor

namespace Go.Proofs.YtgdbjkkanjgbnaaDoor
open Go.RowKit Go.Shelf
set_option linter.unusedVariables false

/-- A builder in block b, of the call's own blocks from B on, that holds the bytes l. -/
def Bld (B b : Nat) (l : List UInt8) (w : World) : Prop := Lib.IsBuilderF 61 5 B b (Lib.byteCells l) w
theorem bld_new (w : World) : Bld w.heap.size w.heap.size [] (w.alloc (.cells #[.pointer none, .slice none 0 0] 61)) := Lib.IsBuilderF.of (Lib.fresh_isBuilder _ _ w)
theorem Bld.le {B b : Nat} {l : List UInt8} {w : World} (h : Bld B b l w) : B ≤ b := by rcases h with h | h <;> exact h.1
theorem Bld.lt {B b : Nat} {l : List UInt8} {w : World} (h : Bld B b l w) : b < w.heap.size := by rcases h with h | h <;> exact h.lt
theorem Bld.alloc {B b : Nat} {l : List UInt8} {w : World} (h : Bld B b l w) (o : Obj) : Bld B b l (w.alloc o) := Lib.IsBuilderF.alloc h o
theorem Bld.drew {B b : Nat} {l : List UInt8} {w : World} (h : Bld B b l w) : Bld B b l w.drew := h
theorem Bld.below {B b : Nat} {l : List UInt8} {w w' : World} (h : Bld B b l w) (hb : Below w.heap.size w w') : Bld B b l w' := by
  have hlt := h.lt
  rcases h with ⟨hB, v, hbk, hown, hne⟩ | ⟨hB, v, hbk, hown, hne⟩
  · exact .inl ⟨hB, v, (hb.block b hlt).trans hbk, hown.kept (⟨hb.os, hb.tape, hb.output, hb.size, fun i hi _ => hb.block i hi⟩ : w.grownBy w' none) (by cases v.ownBlock <;> simp), hne⟩
  · exact .inr ⟨hB, v, (hb.block b hlt).trans hbk, hown.kept (⟨hb.os, hb.tape, hb.output, hb.size, fun i hi _ => hb.block i hi⟩ : w.grownBy w' none) (by cases v.ownBlock <;> simp), hne⟩
theorem bytes_snoc (l : List UInt8) (c : UInt8) : Lib.byteCells (l ++ [c]) = Lib.byteCells l ++ [.int .u8 c.toNat] := by simp [Lib.byteCells]
theorem bytes_app (l m : List UInt8) : Lib.byteCells (l ++ m) = Lib.byteCells l ++ Lib.byteCells m := by simp [Lib.byteCells]

def bldString_ren : Go.Shelf.Ren := ⟨fun | 169 => 30 | n => n, fun | 70 => 58 | 9 => 9 | 0 => 0 | 72 => 61 | 37 => 59 | 127 => 93 | 3 => 3 | 5 => 5 | n => n, fun | n => n⟩
theorem bldString_lays : Go.Proofs.Lays.n169 Tryd.prog bldString_ren := {
  mixed := by kernel_rfl
  f169 := Tryd.func30.trans (congrArg some (by kernel_rfl))
  t0 := Tryd.underlying0
  a0 := Tryd.isAgg0
  z0 := Tryd.sizeOf0
  v0 := Tryd.zeroValue0
  t3 := Tryd.underlying3
  a3 := Tryd.isAgg3
  z3 := Tryd.sizeOf3
  v3 := Tryd.zeroValue3
  t9 := Tryd.underlying9
  a9 := Tryd.isAgg9
  z9 := Tryd.sizeOf9
  v9 := Tryd.zeroValue9
  t37 := Tryd.underlying59
  a37 := Tryd.isAgg59
  z37 := Tryd.sizeOf59
  v37 := Tryd.zeroValue59
  t70 := Tryd.underlying58
  a70 := Tryd.isAgg58
  z70 := Tryd.sizeOf58
  v70 := Tryd.zeroValue58
  t72 := Tryd.underlying61
  a72 := Tryd.isAgg61
  z72 := Tryd.sizeOf61
  v72 := Tryd.zeroValue61
  t127 := Tryd.underlying93
  a127 := Tryd.isAgg93
  z127 := Tryd.sizeOf93
  v127 := Tryd.zeroValue93 }
theorem bldString_extra : Builder.Extra Tryd.prog bldString_ren := {
  sizeBuilder := by kernel_rfl
  liesBuilder := by kernel_rfl
  t5 := Tryd.underlying5
  a5 := Tryd.isAgg5
  z5 := Tryd.sizeOf5
  v5 := Tryd.zeroValue5
  infoByte := by kernel_rfl
  cellsByte := by kernel_rfl
  sizeByte := by kernel_rfl
  neB5 := by decide }

/-- String: what the builder holds; it lives on. -/
def BldStringPost (B b : Nat) (l : List UInt8) (w : World) (e : Ending) (w' : World) : Prop := e = .returned (strV l) ∧ Bld B b l w' ∧ Below B w w'
theorem bld_string (B b : Nat) (l : List UInt8) (w : World) (h : Bld B b l w) (hBw : B ≤ w.heap.size) : Calls Tryd.prog 30 #[.pointer (some ⟨b, 0, none⟩)] w (BldStringPost B b l w) :=
  (Any.Builder_String_any_k bldString_lays bldString_extra B b l w h hBw).mono fun _ _ ⟨h1, h2, h3, _⟩ => ⟨h1, h2, h3⟩

theorem check_used (b : Nat) (w : World) (h0 : w.cell? ⟨b, 0, none⟩ = some (.pointer (some ⟨b, 0, none⟩))) :
    Calls Tryd.prog 44 #[.pointer (some ⟨b, 0, none⟩)] w fun e w' => e = .returned (.tuple #[]) ∧ w' = w := by
  obtain ⟨j, hj, _⟩ := Option.map_eq_some_iff.1 bldString_extra.sizeBuilder
  have hn := Lib.run_neq_ptr_same (P := Tryd.prog) w ⟨b, 0, none⟩ Tryd.underlying58 hj
  go_enter Tryd.func44, Tryd.ntmps44
  go_wp2
  go_end0
  exact ⟨rfl, rfl⟩
set_option maxRecDepth 20000 in
theorem check_fresh (b : Nat) (w : World) (h0 : w.cell? ⟨b, 0, none⟩ = some (.pointer none)) (hsh : w.shape? b = some (61, 2)) (hfz : w.frozen? ⟨b, 0, none⟩ = false) :
    Calls Tryd.prog 44 #[.pointer (some ⟨b, 0, none⟩)] w fun e w' => e = .returned (.tuple #[]) ∧ w' = w.setCell ⟨b, 0, none⟩ (.pointer (some ⟨b, 0, none⟩)) := by
  obtain ⟨j, hj, hjs⟩ := Option.map_eq_some_iff.1 bldString_extra.sizeBuilder
  go_enter Tryd.func44, Tryd.ntmps44
  go_wp2
  rw [Lib.run_to_unsafe w ⟨b, 0, none⟩ Tryd.underlying58 Tryd.underlying80 hj (by rw [hjs]; decide) hsh (Nat.zero_lt_succ 1)]
  simp only [Result.andThen]
  rw [Oper.upon_value]
  go_wp2
  rw [run_callFunc_extern Tryd.func54 (by kernel_rfl) (by kernel_rfl) (by kernel_rfl) (e := Extern.AbiNoEscape.same) (by kernel_rfl)]
  rw [Lib.run_noEscape]
  simp only [Result.andThen]
  rw [Oper.upon_value]
  go_wp2
  rw [Lib.run_from_unsafe w ⟨b, 0, none⟩ Tryd.underlying80 Tryd.underlying58 hj hsh bldString_extra.liesBuilder]
  simp only [Result.andThen]
  rw [Oper.upon_value]
  go_wp2
  go_end0
  exact ⟨rfl, rfl⟩
theorem bldcheck_any (B b : Nat) (bs : List Value) (w : World) (h : Lib.IsBuilderF 61 5 B b bs w) :
    Calls Tryd.prog 44 #[.pointer (some ⟨b, 0, none⟩)] w fun e w' => e = .returned (.tuple #[]) ∧ (Lib.BuilderAtF 61 5 B b (.pointer (some ⟨b, 0, none⟩)) bs w' ∧ Below B w w') := by
  rcases h with h | h
  · refine (check_fresh b w h.cell0 h.shape h.frozen0).mono ?_
    rintro e w' ⟨rfl, rfl⟩
    exact ⟨rfl, h.used _, (Below.refl B w).setCell (p := ⟨b, 0, none⟩) h.1 _⟩
  · refine (check_used b w h.cell0).mono ?_
    rintro e w' ⟨rfl, rfl⟩
    exact ⟨rfl, h, Below.refl B _⟩

def BldPost (B b : Nat) (l : List UInt8) (v : Value) (w : World) (e : Ending) (w' : World) : Prop := e = .returned v ∧ Bld B b l w' ∧ Below B w w'
set_option maxHeartbeats 2000000 in
set_option maxRecDepth 100000 in
theorem bld_byte (B b : Nat) (l : List UInt8) (c : UInt8) (w : World) (h : Bld B b l w) (hlen : l.length + 1 ≤ 140737488355328) (hBw : B ≤ w.heap.size) :
    Calls Tryd.prog 27 #[.pointer (some ⟨b, 0, none⟩), .int .u8 (c.toNat : Int)] w (BldPost B b (l ++ [c]) .nilIface w) := by
  obtain ⟨i0, hi, hz0, hz1, hz2⟩ := info_parts bldString_extra.infoByte
  obtain ⟨bs, hbs⟩ : ∃ bs, Lib.byteCells l = bs := ⟨_, rfl⟩
  have hl : bs.length = l.length := by rw [← hbs]; exact Lib.byteCells_length l
  unfold Bld at h
  rw [hbs] at h
  have HBS := hid hbs
  have hlen' : bs.length + 1 ≤ 140737488355328 := by omega
  clear hbs hl hlen
  go_enter Tryd.func27, Tryd.ntmps27
  go_wp2_with (go_at_call 44; refine (bldcheck_any B b bs _ h).mono ?_)
  rintro e w1 ⟨rfl, h1, hb1⟩
  obtain ⟨hB, v, hbk, hown, hne⟩ := h1
  have c0 : w1.cell? ⟨b, 0, none⟩ = some (.pointer (some ⟨b, 0, none⟩)) := by rw [Lib.cell_of_heap hbk]; rfl
  have c1 : w1.cell? ⟨b, 1, none⟩ = some v := by rw [Lib.cell_of_heap hbk]; rfl
  go_wp2_with (at_builtin; refine wpList_append_ownF _ rfl _ _ 59 rfl B 5 i0 (.int .u8 0) 1 1 Tryd.underlying59 hi hz0 hz1 hz2 rfl (by decide) _ _ _ rfl (hown.alloc _) ⟨w1.heap.size, 0, none⟩ 1 1 [.int .u8 c.toNat] rfl rfl ?c1 ?c2 ?c3 ?c4 ?c5 ?_)
  case c1 =>
    intro j u hj
    match j, hj with
    | 0, hj => simp at hj; subst hj; simp [Addr.add]
  case c2 => intro u hu; simp at hu; subst hu; rfl
  case c3 => unfold maxLen; omega
  case c4 => omega
  case c5 => have := hb1.size; simp; omega
  intro v' w2 hown' hgrow _
  have hlt : b < w1.heap.size := by
    rcases Nat.lt_or_ge b w1.heap.size with h' | h'
    · exact h'
    · simp [Array.getElem?_eq_none h'] at hbk
  have hb2 : w2.heap[b]? = some (.cells #[.pointer (some ⟨b, 0, none⟩), v] 61 (0, 0)) := by
    rw [hgrow.block b (by simp; omega) (fun e => hne e.symm), Lib.alloc_old w1 _ b hlt]
    exact hbk
  have d0 : w2.cell? ⟨b, 0, none⟩ = some (.pointer (some ⟨b, 0, none⟩)) := by rw [Lib.cell_of_heap hb2]; rfl
  have d1 : w2.cell? ⟨b, 1, none⟩ = some v := by rw [Lib.cell_of_heap hb2]; rfl
  have f1 : w2.frozen? ⟨b, 1, none⟩ = false := Lib.frozen_of_heap hb2 1
  obtain ⟨g, cap, rfl⟩ : ∃ g cap, v' = .slice (some ⟨g, 0, none⟩) (bs.length + 1) cap := by
    rcases hown'.2 with ⟨_, h0⟩ | ⟨g, cap, cur, fz, hv, _⟩
    · omega
    · exact ⟨g, cap, hv⟩
  go_wp2
  go_ret
  refine ⟨rfl, ?_, ?_⟩
  · unfold Bld
    rw [bytes_snoc, HBS.out]
    exact .inr (Lib.BuilderAtF.put (T := 61) (e := 5) hB hb2 (bs' := bs ++ [.int .u8 c.toNat]) (by simpa using hown') (by decide))
  · exact ((hb1.alloc (by have := hb1.size; omega) _).grown hgrow (by have := hb1.size; simp; omega) (fun k hk => (hown.lt k hk).1)).setCell (p := ⟨b, 1, none⟩) hB _
theorem bld_len (B b : Nat) (l : List UInt8) (w : World) (h : Bld B b l w) :
    Calls Tryd.prog 29 #[.pointer (some ⟨b, 0, none⟩)] w fun e w' => e = .returned (.int .i64 l.length) ∧ w = w' := by
  obtain ⟨p, hB, v, hbk, hown, hne⟩ : ∃ p, Lib.BuilderAtF 61 5 B b p (Lib.byteCells l) w := by
    rcases h with h | h
    · exact ⟨_, h⟩
    · exact ⟨_, h⟩
  rw [Lib.byteCells_length] at hown
  obtain ⟨ao, cap, rfl⟩ : ∃ ao cap, v = .slice ao l.length cap := by
    rcases hown.2 with ⟨hv, h0⟩ | ⟨g, cap, cur, fz, hv, _⟩
    · exact ⟨none, 0, by rw [hv, h0]⟩
    · exact ⟨_, _, hv⟩
  have c1 : w.cell? ⟨b, 1, none⟩ = some (.slice ao l.length cap) := by rw [Lib.cell_of_heap hbk]; rfl
  go_enter Tryd.func29, Tryd.ntmps29
  go_wp2
  go_ret
  exact ⟨rfl, rfl⟩
end Go.Proofs.YtgdbjkkanjgbnaaDoor

namespace Go.Proofs.YtgdbjkkanjgbnaaDoor.Url
open Go.RowKit Go.Proofs.YtgdbjkkanjgbnaaDoor
set_option linter.unusedVariables false
set_option linter.unusedSimpArgs false
def BoolPost (b : Bool) (w : World) (e : Ending) (w' : World) : Prop := e = .returned (.bool b) ∧ w = w'
theorem BoolPost.mk {b b' : Bool} {w : World} (h : b = b') : BoolPost b w (.returned (.bool b')) w := ⟨by rw [h], rfl⟩
set_option maxHeartbeats 1000000 in
theorem plain_any (c : UInt8) (w : World) : Calls Tryd.prog 33 #[.int .u8 (c.toNat : Int)] w (BoolPost (plB c) w) := by
  obtain ⟨r, hr⟩ : ∃ r, plB c = r := ⟨_, rfl⟩
  rw [hr]
  have HR := hid hr
  clear hr
  have hlt := c.toNat_lt
  go_enter Tryd.func33, Tryd.ntmps33
  go_wp2_with (fail)
  all_goals
    go_ret
    refine BoolPost.mk ?_
    rw [← HR.out]
    unfold plB
    try simp only [decide_eq_true_eq, decide_eq_false_iff_not] at *
    first
    | omega
    | (apply decide_eq_true; omega)
    | (apply decide_eq_false; omega)
    | (rw [Bool.eq_iff_iff]; simp only [decide_eq_true_eq, Bool.or_eq_true, beq_iff_eq]; omega)
/-- A digit's worth as the program tells it. -/
def nibV (o : Option Nat) : Value := match o with | some n => .tuple #[.int .u8 (n : Nat), .bool true] | none => .tuple #[.int .u8 0, .bool false]
def NibPost (o : Option Nat) (w : World) (e : Ending) (w' : World) : Prop := e = .returned (nibV o) ∧ w = w'
theorem NibPost.yes {o : Option Nat} {n : Nat} {x : Int} {w : World} (h : o = some n) (hx : x = n) : NibPost o w (.returned (.tuple #[.int .u8 x, .bool true])) w := ⟨by rw [h, hx]; rfl, rfl⟩
theorem NibPost.no {o : Option Nat} {w : World} (h : o = none) : NibPost o w (.returned (.tuple #[.int .u8 0, .bool false])) w := ⟨by rw [h]; rfl, rfl⟩
set_option maxHeartbeats 1000000 in
theorem nibble_any (s : ByteArray) (i : Nat) (w : World) : Calls Tryd.prog 31 #[.string s, .int .i64 (i : Int)] w (NibPost (nibAt s.data.toList i) w) := by
  by_cases hi : i < s.size
  · have hget : s.data.toList[i]? = some s[i] := by
      rw [str_get s i hi, List.getD_eq_getElem?_getD, List.getElem?_eq_getElem (by rw [str_len]; exact hi)]; rfl
    obtain ⟨r, hr⟩ : ∃ r, nibAt s.data.toList i = r := ⟨_, rfl⟩
    rw [hr]
    have hr2 : nibB s[i] = r := by rw [← hr]; unfold nibAt; rw [hget]
    have HR := hid hr2
    clear hr hr2 hget
    obtain ⟨c, hc⟩ : ∃ c, s[i] = c := ⟨_, rfl⟩
    rw [hc] at HR
    have hlt := c.toNat_lt
    have p0 : decide ((s.size : Int) ≤ (i : Int)) = false := decide_eq_false (by omega)
    have p1 : (0 : Int) ≤ (i : Int) := by omega
    go_enter Tryd.func31, Tryd.ntmps31
    go_wp2_with (fail)
    all_goals
      go_ret2
      try simp only [decide_eq_true_eq, decide_eq_false_iff_not] at *
      first
      | (refine NibPost.no ?_; rw [← HR.out]; unfold nibB; rw [if_neg (by omega), if_neg (by omega), if_neg (by omega)])
      | (refine NibPost.yes (n := c.toNat - 48) ?_ ?_; (rw [← HR.out]; unfold nibB; rw [if_pos (by omega)]); (first | rfl | omega))
      | (refine NibPost.yes (n := c.toNat - 87) ?_ ?_; (rw [← HR.out]; unfold nibB; rw [if_neg (by omega), if_pos (by omega)]); (first | rfl | omega))
      | (refine NibPost.yes (n := c.toNat - 55) ?_ ?_; (rw [← HR.out]; unfold nibB; rw [if_neg (by omega), if_neg (by omega), if_pos (by omega)]); (first | rfl | omega))
      | (trace_state; sorry)
  · have hr : nibAt s.data.toList i = none := by unfold nibAt; rw [List.getElem?_eq_none (by rw [str_len]; omega)]
    rw [hr]
    have p0 : decide ((s.size : Int) ≤ (i : Int)) = true := decide_eq_true (by omega)
    go_enter Tryd.func31, Tryd.ntmps31
    go_wp2_with (fail)
    go_ret2
    exact NibPost.no rfl
def TextPost (l : List UInt8) (w : World) (e : Ending) (w' : World) : Prop := e = .returned (strV l) ∧ Below w.heap.size w w'
def EscRel (l : List UInt8) (B b : Nat) (w : World) (i : Value) (wr : World) : Prop := ∃ k : Nat, k ≤ l.length ∧ i = .int .i64 k ∧ Bld B b (escS (l.take k)) wr ∧ Below B w wr ∧ B ≤ wr.heap.size
theorem escS_snoc (l : List UInt8) (k : Nat) (h : k < l.length) : escS (l.take (k + 1)) = escS (l.take k) ++ escB (l.getD k 0) := by
  have e : l.take (k + 1) = l.take k ++ [l.getD k 0] := by rw [List.take_succ_eq_append_getElem h]; simp [List.getD, h]
  rw [e]
  unfold escS
  rw [List.flatMap_append]
  simp
theorem escB_le (c : UInt8) : (escB c).length ≤ 3 := by unfold escB; split <;> (try split) <;> simp
theorem escS_le (l : List UInt8) : (escS l).length ≤ 3 * l.length := by
  induction l with
  | nil => simp [escS]
  | cons c l ih =>
    have h : escS (c :: l) = escB c ++ escS l := by simp [escS]
    have h1 := escB_le c
    rw [h, List.length_append, List.length_cons]
    omega
theorem hex_get (n : Nat) (h : n < (⟨#[48, 49, 50, 51, 52, 53, 54, 55, 56, 57, 65, 66, 67, 68, 69, 70]⟩ : ByteArray).size) : (⟨#[48, 49, 50, 51, 52, 53, 54, 55, 56, 57, 65, 66, 67, 68, 69, 70]⟩ : ByteArray)[n]'h = hexU n := by
  have h16 : n < 16 := h
  match n, h16 with
  | 0, _ => rfl
  | 1, _ => rfl
  | 2, _ => rfl
  | 3, _ => rfl
  | 4, _ => rfl
  | 5, _ => rfl
  | 6, _ => rfl
  | 7, _ => rfl
  | 8, _ => rfl
  | 9, _ => rfl
  | 10, _ => rfl
  | 11, _ => rfl
  | 12, _ => rfl
  | 13, _ => rfl
  | 14, _ => rfl
  | 15, _ => rfl
  | n + 16, h => omega
set_option maxHeartbeats 2000000 in
set_option maxRecDepth 20000 in
theorem escape_any (s : ByteArray) (w : World) (hs : s.size ≤ 1048576) : Calls Tryd.prog 20 #[.string s] w (TextPost (escS s.data.toList) w) := by
  have hln : s.data.toList.length = s.size := str_len s
  have HLN := hid hln
  obtain ⟨l, hl⟩ : ∃ l, s.data.toList = l := ⟨_, rfl⟩
  rw [hl] at HLN ⊢
  have HL := hid hl
  clear hln hl
  go_enter Tryd.func20, Tryd.ntmps20
  go_wp2_with fail
  go_loopw [8] (fun i wr => EscRel l w.heap.size w.heap.size w i wr) (fun i _ => s.size - (intOf i).toNat)
  case atStart => exact ⟨0, Nat.zero_le _, rfl, bld_new w, (Below.refl _ w).alloc (Nat.le_refl _) _, by simp⟩
  case round =>
    obtain ⟨k, hk, rfl, hb, hbw, hsz⟩ := hrel
    have HB := hid hb
    have HBW := hid hbw
    have hk' : k ≤ s.size := by have := HLN.out; omega
    have HLE := hid (escS_le (l.take k))
    clear hb hbw hk
    by_cases hlt : k < s.size
    · have hget := str_get s k hlt
      rw [HL.out] at hget
      have hsn := escS_snoc l k (by rw [HLN.out]; exact hlt)
      rw [← hget] at hsn
      obtain ⟨c, hc⟩ : ∃ c, s[k] = c := ⟨_, rfl⟩
      have t0 : decide ((k : Int) < (s.size : Int)) = true := decide_eq_true (by omega)
      rw [hc] at hsn
      have HSN := hid hsn
      have HC := hid hc
      have p0 : (0 : Int) ≤ (k : Int) := by omega
      have hlen : (escS (l.take k)).length + 3 ≤ 140737488355328 := by have := HLE.out; rw [List.length_take] at this; omega
      have hcl := c.toNat_lt
      clear hget hsn hc
      by_cases hp : plB c = true
      · have HE : Hid (escB c = [c]) := hid (by unfold escB; rw [if_pos hp])
        go_wp2_with (first
          | (go_at_call 33; rw [HC.out]; refine (plain_any _ _).mono ?_; intro e w1 hq; obtain ⟨rfl, rfl⟩ := hq; rw [hp])
          | (go_at_call 27; refine (bld_byte _ _ _ c _ HB.out (by omega) hsz).mono ?_; intro e w2 hq; obtain ⟨rfl, hb2, hbl2⟩ := hq; have HB2 := hid hb2; have HBL2 := hid hbl2; clear hb2 hbl2))
        exact ⟨⟨k + 1, by have := HLN.out; omega, by congr 1, by rw [HSN.out, HE.out]; first | exact HB2.out | (rw [← List.append_assoc, ← List.append_assoc] at *; exact HB2.out) , HBW.out.trans HBL2.out, by have := HBL2.out.size; omega⟩, by simp [intOf] <;> omega⟩
      · by_cases h32 : c.toNat = 32
        · have HE : Hid (escB c = [43]) := hid (by unfold escB; rw [if_neg hp, if_pos h32])
          have hpf : plB c = false := by simpa using hp
          have t1 : ((c.toNat : Int) == 32) = true := by simp; omega
          go_wp2_with (first
            | (go_at_call 33; rw [HC.out]; refine (plain_any _ _).mono ?_; intro e w1 hq; obtain ⟨rfl, rfl⟩ := hq; rw [hpf])
            | (go_at_call 27; refine (bld_byte _ _ _ 43 _ HB.out (by omega) hsz).mono ?_; intro e w2 hq; obtain ⟨rfl, hb2, hbl2⟩ := hq; have HB2 := hid hb2; have HBL2 := hid hbl2; clear hb2 hbl2))
          exact ⟨⟨k + 1, by have := HLN.out; omega, by congr 1, by rw [HSN.out, HE.out]; first | exact HB2.out | (rw [← List.append_assoc, ← List.append_assoc] at *; exact HB2.out) , HBW.out.trans HBL2.out, by have := HBL2.out.size; omega⟩, by simp [intOf] <;> omega⟩
        · have HE : Hid (escB c = [37, hexU (c.toNat / 16), hexU (c.toNat % 16)]) := hid (by unfold escB; rw [if_neg hp, if_neg h32])
          have hpf : plB c = false := by simpa using hp
          have t1 : ((c.toNat : Int) == 32) = false := by simp; omega
          go_wp2_with (first
            | (go_at_call 33; rw [HC.out]; refine (plain_any _ _).mono ?_; intro e w1 hq; obtain ⟨rfl, rfl⟩ := hq; rw [hpf])
            | fail)
          refine (bld_byte _ _ _ 37 _ HB.out (by omega) hsz).mono ?_
          intro e w1 hq
          obtain ⟨rfl, hb1, hbl1⟩ := hq
          have HB1 := hid hb1
          have HBL1 := hid hbl1
          have hsz1 : w.heap.size ≤ w1.heap.size := by have := hbl1.size; omega
          clear hb1 hbl1
          have n0 : c.toNat / 16 < 16 := by omega
          have n1 : (0 : Int) ≤ ((c.toNat / 16 : Nat) : Int) := by omega
          have n3 : bits .and .u8 (c.toNat : Int) 15 = ((c.toNat % 16 : Nat) : Int) := by
            have hm := bits_mask .u8 8 (by decide) (fun n h0 h1 => by simp [IntKind.wrap, IntKind.bits, IntKind.signed]; omega) 4 (by decide) (c.toNat : Int) (Int.natCast_nonneg _) (by omega)
            rw [show (15 : Int) = 2 ^ 4 - 1 by decide, hm]
            simp
          go_wp2_with fail
          rw [hex_get]
          refine (bld_byte _ _ _ _ _ HB1.out (by simp; omega) hsz1).mono ?_
          intro e w2 hq
          obtain ⟨rfl, hb2, hbl2⟩ := hq
          have HB2 := hid hb2
          have HBL2 := hid hbl2
          have hsz2 : w.heap.size ≤ w2.heap.size := by have := hbl2.size; omega
          clear hb2 hbl2
          have m0 : c.toNat % 16 < 16 := by omega
          have m1 : (0 : Int) ≤ ((c.toNat % 16 : Nat) : Int) := by omega
          go_wp2_with fail
          rw [hex_get]
          refine (bld_byte _ _ _ _ _ HB2.out (by simp; omega) hsz2).mono ?_
          intro e w3 hq
          obtain ⟨rfl, hb3, hbl3⟩ := hq
          have HB3 := hid hb3
          have HBL3 := hid hbl3
          clear hb3 hbl3
          go_wp2_with fail
          exact ⟨⟨k + 1, by have := HLN.out; omega, by congr 1, by rw [HSN.out, HE.out]; have h9 := HB3.out; simp only [List.append_assoc, List.cons_append, List.nil_append] at h9; exact h9, HBW.out.trans (HBL1.out.trans (HBL2.out.trans HBL3.out)), by have := HBL2.out.size; have := HBL3.out.size; omega⟩, by simp [intOf] <;> omega⟩
    · obtain rfl : k = s.size := by omega
      have HK : Hid (l.take s.size = l) := hid (by rw [← HLN.out, List.take_length])
      rw [HK.out] at HB
      have t0 : decide ((s.size : Int) < (s.size : Int)) = false := decide_eq_false (by omega)
      go_wp2_with (go_at_call 30; refine (bld_string _ _ _ _ HB.out hsz).mono ?_; intro e w2 hq; obtain ⟨rfl, _, hbl2⟩ := hq; have HBL2 := hid hbl2; clear hbl2)
      go_ret
      exact ⟨rfl, HBW.out.trans HBL2.out⟩
end Go.Proofs.YtgdbjkkanjgbnaaDoor.Url

namespace Go.Proofs.YtgdbjkkanjgbnaaDoor.Url
open Go.RowKit Go.Proofs.YtgdbjkkanjgbnaaDoor
set_option linter.unusedVariables false
def errU (p : Int) : GErr := if p < 0 then .nil else .at_ p 60
def UnPost (l : List UInt8) (w : World) (e : Ending) (w' : World) : Prop := ∃ v, e = .returned (.tuple #[strV (unS l).1, v]) ∧ IsErr w' (errU (unS l).2) v ∧ Below w.heap.size w w'
theorem UnPost.mk {l b : List UInt8} {p : Int} {w w' : World} {v : Value} (h : unS l = (b, p)) (he : IsErr w' (errU p) v) (hb : Below w.heap.size w w') : UnPost l w (.returned (.tuple #[strV b, v])) w' := ⟨v, by rw [h], by rw [h]; exact he, hb⟩
def UnRel (l : List UInt8) (B b : Nat) (w : World) (i : Value) (wr : World) : Prop := ∃ (k : Nat) (out : List UInt8), k ≤ l.length ∧ i = .int .i64 k ∧ unF (l.length + 1) l k out = unS l ∧ out.length ≤ k ∧ Bld B b out wr ∧ Below B w wr ∧ B ≤ wr.heap.size
theorem errU_no : errU (-1) = .nil := by unfold errU; rw [if_pos (by omega)]
theorem errU_at (k : Nat) : errU (k : Int) = .at_ k 60 := by unfold errU; rw [if_neg (by omega)]
theorem un_at {l : List UInt8} {i : Nat} {c : UInt8} (h : l[i]? = some c) : unStep l i = if c.toNat = 37 then (match nibAt l (i + 1), nibAt l (i + 2) with | some h, some k => some (UInt8.ofNat (h * 16 + k), 3) | _, _ => none) else if c.toNat = 43 then some (32, 1) else some (c, 1) := by
  unfold unStep; rw [h] <;> rfl
theorem nib_no {w w' : World} {e : Ending} (h : NibPost none w e w') : e = .returned (.tuple #[.int .u8 0, .bool false]) ∧ w = w' := h
theorem nib_yes {n : Nat} {w w' : World} {e : Ending} (h : NibPost (some n) w e w') : e = .returned (.tuple #[.int .u8 (n : Nat), .bool true]) ∧ w = w' := h
theorem nib_or (h m : Nat) (hh : h < 16) (hm : m < 16) : bits .or .u8 ((h : Int) * 16) (m : Int) = ((h * 16 + m : Nat) : Int) := by
  rw [bits_join .u8 8 (by decide) (fun n h0 h1 => by simp [IntKind.wrap, IntKind.bits, IntKind.signed]; omega) 4 _ _ (by omega) (by omega) (by omega) (by omega) (by omega) (by omega)]
  first | done | omega
set_option maxHeartbeats 4000000 in
set_option maxRecDepth 20000 in
theorem unescape_any (s : ByteArray) (w : World) (hs : s.size ≤ 1048576) : Calls Tryd.prog 18 #[.string s] w (UnPost s.data.toList w) := by
  have hln : s.data.toList.length = s.size := str_len s
  have HLN := hid hln
  obtain ⟨l, hl⟩ : ∃ l, s.data.toList = l := ⟨_, rfl⟩
  rw [hl] at HLN ⊢
  have HL := hid hl
  clear hln hl
  go_enter Tryd.func18, Tryd.ntmps18
  go_wp2_with fail
  go_loopw [5] (fun i wr => UnRel l w.heap.size w.heap.size w i wr) (fun i _ => s.size - (intOf i).toNat)
  case atStart => exact ⟨0, [], Nat.zero_le _, rfl, rfl, by simp, bld_new w, (Below.refl _ w).alloc (Nat.le_refl _) _, by simp⟩
  case round =>
    obtain ⟨k, out, hk, rfl, hun, hol, hb, hbw, hsz⟩ := hrel
    have HB := hid hb
    have HBW := hid hbw
    have HUN := hid hun
    have hk' : k ≤ s.size := by have := HLN.out; omega
    have hol2 : out.length + 1 ≤ 140737488355328 := by omega
    clear hb hbw hk hun
    by_cases hlt : k < s.size
    · have hget : l[k]? = some s[k] := by
        rw [str_get s k hlt, HL.out, List.getD_eq_getElem?_getD, List.getElem?_eq_getElem (by rw [HLN.out]; exact hlt)]; rfl
      obtain ⟨c, hc⟩ : ∃ c, s[k] = c := ⟨_, rfl⟩
      rw [hc] at hget
      have hus := un_at hget
      have t0 : decide ((k : Int) < (s.size : Int)) = true := decide_eq_true (by omega)
      have HC := hid hc
      have p0 : (0 : Int) ≤ (k : Int) := by omega
      have hcl := c.toNat_lt
      clear hget hc
      by_cases h37 : c.toNat = 37
      · rw [if_pos h37] at hus
        have t1 : ((s[k].toNat : Int) == 37) = true := by rw [HC.out, h37]; rfl
        have N1 := fun w => nibble_any s (k + 1) w
        have N2 := fun w => nibble_any s (k + 2) w
        rw [HL.out] at N1 N2
        cases e1 : nibAt l (k + 1) with
        | none =>
          rw [e1] at hus N1
          have HUS := hid hus
          cases e2 : nibAt l (k + 2) with
          | none =>
            rw [e2] at N2
            clear hus e1 e2
            go_wp2_with fail
            refine (N1 _).mono ?_
            intro e w1 hq
            obtain ⟨rfl, rfl⟩ := nib_no hq
            go_wp2_with fail
            refine (N2 _).mono ?_
            intro e w1 hq
            obtain ⟨rfl, rfl⟩ := nib_no hq
            go_wp2_with fail
            go_ret2
            refine UnPost.mk (p := k) (HUN.out.symm.trans (unF_stop (by omega) (by rw [HLN.out]; exact hlt) HUS.out)) ?_ ?_
            · rw [errU_at]
              refine ⟨wr.heap.size, 0, rfl, by simp, by simp⟩
            · exact HBW.out.alloc hsz _
          | some b =>
            rw [e2] at N2
            clear hus e1 e2
            go_wp2_with fail
            refine (N1 _).mono ?_
            intro e w1 hq
            obtain ⟨rfl, rfl⟩ := nib_no hq
            go_wp2_with fail
            refine (N2 _).mono ?_
            intro e w1 hq
            obtain ⟨rfl, rfl⟩ := nib_yes hq
            go_wp2_with fail
            go_ret2
            refine UnPost.mk (p := k) (HUN.out.symm.trans (unF_stop (by omega) (by rw [HLN.out]; exact hlt) HUS.out)) ?_ ?_
            · rw [errU_at]
              refine ⟨wr.heap.size, 0, rfl, by simp, by simp⟩
            · exact HBW.out.alloc hsz _
        | some a =>
          rw [e1] at hus N1
          cases e2 : nibAt l (k + 2) with
          | none =>
            rw [e2] at hus N2
            have HUS := hid hus
            clear hus e1 e2
            go_wp2_with fail
            refine (N1 _).mono ?_
            intro e w1 hq
            obtain ⟨rfl, rfl⟩ := nib_yes hq
            go_wp2_with fail
            refine (N2 _).mono ?_
            intro e w1 hq
            obtain ⟨rfl, rfl⟩ := nib_no hq
            go_wp2_with fail
            go_ret2
            refine UnPost.mk (p := k) (HUN.out.symm.trans (unF_stop (by omega) (by rw [HLN.out]; exact hlt) HUS.out)) ?_ ?_
            · rw [errU_at]
              refine ⟨wr.heap.size, 0, rfl, by simp, by simp⟩
            · exact HBW.out.alloc hsz _
          | some b =>
            rw [e2] at hus N2
            have ha := (nibAt_lt e1).1
            have hb2 := nibAt_lt e2
            have hb := hb2.1
            have HUS := hid hus
            have hor := nib_or a b ha hb
            have HTO : Hid (((a * 16 + b : Nat) : Int) = ((UInt8.ofNat (a * 16 + b)).toNat : Nat)) := hid (by rw [UInt8.toNat_ofNat']; omega)
            clear hus e1 e2 hb2
            go_wp2_with fail
            refine (N1 _).mono ?_
            intro e w1 hq
            obtain ⟨rfl, rfl⟩ := nib_yes hq
            go_wp2_with fail
            refine (N2 _).mono ?_
            intro e w1 hq
            obtain ⟨rfl, rfl⟩ := nib_yes hq
            go_wp2_with fail
            rw [show (a : Int) * 16 + (b : Int) = ((UInt8.ofNat (a * 16 + b)).toNat : Nat) from by rw [← HTO.out]; omega]
            refine (bld_byte _ _ _ (UInt8.ofNat (a * 16 + b)) _ HB.out hol2 hsz).mono ?_
            intro e w2 hq
            obtain ⟨rfl, hb2, hbl2⟩ := hq
            have HB2 := hid hb2
            have HBL2 := hid hbl2
            clear hb2 hbl2
            go_wp2_with fail
            exact ⟨⟨k + 3, out ++ [UInt8.ofNat (a * 16 + b)], by have := HUS.out; have := unStep_pos this; omega, by congr 1 <;> omega, (unF_step (by omega) (by rw [HLN.out]; exact hlt) HUS.out).symm.trans HUN.out, by simp; omega, HB2.out, HBW.out.trans HBL2.out, by have := HBL2.out.size; omega⟩, by simp [intOf] <;> omega⟩
      · rw [if_neg h37] at hus
        have t1 : ((s[k].toNat : Int) == 37) = false := by rw [HC.out]; simp; omega
        by_cases h43 : c.toNat = 43
        · rw [if_pos h43] at hus
          have HUS := hid hus
          have t2 : ((s[k].toNat : Int) == 43) = true := by rw [HC.out, h43]; rfl
          clear hus
          go_wp2_with fail
          refine (bld_byte _ _ _ 32 _ HB.out hol2 hsz).mono ?_
          intro e w2 hq
          obtain ⟨rfl, hb2, hbl2⟩ := hq
          have HB2 := hid hb2
          have HBL2 := hid hbl2
          clear hb2 hbl2
          go_wp2_with fail
          exact ⟨⟨k + 1, out ++ [32], by have := HUS.out; have := unStep_pos this; omega, by congr 1, (unF_step (by omega) (by rw [HLN.out]; exact hlt) HUS.out).symm.trans HUN.out, by simp; omega, HB2.out, HBW.out.trans HBL2.out, by have := HBL2.out.size; omega⟩, by simp [intOf] <;> omega⟩
        · rw [if_neg h43] at hus
          have HUS := hid hus
          have t2 : ((s[k].toNat : Int) == 43) = false := by rw [HC.out]; simp; omega
          clear hus
          go_wp2_with fail
          rw [HC.out]
          refine (bld_byte _ _ _ c _ HB.out hol2 hsz).mono ?_
          intro e w2 hq
          obtain ⟨rfl, hb2, hbl2⟩ := hq
          have HB2 := hid hb2
          have HBL2 := hid hbl2
          clear hb2 hbl2
          go_wp2_with fail
          exact ⟨⟨k + 1, out ++ [c], by have := HUS.out; have := unStep_pos this; omega, by congr 1, (unF_step (by omega) (by rw [HLN.out]; exact hlt) HUS.out).symm.trans HUN.out, by simp; omega, HB2.out, HBW.out.trans HBL2.out, by have := HBL2.out.size; omega⟩, by simp [intOf] <;> omega⟩
    · obtain rfl : k = s.size := by omega
      have HK := hid (HUN.out.symm.trans (unF_end _ l s.size out (by rw [HLN.out]; omega)))
      have t0 : decide ((s.size : Int) < (s.size : Int)) = false := decide_eq_false (by omega)
      go_wp2_with (go_at_call 30; refine (bld_string _ _ _ _ HB.out hsz).mono ?_; intro e w2 hq; obtain ⟨rfl, _, hbl2⟩ := hq; have HBL2 := hid hbl2; clear hbl2)
      go_ret2
      exact UnPost.mk HK.out (by rw [errU_no]; rfl) (HBW.out.trans HBL2.out)
end Go.Proofs.YtgdbjkkanjgbnaaDoor.Url

/-
  Base, Words, Bytes, RowCod, RowW, RowL: this proof's parts in one text.
-/
import Derived.WalkKit
import Derived.WalkSpells
import Derived.WalkLawsBesides
import Derived.Laws.BytesArg
import Derived.Lib.ConvBytes
import Derived.Lib.Strings
import Derived.Maps.AppendAt
import Derived.Test.YtcgjacffemjehaaProg
import Derived.Lib.AppendStr
import Derived.Deep.RegionHeld3
import Derived.Deep.RegionLaw
import Derived.Test.YtcgjacffemjehaaPRowPacksx0
namespace Go.Proofs.Ytcgjacffemjehaa
open Go.RowKit

/-- A fact kept from the walk. -/
theorem hid {p : Prop} (h : p) : RowKit.Hid p := h
theorem lt_of_cell {w : World} {a : Addr} {v : Value} (h : w.cell? a = some v) : a.block < w.heap.size := by
  rcases Nat.lt_or_ge a.block w.heap.size with h' | h'
  · exact h'
  · simp [World.cell?, Array.getElem?_eq_none h'] at h
/-- A store into one old block on both sides. -/
theorem below_setCell_both {B : Nat} {w w' : World} (h : Below B w w') (t : Addr) (v : Value) : Below B (w.setCell t v) (w'.setCell t v) := by
  refine ⟨h.os, h.tape, h.output, ?_, fun k hk => ?_⟩
  · have := h.size; simp [World.setCell]; omega
  · by_cases e : k = t.block
    · subst e; have := h.block t.block hk; simp only [World.setCell, Array.getElem?_modify]; rw [this]
    · rw [Below.heap_setCell _ _ _ _ e, Below.heap_setCell _ _ _ _ e]; exact h.block k hk
theorem below_of_set {w w1 : World} {o : Obj} {v : Value} (h : Below (w.alloc o).heap.size ((w.alloc o).setCell ⟨w.heap.size, 0, none⟩ v) w1) : Below w.heap.size w w1 :=
  (((Below.refl w.heap.size w).alloc (Nat.le_refl _) o).setCell (p := ⟨w.heap.size, 0, none⟩) (Nat.le_refl _) v).trans (h.mono (by simp))
theorem cell_of_set {w w1 : World} {T : TypeId} {v0 v : Value} (h : Below (w.alloc (.cells #[v0] T)).heap.size ((w.alloc (.cells #[v0] T)).setCell ⟨w.heap.size, 0, none⟩ v) w1) : w1.cell? ⟨w.heap.size, 0, none⟩ = some v := by
  rw [h.cell (p := ⟨w.heap.size, 0, none⟩) (by simp)]
  exact World.cell?_setCell_same (u := v0) _ _ _ (by simp)

end Go.Proofs.Ytcgjacffemjehaa

namespace Go.Proofs.Ytcgjacffemjehaa
open Go.RowKit

/-- A byte as a cell. -/
def cellOf (b : UInt8) : Value := .int .u8 b.toNat
theorem cellOf_def (b : UInt8) : cellOf b = .int .u8 b.toNat := rfl
/-- A text as a value. -/
abbrev strV (l : List UInt8) : Value := .string ⟨l.toArray⟩

theorem drop_set {α : Type} (C : Array α) (k : Nat) (v : α) (l : List α) (hk : k + 1 ≤ C.size) (h : C.toList.drop (k + 1) = l) :
    (C.setIfInBounds k v).toList.drop k = v :: l := by
  simp only [Array.toList_setIfInBounds]
  rw [List.drop_eq_getElem_cons (by simp; omega)]
  simp [List.drop_set, h]

theorem str_of_nums (l : List UInt8) : strOfNums (l.map fun b => (b.toNat : Int)) = ⟨l.toArray⟩ := by
  unfold strOfNums
  congr 1
  simp [Function.comp_def]

/-- string(b), b a piece of memory that reads as l. -/
theorem run_string_of_cells {P : Program} {w : World} {src e dst : TypeId} (hs : P.underlying src = some (.slice e)) (he : P.underlying e = some (.int .u8)) (hd : P.underlying dst = some .string)
    (b off len cap : Nat) (l : List UInt8) (hlen : l.length = len) (hcell : ∀ i, i < len → w.cell? ⟨b, off + i, none⟩ = some (cellOf (l.getD i 0))) :
    (convert src dst (.slice (some ⟨b, off, none⟩) len cap)).run P w = .ok (strV l) w := by
  have h := run_convert_bytes_arg (P := P) w src e hs he b off len cap (l.map fun b => (b.toNat : Int)) (by simpa using hlen)
    (fun i hi => by rw [hcell i hi]; simp [cellOf, List.getD, show i < l.length by omega]) dst hd
  rw [h, str_of_nums]

/-- The cells of a new block. -/
theorem cells_of_new (w : World) (C : Array Value) (T : TypeId) (k : Nat) (l : List UInt8) (h : C.toList.drop k = l.map cellOf) :
    ∀ i, i < l.length → (w.alloc (.cells C T)).cell? ⟨w.heap.size, k + i, none⟩ = some (cellOf (l.getD i 0)) := by
  intro i hi
  rw [World.cell?_alloc_new]
  have h2 : (C.toList.drop k)[i]? = some (cellOf (l.getD i 0)) := by rw [h]; simp [List.getD, hi]
  rw [List.getElem?_drop] at h2
  simpa using h2

/-- arr[j:], arr an array variable. -/
theorem run_array_from {P : Program} {T : TypeId} (hT : P.underlying T = some (.array (P.arrayLen T) (P.elem T))) (hs : ∀ w, (sizeOf (P.elem T)).run P w = .ok 1 w) (n : Nat) (hn : P.arrayLen T = n)
    (b : Nat) (j : Nat) (J : Int) (hJ : J = j) (hj : j < n) (w : World) :
    (Instr.sliceAt T (.pointer (some ⟨b, 0, none⟩)) (some (.int .i64 J)) none none).run P w = .ok (.slice (some ⟨b, j, none⟩) (n - j) (n - j)) w := by
  subst hJ
  rw [run_sliceAt_array_l w T _ hT .i64 j (by omega) (by omega), hs]
  simp [Result.andThen, slicedAt, hn, Addr.add, show ¬ n = j by omega]
  omega

/-- A string's byte, by its list. -/
theorem str_get (s : ByteArray) (i : Nat) (h : i < s.size) : s[i] = s.data.toList.getD i 0 := by
  have h' : i < s.data.toList.length := by simpa using h
  rw [List.getD_eq_getElem?_getD, List.getElem?_eq_getElem h']
  simp; rfl
theorem str_len (s : ByteArray) : s.data.toList.length = s.size := by simp
theorem str_toList (s : ByteArray) : s.toList = s.data.toList := Lib.toList_data s
theorem str_ne_empty (s : ByteArray) (h : 0 < s.size) : (!s.toList.isEmpty) = true := by
  rw [str_toList]
  have : s.data.toList ≠ [] := fun e => by have h2 := str_len s; rw [e] at h2; simp at h2; omega
  simpa using this
theorem str_empty (s : ByteArray) (h : s.size = 0) : s.toList = [] := by
  rw [str_toList]
  exact List.eq_nil_of_length_eq_zero (by simpa using h)
theorem str_not_empty (s : ByteArray) (h : 0 < s.size) : ¬ s.toList = [] := fun e => by
  rw [str_toList] at e
  have h2 := str_len s; rw [e] at h2; simp at h2; omega
theorem u8_beq (c : UInt8) (n : Nat) (hn : n < 256) : (((c.toNat : Int) == (n : Int)) = true) ↔ c = UInt8.ofNat n := by
  rw [beq_iff_eq]
  constructor
  · intro h
    have h' : c.toNat = n := by exact_mod_cast h
    rw [← h']; simp
  · intro h; subst h; simp; omega

/-- A text and a text. -/
theorem str_append (a b : List UInt8) : (⟨a.toArray⟩ : ByteArray) ++ ⟨b.toArray⟩ = ⟨(a ++ b).toArray⟩ := by
  apply ByteArray.ext
  simp
/-- A call that answers a text and writes nothing that was there. -/
def TextPost (l : List UInt8) (w : World) (e : Ending) (w' : World) : Prop := e = .returned (strV l) ∧ Below w.heap.size w w'
theorem TextPost.mk {l : List UInt8} {w w' : World} {v : Value} (h : v = strV l) (hb : Below w.heap.size w w') : TextPost l w (.returned v) w' := ⟨by rw [h], hb⟩
/-- string([]byte{c}). -/
theorem run_string_of_one {P : Program} {w : World} {src e dst : TypeId} (hs : P.underlying src = some (.slice e)) (he : P.underlying e = some (.int .u8)) (hd : P.underlying dst = some .string) (v : Value) (c : UInt8) (hv : v = cellOf c) :
    (convert src dst (.slice (some ⟨w.heap.size, 0, none⟩) 1 1)).run P (w.alloc (.cells #[v] e)) = .ok (.string ⟨#[c]⟩) (w.alloc (.cells #[v] e)) := by
  subst hv
  exact run_string_of_cells (P := P) (w := w.alloc (.cells #[cellOf c] e)) hs he hd w.heap.size 0 1 1 [c] rfl (fun i hi => by obtain rfl : i = 0 := (by omega); simp)

/-- One call behind another: nothing that was there is written. -/
theorem below_then {a b c : World} (h : Below a.heap.size a b) (k : Below b.heap.size b c) : Below a.heap.size a c := h.trans (k.mono h.size)
/-- A law's call: true, and nothing that was there is written. -/
def TruePost (w : World) (e : Ending) (w' : World) : Prop := e = .returned (.bool true) ∧ Below w.heap.size w w'
theorem TruePost.mk {w w' : World} {b : Bool} (h : b = true) (hb : Below w.heap.size w w') : TruePost w (.returned (.bool b)) w' := ⟨by rw [h], hb⟩
theorem int_beq_false {a b : Int} (h : ¬ a = b) : (a == b) = false := by simpa using h
theorem int_beq_true {a b : Int} (h : a = b) : (a == b) = true := by simpa using h
theorem u8_ne {c d : UInt8} (h : ¬ c = d) : ¬ c.toNat = d.toNat := fun e => h (UInt8.toNat_inj.1 e)
/-- string(b), b a new block. -/
theorem run_string_of_new {P : Program} {w : World} {src e dst : TypeId} (hs : P.underlying src = some (.slice e)) (he : P.underlying e = some (.int .u8)) (hd : P.underlying dst = some .string) (C : Array Value) (l : List UInt8) (hC : C.toList = l.map cellOf) (k : Nat) (hk : l.length = k) (m : Nat) :
    (convert src dst (.slice (some ⟨w.heap.size, 0, none⟩) k m)).run P (w.alloc (.cells C e)) = .ok (strV l) (w.alloc (.cells C e)) :=
  run_string_of_cells (P := P) (w := w.alloc (.cells C e)) hs he hd w.heap.size 0 k m l hk (fun i hi => cells_of_new w C e 0 l (by simpa using hC) i (by omega))
/-- []byte(s): a new block; nothing that was there is written. -/
theorem below_bytes (w : World) (e : TypeId) (s : ByteArray) : Below w.heap.size w (Lib.bytesWorld w e s) := by
  refine ⟨?_, ?_, ?_, ?_, fun k hk => Lib.bytesWorld_at_old w e s k hk⟩
  · unfold Lib.bytesWorld World.freeze; rfl
  · unfold Lib.bytesWorld World.freeze; rfl
  · unfold Lib.bytesWorld World.freeze; rfl
  · rw [Lib.bytesWorld_size]; omega
end Go.Proofs.Ytcgjacffemjehaa

namespace Go.Proofs.Ytcgjacffemjehaa
open Go.RowKit
set_option linter.unusedVariables false

/-- A slice value that reads as bytes. -/
def ReadsB (w : World) (v : Value) (l : List UInt8) : Prop :=
  (v = .slice none 0 0 ∧ l = []) ∨ ∃ b o cap, v = .slice (some ⟨b, o, none⟩) l.length cap ∧ l.length ≤ cap ∧ ∀ i, i < l.length → w.cell? ⟨b, o + i, none⟩ = some (cellOf (l.getD i 0))
/-- A slice value that owns its bytes, in blocks from base on. -/
def OwnB (w : World) (base : Nat) (e : TypeId) (v : Value) (l : List UInt8) : Prop := w.ownsRow base e 1 v l.length (l.map cellOf)
theorem getD_map_cell (l : List UInt8) (i : Nat) (h : i < l.length) : (l.map cellOf)[i]? = some (cellOf (l.getD i 0)) := by simp [List.getD, h]
theorem OwnB.reads {w : World} {base : Nat} {e : TypeId} {v : Value} {l : List UInt8} (h : OwnB w base e v l) : ReadsB w v l := by
  obtain ⟨h1, h2⟩ := h
  rcases h2 with ⟨rfl, h3⟩ | ⟨g, cap, cur, rfl, hb, hg, hn, hm, hs, ht⟩
  · exact .inl ⟨rfl, List.eq_nil_of_length_eq_zero h3⟩
  · refine .inr ⟨g, 0, cap, rfl, hn, fun i hi => ?_⟩
    have hc := getD_map_cell l i hi
    rw [← ht, List.getElem?_take] at hc
    rw [if_pos (by omega)] at hc
    simp only [World.cell?, hg, Nat.zero_add]
    simpa using hc
theorem OwnB.nil (w : World) (base : Nat) (e : TypeId) : OwnB w base e (.slice none 0 0) [] := World.ownsRow_nil w base e 1
/-- A new block of bytes is owned. -/
theorem OwnB.new (w : World) (base : Nat) (e : TypeId) (C : Array Value) (l : List UInt8) (n : Nat) (hn : n = l.length) (hC : C.toList = l.map cellOf) (hb : base ≤ w.heap.size) (hm : n ≤ maxLen) : OwnB (w.alloc (.cells C e)) base e (.slice (some ⟨w.heap.size, 0, none⟩) n n) l := by
  subst hn
  refine ⟨by simp, .inr ⟨w.heap.size, l.length, C, rfl, hb, ?_, Nat.le_refl _, hm, ?_, ?_⟩⟩
  · show (w.heap.push _)[w.heap.size]? = _; simp
  · have := congrArg List.length hC; simpa using this
  · rw [hC, List.take_of_length_le (by simp)]
/-- The same, the block's number spelt otherwise. -/
theorem OwnB.new' (w : World) (base : Nat) (e : TypeId) (C : Array Value) (l : List UInt8) (n b : Nat) (hb' : b = w.heap.size) (hn : n = l.length) (hC : C.toList = l.map cellOf) (hb : base ≤ w.heap.size) (hm : n ≤ maxLen) : OwnB (w.alloc (.cells C e)) base e (.slice (some ⟨b, 0, none⟩) n n) l := by
  subst hb'; exact OwnB.new w base e C l n hn hC hb hm
theorem ReadsB.below {w w' : World} {v : Value} {l : List UInt8} (h : ReadsB w v l) (hb : Below w.heap.size w w') : ReadsB w' v l := by
  rcases h with h | ⟨b, o, cap, hv, hc, hcell⟩
  · exact .inl h
  · exact .inr ⟨b, o, cap, hv, hc, fun i hi => by rw [hb.cell (p := ⟨b, o + i, none⟩) (lt_of_cell (hcell i hi))]; exact hcell i hi⟩
/-- A slice of bytes, by its type's facts. -/
structure ByteT (P : Program) (t e : TypeId) : Prop where
  slice : P.underlying t = some (.slice e)
  byte : P.underlying e = some (.int .u8)
  info : (P.info? e).map (fun i => (i.zero, i.size, i.bytes)) = some (some (.int .u8 0), 1, 1)

/-- append(owned bytes, bytes): what it comes to. -/
theorem run_append_b {P : Program} {t e : TypeId} (HT : ByteT P t e) {w : World} (ty : TypeId) (base : Nat) (l m : List UInt8) (v xv : Value)
    (hown : OwnB w base e v l) (hm : ReadsB w xv m) (hlen : l.length + m.length ≤ 1099511627776) (hbase : base ≤ w.heap.size) :
    ∃ v' w', (Builtin.append_ #[t, t] ty #[v, xv]).run P w = .ok v' w' ∧ OwnB w' base e v' (l ++ m) ∧ w.grownBy w' v.ownBlock ∧ (v' = .slice none 0 0 → v = .slice none 0 0) ∧ (v'.ownBlock = v.ownBlock ∨ v'.ownBlock = some w.heap.size) := by
  obtain ⟨i, hi, hz, hsize, hby⟩ := info_parts HT.info
  rcases hm with ⟨rfl, rfl⟩ | ⟨b, off, cap, rfl, hcap, hcell⟩
  · exact ⟨v, w, run_append_owned_none (P := P) w base t ty e i 1 HT.slice hi v l.length (l.map cellOf) hown, by simpa using hown, World.grownBy.refl _ _, fun e => e, .inl rfl⟩
  · obtain ⟨v', w', h1, h2, h3, h4, h5⟩ := run_append_own_at (P := P) w base t ty e i (.int .u8 0) 1 1 HT.slice hi hz hsize hby rfl (by omega) v l.length (l.map cellOf) hown ⟨b, off, none⟩ m.length cap (m.map cellOf) (by simp)
      (by
        intro j u hu
        have hj : j < m.length := by have := (List.getElem?_eq_some_iff.1 hu).1; simpa using this
        rw [Addr.add_lit, hcell j hj, ← getD_map_cell m j hj]; exact hu)
      (by intro u hu; obtain ⟨c, _, rfl⟩ := List.mem_map.1 hu; rfl) (by unfold maxLen; omega) (by omega) hbase
    exact ⟨v', w', h1, by unfold OwnB; rw [List.length_append, List.map_append]; exact h2, h3, fun e => (h4.1 e).1, h5⟩
/-- At one operation. -/
theorem wp_append_b {P : Program} {t e : TypeId} (HT : ByteT P t e) {w : World} {o : Oper} {a : Act} {K : Act → World → Prop} {Q : Exit → Act → World → Prop} (s x : Operand)
    (ho : o.op = .call { callee := .builtin .append, args := #[s, x], argTypes := #[t, t] }) (base : Nat) (l m : List UInt8) (v xv : Value) (hs : a.eval s = v) (hx : a.eval x = xv)
    (hown : OwnB w base e v l) (hm : ReadsB w xv m) (hlen : l.length + m.length ≤ 1099511627776) (hbase : base ≤ w.heap.size)
    (h : ∀ v' w', OwnB w' base e v' (l ++ m) → w.grownBy w' v.ownBlock → (v' = .slice none 0 0 → v = .slice none 0 0) → (v'.ownBlock = v.ownBlock ∨ v'.ownBlock = some w.heap.size) → K (a.put o.dst v') w') : o.wp P a w K Q := by
  obtain ⟨v', w', hr, h2, h3, h4, h5⟩ := run_append_b HT o.type base l m v xv hown hm hlen hbase
  unfold Oper.wp execOp
  simp only [ho, resolve, invoke, builtin, Sem.run_bind, Sem.run_pure, Result.andThen_ok, List.map_toArray, List.map_cons, List.map_nil, hs, hx, hr]
  exact h v' w' h2 h3 h4 h5
/-- At the list of a plain region's operations. -/
theorem wpList_append_b {P : Program} {t e : TypeId} (HT : ByteT P t e) {w : World} {ops : Array Oper} {rest : List Oper} {o : Oper} {a : Act} {Q : Exit → Act → World → Prop} (hgd : o.guard = none) (s x : Operand)
    (ho : o.op = .call { callee := .builtin .append, args := #[s, x], argTypes := #[t, t] }) (base : Nat) (l m : List UInt8) (v xv : Value) (hs : a.eval s = v) (hx : a.eval x = xv)
    (hown : OwnB w base e v l) (hm : ReadsB w xv m) (hlen : l.length + m.length ≤ 1099511627776) (hbase : base ≤ w.heap.size)
    (h : ∀ v' w', OwnB w' base e v' (l ++ m) → w.grownBy w' v.ownBlock → (v' = .slice none 0 0 → v = .slice none 0 0) → (v'.ownBlock = v.ownBlock ∨ v'.ownBlock = some w.heap.size) → wpList P ops Q rest (a.put o.dst v') w') : wpList P ops Q (o :: rest) a w :=
  wpList_plain hgd fun _ hK => wp_append_b HT s x ho base l m v xv hs hx hown hm hlen hbase fun v' w' h2 h3 h4 h5 => hK _ _ (h v' w' h2 h3 h4 h5)
/-- At a step of a region that draws its order. -/
theorem step_append_b {P : Program} {t e : TypeId} (HT : ByteT P t e) {w : World} {ops : Array Oper} {o : Oper} {a : Act} {K : Act → World → Prop} {Q : Exit → Act → World → Prop} {E : Prop} (hgd : o.guard = none) (s x : Operand)
    (ho : o.op = .call { callee := .builtin .append, args := #[s, x], argTypes := #[t, t] }) (base : Nat) (l m : List UInt8) (v xv : Value) (hs : a.eval s = v) (hx : a.eval x = xv)
    (hown : OwnB w base e v l) (hm : ReadsB w xv m) (hlen : l.length + m.length ≤ 1099511627776) (hbase : base ≤ w.heap.size)
    (h : ∀ v' w', OwnB w' base e v' (l ++ m) → w.grownBy w' v.ownBlock → (v' = .slice none 0 0 → v = .slice none 0 0) → (v'.ownBlock = v.ownBlock ∨ v'.ownBlock = some w.heap.size) → K (a.put o.dst v') w') : if Region.wanted o (yielded ops a.tmps) = true then Oper.wp P o a w K Q else E := by
  have hw : Region.wanted o (yielded ops a.tmps) = true := by simp [Region.wanted, hgd]
  rw [if_pos hw]
  exact wp_append_b HT s x ho base l m v xv hs hx hown hm hlen hbase h
/-- string(owned bytes). -/
theorem run_string_of_reads {P : Program} {w : World} {t e dst : TypeId} (HT : ByteT P t e) (hd : P.underlying dst = some .string) {v : Value} {l : List UInt8} (h : ReadsB w v l) :
    (convert t dst v).run P w = .ok (strV l) w := by
  rcases h with ⟨rfl, rfl⟩ | ⟨b, o, cap, rfl, hcap, hcell⟩
  · exact run_convert_bytes_nil w t e HT.slice HT.byte 0 0 dst hd
  · exact run_string_of_cells HT.slice HT.byte hd b o l.length cap l rfl hcell
theorem OwnB.kept {w w' : World} {base : Nat} {e : TypeId} {v : Value} {l : List UInt8} (h : OwnB w base e v l) {row : Option Nat} (hg : w.grownBy w' row) (hne : v.ownBlock = none ∨ v.ownBlock ≠ row) : OwnB w' base e v l := World.ownsRow.kept h hg hne
theorem OwnB.alloc {w : World} {base : Nat} {e : TypeId} {v : Value} {l : List UInt8} (h : OwnB w base e v l) (o : Obj) : OwnB (w.alloc o) base e v l := World.ownsRow.alloc h o
theorem OwnB.lt {w : World} {base : Nat} {e : TypeId} {v : Value} {l : List UInt8} (h : OwnB w base e v l) {k : Nat} (hk : v.ownBlock = some k) : base ≤ k ∧ k < w.heap.size := World.ownsRow.lt h k hk
theorem below_grown {B : Nat} {w w' : World} {base : Nat} {e : TypeId} {v : Value} {l : List UInt8} (h : OwnB w base e v l) (hg : w.grownBy w' v.ownBlock) (hB : B ≤ base) (hb : B ≤ w.heap.size) : Below B w w' :=
  (Below.refl B w).grown hg hb (fun k hk => by have := (h.lt hk).1; omega)
end Go.Proofs.Ytcgjacffemjehaa

namespace Go.Proofs.Ytcgjacffemjehaa
open Go.RowKit
set_option linter.unusedVariables false

theorem byteT : ByteT Try.prog 44 5 := ⟨Try.underlying44, Try.underlying5, by kernel_rfl⟩
/-- append(owned bytes, text...). -/
theorem run_append_s {P : Program} {t u e : TypeId} (HT : ByteT P t e) (hu : P.underlying u = some .string) {w : World} (ty : TypeId) (base : Nat) (l : List UInt8) (s : ByteArray) (v : Value)
    (hown : OwnB w base e v l) (hlen : l.length + s.size ≤ 1099511627776) (hbase : base ≤ w.heap.size) :
    ∃ v' w', (Builtin.append_ #[t, u] ty #[v, .string s]).run P w = .ok v' w' ∧ OwnB w' base e v' (l ++ s.data.toList) ∧ w.grownBy w' v.ownBlock := by
  obtain ⟨i, hi, hz, hsize, hby⟩ := info_parts HT.info
  obtain ⟨v', w', h1, h2, h3, _⟩ := Lib.run_append_own_string (P := P) w base t u ty e i HT.slice hu hi hz hsize hby v l.length (l.map cellOf) hown s (by unfold maxLen; omega) (by omega) hbase
  refine ⟨v', w', h1, ?_, h3⟩
  have hc : Lib.strCells s = s.data.toList.map cellOf := by simp [Lib.strCells, cellOf]
  unfold OwnB
  rw [List.length_append, List.map_append, ← hc, str_len]
  exact h2
theorem step_append_s {P : Program} {t u e : TypeId} (HT : ByteT P t e) (hu : P.underlying u = some .string) {w : World} {ops : Array Oper} {o : Oper} {a : Act} {K : Act → World → Prop} {Q : Exit → Act → World → Prop} {E : Prop} (hgd : o.guard = none) (s x : Operand)
    (ho : o.op = .call { callee := .builtin .append, args := #[s, x], argTypes := #[t, u] }) (base : Nat) (l : List UInt8) (m : ByteArray) (v : Value) (hs : a.eval s = v) (hx : a.eval x = .string m)
    (hown : OwnB w base e v l) (hlen : l.length + m.size ≤ 1099511627776) (hbase : base ≤ w.heap.size)
    (h : ∀ v' w', OwnB w' base e v' (l ++ m.data.toList) → w.grownBy w' v.ownBlock → K (a.put o.dst v') w') : if Region.wanted o (yielded ops a.tmps) = true then Oper.wp P o a w K Q else E := by
  have hw : Region.wanted o (yielded ops a.tmps) = true := by simp [Region.wanted, hgd]
  rw [if_pos hw]
  obtain ⟨v', w', hr, h2, h3⟩ := run_append_s HT hu o.type base l m v hown hlen hbase
  unfold Oper.wp execOp
  simp only [ho, resolve, invoke, builtin, Sem.run_bind, Sem.run_pure, Result.andThen_ok, List.map_toArray, List.map_cons, List.map_nil, hs, hx, hr]
  exact h v' w' h2 h3

theorem grown_set (w : World) (a : Addr) (u : Value) : w.grownBy (w.setCell a u) (some a.block) :=
  ⟨rfl, rfl, rfl, by simp [World.setCell], fun i hi hne => Below.heap_setCell w a u i (fun e => hne (by rw [e]))⟩
theorem own_ne_blk {w : World} {base : Nat} {e T : TypeId} {v : Value} {l : List UInt8} {g : Nat} {cs : Array Value} {fz : Nat × Nat} (h : OwnB w base e v l) (hb : w.heap[g]? = some (.cells cs T fz)) (hne : e ≠ T) : some g ≠ v.ownBlock := by
  intro e
  rcases h.2 with ⟨rfl, _⟩ | ⟨k, cap, cur, rfl, _, hh, _⟩
  · simp [Value.ownBlock] at e
  · have : g = k := by simpa [Value.ownBlock] using e
    subst this
    rw [hb] at hh
    injection hh with hh
    injection hh with _ ht
    exact hne ht.symm
/-- A coder in block g, that has written l; what lay ahead lies in w0. -/
structure WS (w0 : World) (g : Nat) (v : Value) (l : List UInt8) (w : World) : Prop where
  below : Below w0.heap.size w0 w
  ge : w0.heap.size ≤ g
  blk : w.heap[g]? = some (.cells #[v, .bool false, .bool false] 88 (0, 0))
  own : OwnB w w0.heap.size 5 v l
theorem WS.lt {w0 : World} {g : Nat} {v : Value} {l : List UInt8} {w : World} (h : WS w0 g v l w) : g < w.heap.size := (Array.getElem?_eq_some_iff.1 h.blk).1
theorem WS.base {w0 : World} {g : Nat} {v : Value} {l : List UInt8} {w : World} (h : WS w0 g v l w) : w0.heap.size ≤ w.heap.size := h.below.size
theorem WS.cells {w0 : World} {g : Nat} {v : Value} {l : List UInt8} {w : World} (h : WS w0 g v l w) : w.cell? ⟨g, 0, none⟩ = some v ∧ w.cell? ⟨g, 1, none⟩ = some (.bool false) ∧ w.cell? ⟨g, 2, none⟩ = some (.bool false) ∧ w.frozen? ⟨g, 0, none⟩ = false := by
  have hb := h.blk
  refine ⟨?_, ?_, ?_, ?_⟩ <;> simp [World.cell?, World.frozen?, hb]
theorem WS.ne {w0 : World} {g : Nat} {v : Value} {l : List UInt8} {w : World} (h : WS w0 g v l w) : some g ≠ v.ownBlock := own_ne_blk h.own h.blk (by decide)
theorem WS.alloc {w0 : World} {g : Nat} {v : Value} {l : List UInt8} {w : World} (h : WS w0 g v l w) (o : Obj) : WS w0 g v l (w.alloc o) :=
  ⟨h.below.alloc h.base _, h.ge, (Below.heap_alloc w o g h.lt).trans h.blk, h.own.alloc o⟩
theorem WS.drew {w0 : World} {g : Nat} {v : Value} {l : List UInt8} {w : World} (h : WS w0 g v l w) : WS w0 g v l w.drew := ⟨⟨h.below.os, h.below.tape, h.below.output, h.below.size, h.below.block⟩, h.ge, h.blk, h.own⟩
theorem WS.drewN {w0 : World} {g : Nat} {v : Value} {l : List UInt8} {w : World} (h : WS w0 g v l w) (n : Nat) : WS w0 g v l (w.drewN n) := ⟨⟨h.below.os, h.below.tape, h.below.output, h.below.size, h.below.block⟩, h.ge, h.blk, h.own⟩
/-- The bytes have grown to v; they have not been stored yet: the coder still holds u. -/
structure WG (w0 : World) (g : Nat) (u v : Value) (l : List UInt8) (w : World) : Prop where
  below : Below w0.heap.size w0 w
  ge : w0.heap.size ≤ g
  blk : w.heap[g]? = some (.cells #[u, .bool false, .bool false] 88 (0, 0))
  own : OwnB w w0.heap.size 5 v l
theorem WS.grow {w0 : World} {g : Nat} {v v' : Value} {l l' : List UInt8} {w w' : World} (h : WS w0 g v l w) (hg : w.grownBy w' v.ownBlock) (ho : OwnB w' w0.heap.size 5 v' l') : WG w0 g v v' l' w' :=
  ⟨h.below.grown hg h.base (fun k hk => (h.own.lt hk).1), h.ge, (hg.block g h.lt h.ne).trans h.blk, ho⟩
theorem WG.cells {w0 : World} {g : Nat} {u v : Value} {l : List UInt8} {w : World} (h : WG w0 g u v l w) : w.frozen? ⟨g, 0, none⟩ = false ∧ w.cell? ⟨g, 0, none⟩ = some u := by
  have hb := h.blk
  refine ⟨?_, ?_⟩ <;> simp [World.cell?, World.frozen?, hb]
theorem WG.drew {w0 : World} {g : Nat} {u v : Value} {l : List UInt8} {w : World} (h : WG w0 g u v l w) : WG w0 g u v l w.drew := ⟨⟨h.below.os, h.below.tape, h.below.output, h.below.size, h.below.block⟩, h.ge, h.blk, h.own⟩
theorem WG.store {w0 : World} {g : Nat} {u v : Value} {l : List UInt8} {w : World} (h : WG w0 g u v l w) : WS w0 g v l (w.setCell ⟨g, 0, none⟩ v) := by
  have hb := h.blk
  have hne : some g ≠ v.ownBlock := own_ne_blk h.own hb (by decide)
  refine ⟨h.below.setCell (p := ⟨g, 0, none⟩) h.ge _, h.ge, ?_, h.own.kept (grown_set w ⟨g, 0, none⟩ v) (.inr (fun e => hne e.symm))⟩
  simp [World.setCell, Array.getElem?_modify, hb]
theorem own_form {w : World} {base : Nat} {e : TypeId} {v : Value} {l : List UInt8} (h : OwnB w base e v l) : ∃ a m c, v = .slice a m c := by
  rcases h.reads with ⟨rfl, rfl⟩ | ⟨b, o, cap, rfl, _, _⟩ <;> exact ⟨_, _, _, rfl⟩
/-- What a writer answers: e0, with l written. -/
def WPost (w0 : World) (g : Nat) (l : List UInt8) (e0 : Ending) (e : Ending) (w' : World) : Prop := e = e0 ∧ ∃ v, WS w0 g v l w'
theorem WPost.mk {w0 : World} {g : Nat} {l l' : List UInt8} {e0 e : Ending} {v : Value} {w' : World} (he : e = e0) (hl : l' = l) (h : WS w0 g v l' w') : WPost w0 g l e0 e w' := ⟨he, v, hl ▸ h⟩
/-- Four bytes of a number. -/
def four (n : Nat) : List UInt8 := [UInt8.ofNat (n / 16777216), UInt8.ofNat (n / 65536), UInt8.ofNat (n / 256), UInt8.ofNat n]
theorem cell_ofNat (n : Nat) : cellOf (UInt8.ofNat n) = .int .u8 ((n : Int) % 256) := by
  unfold cellOf
  simp
theorem four_cells (n : Nat) : (four n).map cellOf = [.int .u8 ((n : Int) / 16777216 % 256), .int .u8 ((n : Int) / 65536 % 256), .int .u8 ((n : Int) / 256 % 256), .int .u8 ((n : Int) % 256)] := by
  simp only [four, List.map_cons, List.map_nil, cell_ofNat]
  simp
/-- A byte of a whole number. -/
def byteI (z : Int) : UInt8 := UInt8.ofNat (z % 256).toNat
theorem cell_byteI (z : Int) : cellOf (byteI z) = .int .u8 (z % 256) := by
  unfold cellOf byteI
  simp
  omega
theorem one_cells (z : Int) (h : z % 256 = z) : [byteI z].map cellOf = [.int .u8 z] := by rw [List.map_cons, cell_byteI, h]; rfl
theorem one_wrap (z : Int) : [byteI z].map cellOf = [.int .u8 (IntKind.u8.wrap z)] := by
  rw [List.map_cons, cell_byteI, List.map_nil]
  congr 2
/-- Eight bytes of a number. -/
def eight (n : Int) : List UInt8 := [byteI (n / 72057594037927936), byteI (n / 281474976710656), byteI (n / 1099511627776), byteI (n / 4294967296), byteI (n / 16777216), byteI (n / 65536), byteI (n / 256), byteI n]
theorem eight_step (n : Int) (k : Nat) (hk : k < 8) : (eight n).take (k + 1) = (eight n).take k ++ [byteI (n / 2 ^ (56 - 8 * (k : Int)).toNat)] := by
  have h : k = 0 ∨ k = 1 ∨ k = 2 ∨ k = 3 ∨ k = 4 ∨ k = 5 ∨ k = 6 ∨ k = 7 := by omega
  rcases h with rfl | rfl | rfl | rfl | rfl | rfl | rfl | rfl <;> simp [eight]
def textB (s : ByteArray) : List UInt8 := four s.size ++ s.data.toList
def textsB (l : List ByteArray) : List UInt8 := four l.length ++ l.flatMap textB
def truthB (t : Bool) : List UInt8 := [byteI (if t then 1 else 0)]
end Go.Proofs.Ytcgjacffemjehaa

namespace Go.Proofs.Ytcgjacffemjehaa
open Go.RowKit
set_option linter.unusedVariables false
set_option maxHeartbeats 1000000 in
set_option maxRecDepth 100000 in
theorem size_w {w0 w : World} {g : Nat} {v : Value} {l : List UInt8} (h : WS w0 g v l w) (n : Nat) (hn : n ≤ 1099511627776) (hl : l.length ≤ 549755813888) :
    Calls Try.prog 49 #[.pointer (some ⟨g, 0, none⟩), .int .i64 n] w (WPost w0 g (l ++ four n) (.returned (.int .i64 n))) := by
  obtain ⟨c0, c1, c2, f0⟩ := h.cells
  have H := hid h
  clear h
  go_enter Try.func49, Try.ntmps49
  go_wp2_with (at_builtin; refine wpList_append_b byteT rfl (.tmp 16) (.tmp 28) rfl w0.heap.size l (four n) v _ rfl rfl (H.out.own.alloc _) (OwnB.new w 0 5 _ (four n) 4 rfl (four_cells n).symm (Nat.zero_le _) (by decide)).reads (by simp [four]; omega) (by have := H.out.base; simp; omega) ?_; intro v' w1 ho hg _ _; obtain ⟨a1, m1, k1, rfl⟩ := own_form ho; have hW := (H.out.alloc _).grow hg ho; have HW := hid hW; obtain ⟨f1, d1⟩ := hW.cells; clear ho hg hW)
  go_ret
  exact WPost.mk rfl rfl HW.out.store
set_option maxHeartbeats 2000000 in
set_option maxRecDepth 100000 in
theorem text_w {w0 w : World} {g : Nat} {v : Value} {l : List UInt8} (h : WS w0 g v l w) (p : Addr) (s : ByteArray) (hp : w0.cell? p = some (.string s)) (hs : s.size ≤ 549755813884) (hl : l.length ≤ 549755813888) :
    Calls Try.prog 41 #[.pointer (some ⟨g, 0, none⟩), .pointer (some p)] w (WPost w0 g (l ++ textB s) (.returned (.tuple #[]))) := by
  have hps := lt_of_cell hp
  have hp1 : w.cell? p = some (.string s) := (h.below.cell hps).trans hp
  have HP := hid hp
  have H := hid h
  clear h hp
  go_enter Try.func41, Try.ntmps41
  go_wp2_with (go_at_call 49; refine (size_w H.out s.size (by omega) hl).mono ?_; intro e w1 hq; obtain ⟨rfl, v1, h1⟩ := hq; have H1 := hid h1; have hp2 := (h1.below.cell hps).trans HP.out; obtain ⟨c0, c1, c2, f0⟩ := h1.cells; clear h1)
  go_region_law (refine step_append_s byteT Try.underlying9 (by rfl) _ _ (by rfl) w0.heap.size (l ++ four s.size) s v1 (by rfl) (by rfl) H1.out.drew.own (by simp [four]; omega) H1.out.base ?_; intro v' w2 ho hg; obtain ⟨a1, m1, k1, rfl⟩ := own_form ho; have hW := H1.out.drew.grow hg ho; have HW := hid hW; obtain ⟨f1, d1⟩ := hW.cells; have s2 : w2.cell? p = some (.string s) := (hW.below.cell hps).trans HP.out; clear ho hg hW)
  all_goals
    go_end0
    exact WPost.mk rfl (by simp [textB]) HW.out.store
set_option maxHeartbeats 2000000 in
set_option maxRecDepth 100000 in
theorem truth_w {w0 w : World} {g : Nat} {v : Value} {l : List UInt8} (h : WS w0 g v l w) (p : Addr) (s : Bool) (hp : w0.cell? p = some (.bool s)) (hl : l.length ≤ 549755813888) :
    Calls Try.prog 44 #[.pointer (some ⟨g, 0, none⟩), .pointer (some p)] w (WPost w0 g (l ++ truthB s) (.returned (.tuple #[]))) := by
  have hps := lt_of_cell hp
  have hp1 : w.cell? p = some (.bool s) := (h.below.cell hps).trans hp
  obtain ⟨c0, c1, c2, f0⟩ := h.cells
  have H := hid h
  clear h hp
  cases s
  all_goals
    go_enter Try.func44, Try.ntmps44
    go_wp2_with (at_builtin; refine wpList_append_b byteT rfl (.tmp 18) (.tmp 20) rfl w0.heap.size l [byteI _] v _ rfl rfl (H.out.own.alloc _) (OwnB.new w 0 5 _ _ 1 rfl (one_cells _ (by rfl)).symm (Nat.zero_le _) (by decide)).reads (by simp; omega) (by have := H.out.base; simp; omega) ?_; intro v' w1 ho hg _ _; obtain ⟨a1, m1, k1, rfl⟩ := own_form ho; have hW := (H.out.alloc _).grow hg ho; have HW := hid hW; obtain ⟨f1, d1⟩ := hW.cells; clear ho hg hW)
    go_end0
    exact WPost.mk rfl rfl HW.out.store
set_option maxHeartbeats 2000000 in
set_option maxRecDepth 100000 in
theorem num_w {w0 w : World} {g : Nat} {v : Value} {l : List UInt8} (h : WS w0 g v l w) (p : Addr) (n : Int) (hp : w0.cell? p = some (.int .i64 n)) (hn : -9223372036854775808 ≤ n ∧ n ≤ 9223372036854775807) (hl : l.length ≤ 549755813888) :
    Calls Try.prog 42 #[.pointer (some ⟨g, 0, none⟩), .pointer (some p)] w (WPost w0 g (l ++ eight n) (.returned (.tuple #[]))) := by
  have hps := lt_of_cell hp
  have hp1 : w.cell? p = some (.int .i64 n) := (h.below.cell hps).trans hp
  obtain ⟨c0, c1, c2, f0⟩ := h.cells
  have H := hid h
  have HP := hid hp
  clear h hp
  go_enter Try.func42, Try.ntmps42
  go_wp2
  go_loopw [4] (fun i wr => ∃ (k : Nat) (v' : Value), k ≤ 8 ∧ i = .int .i64 (56 - 8 * (k : Int)) ∧ WS w0 g v' (l ++ (eight n).take k) wr) (fun i _ => (intOf i + 8).toNat)
  case atStart => exact ⟨0, v, by omega, by simp, by simpa using H.out⟩
  case round =>
    obtain ⟨k, v2, hk, rfl, h⟩ := hrel
    have hp2 : wr.cell? p = some (.int .i64 n) := (h.below.cell hps).trans HP.out
    obtain ⟨c0, c1, c2, f0⟩ := h.cells
    have hn1 : ∀ o, (wr.alloc o).cell? ⟨g, 0, none⟩ = some v2 := fun o => (World.cell?_alloc_lt wr o ⟨g, 0, none⟩ (lt_of_cell c0)).trans c0
    have hn2 : ∀ o, (wr.alloc o).cell? p = some (.int .i64 n) := fun o => (World.cell?_alloc_lt wr o p (lt_of_cell hp2)).trans hp2
    have H2 := hid h
    clear h
    by_cases hk8 : k < 8
    · have t0 : decide ((0 : Int) ≤ 56 - 8 * (k : Int)) = true := decide_eq_true (by omega)
      have b1 : (0 : Int) ≤ 56 - 8 * (k : Int) := by omega
      have b2 : 56 - 8 * (k : Int) < 64 := by omega
      go_wp2
      go_region_law (refine step_append_b byteT (by rfl) _ _ (by rfl) w0.heap.size (l ++ (eight n).take k) [byteI _] v2 _ (by rfl) (by rfl) (H2.out.drew.alloc _).own (OwnB.new _ 0 5 _ _ 1 rfl (one_wrap _).symm (Nat.zero_le _) (by decide)).reads (by simp; omega) (by have := H2.out.base; simp; omega) ?_; intro v' w2 ho hg _ _; obtain ⟨a1, m1, k1, rfl⟩ := own_form ho; have hW := (H2.out.drew.alloc _).grow hg ho; have HW := hid hW; obtain ⟨f1, d1⟩ := hW.cells; have s1 : w2.cell? p = some (.int .i64 n) := (hW.below.cell hps).trans HP.out; clear ho hg hW)
      all_goals
        have he := eight_step n k hk8
        go_wp2
        go_roundw
        case rel => exact ⟨k + 1, _, by omega, by congr 1; omega, by rw [he, ← List.append_assoc]; exact HW.out.store⟩
        case measure => simp [intOf]; omega
    · have t0 : decide ((0 : Int) ≤ 56 - 8 * (k : Int)) = false := decide_eq_false (by omega)
      obtain rfl : k = 8 := by omega
      go_wp2
      go_end0
      exact WPost.mk rfl (by simp [eight]) H2.out
end Go.Proofs.Ytcgjacffemjehaa

namespace Go.Proofs.Ytcgjacffemjehaa
open Go.RowKit
open Go.Proofs.YtcgjacffemjehaaW.PrintWords (Kd rdOf)
open Go.Proofs.Ytcgjacffemjehaa.PRowPacks
set_option linter.unusedVariables false
theorem take_snoc_getD {α : Type} (l : List α) (d : α) (k : Nat) (h : k < l.length) : l.take (k + 1) = l.take k ++ [l.getD k d] := by
  rw [List.take_succ_eq_append_getElem h]
  simp [List.getD, h]
theorem flat_snoc {α : Type} (f : α → List UInt8) (l : List α) (d : α) (k : Nat) (h : k < l.length) : (l.take (k + 1)).flatMap f = (l.take k).flatMap f ++ f (l.getD k d) := by
  rw [take_snoc_getD l d k h]
  simp
theorem flat_take_le {α : Type} (f : α → List UInt8) (l : List α) (k : Nat) : ((l.take k).flatMap f).length ≤ (l.flatMap f).length := by
  have h : l.flatMap f = (l.take k).flatMap f ++ (l.drop k).flatMap f := by rw [← List.flatMap_append, List.take_append_drop]
  rw [h, List.length_append]
  omega
set_option maxHeartbeats 1000000 in
theorem word_w {w0 w : World} {g : Nat} {v : Value} {l : List UInt8} (h : WS w0 g v l w) (p : Addr) (s : ByteArray) (hp : w0.cell? p = some (.string s)) (hs : s.size ≤ 549755813884) (hl : l.length ≤ 549755813888) :
    Calls Try.prog 52 #[.pointer (some ⟨g, 0, none⟩), .pointer (some p)] w (WPost w0 g (l ++ textB s) (.returned (.tuple #[]))) := by
  go_enter Try.func52, Try.ntmps52
  go_wp2_with (go_at_call 41; refine (text_w h p s hp hs hl).mono ?_; intro e w1 hq; obtain ⟨rfl, h1⟩ := hq)
  go_end0
  exact ⟨rfl, h1⟩
set_option maxHeartbeats 2000000 in
set_option maxRecDepth 100000 in
theorem listS_w {w0 w : World} {g : Nat} {v : Value} {l : List UInt8} (h : WS w0 g v l w) (p : Addr) (A : Option Addr) (c : Nat) (xs : List ByteArray) (hp : w0.cell? p = some (.slice A xs.length c)) (hC : Kd.string.C w0 A xs.length xs)
    (hx : xs.length ≤ 1048576) (hs : ∀ s ∈ xs, s.size ≤ 1048576) (hl : l.length + (textsB xs).length ≤ 549755813888) :
    Calls Try.prog 51 #[.pointer (some ⟨g, 0, none⟩), .pointer (some p), .func (.func 52) #[] #[]] w (WPost w0 g (l ++ textsB xs) (.returned (.tuple #[]))) := by
  have hps := lt_of_cell hp
  have hp1 : w.cell? p = some (.slice A xs.length c) := (h.below.cell hps).trans hp
  have HP := hid hp
  have H := hid h
  have HC := hid hC
  clear h hp hC
  go_enter Try.func51, Try.ntmps51
  go_wp2_with (go_at_call 49; refine (size_w H.out xs.length (by omega) (by omega)).mono ?_; intro e w1 hq; obtain ⟨rfl, v1, h1⟩ := hq; have H1 := hid h1; have hp2 := (h1.below.cell hps).trans HP.out; obtain ⟨c0, c1, c2, f0⟩ := h1.cells; clear h1)
  go_loopw [7] (fun i wr => ∃ (k : Nat) (v' : Value), k ≤ xs.length ∧ i = .int .i64 k ∧ WS w0 g v' (l ++ four xs.length ++ (xs.take k).flatMap textB) wr) (fun i _ => xs.length - (intOf i).toNat)
  case atStart => exact ⟨0, v1, by omega, by simp, by simpa using H1.out⟩
  case round =>
    obtain ⟨k, v2, hk, rfl, h⟩ := hrel
    have hp3 : wr.cell? p = some (.slice A xs.length c) := (h.below.cell hps).trans HP.out
    obtain ⟨c0, c1, c2, f0⟩ := h.cells
    have H2 := hid h
    clear h
    by_cases hk8 : k < xs.length
    · have t0 : decide (k < xs.length) = true := decide_eq_true hk8
      obtain ⟨ad, hA, hx0⟩ := Go.Proofs.YtcgjacffemjehaaW.PrintWords.Kd.at_string HC.out (k : Int) (by omega) (by omega)
      subst hA
      rw [Int.toNat_natCast] at hx0
      have hf := flat_snoc textB xs ByteArray.empty k hk8
      have hsx : (xs.getD k ByteArray.empty).size ≤ 1048576 := hs _ (by rw [List.getD_eq_getElem?_getD, List.getElem?_eq_getElem hk8]; simp)
      have hlen : (l ++ four xs.length ++ (xs.take k).flatMap textB).length ≤ 549755813888 := by
        have := flat_take_le textB xs k
        simp only [textsB, List.length_append] at hl ⊢
        omega
      have HF := hid hf
      have HX := hid hx0
      clear hf hx0
      go_wp2_with (go_at_call 52; refine (word_w H2.out (ad.add k) (xs.getD k ByteArray.empty) HX.out (by omega) hlen).mono ?_; intro e w2 hq; obtain ⟨rfl, v3, h3⟩ := hq; have H3 := hid h3; clear h3)
      go_roundw
      case rel => exact ⟨k + 1, _, by omega, by go_num, by rw [HF.out, ← List.append_assoc]; exact H3.out⟩
      case measure => simp [intOf]; omega
    · have t0 : decide (k < xs.length) = false := decide_eq_false hk8
      obtain rfl : k = xs.length := by omega
      go_wp2
      go_end0
      exact WPost.mk rfl (by rw [List.take_length]; simp [textsB]) H2.out
end Go.Proofs.Ytcgjacffemjehaa

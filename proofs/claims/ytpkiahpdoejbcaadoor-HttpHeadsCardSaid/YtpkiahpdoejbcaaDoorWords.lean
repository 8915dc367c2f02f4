/-
  Small words of this session's own, over any program: bytes as cells, a string of bytes that lie in memory, a piece of an array, lists.
-/
import Derived.Test.YtpkiahpdoejbcaaDoorBase
import Derived.Laws.BytesArg
import Derived.Lib.ConvBytes
import Derived.Lib.Strings
namespace Go.Proofs.YtpkiahpdoejbcaaDoor
open Go.RowKit

/-- A byte as a cell. -/
def cellOf (b : UInt8) : Value := .int .u8 b.toNat
theorem cellOf_def (b : UInt8) : cellOf b = .int .u8 b.toNat := rfl
/-- A text as a value. -/
abbrev strV (l : List UInt8) : Value := .string ⟨l.toArray⟩

theorem drop_set {α : Type} (C : Array α) (k : Nat) (v : α) (l : List α) (hk : k + 1 ≤ C.size) (h : C.toList.drop (k + 1) = l) :
    (C.setIfInBounds k v).toList.drop k = v :: l := by
  simp only [Array.toList_setIfInBounds]
  rw [List.drop_eq_getElem_cons (by simp; omega)]
  simp [List.drop_set, h]

theorem str_of_nums (l : List UInt8) : strOfNums (l.map fun b => (b.toNat : Int)) = ⟨l.toArray⟩ := by
  unfold strOfNums
  congr 1
  simp [Function.comp_def]

/-- string(b), b a piece of memory that reads as l. -/
theorem run_string_of_cells {P : Program} {w : World} {src e dst : TypeId} (hs : P.underlying src = some (.slice e)) (he : P.underlying e = some (.int .u8)) (hd : P.underlying dst = some .string)
    (b off len cap : Nat) (l : List UInt8) (hlen : l.length = len) (hcell : ∀ i, i < len → w.cell? ⟨b, off + i, none⟩ = some (cellOf (l.getD i 0))) :
    (convert src dst (.slice (some ⟨b, off, none⟩) len cap)).run P w = .ok (strV l) w := by
  have h := run_convert_bytes_arg (P := P) w src e hs he b off len cap (l.map fun b => (b.toNat : Int)) (by simpa using hlen)
    (fun i hi => by rw [hcell i hi]; simp [cellOf, List.getD, show i < l.length by omega]) dst hd
  rw [h, str_of_nums]

/-- The cells of a new block. -/
theorem cells_of_new (w : World) (C : Array Value) (T : TypeId) (k : Nat) (l : List UInt8) (h : C.toList.drop k = l.map cellOf) :
    ∀ i, i < l.length → (w.alloc (.cells C T)).cell? ⟨w.heap.size, k + i, none⟩ = some (cellOf (l.getD i 0)) := by
  intro i hi
  rw [World.cell?_alloc_new]
  have h2 : (C.toList.drop k)[i]? = some (cellOf (l.getD i 0)) := by rw [h]; simp [List.getD, hi]
  rw [List.getElem?_drop] at h2
  simpa using h2

/-- arr[j:], arr an array variable. -/
theorem run_array_from {P : Program} {T : TypeId} (hT : P.underlying T = some (.array (P.arrayLen T) (P.elem T))) (hs : ∀ w, (sizeOf (P.elem T)).run P w = .ok 1 w) (n : Nat) (hn : P.arrayLen T = n)
    (b : Nat) (j : Nat) (J : Int) (hJ : J = j) (hj : j < n) (w : World) :
    (Instr.sliceAt T (.pointer (some ⟨b, 0, none⟩)) (some (.int .i64 J)) none none).run P w = .ok (.slice (some ⟨b, j, none⟩) (n - j) (n - j)) w := by
  subst hJ
  rw [run_sliceAt_array_l w T _ hT .i64 j (by omega) (by omega), hs]
  simp [Result.andThen, slicedAt, hn, Addr.add, show ¬ n = j by omega]
  omega

/-- A string's byte, by its list. -/
theorem str_get (s : ByteArray) (i : Nat) (h : i < s.size) : s[i] = s.data.toList.getD i 0 := by
  have h' : i < s.data.toList.length := by simpa using h
  rw [List.getD_eq_getElem?_getD, List.getElem?_eq_getElem h']
  simp; rfl
theorem str_len (s : ByteArray) : s.data.toList.length = s.size := by simp
theorem str_toList (s : ByteArray) : s.toList = s.data.toList := Lib.toList_data s
theorem str_ne_empty (s : ByteArray) (h : 0 < s.size) : (!s.toList.isEmpty) = true := by
  rw [str_toList]
  have : s.data.toList ≠ [] := fun e => by have h2 := str_len s; rw [e] at h2; simp at h2; omega
  simpa using this
theorem str_empty (s : ByteArray) (h : s.size = 0) : s.toList = [] := by
  rw [str_toList]
  exact List.eq_nil_of_length_eq_zero (by simpa using h)
theorem str_not_empty (s : ByteArray) (h : 0 < s.size) : ¬ s.toList = [] := fun e => by
  rw [str_toList] at e
  have h2 := str_len s; rw [e] at h2; simp at h2; omega
theorem u8_beq (c : UInt8) (n : Nat) (hn : n < 256) : (((c.toNat : Int) == (n : Int)) = true) ↔ c = UInt8.ofNat n := by
  rw [beq_iff_eq]
  constructor
  · intro h
    have h' : c.toNat = n := by exact_mod_cast h
    rw [← h']; simp
  · intro h; subst h; simp; omega

/-- A text and a text. -/
theorem str_append (a b : List UInt8) : (⟨a.toArray⟩ : ByteArray) ++ ⟨b.toArray⟩ = ⟨(a ++ b).toArray⟩ := by
  apply ByteArray.ext
  simp
/-- A call that answers a text and writes nothing that was there. -/
def TextPost (l : List UInt8) (w : World) (e : Ending) (w' : World) : Prop := e = .returned (strV l) ∧ Below w.heap.size w w'
theorem TextPost.mk {l : List UInt8} {w w' : World} {v : Value} (h : v = strV l) (hb : Below w.heap.size w w') : TextPost l w (.returned v) w' := ⟨by rw [h], hb⟩
/-- string([]byte{c}). -/
theorem run_string_of_one {P : Program} {w : World} {src e dst : TypeId} (hs : P.underlying src = some (.slice e)) (he : P.underlying e = some (.int .u8)) (hd : P.underlying dst = some .string) (v : Value) (c : UInt8) (hv : v = cellOf c) :
    (convert src dst (.slice (some ⟨w.heap.size, 0, none⟩) 1 1)).run P (w.alloc (.cells #[v] e)) = .ok (.string ⟨#[c]⟩) (w.alloc (.cells #[v] e)) := by
  subst hv
  exact run_string_of_cells (P := P) (w := w.alloc (.cells #[cellOf c] e)) hs he hd w.heap.size 0 1 1 [c] rfl (fun i hi => by obtain rfl : i = 0 := (by omega); simp)

/-- One call behind another: nothing that was there is written. -/
theorem below_then {a b c : World} (h : Below a.heap.size a b) (k : Below b.heap.size b c) : Below a.heap.size a c := h.trans (k.mono h.size)
/-- A law's call: true, and nothing that was there is written. -/
def TruePost (w : World) (e : Ending) (w' : World) : Prop := e = .returned (.bool true) ∧ Below w.heap.size w w'
theorem TruePost.mk {w w' : World} {b : Bool} (h : b = true) (hb : Below w.heap.size w w') : TruePost w (.returned (.bool b)) w' := ⟨by rw [h], hb⟩
theorem int_beq_false {a b : Int} (h : ¬ a = b) : (a == b) = false := by simpa using h
theorem int_beq_true {a b : Int} (h : a = b) : (a == b) = true := by simpa using h
theorem u8_ne {c d : UInt8} (h : ¬ c = d) : ¬ c.toNat = d.toNat := fun e => h (UInt8.toNat_inj.1 e)
/-- string(b), b a new block. -/
theorem run_string_of_new {P : Program} {w : World} {src e dst : TypeId} (hs : P.underlying src = some (.slice e)) (he : P.underlying e = some (.int .u8)) (hd : P.underlying dst = some .string) (C : Array Value) (l : List UInt8) (hC : C.toList = l.map cellOf) (k : Nat) (hk : l.length = k) (m : Nat) :
    (convert src dst (.slice (some ⟨w.heap.size, 0, none⟩) k m)).run P (w.alloc (.cells C e)) = .ok (strV l) (w.alloc (.cells C e)) :=
  run_string_of_cells (P := P) (w := w.alloc (.cells C e)) hs he hd w.heap.size 0 k m l hk (fun i hi => cells_of_new w C e 0 l (by simpa using hC) i (by omega))
/-- []byte(s): a new block; nothing that was there is written. -/
theorem below_bytes (w : World) (e : TypeId) (s : ByteArray) : Below w.heap.size w (Lib.bytesWorld w e s) := by
  refine ⟨?_, ?_, ?_, ?_, fun k hk => Lib.bytesWorld_at_old w e s k hk⟩
  · unfold Lib.bytesWorld World.freeze; rfl
  · unfold Lib.bytesWorld World.freeze; rfl
  · unfold Lib.bytesWorld World.freeze; rfl
  · rw [Lib.bytesWorld_size]; omega
end Go.Proofs.YtpkiahpdoejbcaaDoor

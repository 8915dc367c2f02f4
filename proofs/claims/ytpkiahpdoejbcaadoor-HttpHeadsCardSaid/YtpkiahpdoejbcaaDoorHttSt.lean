/-
  How the memory stands in http.Parse.
-/
import Derived.Test.YtpkiahpdoejbcaaDoorHttNext
namespace Go.Proofs.YtpkiahpdoejbcaaDoor.Htt
open Go.RowKit Go.Proofs.YtpkiahpdoejbcaaDoor
open Go.Proofs.YtpkiahpdoejbcaaDoorW.PrintWords (results_ct)
set_option linter.unusedVariables false
set_option linter.unusedSimpArgs false
def BytesAt (w : World) (a : Option Addr) (len cap : Nat) (l : List UInt8) : Prop :=
  len = l.length ∧ len ≤ cap ∧ ∃ b o, a = some ⟨b, o, none⟩ ∧ ∀ i, i < l.length → w.cell? ⟨b, o + i, none⟩ = some (cellOf (l.getD i 0))
theorem err_five {w : World} {B : Nat} {a b c d : ByteArray} {T : TypeId} (h : w.heap[B]? = some (.cells #[.string a, .string b, .string c, .slice none 0 0, .string d] T (0, 0))) {p n : Int} {v : Value} (he : IsErr w (.at_ p n) v) (v0 v1 v2 v3 v4 : Value) :
    IsErr (((((w.setCell ⟨B, 0, none⟩ v0).setCell ⟨B, 1, none⟩ v1).setCell ⟨B, 2, none⟩ v2).setCell ⟨B, 3, none⟩ v3).setCell ⟨B, 4, none⟩ v4) (.at_ p n) v := by
  obtain ⟨b, o, rfl, h1, h2⟩ := he
  have hne : b ≠ B := by
    rintro rfl
    simp only [World.cell?, h] at h1
    match o, h1 with
    | 0, h1 => simp at h1
    | 1, h1 => simp at h1
    | 2, h1 => simp at h1
    | 3, h1 => simp at h1
    | 4, h1 => simp at h1
    | o + 5, h1 => simp at h1
  have hq : ∀ (w : World) (k j : Nat) (u : Value), (w.setCell ⟨B, k, none⟩ u).cell? ⟨b, j, none⟩ = w.cell? ⟨b, j, none⟩ := fun w k j u => World.cell?_setCell_other _ _ _ _ (by intro e; injection e with e; exact hne e.symm)
  exact ⟨b, o, rfl, by rw [hq, hq, hq, hq, hq]; exact h1, by rw [hq, hq, hq, hq, hq]; exact h2⟩
theorem baL_size (l : List UInt8) : (baL l).size = l.length := by rw [← str_len, baL_data]
/-- What a place of the heap holds. -/
def At1 (w : World) (B : Nat) (v : Value) (T : TypeId) : Prop := w.heap[B]? = some (.cells #[v] T (0, 0))
theorem At1.cell {w : World} {B : Nat} {v : Value} {T : TypeId} (h : At1 w B v T) : w.cell? ⟨B, 0, none⟩ = some v ∧ w.frozen? ⟨B, 0, none⟩ = false := by
  unfold At1 at h
  simp [World.cell?, World.frozen?, h]
theorem At1.below {w w' : World} {n B : Nat} {v : Value} {T : TypeId} (h : At1 w B v T) (hb : Below n w w') (hB : B < n) : At1 w' B v T := (hb.block B hB).trans h
theorem line_ok {l line tail : List UInt8} (h : lineS l = (line, tail, true)) : line.length + 2 ≤ l.length ∧ tail = l.drop (line.length + 2) := by
  unfold lineS Lib.cut at h
  by_cases h0 : 0 ≤ Lib.index l crlf
  · rw [if_pos h0] at h
    have h1 := Lib.index_room l crlf h0
    have h2 : (crlf.length : Int) = 2 := rfl
    rw [h2] at h1
    injection h with e1 e2
    injection e2 with e2 e3
    have hl : line.length = (Lib.index l crlf).toNat := by rw [← e1, List.length_take]; omega
    refine ⟨by omega, ?_⟩
    rw [← e2, hl]; rfl
  · rw [if_neg h0] at h
    injection h with e1 e2
    injection e2 with e2 e3
    cases e3
/-- How the memory stands: the answer's cell, the rest, its place, the request. -/
structure St (w : World) (G R : Nat) (a0 a1 a2 x : ByteArray) (a : Nat) (v : Value) (d : ByteArray) (wr : World) : Prop where
  hG : wr.heap[G]? = some reqOZ
  hR : At1 wr (G + 1) (.string x) 9
  hT : At1 wr (G + 1 + 1) (.int .i64 (a : Nat)) 3
  hQ : wr.heap[R]? = some (reqO a0 a1 a2 v d)
  hb : Below G w wr
  sz : R + 1 ≤ wr.heap.size
theorem St.move {w wr : World} {G R a : Nat} {a0 a1 a2 x d : ByteArray} {v : Value} (h : St w G R a0 a1 a2 x a v d wr) (hR : G + 3 ≤ R) (y : ByteArray) (b : Nat) :
    St w G R a0 a1 a2 y b v d (((wr.setCell ⟨G + 1, 0, none⟩ (.string y)).setCell ⟨G + 1 + 1, 0, none⟩ (.int .i64 (b : Nat))).drew) := by
  obtain ⟨h1, h2, h3, h4, h5, h6⟩ := h
  unfold At1 at h2 h3
  refine ⟨?_, ?_, ?_, ?_, ((h5.setCell (p := ⟨G + 1, 0, none⟩) (by simp) _).setCell (p := ⟨G + 1 + 1, 0, none⟩) (by simp; omega) _).drew, by simpa using h6⟩
  · have e1 : ¬ G + 1 = G := by omega
    have e2 : ¬ G + 1 + 1 = G := by omega
    show ((wr.setCell ⟨G + 1, 0, none⟩ (.string y)).setCell ⟨G + 1 + 1, 0, none⟩ (.int .i64 (b : Nat))).heap[G]? = _
    simp [World.setCell, Array.getElem?_modify, h1, e1, e2]
  · show ((wr.setCell ⟨G + 1, 0, none⟩ (.string y)).setCell ⟨G + 1 + 1, 0, none⟩ (.int .i64 (b : Nat))).heap[G + 1]? = _
    simp [World.setCell, Array.getElem?_modify, h2]
  · show ((wr.setCell ⟨G + 1, 0, none⟩ (.string y)).setCell ⟨G + 1 + 1, 0, none⟩ (.int .i64 (b : Nat))).heap[G + 1 + 1]? = _
    simp [World.setCell, Array.getElem?_modify, h3]
  · have e1 : ¬ G + 1 = R := by omega
    have e2 : ¬ G + 1 + 1 = R := by omega
    show ((wr.setCell ⟨G + 1, 0, none⟩ (.string y)).setCell ⟨G + 1 + 1, 0, none⟩ (.int .i64 (b : Nat))).heap[R]? = _
    simp [World.setCell, Array.getElem?_modify, h4, e1, e2]
theorem St.drawn {w wr : World} {G R a : Nat} {a0 a1 a2 x d : ByteArray} {v : Value} (h : St w G R a0 a1 a2 x a v d wr) (k : Nat) : St w G R a0 a1 a2 x a v d (wr.drewN k) :=
  ⟨by simpa using h.hG, by simpa [At1] using h.hR, by simpa [At1] using h.hT, by simpa using h.hQ, below_drn h.hb k, by simpa using h.sz⟩
theorem St.below {w wr w' : World} {G R a : Nat} {a0 a1 a2 x d : ByteArray} {v : Value} (h : St w G R a0 a1 a2 x a v d wr) (hR : G + 3 ≤ R) (hb : Below (R + 1) wr w') : St w G R a0 a1 a2 x a v d w' :=
  ⟨(hb.block G (by omega)).trans h.hG, h.hR.below hb (by omega), h.hT.below hb (by omega), (hb.block R (by omega)).trans h.hQ, h.hb.trans (hb.mono (by omega)), Nat.le_trans h.sz hb.size⟩
theorem St.put {w wr : World} {G R a : Nat} {a0 a1 a2 x d : ByteArray} {v : Value} (h : St w G R a0 a1 a2 x a v d wr) (hR : G + 3 ≤ R) (v' : Value) : St w G R a0 a1 a2 x a v' d (wr.setCell ⟨R, 3, none⟩ v') := by
  obtain ⟨h1, h2, h3, h4, h5, h6⟩ := h
  unfold At1 at h2 h3
  have e1 : ¬ R = G := by omega
  have e2 : ¬ R = G + 1 := by omega
  have e3 : ¬ R = G + 1 + 1 := by omega
  refine ⟨?_, ?_, ?_, ?_, h5.setCell (p := ⟨R, 3, none⟩) (by simp; omega) _, by simpa using h6⟩
  · simp [World.setCell, Array.getElem?_modify, h1, e1]
  · unfold At1
    simp [World.setCell, Array.getElem?_modify, h2, e2]
  · unfold At1
    simp [World.setCell, Array.getElem?_modify, h3, e3]
  · simp [World.setCell, Array.getElem?_modify, h4]
theorem St.body {w wr : World} {G R a : Nat} {a0 a1 a2 x d : ByteArray} {v : Value} (h : St w G R a0 a1 a2 x a v d wr) (hR : G + 3 ≤ R) (d' : ByteArray) : St w G R a0 a1 a2 x a v d' (wr.setCell ⟨R, 4, none⟩ (.string d')) := by
  obtain ⟨h1, h2, h3, h4, h5, h6⟩ := h
  unfold At1 at h2 h3
  have e1 : ¬ R = G := by omega
  have e2 : ¬ R = G + 1 := by omega
  have e3 : ¬ R = G + 1 + 1 := by omega
  refine ⟨?_, ?_, ?_, ?_, h5.setCell (p := ⟨R, 4, none⟩) (by simp; omega) _, by simpa using h6⟩
  · simp [World.setCell, Array.getElem?_modify, h1, e1]
  · unfold At1
    simp [World.setCell, Array.getElem?_modify, h2, e2]
  · unfold At1
    simp [World.setCell, Array.getElem?_modify, h3, e3]
  · simp [World.setCell, Array.getElem?_modify, h4]
theorem own_heap {w w' : World} {base : Nat} {v : Value} {xs : List Par} (h : OwnP w base v xs) (e : ∀ k, base ≤ k → w'.heap[k]? = w.heap[k]?) : OwnP w' base v xs := by
  refine ⟨h.1, ?_⟩
  rcases h.2 with h2 | ⟨g, cap, cur, rfl, hg, hh, r⟩
  · exact .inl h2
  · exact .inr ⟨g, cap, cur, rfl, hg, (e g hg).trans hh, r⟩
theorem heap_set {w : World} {p : Addr} {k : Nat} (h : p.block ≠ k) (v : Value) : (w.setCell p v).heap[k]? = w.heap[k]? := by
  unfold World.setCell
  split <;> simp [Array.getElem?_modify, h]
theorem headS_val {xs : List Par} {l : List UInt8} {y : Par} (h : headS xs l = some y) : y.f1.size ≤ l.length ∧ y.f0.size ≤ l.length ∧ xs.length ≠ 16 := by
  have hc := cut_len1 l [58, 32]
  unfold headS at h
  split at h
  · rename_i h1
    have e := Option.some.inj h
    rw [← e]
    refine ⟨by rw [baL_size]; exact hc.2, ?_, h1.2.2.2.1⟩
    rw [baL_size]
    unfold Lib.toLowerA
    rw [List.length_map]
    exact hc.1
  · cases h
structure ParRel (w : World) (G R : Nat) (a0 a1 a2 : ByteArray) (N : Nat) (E : Except Nat (List Par × List UInt8 × Nat)) (vn : Value) (wr : World) (x : ByteArray) (n a : Nat) (acc : List Par) (f : Nat) (v : Value) : Prop where
  vn : vn = .int .i64 (n : Nat)
  nx : n ≤ x.size
  ax : a + x.size = N
  fu : x.size - n < f
  he : headsF f (x.data.toList.drop n) (a + n) acc = E
  al : acc.length ≤ 16
  av : ∀ y ∈ acc, y.f1.size ≤ 1048576
  st : St w G R a0 a1 a2 x a v ⟨#[]⟩ wr
  ho : OwnP wr (R + 1) v acc
def sizeAt (w : World) (B : Nat) : Nat := match w.cell? ⟨B, 0, none⟩ with | some (.string x) => x.size | _ => 0
theorem sizeAt_of {w : World} {B : Nat} {x : ByteArray} {T : TypeId} (h : At1 w B (.string x) T) : sizeAt w B = x.size := by unfold sizeAt; rw [h.cell.1]
end Go.Proofs.YtpkiahpdoejbcaaDoor.Htt

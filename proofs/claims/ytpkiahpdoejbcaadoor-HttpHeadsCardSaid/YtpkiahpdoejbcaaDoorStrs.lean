/-
  A slice of one-cell elements that came in; a slice of texts, as the rows open it.
-/
import Derived.Test.YtpkiahpdoejbcaaDoorProg
import Derived.Test.YtpkiahpdoejbcaaDoorWords
import Derived.Test.YtpkiahpdoejbcaaDoorRowInts
import Derived.Deep.Slices
import Derived.ChangeArms
import Derived.OpenShut
namespace Go.Proofs.YtpkiahpdoejbcaaDoor
open Go.RowKit Go.ChangeShapes Go.WideShapes Go.ChangeAt Go.Deep
set_option linter.unusedVariables false
/-- A slice of one-cell elements. -/
def RowC (W : World) (v : Value) (cs : List Value) : Prop := ∃ a cap, v = .slice a cs.length cap ∧ cs.length ≤ maxLen ∧ (0 < cs.length → ∃ b o, a = some ⟨b, o, none⟩ ∧ ∀ i u, cs[i]? = some u → W.cell? ⟨b, o + i, none⟩ = some u)
theorem RowC.below {W w : World} {v : Value} {cs : List Value} (h : RowC W v cs) (hb : Below W.heap.size W w) : RowC w v cs := by
  obtain ⟨a, cap, rfl, hl, hc⟩ := h
  refine ⟨a, cap, rfl, hl, fun h0 => ?_⟩
  obtain ⟨b, o, rfl, hi⟩ := hc h0
  exact ⟨b, o, rfl, fun i u hu => (hb.cell (lt_of_cell (hi i u hu))).trans (hi i u hu)⟩
theorem IsRow.rowC {W : World} {a : Option Addr} {len cap : Nat} {zs : List Int} (h : IsRow .i64 W a len cap zs) (hm : len ≤ maxLen) : RowC W (.slice a len cap) ((zs.take len).map (Value.int .i64)) := by
  have hl := h.len.1
  refine ⟨a, cap, by rw [List.length_map, hl], by rw [List.length_map, hl]; exact hm, fun h0 => ?_⟩
  rw [List.length_map, hl] at h0
  obtain ⟨b, o, rfl, hc⟩ := h.cells h0
  refine ⟨b, o, rfl, fun i u hu => ?_⟩
  rw [List.getElem?_map] at hu
  obtain ⟨z, hz, rfl⟩ := Option.map_eq_some_iff.1 hu
  have hi : i < len := by have := (List.getElem?_eq_some_iff.1 hz).1; omega
  rw [hc i hi, List.getD_eq_getElem?_getD, hz]
  rfl
section
variable {H : Type} {enc : TypeId × Value → H} {W : World}
/-- A slice of texts. -/
theorem open_strs {a : Option Addr} {len cap : Nat} {d : DataW H} {ps : List MemPlace} (h : DataW.Trod enc Tryd.prog W 0 (fun _ => true) true 82 (.slice a len cap) d ps) :
    ∃ l : List ByteArray, RowC W (.slice a len cap) (l.map Value.string) ∧ (∀ s ∈ l, s.size ≤ maxLen) := by
  obtain ⟨fuel, hf⟩ := h
  have h1 : Tryd.prog.cellsOf 9 = 1 := by kernel_rfl
  rcases open_slice1 Tryd.underlying82 h1 hf with ⟨hcs, _⟩ | ⟨x, l, c, m, n, V, D, Pl, hcs, _, hl, hm, hmm, _, hel⟩
  · simp [Value.cells] at hcs
    obtain ⟨rfl, rfl, rfl⟩ := hcs
    exact ⟨[], ⟨none, 0, rfl, by simp, by simp⟩, by simp⟩
  · simp [Value.cells] at hcs
    obtain ⟨rfl, rfl, rfl⟩ := hcs
    rw [if_pos rfl] at hmm
    subst hmm
    have hel' : ∀ i, ∃ s : ByteArray, i < len → W.cell? (x.add i) = some (.string s) ∧ s.size ≤ maxLen := by
      intro i
      by_cases hi : i < len
      · obtain ⟨q1, q2⟩ := hel i (by omega)
        obtain ⟨s, q3, _, w3⟩ := DataW.trod_string Tryd.underlying9 q2
        simp only [List.cons.injEq, and_true] at q3
        exact ⟨s, fun _ => ⟨by rw [q1, q3], w3⟩⟩
      · exact ⟨⟨#[]⟩, fun h => absurd h hi⟩
    obtain ⟨f, hf⟩ : ∃ f : Nat → ByteArray, ∀ i, i < len → W.cell? (x.add i) = some (.string (f i)) ∧ (f i).size ≤ maxLen := ⟨fun i => Classical.choose (hel' i), fun i => Classical.choose_spec (hel' i)⟩
    refine ⟨(List.range len).map f, ⟨some x, m, by simp, by simp; omega, fun h0 => ?_⟩, fun s hs => ?_⟩
    · simp at h0
      obtain ⟨b, off, spot⟩ := x
      have hspot : spot = none := by
        have h1 := (hf 0 (by omega)).1
        simpa [Addr.add] using World.cell?_spot h1
      subst hspot
      refine ⟨b, off, rfl, fun i u hu => ?_⟩
      have hi : i < len := by have := (List.getElem?_eq_some_iff.1 hu).1; simpa using this
      have hq := (hf i hi).1
      simp only [Go.WideShapes.add_plain] at hq
      rw [hq]
      simpa [hi] using hu
    · obtain ⟨i, hi, rfl⟩ := List.mem_map.1 hs
      exact (hf i (by simpa using hi)).2
end
end Go.Proofs.YtpkiahpdoejbcaaDoor

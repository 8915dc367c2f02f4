/-
  A slice of names that came in, as the rows open it.
-/
import Derived.Test.YtomkdnapnjkclaaDoorScoWords
import Derived.Test.YtomkdnapnjkclaaDoorStrs
import Derived.Deep.Slices
import Derived.ChangeArms
import Derived.OpenShut
namespace Go.Proofs.YtomkdnapnjkclaaDoor.Sco
open Go.RowKit Go.ChangeShapes Go.WideShapes Go.ChangeAt Go.Deep Go.Proofs.YtomkdnapnjkclaaDoor
open Go.Proofs.YtomkdnapnjkclaaDoorW.PrintWords (Kd)
set_option linter.unusedVariables false
section
variable {H : Type} {enc : TypeId × Value → H} {W : World}
theorem open_names {a : Option Addr} {len cap : Nat} {d : DataW H} {ps : List MemPlace} (h : DataW.Trod enc Tryd.prog W 0 (fun _ => true) true 22 (.slice a len cap) d ps) :
    ∃ l : List ByteArray, InS W (.slice a len cap) l := by
  obtain ⟨fuel, hf⟩ := h
  have h1 : Tryd.prog.cellsOf 9 = 1 := by kernel_rfl
  rcases open_slice1 Tryd.underlying22 h1 hf with ⟨hcs, _⟩ | ⟨x, l, c, m, n, V, D, Pl, hcs, _, hl, hm, hmm, _, hel⟩
  · simp [Value.cells] at hcs
    obtain ⟨rfl, rfl, rfl⟩ := hcs
    exact ⟨[], InS.nil W⟩
  · simp [Value.cells] at hcs
    obtain ⟨rfl, rfl, rfl⟩ := hcs
    rw [if_pos rfl] at hmm
    subst hmm
    have hel' : ∀ i, ∃ s : ByteArray, i < len → W.cell? (x.add i) = some (.string s) := by
      intro i
      by_cases hi : i < len
      · obtain ⟨q1, q2⟩ := hel i (by omega)
        obtain ⟨s, q3, _, w3⟩ := DataW.trod_string Tryd.underlying9 q2
        simp only [List.cons.injEq, and_true] at q3
        exact ⟨s, fun _ => by rw [q1, q3]⟩
      · exact ⟨⟨#[]⟩, fun h => absurd h hi⟩
    obtain ⟨f, hf⟩ : ∃ f : Nat → ByteArray, ∀ i, i < len → W.cell? (x.add i) = some (.string (f i)) := ⟨fun i => Classical.choose (hel' i), fun i => Classical.choose_spec (hel' i)⟩
    refine ⟨(List.range len).map f, some x, m, by simp, by simp; omega, by simp, by simp; unfold maxLen at *; omega, fun h0 => ⟨x, rfl, fun j p hp => ?_⟩⟩
    have hj : j < len := by have := (List.getElem?_eq_some_iff.1 hp).1; simpa using this
    have hp' : p = f j := by simpa [hj] using hp.symm
    subst hp'
    refine ⟨[.string (f j)], rfl, rfl, fun i u hu => ?_⟩
    have hsz : (Kd.string).sz = 1 := rfl
    rw [hsz, Nat.mul_one]
    match i, hu with
    | 0, hu => cases hu; exact hf j hj
end
end Go.Proofs.YtomkdnapnjkclaaDoor.Sco

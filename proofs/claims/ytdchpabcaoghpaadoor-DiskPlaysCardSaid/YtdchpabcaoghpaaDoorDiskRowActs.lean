/-
  The acts of DiskPlays, opened where the call hands them in.
-/
import Derived.Test.YtdchpabcaoghpaaDoorDiskPlays
import Derived.Test.YtdchpabcaoghpaaDoorRowInts
import Derived.Deep.Slices
import Derived.ChangeArms
import Derived.OpenShut
namespace Go.Proofs.YtdchpabcaoghpaaDoor
open Go.RowKit Go.ChangeShapes Go.WideShapes Go.ChangeAt Go.Deep
set_option linter.unusedVariables false

theorem IsRow.reads_i {W : World} {a : Option Addr} {len cap : Nat} {zs : List Int} (h : IsRow .i64 W a len cap zs) : ReadsI W (.slice a len cap) (zs.take len) := by
  by_cases h0 : len = 0
  · subst h0; exact .inl ⟨_, _, rfl, by simp⟩
  · obtain ⟨b, o, rfl, hc⟩ := h.cells (by omega)
    have hl := h.len.1
    refine .inr ⟨b, o, cap, by rw [hl], fun i hi => hc i (by omega)⟩
section
variable {H : Type} {enc : TypeId × Value → H} {W : World}
theorem open_keep {fuel : Nat} {cs : List Value} {y : DataW H × List MemPlace} (h : DataW.trod enc Tryd.prog W 0 (fun _ => true) true fuel 35 cs = some y) :
    ∃ v l, cs = [v] ∧ ReadsI W v l ∧ l.length ≤ maxLen := by
  rcases open_ints Tryd.underlying35 Tryd.underlying3 (by kernel_rfl) h with ⟨rfl, _⟩ | ⟨x, l, c, zs, rfl, _, hl, hm, hz, _, hcell, hwz⟩
  · exact ⟨_, [], rfl, .inl ⟨_, _, rfl, rfl⟩, by simp⟩
  · have hr : IsRow .i64 W (some x) l c zs := .inr ⟨_, rfl, hl, hm, by simpa only [if_true] using hz, hcell, hwz⟩
    refine ⟨_, _, rfl, hr.reads_i, ?_⟩
    have := hr.len.1
    omega
def ActOk (W : World) (a : ActD) : Prop := -9223372036854775808 ≤ a.n ∧ a.n ≤ 9223372036854775807 ∧ ReadsI W a.kv a.keep ∧ a.b.size ≤ maxLen ∧ a.keep.length ≤ maxLen
def ActD.cs (a : ActD) : List Value := [.int .i64 a.kind, .int .i64 a.file, .int .i64 a.n, .string a.b, a.kv, .int .u8 (a.by_.toNat : Int)]
set_option maxRecDepth 100000 in
theorem open_act {fuel : Nat} {cs : List Value} {y : DataW H × List MemPlace} (h : DataW.trod enc Tryd.prog W 0 (fun _ => true) true fuel 37 cs = some y) :
    ∃ a : ActD, cs = a.cs ∧ ActOk W a := by
  obtain ⟨xs, n, _, rfl, hl, hlen, hf⟩ := DataW.trod_struct Tryd.underlying37 h
  have h6 : Tryd.prog.cellsOf 37 = 6 := by kernel_rfl
  have hi : Tryd.prog.cellsOf 3 = 1 := by kernel_rfl
  have hs : Tryd.prog.cellsOf 9 = 1 := by kernel_rfl
  have hk : Tryd.prog.cellsOf 35 = 1 := by kernel_rfl
  have hu : Tryd.prog.cellsOf 5 = 1 := by kernel_rfl
  rw [h6] at hl
  match cs, hl with
  | [c0, c1, c2, c3, c4, c5], _ =>
    match xs, hlen with
    | [y0, y1, y2, y3, y4, y5], _ =>
      have e0 : DataW.trod enc Tryd.prog W 0 (fun _ => true) true n 3 (([c0, c1, c2, c3, c4, c5].drop 0).take (Tryd.prog.cellsOf 3)) = some y0 := hf 0 _ rfl
      have e1 : DataW.trod enc Tryd.prog W 0 (fun _ => true) true n 3 (([c0, c1, c2, c3, c4, c5].drop 1).take (Tryd.prog.cellsOf 3)) = some y1 := hf 1 _ rfl
      have e2 : DataW.trod enc Tryd.prog W 0 (fun _ => true) true n 3 (([c0, c1, c2, c3, c4, c5].drop 2).take (Tryd.prog.cellsOf 3)) = some y2 := hf 2 _ rfl
      have e3 : DataW.trod enc Tryd.prog W 0 (fun _ => true) true n 9 (([c0, c1, c2, c3, c4, c5].drop 3).take (Tryd.prog.cellsOf 9)) = some y3 := hf 3 _ rfl
      have e4 : DataW.trod enc Tryd.prog W 0 (fun _ => true) true n 35 (([c0, c1, c2, c3, c4, c5].drop 4).take (Tryd.prog.cellsOf 35)) = some y4 := hf 4 _ rfl
      have e5 : DataW.trod enc Tryd.prog W 0 (fun _ => true) true n 5 (([c0, c1, c2, c3, c4, c5].drop 5).take (Tryd.prog.cellsOf 5)) = some y5 := hf 5 _ rfl
      simp only [hi, hs, hk, hu, List.drop, List.take] at e0 e1 e2 e3 e4 e5
      obtain ⟨k, q0, _, _⟩ := DataW.trod_int Tryd.underlying3 e0
      obtain ⟨f, q1, _, _⟩ := DataW.trod_int Tryd.underlying3 e1
      obtain ⟨m, q2, _, w2⟩ := DataW.trod_int Tryd.underlying3 e2
      obtain ⟨b, q3, _, w3⟩ := DataW.trod_string Tryd.underlying9 e3
      obtain ⟨kv, l, q4, w4, w4'⟩ := open_keep e4
      obtain ⟨u, q5, _, w5⟩ := DataW.trod_int Tryd.underlying5 e5
      simp only [List.cons.injEq, and_true] at q0 q1 q2 q3 q4 q5
      subst q0 q1 q2 q3 q4 q5
      have b2 := bounds_i64 w2
      have b5 := bounds_u8 w5
      refine ⟨⟨k, f, m, b, l, c4, UInt8.ofNat u.toNat⟩, ?_, b2.1, b2.2, w4, w3, w4'⟩
      have hu' : ((UInt8.ofNat u.toNat).toNat : Int) = u := by simp [UInt8.toNat_ofNat']; omega
      simp only [ActD.cs, hu']
theorem cells_at {x : Addr} {i : Nat} {cs : List Value} (h : W.cells? 0 (x.add i) 6 = some cs) : ∀ j v, cs[j]? = some v → W.cell? ((x.add i).add j) = some v := by
  unfold World.cells? at h
  rw [if_pos (Nat.zero_le _)] at h
  intro j v hv
  have hj := mapM_some_length h
  have h1 := mapM_some_get h j
  have hlt : j < cs.length := (List.getElem?_eq_some_iff.1 hv).1
  have hj6 : cs.length = 6 := by first | simpa using hj | simpa using hj.symm
  have h2 := h1 j (by first | (rw [List.getElem?_range (by omega)]) | (simp; omega))
  rw [hv] at h2
  exact h2
theorem open_acts {a : Option Addr} {len cap : Nat} {d : DataW H} {ps : List MemPlace} (h : DataW.Trod enc Tryd.prog W 0 (fun _ => true) true 22 (.slice a len cap) d ps) :
    ∃ L : List ActD, ActsAt W (.slice a len cap) L := by
  obtain ⟨fuel, hf⟩ := h
  have h6 : Tryd.prog.cellsOf 37 = 6 := by kernel_rfl
  rcases open_slice Tryd.underlying22 hf with ⟨hcs, _⟩ | ⟨x, l, c, m, n, D, Pl, hcs, _, hl, hm, hmm, _, hel⟩
  · simp [Value.cells] at hcs
    obtain ⟨rfl, rfl, rfl⟩ := hcs
    exact ⟨[], .inl ⟨_, _, rfl, rfl⟩, by simp, by simp, by simp, by simp, by simp, by simp⟩
  · simp [Value.cells] at hcs
    obtain ⟨rfl, rfl, rfl⟩ := hcs
    rw [if_pos rfl] at hmm
    subst hmm
    rw [h6] at hel
    have hel' : ∀ i, ∃ a : ActD, i < len → ActOk W a ∧ W.cells? 0 (x.add (i * 6)) 6 = some a.cs := by
      intro i
      by_cases hi : i < len
      · obtain ⟨cs', h1, h2⟩ := hel i (by omega)
        obtain ⟨a, rfl, h3⟩ := open_act h2
        exact ⟨a, fun _ => ⟨h3, h1⟩⟩
      · exact ⟨⟨0, 0, 0, ⟨#[]⟩, [], .bool false, 0⟩, fun h => absurd h hi⟩
    obtain ⟨f, hf⟩ : ∃ f : Nat → ActD, ∀ i, i < len → ActOk W (f i) ∧ W.cells? 0 (x.add (i * 6)) 6 = some (f i).cs := ⟨fun i => Classical.choose (hel' i), fun i => Classical.choose_spec (hel' i)⟩
    have hlen : ((List.range len).map f).length = len := by simp
    have hget : ∀ i a, ((List.range len).map f)[i]? = some a → i < len ∧ f i = a := by
      intro i a ha
      have hi : i < len := by have := (List.getElem?_eq_some_iff.1 ha).1; simpa using this
      refine ⟨hi, ?_⟩
      simp [hi] at ha
      exact ha
    have hmem : ∀ a ∈ (List.range len).map f, ActOk W a := by
      intro a ha
      obtain ⟨i, hi, rfl⟩ := List.mem_map.1 ha
      exact (hf i (by simpa using hi)).1
    refine ⟨(List.range len).map f, ?_, fun a ha => (hmem a ha).1, fun a ha => (hmem a ha).2.1, fun a ha => (hmem a ha).2.2.1, fun a ha => (hmem a ha).2.2.2.1, fun a ha => (hmem a ha).2.2.2.2, by rw [hlen]; omega⟩
    by_cases h0 : len = 0
    · subst h0; exact .inl ⟨_, _, rfl, by simp⟩
    · obtain ⟨b, off, spot⟩ := x
      have hspot : spot = none := by
        have h1 := cells_at (hf 0 (by omega)).2 0 _ rfl
        simpa [Addr.add] using World.cell?_spot h1
      subst hspot
      refine .inr ⟨b, off, m, by rw [hlen], fun i a ha => ?_⟩
      obtain ⟨hi, rfl⟩ := hget i a ha
      have h1 := cells_at (hf i hi).2
      simp only [Go.WideShapes.add_plain] at h1
      exact ⟨h1 0 _ rfl, h1 1 _ rfl, h1 2 _ rfl, h1 3 _ rfl, h1 4 _ rfl, h1 5 _ rfl⟩
end
end Go.Proofs.YtdchpabcaoghpaaDoor

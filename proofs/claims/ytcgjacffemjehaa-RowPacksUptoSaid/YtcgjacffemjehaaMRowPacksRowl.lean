/-
  RowPacksLaw, OpenK, RowOpen, RowPacksAny, RowInts: this proof's parts in one text.
-/
import Derived.Test.YtcgjacffemjehaaMRowPacksRowh
import Derived.Test.YtcgjacffemjehaaMRowPacksRowk
import Derived.Test.YtcgjacffemjehaaMRowPacksRowa
import Derived.Test.YtcgjacffemjehaaWWords
import Derived.Test.YtcgjacffemjehaaRows
import Derived.Deep.Slices
import Derived.ChangeArms
import Derived.OpenShut
import Derived.ProofKit
import Derived.Test.YtcgjacffemjehaaMRowPacksRowb
namespace Go.Proofs.Ytcgjacffemjehaa
open Go.RowKit
open Go.Proofs.YtcgjacffemjehaaW.PrintWords (Kd rdOf)
open Go.Proofs.Ytcgjacffemjehaa.PRowPacks
set_option linter.unusedVariables false
set_option maxRecDepth 100000 in
theorem packs_walk (w : World) (x : S40) {A3 : Option Addr} {c3 : Nat} {A8 : Option Addr} {c8 : Nat} {A16 : Option Addr} {c16 : Nat} {A28 : Option Addr} {c28 : Nat} {A29 : Option Addr} {c29 : Nat} {A37 : Option Addr} {c37 : Nat} {A41 : Option Addr} {c41 : Nat} {A45 : Option Addr} {c45 : Nat} (l3 : x.f1.f2.length ≤ c3) (g3 : Kd.string.C w A3 x.f1.f2.length x.f1.f2) (l8 : x.f2.f4.length ≤ c8) (g8 : Kd.string.C w A8 x.f2.f4.length x.f2.f4) (l16 : x.f3.f3.length ≤ c16) (g16 : Kd.string.C w A16 x.f3.f3.length x.f3.f3) (l28 : x.f5.f5.length ≤ c28) (g28 : Kd.string.C w A28 x.f5.f5.length x.f5.f5) (l29 : x.f5.f6.length ≤ c29) (g29 : k51.C w A29 x.f5.f6.length x.f5.f6) (l37 : x.f6.f4.length ≤ c37) (g37 : Kd.string.C w A37 x.f6.f4.length x.f6.f4) (l41 : x.f7.f2.length ≤ c41) (g41 : k51.C w A41 x.f7.f2.length x.f7.f2) (l45 : x.f8.length ≤ c45) (g45 : k85.C w A45 x.f8.length x.f8) (hs : Small x) :
    Calls Try.prog 3 #[.agg #[.int .i64 x.f0, .string x.f1.f0, .string x.f1.f1, .slice A3 x.f1.f2.length c3, .string x.f2.f0, .string x.f2.f1, .string x.f2.f2, .string x.f2.f3, .slice A8 x.f2.f4.length c8, .string x.f2.f5, .bool x.f2.f6, .bool x.f2.f7, .int .i64 x.f2.f8, .string x.f3.f0, .string x.f3.f1, .string x.f3.f2, .slice A16 x.f3.f3.length c16, .int .i64 x.f3.f4, .int .i64 x.f3.f5, .bool x.f3.f6, .string x.f4.f0, .string x.f4.f1, .int .i64 x.f4.f2, .string x.f5.f0, .string x.f5.f1, .string x.f5.f2, .string x.f5.f3, .string x.f5.f4, .slice A28 x.f5.f5.length c28, .slice A29 x.f5.f6.length c29, .int .i64 x.f5.f7, .int .i64 x.f5.f8, .bool x.f5.f9, .string x.f6.f0, .string x.f6.f1, .string x.f6.f2, .string x.f6.f3, .slice A37 x.f6.f4.length c37, .string x.f6.f5, .string x.f7.f0, .string x.f7.f1, .slice A41 x.f7.f2.length c41, .string x.f7.f3, .int .i64 x.f7.f4, .bool x.f7.f5, .slice A45 x.f8.length c45]] w (TruePost w) := by
  refine packs_core w _ (rowB x) (Near x) rfl (fun w1 hb => ?_) (fun hn w1 hb => ?_) (fun hn w1 hb => ?_)
  · exact far_any w1 x l3 (Kd.C_below g3 hb) l8 (Kd.C_below g8 hb) l16 (Kd.C_below g16 hb) l28 (Kd.C_below g28 hb) l29 (Kd.C_below g29 hb) l37 (Kd.C_below g37 hb) l41 (Kd.C_below g41 hb) l45 (Kd.C_below g45 hb) (lens x hs)
  · exact lawBytes_any w1 x l3 (Kd.C_below g3 hb) l8 (Kd.C_below g8 hb) l16 (Kd.C_below g16 hb) l28 (Kd.C_below g28 hb) l29 (Kd.C_below g29 hb) l37 (Kd.C_below g37 hb) l41 (Kd.C_below g41 hb) l45 (Kd.C_below g45 hb) hs (fits x hs hn)
  · exact refBytes_any w1 x l3 (Kd.C_below g3 hb) l8 (Kd.C_below g8 hb) l16 (Kd.C_below g16 hb) l28 (Kd.C_below g28 hb) l29 (Kd.C_below g29 hb) l37 (Kd.C_below g37 hb) l41 (Kd.C_below g41 hb) l45 (Kd.C_below g45 hb) hs (fits x hs hn)
end Go.Proofs.Ytcgjacffemjehaa

namespace Go.Proofs.Ytcgjacffemjehaa
open Go.RowKit Go.ChangeShapes Go.WideShapes Go.ChangeAt Go.Deep
open Go.Proofs.YtcgjacffemjehaaW.PrintWords (Kd)
set_option linter.unusedVariables false
theorem bulk_part {H : Type} {d : DataW H} {l : List (DataW H)} (h : d ∈ l) : Rows.uptoBulk d ≤ Rows.uptoBulkAll l := by
  induction l with
  | nil => cases h
  | cons x r ih =>
    simp only [Rows.uptoBulkAll]
    cases List.mem_cons.1 h with
    | inl e => subst e; omega
    | inr e => have := ih e; omega
theorem bulk_one {H : Type} (d : DataW H) : 1 ≤ Rows.uptoBulk d := by
  cases d with
  | lit l => cases l <;> simp [Rows.uptoBulk]
  | nil => simp [Rows.uptoBulk]
  | ptr d => simp [Rows.uptoBulk]
  | slice elems spare => simp [Rows.uptoBulk]
  | agg parts => simp [Rows.uptoBulk]
  | iface t d => simp [Rows.uptoBulk]
  | map entries => simp [Rows.uptoBulk]
  | held h => simp [Rows.uptoBulk]
theorem bulk_length {H : Type} (l : List (DataW H)) : l.length ≤ Rows.uptoBulkAll l := by
  induction l with
  | nil => simp [Rows.uptoBulkAll]
  | cons x r ih => have := bulk_one x; simp only [Rows.uptoBulkAll, List.length_cons]; omega
/-- A type whose values open to a kind, with a fact of each. -/
def Opens {α : Type} (H : Type) (enc : TypeId × Value → H) (W : World) (T : TypeId) (d : Kd α) (G : α → Prop) : Prop :=
  ∀ (fuel : Nat) (cs : List Value) (y : DataW H × List MemPlace), DataW.trod enc Try.prog W 0 (fun _ => true) true fuel T cs = some y → Rows.uptoBulk y.1 ≤ 1048576 → ∃ x, d.K W x cs ∧ G x
section
variable {H : Type} {enc : TypeId × Value → H} {W : World}
theorem opens_string : Opens H enc W 9 Kd.string (fun s => s.size ≤ 1048576) := by
  intro fuel cs y h hb
  obtain ⟨s, rfl, rfl, hs⟩ := DataW.trod_string Try.underlying9 h
  refine ⟨s, rfl, ?_⟩
  simp only [Rows.uptoBulk, str_len] at hb
  omega
theorem opens_int {T : TypeId} {k : IntKind} (hT : Try.prog.underlying T = some (.int k)) : Opens H enc W T (Kd.int k) (fun n => (Lit.int k n).wf = true) := by
  intro fuel cs y h hb
  obtain ⟨n, rfl, rfl, hw⟩ := DataW.trod_int hT h
  exact ⟨n, rfl, hw⟩
theorem opens_bool : Opens H enc W 4 Kd.bool (fun _ => True) := by
  intro fuel cs y h hb
  obtain ⟨n, rfl, rfl⟩ := DataW.trod_bool Try.underlying4 h
  exact ⟨n, rfl, trivial⟩
theorem cells_get {a : Addr} {n : Nat} {cs : List Value} (h : W.cells? 0 a n = some cs) : cs.length = n ∧ ∀ j v, cs[j]? = some v → W.cell? (a.add j) = some v := by
  unfold World.cells? at h
  rw [if_pos (Nat.zero_le _)] at h
  have hl := mapM_some_length h
  have hn : cs.length = n := by simpa using hl
  refine ⟨hn, fun j v hv => ?_⟩
  have hlt : j < cs.length := (List.getElem?_eq_some_iff.1 hv).1
  have h2 := mapM_some_get h j j (by first | (rw [List.getElem?_range (by omega)]) | (simp; omega))
  rw [hv] at h2
  exact h2
theorem opens_slice {α : Type} {T e : TypeId} {d : Kd α} {G : α → Prop} (z : α) (hT : Try.prog.underlying T = some (.slice e)) (hc : Try.prog.cellsOf e = d.sz) (hE : Opens H enc W e d G) :
    Opens H enc W T (Kd.slice e d) (fun xs => xs.length ≤ 1048576 ∧ ∀ x ∈ xs, G x) := by
  intro fuel cs y h hb
  rcases open_slice hT h with ⟨rfl, rfl⟩ | ⟨a, len, cap, m, n, D, Pl, rfl, _, hl, hm, hmm, rfl, hel⟩
  · exact ⟨[], ⟨none, 0, rfl, Nat.le_refl _, Kd.C_nil d W⟩, by simp, by simp⟩
  · rw [if_pos rfl] at hmm
    subst hmm
    rw [hc] at hel
    simp only [Rows.uptoBulk] at hb
    have hbl := bulk_length ((List.range len).map D)
    rw [List.length_map, List.length_range] at hbl
    have hx : ∀ i, ∃ x, i < len → (G x ∧ ∃ c, c.length = d.sz ∧ d.K W x c ∧ ∀ j u, c[j]? = some u → W.cell? (a.add (i * d.sz + j)) = some u) := by
      intro i
      by_cases hi : i < len
      · obtain ⟨cs', h1, h2⟩ := hel i (by omega)
        have hbi : Rows.uptoBulk (D i) ≤ 1048576 := by
          have := bulk_part (d := D i) (l := (List.range len).map D) (List.mem_map.2 ⟨i, List.mem_range.2 hi, rfl⟩)
          omega
        obtain ⟨x, hK, hG⟩ := hE _ _ _ h2 hbi
        obtain ⟨h3, h4⟩ := cells_get h1
        exact ⟨x, fun _ => ⟨hG, cs', h3, hK, fun j u hu => by rw [← add_add]; exact h4 j u hu⟩⟩
      · exact ⟨z, fun h => absurd h hi⟩
    have hf := fun i => Classical.choose_spec (hx i)
    obtain ⟨f, hff⟩ : ∃ f : Nat → α, f = fun i => Classical.choose (hx i) := ⟨_, rfl⟩
    have hf2 : ∀ i, i < len → (G (f i) ∧ ∃ c, c.length = d.sz ∧ d.K W (f i) c ∧ ∀ j u, c[j]? = some u → W.cell? (a.add (i * d.sz + j)) = some u) := by rw [hff]; exact hf
    have hlen : ((List.range len).map f).length = len := by simp
    refine ⟨(List.range len).map f, ⟨some a, m, by rw [hlen], by rw [hlen]; exact hl, ?_⟩, by rw [hlen]; omega, fun x hx => ?_⟩
    · rw [hlen]
      refine ⟨hlen, by have : maxLen = 9223372036854775807 := rfl; omega, fun _ => ⟨a, rfl, fun j p hj => ?_⟩⟩
      have hjl : j < len := by have := (List.getElem?_eq_some_iff.1 hj).1; rw [hlen] at this; exact this
      have hp : p = f j := by rw [List.getElem?_map, List.getElem?_range hjl] at hj; simpa using hj.symm
      subst hp
      obtain ⟨_, c, h1, h2, h3⟩ := hf2 j hjl
      exact ⟨c, h1, h2, h3⟩
    · obtain ⟨i, hi, rfl⟩ := List.mem_map.1 hx
      exact (hf2 i (List.mem_range.1 hi)).1
theorem pair_K {α β : Type} {d : Kd α} {d' : Kd β} {x : α} {x' : β} {cs : List Value} (n : Nat) (h : d.K W x (cs.take n)) (h' : d'.K W x' (cs.drop n)) : (Kd.pair d d').K W (x, x') cs := ⟨cs.take n, cs.drop n, (List.take_append_drop n cs).symm, h, h'⟩
end
end Go.Proofs.Ytcgjacffemjehaa

namespace Go.Proofs.Ytcgjacffemjehaa
open Go.RowKit Go.ChangeShapes Go.WideShapes Go.ChangeAt Go.Deep
open Go.Proofs.YtcgjacffemjehaaW.PrintWords (Kd)
open Go.Proofs.Ytcgjacffemjehaa.PRowPacks
set_option linter.unusedVariables false
section
variable {H : Type} {enc : TypeId × Value → H} {W : World}
def GPerm (x : S51) : Prop := x.f0.size ≤ 1048576 ∧ (x.f1.length ≤ 1048576 ∧ ∀ s ∈ x.f1, s.size ≤ 1048576)
set_option maxHeartbeats 4000000 in
set_option maxRecDepth 100000 in
theorem opens_Perm : Opens H enc W 51 k51 GPerm := by
  intro fuel cs y h hb
  obtain ⟨xs, n, _, rfl, hl, hlen, hf⟩ := DataW.trod_struct Try.underlying51 h
  rw [show Try.prog.cellsOf 51 = 2 by kernel_rfl] at hl
  match xs, hlen with
  | [y0, y1], _ =>
    simp only [Rows.uptoBulk, List.map_cons, List.map_nil, Rows.uptoBulkAll] at hb
    have e0 : DataW.trod enc Try.prog W 0 (fun _ => true) true n 9 ((cs.drop 0).take (Try.prog.cellsOf 9)) = some y0 := hf 0 _ rfl
    rw [show Try.prog.cellsOf 9 = 1 by kernel_rfl] at e0
    have e1 : DataW.trod enc Try.prog W 0 (fun _ => true) true n 22 ((cs.drop 1).take (Try.prog.cellsOf 22)) = some y1 := hf 1 _ rfl
    rw [show Try.prog.cellsOf 22 = 1 by kernel_rfl] at e1
    obtain ⟨x0, K0, g0⟩ := opens_string _ _ _ e0 (by omega)
    obtain ⟨x1, K1, g1⟩ := (opens_slice ByteArray.empty Try.underlying22 (by kernel_rfl) opens_string) _ _ _ e1 (by omega)
    rw [List.take_of_length_le (by rw [List.length_drop]; omega)] at K1
    exact ⟨⟨x0, x1⟩, (pair_K 1 (by simpa only [List.drop_drop, Nat.reduceAdd, List.drop_zero] using K0) (by simpa only [List.drop_drop, Nat.reduceAdd, List.drop_zero] using K1)), g0, g1⟩
def GKey (x : S85) : Prop := x.f0.size ≤ 1048576 ∧ x.f1.size ≤ 1048576
set_option maxHeartbeats 4000000 in
set_option maxRecDepth 100000 in
theorem opens_Key : Opens H enc W 85 k85 GKey := by
  intro fuel cs y h hb
  obtain ⟨xs, n, _, rfl, hl, hlen, hf⟩ := DataW.trod_struct Try.underlying85 h
  rw [show Try.prog.cellsOf 85 = 2 by kernel_rfl] at hl
  match xs, hlen with
  | [y0, y1], _ =>
    simp only [Rows.uptoBulk, List.map_cons, List.map_nil, Rows.uptoBulkAll] at hb
    have e0 : DataW.trod enc Try.prog W 0 (fun _ => true) true n 9 ((cs.drop 0).take (Try.prog.cellsOf 9)) = some y0 := hf 0 _ rfl
    rw [show Try.prog.cellsOf 9 = 1 by kernel_rfl] at e0
    have e1 : DataW.trod enc Try.prog W 0 (fun _ => true) true n 9 ((cs.drop 1).take (Try.prog.cellsOf 9)) = some y1 := hf 1 _ rfl
    rw [show Try.prog.cellsOf 9 = 1 by kernel_rfl] at e1
    obtain ⟨x0, K0, g0⟩ := opens_string _ _ _ e0 (by omega)
    obtain ⟨x1, K1, g1⟩ := opens_string _ _ _ e1 (by omega)
    rw [List.take_of_length_le (by rw [List.length_drop]; omega)] at K1
    exact ⟨⟨x0, x1⟩, (pair_K 1 (by simpa only [List.drop_drop, Nat.reduceAdd, List.drop_zero] using K0) (by simpa only [List.drop_drop, Nat.reduceAdd, List.drop_zero] using K1)), g0, g1⟩
def GConsent (x : S24) : Prop := x.f0.size ≤ 1048576 ∧ x.f1.size ≤ 1048576 ∧ (x.f2.length ≤ 1048576 ∧ ∀ s ∈ x.f2, s.size ≤ 1048576)
set_option maxHeartbeats 4000000 in
set_option maxRecDepth 100000 in
theorem opens_Consent : Opens H enc W 24 k24 GConsent := by
  intro fuel cs y h hb
  obtain ⟨xs, n, _, rfl, hl, hlen, hf⟩ := DataW.trod_struct Try.underlying24 h
  rw [show Try.prog.cellsOf 24 = 3 by kernel_rfl] at hl
  match xs, hlen with
  | [y0, y1, y2], _ =>
    simp only [Rows.uptoBulk, List.map_cons, List.map_nil, Rows.uptoBulkAll] at hb
    have e0 : DataW.trod enc Try.prog W 0 (fun _ => true) true n 9 ((cs.drop 0).take (Try.prog.cellsOf 9)) = some y0 := hf 0 _ rfl
    rw [show Try.prog.cellsOf 9 = 1 by kernel_rfl] at e0
    have e1 : DataW.trod enc Try.prog W 0 (fun _ => true) true n 9 ((cs.drop 1).take (Try.prog.cellsOf 9)) = some y1 := hf 1 _ rfl
    rw [show Try.prog.cellsOf 9 = 1 by kernel_rfl] at e1
    have e2 : DataW.trod enc Try.prog W 0 (fun _ => true) true n 22 ((cs.drop 2).take (Try.prog.cellsOf 22)) = some y2 := hf 2 _ rfl
    rw [show Try.prog.cellsOf 22 = 1 by kernel_rfl] at e2
    obtain ⟨x0, K0, g0⟩ := opens_string _ _ _ e0 (by omega)
    obtain ⟨x1, K1, g1⟩ := opens_string _ _ _ e1 (by omega)
    obtain ⟨x2, K2, g2⟩ := (opens_slice ByteArray.empty Try.underlying22 (by kernel_rfl) opens_string) _ _ _ e2 (by omega)
    rw [List.take_of_length_le (by rw [List.length_drop]; omega)] at K2
    exact ⟨⟨x0, x1, x2⟩, (pair_K 1 (by simpa only [List.drop_drop, Nat.reduceAdd, List.drop_zero] using K0) (pair_K 1 (by simpa only [List.drop_drop, Nat.reduceAdd, List.drop_zero] using K1) (by simpa only [List.drop_drop, Nat.reduceAdd, List.drop_zero] using K2))), g0, g1, g2⟩
def GCode (x : S26) : Prop := x.f0.size ≤ 1048576 ∧ x.f1.size ≤ 1048576 ∧ x.f2.size ≤ 1048576 ∧ x.f3.size ≤ 1048576 ∧ (x.f4.length ≤ 1048576 ∧ ∀ s ∈ x.f4, s.size ≤ 1048576) ∧ x.f5.size ≤ 1048576 ∧ True ∧ True ∧ (Lit.int .i64 x.f8).wf = true
set_option maxHeartbeats 4000000 in
set_option maxRecDepth 100000 in
theorem opens_Code : Opens H enc W 26 k26 GCode := by
  intro fuel cs y h hb
  obtain ⟨xs, n, _, rfl, hl, hlen, hf⟩ := DataW.trod_struct Try.underlying26 h
  rw [show Try.prog.cellsOf 26 = 9 by kernel_rfl] at hl
  match xs, hlen with
  | [y0, y1, y2, y3, y4, y5, y6, y7, y8], _ =>
    simp only [Rows.uptoBulk, List.map_cons, List.map_nil, Rows.uptoBulkAll] at hb
    have e0 : DataW.trod enc Try.prog W 0 (fun _ => true) true n 9 ((cs.drop 0).take (Try.prog.cellsOf 9)) = some y0 := hf 0 _ rfl
    rw [show Try.prog.cellsOf 9 = 1 by kernel_rfl] at e0
    have e1 : DataW.trod enc Try.prog W 0 (fun _ => true) true n 9 ((cs.drop 1).take (Try.prog.cellsOf 9)) = some y1 := hf 1 _ rfl
    rw [show Try.prog.cellsOf 9 = 1 by kernel_rfl] at e1
    have e2 : DataW.trod enc Try.prog W 0 (fun _ => true) true n 9 ((cs.drop 2).take (Try.prog.cellsOf 9)) = some y2 := hf 2 _ rfl
    rw [show Try.prog.cellsOf 9 = 1 by kernel_rfl] at e2
    have e3 : DataW.trod enc Try.prog W 0 (fun _ => true) true n 9 ((cs.drop 3).take (Try.prog.cellsOf 9)) = some y3 := hf 3 _ rfl
    rw [show Try.prog.cellsOf 9 = 1 by kernel_rfl] at e3
    have e4 : DataW.trod enc Try.prog W 0 (fun _ => true) true n 22 ((cs.drop 4).take (Try.prog.cellsOf 22)) = some y4 := hf 4 _ rfl
    rw [show Try.prog.cellsOf 22 = 1 by kernel_rfl] at e4
    have e5 : DataW.trod enc Try.prog W 0 (fun _ => true) true n 9 ((cs.drop 5).take (Try.prog.cellsOf 9)) = some y5 := hf 5 _ rfl
    rw [show Try.prog.cellsOf 9 = 1 by kernel_rfl] at e5
    have e6 : DataW.trod enc Try.prog W 0 (fun _ => true) true n 4 ((cs.drop 6).take (Try.prog.cellsOf 4)) = some y6 := hf 6 _ rfl
    rw [show Try.prog.cellsOf 4 = 1 by kernel_rfl] at e6
    have e7 : DataW.trod enc Try.prog W 0 (fun _ => true) true n 4 ((cs.drop 7).take (Try.prog.cellsOf 4)) = some y7 := hf 7 _ rfl
    rw [show Try.prog.cellsOf 4 = 1 by kernel_rfl] at e7
    have e8 : DataW.trod enc Try.prog W 0 (fun _ => true) true n 2 ((cs.drop 8).take (Try.prog.cellsOf 2)) = some y8 := hf 8 _ rfl
    rw [show Try.prog.cellsOf 2 = 1 by kernel_rfl] at e8
    obtain ⟨x0, K0, g0⟩ := opens_string _ _ _ e0 (by omega)
    obtain ⟨x1, K1, g1⟩ := opens_string _ _ _ e1 (by omega)
    obtain ⟨x2, K2, g2⟩ := opens_string _ _ _ e2 (by omega)
    obtain ⟨x3, K3, g3⟩ := opens_string _ _ _ e3 (by omega)
    obtain ⟨x4, K4, g4⟩ := (opens_slice ByteArray.empty Try.underlying22 (by kernel_rfl) opens_string) _ _ _ e4 (by omega)
    obtain ⟨x5, K5, g5⟩ := opens_string _ _ _ e5 (by omega)
    obtain ⟨x6, K6, g6⟩ := opens_bool _ _ _ e6 (by omega)
    obtain ⟨x7, K7, g7⟩ := opens_bool _ _ _ e7 (by omega)
    obtain ⟨x8, K8, g8⟩ := (opens_int Try.underlying2) _ _ _ e8 (by omega)
    rw [List.take_of_length_le (by rw [List.length_drop]; omega)] at K8
    exact ⟨⟨x0, x1, x2, x3, x4, x5, x6, x7, x8⟩, (pair_K 1 (by simpa only [List.drop_drop, Nat.reduceAdd, List.drop_zero] using K0) (pair_K 1 (by simpa only [List.drop_drop, Nat.reduceAdd, List.drop_zero] using K1) (pair_K 1 (by simpa only [List.drop_drop, Nat.reduceAdd, List.drop_zero] using K2) (pair_K 1 (by simpa only [List.drop_drop, Nat.reduceAdd, List.drop_zero] using K3) (pair_K 1 (by simpa only [List.drop_drop, Nat.reduceAdd, List.drop_zero] using K4) (pair_K 1 (by simpa only [List.drop_drop, Nat.reduceAdd, List.drop_zero] using K5) (pair_K 1 (by simpa only [List.drop_drop, Nat.reduceAdd, List.drop_zero] using K6) (pair_K 1 (by simpa only [List.drop_drop, Nat.reduceAdd, List.drop_zero] using K7) (by simpa only [List.drop_drop, Nat.reduceAdd, List.drop_zero] using K8))))))))), g0, g1, g2, g3, g4, g5, g6, g7, g8⟩
def GFamily (x : S28) : Prop := x.f0.size ≤ 1048576 ∧ x.f1.size ≤ 1048576 ∧ x.f2.size ≤ 1048576 ∧ (x.f3.length ≤ 1048576 ∧ ∀ s ∈ x.f3, s.size ≤ 1048576) ∧ (Lit.int .i64 x.f4).wf = true ∧ (Lit.int .i64 x.f5).wf = true ∧ True
set_option maxHeartbeats 4000000 in
set_option maxRecDepth 100000 in
theorem opens_Family : Opens H enc W 28 k28 GFamily := by
  intro fuel cs y h hb
  obtain ⟨xs, n, _, rfl, hl, hlen, hf⟩ := DataW.trod_struct Try.underlying28 h
  rw [show Try.prog.cellsOf 28 = 7 by kernel_rfl] at hl
  match xs, hlen with
  | [y0, y1, y2, y3, y4, y5, y6], _ =>
    simp only [Rows.uptoBulk, List.map_cons, List.map_nil, Rows.uptoBulkAll] at hb
    have e0 : DataW.trod enc Try.prog W 0 (fun _ => true) true n 9 ((cs.drop 0).take (Try.prog.cellsOf 9)) = some y0 := hf 0 _ rfl
    rw [show Try.prog.cellsOf 9 = 1 by kernel_rfl] at e0
    have e1 : DataW.trod enc Try.prog W 0 (fun _ => true) true n 9 ((cs.drop 1).take (Try.prog.cellsOf 9)) = some y1 := hf 1 _ rfl
    rw [show Try.prog.cellsOf 9 = 1 by kernel_rfl] at e1
    have e2 : DataW.trod enc Try.prog W 0 (fun _ => true) true n 9 ((cs.drop 2).take (Try.prog.cellsOf 9)) = some y2 := hf 2 _ rfl
    rw [show Try.prog.cellsOf 9 = 1 by kernel_rfl] at e2
    have e3 : DataW.trod enc Try.prog W 0 (fun _ => true) true n 22 ((cs.drop 3).take (Try.prog.cellsOf 22)) = some y3 := hf 3 _ rfl
    rw [show Try.prog.cellsOf 22 = 1 by kernel_rfl] at e3
    have e4 : DataW.trod enc Try.prog W 0 (fun _ => true) true n 2 ((cs.drop 4).take (Try.prog.cellsOf 2)) = some y4 := hf 4 _ rfl
    rw [show Try.prog.cellsOf 2 = 1 by kernel_rfl] at e4
    have e5 : DataW.trod enc Try.prog W 0 (fun _ => true) true n 2 ((cs.drop 5).take (Try.prog.cellsOf 2)) = some y5 := hf 5 _ rfl
    rw [show Try.prog.cellsOf 2 = 1 by kernel_rfl] at e5
    have e6 : DataW.trod enc Try.prog W 0 (fun _ => true) true n 4 ((cs.drop 6).take (Try.prog.cellsOf 4)) = some y6 := hf 6 _ rfl
    rw [show Try.prog.cellsOf 4 = 1 by kernel_rfl] at e6
    obtain ⟨x0, K0, g0⟩ := opens_string _ _ _ e0 (by omega)
    obtain ⟨x1, K1, g1⟩ := opens_string _ _ _ e1 (by omega)
    obtain ⟨x2, K2, g2⟩ := opens_string _ _ _ e2 (by omega)
    obtain ⟨x3, K3, g3⟩ := (opens_slice ByteArray.empty Try.underlying22 (by kernel_rfl) opens_string) _ _ _ e3 (by omega)
    obtain ⟨x4, K4, g4⟩ := (opens_int Try.underlying2) _ _ _ e4 (by omega)
    obtain ⟨x5, K5, g5⟩ := (opens_int Try.underlying2) _ _ _ e5 (by omega)
    obtain ⟨x6, K6, g6⟩ := opens_bool _ _ _ e6 (by omega)
    rw [List.take_of_length_le (by rw [List.length_drop]; omega)] at K6
    exact ⟨⟨x0, x1, x2, x3, x4, x5, x6⟩, (pair_K 1 (by simpa only [List.drop_drop, Nat.reduceAdd, List.drop_zero] using K0) (pair_K 1 (by simpa only [List.drop_drop, Nat.reduceAdd, List.drop_zero] using K1) (pair_K 1 (by simpa only [List.drop_drop, Nat.reduceAdd, List.drop_zero] using K2) (pair_K 1 (by simpa only [List.drop_drop, Nat.reduceAdd, List.drop_zero] using K3) (pair_K 1 (by simpa only [List.drop_drop, Nat.reduceAdd, List.drop_zero] using K4) (pair_K 1 (by simpa only [List.drop_drop, Nat.reduceAdd, List.drop_zero] using K5) (by simpa only [List.drop_drop, Nat.reduceAdd, List.drop_zero] using K6))))))), g0, g1, g2, g3, g4, g5, g6⟩
def GRefresh (x : S30) : Prop := x.f0.size ≤ 1048576 ∧ x.f1.size ≤ 1048576 ∧ (Lit.int .i64 x.f2).wf = true
set_option maxHeartbeats 4000000 in
set_option maxRecDepth 100000 in
theorem opens_Refresh : Opens H enc W 30 k30 GRefresh := by
  intro fuel cs y h hb
  obtain ⟨xs, n, _, rfl, hl, hlen, hf⟩ := DataW.trod_struct Try.underlying30 h
  rw [show Try.prog.cellsOf 30 = 3 by kernel_rfl] at hl
  match xs, hlen with
  | [y0, y1, y2], _ =>
    simp only [Rows.uptoBulk, List.map_cons, List.map_nil, Rows.uptoBulkAll] at hb
    have e0 : DataW.trod enc Try.prog W 0 (fun _ => true) true n 9 ((cs.drop 0).take (Try.prog.cellsOf 9)) = some y0 := hf 0 _ rfl
    rw [show Try.prog.cellsOf 9 = 1 by kernel_rfl] at e0
    have e1 : DataW.trod enc Try.prog W 0 (fun _ => true) true n 9 ((cs.drop 1).take (Try.prog.cellsOf 9)) = some y1 := hf 1 _ rfl
    rw [show Try.prog.cellsOf 9 = 1 by kernel_rfl] at e1
    have e2 : DataW.trod enc Try.prog W 0 (fun _ => true) true n 2 ((cs.drop 2).take (Try.prog.cellsOf 2)) = some y2 := hf 2 _ rfl
    rw [show Try.prog.cellsOf 2 = 1 by kernel_rfl] at e2
    obtain ⟨x0, K0, g0⟩ := opens_string _ _ _ e0 (by omega)
    obtain ⟨x1, K1, g1⟩ := opens_string _ _ _ e1 (by omega)
    obtain ⟨x2, K2, g2⟩ := (opens_int Try.underlying2) _ _ _ e2 (by omega)
    rw [List.take_of_length_le (by rw [List.length_drop]; omega)] at K2
    exact ⟨⟨x0, x1, x2⟩, (pair_K 1 (by simpa only [List.drop_drop, Nat.reduceAdd, List.drop_zero] using K0) (pair_K 1 (by simpa only [List.drop_drop, Nat.reduceAdd, List.drop_zero] using K1) (by simpa only [List.drop_drop, Nat.reduceAdd, List.drop_zero] using K2))), g0, g1, g2⟩
def GAccess (x : S33) : Prop := x.f0.size ≤ 1048576 ∧ x.f1.size ≤ 1048576 ∧ x.f2.size ≤ 1048576 ∧ x.f3.size ≤ 1048576 ∧ x.f4.size ≤ 1048576 ∧ (x.f5.length ≤ 1048576 ∧ ∀ s ∈ x.f5, s.size ≤ 1048576) ∧ (x.f6.length ≤ 1048576 ∧ ∀ s ∈ x.f6, GPerm s) ∧ (Lit.int .i64 x.f7).wf = true ∧ (Lit.int .i64 x.f8).wf = true ∧ True
set_option maxHeartbeats 4000000 in
set_option maxRecDepth 100000 in
theorem opens_Access : Opens H enc W 33 k33 GAccess := by
  intro fuel cs y h hb
  obtain ⟨xs, n, _, rfl, hl, hlen, hf⟩ := DataW.trod_struct Try.underlying33 h
  rw [show Try.prog.cellsOf 33 = 10 by kernel_rfl] at hl
  match xs, hlen with
  | [y0, y1, y2, y3, y4, y5, y6, y7, y8, y9], _ =>
    simp only [Rows.uptoBulk, List.map_cons, List.map_nil, Rows.uptoBulkAll] at hb
    have e0 : DataW.trod enc Try.prog W 0 (fun _ => true) true n 9 ((cs.drop 0).take (Try.prog.cellsOf 9)) = some y0 := hf 0 _ rfl
    rw [show Try.prog.cellsOf 9 = 1 by kernel_rfl] at e0
    have e1 : DataW.trod enc Try.prog W 0 (fun _ => true) true n 9 ((cs.drop 1).take (Try.prog.cellsOf 9)) = some y1 := hf 1 _ rfl
    rw [show Try.prog.cellsOf 9 = 1 by kernel_rfl] at e1
    have e2 : DataW.trod enc Try.prog W 0 (fun _ => true) true n 9 ((cs.drop 2).take (Try.prog.cellsOf 9)) = some y2 := hf 2 _ rfl
    rw [show Try.prog.cellsOf 9 = 1 by kernel_rfl] at e2
    have e3 : DataW.trod enc Try.prog W 0 (fun _ => true) true n 9 ((cs.drop 3).take (Try.prog.cellsOf 9)) = some y3 := hf 3 _ rfl
    rw [show Try.prog.cellsOf 9 = 1 by kernel_rfl] at e3
    have e4 : DataW.trod enc Try.prog W 0 (fun _ => true) true n 9 ((cs.drop 4).take (Try.prog.cellsOf 9)) = some y4 := hf 4 _ rfl
    rw [show Try.prog.cellsOf 9 = 1 by kernel_rfl] at e4
    have e5 : DataW.trod enc Try.prog W 0 (fun _ => true) true n 22 ((cs.drop 5).take (Try.prog.cellsOf 22)) = some y5 := hf 5 _ rfl
    rw [show Try.prog.cellsOf 22 = 1 by kernel_rfl] at e5
    have e6 : DataW.trod enc Try.prog W 0 (fun _ => true) true n 31 ((cs.drop 6).take (Try.prog.cellsOf 31)) = some y6 := hf 6 _ rfl
    rw [show Try.prog.cellsOf 31 = 1 by kernel_rfl] at e6
    have e7 : DataW.trod enc Try.prog W 0 (fun _ => true) true n 2 ((cs.drop 7).take (Try.prog.cellsOf 2)) = some y7 := hf 7 _ rfl
    rw [show Try.prog.cellsOf 2 = 1 by kernel_rfl] at e7
    have e8 : DataW.trod enc Try.prog W 0 (fun _ => true) true n 2 ((cs.drop 8).take (Try.prog.cellsOf 2)) = some y8 := hf 8 _ rfl
    rw [show Try.prog.cellsOf 2 = 1 by kernel_rfl] at e8
    have e9 : DataW.trod enc Try.prog W 0 (fun _ => true) true n 4 ((cs.drop 9).take (Try.prog.cellsOf 4)) = some y9 := hf 9 _ rfl
    rw [show Try.prog.cellsOf 4 = 1 by kernel_rfl] at e9
    obtain ⟨x0, K0, g0⟩ := opens_string _ _ _ e0 (by omega)
    obtain ⟨x1, K1, g1⟩ := opens_string _ _ _ e1 (by omega)
    obtain ⟨x2, K2, g2⟩ := opens_string _ _ _ e2 (by omega)
    obtain ⟨x3, K3, g3⟩ := opens_string _ _ _ e3 (by omega)
    obtain ⟨x4, K4, g4⟩ := opens_string _ _ _ e4 (by omega)
    obtain ⟨x5, K5, g5⟩ := (opens_slice ByteArray.empty Try.underlying22 (by kernel_rfl) opens_string) _ _ _ e5 (by omega)
    obtain ⟨x6, K6, g6⟩ := (opens_slice z51 Try.underlying31 (by kernel_rfl) opens_Perm) _ _ _ e6 (by omega)
    obtain ⟨x7, K7, g7⟩ := (opens_int Try.underlying2) _ _ _ e7 (by omega)
    obtain ⟨x8, K8, g8⟩ := (opens_int Try.underlying2) _ _ _ e8 (by omega)
    obtain ⟨x9, K9, g9⟩ := opens_bool _ _ _ e9 (by omega)
    rw [List.take_of_length_le (by rw [List.length_drop]; omega)] at K9
    exact ⟨⟨x0, x1, x2, x3, x4, x5, x6, x7, x8, x9⟩, (pair_K 1 (by simpa only [List.drop_drop, Nat.reduceAdd, List.drop_zero] using K0) (pair_K 1 (by simpa only [List.drop_drop, Nat.reduceAdd, List.drop_zero] using K1) (pair_K 1 (by simpa only [List.drop_drop, Nat.reduceAdd, List.drop_zero] using K2) (pair_K 1 (by simpa only [List.drop_drop, Nat.reduceAdd, List.drop_zero] using K3) (pair_K 1 (by simpa only [List.drop_drop, Nat.reduceAdd, List.drop_zero] using K4) (pair_K 1 (by simpa only [List.drop_drop, Nat.reduceAdd, List.drop_zero] using K5) (pair_K 1 (by simpa only [List.drop_drop, Nat.reduceAdd, List.drop_zero] using K6) (pair_K 1 (by simpa only [List.drop_drop, Nat.reduceAdd, List.drop_zero] using K7) (pair_K 1 (by simpa only [List.drop_drop, Nat.reduceAdd, List.drop_zero] using K8) (by simpa only [List.drop_drop, Nat.reduceAdd, List.drop_zero] using K9)))))))))), g0, g1, g2, g3, g4, g5, g6, g7, g8, g9⟩
def GResource (x : S35) : Prop := x.f0.size ≤ 1048576 ∧ x.f1.size ≤ 1048576 ∧ x.f2.size ≤ 1048576 ∧ x.f3.size ≤ 1048576 ∧ (x.f4.length ≤ 1048576 ∧ ∀ s ∈ x.f4, s.size ≤ 1048576) ∧ x.f5.size ≤ 1048576
set_option maxHeartbeats 4000000 in
set_option maxRecDepth 100000 in
theorem opens_Resource : Opens H enc W 35 k35 GResource := by
  intro fuel cs y h hb
  obtain ⟨xs, n, _, rfl, hl, hlen, hf⟩ := DataW.trod_struct Try.underlying35 h
  rw [show Try.prog.cellsOf 35 = 6 by kernel_rfl] at hl
  match xs, hlen with
  | [y0, y1, y2, y3, y4, y5], _ =>
    simp only [Rows.uptoBulk, List.map_cons, List.map_nil, Rows.uptoBulkAll] at hb
    have e0 : DataW.trod enc Try.prog W 0 (fun _ => true) true n 9 ((cs.drop 0).take (Try.prog.cellsOf 9)) = some y0 := hf 0 _ rfl
    rw [show Try.prog.cellsOf 9 = 1 by kernel_rfl] at e0
    have e1 : DataW.trod enc Try.prog W 0 (fun _ => true) true n 9 ((cs.drop 1).take (Try.prog.cellsOf 9)) = some y1 := hf 1 _ rfl
    rw [show Try.prog.cellsOf 9 = 1 by kernel_rfl] at e1
    have e2 : DataW.trod enc Try.prog W 0 (fun _ => true) true n 9 ((cs.drop 2).take (Try.prog.cellsOf 9)) = some y2 := hf 2 _ rfl
    rw [show Try.prog.cellsOf 9 = 1 by kernel_rfl] at e2
    have e3 : DataW.trod enc Try.prog W 0 (fun _ => true) true n 9 ((cs.drop 3).take (Try.prog.cellsOf 9)) = some y3 := hf 3 _ rfl
    rw [show Try.prog.cellsOf 9 = 1 by kernel_rfl] at e3
    have e4 : DataW.trod enc Try.prog W 0 (fun _ => true) true n 22 ((cs.drop 4).take (Try.prog.cellsOf 22)) = some y4 := hf 4 _ rfl
    rw [show Try.prog.cellsOf 22 = 1 by kernel_rfl] at e4
    have e5 : DataW.trod enc Try.prog W 0 (fun _ => true) true n 9 ((cs.drop 5).take (Try.prog.cellsOf 9)) = some y5 := hf 5 _ rfl
    rw [show Try.prog.cellsOf 9 = 1 by kernel_rfl] at e5
    obtain ⟨x0, K0, g0⟩ := opens_string _ _ _ e0 (by omega)
    obtain ⟨x1, K1, g1⟩ := opens_string _ _ _ e1 (by omega)
    obtain ⟨x2, K2, g2⟩ := opens_string _ _ _ e2 (by omega)
    obtain ⟨x3, K3, g3⟩ := opens_string _ _ _ e3 (by omega)
    obtain ⟨x4, K4, g4⟩ := (opens_slice ByteArray.empty Try.underlying22 (by kernel_rfl) opens_string) _ _ _ e4 (by omega)
    obtain ⟨x5, K5, g5⟩ := opens_string _ _ _ e5 (by omega)
    rw [List.take_of_length_le (by rw [List.length_drop]; omega)] at K5
    exact ⟨⟨x0, x1, x2, x3, x4, x5⟩, (pair_K 1 (by simpa only [List.drop_drop, Nat.reduceAdd, List.drop_zero] using K0) (pair_K 1 (by simpa only [List.drop_drop, Nat.reduceAdd, List.drop_zero] using K1) (pair_K 1 (by simpa only [List.drop_drop, Nat.reduceAdd, List.drop_zero] using K2) (pair_K 1 (by simpa only [List.drop_drop, Nat.reduceAdd, List.drop_zero] using K3) (pair_K 1 (by simpa only [List.drop_drop, Nat.reduceAdd, List.drop_zero] using K4) (by simpa only [List.drop_drop, Nat.reduceAdd, List.drop_zero] using K5)))))), g0, g1, g2, g3, g4, g5⟩
def GTicket (x : S37) : Prop := x.f0.size ≤ 1048576 ∧ x.f1.size ≤ 1048576 ∧ (x.f2.length ≤ 1048576 ∧ ∀ s ∈ x.f2, GPerm s) ∧ x.f3.size ≤ 1048576 ∧ (Lit.int .i64 x.f4).wf = true ∧ True
set_option maxHeartbeats 4000000 in
set_option maxRecDepth 100000 in
theorem opens_Ticket : Opens H enc W 37 k37 GTicket := by
  intro fuel cs y h hb
  obtain ⟨xs, n, _, rfl, hl, hlen, hf⟩ := DataW.trod_struct Try.underlying37 h
  rw [show Try.prog.cellsOf 37 = 6 by kernel_rfl] at hl
  match xs, hlen with
  | [y0, y1, y2, y3, y4, y5], _ =>
    simp only [Rows.uptoBulk, List.map_cons, List.map_nil, Rows.uptoBulkAll] at hb
    have e0 : DataW.trod enc Try.prog W 0 (fun _ => true) true n 9 ((cs.drop 0).take (Try.prog.cellsOf 9)) = some y0 := hf 0 _ rfl
    rw [show Try.prog.cellsOf 9 = 1 by kernel_rfl] at e0
    have e1 : DataW.trod enc Try.prog W 0 (fun _ => true) true n 9 ((cs.drop 1).take (Try.prog.cellsOf 9)) = some y1 := hf 1 _ rfl
    rw [show Try.prog.cellsOf 9 = 1 by kernel_rfl] at e1
    have e2 : DataW.trod enc Try.prog W 0 (fun _ => true) true n 31 ((cs.drop 2).take (Try.prog.cellsOf 31)) = some y2 := hf 2 _ rfl
    rw [show Try.prog.cellsOf 31 = 1 by kernel_rfl] at e2
    have e3 : DataW.trod enc Try.prog W 0 (fun _ => true) true n 9 ((cs.drop 3).take (Try.prog.cellsOf 9)) = some y3 := hf 3 _ rfl
    rw [show Try.prog.cellsOf 9 = 1 by kernel_rfl] at e3
    have e4 : DataW.trod enc Try.prog W 0 (fun _ => true) true n 2 ((cs.drop 4).take (Try.prog.cellsOf 2)) = some y4 := hf 4 _ rfl
    rw [show Try.prog.cellsOf 2 = 1 by kernel_rfl] at e4
    have e5 : DataW.trod enc Try.prog W 0 (fun _ => true) true n 4 ((cs.drop 5).take (Try.prog.cellsOf 4)) = some y5 := hf 5 _ rfl
    rw [show Try.prog.cellsOf 4 = 1 by kernel_rfl] at e5
    obtain ⟨x0, K0, g0⟩ := opens_string _ _ _ e0 (by omega)
    obtain ⟨x1, K1, g1⟩ := opens_string _ _ _ e1 (by omega)
    obtain ⟨x2, K2, g2⟩ := (opens_slice z51 Try.underlying31 (by kernel_rfl) opens_Perm) _ _ _ e2 (by omega)
    obtain ⟨x3, K3, g3⟩ := opens_string _ _ _ e3 (by omega)
    obtain ⟨x4, K4, g4⟩ := (opens_int Try.underlying2) _ _ _ e4 (by omega)
    obtain ⟨x5, K5, g5⟩ := opens_bool _ _ _ e5 (by omega)
    rw [List.take_of_length_le (by rw [List.length_drop]; omega)] at K5
    exact ⟨⟨x0, x1, x2, x3, x4, x5⟩, (pair_K 1 (by simpa only [List.drop_drop, Nat.reduceAdd, List.drop_zero] using K0) (pair_K 1 (by simpa only [List.drop_drop, Nat.reduceAdd, List.drop_zero] using K1) (pair_K 1 (by simpa only [List.drop_drop, Nat.reduceAdd, List.drop_zero] using K2) (pair_K 1 (by simpa only [List.drop_drop, Nat.reduceAdd, List.drop_zero] using K3) (pair_K 1 (by simpa only [List.drop_drop, Nat.reduceAdd, List.drop_zero] using K4) (by simpa only [List.drop_drop, Nat.reduceAdd, List.drop_zero] using K5)))))), g0, g1, g2, g3, g4, g5⟩
def GRow (x : S40) : Prop := (Lit.int .i64 x.f0).wf = true ∧ GConsent x.f1 ∧ GCode x.f2 ∧ GFamily x.f3 ∧ GRefresh x.f4 ∧ GAccess x.f5 ∧ GResource x.f6 ∧ GTicket x.f7 ∧ (x.f8.length ≤ 1048576 ∧ ∀ s ∈ x.f8, GKey s)
set_option maxHeartbeats 4000000 in
set_option maxRecDepth 100000 in
theorem opens_Row : Opens H enc W 40 k40 GRow := by
  intro fuel cs y h hb
  obtain ⟨xs, n, _, rfl, hl, hlen, hf⟩ := DataW.trod_struct Try.underlying40 h
  rw [show Try.prog.cellsOf 40 = 46 by kernel_rfl] at hl
  match xs, hlen with
  | [y0, y1, y2, y3, y4, y5, y6, y7, y8], _ =>
    simp only [Rows.uptoBulk, List.map_cons, List.map_nil, Rows.uptoBulkAll] at hb
    have e0 : DataW.trod enc Try.prog W 0 (fun _ => true) true n 3 ((cs.drop 0).take (Try.prog.cellsOf 3)) = some y0 := hf 0 _ rfl
    rw [show Try.prog.cellsOf 3 = 1 by kernel_rfl] at e0
    have e1 : DataW.trod enc Try.prog W 0 (fun _ => true) true n 24 ((cs.drop 1).take (Try.prog.cellsOf 24)) = some y1 := hf 1 _ rfl
    rw [show Try.prog.cellsOf 24 = 3 by kernel_rfl] at e1
    have e2 : DataW.trod enc Try.prog W 0 (fun _ => true) true n 26 ((cs.drop 4).take (Try.prog.cellsOf 26)) = some y2 := hf 2 _ rfl
    rw [show Try.prog.cellsOf 26 = 9 by kernel_rfl] at e2
    have e3 : DataW.trod enc Try.prog W 0 (fun _ => true) true n 28 ((cs.drop 13).take (Try.prog.cellsOf 28)) = some y3 := hf 3 _ rfl
    rw [show Try.prog.cellsOf 28 = 7 by kernel_rfl] at e3
    have e4 : DataW.trod enc Try.prog W 0 (fun _ => true) true n 30 ((cs.drop 20).take (Try.prog.cellsOf 30)) = some y4 := hf 4 _ rfl
    rw [show Try.prog.cellsOf 30 = 3 by kernel_rfl] at e4
    have e5 : DataW.trod enc Try.prog W 0 (fun _ => true) true n 33 ((cs.drop 23).take (Try.prog.cellsOf 33)) = some y5 := hf 5 _ rfl
    rw [show Try.prog.cellsOf 33 = 10 by kernel_rfl] at e5
    have e6 : DataW.trod enc Try.prog W 0 (fun _ => true) true n 35 ((cs.drop 33).take (Try.prog.cellsOf 35)) = some y6 := hf 6 _ rfl
    rw [show Try.prog.cellsOf 35 = 6 by kernel_rfl] at e6
    have e7 : DataW.trod enc Try.prog W 0 (fun _ => true) true n 37 ((cs.drop 39).take (Try.prog.cellsOf 37)) = some y7 := hf 7 _ rfl
    rw [show Try.prog.cellsOf 37 = 6 by kernel_rfl] at e7
    have e8 : DataW.trod enc Try.prog W 0 (fun _ => true) true n 38 ((cs.drop 45).take (Try.prog.cellsOf 38)) = some y8 := hf 8 _ rfl
    rw [show Try.prog.cellsOf 38 = 1 by kernel_rfl] at e8
    obtain ⟨x0, K0, g0⟩ := (opens_int Try.underlying3) _ _ _ e0 (by omega)
    obtain ⟨x1, K1, g1⟩ := opens_Consent _ _ _ e1 (by omega)
    obtain ⟨x2, K2, g2⟩ := opens_Code _ _ _ e2 (by omega)
    obtain ⟨x3, K3, g3⟩ := opens_Family _ _ _ e3 (by omega)
    obtain ⟨x4, K4, g4⟩ := opens_Refresh _ _ _ e4 (by omega)
    obtain ⟨x5, K5, g5⟩ := opens_Access _ _ _ e5 (by omega)
    obtain ⟨x6, K6, g6⟩ := opens_Resource _ _ _ e6 (by omega)
    obtain ⟨x7, K7, g7⟩ := opens_Ticket _ _ _ e7 (by omega)
    obtain ⟨x8, K8, g8⟩ := (opens_slice z85 Try.underlying38 (by kernel_rfl) opens_Key) _ _ _ e8 (by omega)
    rw [List.take_of_length_le (by rw [List.length_drop]; omega)] at K8
    exact ⟨⟨x0, x1, x2, x3, x4, x5, x6, x7, x8⟩, (pair_K 1 (by simpa only [List.drop_drop, Nat.reduceAdd, List.drop_zero] using K0) (pair_K 3 (by simpa only [List.drop_drop, Nat.reduceAdd, List.drop_zero] using K1) (pair_K 9 (by simpa only [List.drop_drop, Nat.reduceAdd, List.drop_zero] using K2) (pair_K 7 (by simpa only [List.drop_drop, Nat.reduceAdd, List.drop_zero] using K3) (pair_K 3 (by simpa only [List.drop_drop, Nat.reduceAdd, List.drop_zero] using K4) (pair_K 10 (by simpa only [List.drop_drop, Nat.reduceAdd, List.drop_zero] using K5) (pair_K 6 (by simpa only [List.drop_drop, Nat.reduceAdd, List.drop_zero] using K6) (pair_K 6 (by simpa only [List.drop_drop, Nat.reduceAdd, List.drop_zero] using K7) (by simpa only [List.drop_drop, Nat.reduceAdd, List.drop_zero] using K8))))))))), g0, g1, g2, g3, g4, g5, g6, g7, g8⟩
end
end Go.Proofs.Ytcgjacffemjehaa

namespace Go.Proofs.Ytcgjacffemjehaa
open Go.RowKit
open Go.Proofs.YtcgjacffemjehaaW.PrintWords (Kd)
open Go.Proofs.Ytcgjacffemjehaa.PRowPacks
set_option linter.unusedVariables false
theorem i64_of {n : Int} (h : (Lit.int .i64 n).wf = true) : I64 n := by
  have := bounds_i64 h
  exact this
theorem small_of (x : S40) (g : GRow x) : Small x := by
  obtain ⟨_, ⟨a0, a1, a2⟩, ⟨b0, b1, b2, b3, b4, b5, _, _, b8⟩, ⟨c0, c1, c2, c3, c4, c5, _⟩, ⟨d0, d1, d2⟩, ⟨e0, e1, e2, e3, e4, e5, e6, e7, e8, _⟩, ⟨f0, f1, f2, f3, f4, f5⟩, ⟨g0, g1, g2, g3, g4, _⟩, h8⟩ := g
  exact ⟨⟨a0, a1, a2⟩, ⟨b0, b1, b2, b3, b4, b5, i64_of b8⟩, ⟨c0, c1, c2, c3, i64_of c4, i64_of c5⟩, ⟨d0, d1, i64_of d2⟩, ⟨e0, e1, e2, e3, e4, e5, e6, i64_of e7, i64_of e8⟩, ⟨f0, f1, f2, f3, f4, f5⟩, ⟨g0, g1, g2, g3, i64_of g4⟩, h8⟩
theorem packs_any (vs : Array Value) (x : S40) (w : World) (hK : k40.K w x vs.toList) (g : GRow x) :
    Calls Try.prog 3 #[.agg vs] w (TruePost w) := by
  obtain ⟨A3, c3, A8, c8, A16, c16, A28, c28, A29, c29, A37, c37, A41, c41, A45, c45, e, l3, g3, l8, g8, l16, g16, l28, g28, l29, g29, l37, g37, l41, g41, l45, g45⟩ := k40_open hK
  cases vs with
  | mk l =>
    simp only at e
    subst e
    exact packs_walk w x l3 g3 l8 g8 l16 g16 l28 g28 l29 g29 l37 g37 l41 g41 l45 g45 (small_of x g)
end Go.Proofs.Ytcgjacffemjehaa

namespace Go.Proofs.Ytcgjacffemjehaa
open Go.RowKit
set_option linter.unusedVariables false
/-- A slice that came in, with all its room. -/
def IsRow (k : IntKind) (W : World) (a : Option Addr) (len cap : Nat) (zs : List Int) : Prop :=
  (a = none ∧ len = 0 ∧ cap = 0 ∧ zs = []) ∨ ∃ x, a = some x ∧ len ≤ cap ∧ cap ≤ maxLen ∧ zs.length = cap ∧ (∀ i, i < zs.length → W.cell? (x.add i) = some (.int k (zs.getD i 0))) ∧ (∀ n ∈ zs, (Lit.int k n).wf = true)
theorem IsRow.len {k : IntKind} {W : World} {a : Option Addr} {len cap : Nat} {zs : List Int} (h : IsRow k W a len cap zs) : (zs.take len).length = len ∧ len ≤ cap := by
  rcases h with ⟨_, rfl, rfl, rfl⟩ | ⟨x, _, h1, h2, h3, _⟩
  · simp
  · rw [List.length_take]; omega
theorem IsRow.cells {k : IntKind} {W : World} {a : Option Addr} {len cap : Nat} {zs : List Int} (h : IsRow k W a len cap zs) (h0 : 0 < len) : ∃ b o, a = some ⟨b, o, none⟩ ∧ ∀ i, i < len → W.cell? ⟨b, o + i, none⟩ = some (.int k ((zs.take len).getD i 0)) := by
  rcases h with ⟨_, rfl, rfl, rfl⟩ | ⟨x, rfl, h1, h2, h3, h4, _⟩
  · omega
  · obtain ⟨b, o, rfl, hc⟩ := ints_at h4 (by omega)
    refine ⟨b, o, rfl, fun i hi => ?_⟩
    rw [hc i (by omega)]
    simp [List.getD, hi]
end Go.Proofs.Ytcgjacffemjehaa

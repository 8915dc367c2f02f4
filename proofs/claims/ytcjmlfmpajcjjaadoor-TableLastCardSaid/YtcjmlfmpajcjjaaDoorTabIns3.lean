/-
  slices.Insert of a row in the midst, where there is room.
-/
import Derived.Test.YtcjmlfmpajcjjaaDoorTabIns2
import Derived.Laws.Externs
namespace Go.Proofs.YtcjmlfmpajcjjaaDoor
open Go.RowKit
open Go.Proofs.YtcjmlfmpajcjjaaDoorW.PrintWords (Kd rdOf)
open Go.Proofs.YtcjmlfmpajcjjaaDoor.PTableLast
set_option linter.unusedVariables false
theorem run_bind_of {α β : Type} {P : Program} {w w' : World} {m : Sem β} {x : Sem α} {k : α → Sem β} {v : α} (hm : m = x >>= k) (hx : x.run P w = .ok v w') : m.run P w = (k v).run P w' := by
  rw [hm, Sem.run_bind, hx, Result.andThen_ok]
theorem run_overlaps (w : World) (g gy o o' n n' c c' : Nat) (cy cur : Array Value) (ty te : TypeId) (hy : w.heap[gy]? = some (.cells cy ty (0, 0))) (hg : w.heap[g]? = some (.cells cur te (0, 0))) (hne : gy ≠ g) (rs : Array TypeId) :
    (Extern.SlicesOverlaps.overlaps #[53, 53] rs #[.slice (some ⟨gy, o, none⟩) n c, .slice (some ⟨g, o', none⟩) n' c']).run Tryd.prog w = .ok (.bool false) w := by
  obtain ⟨i, hi, hz, hsize, hby⟩ := info_parts einfoE
  have f1 : ∀ k, w.frozen? ⟨gy, k, none⟩ = false := fun k => by simp [World.frozen?, hy]
  have f2 : ∀ k, w.frozen? ⟨g, k, none⟩ = false := fun k => by simp [World.frozen?, hg]
  have s1 : w.shape? gy = some (ty, cy.size) := by simp [World.shape?, hy]
  have s2 : w.shape? g = some (te, cur.size) := by simp [World.shape?, hg]
  have hk := run_bind_of (P := Tryd.prog) (w := w) (w' := w) (v := .slice 58) (x := underlying 53) (m := Extern.SlicesOverlaps.overlaps #[53, 53] rs #[.slice (some ⟨gy, o, none⟩) n c, .slice (some ⟨g, o', none⟩) n' c']) rfl (by first | exact run_underlying Tryd.underlying53 | simp [run_underlying Tryd.underlying53])
  rw [hk]
  by_cases h0 : n = 0 ∨ n' = 0 ∨ i.size = 0
  · simp [sizeOf, typeInfo, hi, h0]
  · simp [sizeOf, typeInfo, hi, h0, hne, f1, f2, s1, s2, noView, viewAt, mayBeOne, stringish]
set_option maxHeartbeats 4000000 in
set_option maxRecDepth 20000 in
theorem ins_room {w : World} {base g cap : Nat} {xs : List Ent} (i : Nat) (hi : i < xs.length) (hcap : xs.length < cap) (hown : w.ownsRow base 58 2 (.slice (some ⟨g, 0, none⟩) xs.length cap) xs.length (xs.flatMap entC)) (hbase : base ≤ w.heap.size) (hn : xs.length ≤ 1048576) (gy : Nat) (y : Ent) (cy : Array Value) (ty : TypeId) (hcy : w.heap[gy]? = some (.cells cy ty (0, 0))) (hne : gy ≠ g) (h0 : w.cell? ⟨gy, 0, none⟩ = some (.string y.f0)) (h1 : w.cell? ⟨gy, 1, none⟩ = some (.int .i64 y.f1)) :
    Calls Tryd.prog 22 #[.slice (some ⟨g, 0, none⟩) xs.length cap, .int .i64 (i : Nat), .slice (some ⟨gy, 0, none⟩) 1 1] w (InsPost base (.slice (some ⟨g, 0, none⟩) xs.length cap) (xs.take i ++ y :: xs.drop i) w) := by
  obtain ⟨cur, hgb, hgh, hgc, hgm, hgs, hgt, hcell⟩ := own_cell hown
  obtain ⟨hx9, hx8⟩ := ent_sub hcell i (by omega)
  have hgl := lt_of_heap hgh
  obtain ⟨n, hnn⟩ : ∃ n, xs.length = n := ⟨_, rfl⟩
  rw [hnn]
  rw [hnn] at hi hn hcap hgc hgt
  have HN := hid hnn
  have H8 := hid (show ∀ j v, ((xs.drop i).flatMap entC)[j]? = some v → w.cell? ((⟨g, i * 2, none⟩ : Addr).add j) = some v from fun j v hv => by rw [Addr.add_lit]; exact hx8 j v hv)
  have S0 := hid (src_one h0 h1)
  have HY := hid hcy
  have HG := hid hgh
  have HNE := hid hne
  have HT := hid hgt
  have HM := hid hgm
  have HS := hid hgs
  clear hown hnn hgt hcell hx9 hx8 hgs hgm hgh h0 h1 hcy hne
  have p0 : (0 : Int) ≤ (i : Int) := by omega
  have p1 : (i : Int) ≤ (n : Int) := by omega
  have p2 : ((i : Int) == (n : Int)) = false := by simp; omega
  have p3 : ¬ ((cap : Int) < (n : Int) + 1) := by omega
  have q0 : (0 : Int) ≤ (n : Int) := by omega
  have q1 : (0 : Int) ≤ (n : Int) + 1 := by omega
  have q2 : (n : Int) + 1 ≤ (cap : Int) := by omega
  have q3 : ((n : Int) + 1).toNat = n + 1 := by omega
  have q4 : IntKind.i64.wrap ((n : Int) + 1) = (n : Int) + 1 := by rw [IntKind.wrap_i64]; omega
  have r0 : (0 : Int) ≤ (i : Int) + 1 := by omega
  have r1 : (i : Int) + 1 ≤ (n : Int) + 1 := by omega
  have r2 : IntKind.i64.wrap ((i : Int) + 1) = (i : Int) + 1 := by rw [IntKind.wrap_i64]; omega
  have r3 : ((i : Int) + 1).toNat = i + 1 := by omega
  have r4 : ¬ cap = i + 1 := by omega
  have r5 : ¬ cap = i := by omega
  have r6 : (i : Int) ≤ (n : Int) + 1 := by omega
  go_enter Tryd.func22, Tryd.ntmps22
  go_wp2_with (fail)
  rw [run_callFunc_extern Tryd.func31 (by kernel_rfl) (by kernel_rfl) (by kernel_rfl) (e := Extern.SlicesOverlaps.overlaps #[53, 53] #[4]) (by kernel_rfl)]
  rw [run_overlaps w g gy 0 ((i + 1) * 2) 1 (n - i) 1 (cap - (i + 1)) cy cur ty 58 HY.out HG.out HNE.out]
  simp only [Result.andThen]
  rw [Oper.upon_value]
  go_wp2_with (fail)
  have HG5 : Hid (w.drew.heap[g]? = some (.cells cur 58 (0, 0))) := hid HG.out
  have HR5 : Hid (∀ j v, ((xs.drop i).flatMap entC)[j]? = some v → w.drew.cell? ((⟨g, i * 2, none⟩ : Addr).add j) = some v) := hid H8.out
  have HN5 : Hid ((xs.drop i).length = Nat.min (n + 1 - i) (n - i)) := hid (by rw [List.length_drop, HN.out]; exact (Nat.min_eq_right (by omega)).symm)
  have HC5 : Hid ((i + 1) * 2 + (xs.drop i).length * 2 ≤ cur.size) := hid (by rw [List.length_drop, HN.out, HS.out]; omega)
  go_region_law (refine step_copy_e rfl (.tmp 73) (.tmp 76) rfl g ((i + 1) * 2) (n - i) (cap - (i + 1)) ⟨g, i * 2, none⟩ (n + 1 - i) (cap - i) ?hs ?hx cur (xs.drop i) HG5.out HN5.out HR5.out HC5.out ?h5; (case hs => (go_simp; done)); (case hx => (go_simp; done)); intro w3 cur2 hb hs hw3; have HB2 := hid hb; have HS2 := hid hs; have HW2 := hid hw3; clear hb hs hw3)
  have hm2 : Mod (fun k => k = g) w w3 := HW2.out ▸ (Mod.refl _ w).drew.setRow g cur2 (.inl rfl)
  have HM2 := hid hm2
  have HY2 := hid (show ∀ j v, ([y].flatMap entC)[j]? = some v → w3.cell? ((⟨gy, 0, none⟩ : Addr).add j) = some v from fun j v hv => by rw [Addr.add_lit]; exact hm2.cell (S0.out j v hv) HNE.out)
  have HC2 := hid (show i * 2 + [y].length * 2 ≤ cur2.size from by rw [← Array.length_toList, HS2.out]; simp only [List.length_append, List.length_take, List.length_drop, entC_len, Array.length_toList, HS.out, HN.out]; simp; omega)
  clear hm2
  go_wp2_with (refine wpList_copy_e rfl (.tmp 80) (.tmp 81) rfl g (i * 2) (n + 1 - i) (cap - i) ⟨gy, 0, none⟩ 1 1 rfl rfl cur2 [y] HB2.out (by show 1 = min 1 (n + 1 - i); omega) HY2.out HC2.out ?_; intro w4 cur3 hb hs hw4; have HB6 := hid hb; have HS6 := hid hs; have HW6 := hid hw4; clear hb hs hw4)
  have e1 : cur2.toList = cur.toList.take ((i + 1) * 2) ++ (xs.drop i).flatMap entC ++ cur.toList.drop ((i + 1) * 2 + (n - i) * 2) := by rw [HS2.out, List.length_drop, HN.out]
  have e2 : cur3.toList = cur2.toList.take (i * 2) ++ entC y ++ cur2.toList.drop (i * 2 + 2) := by rw [HS6.out]; simp
  obtain ⟨f1, f2⟩ := ins_cells_room (y := y) HN.out hi HT.out (by rw [Array.length_toList, HS.out]; omega) e1 e2
  have F1 := hid f1
  have F2 := hid f2
  clear e1 e2 f1 f2
  go_ret
  have hlen : (xs.take i ++ y :: xs.drop i).length = n + 1 := by
    have := HN.out
    simp only [List.length_append, List.length_take, List.length_cons, List.length_drop]
    omega
  have hm4 : Mod (fun k => k = g) w w4 := HW6.out ▸ HM2.out.setRow g cur3 (.inl rfl)
  refine ⟨_, rfl, ?_, hm4.mono (fun k _ e => by rw [e]; rfl), .inl rfl⟩
  rw [hlen]
  refine ⟨by rw [entC_len, hlen], .inr ⟨g, cap, cur3, rfl, hgb, HB6.out, by omega, HM.out, ?_, F1.out⟩⟩
  have := F2.out
  rw [Array.length_toList, Array.length_toList, HS.out] at this
  exact this
/-- Any insertion. -/
theorem ins_any {w : World} {base : Nat} {v : Value} {xs : List Ent} (i : Nat) (hi : i ≤ xs.length) (hown : w.ownsRow base 58 2 v xs.length (xs.flatMap entC)) (hbase : base ≤ w.heap.size) (hn : xs.length ≤ 1048576) (gy : Nat) (y : Ent) (cy : Array Value) (ty : TypeId) (hcy : w.heap[gy]? = some (.cells cy ty (0, 0))) (hne : ∀ k, v.ownBlock = some k → k ≠ gy) (h0 : w.cell? ⟨gy, 0, none⟩ = some (.string y.f0)) (h1 : w.cell? ⟨gy, 1, none⟩ = some (.int .i64 y.f1)) :
    Calls Tryd.prog 22 #[v, .int .i64 (i : Nat), .slice (some ⟨gy, 0, none⟩) 1 1] w (InsPost base v (xs.take i ++ y :: xs.drop i) w) := by
  rcases Nat.lt_or_ge i xs.length with h | h
  · rcases hown.2 with ⟨_, e⟩ | ⟨g, cap, cur, rfl, hg, hh, hc, hm, hs, ht⟩
    · omega
    · rcases Nat.lt_or_ge xs.length cap with h2 | h2
      · exact ins_room i h h2 hown hbase hn gy y cy ty hcy (fun e => hne g rfl e.symm) h0 h1
      · obtain rfl : cap = xs.length := by omega
        exact ins_grow i h hown hbase hn gy y h0 h1
  · obtain rfl : i = xs.length := by omega
    rw [List.take_length, List.drop_length]
    exact ins_end hown hbase hn gy y h0 h1
end Go.Proofs.YtcjmlfmpajcjjaaDoor

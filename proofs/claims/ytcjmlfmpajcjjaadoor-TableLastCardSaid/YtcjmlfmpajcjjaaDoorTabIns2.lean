/-
  slices.Insert of a row in the midst, where the block is full.
-/
import Derived.Test.YtcjmlfmpajcjjaaDoorTabIns1
namespace Go.Proofs.YtcjmlfmpajcjjaaDoor
open Go.RowKit
open Go.Proofs.YtcjmlfmpajcjjaaDoorW.PrintWords (Kd rdOf)
open Go.Proofs.YtcjmlfmpajcjjaaDoor.PTableLast
set_option linter.unusedVariables false
theorem src_one {w : World} {gy : Nat} {y : Ent} (h0 : w.cell? ⟨gy, 0, none⟩ = some (.string y.f0)) (h1 : w.cell? ⟨gy, 1, none⟩ = some (.int .i64 y.f1)) : ∀ j v, ([y].flatMap entC)[j]? = some v → w.cell? ⟨gy, 0 + j, none⟩ = some v := by
  intro j v hv
  rw [Nat.zero_add]
  match j, hv with
  | 0, hv => simp [entC] at hv; rw [h0, hv]
  | 1, hv => simp [entC] at hv; rw [h1, hv]
/-- The cells of an own row. -/
theorem own_cell {w : World} {base g n c : Nat} {cs : List Value} (h : w.ownsRow base 58 2 (.slice (some ⟨g, 0, none⟩) n c) n cs) : ∃ cur, base ≤ g ∧ w.heap[g]? = some (.cells cur 58 (0, 0)) ∧ n ≤ c ∧ c ≤ maxLen ∧ cur.size = c * 2 ∧ cur.toList.take (n * 2) = cs ∧ ∀ j v, cs[j]? = some v → w.cell? ⟨g, j, none⟩ = some v := by
  rcases h.2 with ⟨e, _⟩ | ⟨g', cap, cur, e, hg, hh, hn, hm, hs, ht⟩
  · cases e
  · cases e
    refine ⟨cur, hg, hh, hn, hm, hs, ht, fun j v hv => ?_⟩
    have hj : j < n * 2 := by have := (List.getElem?_eq_some_iff.1 hv).1; rw [h.1] at this; exact this
    rw [← ht, List.getElem?_take, if_pos hj] at hv
    simp only [World.cell?, hh]
    simpa using hv
theorem ent_sub {w : World} {g : Nat} {xs : List Ent} (h : ∀ j v, (xs.flatMap entC)[j]? = some v → w.cell? ⟨g, j, none⟩ = some v) (i : Nat) (hi : i ≤ xs.length) : (∀ j v, ((xs.take i).flatMap entC)[j]? = some v → w.cell? ⟨g, j, none⟩ = some v) ∧ (∀ j v, ((xs.drop i).flatMap entC)[j]? = some v → w.cell? ⟨g, i * 2 + j, none⟩ = some v) := by
  have e : xs.flatMap entC = (xs.take i).flatMap entC ++ (xs.drop i).flatMap entC := by rw [← List.flatMap_append, List.take_append_drop]
  have hl : ((xs.take i).flatMap entC).length = i * 2 := by rw [entC_len, List.length_take, Nat.min_eq_left hi]
  refine ⟨fun j v hv => h j v ?_, fun j v hv => h _ v ?_⟩
  · rw [e, List.getElem?_append_left (List.getElem?_eq_some_iff.1 hv).1]; exact hv
  · rw [e, List.getElem?_append_right (by omega), hl, show i * 2 + j - i * 2 = j by omega]; exact hv
set_option maxHeartbeats 4000000 in
set_option maxRecDepth 20000 in
theorem ins_grow {w : World} {base g : Nat} {xs : List Ent} (i : Nat) (hi : i < xs.length) (hown : w.ownsRow base 58 2 (.slice (some ⟨g, 0, none⟩) xs.length xs.length) xs.length (xs.flatMap entC)) (hbase : base ≤ w.heap.size) (hn : xs.length ≤ 1048576) (gy : Nat) (y : Ent) (h0 : w.cell? ⟨gy, 0, none⟩ = some (.string y.f0)) (h1 : w.cell? ⟨gy, 1, none⟩ = some (.int .i64 y.f1)) :
    Calls Tryd.prog 22 #[.slice (some ⟨g, 0, none⟩) xs.length xs.length, .int .i64 (i : Nat), .slice (some ⟨gy, 0, none⟩) 1 1] w (InsPost base (.slice (some ⟨g, 0, none⟩) xs.length xs.length) (xs.take i ++ y :: xs.drop i) w) := by
  obtain ⟨cur, hgb, hgh, hgc, hgm, hgs, hgt, hcell⟩ := own_cell hown
  obtain ⟨hx9, hx8⟩ := ent_sub hcell i (by omega)
  have hgl := lt_of_heap hgh
  obtain ⟨n, hnn⟩ : ∃ n, xs.length = n := ⟨_, rfl⟩
  rw [hnn]
  rw [hnn] at hi hn
  have HN := hid hnn
  have H9 := hid hx9
  have H8 := hid hx8
  have S0 := hid (src_one h0 h1)
  have hy := hid (lt_of_cell h0)
  clear hown hnn hgt hcell hx9 hx8 hgs hgc hgm hgh h0 h1
  have p0 : (0 : Int) ≤ (i : Int) := by omega
  have p1 : (i : Int) ≤ (n : Int) := by omega
  have p2 : ((i : Int) == (n : Int)) = false := by simp; omega
  have p3 : ((n : Int) < (n : Int) + 1) := by omega
  have p4 : ((n : Int) + 1 - (i : Int)) = ((n + 1 - i : Nat) : Int) := by omega
  have q0 : (0 : Int) ≤ (n : Int) := by omega
  go_enter Tryd.func22, Tryd.ntmps22
  go_wp2_with (first
    | (at_builtin; obtain ⟨w2, cur1, c, hr, hb, hs, hc, hm, ht, hbe, hz⟩ := grow_ents w g i (n + 1 - i) n (xs.take i) (by simp [HN.out]; omega) H9.out (by omega) (by omega) (by omega) 53
       rw [show i + (n + 1 - i) = n + 1 by omega] at hr hc
       refine wpList_builtin rfl _ (exec_append _ _ (.tmp 34) (.tmp 39) 53 3 rfl _ hr) ?_
       have HB1 := hid hb
       have HS1 := hid hs
       have HT1 := hid ht
       have HW1 := hid hbe
       have HM1 := hid hm
       have HZ1 := hid hz
       clear hr hb hs ht hbe hm hz)
    | (refine wpList_copy_e rfl (.tmp 43) (.tmp 44) rfl w.heap.size (i * 2) (n + 1 - i) (c - i) ⟨gy, 0, none⟩ 1 1 rfl rfl cur1 [y] HB1.out (by show 1 = min 1 (n + 1 - i); omega) (below_src HW1.out hy.out S0.out) (by have := HS1.out; show i * 2 + 1 * 2 ≤ cur1.size; omega) ?_
       intro w3 cur2 hb hs hw3
       have HB2 := hid hb
       have HS2 := hid hs
       have hw2 : Below w.heap.size w w3 := hw3 ▸ below_setRow HW1.out _ (Nat.le_refl _) _
       have HW2 := hid hw2
       have HR2 := hid (below_src hw2 hgl H8.out)
       have HC2 := hid (show (i + 1) * 2 + (n - i) * 2 ≤ cur2.size from by rw [← Array.length_toList, HS2.out]; simp only [List.length_append, List.length_take, List.length_drop, entC_len, Array.length_toList, HS1.out]; simp; omega)
       clear hb hs hw3 hw2))
  have r0 : (0 : Int) ≤ (i : Int) + 1 := by omega
  have r1 : (i : Int) + 1 ≤ (n : Int) + 1 := by omega
  have r2 : IntKind.i64.wrap ((i : Int) + 1) = (i : Int) + 1 := by rw [IntKind.wrap_i64]; omega
  have r3 : ((i : Int) + 1).toNat = i + 1 := by omega
  have r4 : ¬ c = i + 1 := by omega
  have r5 : (n = i) = False := eq_false (by omega)
  have HB5 : Hid (w3.drew.heap[w.heap.size]? = some (.cells cur2 58 (0, 0))) := hid HB2.out
  have HW5 := hid HW2.out.drew
  have HR5 := hid (below_src HW5.out hgl H8.out)
  have HN5 : Hid ((xs.drop i).length = Nat.min (n - i) (n - i)) := hid (by rw [List.length_drop, HN.out]; exact (Nat.min_self _).symm)
  have HC5 : Hid ((i + 1) * 2 + (xs.drop i).length * 2 ≤ cur2.size) := hid (by rw [List.length_drop, HN.out]; exact HC2.out)
  go_region_law (refine step_copy_e rfl (.tmp 50) (.tmp 53) rfl w.heap.size ((i + 1) * 2) (n - i) (c - (i + 1)) ⟨g, i * 2, none⟩ (n - i) (n - i) ?hs ?hx cur2 (xs.drop i) HB5.out HN5.out HR5.out HC5.out ?h5; (case hs => (go_simp; done)); (case hx => (go_simp; done)); intro w4 cur3 hb hs hw4; have HB6 := hid hb; have HS6 := hid hs; have HW6 := hid hw4; clear hb hs hw4)
  have e1 : cur2.toList = cur1.toList.take (i * 2) ++ entC y ++ cur1.toList.drop (i * 2 + 2) := by rw [HS2.out]; simp
  have e2 : cur3.toList = cur2.toList.take ((i + 1) * 2) ++ (xs.drop i).flatMap entC ++ cur2.toList.drop ((i + 1) * 2 + (n - i) * 2) := by rw [HS6.out, List.length_drop, HN.out]
  obtain ⟨f1, f2⟩ := ins_cells_up (y := y) HN.out hi HT1.out (by rw [Array.length_toList, HS1.out]; omega) e1 e2
  have F1 := hid f1
  have F2 := hid f2
  clear e1 e2 f1 f2
  go_wp2
  go_ret
  have hlen : (xs.take i ++ y :: xs.drop i).length = n + 1 := by
    have := HN.out
    simp only [List.length_append, List.length_take, List.length_cons, List.length_drop]
    omega
  have hb4 : Below w.heap.size w w4 := HW6.out ▸ below_setRow HW5.out _ (Nat.le_refl _) _
  refine ⟨_, rfl, ?_, Mod.new hb4 _, .inr ⟨_, rfl, Nat.le_refl _⟩⟩
  rw [hlen]
  refine ⟨by rw [entC_len, hlen], .inr ⟨w.heap.size, c, cur3, rfl, hbase, HB6.out, hc, HM1.out, ?_, F1.out⟩⟩
  have := F2.out
  rw [Array.length_toList, Array.length_toList, HS1.out] at this
  exact this
end Go.Proofs.YtcjmlfmpajcjjaaDoor

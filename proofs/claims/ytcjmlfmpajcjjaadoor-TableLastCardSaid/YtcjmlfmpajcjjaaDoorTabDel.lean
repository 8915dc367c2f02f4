/-
  slices.Delete of one row; slices.Clone.
-/
import Derived.Test.YtcjmlfmpajcjjaaDoorTabIns3
import Derived.Deep.DeepAppendRoom
namespace Go.Proofs.YtcjmlfmpajcjjaaDoor
open Go.RowKit
open Go.Proofs.YtcjmlfmpajcjjaaDoorW.PrintWords (Kd rdOf)
open Go.Proofs.YtcjmlfmpajcjjaaDoor.PTableLast
set_option linter.unusedVariables false
theorem exec_clear {P : Program} {w w' : World} (ρ : Operand → Value) (o : Oper) (s : Operand) (t : TypeId) (ho : o.op = .call { callee := .builtin .clear, args := #[s], argTypes := #[t] }) (v : Value)
    (hr : (Builtin.clear_ #[t] o.type #[ρ s]).run P w = .ok v w') : (execOp ρ o).run P w = .ok (.value v) w' := by
  unfold execOp
  simp only [ho, resolve, invoke, builtin, Sem.run_bind, Sem.run_pure, Result.andThen_ok, List.map_toArray, List.map_cons, List.map_nil, hr]
theorem run_clear_one (w : World) (g k c : Nat) (cur : Array Value) (hg : w.heap[g]? = some (.cells cur 58 (0, 0))) (hk : (k + 1) * 2 ≤ cur.size) (ty : TypeId) :
    ∃ w' cur', (Builtin.clear_ #[53] ty #[.slice (some ⟨g, k * 2, none⟩) 1 c]).run Tryd.prog w = .ok (.tuple #[]) w' ∧ w'.heap[g]? = some (.cells cur' 58 (0, 0)) ∧ cur'.size = cur.size ∧ cur'.toList.take (k * 2) = cur.toList.take (k * 2) ∧ w' = w.setRow g cur' := by
  obtain ⟨i, hi, hz, hsize, hby⟩ := info_parts einfoE
  have hzc : (Builtin.zeroCells (Value.agg #[.string ⟨#[]⟩, .int .i64 0]).cells 1).toList = [.string ⟨#[]⟩, .int .i64 0] := by kernel_rfl
  have hst := run_storeCells_at Tryd.prog g (k * 2) 58 [.string ⟨#[]⟩, .int .i64 0] 0 cur w hg (by simp; omega) (by intro v hv; simp at hv; rcases hv with rfl | rfl <;> rfl)
  rw [Nat.add_zero] at hst
  refine ⟨_, (cur.toList.take (k * 2) ++ [Value.string ⟨#[]⟩, Value.int .i64 0] ++ cur.toList.drop (k * 2 + 2)).toArray, ?_, setRow_heap w g cur _ _ _ hg, ?_, ?_, rfl⟩
  · simp [Builtin.clear_, run_underlying Tryd.underlying53, zeroValue, typeInfo, hi, hz, hzc, hst]
  · simp; omega
  · rw [List.append_assoc, List.take_append_of_le_length (by simp; omega), List.take_take, Nat.min_self]
theorem step_append_spare {w : World} {ops : Array Oper} {o : Oper} {a : Act} {K : Act → World → Prop} {Q : Exit → Act → World → Prop} {E : Prop} (hgd : o.guard = none) (s x : Operand)
    (ho : o.op = .call { callee := .builtin .append, args := #[s, x], argTypes := #[53, 53] }) (base g n cap : Nat) (xs ys : List Ent) (sa : Addr) (m c : Nat)
    (hs : a.eval s = .slice (some ⟨g, 0, none⟩) n cap) (hx : a.eval x = .slice (some sa) m c) (hxl : xs.length = n) (hyl : ys.length = m) (hown : w.ownsRow base 58 2 (.slice (some ⟨g, 0, none⟩) n cap) n (xs.flatMap entC))
    (hsrc : ∀ j v, (ys.flatMap entC)[j]? = some v → w.cell? (sa.add j) = some v) (hroom : n + m ≤ cap)
    (h : ∀ w', w'.ownsRow base 58 2 (.slice (some ⟨g, 0, none⟩) (n + m) cap) (n + m) ((xs ++ ys).flatMap entC) → w.grownBy w' (some g) → K (a.put o.dst (.slice (some ⟨g, 0, none⟩) (n + m) cap)) w') : if Region.wanted o (yielded ops a.tmps) = true then Oper.wp Tryd.prog o a w K Q else E := by
  obtain ⟨i, hi, hz, hsize, hby⟩ := info_parts einfoE
  obtain ⟨w', hr, h1, h2⟩ := run_append_own_spare (P := Tryd.prog) w base 53 o.type 58 i 2 Tryd.underlying53 hi hsize g n cap (xs.flatMap entC) hown sa m c (ys.flatMap entC) (by rw [entC_len, hyl]) hsrc (eCells_one ys) hroom
  have hw : Region.wanted o (yielded ops a.tmps) = true := by simp [Region.wanted, hgd]
  rw [if_pos hw]
  unfold Oper.wp
  rw [exec_append a.eval o s x _ _ ho _ (by rw [hs, hx]; exact hr), Oper.upon_value]
  exact h w' (by rw [List.flatMap_append]; exact h1) h2
theorem wpList_clear_e {w : World} {ops : Array Oper} {rest : List Oper} {o : Oper} {a : Act} {Q : Exit → Act → World → Prop} (hgd : o.guard = none) (s : Operand)
    (ho : o.op = .call { callee := .builtin .clear, args := #[s], argTypes := #[53] }) (g k c : Nat) (hs : a.eval s = .slice (some ⟨g, k * 2, none⟩) 1 c) (cur : Array Value) (hg : w.heap[g]? = some (.cells cur 58 (0, 0))) (hk : (k + 1) * 2 ≤ cur.size)
    (h : ∀ w' cur', w'.heap[g]? = some (.cells cur' 58 (0, 0)) → cur'.size = cur.size → cur'.toList.take (k * 2) = cur.toList.take (k * 2) → w' = w.setRow g cur' → wpList Tryd.prog ops Q rest (a.put o.dst (.tuple #[])) w') : wpList Tryd.prog ops Q (o :: rest) a w := by
  obtain ⟨w', cur', hr, h1, h2, h3, h4⟩ := run_clear_one w g k c cur hg hk o.type
  exact wpList_builtin hgd _ (exec_clear a.eval o s _ ho _ (by rw [hs]; exact hr)) (h w' cur' h1 h2 h3 h4)
/-- What is left where a row goes. -/
def DelPost (base g cap : Nat) (ys : List Ent) (w : World) (e : Ending) (w' : World) : Prop := e = .returned (.slice (some ⟨g, 0, none⟩) ys.length cap) ∧ w'.ownsRow base 58 2 (.slice (some ⟨g, 0, none⟩) ys.length cap) ys.length (ys.flatMap entC) ∧ Mod (fun k => k = g) w w'
set_option maxHeartbeats 4000000 in
set_option maxRecDepth 20000 in
theorem del_mid {w : World} {base g cap : Nat} {xs : List Ent} (i : Nat) (hi : i < xs.length) (hcap : cap ≠ i + 1) (hown : w.ownsRow base 58 2 (.slice (some ⟨g, 0, none⟩) xs.length cap) xs.length (xs.flatMap entC)) (hn : xs.length ≤ 1048576) :
    Calls Tryd.prog 23 #[.slice (some ⟨g, 0, none⟩) xs.length cap, .int .i64 (i : Nat), .int .i64 ((i : Nat) + 1)] w (DelPost base g cap (xs.take i ++ xs.drop (i + 1)) w) := by
  obtain ⟨cur, hgb, hgh, hgc, hgm, hgs, hgt, hcell⟩ := own_cell hown
  obtain ⟨_, hx8⟩ := ent_sub hcell (i + 1) (by omega)
  have hgl := lt_of_heap hgh
  obtain ⟨n, hnn⟩ : ∃ n, xs.length = n := ⟨_, rfl⟩
  rw [hnn]
  rw [hnn] at hi hn hgc hgt
  have HN := hid hnn
  have H8 := hid (show ∀ j v, ((xs.drop (i + 1)).flatMap entC)[j]? = some v → w.cell? ((⟨g, (i + 1) * 2, none⟩ : Addr).add j) = some v from fun j v hv => by rw [Addr.add_lit]; exact hx8 j v hv)
  have HG := hid hgh
  have HT := hid hgt
  have HM := hid hgm
  have HS := hid hgs
  clear hown hnn hgt hcell hx8 hgs hgm hgh
  have p0 : (0 : Int) ≤ (i : Int) := by omega
  have p1 : (i : Int) ≤ (n : Int) := by omega
  have p2 : (i : Int) ≤ (i : Int) + 1 := by omega
  have p3 : (i : Int) + 1 ≤ (n : Int) := by omega
  have p4 : (n : Int) ≤ (cap : Int) := by omega
  have p5 : (i : Int) + 1 ≤ (cap : Int) := by omega
  have p6 : (i : Int) ≤ (cap : Int) := by omega
  have p7 : ((i : Int) == (i : Int) + 1) = false := by simp; omega
  have q0 : (0 : Int) ≤ (n : Int) := by omega
  have r0 : (0 : Int) ≤ (i : Int) + 1 := by omega
  have r3 : ((i : Int) + 1).toNat = i + 1 := by omega
  have r4 : ¬ cap = i + 1 := hcap
  have r5 : ¬ n = i := by omega
  go_enter Tryd.func23, Tryd.ntmps23
  go_wp2_with (fail)
  have HO5 : Hid (w.drew.ownsRow base 58 2 (.slice (some ⟨g, 0, none⟩) i cap) i ((xs.take i).flatMap entC)) := hid ⟨by rw [entC_len, List.length_take, HN.out, Nat.min_eq_left (by omega)], .inr ⟨g, cap, cur, rfl, hgb, HG.out, by omega, HM.out, HS.out, by
    have e := HT.out
    have e1 : xs.flatMap entC = (xs.take i).flatMap entC ++ (xs.drop i).flatMap entC := by rw [← List.flatMap_append, List.take_append_drop]
    have e3 : cur.toList.take (i * 2) = (cur.toList.take (n * 2)).take (i * 2) := by rw [List.take_take, Nat.min_eq_left (by omega)]
    have el : ((xs.take i).flatMap entC).length = i * 2 := by rw [entC_len, List.length_take, HN.out, Nat.min_eq_left (by omega)]
    rw [e3, e, e1, ← el, List.take_left']
    rfl⟩⟩
  have HR5 : Hid (∀ j v, ((xs.drop (i + 1)).flatMap entC)[j]? = some v → w.drew.cell? ((⟨g, (i + 1) * 2, none⟩ : Addr).add j) = some v) := hid H8.out
  have HX5 : Hid ((xs.take i).length = i) := hid (by rw [List.length_take, HN.out, Nat.min_eq_left (by omega)])
  have HY5 : Hid ((xs.drop (i + 1)).length = n - (i + 1)) := hid (by rw [List.length_drop, HN.out])
  have HC5 : Hid (i + (n - (i + 1)) ≤ cap) := hid (by omega)
  go_region_law (refine step_append_spare rfl (.tmp 22) (.tmp 25) rfl base g i cap (xs.take i) (xs.drop (i + 1)) ⟨g, (i + 1) * 2, none⟩ (n - (i + 1)) (cap - (i + 1)) ?hs ?hx HX5.out HY5.out HO5.out HR5.out HC5.out ?h5; (case hs => (go_simp; done)); (case hx => (go_simp; done)); intro w3 ho hgr; rw [show i + (n - (i + 1)) = n - 1 by omega] at ho ⊢; have HO6 := hid ho; have HG6 := hid hgr; clear ho hgr)
  obtain ⟨cur3, _, hgh3, _, _, hgs3, hgt3, _⟩ := own_cell HO6.out
  have HH3 := hid hgh3
  have HS3 := hid hgs3
  have HT3 := hid hgt3
  have HK3 : Hid ((n - 1 + 1) * 2 ≤ cur3.size) := hid (by rw [hgs3]; omega)
  clear hgh3 hgs3 hgt3
  have t0 : ((n - 1 : Nat) : Int) ≤ (n : Int) := by omega
  have t1 : n - (n - 1) = 1 := by omega
  have t2 : ¬ cap = n - 1 := by omega
  have t3 : (0 : Int) ≤ ((n - 1 : Nat) : Int) := by omega
  go_wp2_with (refine wpList_clear_e rfl (.tmp 31) rfl g (n - 1) (cap - (n - 1)) rfl cur3 HH3.out HK3.out ?_; intro w4 cur4 hb hs ht hw4; have HB6 := hid hb; have HS6 := hid hs; have HT6 := hid ht; have HW6 := hid hw4; clear hb hs ht hw4)
  go_ret
  have hlen : (xs.take i ++ xs.drop (i + 1)).length = n - 1 := by rw [List.length_append, HX5.out, HY5.out]; omega
  have hm4 : Mod (fun k => k = g) w w4 := HW6.out ▸ (Mod.grown (S := fun k => k = g) (Mod.refl _ w).drew HG6.out (fun k e => .inl (by simpa using e.symm))).setRow g cur4 (.inl rfl)
  unfold DelPost
  rw [hlen]
  refine ⟨rfl, ⟨by rw [entC_len, hlen], .inr ⟨g, cap, cur4, rfl, hgb, HB6.out, by omega, HM.out, ?_, ?_⟩⟩, hm4⟩
  · rw [HS6.out, HS3.out]
  · rw [HT6.out, HT3.out]
/-- The last row of a full block. -/
theorem del_last {w : World} {base g i : Nat} {xs : List Ent} (hi : xs.length = i + 1) (hown : w.ownsRow base 58 2 (.slice (some ⟨g, 0, none⟩) (i + 1) (i + 1)) (i + 1) (xs.flatMap entC)) (hn : i ≤ 1048576) :
    Calls Tryd.prog 23 #[.slice (some ⟨g, 0, none⟩) (i + 1) (i + 1), .int .i64 (i : Nat), .int .i64 ((i : Nat) + 1)] w (DelPost base g (i + 1) (xs.take i) w) := by
  obtain ⟨cur, hgb, hgh, hgc, hgm, hgs, hgt, hcell⟩ := own_cell hown
  have hgl := lt_of_heap hgh
  have HN := hid hi
  have HG := hid hgh
  have HT := hid hgt
  have HM := hid hgm
  have HS := hid hgs
  clear hown hi hgt hcell hgs hgm hgh
  have p0 : (0 : Int) ≤ (i : Int) := by omega
  have p1 : (i : Int) ≤ (i : Int) + 1 := by omega
  have p7 : ((i : Int) == (i : Int) + 1) = false := by simp; omega
  have r0 : (0 : Int) ≤ (i : Int) + 1 := by omega
  have r3 : ((i : Int) + 1).toNat = i + 1 := by omega
  have r5 : ¬ i + 1 = i := by omega
  go_enter Tryd.func23, Tryd.ntmps23
  go_wp2_with (fail)
  have hel : ((xs.take i).flatMap entC).length = i * 2 := by rw [entC_len, List.length_take, HN.out, Nat.min_eq_left (by omega)]
  have htk : cur.toList.take (i * 2) = (xs.take i).flatMap entC := by
    have e := HT.out
    have e1 : xs.flatMap entC = (xs.take i).flatMap entC ++ (xs.drop i).flatMap entC := by rw [← List.flatMap_append, List.take_append_drop]
    have e3 : cur.toList.take (i * 2) = (cur.toList.take ((i + 1) * 2)).take (i * 2) := by rw [List.take_take, Nat.min_eq_left (by omega)]
    rw [e3, e, e1, ← hel, List.take_left']
    rfl
  have HTK := hid htk
  have HO5 : Hid (w.drew.ownsRow base 58 2 (.slice (some ⟨g, 0, none⟩) i (i + 1)) i ((xs.take i).flatMap entC)) := hid ⟨hel, .inr ⟨g, i + 1, cur, rfl, hgb, HG.out, by omega, HM.out, HS.out, htk⟩⟩
  have HR5 : Hid (∀ j v, (([] : List Ent).flatMap entC)[j]? = some v → w.drew.cell? ((⟨g, 0, none⟩ : Addr).add j) = some v) := hid (fun j v hv => by simp at hv)
  have HX5 : Hid ((xs.take i).length = i) := hid (by rw [List.length_take, HN.out, Nat.min_eq_left (by omega)])
  have HC5 : Hid (i + 0 ≤ i + 1) := hid (by omega)
  have HEL := hid hel
  clear htk hel
  go_region_law (refine step_append_spare rfl (.tmp 22) (.tmp 25) rfl base g i (i + 1) (xs.take i) [] ⟨g, 0, none⟩ 0 0 ?hs ?hx HX5.out rfl HO5.out HR5.out HC5.out ?h5; (case hs => (go_simp; done)); (case hx => (go_simp; done)); intro w3 ho hgr; rw [Nat.add_zero, List.append_nil] at ho; rw [Nat.add_zero]; have HO6 := hid ho; have HG6 := hid hgr; clear ho hgr)
  obtain ⟨cur3, _, hgh3, _, _, hgs3, hgt3, _⟩ := own_cell HO6.out
  have HH3 := hid hgh3
  have HS3 := hid hgs3
  have HT3 := hid hgt3
  have HK3 : Hid ((i + 1) * 2 ≤ cur3.size) := hid (by rw [hgs3]; omega)
  clear hgh3 hgs3 hgt3
  have t1 : i + 1 - i = 1 := by omega
  go_wp2_with (refine wpList_clear_e rfl (.tmp 31) rfl g i 1 rfl cur3 HH3.out HK3.out ?_; intro w4 cur4 hb hs ht hw4; have HB6 := hid hb; have HS6 := hid hs; have HT6 := hid ht; have HW6 := hid hw4; clear hb hs ht hw4)
  go_ret
  have hm4 : Mod (fun k => k = g) w w4 := HW6.out ▸ (Mod.grown (S := fun k => k = g) (Mod.refl _ w).drew HG6.out (fun k e => .inl (by simpa using e.symm))).setRow g cur4 (.inl rfl)
  unfold DelPost
  rw [HX5.out]
  refine ⟨rfl, ⟨HEL.out, .inr ⟨g, i + 1, cur4, rfl, hgb, HB6.out, by omega, HM.out, ?_, ?_⟩⟩, hm4⟩
  · rw [HS6.out, HS3.out]
  · rw [HT6.out, HT3.out]
theorem del_any {w : World} {base g cap : Nat} {xs : List Ent} (i : Nat) (hi : i < xs.length) (hown : w.ownsRow base 58 2 (.slice (some ⟨g, 0, none⟩) xs.length cap) xs.length (xs.flatMap entC)) (hn : xs.length ≤ 1048576) :
    Calls Tryd.prog 23 #[.slice (some ⟨g, 0, none⟩) xs.length cap, .int .i64 (i : Nat), .int .i64 ((i : Nat) + 1)] w (DelPost base g cap (xs.take i ++ xs.drop (i + 1)) w) := by
  by_cases h : cap = i + 1
  · subst h
    obtain ⟨_, _, _, hc, _⟩ := own_cell hown
    have hl : xs.length = i + 1 := by omega
    have e : xs.drop (i + 1) = [] := List.drop_of_length_le (by omega)
    rw [e, List.append_nil]
    rw [hl] at hown ⊢
    exact del_last hl hown (by omega)
  · exact del_mid i hi h hown hn
end Go.Proofs.YtcjmlfmpajcjjaaDoor

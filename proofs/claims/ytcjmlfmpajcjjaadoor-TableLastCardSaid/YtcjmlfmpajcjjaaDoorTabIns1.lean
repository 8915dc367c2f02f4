/-
  Rows copied within a row, rows pushed up, rows let go: what the cells are.
-/
import Derived.Test.YtcjmlfmpajcjjaaDoorTabIns
namespace Go.Proofs.YtcjmlfmpajcjjaaDoor
open Go.RowKit
open Go.Proofs.YtcjmlfmpajcjjaaDoorW.PrintWords (Kd rdOf)
open Go.Proofs.YtcjmlfmpajcjjaaDoor.PTableLast
set_option linter.unusedVariables false
theorem Mod.setRow {S : Nat → Prop} {a b : World} (h : Mod S a b) (g : Nat) (cs : Array Value) (hp : S g ∨ a.heap.size ≤ g) : Mod S a (b.setRow g cs) :=
  ⟨h.os, h.tape, h.output, by have := h.size; simp [World.setRow]; exact this, fun k hk hn => by
    have hne : g ≠ k := fun e => by subst e; rcases hp with hp | hp; exact hn hp; omega
    have : (b.setRow g cs).heap[k]? = b.heap[k]? := by simp [World.setRow, Array.getElem?_modify, hne]
    rw [this]; exact h.block k hk hn⟩
theorem below_setRow {B : Nat} {a b : World} (h : Below B a b) (g : Nat) (hg : B ≤ g) (cs : Array Value) : Below B a (b.setRow g cs) :=
  ⟨h.os, h.tape, h.output, by have := h.size; simp [World.setRow]; exact this, fun k hk => by
    have hne : g ≠ k := by omega
    have : (b.setRow g cs).heap[k]? = b.heap[k]? := by simp [World.setRow, Array.getElem?_modify, hne]
    rw [this]; exact h.block k hk⟩
theorem below_src {B : Nat} {w w' : World} (h : Below B w w') {g o : Nat} (hg : g < B) {cs : List Value} (hs : ∀ j v, cs[j]? = some v → w.cell? ⟨g, o + j, none⟩ = some v) : ∀ j v, cs[j]? = some v → w'.cell? ((⟨g, o, none⟩ : Addr).add j) = some v := fun j v hv => by
  rw [Addr.add_lit]
  exact (h.cell (p := ⟨g, o + j, none⟩) hg).trans (hs j v hv)
theorem eCells_one (xs : List Ent) : ∀ v ∈ xs.flatMap entC, v.oneCell' = true := by
  intro v hv
  rw [List.mem_flatMap] at hv
  obtain ⟨x, _, hx⟩ := hv
  simp [entC] at hx
  rcases hx with rfl | rfl <;> rfl
/-- copy of rows into a row's block. -/
theorem copy_ents (w : World) (g o dLen dCap : Nat) (a : Addr) (sLen sCap : Nat) (cur : Array Value) (ys : List Ent) (hg : w.heap[g]? = some (.cells cur 58 (0, 0))) (hn : ys.length = Nat.min sLen dLen)
    (hsrc : ∀ j v, (ys.flatMap entC)[j]? = some v → w.cell? (a.add j) = some v) (hfit : o + ys.length * 2 ≤ cur.size) (ty : TypeId) :
    ∃ w' cur', (Builtin.copy_ #[53, 53] ty #[.slice (some ⟨g, o, none⟩) dLen dCap, .slice (some a) sLen sCap]).run Tryd.prog w = .ok (goInt ys.length) w' ∧
      w'.heap[g]? = some (.cells cur' 58 (0, 0)) ∧ cur'.toList = cur.toList.take o ++ ys.flatMap entC ++ cur.toList.drop (o + ys.length * 2) ∧ w' = w.setRow g cur' := by
  refine ⟨_, _, run_copy_row_s (P := Tryd.prog) w _ _ ty 58 g o dLen dCap 2 ys.length a sLen sCap cur 58 (ys.flatMap entC) Tryd.underlying53 (by
    obtain ⟨i, hi, hz, hsize, hby⟩ := info_parts einfoE
    rw [hi]; simp [hsize]) hg hn (entC_len ys) hsrc (by rw [entC_len]; exact hfit) (eCells_one ys), setRow_heap _ _ _ _ _ _ hg, ?_, rfl⟩
  rw [entC_len]
/-- copy as an operation. -/
theorem oper_copy_e {w : World} {o : Oper} {a : Act} (s x : Operand) (ho : o.op = .call { callee := .builtin .copy, args := #[s, x], argTypes := #[53, 53] })
    (g o' dLen dCap : Nat) (sa : Addr) (sLen sCap : Nat) (hs : a.eval s = .slice (some ⟨g, o', none⟩) dLen dCap) (hx : a.eval x = .slice (some sa) sLen sCap) (cur : Array Value) (ys : List Ent) (hg : w.heap[g]? = some (.cells cur 58 (0, 0))) (hn : ys.length = Nat.min sLen dLen)
    (hsrc : ∀ j v, (ys.flatMap entC)[j]? = some v → w.cell? (sa.add j) = some v) (hfit : o' + ys.length * 2 ≤ cur.size) :
    ∃ w' cur', (execOp a.eval o).run Tryd.prog w = .ok (.value (goInt ys.length)) w' ∧ w'.heap[g]? = some (.cells cur' 58 (0, 0)) ∧ cur'.toList = cur.toList.take o' ++ ys.flatMap entC ++ cur.toList.drop (o' + ys.length * 2) ∧ w' = w.setRow g cur' := by
  obtain ⟨w', cur', hr, r⟩ := copy_ents w g o' dLen dCap sa sLen sCap cur ys hg hn hsrc hfit o.type
  exact ⟨w', cur', exec_copy a.eval o s x _ _ ho _ (by rw [hs, hx]; exact hr), r⟩
theorem wpList_copy_e {w : World} {ops : Array Oper} {rest : List Oper} {o : Oper} {a : Act} {Q : Exit → Act → World → Prop} (hgd : o.guard = none) (s x : Operand)
    (ho : o.op = .call { callee := .builtin .copy, args := #[s, x], argTypes := #[53, 53] })
    (g o' dLen dCap : Nat) (sa : Addr) (sLen sCap : Nat) (hs : a.eval s = .slice (some ⟨g, o', none⟩) dLen dCap) (hx : a.eval x = .slice (some sa) sLen sCap) (cur : Array Value) (ys : List Ent) (hg : w.heap[g]? = some (.cells cur 58 (0, 0))) (hn : ys.length = Nat.min sLen dLen)
    (hsrc : ∀ j v, (ys.flatMap entC)[j]? = some v → w.cell? (sa.add j) = some v) (hfit : o' + ys.length * 2 ≤ cur.size)
    (h : ∀ w' cur', w'.heap[g]? = some (.cells cur' 58 (0, 0)) → cur'.toList = cur.toList.take o' ++ ys.flatMap entC ++ cur.toList.drop (o' + ys.length * 2) → w' = w.setRow g cur' → wpList Tryd.prog ops Q rest (a.put o.dst (goInt ys.length)) w') : wpList Tryd.prog ops Q (o :: rest) a w := by
  obtain ⟨w', cur', hr, h1, h2, h3⟩ := oper_copy_e s x ho g o' dLen dCap sa sLen sCap hs hx cur ys hg hn hsrc hfit
  exact wpList_builtin hgd _ hr (h w' cur' h1 h2 h3)
theorem step_copy_e {w : World} {ops : Array Oper} {o : Oper} {a : Act} {K : Act → World → Prop} {Q : Exit → Act → World → Prop} {E : Prop} (hgd : o.guard = none) (s x : Operand)
    (ho : o.op = .call { callee := .builtin .copy, args := #[s, x], argTypes := #[53, 53] })
    (g o' dLen dCap : Nat) (sa : Addr) (sLen sCap : Nat) (hs : a.eval s = .slice (some ⟨g, o', none⟩) dLen dCap) (hx : a.eval x = .slice (some sa) sLen sCap) (cur : Array Value) (ys : List Ent) (hg : w.heap[g]? = some (.cells cur 58 (0, 0))) (hn : ys.length = Nat.min sLen dLen)
    (hsrc : ∀ j v, (ys.flatMap entC)[j]? = some v → w.cell? (sa.add j) = some v) (hfit : o' + ys.length * 2 ≤ cur.size)
    (h : ∀ w' cur', w'.heap[g]? = some (.cells cur' 58 (0, 0)) → cur'.toList = cur.toList.take o' ++ ys.flatMap entC ++ cur.toList.drop (o' + ys.length * 2) → w' = w.setRow g cur' → K (a.put o.dst (goInt ys.length)) w') : if Region.wanted o (yielded ops a.tmps) = true then Oper.wp Tryd.prog o a w K Q else E := by
  obtain ⟨w', cur', hr, h1, h2, h3⟩ := oper_copy_e s x ho g o' dLen dCap sa sLen sCap hs hx cur ys hg hn hsrc hfit
  have hw : Region.wanted o (yielded ops a.tmps) = true := by simp [Region.wanted, hgd]
  rw [if_pos hw]
  unfold Oper.wp
  rw [hr, Oper.upon_value]
  exact h w' cur' h1 h2 h3
/-- append(s[:i], make(.., m)...) into a new block. -/
theorem grow_ents (w : World) (g i m cap : Nat) (xs : List Ent) (hi : xs.length = i) (hx : ∀ j v, (xs.flatMap entC)[j]? = some v → w.cell? ⟨g, j, none⟩ = some v) (hm : 0 < m) (hcap : cap < i + m) (hb : i + m ≤ 1099511627776) (ty : TypeId) :
    ∃ w' cur' c, (Builtin.append_ #[53, 3] ty #[.slice (some ⟨g, 0, none⟩) i cap, .int .i64 (m : Nat)]).run Tryd.prog w = .ok (.slice (some ⟨w.heap.size, 0, none⟩) (i + m) c) w' ∧
      w'.heap[w.heap.size]? = some (.cells cur' 58 (0, 0)) ∧ cur'.size = c * 2 ∧ i + m ≤ c ∧ c ≤ maxLen ∧ cur'.toList.take (i * 2) = xs.flatMap entC ∧ Below w.heap.size w w' ∧ w'.heap.size = w.heap.size + 1 := by
  obtain ⟨t, hi9, hz, hsize, hby⟩ := info_parts einfoE
  have hzc : (Value.agg #[.string ⟨#[]⟩, .int .i64 0]).cells = #[.string ⟨#[]⟩, .int .i64 0] := by kernel_rfl
  have h := run_append_zeros_grow (P := Tryd.prog) w 53 3 ty 58 t (.agg #[.string ⟨#[]⟩, .int .i64 0]) Tryd.underlying53 Tryd.underlying3 hi9 hz (by rw [hsize, hzc]; rfl) (by rw [hsize]; omega) (by rw [hby]; omega) g i m cap (xs.flatMap entC) (by rw [entC_len, hsize, hi]) hx hm hcap
    (by
      rw [hzc]
      intro u hu
      simp only [Builtin.zeroCells, Array.toList_map, List.mem_map] at hu
      obtain ⟨k, _, rfl⟩ := hu
      have : k % 2 = 0 ∨ k % 2 = 1 := by omega
      rcases this with e | e <;> simp [e] <;> rfl) (by rw [hby]; omega) .i64
  rw [hzc] at h
  have hxl : (xs.flatMap entC).length = i * 2 := by rw [entC_len, hi]
  generalize xs.flatMap entC = cs at *
  refine ⟨_, _, _, h, heap_alloc_new _ _, ?_, grownCap_ge _ _ _ _, grownCap_le_maxLen _ _ _ _ (by have : maxLen = 9223372036854775807 := rfl; omega), ?_, ((Below.refl _ w).drew).alloc (Nat.le_refl _) _, by simp⟩
  · have := grownCap_ge w (i + m) cap 58
    simp only [Array.size_append, List.size_toArray, size_zeroCells, hxl]
    simp
    omega
  · simp only [Array.toList_append, List.append_assoc]
    rw [← hxl, List.take_left']
    rfl
theorem ins_cells_up {cur c1 c2 : List Value} {xs : List Ent} {i n : Nat} {y : Ent} (hn : xs.length = n) (hi : i < n) (h0 : cur.take (i * 2) = (xs.take i).flatMap entC) (hl : (n + 1) * 2 ≤ cur.length)
    (e1 : c1 = cur.take (i * 2) ++ entC y ++ cur.drop (i * 2 + 2)) (e2 : c2 = c1.take ((i + 1) * 2) ++ (xs.drop i).flatMap entC ++ c1.drop ((i + 1) * 2 + (n - i) * 2)) :
    c2.take ((n + 1) * 2) = (xs.take i ++ y :: xs.drop i).flatMap entC ∧ c2.length = cur.length := by
  have l0 : (cur.take (i * 2) ++ entC y).length = (i + 1) * 2 := by simp only [List.length_append, List.length_take, show (entC y).length = 2 from rfl]; omega
  have hc1 : c1.take ((i + 1) * 2) = (xs.take i).flatMap entC ++ entC y := by rw [e1, ← l0, List.take_left', h0]; rfl
  have hl1 : c1.length = cur.length := by rw [e1]; simp only [List.length_append, List.length_take, List.length_drop, show (entC y).length = 2 from rfl]; omega
  have l2 : ((xs.take i).flatMap entC ++ entC y ++ (xs.drop i).flatMap entC).length = (n + 1) * 2 := by simp only [List.length_append, entC_len, List.length_take, List.length_drop, hn, show (entC y).length = 2 from rfl]; omega
  refine ⟨?_, ?_⟩
  · rw [e2, hc1, ← l2, List.take_left']
    · simp
    · rfl
  · rw [e2]; simp only [List.length_append, entC_len, List.length_take, List.length_drop, hl1, hn]; omega
theorem ins_cells_room {cur c1 c2 : List Value} {xs : List Ent} {i n : Nat} {y : Ent} (hn : xs.length = n) (hi : i < n) (h0 : cur.take (n * 2) = xs.flatMap entC) (hl : (n + 1) * 2 ≤ cur.length)
    (e1 : c1 = cur.take ((i + 1) * 2) ++ (xs.drop i).flatMap entC ++ cur.drop ((i + 1) * 2 + (n - i) * 2)) (e2 : c2 = c1.take (i * 2) ++ entC y ++ c1.drop (i * 2 + 2)) :
    c2.take ((n + 1) * 2) = (xs.take i ++ y :: xs.drop i).flatMap entC ∧ c2.length = cur.length := by
  have h1 : cur.take (i * 2) = (xs.take i).flatMap entC := by
    have e : xs.flatMap entC = (xs.take i).flatMap entC ++ (xs.drop i).flatMap entC := by rw [← List.flatMap_append, List.take_append_drop]
    have e3 : cur.take (i * 2) = (cur.take (n * 2)).take (i * 2) := by rw [List.take_take, Nat.min_eq_left (by omega)]
    rw [e3, h0, e, show i * 2 = ((xs.take i).flatMap entC).length by simp only [entC_len, List.length_take]; omega, List.take_left']
    rfl
  have l0 : (cur.take ((i + 1) * 2)).length = (i + 1) * 2 := by simp; omega
  have hl1 : c1.length = cur.length := by rw [e1]; simp only [List.length_append, entC_len, List.length_take, List.length_drop, hn]; omega
  have hc1 : c1.take (i * 2) = (xs.take i).flatMap entC := by
    rw [e1, List.append_assoc, List.take_append_of_le_length (by rw [l0]; omega), List.take_take, Nat.min_eq_left (by omega), h1]
  have hd : c1.drop (i * 2 + 2) = (xs.drop i).flatMap entC ++ cur.drop ((i + 1) * 2 + (n - i) * 2) := by
    rw [e1, List.append_assoc, show i * 2 + 2 = (cur.take ((i + 1) * 2)).length by rw [l0]; omega, List.drop_left']
    rfl
  have l2 : ((xs.take i).flatMap entC ++ entC y ++ (xs.drop i).flatMap entC).length = (n + 1) * 2 := by simp only [List.length_append, entC_len, List.length_take, List.length_drop, hn, show (entC y).length = 2 from rfl]; omega
  refine ⟨?_, ?_⟩
  · rw [e2, hc1, hd, ← List.append_assoc, ← l2, List.take_left']
    · simp
    · rfl
  · rw [e2]; simp only [List.length_append, List.length_take, List.length_drop, hl1, show (entC y).length = 2 from rfl]; omega
end Go.Proofs.YtcjmlfmpajcjjaaDoor

/-
  table: its rows in memory; New, Len; a row's value changed; a row appended.
-/
import Derived.Test.YtcjmlfmpajcjjaaDoorTabFind
namespace Go.Proofs.YtcjmlfmpajcjjaaDoor
open Go.RowKit
open Go.Proofs.YtcjmlfmpajcjjaaDoorW.PrintWords (Kd rdOf)
open Go.Proofs.YtcjmlfmpajcjjaaDoor.PTableLast
set_option linter.unusedVariables false
/-- A row as cells. -/
def entC (x : Ent) : List Value := [.string x.f0, .int .i64 x.f1]
theorem entC_len (xs : List Ent) : (xs.flatMap entC).length = xs.length * 2 := by
  induction xs with
  | nil => rfl
  | cons x xs ih => rw [List.flatMap_cons, List.length_append, ih, List.length_cons]; simp [entC]; omega
theorem entC_get (xs : List Ent) (i : Nat) (x : Ent) (h : xs[i]? = some x) : (xs.flatMap entC)[i * 2]? = some (.string x.f0) ∧ (xs.flatMap entC)[i * 2 + 1]? = some (.int .i64 x.f1) := by
  induction xs generalizing i with
  | nil => simp at h
  | cons y ys ih =>
    cases i with
    | zero =>
      simp at h
      subst h
      simp [entC]
    | succ i =>
      have := ih i (by simpa using h)
      rw [List.flatMap_cons]
      show (entC y ++ ys.flatMap entC)[(i + 1) * 2]? = _ ∧ (entC y ++ ys.flatMap entC)[(i + 1) * 2 + 1]? = _
      rw [show (i + 1) * 2 = i * 2 + 2 by omega, show i * 2 + 2 + 1 = (i * 2 + 1) + 2 by omega]
      simpa [entC] using this
/-- The table's block, and its rows' own block. -/
structure TabAt (w : World) (base b : Nat) (v : Value) (xs : List Ent) (most : Int) : Prop where
  blk : w.heap[b]? = some (.cells #[v, .int .i64 most] 55 (0, 0))
  own : w.ownsRow base 58 2 v xs.length (xs.flatMap entC)
  ge : base ≤ b
theorem TabAt.lt {w : World} {base b : Nat} {v : Value} {xs : List Ent} {most : Int} (h : TabAt w base b v xs most) : b < w.heap.size := lt_of_heap h.blk
theorem TabAt.cells {w : World} {base b : Nat} {v : Value} {xs : List Ent} {most : Int} (h : TabAt w base b v xs most) : w.cell? ⟨b, 0, none⟩ = some v ∧ w.cell? ⟨b, 1, none⟩ = some (.int .i64 most) ∧ w.frozen? ⟨b, 0, none⟩ = false := by
  have hb := h.blk
  refine ⟨?_, ?_, ?_⟩ <;> simp [World.cell?, World.frozen?, hb]
theorem TabAt.form {w : World} {base b : Nat} {v : Value} {xs : List Ent} {most : Int} (h : TabAt w base b v xs most) : ∃ A c, v = .slice A xs.length c ∧ xs.length ≤ c := by
  rcases h.own.2 with ⟨rfl, e⟩ | ⟨g, cap, cur, rfl, _, _, hn, _⟩
  · exact ⟨none, 0, by rw [e], by omega⟩
  · exact ⟨_, cap, rfl, hn⟩
theorem TabAt.reads {w : World} {base b : Nat} {A : Option Addr} {n c : Nat} {xs : List Ent} {most : Int} (h : TabAt w base b (.slice A n c) xs most) : k58.C w A xs.length xs := by
  rcases h.own.2 with ⟨e, en⟩ | ⟨g, cap, cur, e, _, hh, hn, hm, hs, ht⟩
  · cases e
    rw [List.eq_nil_of_length_eq_zero en]
    exact Kd.C_nil _ _
  · cases e
    refine ⟨rfl, by have : maxLen = 9223372036854775807 := rfl; omega, fun _ => ⟨⟨g, 0, none⟩, rfl, fun j p hj => ?_⟩⟩
    have hjl : j < xs.length := (List.getElem?_eq_some_iff.1 hj).1
    obtain ⟨e0, e1⟩ := entC_get xs j p hj
    refine ⟨[.string p.f0, .int .i64 p.f1], rfl, k58_mk w p, fun q u hq => ?_⟩
    have hcur : ∀ k u, k < xs.length * 2 → (xs.flatMap entC)[k]? = some u → w.cell? ⟨g, k, none⟩ = some u := fun k u hk hu => by
      rw [← ht, List.getElem?_take, if_pos hk] at hu
      simp only [World.cell?, hh]
      simpa using hu
    have hadd : ((⟨g, 0, none⟩ : Addr).add (j * 2 + q)) = ⟨g, j * 2 + q, none⟩ := by rw [Addr.add_lit, Nat.zero_add]
    match q, hq with
    | 0, hq => cases hq; show w.cell? ((⟨g, 0, none⟩ : Addr).add (j * 2 + 0)) = _; rw [hadd]; exact hcur _ _ (by omega) e0
    | 1, hq => cases hq; show w.cell? ((⟨g, 0, none⟩ : Addr).add (j * 2 + 1)) = _; rw [hadd]; exact hcur _ _ (by omega) e1
theorem TabAt.mod {w w' : World} {base b : Nat} {v : Value} {xs : List Ent} {most : Int} (h : TabAt w base b v xs most) {S : Nat → Prop} (hm : Mod S w w') (hS : ∀ k, S k → k < base) : TabAt w' base b v xs most := by
  refine ⟨hm.heap h.blk (fun e => by have := hS b e; have := h.ge; omega), ⟨h.own.1, ?_⟩, h.ge⟩
  rcases h.own.2 with h2 | ⟨g, cap, cur, rfl, hg, hh, r⟩
  · exact .inl h2
  · exact .inr ⟨g, cap, cur, rfl, hg, hm.heap hh (fun e => by have := hS g e; omega), r⟩
/-- The blocks of a table. -/
def tfoot (b : Nat) (v : Value) (k : Nat) : Prop := k = b ∨ v.ownBlock = some k
theorem TabAt.kept {w w' : World} {base b : Nat} {v : Value} {xs : List Ent} {most : Int} (h : TabAt w base b v xs most) {S : Nat → Prop} (hm : Mod S w w') (hS : ∀ k, tfoot b v k → ¬ S k) : TabAt w' base b v xs most := by
  refine ⟨hm.heap h.blk (hS b (.inl rfl)), ⟨h.own.1, ?_⟩, h.ge⟩
  rcases h.own.2 with h2 | ⟨g, cap, cur, rfl, hg, hh, r⟩
  · exact .inl h2
  · exact .inr ⟨g, cap, cur, rfl, hg, hm.heap hh (hS g (.inr rfl)), r⟩
theorem TabAt.new {w w' : World} {base b : Nat} {v : Value} {xs : List Ent} {most : Int} (h : TabAt w base b v xs most) (hb : Below w.heap.size w w') : TabAt w' base b v xs most := h.kept (Mod.new hb (fun _ => False)) (fun _ _ e => e)
theorem TabAt.foot {w : World} {base b : Nat} {v : Value} {xs : List Ent} {most : Int} (h : TabAt w base b v xs most) (k : Nat) (hk : tfoot b v k) : base ≤ k ∧ k < w.heap.size := by
  rcases hk with rfl | hk
  · exact ⟨h.ge, h.lt⟩
  · rcases h.own.2 with ⟨rfl, _⟩ | ⟨g, cap, cur, rfl, hg, hh, _⟩
    · cases hk
    · obtain rfl : g = k := by simpa [Value.ownBlock] using hk
      exact ⟨hg, lt_of_heap hh⟩
theorem TabAt.ne {w : World} {base b : Nat} {v : Value} {xs : List Ent} {most : Int} (h : TabAt w base b v xs most) : some b ≠ v.ownBlock := by
  intro e
  rcases h.own.2 with ⟨rfl, _⟩ | ⟨g, cap, cur, rfl, hg, hh, _⟩
  · cases e
  · obtain rfl : b = g := by simpa [Value.ownBlock] using e
    have := h.blk
    rw [hh] at this
    injection this with this
    injection this with _ ht
    exact absurd ht (by decide)
/-- A row's value is stored. -/
theorem TabAt.val {w : World} {base b g n c : Nat} {xs : List Ent} {most : Int} (h : TabAt w base b (.slice (some ⟨g, 0, none⟩) n c) xs most) (i : Nat) (x : Ent) (hx : xs[i]? = some x) (z : Int) :
    TabAt (w.setCell ⟨g, i * 2 + 1, none⟩ (.int .i64 z)) base b (.slice (some ⟨g, 0, none⟩) n c) (xs.set i ⟨x.f0, z⟩) most ∧ Step (tfoot b (.slice (some ⟨g, 0, none⟩) n c)) w (w.setCell ⟨g, i * 2 + 1, none⟩ (.int .i64 z)) (tfoot b (.slice (some ⟨g, 0, none⟩) n c)) ∧ w.frozen? ⟨g, i * 2 + 1, none⟩ = false ∧ w.cell? ⟨g, i * 2 + 1, none⟩ = some (.int .i64 x.f1) := by
  have hne := h.ne
  have hil : i < xs.length := (List.getElem?_eq_some_iff.1 hx).1
  rcases h.own.2 with ⟨e, _⟩ | ⟨g', cap, cur, e, hg, hh, hn, hm, hs, ht⟩
  · cases e
  · cases e
    have hbg : b ≠ g := fun e => hne (by rw [e]; rfl)
    have hc : w.cell? ⟨g, i * 2 + 1, none⟩ = some (.int .i64 x.f1) := by
      have := (entC_get xs i x hx).2
      rw [← ht, List.getElem?_take, if_pos (by omega)] at this
      simp only [World.cell?, hh]
      simpa using this
    refine ⟨⟨?_, ⟨?_, .inr ⟨g, c, cur.setIfInBounds (i * 2 + 1) (.int .i64 z), by rw [List.length_set], hg, ?_, by rw [List.length_set]; exact hn, hm, by simp [hs], ?_⟩⟩, h.ge⟩, ⟨(Mod.refl _ w).setCell _ _ (.inl (.inr rfl)), fun k hk => .inl hk⟩, by simp [World.frozen?, hh], hc⟩
    · rw [Below.heap_setCell _ _ _ _ hbg]; exact h.blk
    · rw [entC_len]
    · simp [World.setCell, Array.getElem?_modify, hh]
    · rw [List.length_set, Array.toList_setIfInBounds]
      apply List.ext_getElem?
      intro k
      by_cases hk : k < xs.length * 2
      · rw [List.getElem?_take, if_pos hk, List.getElem?_set]
        by_cases e : i * 2 + 1 = k
        · subst e
          rw [if_pos rfl, if_pos (by rw [Array.length_toList, hs]; omega)]
          have := (entC_get (xs.set i ⟨x.f0, z⟩) i ⟨x.f0, z⟩ (by rw [List.getElem?_set]; simp [hil])).2
          exact this.symm
        · rw [if_neg e]
          have h1 : cur.toList[k]? = (xs.flatMap entC)[k]? := by rw [← ht, List.getElem?_take, if_pos hk]
          rw [h1]
          obtain ⟨q, hq⟩ : ∃ q, q < xs.length ∧ (k = q * 2 ∨ k = q * 2 + 1) := ⟨k / 2, by omega, by omega⟩
          obtain ⟨y, hy⟩ : ∃ y, xs[q]? = some y := ⟨xs[q]'hq.1, by simp⟩
          obtain ⟨a0, a1⟩ := entC_get xs q y hy
          by_cases eq : q = i
          · subst eq
            rw [hx] at hy; cases hy
            obtain ⟨b0, b1⟩ := entC_get (xs.set q ⟨x.f0, z⟩) q ⟨x.f0, z⟩ (by rw [List.getElem?_set]; simp [hil])
            rcases hq.2 with rfl | rfl
            · rw [a0, b0]
            · exact absurd rfl e
          · obtain ⟨b0, b1⟩ := entC_get (xs.set i ⟨x.f0, z⟩) q y (by rw [List.getElem?_set, if_neg (fun e => eq e.symm)]; exact hy)
            rcases hq.2 with rfl | rfl
            · rw [a0, b0]
            · rw [a1, b1]
      · rw [List.getElem?_take, if_neg hk, List.getElem?_eq_none (by rw [entC_len, List.length_set]; omega)]
end Go.Proofs.YtcjmlfmpajcjjaaDoor

/-
  A list of heads in a block of its own.
-/
import Derived.Test.YtpkiahpdoejbcaaDoorHttFirst
import Derived.Maps.AppendAt
namespace Go.Proofs.YtpkiahpdoejbcaaDoor.Htt
open Go.RowKit Go.Proofs.YtpkiahpdoejbcaaDoor
open Go.Proofs.YtpkiahpdoejbcaaDoorW.PrintWords (Kd rdOf)
set_option linter.unusedVariables false
set_option linter.unusedSimpArgs false
def parC (x : Par) : List Value := [.string x.f0, .string x.f1]
theorem parC_len (xs : List Par) : (xs.flatMap parC).length = xs.length * 2 := by
  induction xs with
  | nil => rfl
  | cons x xs ih => rw [List.flatMap_cons, List.length_append, ih, List.length_cons]; simp [parC]; omega
theorem parC_get (xs : List Par) (i : Nat) (x : Par) (h : xs[i]? = some x) : (xs.flatMap parC)[i * 2]? = some (.string x.f0) ∧ (xs.flatMap parC)[i * 2 + 1]? = some (.string x.f1) := by
  induction xs generalizing i with
  | nil => simp at h
  | cons y ys ih =>
    cases i with
    | zero =>
      simp at h
      subst h
      simp [parC]
    | succ i =>
      have := ih i (by simpa using h)
      rw [List.flatMap_cons]
      show (parC y ++ ys.flatMap parC)[(i + 1) * 2]? = _ ∧ (parC y ++ ys.flatMap parC)[(i + 1) * 2 + 1]? = _
      rw [show (i + 1) * 2 = i * 2 + 2 by omega, show i * 2 + 2 + 1 = (i * 2 + 1) + 2 by omega]
      simpa [parC] using this
/-- A list of parameters in a block of its own. -/
def OwnP (w : World) (base : Nat) (v : Value) (xs : List Par) : Prop := w.ownsRow base 46 2 v xs.length (xs.flatMap parC)
theorem OwnP.form {w : World} {base : Nat} {v : Value} {xs : List Par} (h : OwnP w base v xs) : ∃ A c, v = .slice A xs.length c ∧ xs.length ≤ c := by
  rcases h.2 with ⟨rfl, e⟩ | ⟨g, cap, cur, rfl, _, _, hn, _⟩
  · exact ⟨none, 0, by rw [e], by omega⟩
  · exact ⟨_, cap, rfl, hn⟩
theorem OwnP.reads {w : World} {base : Nat} {A : Option Addr} {n c : Nat} {xs : List Par} (h : OwnP w base (.slice A n c) xs) : PHead.k46.C w A xs.length xs := by
  rcases h.2 with ⟨e, en⟩ | ⟨g, cap, cur, e, _, hh, hn, hm, hs, ht⟩
  · cases e
    rw [List.eq_nil_of_length_eq_zero en]
    exact Kd.C_nil _ _
  · cases e
    refine ⟨rfl, by have : maxLen = 9223372036854775807 := rfl; omega, fun _ => ⟨⟨g, 0, none⟩, rfl, fun j p hj => ?_⟩⟩
    have hjl : j < xs.length := (List.getElem?_eq_some_iff.1 hj).1
    obtain ⟨e0, e1⟩ := parC_get xs j p hj
    refine ⟨[.string p.f0, .string p.f1], rfl, PHead.k46_mk w p, fun q u hq => ?_⟩
    have hcur : ∀ k u, k < xs.length * 2 → (xs.flatMap parC)[k]? = some u → w.cell? ⟨g, k, none⟩ = some u := fun k u hk hu => by
      rw [← ht, List.getElem?_take, if_pos hk] at hu
      simp only [World.cell?, hh]
      simpa using hu
    have hadd : ((⟨g, 0, none⟩ : Addr).add (j * 2 + q)) = ⟨g, j * 2 + q, none⟩ := by rw [Addr.add_lit, Nat.zero_add]
    match q, hq with
    | 0, hq => cases hq; show w.cell? ((⟨g, 0, none⟩ : Addr).add (j * 2 + 0)) = _; rw [hadd]; exact hcur _ _ (by omega) e0
    | 1, hq => cases hq; show w.cell? ((⟨g, 0, none⟩ : Addr).add (j * 2 + 1)) = _; rw [hadd]; exact hcur _ _ (by omega) e1
theorem OwnP.below {w w' : World} {base : Nat} {v : Value} {xs : List Par} (h : OwnP w base v xs) (hb : Below w.heap.size w w') : OwnP w' base v xs := by
  refine ⟨h.1, ?_⟩
  rcases h.2 with h2 | ⟨g, cap, cur, rfl, hg, hh, r⟩
  · exact .inl h2
  · exact .inr ⟨g, cap, cur, rfl, hg, (hb.block g (lt_of_heap hh)).trans hh, r⟩
theorem pinfo : (Tryd.prog.info? 46).map (fun i => (i.zero, i.size, i.bytes)) = some (some (.agg #[.string ⟨#[]⟩, .string ⟨#[]⟩]), 2, 32) := by kernel_rfl
theorem wpList_append_p {w : World} {ops : Array Oper} {rest : List Oper} {o : Oper} {a : Act} {Q : Exit → Act → World → Prop} (hgd : o.guard = none) (s x : Operand)
    (ho : o.op = .call { callee := .builtin .append, args := #[s, x], argTypes := #[22, 22] }) (base : Nat) (xs : List Par) (y : Par) (v : Value) (g : Nat) (hs : a.eval s = v) (hx : a.eval x = .slice (some ⟨g, 0, none⟩) 1 1)
    (hown : OwnP w base v xs) (h0 : w.cell? ⟨g, 0, none⟩ = some (.string y.f0)) (h1 : w.cell? ⟨g, 1, none⟩ = some (.string y.f1)) (hlen : xs.length ≤ 1048576) (hbase : base ≤ w.heap.size)
    (h : ∀ v' w', OwnP w' base v' (xs ++ [y]) → w.grownBy w' v.ownBlock → (v'.ownBlock = v.ownBlock ∨ v'.ownBlock = some w.heap.size) → wpList Tryd.prog ops Q rest (a.put o.dst v') w') : wpList Tryd.prog ops Q (o :: rest) a w := by
  obtain ⟨i, hi, hz, hsize, hby⟩ := info_parts pinfo
  obtain ⟨v', w', hr, h2, h3, _, h5⟩ := run_append_own_at (P := Tryd.prog) (w := w) base 22 o.type 46 i (.agg #[.string ⟨#[]⟩, .string ⟨#[]⟩]) 2 32 Tryd.underlying22 hi hz hsize hby rfl (by omega) v xs.length (xs.flatMap parC) hown ⟨g, 0, none⟩ 1 1 (parC y) rfl
    (by
      intro j u hu
      match j, hu with
      | 0, hu => cases hu; exact h0
      | 1, hu => cases hu; exact h1)
    (by intro u hu; simp [parC] at hu; rcases hu with rfl | rfl <;> rfl) (by have : maxLen = 9223372036854775807 := rfl; omega) (by omega) hbase
  refine wpList_plain hgd fun _ hK => ?_
  unfold Oper.wp execOp
  simp only [ho, resolve, invoke, builtin, Sem.run_bind, Sem.run_pure, Result.andThen_ok, List.map_toArray, List.map_cons, List.map_nil, hs, hx, hr]
  refine hK _ _ (h v' w' ?_ h3 h5)
  unfold OwnP
  rw [List.length_append, List.flatMap_append]
  simpa using h2
theorem own_none (w : World) (base : Nat) : OwnP w base (.slice none 0 0) [] := World.ownsRow_nil _ _ _ 2
theorem own_noneH (w : World) (base : Nat) : OwnP w base (.slice none 0 0) [] := own_none w base
theorem grown_low {B : Nat} {w w' : World} {base : Nat} {v : Value} {xs : List Par} (h : OwnP w base v xs) (hg : w.grownBy w' v.ownBlock) (hB : B ≤ base) (hb : B ≤ w.heap.size) : Below B w w' :=
  (Below.refl B w).grown hg hb (fun k hk => by have := (World.ownsRow.lt h k hk).1; omega)
theorem own_mono {w : World} {base base' : Nat} {v : Value} {xs : List Par} (h : OwnP w base v xs) (hb : base' ≤ base) : OwnP w base' v xs := by
  refine ⟨h.1, ?_⟩
  rcases h.2 with h2 | ⟨g, cap, cur, rfl, hg, r⟩
  · exact .inl h2
  · exact .inr ⟨g, cap, cur, rfl, Nat.le_trans hb hg, r⟩
theorem own_below {w w' : World} {base n : Nat} {v : Value} {xs : List Par} (h : OwnP w base v xs) (hn : w.heap.size ≤ n) (hb : Below n w w') : OwnP w' base v xs := h.below (hb.mono hn)
end Go.Proofs.YtpkiahpdoejbcaaDoor.Htt

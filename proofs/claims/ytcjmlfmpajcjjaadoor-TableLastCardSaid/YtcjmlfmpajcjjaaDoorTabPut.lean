/-
  table: New, Len, Put.
-/
import Derived.Test.YtcjmlfmpajcjjaaDoorTabAt
import Derived.Deep.QuietTactic
import Derived.BigQuiet
namespace Go.Proofs.YtcjmlfmpajcjjaaDoor
open Go.RowKit
open Go.Proofs.YtcjmlfmpajcjjaaDoorW.PrintWords (Kd rdOf)
open Go.Proofs.YtcjmlfmpajcjjaaDoor.PTableLast
set_option linter.unusedVariables false
theorem tmax2 (k k' : IntKind) (x y : Int) : Builtin.max2 (.int k x) (.int k' y) = pure (.int k (if x < y then y else x)) := by simp only [Builtin.max2]
theorem tmax_two (ats : Array TypeId) (ty : TypeId) (a b : Value) : Builtin.max_ ats ty #[a, b] = (Builtin.max2 a b >>= fun s => pure s) := by simp only [Builtin.max_, List.foldlM_cons, List.foldlM_nil]
attribute [local go_sem] tmax2 tmax_two
theorem TabAt.drewN {w : World} {base b : Nat} {v : Value} {xs : List Ent} {most : Int} (h : TabAt w base b v xs most) (n : Nat) : TabAt (w.drewN n) base b v xs most := ⟨h.blk, h.own, h.ge⟩
theorem Step.drewN {F G : Nat → Prop} {w w' : World} (h : Step F w w' G) (n : Nat) : Step F w (w'.drewN n) G := ⟨⟨h.mod.os, h.mod.tape, h.mod.output, h.mod.size, h.mod.block⟩, h.foot⟩
/-- What New answers. -/
def NewPost (most : Int) (w : World) (e : Ending) (w' : World) : Prop := ∃ b, e = .returned (.pointer (some ⟨b, 0, none⟩)) ∧ TabAt w' w.heap.size b (.slice none 0 0) [] most ∧ Below w.heap.size w w'
theorem new_any (most : Int) (w : World) : Calls Tryd.prog 7 #[.int .i64 most] w (NewPost (if most < 0 then 0 else most) w) := by
  obtain ⟨m, hm⟩ : ∃ m, (if most < 0 then 0 else most) = m := ⟨_, rfl⟩
  rw [hm]
  go_enter Tryd.func7, Tryd.ntmps7
  go_wp2
  go_ret
  refine ⟨w.heap.size, rfl, ⟨?_, World.ownsRow_nil _ _ _ 2, Nat.le_refl _⟩, (Below.refl _ w).alloc (Nat.le_refl _) _⟩
  first | exact heap_alloc_new w _ | (rw [← hm]; exact heap_alloc_new w _)
theorem len_any {w : World} {base b : Nat} {v : Value} {xs : List Ent} {most : Int} (h : TabAt w base b v xs most) : Calls Tryd.prog 10 #[.pointer (some ⟨b, 0, none⟩)] w fun e w' => e = .returned (.int .i64 (xs.length : Nat)) ∧ w' = w := by
  obtain ⟨A, c, rfl, hc⟩ := h.form
  obtain ⟨c0, c1, f0⟩ := h.cells
  clear h
  go_enter Tryd.func10, Tryd.ntmps10
  go_wp2
  go_ret
  exact ⟨rfl, rfl⟩
/-- What Put answers: an error's value, and the table. -/
def PutPost (base b : Nat) (v : Value) (ev : Value) (ys : List Ent) (most : Int) (w : World) (e : Ending) (w' : World) : Prop := e = .returned ev ∧ ∃ v', TabAt w' base b v' ys most ∧ Step (tfoot b v) w w' (tfoot b v')
theorem put_nil (key : ByteArray) (n : Int) (w : World) : Calls Tryd.prog 8 #[.pointer none, .string key, .int .i64 n] w fun e w' => e = .returned (.iface 56 (.int .i64 3)) ∧ w' = w := by
  go_enter Tryd.func8, Tryd.ntmps8
  go_wp2_with (go_at_call 21; refine (find_nil _ _).mono ?_; rintro e w' ⟨rfl, rfl⟩)
  go_ret
  exact ⟨rfl, rfl⟩
theorem lb_same {xs : List Ent} {key : ByteArray} {i j : Nat} (h : IsLb xs key i) (k : IsLb xs key j) : i = j := by
  rcases Nat.lt_trichotomy i j with e | e | e
  · obtain ⟨x, hx⟩ : ∃ x, xs[i]? = some x := ⟨xs[i]'(by have := k.1; omega), by simp⟩
    exact absurd (k.2.1 i x e hx) (h.2.2 i x (Nat.le_refl _) hx)
  · exact e
  · obtain ⟨x, hx⟩ : ∃ x, xs[j]? = some x := ⟨xs[j]'(by have := h.1; omega), by simp⟩
    exact absurd (h.2.1 j x e hx) (k.2.2 j x (Nat.le_refl _) hx)
set_option maxHeartbeats 4000000 in
set_option maxRecDepth 20000 in
theorem put_hit {w : World} {base b : Nat} {v : Value} {xs : List Ent} {most : Int} (h : TabAt w base b v xs most) (hs : Rising xs) (hn : xs.length ≤ 1048576) (key : ByteArray) (n : Int) (i : Nat) (x : Ent) (hi : xs[i]? = some x) (hk : x.f0 = key) (hlb : IsLb xs key i) :
    Calls Tryd.prog 8 #[.pointer (some ⟨b, 0, none⟩), .string key, .int .i64 n] w (PutPost base b v .nilIface (xs.set i ⟨key, n⟩) most w) := by
  obtain ⟨A, c, rfl, hc⟩ := h.form
  obtain ⟨c0, c1, f0⟩ := h.cells
  have hf := find_any w b most A c xs key c0 h.reads hc hn hs
  have HF := hid hf
  have H := hid h
  have HLB := hid hlb
  have HI := hid hi
  have HK := hid hk
  clear hf h hlb hs hi hk c0 c1 f0
  go_enter Tryd.func8, Tryd.ntmps8
  go_wp2_with (go_at_call 21; refine HF.out.mono ?_)
  clear HF
  rintro e w1 ⟨j, hj, rfl, hb⟩
  obtain rfl := lb_same hj HLB.out
  have hhit : hit xs key j = true := by unfold hit; rw [HI.out]; simp [HK.out]
  rw [hhit]
  have h1 := H.out.new hb
  have hil : j < xs.length := (List.getElem?_eq_some_iff.1 HI.out).1
  obtain ⟨c0, c1, f0⟩ := h1.cells
  rcases h1.own.2 with ⟨e, en⟩ | ⟨g, cap, cur, e, _⟩
  · omega
  · cases e
    obtain ⟨q1, q2, q3, q4⟩ := h1.val j x HI.out n
    rw [HK.out] at q1
    have Q1 := hid q1
    have Q2 := hid (Step.new_then hb q2)
    have p0 : (0 : Int) ≤ (j : Int) := by omega
    have p1 : (j : Int) < (xs.length : Int) := by omega
    clear q1 q2 h1 hb hj hhit
    go_wp2_with fail
    go_ret
    exact ⟨rfl, _, Q1.out, Q2.out⟩
theorem hit_false {xs : List Ent} {key : ByteArray} {i : Nat} (h : ∀ x, xs[i]? = some x → x.f0 ≠ key) : hit xs key i = false := by
  unfold hit
  cases e : xs[i]? with
  | none => rfl
  | some x => exact decide_eq_false (h x e)
set_option maxHeartbeats 4000000 in
set_option maxRecDepth 20000 in
theorem put_full {w : World} {base b : Nat} {v : Value} {xs : List Ent} {most : Int} (h : TabAt w base b v xs most) (hs : Rising xs) (hn : xs.length ≤ 1048576) (key : ByteArray) (n : Int) (i : Nat) (hlb : IsLb xs key i) (hno : ∀ x, xs[i]? = some x → x.f0 ≠ key) (hm : (xs.length : Int) = most) :
    Calls Tryd.prog 8 #[.pointer (some ⟨b, 0, none⟩), .string key, .int .i64 n] w (PutPost base b v (.iface 56 (.int .i64 180)) xs most w) := by
  obtain ⟨A, c, rfl, hc⟩ := h.form
  obtain ⟨c0, c1, f0⟩ := h.cells
  have hf := find_any w b most A c xs key c0 h.reads hc hn hs
  have HF := hid hf
  have H := hid h
  have HLB := hid hlb
  have HNO := hid hno
  clear hf h hlb hs hno c0 c1 f0
  go_enter Tryd.func8, Tryd.ntmps8
  go_wp2_with (go_at_call 21; refine HF.out.mono ?_)
  clear HF
  rintro e w1 ⟨j, hj, rfl, hb⟩
  obtain rfl := lb_same hj HLB.out
  rw [hit_false HNO.out]
  have h1 := H.out.new hb
  obtain ⟨c0, c1, f0⟩ := h1.cells
  have t0 : ((xs.length : Int) == most) = true := by rw [hm]; simp
  have H1 := hid h1
  have Q2 := hid (Step.new_then hb (Step.refl (tfoot b (.slice A xs.length c)) w1))
  clear h1 hb hj
  go_wp2
  go_quiet (fail)
  go_wp2
  go_ret
  exact ⟨rfl, _, H1.out.drewN nq, Q2.out.drewN nq⟩
/-- Rows appended. -/
def InsPost (base : Nat) (v : Value) (ys : List Ent) (w : World) (e : Ending) (w' : World) : Prop := ∃ v', e = .returned v' ∧ w'.ownsRow base 58 2 v' ys.length (ys.flatMap entC) ∧ Mod (fun k => v.ownBlock = some k) w w' ∧ (v'.ownBlock = v.ownBlock ∨ ∃ k, v'.ownBlock = some k ∧ w.heap.size ≤ k)
theorem einfoE : (Tryd.prog.info? 58).map (fun i => (i.zero, i.size, i.bytes)) = some (some (.agg #[.string ⟨#[]⟩, .int .i64 0]), 2, 24) := by kernel_rfl
theorem wpList_append_e {w : World} {ops : Array Oper} {rest : List Oper} {o : Oper} {a : Act} {Q : Exit → Act → World → Prop} (hgd : o.guard = none) (s x : Operand)
    (ho : o.op = .call { callee := .builtin .append, args := #[s, x], argTypes := #[53, 53] }) (base : Nat) (xs : List Ent) (y : Ent) (v : Value) (g : Nat) (hs : a.eval s = v) (hx : a.eval x = .slice (some ⟨g, 0, none⟩) 1 1)
    (hown : w.ownsRow base 58 2 v xs.length (xs.flatMap entC)) (h0 : w.cell? ⟨g, 0, none⟩ = some (.string y.f0)) (h1 : w.cell? ⟨g, 1, none⟩ = some (.int .i64 y.f1)) (hlen : xs.length ≤ 1048576) (hbase : base ≤ w.heap.size)
    (h : ∀ v' w', w'.ownsRow base 58 2 v' (xs ++ [y]).length ((xs ++ [y]).flatMap entC) → w.grownBy w' v.ownBlock → (v'.ownBlock = v.ownBlock ∨ v'.ownBlock = some w.heap.size) → wpList Tryd.prog ops Q rest (a.put o.dst v') w') : wpList Tryd.prog ops Q (o :: rest) a w := by
  obtain ⟨i, hi, hz, hsize, hby⟩ := info_parts einfoE
  obtain ⟨v', w', hr, h2, h3, _, h5⟩ := run_append_own_at (P := Tryd.prog) (w := w) base 53 o.type 58 i (.agg #[.string ⟨#[]⟩, .int .i64 0]) 2 24 Tryd.underlying53 hi hz hsize hby rfl (by omega) v xs.length (xs.flatMap entC) hown ⟨g, 0, none⟩ 1 1 (entC y) rfl
    (by
      intro j u hu
      match j, hu with
      | 0, hu => cases hu; exact h0
      | 1, hu => cases hu; exact h1)
    (by intro u hu; simp [entC] at hu; rcases hu with rfl | rfl <;> rfl) (by have : maxLen = 9223372036854775807 := rfl; omega) (by omega) hbase
  refine wpList_plain hgd fun _ hK => ?_
  unfold Oper.wp execOp
  simp only [ho, resolve, invoke, builtin, Sem.run_bind, Sem.run_pure, Result.andThen_ok, List.map_toArray, List.map_cons, List.map_nil, hs, hx, hr]
  refine hK _ _ (h v' w' ?_ h3 h5)
  rw [List.length_append, List.flatMap_append]
  simpa using h2
set_option maxHeartbeats 4000000 in
set_option maxRecDepth 20000 in
theorem ins_end {w : World} {base : Nat} {v : Value} {xs : List Ent} (hown : w.ownsRow base 58 2 v xs.length (xs.flatMap entC)) (hbase : base ≤ w.heap.size) (hn : xs.length ≤ 1048576) (g : Nat) (y : Ent) (h0 : w.cell? ⟨g, 0, none⟩ = some (.string y.f0)) (h1 : w.cell? ⟨g, 1, none⟩ = some (.int .i64 y.f1)) :
    Calls Tryd.prog 22 #[v, .int .i64 (xs.length : Nat), .slice (some ⟨g, 0, none⟩) 1 1] w (InsPost base v (xs ++ [y]) w) := by
  obtain ⟨A, c, rfl, hc⟩ : ∃ A c, v = .slice A xs.length c ∧ xs.length ≤ c := by
    rcases hown.2 with ⟨rfl, e⟩ | ⟨g, cap, cur, rfl, _, _, hn, _⟩
    · exact ⟨none, 0, by rw [e], by omega⟩
    · exact ⟨_, cap, rfl, hn⟩
  have HO := hid hown
  clear hown
  have p0 : (0 : Int) ≤ (xs.length : Int) := by omega
  obtain ⟨b, hb⟩ : ∃ b, (Value.slice A xs.length c).ownBlock = b := ⟨_, rfl⟩
  have HBB := hid hb
  have hbn : ∀ c', (Value.slice A xs.length c').ownBlock = b := fun c' => by rw [← hb]; cases A <;> rfl
  have HBN := hid hbn
  clear hb hbn
  go_enter Tryd.func22, Tryd.ntmps22
  go_wp2_with (at_builtin; refine wpList_append_e rfl (.tmp 23) (.tmp 24) rfl base xs y (.slice A xs.length c) g rfl rfl HO.out h0 h1 hn hbase ?_; intro v' w' ho hg hb; have HO2 := hid ho; rw [HBB.out] at hg hb; have HG2 := hid hg; have HB2 := hid hb; clear ho hg hb)
  all_goals
    go_ret
    refine ⟨v', rfl, HO2.out, ?_, ?_⟩
    · exact Mod.grown (Mod.refl _ w) HG2.out (fun k e => .inl ((HBN.out _).trans e))
    · exact HB2.out.imp (fun e => e.trans (HBN.out _).symm) (fun e => ⟨_, e, Nat.le_refl _⟩)
/-- A call of Put whose row goes in somewhere. -/
theorem put_in {w : World} {base b : Nat} {v : Value} {xs ys : List Ent} {most : Int} (h : TabAt w base b v xs most) (hbw : base ≤ w.heap.size) (hs : Rising xs) (hn : xs.length ≤ 1048576) (key : ByteArray) (n : Int) (i : Nat) (hlb : IsLb xs key i) (hno : ∀ x, xs[i]? = some x → x.f0 ≠ key) (hm : (xs.length : Int) ≠ most)
    (hins : ∀ (w1 : World) (g : Nat), w1.ownsRow base 58 2 v xs.length (xs.flatMap entC) → base ≤ w1.heap.size → w1.cell? ⟨g, 0, none⟩ = some (.string key) → w1.cell? ⟨g, 1, none⟩ = some (.int .i64 n) → w1.heap[g]? = some (.cells #[.string key, .int .i64 n] 58 (0, 0)) → (∀ k, v.ownBlock = some k → k ≠ g) →
      Calls Tryd.prog 22 #[v, .int .i64 (i : Nat), .slice (some ⟨g, 0, none⟩) 1 1] w1 (InsPost base v ys w1)) :
    Calls Tryd.prog 8 #[.pointer (some ⟨b, 0, none⟩), .string key, .int .i64 n] w (PutPost base b v .nilIface ys most w) := by
  obtain ⟨A, c, rfl, hc⟩ := h.form
  obtain ⟨c0, c1, f0⟩ := h.cells
  have hf := find_any w b most A c xs key c0 h.reads hc hn hs
  have HF := hid hf
  have H := hid h
  have HLB := hid hlb
  have HNO := hid hno
  have HINS := hid hins
  clear hf h hlb hs hno c0 c1 f0 hins
  go_enter Tryd.func8, Tryd.ntmps8
  go_wp2_with (go_at_call 21; refine HF.out.mono ?_)
  clear HF
  rintro e w1 ⟨j, hj, rfl, hb⟩
  obtain rfl := lb_same hj HLB.out
  rw [hit_false HNO.out]
  have h1 := H.out.new hb
  obtain ⟨c0, c1, f0⟩ := h1.cells
  have t0 : ((xs.length : Int) == most) = false := by simpa using hm
  have H1 := hid h1
  have HB1 := hid hb
  clear h1 hb hj
  go_wp2
  go_quiet (fail)
  have h1 := (H1.out.drewN nq)
  obtain ⟨c0, c1, f0⟩ := h1.cells
  have h2 := h1.new (show Below (w1.drewN nq).heap.size (w1.drewN nq) ((w1.drewN nq).alloc (.cells #[.string key, .int .i64 n] 58)) from (Below.refl _ _).alloc (Nat.le_refl _) _)
  have H2 := hid h2
  clear h1 h2
  have hcell : ∀ k u, (#[.string key, .int .i64 n] : Array Value)[k]? = some u → ((w1.drewN nq).alloc (.cells #[.string key, .int .i64 n] 58)).cell? ⟨w1.heap.size, k, none⟩ = some u := fun k u hu => by
    have h9 : ((w1.drewN nq).alloc (.cells #[.string key, .int .i64 n] 58)).heap[w1.heap.size]? = some (.cells #[.string key, .int .i64 n] 58 (0, 0)) := heap_alloc_new (w1.drewN nq) _
    simp only [World.cell?, h9]
    exact hu
  have hi := HINS.out ((w1.drewN nq).alloc (.cells #[.string key, .int .i64 n] 58)) w1.heap.size H2.out.own (by have := HB1.out.size; simp; omega) (hcell 0 _ rfl) (hcell 1 _ rfl) (heap_alloc_new (w1.drewN nq) _) (fun k hk e => by have := (H1.out.foot k (.inr hk)).2; omega)
  have HI := hid hi
  clear hcell hi
  go_wp2_with fail
  refine HI.out.mono ?_
  clear HI
  rintro e w3 ⟨v3, rfl, ho3, hm3, hv3⟩
  obtain ⟨A3, m3, k3, rfl⟩ : ∃ A m c, v3 = .slice A m c := by
    rcases ho3.2 with ⟨rfl, _⟩ | ⟨g, cap, cur, rfl, _⟩ <;> exact ⟨_, _, _, rfl⟩
  have hb3 : w3.heap[b]? = some (.cells #[.slice A xs.length c, .int .i64 most] 55 (0, 0)) := hm3.heap H2.out.blk (fun e => H2.out.ne e.symm)
  have f3 : w3.frozen? ⟨b, 0, none⟩ = false := by simp [World.frozen?, hb3]
  have c3 : w3.cell? ⟨b, 0, none⟩ = some (.slice A xs.length c) := by simp [World.cell?, hb3]
  have HO3 := hid ho3
  have HM3 := hid hm3
  have HV3 := hid hv3
  have HB3 := hid hb3
  clear ho3 hm3 hv3 hb3
  go_wp2
  go_ret
  have hst : Step (tfoot b (.slice A xs.length c)) w ((w1.drewN nq).alloc (.cells #[.string key, .int .i64 n] 58)) (tfoot b (.slice A xs.length c)) :=
    Step.new_then HB1.out ((Step.refl _ w1).drewN nq |>.then_new ((Below.refl _ _).alloc (Nat.le_refl _) _))
  have hbb : some b ≠ (Value.slice A3 m3 k3).ownBlock := by
    intro e
    rcases HV3.out with h9 | ⟨k, h9, hk⟩
    · rw [h9] at e; exact H2.out.ne e
    · rw [h9] at e
      have h8 := H2.out.lt
      obtain rfl : b = k := by simpa using e
      omega
  refine ⟨rfl, .slice A3 m3 k3, ⟨?_, ?_, H2.out.ge⟩, ?_⟩
  · simp [World.setCell, Array.getElem?_modify, HB3.out]
  · exact World.ownsRow.kept HO3.out (row := some b) ⟨rfl, rfl, rfl, by simp [World.setCell], fun k hk hne => Below.heap_setCell w3 ⟨b, 0, none⟩ (.slice A3 m3 k3) k (fun e => hne (by rw [e]))⟩ (.inr (fun e => hbb e.symm))
  · refine hst.trans ⟨((HM3.out.mono (fun k _ e => .inr e)).setCell ⟨b, 0, none⟩ (.slice A3 m3 k3) (.inl (.inl rfl))), fun k hk => ?_⟩
    rcases hk with rfl | hk
    · exact .inl (.inl rfl)
    · rcases HV3.out with h9 | ⟨k', h9, hk'⟩
      · exact .inl (.inr (h9.symm.trans hk))
      · rw [h9] at hk
        obtain rfl : k' = k := by simpa using hk
        exact .inr hk'
end Go.Proofs.YtcjmlfmpajcjjaaDoor

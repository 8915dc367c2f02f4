/-
  Slices of bytes: what one reads as, what the call owns; append of bytes onto owned bytes.
-/
import Derived.Test.YtcjmlfmpajcjjaaDoorWords
import Derived.Maps.AppendAt
namespace Go.Proofs.YtcjmlfmpajcjjaaDoor
open Go.RowKit
set_option linter.unusedVariables false

/-- A slice value that reads as bytes. -/
def ReadsB (w : World) (v : Value) (l : List UInt8) : Prop :=
  (v = .slice none 0 0 ∧ l = []) ∨ ∃ b o cap, v = .slice (some ⟨b, o, none⟩) l.length cap ∧ l.length ≤ cap ∧ ∀ i, i < l.length → w.cell? ⟨b, o + i, none⟩ = some (cellOf (l.getD i 0))
/-- A slice value that owns its bytes, in blocks from base on. -/
def OwnB (w : World) (base : Nat) (e : TypeId) (v : Value) (l : List UInt8) : Prop := w.ownsRow base e 1 v l.length (l.map cellOf)
theorem getD_map_cell (l : List UInt8) (i : Nat) (h : i < l.length) : (l.map cellOf)[i]? = some (cellOf (l.getD i 0)) := by simp [List.getD, h]
theorem OwnB.reads {w : World} {base : Nat} {e : TypeId} {v : Value} {l : List UInt8} (h : OwnB w base e v l) : ReadsB w v l := by
  obtain ⟨h1, h2⟩ := h
  rcases h2 with ⟨rfl, h3⟩ | ⟨g, cap, cur, rfl, hb, hg, hn, hm, hs, ht⟩
  · exact .inl ⟨rfl, List.eq_nil_of_length_eq_zero h3⟩
  · refine .inr ⟨g, 0, cap, rfl, hn, fun i hi => ?_⟩
    have hc := getD_map_cell l i hi
    rw [← ht, List.getElem?_take] at hc
    rw [if_pos (by omega)] at hc
    simp only [World.cell?, hg, Nat.zero_add]
    simpa using hc
theorem OwnB.nil (w : World) (base : Nat) (e : TypeId) : OwnB w base e (.slice none 0 0) [] := World.ownsRow_nil w base e 1
/-- A new block of bytes is owned. -/
theorem OwnB.new (w : World) (base : Nat) (e : TypeId) (C : Array Value) (l : List UInt8) (n : Nat) (hn : n = l.length) (hC : C.toList = l.map cellOf) (hb : base ≤ w.heap.size) (hm : n ≤ maxLen) : OwnB (w.alloc (.cells C e)) base e (.slice (some ⟨w.heap.size, 0, none⟩) n n) l := by
  subst hn
  refine ⟨by simp, .inr ⟨w.heap.size, l.length, C, rfl, hb, ?_, Nat.le_refl _, hm, ?_, ?_⟩⟩
  · show (w.heap.push _)[w.heap.size]? = _; simp
  · have := congrArg List.length hC; simpa using this
  · rw [hC, List.take_of_length_le (by simp)]
/-- The same, the block's number spelt otherwise. -/
theorem OwnB.new' (w : World) (base : Nat) (e : TypeId) (C : Array Value) (l : List UInt8) (n b : Nat) (hb' : b = w.heap.size) (hn : n = l.length) (hC : C.toList = l.map cellOf) (hb : base ≤ w.heap.size) (hm : n ≤ maxLen) : OwnB (w.alloc (.cells C e)) base e (.slice (some ⟨b, 0, none⟩) n n) l := by
  subst hb'; exact OwnB.new w base e C l n hn hC hb hm
theorem ReadsB.below {w w' : World} {v : Value} {l : List UInt8} (h : ReadsB w v l) (hb : Below w.heap.size w w') : ReadsB w' v l := by
  rcases h with h | ⟨b, o, cap, hv, hc, hcell⟩
  · exact .inl h
  · exact .inr ⟨b, o, cap, hv, hc, fun i hi => by rw [hb.cell (p := ⟨b, o + i, none⟩) (lt_of_cell (hcell i hi))]; exact hcell i hi⟩
/-- A slice of bytes, by its type's facts. -/
structure ByteT (P : Program) (t e : TypeId) : Prop where
  slice : P.underlying t = some (.slice e)
  byte : P.underlying e = some (.int .u8)
  info : (P.info? e).map (fun i => (i.zero, i.size, i.bytes)) = some (some (.int .u8 0), 1, 1)

/-- append(owned bytes, bytes): what it comes to. -/
theorem run_append_b {P : Program} {t e : TypeId} (HT : ByteT P t e) {w : World} (ty : TypeId) (base : Nat) (l m : List UInt8) (v xv : Value)
    (hown : OwnB w base e v l) (hm : ReadsB w xv m) (hlen : l.length + m.length ≤ 1099511627776) (hbase : base ≤ w.heap.size) :
    ∃ v' w', (Builtin.append_ #[t, t] ty #[v, xv]).run P w = .ok v' w' ∧ OwnB w' base e v' (l ++ m) ∧ w.grownBy w' v.ownBlock ∧ (v' = .slice none 0 0 → v = .slice none 0 0) ∧ (v'.ownBlock = v.ownBlock ∨ v'.ownBlock = some w.heap.size) := by
  obtain ⟨i, hi, hz, hsize, hby⟩ := info_parts HT.info
  rcases hm with ⟨rfl, rfl⟩ | ⟨b, off, cap, rfl, hcap, hcell⟩
  · exact ⟨v, w, run_append_owned_none (P := P) w base t ty e i 1 HT.slice hi v l.length (l.map cellOf) hown, by simpa using hown, World.grownBy.refl _ _, fun e => e, .inl rfl⟩
  · obtain ⟨v', w', h1, h2, h3, h4, h5⟩ := run_append_own_at (P := P) w base t ty e i (.int .u8 0) 1 1 HT.slice hi hz hsize hby rfl (by omega) v l.length (l.map cellOf) hown ⟨b, off, none⟩ m.length cap (m.map cellOf) (by simp)
      (by
        intro j u hu
        have hj : j < m.length := by have := (List.getElem?_eq_some_iff.1 hu).1; simpa using this
        rw [Addr.add_lit, hcell j hj, ← getD_map_cell m j hj]; exact hu)
      (by intro u hu; obtain ⟨c, _, rfl⟩ := List.mem_map.1 hu; rfl) (by unfold maxLen; omega) (by omega) hbase
    exact ⟨v', w', h1, by unfold OwnB; rw [List.length_append, List.map_append]; exact h2, h3, fun e => (h4.1 e).1, h5⟩
/-- At one operation. -/
theorem wp_append_b {P : Program} {t e : TypeId} (HT : ByteT P t e) {w : World} {o : Oper} {a : Act} {K : Act → World → Prop} {Q : Exit → Act → World → Prop} (s x : Operand)
    (ho : o.op = .call { callee := .builtin .append, args := #[s, x], argTypes := #[t, t] }) (base : Nat) (l m : List UInt8) (v xv : Value) (hs : a.eval s = v) (hx : a.eval x = xv)
    (hown : OwnB w base e v l) (hm : ReadsB w xv m) (hlen : l.length + m.length ≤ 1099511627776) (hbase : base ≤ w.heap.size)
    (h : ∀ v' w', OwnB w' base e v' (l ++ m) → w.grownBy w' v.ownBlock → (v' = .slice none 0 0 → v = .slice none 0 0) → (v'.ownBlock = v.ownBlock ∨ v'.ownBlock = some w.heap.size) → K (a.put o.dst v') w') : o.wp P a w K Q := by
  obtain ⟨v', w', hr, h2, h3, h4, h5⟩ := run_append_b HT o.type base l m v xv hown hm hlen hbase
  unfold Oper.wp execOp
  simp only [ho, resolve, invoke, builtin, Sem.run_bind, Sem.run_pure, Result.andThen_ok, List.map_toArray, List.map_cons, List.map_nil, hs, hx, hr]
  exact h v' w' h2 h3 h4 h5
/-- At the list of a plain region's operations. -/
theorem wpList_append_b {P : Program} {t e : TypeId} (HT : ByteT P t e) {w : World} {ops : Array Oper} {rest : List Oper} {o : Oper} {a : Act} {Q : Exit → Act → World → Prop} (hgd : o.guard = none) (s x : Operand)
    (ho : o.op = .call { callee := .builtin .append, args := #[s, x], argTypes := #[t, t] }) (base : Nat) (l m : List UInt8) (v xv : Value) (hs : a.eval s = v) (hx : a.eval x = xv)
    (hown : OwnB w base e v l) (hm : ReadsB w xv m) (hlen : l.length + m.length ≤ 1099511627776) (hbase : base ≤ w.heap.size)
    (h : ∀ v' w', OwnB w' base e v' (l ++ m) → w.grownBy w' v.ownBlock → (v' = .slice none 0 0 → v = .slice none 0 0) → (v'.ownBlock = v.ownBlock ∨ v'.ownBlock = some w.heap.size) → wpList P ops Q rest (a.put o.dst v') w') : wpList P ops Q (o :: rest) a w :=
  wpList_plain hgd fun _ hK => wp_append_b HT s x ho base l m v xv hs hx hown hm hlen hbase fun v' w' h2 h3 h4 h5 => hK _ _ (h v' w' h2 h3 h4 h5)
/-- At a step of a region that draws its order. -/
theorem step_append_b {P : Program} {t e : TypeId} (HT : ByteT P t e) {w : World} {ops : Array Oper} {o : Oper} {a : Act} {K : Act → World → Prop} {Q : Exit → Act → World → Prop} {E : Prop} (hgd : o.guard = none) (s x : Operand)
    (ho : o.op = .call { callee := .builtin .append, args := #[s, x], argTypes := #[t, t] }) (base : Nat) (l m : List UInt8) (v xv : Value) (hs : a.eval s = v) (hx : a.eval x = xv)
    (hown : OwnB w base e v l) (hm : ReadsB w xv m) (hlen : l.length + m.length ≤ 1099511627776) (hbase : base ≤ w.heap.size)
    (h : ∀ v' w', OwnB w' base e v' (l ++ m) → w.grownBy w' v.ownBlock → (v' = .slice none 0 0 → v = .slice none 0 0) → (v'.ownBlock = v.ownBlock ∨ v'.ownBlock = some w.heap.size) → K (a.put o.dst v') w') : if Region.wanted o (yielded ops a.tmps) = true then Oper.wp P o a w K Q else E := by
  have hw : Region.wanted o (yielded ops a.tmps) = true := by simp [Region.wanted, hgd]
  rw [if_pos hw]
  exact wp_append_b HT s x ho base l m v xv hs hx hown hm hlen hbase h
/-- string(owned bytes). -/
theorem run_string_of_reads {P : Program} {w : World} {t e dst : TypeId} (HT : ByteT P t e) (hd : P.underlying dst = some .string) {v : Value} {l : List UInt8} (h : ReadsB w v l) :
    (convert t dst v).run P w = .ok (strV l) w := by
  rcases h with ⟨rfl, rfl⟩ | ⟨b, o, cap, rfl, hcap, hcell⟩
  · exact run_convert_bytes_nil w t e HT.slice HT.byte 0 0 dst hd
  · exact run_string_of_cells HT.slice HT.byte hd b o l.length cap l rfl hcell
theorem OwnB.kept {w w' : World} {base : Nat} {e : TypeId} {v : Value} {l : List UInt8} (h : OwnB w base e v l) {row : Option Nat} (hg : w.grownBy w' row) (hne : v.ownBlock = none ∨ v.ownBlock ≠ row) : OwnB w' base e v l := World.ownsRow.kept h hg hne
theorem OwnB.alloc {w : World} {base : Nat} {e : TypeId} {v : Value} {l : List UInt8} (h : OwnB w base e v l) (o : Obj) : OwnB (w.alloc o) base e v l := World.ownsRow.alloc h o
theorem OwnB.lt {w : World} {base : Nat} {e : TypeId} {v : Value} {l : List UInt8} (h : OwnB w base e v l) {k : Nat} (hk : v.ownBlock = some k) : base ≤ k ∧ k < w.heap.size := World.ownsRow.lt h k hk
theorem below_grown {B : Nat} {w w' : World} {base : Nat} {e : TypeId} {v : Value} {l : List UInt8} (h : OwnB w base e v l) (hg : w.grownBy w' v.ownBlock) (hB : B ≤ base) (hb : B ≤ w.heap.size) : Below B w w' :=
  (Below.refl B w).grown hg hb (fun k hk => by have := (h.lt hk).1; omega)
end Go.Proofs.YtcjmlfmpajcjjaaDoor

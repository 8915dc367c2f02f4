/-
  table: Put, Get, Drop, Room at any rows.
-/
import Derived.Test.YtcjmlfmpajcjjaaDoorTabDel
import Derived.Test.YtcjmlfmpajcjjaaDoorTabPure
import Derived.Test.YtcjmlfmpajcjjaaDoorTabAlive

namespace Go.Proofs.YtcjmlfmpajcjjaaDoor
open Go.RowKit
open Go.Proofs.YtcjmlfmpajcjjaaDoorW.PrintWords (Kd rdOf)
open Go.Proofs.YtcjmlfmpajcjjaaDoor.PTableLast
set_option linter.unusedVariables false
/-- A table, with rows that rise. -/
structure Tab (w : World) (base b : Nat) (v : Value) (xs : List Ent) (most : Int) : Prop where
  at_ : TabAt w base b v xs most
  rise : Rising xs
  small : xs.length ≤ 1000000
  base : base ≤ w.heap.size
theorem Tab.below {w w' : World} {base b : Nat} {v : Value} {xs : List Ent} {most : Int} (h : Tab w base b v xs most) (hb : Below w.heap.size w w') : Tab w' base b v xs most := ⟨h.at_.new hb, h.rise, h.small, Nat.le_trans h.base hb.size⟩
theorem Tab.kept {w w' : World} {base b : Nat} {v : Value} {xs : List Ent} {most : Int} (h : Tab w base b v xs most) {S : Nat → Prop} (hm : Mod S w w') (hS : ∀ k, tfoot b v k → ¬ S k) : Tab w' base b v xs most := ⟨h.at_.kept hm hS, h.rise, h.small, Nat.le_trans h.base hm.size⟩
/-- What is in a list where a row was put. -/
def IsPut (xs ys : List Ent) (key : ByteArray) (n : Int) : Prop := Rising ys ∧ (∀ z, z ∈ ys ↔ z = ⟨key, n⟩ ∨ z ∈ xs ∧ z.f0 ≠ key) ∧ ys.length ≤ xs.length + 1
def PutAny (base b : Nat) (v : Value) (xs : List Ent) (key : ByteArray) (n : Int) (most : Int) (w : World) (e : Ending) (w' : World) : Prop :=
  (∃ ys, IsPut xs ys key n ∧ ((∃ z ∈ xs, z.f0 = key) ∨ (xs.length : Int) ≠ most) ∧ PutPost base b v .nilIface ys most w e w') ∨ ((∀ z ∈ xs, z.f0 ≠ key) ∧ (xs.length : Int) = most ∧ PutPost base b v (.iface 56 (.int .i64 180)) xs most w e w')
theorem exists_lb (xs : List Ent) (key : ByteArray) (h : Rising xs) : ∃ i, IsLb xs key i := by
  induction xs with
  | nil => exact ⟨0, lb_nil key⟩
  | cons x xs ih =>
    obtain ⟨h1, h2⟩ := rising_cons h
    by_cases hx : x.f0.toList < key.toList
    · obtain ⟨i, hi1, hi2, hi3⟩ := ih h2
      refine ⟨i + 1, by simp; omega, fun q z hq hz => ?_, fun q z hq hz => ?_⟩
      · cases q with
        | zero => simp at hz; subst hz; exact hx
        | succ q => exact hi2 q z (by omega) (by simpa using hz)
      · cases q with
        | zero => omega
        | succ q => exact hi3 q z (by omega) (by simpa using hz)
    · refine ⟨0, Nat.zero_le _, fun q z hq hz => absurd hq (by omega), fun q z hq hz => ?_⟩
      cases q with
      | zero => simp at hz; subst hz; exact hx
      | succ q => exact fun e => hx (bl_trans (h1 z (List.mem_of_getElem? (by simpa using hz))) e)
theorem put_any {w : World} {base b : Nat} {v : Value} {xs : List Ent} {most : Int} (h : Tab w base b v xs most) (key : ByteArray) (n : Int) :
    Calls Tryd.prog 8 #[.pointer (some ⟨b, 0, none⟩), .string key, .int .i64 n] w (PutAny base b v xs key n most w) := by
  obtain ⟨i, hi⟩ := exists_lb xs key h.rise
  by_cases hh : ∃ x, xs[i]? = some x ∧ x.f0 = key
  · obtain ⟨x, hx, hk⟩ := hh
    obtain ⟨h1, h2⟩ := put_set h.rise hi hx hk n
    exact (put_hit h.at_ h.rise (by have := h.small; omega) key n i x hx hk hi).mono (fun e w' hp => .inl ⟨_, ⟨h1, h2, by simp⟩, .inl ⟨x, List.mem_of_getElem? hx, hk⟩, hp⟩)
  · have hno : ∀ x, xs[i]? = some x → x.f0 ≠ key := fun x hx hk => hh ⟨x, hx, hk⟩
    by_cases hm : (xs.length : Int) = most
    · exact (put_full h.at_ h.rise (by have := h.small; omega) key n i hi hno hm).mono (fun e w' hp => .inr ⟨no_key h.rise hi hno, hm, hp⟩)
    · obtain ⟨h1, h2⟩ := put_new h.rise hi hno n
      refine (put_in (ys := xs.take i ++ ⟨key, n⟩ :: xs.drop i) h.at_ h.base h.rise (by have := h.small; omega) key n i hi hno hm (fun w1 g ho hb h0 h1 hc hne => ins_any i hi.1 ho hb (by have := h.small; omega) g ⟨key, n⟩ _ _ hc hne h0 h1)).mono (fun e w' hp => .inl ⟨_, ⟨h1, h2, ?_⟩, .inr hm, hp⟩)
      have := hi.1
      simp only [List.length_append, List.length_take, List.length_cons, List.length_drop]
      omega
/-- What Get answers. -/
def GetPost (xs : List Ent) (key : ByteArray) (w : World) (e : Ending) (w' : World) : Prop := ∃ n b, e = .returned (.tuple #[.int .i64 n, .bool b]) ∧ ((b = true ∧ (⟨key, n⟩ : Ent) ∈ xs) ∨ (b = false ∧ n = 0 ∧ ∀ z ∈ xs, z.f0 ≠ key)) ∧ Below w.heap.size w w'
set_option maxHeartbeats 4000000 in
set_option maxRecDepth 20000 in
theorem get_any {w : World} {base b : Nat} {v : Value} {xs : List Ent} {most : Int} (h : Tab w base b v xs most) (key : ByteArray) :
    Calls Tryd.prog 9 #[.pointer (some ⟨b, 0, none⟩), .string key] w (GetPost xs key w) := by
  obtain ⟨A, c, rfl, hc⟩ := h.at_.form
  obtain ⟨c0, c1, f0⟩ := h.at_.cells
  have hf := find_any w b most A c xs key c0 h.at_.reads hc (by have := h.small; omega) h.rise
  have HF := hid hf
  have H := hid h
  clear hf h c0 c1 f0
  go_enter Tryd.func9, Tryd.ntmps9
  go_wp2_with (go_at_call 21; refine HF.out.mono ?_)
  clear HF
  rintro e w1 ⟨j, hj, rfl, hb⟩
  have h1 := H.out.below hb
  obtain ⟨c0, c1, f0⟩ := h1.at_.cells
  have HB := hid hb
  have HJ := hid hj
  cases hx : xs[j]? with
  | none =>
    have hh : hit xs key j = false := by unfold hit; rw [hx]
    have HNO := hid (no_key h1.rise hj (fun x e => by rw [hx] at e; cases e))
    rw [hh]
    clear h1 hb hj hx c0 c1 f0 hh
    go_wp2
    go_ret2
    exact ⟨0, false, rfl, .inr ⟨rfl, rfl, HNO.out⟩, HB.out⟩
  | some x =>
    have hil : j < xs.length := (List.getElem?_eq_some_iff.1 hx).1
    by_cases hk : x.f0 = key
    · have hh : hit xs key j = true := by unfold hit; rw [hx]; simp [hk]
      rw [hh]
      obtain ⟨a, rfl, e0, e1⟩ := at_T58 h1.at_.reads (j : Int) (by omega) (by omega)
      simp only [Int.toNat_natCast] at e0 e1
      have hrd : rd_T58 xs (j : Int) = x := by unfold rd_T58; rw [Int.toNat_natCast, List.getD_eq_getElem?_getD, hx]; rfl
      rw [hrd] at e0 e1
      have HIN := hid (show (⟨key, x.f1⟩ : Ent) ∈ xs from by rw [← hk]; exact List.mem_of_getElem? hx)
      have p0 : (0 : Int) ≤ (j : Int) := by omega
      have p1 : (j : Int) < (xs.length : Int) := by omega
      clear h1 hb hj hx f0 hh hrd e0
      go_wp2
      go_ret2
      exact ⟨x.f1, true, rfl, .inl ⟨rfl, HIN.out⟩, HB.out⟩
    · have hh : hit xs key j = false := by unfold hit; rw [hx]; simp [hk]
      have HNO := hid (no_key h1.rise hj (fun z e => by rw [hx] at e; cases e; exact hk))
      rw [hh]
      clear h1 hb hj hx c0 c1 f0 hh
      go_wp2
      go_ret2
      exact ⟨0, false, rfl, .inr ⟨rfl, rfl, HNO.out⟩, HB.out⟩
/-- What Drop answers. -/
def DropPost (base b : Nat) (v : Value) (xs : List Ent) (key : ByteArray) (most : Int) (w : World) (e : Ending) (w' : World) : Prop :=
  ∃ ys r v', e = .returned (.bool r) ∧ (r = true ↔ ∃ z ∈ xs, z.f0 = key) ∧ Rising ys ∧ (∀ z, z ∈ ys ↔ z ∈ xs ∧ z.f0 ≠ key) ∧ ys.length ≤ xs.length ∧ TabAt w' base b v' ys most ∧ Step (tfoot b v) w w' (tfoot b v')
set_option maxHeartbeats 4000000 in
set_option maxRecDepth 20000 in
theorem drop_any {w : World} {base b : Nat} {v : Value} {xs : List Ent} {most : Int} (h : Tab w base b v xs most) (key : ByteArray) :
    Calls Tryd.prog 11 #[.pointer (some ⟨b, 0, none⟩), .string key] w (DropPost base b v xs key most w) := by
  obtain ⟨A, c, rfl, hc⟩ := h.at_.form
  obtain ⟨c0, c1, f0⟩ := h.at_.cells
  have hf := find_any w b most A c xs key c0 h.at_.reads hc (by have := h.small; omega) h.rise
  have HF := hid hf
  have H := hid h
  clear hf h c0 c1 f0
  go_enter Tryd.func11, Tryd.ntmps11
  go_wp2_with (go_at_call 21; refine HF.out.mono ?_)
  clear HF
  rintro e w1 ⟨j, hj, rfl, hb⟩
  have h1 := H.out.below hb
  obtain ⟨c0, c1, f0⟩ := h1.at_.cells
  have HB := hid hb
  have HJ := hid hj
  by_cases hh : ∃ x, xs[j]? = some x ∧ x.f0 = key
  · obtain ⟨x, hx, hk⟩ := hh
    have hh : hit xs key j = true := by unfold hit; rw [hx]; simp [hk]
    rw [hh]
    have hil : j < xs.length := (List.getElem?_eq_some_iff.1 hx).1
    rcases h1.at_.own.2 with ⟨e, en⟩ | ⟨g, cap, cur, e, _⟩
    · omega
    · cases e
      have HD := hid (del_any j hil h1.at_.own (by have := h1.small; omega))
      obtain ⟨d1, d2⟩ := drop_one h1.rise hx hk
      have D1 := hid d1
      have D2 := hid d2
      have HX := hid (show ∃ z ∈ xs, z.f0 = key from ⟨x, List.mem_of_getElem? hx, hk⟩)
      have HL := hid (show (xs.take j ++ xs.drop (j + 1)).length ≤ xs.length from by simp only [List.length_append, List.length_take, List.length_drop]; omega)
      have H1 := hid h1
      clear h1 hb hj hx hh d1 d2
      have q0 : IntKind.i64.wrap ((j : Int) + 1) = (j : Int) + 1 := by rw [IntKind.wrap_i64]; have := H1.out.small; omega
      go_wp2_with fail
      refine HD.out.mono ?_
      clear HD
      obtain ⟨ys, hys⟩ : ∃ ys, xs.take j ++ xs.drop (j + 1) = ys := ⟨_, rfl⟩
      rw [hys] at D1 D2 HL ⊢
      rintro e w3 ⟨rfl, ho3, hm3⟩
      have hb3 := hm3.heap H1.out.at_.blk (fun e => H1.out.at_.ne (by rw [e]; rfl))
      have f3 : w3.frozen? ⟨b, 0, none⟩ = false := by simp [World.frozen?, hb3]
      have c3 : w3.cell? ⟨b, 0, none⟩ = some (.slice (some ⟨g, 0, none⟩) xs.length c) := by simp [World.cell?, hb3]
      have HO3 := hid ho3
      have HM3 := hid hm3
      have HB3 := hid hb3
      clear ho3 hm3 hb3 c0 c1 f0
      go_wp2
      go_ret
      refine ⟨ys, true, .slice (some ⟨g, 0, none⟩) ys.length c, rfl, by simp only [true_iff]; exact HX.out, D1.out, D2.out, HL.out, ⟨?_, ?_, H1.out.at_.ge⟩, ?_⟩
      · simp [World.setCell, Array.getElem?_modify, HB3.out]
      · exact World.ownsRow.kept HO3.out (row := some b) ⟨rfl, rfl, rfl, by simp [World.setCell], fun k hk hne => Below.heap_setCell w3 ⟨b, 0, none⟩ (.slice (some ⟨g, 0, none⟩) ys.length c) k (fun e => hne (by rw [e]))⟩ (.inr (fun e => H1.out.at_.ne e.symm))
      · refine Step.new_then HB.out ⟨(HM3.out.mono (fun k _ e => .inr (by rw [e]; rfl))).setCell ⟨b, 0, none⟩ _ (.inl (.inl rfl)), fun k hk => ?_⟩
        rcases hk with rfl | hk
        · exact .inl (.inl rfl)
        · exact .inl (.inr hk)
  · have hno : ∀ x, xs[j]? = some x → x.f0 ≠ key := fun x hx hk => hh ⟨x, hx, hk⟩
    have HNO := hid (no_key h1.rise hj hno)
    rw [hit_false hno]
    have H1 := hid h1
    clear h1 hb hj c0 c1 f0 hh hno
    go_wp2
    go_ret
    refine ⟨xs, false, _, rfl, ?_, H1.out.rise, fun z => ⟨fun hz => ⟨hz, HNO.out z hz⟩, fun hz => hz.1⟩, Nat.le_refl _, H1.out.at_, Step.new_then HB.out (Step.refl _ w1)⟩
    constructor
    · intro e; cases e
    · rintro ⟨z, hz, hk⟩; exact absurd hk (HNO.out z hz)
theorem room_any {w : World} {base b : Nat} {v : Value} {xs : List Ent} {most : Int} (h : TabAt w base b v xs most) : Calls Tryd.prog 20 #[.pointer (some ⟨b, 0, none⟩)] w fun e w' => e = .returned (.int .i64 (wrap64 (most - (xs.length : Nat)))) ∧ Below w.heap.size w w' := by
  obtain ⟨A, c, rfl, hc⟩ := h.form
  obtain ⟨c0, c1, f0⟩ := h.cells
  have HB := hid (Below.refl w.heap.size w)
  clear h
  go_enter Tryd.func20, Tryd.ntmps20
  go_wp2
  go_quiet (fail)
  go_wp2
  go_ret
  exact ⟨rfl, ⟨HB.out.os, HB.out.tape, HB.out.output, HB.out.size, HB.out.block⟩⟩
end Go.Proofs.YtcjmlfmpajcjjaaDoor

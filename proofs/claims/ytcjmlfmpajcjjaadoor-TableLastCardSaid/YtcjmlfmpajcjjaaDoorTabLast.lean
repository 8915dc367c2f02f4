/-
  TableLast's walk.
-/
import Derived.Test.YtcjmlfmpajcjjaaDoorTabLastP
import Derived.Test.YtcjmlfmpajcjjaaDoorStrs
import Derived.Deep.RegionHeld3
namespace Go.Proofs.YtcjmlfmpajcjjaaDoor
open Go.RowKit
open Go.Proofs.YtcjmlfmpajcjjaaDoorW.PrintWords (Kd rdOf)
open Go.Proofs.YtcjmlfmpajcjjaaDoor.PTableLast
set_option linter.unusedVariables false
theorem Tab.step {w w' : World} {base b : Nat} {v v' : Value} {xs ys : List Ent} {most : Int} (h : Tab w base b v xs most) (ht : TabAt w' base b v' ys most) (hs : Step (tfoot b v) w w' (tfoot b v')) (hr : Rising ys) (hl : ys.length ≤ 1000000) : Tab w' base b v' ys most := ⟨ht, hr, hl, Nat.le_trans h.base hs.mod.size⟩
/-- Put, where there is room. -/
def PutOk (base b : Nat) (v : Value) (xs : List Ent) (key : ByteArray) (n : Int) (most : Int) (w : World) (e : Ending) (w' : World) : Prop :=
  e = .returned .nilIface ∧ ∃ ys v', IsPut xs ys key n ∧ Tab w' base b v' ys most ∧ Step (tfoot b v) w w' (tfoot b v')
theorem put_ok {w : World} {base b : Nat} {v : Value} {xs : List Ent} {most : Int} (h : Tab w base b v xs most) (key : ByteArray) (n : Int) (hm : (xs.length : Int) ≠ most) (hs : xs.length < 1000000) :
    Calls Tryd.prog 8 #[.pointer (some ⟨b, 0, none⟩), .string key, .int .i64 n] w (PutOk base b v xs key n most w) := by
  refine (put_any h key n).mono ?_
  rintro e w' (⟨ys, hp, _, he, v', ht, hst⟩ | ⟨_, h2, _⟩)
  · exact ⟨he, ys, v', hp, h.step ht hst hp.1 (by have := hp.2.2; omega), hst⟩
  · exact absurd h2 hm
/-- Two tables that lie apart, above what came in. -/
structure Two (W w : World) (base a b : Nat) (va vb : Value) (xa xb : List Ent) : Prop where
  A : Tab w base a va xa 60
  B : Tab w base b vb xb 60
  sep : ∀ k, tfoot a va k → ¬ tfoot b vb k
  lo : W.heap.size ≤ base
  below : Below W.heap.size W w
theorem Two.putA {W w w' : World} {base a b : Nat} {va vb va' : Value} {xa xb xa' : List Ent} (h : Two W w base a b va vb xa xb) (ht : Tab w' base a va' xa' 60) (hs : Step (tfoot a va) w w' (tfoot a va')) : Two W w' base a b va' vb xa' xb := by
  refine ⟨ht, h.B.kept hs.mod (fun k hk e => h.sep k e hk), fun k hk e => ?_, h.lo, h.below.trans ?_⟩
  · rcases hs.foot k hk with h1 | h1
    · exact h.sep k h1 e
    · have := (h.B.at_.foot k e).2; omega
  · exact (hs.below (B := W.heap.size) (Nat.le_trans h.lo h.A.base) (fun k hk => Nat.le_trans h.lo (h.A.at_.foot k hk).1)).1
theorem Two.putB {W w w' : World} {base a b : Nat} {va vb vb' : Value} {xa xb xb' : List Ent} (h : Two W w base a b va vb xa xb) (ht : Tab w' base b vb' xb' 60) (hs : Step (tfoot b vb) w w' (tfoot b vb')) : Two W w' base a b va vb' xa xb' := by
  refine ⟨h.A.kept hs.mod (fun k hk e => h.sep k hk e), ht, fun k hk e => ?_, h.lo, h.below.trans ?_⟩
  · rcases hs.foot k e with h1 | h1
    · exact h.sep k hk h1
    · have := (h.A.at_.foot k hk).2; omega
  · exact (hs.below (B := W.heap.size) (Nat.le_trans h.lo h.A.base) (fun k hk => Nat.le_trans h.lo (h.B.at_.foot k hk).1)).1
theorem Two.new {W w w' : World} {base a b : Nat} {va vb : Value} {xa xb : List Ent} (h : Two W w base a b va vb xa xb) (hb : Below w.heap.size w w') : Two W w' base a b va vb xa xb := ⟨h.A.below hb, h.B.below hb, h.sep, h.lo, h.below.trans (hb.mono (Nat.le_trans h.lo h.A.base))⟩
theorem Two.dn {W w : World} {base a b : Nat} {va vb : Value} {xa xb : List Ent} (h : Two W w base a b va vb xa xb) : Two W w.drew base a b va vb xa xb := h.new ((Below.refl _ w).drew)
theorem two_new {W w1 w2 w3 : World} {a b : Nat} (h1 : Below W.heap.size W w1) (ha : TabAt w2 w1.heap.size a (.slice none 0 0) [] 60) (hba : Below w1.heap.size w1 w2) (hb : TabAt w3 w2.heap.size b (.slice none 0 0) [] 60) (hbb : Below w2.heap.size w2 w3) : Two W w3 w1.heap.size a b (.slice none 0 0) (.slice none 0 0) [] [] := by
  have hle : w1.heap.size ≤ w2.heap.size := hba.size
  refine ⟨⟨ha.new hbb, rising_nil, by simp, Nat.le_trans hle hbb.size⟩, ⟨⟨hb.blk, World.ownsRow_nil _ _ _ 2, Nat.le_trans hle hb.ge⟩, rising_nil, by simp, Nat.le_trans hle hbb.size⟩, fun k hk e => ?_, h1.size, (h1.trans (hba.mono h1.size)).trans (hbb.mono (Nat.le_trans h1.size hle))⟩
  have h2 := (ha.foot k hk).2
  have h3 := (hb.foot k e).1
  omega
theorem below_drewN (w : World) (n : Nat) : Below w.heap.size w (w.drewN n) := ⟨rfl, rfl, rfl, Nat.le_refl _, fun _ _ => rfl⟩
/-- The pairs that are put. -/
def kvs (ks : List ByteArray) (vs : List Int) : List KV := ks.zip vs
def lvl (l : List KV) (key : ByteArray) (vn vb : Value) : Prop := vn = .int .i64 (lastN l key) ∧ vb = .bool (lastB l key)
/-- The first loop's standing. -/
def LA (W : World) (base a b : Nat) (l : List KV) (key : ByteArray) (vn vb vi : Value) (w : World) : Prop :=
  ∃ (i : Nat) (va : Value) (xa : List Ent), i ≤ l.length ∧ vi = .int .i64 i ∧ lvl (l.take i) key vn vb ∧ Two W w base a b va (.slice none 0 0) xa [] ∧ Holds xa (l.take i)
/-- The second loop's. -/
def LB (W : World) (base a b : Nat) (va : Value) (xa : List Ent) (l : List KV) (vi : Value) (w : World) : Prop :=
  ∃ (z : Int) (i : Nat) (vb : Value) (xb : List Ent), i ≤ l.length ∧ vi = .int .i64 z ∧ z + 1 = (i : Int) ∧ Two W w base a b va vb xa xb ∧ Holds xb (l.drop i)
theorem lb_mk {W w : World} {base a b : Nat} {va vb : Value} {xa xb : List Ent} {l : List KV} {j : Nat} (h1 : j ≤ l.length) (h2 : Two W w base a b va vb xa xb) (h3 : Holds xb (l.drop j)) : LB W base a b va xa l (.int .i64 ((j : Int) - 1)) w := ⟨(j : Int) - 1, j, vb, xb, h1, rfl, by omega, h2, h3⟩
theorem rowc_at {W : World} {v : Value} {cs : List Value} (h : RowC W v cs) {i : Nat} {u : Value} (hu : cs[i]? = some u) : ∃ b o cap, v = .slice (some ⟨b, o, none⟩) cs.length cap ∧ W.cell? ⟨b, o + i, none⟩ = some u := by
  obtain ⟨a, cap, rfl, _, hc⟩ := h
  have hl : i < cs.length := (List.getElem?_eq_some_iff.1 hu).1
  obtain ⟨b, o, rfl, hi⟩ := hc (by omega)
  exact ⟨b, o, cap, rfl, hi i u hu⟩
theorem kvs_at {ks : List ByteArray} {vs : List Int} {i : Nat} (h1 : i < ks.length) (h2 : i < vs.length) : ∃ k v, ks[i]? = some k ∧ vs[i]? = some v ∧ (kvs ks vs).take (i + 1) = (kvs ks vs).take i ++ [(k, v)] ∧ (kvs ks vs).drop i = (k, v) :: (kvs ks vs).drop (i + 1) := by
  have hl : i < (kvs ks vs).length := by unfold kvs; rw [List.length_zip]; omega
  refine ⟨ks[i], vs[i], by simp, by simp, ?_, ?_⟩
  · rw [List.take_succ_eq_append_getElem hl]; simp [kvs]
  · rw [List.drop_eq_getElem_cons hl]; simp [kvs]
theorem kvs_len (ks : List ByteArray) (vs : List Int) : (kvs ks vs).length = min ks.length vs.length := by unfold kvs; rw [List.length_zip]
set_option maxHeartbeats 8000000 in
set_option maxRecDepth 20000 in
theorem tableLast_walk (kv : Value) (ks : List ByteArray) (ia : Option Addr) (il ic : Nat) (zs : List Int) (key : ByteArray) (W : World) (hk : RowC W kv (ks.map Value.string) ∧ (∀ s ∈ ks, s.size ≤ maxLen)) (hi : IsRow .i64 W ia il ic zs) (hkey : key.size ≤ maxLen) (hg : ErrorType W) :
    Calls Tryd.prog 3 #[kv, .slice ia il ic, .string key] W (TruePost W) := by
  have hvr := hi.rowC (by rcases hi with ⟨_, e, _⟩ | ⟨_, _, h1, h2, _⟩ <;> omega)
  obtain ⟨vv, hvv⟩ : ∃ vv, Value.slice ia il ic = vv := ⟨_, rfl⟩
  obtain ⟨vs, hvs⟩ : ∃ vs, zs.take il = vs := ⟨_, rfl⟩
  rw [hvv, hvs] at hvr
  rw [hvv]
  have HKR := hid hk.1
  have HKS := hid hk.2
  have HVR := hid hvr
  have HA := hid (alive_any W hg)
  obtain ⟨ka, kcap, ekv, hkm, _⟩ := hk.1
  obtain ⟨va, vcap, evv, hvm, _⟩ := hvr
  rw [List.length_map] at ekv hkm
  rw [List.length_map] at evv hvm
  clear hk hi hg hvv
  subst ekv evv
  have EKV := HKR
  by_cases hlen : 60 < ks.length
  · have t0 : decide ((60 : Int) < (ks.length : Int)) = true := decide_eq_true (by omega)
    go_enter Tryd.func3, Tryd.ntmps3
    go_wp2_with (go_at_call 6; refine HA.out.mono ?_; rintro e w1 ⟨rfl, hb⟩; have HB := hid hb; clear hb)
    go_ret
    exact TruePost.mk rfl HB.out
  · have t0 : decide ((60 : Int) < (ks.length : Int)) = false := decide_eq_false (by omega)
    go_enter Tryd.func3, Tryd.ntmps3
    go_wp2_with (first | (go_at_call 6; refine HA.out.mono ?_; rintro e w1 ⟨rfl, hb⟩; have HB := hid hb; clear hb) | fail)
    refine (new_any 60 _).mono ?_
    rw [if_neg (by omega)]
    rintro e w2 ⟨a, rfl, ha, hba⟩
    have HTA := hid ha
    have HBA := hid hba
    clear ha hba
    go_wp2_with fail
    refine (new_any 60 _).mono ?_
    rw [if_neg (by omega)]
    rintro e w3 ⟨b, rfl, hb, hbb⟩
    have T0 := hid (two_new HB.out HTA.out HBA.out hb hbb)
    clear hb hbb HTA HBA
    obtain ⟨base, hbase⟩ : ∃ base, w1.heap.size = base := ⟨_, rfl⟩
    rw [hbase] at T0
    clear hbase HB HA
    go_wp2_with fail
    obtain ⟨l, hl⟩ : ∃ l, kvs ks vs = l := ⟨_, rfl⟩
    have hll : l.length = min ks.length vs.length := by rw [← hl, kvs_len]
    have K9 : Hid (∀ i, i < ks.length → i < vs.length → ∃ k v, ks[i]? = some k ∧ vs[i]? = some v ∧ l.take (i + 1) = l.take i ++ [(k, v)] ∧ l.drop i = (k, v) :: l.drop (i + 1)) := hid (fun i h1 h2 => by rw [← hl]; exact kvs_at h1 h2)
    clear hl
    go_loopw [9, 10, 11] (fun vn vb vi wr => LA W base a b l key vn vb vi wr) (fun _ _ vi _ => l.length - (intOf vi).toNat)
    case atStart => exact ⟨0, _, [], Nat.zero_le _, rfl, ⟨rfl, rfl⟩, T0.out, holds_nil⟩
    case round =>
      obtain ⟨i, wa, xa, hil, rfl, ⟨rfl, rfl⟩, ht, hh⟩ := hrel
      have T := hid ht
      have HH := hid hh
      clear ht hh T0
      by_cases c : i < l.length
      · have t1 : decide (i < ks.length) = true := decide_eq_true (by omega)
        have t2 : decide (i < vs.length) = true := decide_eq_true (by omega)
        obtain ⟨k, v, hk1, hv1, htk, _⟩ := K9.out i (by omega) (by omega)
        obtain ⟨kb, ko, kc, ek, hkc⟩ := rowc_at (u := .string k) HKR.out (by rw [List.getElem?_map, hk1]; rfl)
        obtain ⟨vb, vo, vc, ev, hvc⟩ := rowc_at (u := .int .i64 v) HVR.out (by rw [List.getElem?_map, hv1]; rfl)
        rw [List.length_map] at ek ev
        cases ek
        cases ev
        have C9 : Hid (∀ x, Below W.heap.size W x → Below W.heap.size W x ∧ x.cell? ⟨kb, ko + i, none⟩ = some (.string k) ∧ x.cell? ⟨vb, vo + i, none⟩ = some (.int .i64 v)) := hid (fun x hx => ⟨hx, (hx.cell (lt_of_cell hkc)).trans hkc, (hx.cell (lt_of_cell hvc)).trans hvc⟩)
        have HTK := hid htk
        obtain ⟨_, c0, c1⟩ := C9.out _ T.out.below
        have p0 : (0 : Int) ≤ (i : Int) := by omega
        have p1 : (i : Int) < (ks.length : Int) := by omega
        have p2 : (i : Int) < (vs.length : Int) := by omega
        clear hk1 hv1 htk hkc hvc
        by_cases hlong : 2000 < k.size
        · have t3 : decide ((2000 : Int) < (k.size : Int)) = true := decide_eq_true (by omega)
          go_wp2
          go_quiet (fail)
          obtain ⟨_, c2, c3⟩ := C9.out (wr.drewN nq) ⟨T.out.below.os, T.out.below.tape, T.out.below.output, T.out.below.size, T.out.below.block⟩
          go_wp2
          go_ret
          exact TruePost.mk rfl ⟨T.out.below.os, T.out.below.tape, T.out.below.output, T.out.below.size, T.out.below.block⟩
        · have t3 : decide ((2000 : Int) < (k.size : Int)) = false := decide_eq_false (by omega)
          have hroom : (xa.length : Int) ≠ 60 := by have := HH.out.2.2; rw [List.length_take] at this; omega
          have hsm : xa.length < 1000000 := by have := HH.out.2.2; rw [List.length_take] at this; omega
          go_wp2
          go_region_held3 (fun x => Below W.heap.size W x ∧ x.cell? ⟨kb, ko + i, none⟩ = some (.string k) ∧ x.cell? ⟨vb, vo + i, none⟩ = some (.int .i64 v))
            (first | exact C9.out _ T2.out.below | exact C9.out _ T.out.dn.below)
            ((go_at_call 8; refine (put_ok T.out.dn.A k v hroom hsm).mono ?_; rintro e y ⟨rfl, ys, va2, hp, ht, hs⟩; have T2 := hid (T.out.dn.putA ht hs); have HP := hid hp; clear hp ht hs))
          all_goals (obtain ⟨_, c2, c3⟩ := C9.out _ T2.out.below)
          have hnew : Holds ys (l.take (i + 1)) := by rw [HTK.out]; exact holds_put HH.out HP.out
          have HNEW := hid hnew
          obtain ⟨l1, l2⟩ := last_put (l.take i) k key v
          rw [← HTK.out] at l1 l2
          by_cases hkk : k = key
          · rw [if_pos hkk] at l1 l2
            have L1 := hid l1
            have L2 := hid l2
            have q0 : (k.toList == key.toList) = true := by rw [hkk]; simp
            clear hkk hnew l1 l2
            go_wp2
            exact ⟨⟨i + 1, va2, ys, by omega, by congr 1, ⟨by rw [L1.out], by rw [L2.out]⟩, T2.out, HNEW.out⟩, by simp [intOf] <;> omega⟩
          · rw [if_neg hkk] at l1 l2
            have L1 := hid l1
            have L2 := hid l2
            have q0 : (k.toList == key.toList) = false := by simp; exact fun e => hkk (toList_inj e)
            clear hkk hnew l1 l2
            go_wp2
            exact ⟨⟨i + 1, va2, ys, by omega, by congr 1, ⟨by rw [L1.out], by rw [L2.out]⟩, T2.out, HNEW.out⟩, by simp [intOf] <;> omega⟩
      · obtain rfl : i = l.length := by omega
        rw [List.take_length] at HH
        obtain ⟨m, hm⟩ : ∃ m, l.length = m := ⟨_, rfl⟩
        rw [List.take_length, hm]
        have hmin : (min (ks.length : Int) (vs.length : Int)) = (m : Int) := by omega
        have hcase : m < ks.length ∨ ¬ m < ks.length := by omega
        have hz1 : (m : Int) - 1 + 1 = (m : Int) := by omega
        have HMID : Hid (∀ i, i < m → i < ks.length ∧ i < vs.length ∧ i < l.length) := hid (fun i h => by omega)
        have HML : Hid (l.length = m) := hid hm
        have HM60 : Hid (m ≤ 60) := hid (by omega)
        have HNIL : Hid (Holds ([] : List Ent) (l.drop m)) := hid (by rw [← hm, List.drop_length]; exact holds_nil)
        clear hm hll
        rcases hcase with hc1 | hc1
        · have t1 : decide (m < ks.length) = true := decide_eq_true (by omega)
          have t2 : decide (m < vs.length) = false := decide_eq_false (by omega)
          go_wp2_with fail
          clear t1 t2
          go_loopw [12] (fun vi wr2 => LB W base a b wa xa l vi wr2) (fun vi _ => (intOf vi + 1).toNat)
          case atStart => exact ⟨(m : Int) - 1, m, _, [], by have := HML.out; omega, rfl, hz1, T.out, HNIL.out⟩
          case round =>
            obtain ⟨z, i, wb, xb, hil, rfl, hzi, ht, hh⟩ := hrel
            have T5 := hid ht
            have H5 := hid hh
            clear ht hh T hmin hz1
            rcases i with _ | j
            · have hzz : z = -1 := by omega
              subst hzz
              rw [List.drop_zero] at H5
              have HXX := hid (holds_one HH.out H5.out)
              have e0 : decide ((0 : Int) ≤ -1) = false := by decide
              have LL := hid (len_any T5.out.A.at_)
              go_wp2_with fail
              refine (get_any T5.out.A key).mono ?_
              rintro e w6 ⟨n1, b1, rfl, hg1, hb1⟩
              obtain ⟨rfl, rfl⟩ := get_last HH.out hg1
              have T6 := hid (T5.out.new hb1)
              clear hg1 hb1
              go_wp2_with fail
              refine (get_any T6.out.B key).mono ?_
              rintro e w7 ⟨n1, b1, rfl, hg1, hb1⟩
              obtain ⟨rfl, rfl⟩ := get_last H5.out hg1
              have T7 := hid (T6.out.new hb1)
              clear hg1 hb1
              have LA7 := hid (len_any T7.out.A.at_)
              have LB7 := hid (len_any T7.out.B.at_)
              rw [← HXX.out] at LB7
              go_wp2_with fail
              refine LA7.out.mono ?_
              rintro e w8 ⟨rfl, rfl⟩
              go_wp2_with fail
              refine LB7.out.mono ?_
              rintro e w9 ⟨rfl, rfl⟩
              go_wp2_with fail
              refine (drop_any T7.out.A key).mono ?_
              rintro e w10 ⟨ys, r, va3, rfl, hr, hrise, hmem, hyl, ht, hs⟩
              obtain rfl := drop_last HH.out hr
              have T8 := hid (T7.out.putA (T7.out.A.step ht hs hrise (by have := T7.out.A.small; omega)) hs)
              have HMEM := hid hmem
              clear hr hrise hmem hyl ht hs
              go_wp2_with fail
              refine (drop_any T8.out.A key).mono ?_
              rintro e w11 ⟨ys2, r, va4, rfl, hr, hrise, hmem, hyl, ht, hs⟩
              obtain rfl : r = false := by
                cases r with
                | false => rfl
                | true =>
                  obtain ⟨z, hz, hk⟩ := hr.1 rfl
                  exact absurd hk ((HMEM.out z).1 hz).2
              have HB8 := hid (T8.out.putA (T8.out.A.step ht hs hrise (by have := T8.out.A.small; omega)) hs).below
              clear hr hrise hmem hyl ht hs
              go_wp2
              go_ret
              exact TruePost.mk rfl HB8.out
            · have hzj : z = (j : Int) := by omega
              subst hzj
              obtain ⟨hj1, hj2, hj3⟩ := HMID.out j (by have := HML.out; omega)
              obtain ⟨k, v, hk1, hv1, _, htk⟩ := K9.out j hj1 hj2
              obtain ⟨kb, ko, kc, ek, hkc⟩ := rowc_at (u := .string k) HKR.out (by rw [List.getElem?_map, hk1]; rfl)
              obtain ⟨vb, vo, vc, ev, hvc⟩ := rowc_at (u := .int .i64 v) HVR.out (by rw [List.getElem?_map, hv1]; rfl)
              rw [List.length_map] at ek ev
              cases ek
              cases ev
              have C9 : Hid (∀ x, Below W.heap.size W x → Below W.heap.size W x ∧ x.cell? ⟨kb, ko + j, none⟩ = some (.string k) ∧ x.cell? ⟨vb, vo + j, none⟩ = some (.int .i64 v)) := hid (fun x hx => ⟨hx, (hx.cell (lt_of_cell hkc)).trans hkc, (hx.cell (lt_of_cell hvc)).trans hvc⟩)
              have HTK := hid htk
              obtain ⟨_, c0, c1⟩ := C9.out _ T5.out.below
              have e0 : decide ((0 : Int) ≤ (j : Int)) = true := decide_eq_true (by omega)
              have p0 : (0 : Int) ≤ (j : Int) := by omega
              have p1 : (j : Int) < (ks.length : Int) := by omega
              have p2 : (j : Int) < (vs.length : Int) := by omega
              clear hk1 hv1 htk hkc hvc
              go_wp2_with fail
              refine (get_any T5.out.B k).mono ?_
              rintro e w6 ⟨n1, b1, rfl, hg1, hb1⟩
              have T6 := hid (T5.out.new hb1)
              obtain ⟨_, c2, c3⟩ := C9.out _ T6.out.below
              clear hb1 c0 c1
              rcases hg1 with ⟨rfl, hin⟩ | ⟨rfl, rfl, hno⟩
              · have HNEW : Hid (Holds xb (l.drop j)) := hid (by rw [HTK.out]; exact holds_old H5.out hin)
                clear hin
                go_wp2
                go_quiet (fail)
                go_wp2
                have hlb := lb_mk (show j ≤ l.length by omega) (T6.out.new (below_drewN w6 nq)) HNEW.out
                first
                | exact ⟨hlb, by simp [intOf] <;> omega⟩
                | (refine ⟨?_, by simp [intOf] <;> omega⟩
                   repeat apply Exists.intro
                   exact ⟨hlb, rfl⟩)
              · have hroom : (xb.length : Int) ≠ 60 := by have := H5.out.2.2; rw [List.length_drop] at this; have := HML.out; have := HM60.out; omega
                have hsm : xb.length < 1000000 := by have := H5.out.2.2; rw [List.length_drop] at this; have := HML.out; have := HM60.out; omega
                have HNO := hid hno
                clear hno
                go_wp2
                go_region_held3 (fun x => Below W.heap.size W x ∧ x.cell? ⟨kb, ko + j, none⟩ = some (.string k) ∧ x.cell? ⟨vb, vo + j, none⟩ = some (.int .i64 v))
                  (first | exact C9.out _ T7.out.below | exact C9.out _ T6.out.dn.below)
                  ((go_at_call 8; refine (put_ok T6.out.dn.B k v hroom hsm).mono ?_; rintro e y ⟨rfl, ys, vb2, hp, ht, hs⟩; have T7 := hid (T6.out.dn.putB ht hs); have HP := hid hp; clear hp ht hs))
                have HNEW : Hid (Holds ys (l.drop j)) := hid (by rw [HTK.out]; exact holds_new H5.out HNO.out HP.out)
                go_wp2
                have hlb := lb_mk (show j ≤ l.length by omega) (T7.out) HNEW.out
                go_roundw
                case rel => exact hlb
                case measure => simp [intOf] <;> omega
        · have t1 : decide (m < ks.length) = false := decide_eq_false (by omega)
          go_wp2_with fail
          clear t1
          go_loopw [12] (fun vi wr2 => LB W base a b wa xa l vi wr2) (fun vi _ => (intOf vi + 1).toNat)
          case atStart => exact ⟨(m : Int) - 1, m, _, [], by have := HML.out; omega, rfl, hz1, T.out, HNIL.out⟩
          case round =>
            obtain ⟨z, i, wb, xb, hil, rfl, hzi, ht, hh⟩ := hrel
            have T5 := hid ht
            have H5 := hid hh
            clear ht hh T hmin hz1
            rcases i with _ | j
            · have hzz : z = -1 := by omega
              subst hzz
              rw [List.drop_zero] at H5
              have HXX := hid (holds_one HH.out H5.out)
              have e0 : decide ((0 : Int) ≤ -1) = false := by decide
              have LL := hid (len_any T5.out.A.at_)
              go_wp2_with fail
              refine (get_any T5.out.A key).mono ?_
              rintro e w6 ⟨n1, b1, rfl, hg1, hb1⟩
              obtain ⟨rfl, rfl⟩ := get_last HH.out hg1
              have T6 := hid (T5.out.new hb1)
              clear hg1 hb1
              go_wp2_with fail
              refine (get_any T6.out.B key).mono ?_
              rintro e w7 ⟨n1, b1, rfl, hg1, hb1⟩
              obtain ⟨rfl, rfl⟩ := get_last H5.out hg1
              have T7 := hid (T6.out.new hb1)
              clear hg1 hb1
              have LA7 := hid (len_any T7.out.A.at_)
              have LB7 := hid (len_any T7.out.B.at_)
              rw [← HXX.out] at LB7
              go_wp2_with fail
              refine LA7.out.mono ?_
              rintro e w8 ⟨rfl, rfl⟩
              go_wp2_with fail
              refine LB7.out.mono ?_
              rintro e w9 ⟨rfl, rfl⟩
              go_wp2_with fail
              refine (drop_any T7.out.A key).mono ?_
              rintro e w10 ⟨ys, r, va3, rfl, hr, hrise, hmem, hyl, ht, hs⟩
              obtain rfl := drop_last HH.out hr
              have T8 := hid (T7.out.putA (T7.out.A.step ht hs hrise (by have := T7.out.A.small; omega)) hs)
              have HMEM := hid hmem
              clear hr hrise hmem hyl ht hs
              go_wp2_with fail
              refine (drop_any T8.out.A key).mono ?_
              rintro e w11 ⟨ys2, r, va4, rfl, hr, hrise, hmem, hyl, ht, hs⟩
              obtain rfl : r = false := by
                cases r with
                | false => rfl
                | true =>
                  obtain ⟨z, hz, hk⟩ := hr.1 rfl
                  exact absurd hk ((HMEM.out z).1 hz).2
              have HB8 := hid (T8.out.putA (T8.out.A.step ht hs hrise (by have := T8.out.A.small; omega)) hs).below
              clear hr hrise hmem hyl ht hs
              go_wp2
              go_ret
              exact TruePost.mk rfl HB8.out
            · have hzj : z = (j : Int) := by omega
              subst hzj
              obtain ⟨hj1, hj2, hj3⟩ := HMID.out j (by have := HML.out; omega)
              obtain ⟨k, v, hk1, hv1, _, htk⟩ := K9.out j hj1 hj2
              obtain ⟨kb, ko, kc, ek, hkc⟩ := rowc_at (u := .string k) HKR.out (by rw [List.getElem?_map, hk1]; rfl)
              obtain ⟨vb, vo, vc, ev, hvc⟩ := rowc_at (u := .int .i64 v) HVR.out (by rw [List.getElem?_map, hv1]; rfl)
              rw [List.length_map] at ek ev
              cases ek
              cases ev
              have C9 : Hid (∀ x, Below W.heap.size W x → Below W.heap.size W x ∧ x.cell? ⟨kb, ko + j, none⟩ = some (.string k) ∧ x.cell? ⟨vb, vo + j, none⟩ = some (.int .i64 v)) := hid (fun x hx => ⟨hx, (hx.cell (lt_of_cell hkc)).trans hkc, (hx.cell (lt_of_cell hvc)).trans hvc⟩)
              have HTK := hid htk
              obtain ⟨_, c0, c1⟩ := C9.out _ T5.out.below
              have e0 : decide ((0 : Int) ≤ (j : Int)) = true := decide_eq_true (by omega)
              have p0 : (0 : Int) ≤ (j : Int) := by omega
              have p1 : (j : Int) < (ks.length : Int) := by omega
              have p2 : (j : Int) < (vs.length : Int) := by omega
              clear hk1 hv1 htk hkc hvc
              go_wp2_with fail
              refine (get_any T5.out.B k).mono ?_
              rintro e w6 ⟨n1, b1, rfl, hg1, hb1⟩
              have T6 := hid (T5.out.new hb1)
              obtain ⟨_, c2, c3⟩ := C9.out _ T6.out.below
              clear hb1 c0 c1
              rcases hg1 with ⟨rfl, hin⟩ | ⟨rfl, rfl, hno⟩
              · have HNEW : Hid (Holds xb (l.drop j)) := hid (by rw [HTK.out]; exact holds_old H5.out hin)
                clear hin
                go_wp2
                go_quiet (fail)
                go_wp2
                have hlb := lb_mk (show j ≤ l.length by omega) (T6.out.new (below_drewN w6 nq)) HNEW.out
                first
                | exact ⟨hlb, by simp [intOf] <;> omega⟩
                | (refine ⟨?_, by simp [intOf] <;> omega⟩
                   repeat apply Exists.intro
                   exact ⟨hlb, rfl⟩)
              · have hroom : (xb.length : Int) ≠ 60 := by have := H5.out.2.2; rw [List.length_drop] at this; have := HML.out; have := HM60.out; omega
                have hsm : xb.length < 1000000 := by have := H5.out.2.2; rw [List.length_drop] at this; have := HML.out; have := HM60.out; omega
                have HNO := hid hno
                clear hno
                go_wp2
                go_region_held3 (fun x => Below W.heap.size W x ∧ x.cell? ⟨kb, ko + j, none⟩ = some (.string k) ∧ x.cell? ⟨vb, vo + j, none⟩ = some (.int .i64 v))
                  (first | exact C9.out _ T7.out.below | exact C9.out _ T6.out.dn.below)
                  ((go_at_call 8; refine (put_ok T6.out.dn.B k v hroom hsm).mono ?_; rintro e y ⟨rfl, ys, vb2, hp, ht, hs⟩; have T7 := hid (T6.out.dn.putB ht hs); have HP := hid hp; clear hp ht hs))
                have HNEW : Hid (Holds ys (l.drop j)) := hid (by rw [HTK.out]; exact holds_new H5.out HNO.out HP.out)
                go_wp2
                have hlb := lb_mk (show j ≤ l.length by omega) (T7.out) HNEW.out
                go_roundw
                case rel => exact hlb
                case measure => simp [intOf] <;> omega
end Go.Proofs.YtcjmlfmpajcjjaaDoor

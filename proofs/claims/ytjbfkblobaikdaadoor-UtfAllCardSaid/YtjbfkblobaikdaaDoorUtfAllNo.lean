/-
  The statement UtfAll: its call answers true where no byte is bad.
-/
import Derived.Test.YtjbfkblobaikdaaDoorUtfAllHead

namespace Go.Proofs.YtjbfkblobaikdaaDoor
open Go.RowKit Go.Shelf
attribute [local go_sem] Oper.semAt_some
set_option linter.unusedVariables false

set_option maxRecDepth 100000 in
set_option maxHeartbeats 40000000 in
theorem utfAll_no (s : ByteArray) (stop : Int) (w : World) (hs : s.size ≤ maxLen) (h0 : 0 ≤ stop) (h1 : stop ≤ 255) (hg : ErrorType w) (hL : LeastAt w) (r : Int) (hr : badS s.data.toList = r) (hr0 : ¬ 0 ≤ r) (hbig : ¬ 5000 < s.size) : Calls Tryd.prog 6 #[.string s, .int .u8 stop] w (TruePost w) := by
  have HG := hid hg
  have HL := hid hL
  have hLl := hL.lt
  have hGl := hg.lt
  clear hg hL
  refine (callsIn_wide (n := 3)).1 ?_
  refine callsIn_of_wp_marks Tryd.func6 rfl trivial ?_ rfl
  simp only [Tryd.ntmps6, List.size_toArray, List.length_cons, List.length_nil, Nat.reduceAdd, Nat.reduceSub, Array.replicate_succ, Array.replicate_zero, List.push_toArray, List.append_toArray, List.nil_append, List.cons_append]
  have HA : Hid (Below w.heap.size w ((w.alloc (.cells #[.int .u8 stop] 5)).alloc (.cells #[.bool false] 4))) := hid (((Below.refl _ w).alloc (Nat.le_refl _) _).alloc (by simp) _)
  have d0 : Bx ((w.alloc (.cells #[.int .u8 stop] 5)).alloc (.cells #[.bool false] 4)) w.heap.size (.int .u8 stop) := (Bx.new w _ _).alloc _
  have d1 := Bx.new (w.alloc (.cells #[.int .u8 stop] 5)) (.bool false) 4
  have dsz : ((w.alloc (.cells #[.int .u8 stop] 5)).alloc (.cells #[.bool false] 4)).heap.size = w.heap.size + 2 := by simp
  rw [World.size_alloc] at d1
  obtain ⟨wa, hwa⟩ : ∃ wa, (w.alloc (.cells #[.int .u8 stop] 5)).alloc (.cells #[.bool false] 4) = wa := ⟨_, rfl⟩
  rw [hwa] at HA d0 d1 dsz
  have t0 : decide ((5000 : Int) < (s.size : Int)) = false := decide_eq_false (by omega)
  have efn := eq_fn
  · have t1 : decide ((0 : Int) ≤ r) = false := decide_eq_false hr0
    gi_wp2_with (first | (refine ⟨trivial, ?_⟩; gi_at_call 7; (try rw [hwa]); refine (callsIn_wide.2 (alive_any _ (HG.out.below HA.out hGl) (HL.out.below HA.out hLl))).mono ?_; intro e w1 hp; obtain ⟨rfl, hb⟩ := hp.call; have HB1 := hid hb; have e0 := d0.below hb; have e1 := d1.below hb; have E0 := hid e0; have E1 := hid e1; have hw1 := hb.size; obtain ⟨p1, q1⟩ := e1; clear hb hp e0) | (refine ⟨trivial, ?_⟩; gi_at_call 16; refine (callsIn_wide.2 (all_any _ _)).mono ?_; intro e w2 hp; obtain ⟨T, rfl, rfl⟩ := hp) | (refine ⟨trivial, ?_⟩; gi_at_call 9; refine (callsIn_wide.2 (bad_any _ _ (by omega))).mono ?_; intro e w3 hp; unfold NumPost at hp; rw [hr] at hp; obtain ⟨rfl, hb3⟩ := hp; have HB3 := hid hb3; clear hb3))
    have hw3 := HB3.out.size
    have c0 := ((E0.out.alloc (.cells #[.string s] T)).below HB3.out)
    have c1 := ((E1.out.alloc (.cells #[.string s] T)).below HB3.out)
    have cs := (Bx.new w1 (.string s) T).below HB3.out
    refine wpIn_loop_rounds 3 ?_
    rw [roundsIn_succ]
    gi_wp2
    have hb0 : Below w.heap.size w w3 := (below_then HA.out HB1.out).trans ((((Below.refl _ w1).alloc (Nat.le_refl _) (.cells #[.string s] T)).trans (HB3.out.mono (by simp))).mono (by omega))
    have hws : w.heap.size + 2 ≤ w1.heap.size ∧ w1.heap.size + 1 ≤ w3.heap.size := ⟨by omega, by simpa using hw3⟩
    refine at_world (fun x => Bx x w.heap.size (.int .u8 stop) ∧ Bx x (w.heap.size + 1) (.bool false) ∧ Bx x w1.heap.size (.string s) ∧ Bx x w3.heap.size (.int .i64 0) ∧ Bx x (w3.heap.size + 1) (.int .i64 0) ∧ Bx x (w3.heap.size + 2) (.string ⟨#[]⟩) ∧ Bx x (w3.heap.size + 3) (.int .i64 0) ∧ Below w.heap.size w x ∧ x.heap.size = w3.heap.size + 4) ⟨?_, ?_, ?_, ?_, ?_, ?_, ?_, ?_, ?_⟩ ?_
    · (repeat (first | assumption | exact Bx.new' (by first | rfl | (simp; done) | (simp; omega)) | refine Bx.set ?_ _ | refine Bx.put ?_ (by first | omega | (simp; done) | (simp; omega)) _ | refine Bx.alloc ?_ _))
    · (repeat (first | assumption | exact Bx.new' (by first | rfl | (simp; done) | (simp; omega)) | refine Bx.set ?_ _ | refine Bx.put ?_ (by first | omega | (simp; done) | (simp; omega)) _ | refine Bx.alloc ?_ _))
    · (repeat (first | assumption | exact Bx.new' (by first | rfl | (simp; done) | (simp; omega)) | refine Bx.set ?_ _ | refine Bx.put ?_ (by first | omega | (simp; done) | (simp; omega)) _ | refine Bx.alloc ?_ _))
    · (repeat (first | assumption | exact Bx.new' (by first | rfl | (simp; done) | (simp; omega)) | refine Bx.set ?_ _ | refine Bx.put ?_ (by first | omega | (simp; done) | (simp; omega)) _ | refine Bx.alloc ?_ _))
    · (repeat (first | assumption | exact Bx.new' (by first | rfl | (simp; done) | (simp; omega)) | refine Bx.set ?_ _ | refine Bx.put ?_ (by first | omega | (simp; done) | (simp; omega)) _ | refine Bx.alloc ?_ _))
    · (repeat (first | assumption | exact Bx.new' (by first | rfl | (simp; done) | (simp; omega)) | refine Bx.set ?_ _ | refine Bx.put ?_ (by first | omega | (simp; done) | (simp; omega)) _ | refine Bx.alloc ?_ _))
    · (repeat (first | assumption | exact Bx.new' (by first | rfl | (simp; done) | (simp; omega)) | refine Bx.set ?_ _ | refine Bx.put ?_ (by first | omega | (simp; done) | (simp; omega)) _ | refine Bx.alloc ?_ _))
    · (repeat (first | assumption | refine Below.alloc ?_ (by first | omega | (simp; done) | (simp; omega)) _ | refine Below.setCell ?_ (by first | omega | (simp; done) | (simp; omega)) _))
    · simp
    rintro wl ⟨m0, m1, m2, m3, m4, m5, m6, hbl, hsl⟩
    have hlw : LeastAt wl := HL.out.below hbl hLl
    refine wpIn_rangeFunc_ownF (n := 3) rfl (by omega) (gf := 20) (lb := #[.pointer (some ⟨w1.heap.size, 0, none⟩)]) rfl trivial (enters_of Tryd.func20 (by kernel_rfl) rfl)
      (all_stops 2 (by omega) w1.heap.size w3.heap.size s wl (by omega) (by omega) m2.1 (by omega) hlw (by omega)) belowK_t (belowK_b (by omega)) (Below.refl _ _) (fun _ => rfl)
      (IB s w stop w3.heap.size 0 wl) (XB s w stop w3.heap.size 0 wl)
      ?hI ?hIx ?h0 ?a1 ?assign ?body ?done ?stop
    case hI => exact ib_own hbl.size (by omega) (by omega)
    case hIx => exact fun c => xb_own hbl.size (by omega) (by omega)
    case h0 => exact ⟨⟨⟨⟨#[]⟩, rfl, m5⟩, m4, m6, m3, m0, m1, good_nil⟩, hbl, Below.refl _ _⟩
    case assign =>
      intro l x W K hK
      gi_wp2
      exact hK
    case body =>
      rintro l pre x W ⟨⟨⟨t, ht, b2⟩, b1, b3, b0, bs, br, hg⟩, hB, hB2⟩ hlen
      have Hb2 := hid b2
      have Hb1 := hid b1
      have Hb3 := hid b3
      have Hb0 := hid b0
      have Hbs := hid bs
      have Hbr := hid br
      obtain ⟨k1, g1⟩ := b1
      obtain ⟨k2, g2⟩ := b2
      obtain ⟨k3, g3⟩ := b3
      obtain ⟨k0, g0⟩ := b0
      obtain ⟨ks, gs⟩ := bs
      obtain ⟨kr, gr⟩ := br
      by_cases hx1 : x.1 = ((catS pre).length : Int)
      · have u1 : (x.1 == ((catS pre).length : Int)) = true := beq_iff_eq.2 hx1
        by_cases hx2 : x.2 < 0
        · have u2 : decide (x.2 < 0) = true := decide_eq_true hx2
          gi_wp2
          exact ⟨KeepsOthers.setCell _ _ _, .inl ⟨rfl, not_good (fun h => by omega)⟩⟩
        have u2 : decide (x.2 < 0) = false := decide_eq_false hx2
        obtain ⟨p, hpv, hpd⟩ : ∃ p : ByteArray, strV (putS x.2) = .string p ∧ p.data.toList = putS x.2 := ⟨⟨(putS x.2).toArray⟩, rfl, by simp⟩
        have hps : p.size ≤ 4 := by rw [← str_len p, hpd]; exact putS_le _
        have hts : t.size ≤ 4 * pre.length := by rw [← str_len t, ht]; exact catS_le _
        have hadd := fun w' => run_string_add_sum (P := Tryd.prog) (w := w') t p (by omega)
        have wsum : IntKind.i64.wrap (((catS pre).length : Int) + (p.size : Int)) = ((catS pre).length : Int) + (p.size : Int) := IntWalk.i64_in _ (by have := catS_le pre; omega)
        have wn : IntKind.i64.wrap ((pre.length : Int) + 1) = (pre.length : Int) + 1 := IntWalk.i64_in _ (by omega)
        have wst : IntKind.i64.wrap stop = stop := IntWalk.i64_in _ (by omega)
        have hmx : Tryd.prog.follows .mixedOrders = true := by kernel_rfl
        have hR0 : Rd w w3.heap.size stop 0 W t ((catS pre).length : Int) (pre.length : Int) W := ⟨by omega, Hb2.out, Hb1.out, Hb3.out, Hb0.out, Hbs.out, Hbr.out, hB, KeepsOthers.refl _, Below.refl _ _⟩
        have HR0 := hid hR0
        clear hR0
        gi_wp2
        gi_region_with_o (refine ⟨trivial, ?_⟩; gi_at_call 14; refine (CallsIn.inRound l (callsIn_wide.2 (put_any _ _))).mono ?_; intro e w' hp; obtain ⟨he, hb⟩ := hp; rw [hpv] at he; subst he; have hR1 := (by first | exact HR0.out.drew.call hb | exact HR0.out.call hb : Rd w w3.heap.size stop 0 W t ((catS pre).length : Int) (pre.length : Int) w'); have HR1 := hid hR1; obtain ⟨k2', g2'⟩ := hR1.b2; clear hb hR1)
        all_goals
          refine at_exit (fun y => Rd w w3.heap.size stop 0 W (t ++ p) ((catS pre).length : Int) (pre.length : Int) y) (by first | exact HR1.out.text _ | exact (HR1.out.text _).drew) ?_
          intro y hRy
          have HRy := hid hRy
          obtain ⟨j1, i1⟩ := hRy.b1
          clear hRy
          gi_wp2
          gi_region_with_o (refine ⟨trivial, ?_⟩; gi_at_call 14; refine (CallsIn.inRound l (callsIn_wide.2 (put_any _ _))).mono ?_; intro e w' hp; obtain ⟨he, hb⟩ := hp; rw [hpv] at he; subst he; have hR2 := (by first | exact HRy.out.drew.call hb | exact HRy.out.call hb : Rd w w3.heap.size stop 0 W (t ++ p) ((catS pre).length : Int) (pre.length : Int) w'); have HR2 := hid hR2; obtain ⟨k1', g1'⟩ := hR2.b1; clear hb hR2)
        all_goals
          refine at_exit (fun y => Rd w w3.heap.size stop 0 W (t ++ p) (((catS pre).length : Int) + (p.size : Int)) (pre.length : Int) y) (by first | exact HR2.out.at_ _ | exact (HR2.out.at_ _).drew) ?_
          intro y2 hR3
          have HR3 := hid hR3
          obtain ⟨l0, l0'⟩ := hR3.b0
          obtain ⟨l3, l3'⟩ := hR3.b3
          obtain ⟨ls, ls'⟩ := hR3.bs
          clear hR3
          by_cases hst : stop < (pre.length : Int) + 1
          · have u3 : decide (stop < (pre.length : Int) + 1) = true := decide_eq_true hst
            gi_wp2
            exact ⟨(HR3.out.n_ _).kp, .inr ⟨rfl, rfl, (HR3.out.n_ _).iall ht hpd rfl rfl (good_snoc hg hx1 (by omega)), (HR3.out.n_ _).bl, hB2.trans (HR3.out.n_ _).bk⟩⟩
          · have u3 : decide (stop < (pre.length : Int) + 1) = false := decide_eq_false hst
            gi_wp2
            exact ⟨(HR3.out.n_ _).kp, (HR3.out.n_ _).bk, (HR3.out.n_ _).iall ht hpd rfl rfl (good_snoc hg hx1 (by omega)), (HR3.out.n_ _).bl, hB2.trans (HR3.out.n_ _).bk⟩
      · have u1 : (x.1 == ((catS pre).length : Int)) = false := beq_eq_false_iff_ne.2 hx1
        gi_wp2
        exact ⟨KeepsOthers.setCell _ _ _, .inl ⟨rfl, not_good (fun h => hx1 h.1)⟩⟩
    case done =>
      rintro D pre W hD hpe ⟨⟨⟨t, ht, b2⟩, b1, b3, b0, bs, br, hg⟩, hB, hB2⟩ hK
      have hpf : pre <+: letS s.data.toList.length s.data.toList 0 := hpe ▸ List.prefix_refl _
      clear hpe
      have Hb2 := hid b2
      have Hb1 := hid b1
      have Hb0 := hid b0
      have Hb3 := hid b3
      have Hbs := hid bs
      have Hbr := hid br
      obtain ⟨k1, g1⟩ := b1
      obtain ⟨k2, g2⟩ := b2
      obtain ⟨k0, g0⟩ := b0
      obtain ⟨kr, gr⟩ := br
      obtain ⟨hm1, hm2⟩ := cat_pre s.data.toList.length s.data.toList 0 _ hpf (by omega)
      have hts : s.extract 0 (catS pre).length = t := by
        apply ByteArray.ext
        apply Array.toList_inj.1
        rw [ht, extract_drop, Nat.sub_zero, ← hm1]
      obtain ⟨m, hm⟩ : ∃ m, (catS pre).length = m := ⟨_, rfl⟩
      rw [hm] at hts k1 hm2 Hb1
      have hms : m ≤ s.size := by rw [← str_len s]; omega
      have hmx : Tryd.prog.follows .mixedOrders = true := by kernel_rfl
      gi_wp2
      gi_big_quiet_th_o (fail)
      have hKs : D < W.heap.size := (Array.getElem?_eq_some_iff.1 hK).1
      refine at_exit (fun wy => Bx wy w.heap.size (.int .u8 stop) ∧ Bx wy (w.heap.size + 1) (.bool false) ∧ Bx wy w1.heap.size (.string s) ∧ Bx wy w3.heap.size (.int .i64 0) ∧ Below w.heap.size w wy ∧ wy.heap[D]? = some (.deferred (some [])) ∧ W.heap.size ≤ wy.heap.size) ⟨Hbs.out, Hbr.out, (m2.under (B := w3.heap.size) (C := W) hB2 (by omega)), Hb0.out, hB.trans ⟨rfl, rfl, rfl, Nat.le_refl _, fun _ _ => rfl⟩, hK, Nat.le_refl _⟩ ?_
      rintro wy ⟨n0, n1, n2, n3, n4, n5, n6⟩
      have N0 := hid n0
      have N1 := hid n1
      have N2 := hid n2
      have N3 := hid n3
      have N5 := hid n5
      obtain ⟨k0, g0⟩ := n3
      obtain ⟨kr, gr⟩ := n1
      clear n5 n2 n0
      gi_wp2
      rw [roundsIn_succ]
      gi_wp2
      have hys : w3.heap.size + 4 ≤ wy.heap.size := by omega
      have hyd : D < wy.heap.size := by omega
      clear n6
      refine at_world (fun x => Bx x w.heap.size (.int .u8 stop) ∧ Bx x (w.heap.size + 1) (.bool false) ∧ Bx x w1.heap.size (.string s) ∧ Bx x wy.heap.size (.int .i64 1) ∧ Bx x (wy.heap.size + 1) (.int .i64 0) ∧ Bx x (wy.heap.size + 2) (.string ⟨#[]⟩) ∧ Bx x (wy.heap.size + 3) (.int .i64 0) ∧ Below w.heap.size w x ∧ x.heap.size = wy.heap.size + 4 ∧ Below wy.heap.size wy x) ⟨?_, ?_, ?_, ?_, ?_, ?_, ?_, ?_, ?_, ?_⟩ ?_
      · have := N0.out
        (repeat (first | assumption | exact Bx.new' (by first | rfl | (simp; done) | (simp; omega)) | refine Bx.set ?_ _ | refine Bx.put ?_ (by first | omega | (simp; done) | (simp; omega)) _ | refine Bx.alloc ?_ _))
      · have := N1.out
        (repeat (first | assumption | exact Bx.new' (by first | rfl | (simp; done) | (simp; omega)) | refine Bx.set ?_ _ | refine Bx.put ?_ (by first | omega | (simp; done) | (simp; omega)) _ | refine Bx.alloc ?_ _))
      · have := N2.out
        (repeat (first | assumption | exact Bx.new' (by first | rfl | (simp; done) | (simp; omega)) | refine Bx.set ?_ _ | refine Bx.put ?_ (by first | omega | (simp; done) | (simp; omega)) _ | refine Bx.alloc ?_ _))
      · (repeat (first | assumption | exact Bx.new' (by first | rfl | (simp; done) | (simp; omega)) | refine Bx.set ?_ _ | refine Bx.put ?_ (by first | omega | (simp; done) | (simp; omega)) _ | refine Bx.alloc ?_ _))
      · (repeat (first | assumption | exact Bx.new' (by first | rfl | (simp; done) | (simp; omega)) | refine Bx.set ?_ _ | refine Bx.put ?_ (by first | omega | (simp; done) | (simp; omega)) _ | refine Bx.alloc ?_ _))
      · (repeat (first | assumption | exact Bx.new' (by first | rfl | (simp; done) | (simp; omega)) | refine Bx.set ?_ _ | refine Bx.put ?_ (by first | omega | (simp; done) | (simp; omega)) _ | refine Bx.alloc ?_ _))
      · (repeat (first | assumption | exact Bx.new' (by first | rfl | (simp; done) | (simp; omega)) | refine Bx.set ?_ _ | refine Bx.put ?_ (by first | omega | (simp; done) | (simp; omega)) _ | refine Bx.alloc ?_ _))
      · (repeat (first | assumption | refine Below.alloc ?_ (by first | omega | (simp; done) | (simp; omega)) _ | refine Below.setCell ?_ (by first | omega | (simp; done) | (simp; omega)) _))
      · simp
      · have := Below.refl wy.heap.size wy
        (repeat (first | assumption | refine Below.alloc ?_ (by first | omega | (simp; done) | (simp; omega)) _ | refine Below.setCell ?_ (by first | omega | (simp; done) | (simp; omega)) _))
      rintro wm ⟨m0, m1, m2, m3, m4, m5, m6, hbl, hsm, hym⟩
      have hlw : LeastAt wm := HL.out.below hbl hLl
      have hKm : wm.heap[D]? = some (.deferred (some [])) := (hym.block D (by omega)).trans N5.out
      refine wpIn_rangeFunc_ownF (n := 3) rfl (by omega) (gf := 20) (lb := #[.pointer (some ⟨w1.heap.size, 0, none⟩)]) rfl trivial (enters_of Tryd.func20 (by kernel_rfl) rfl)
        (all_stops 2 (by omega) w1.heap.size wy.heap.size s wm (by omega) (by omega) m2.1 (by omega) hlw (by omega)) belowK_t (belowK_b (by omega)) (Below.refl _ _) (fun _ => rfl)
        (IB s w stop wy.heap.size 1 wm) (XB s w stop wy.heap.size 1 wm)
        ?hIb ?hIxb ?h0b ?a1b ?assignb ?bodyb ?doneb ?stopb
      case hIb => exact ib_own hbl.size (by omega) (by omega)
      case hIxb => exact fun c => xb_own hbl.size (by omega) (by omega)
      case h0b => exact ⟨⟨⟨⟨#[]⟩, rfl, m5⟩, m4, m6, m3, m0, m1, good_nil⟩, hbl, Below.refl _ _⟩
      case assignb =>
        intro l x W K hK
        gi_wp2
        exact hK
      case bodyb =>
        rintro l pre x W ⟨⟨⟨t, ht, b2⟩, b1, b3, b0, bs, br, hg⟩, hB, hB2⟩ hlen
        have Hb2 := hid b2
        have Hb1 := hid b1
        have Hb3 := hid b3
        have Hb0 := hid b0
        have Hbs := hid bs
        have Hbr := hid br
        obtain ⟨k1, g1⟩ := b1
        obtain ⟨k2, g2⟩ := b2
        obtain ⟨k3, g3⟩ := b3
        obtain ⟨k0, g0⟩ := b0
        obtain ⟨ks, gs⟩ := bs
        obtain ⟨kr, gr⟩ := br
        by_cases hx1 : x.1 = ((catS pre).length : Int)
        · have u1 : (x.1 == ((catS pre).length : Int)) = true := beq_iff_eq.2 hx1
          by_cases hx2 : x.2 < 0
          · have u2 : decide (x.2 < 0) = true := decide_eq_true hx2
            gi_wp2
            exact ⟨KeepsOthers.setCell _ _ _, .inl ⟨rfl, not_good (fun h => by omega)⟩⟩
          have u2 : decide (x.2 < 0) = false := decide_eq_false hx2
          obtain ⟨p, hpv, hpd⟩ : ∃ p : ByteArray, strV (putS x.2) = .string p ∧ p.data.toList = putS x.2 := ⟨⟨(putS x.2).toArray⟩, rfl, by simp⟩
          have hps : p.size ≤ 4 := by rw [← str_len p, hpd]; exact putS_le _
          have hts : t.size ≤ 4 * pre.length := by rw [← str_len t, ht]; exact catS_le _
          have hadd := fun w' => run_string_add_sum (P := Tryd.prog) (w := w') t p (by omega)
          have wsum : IntKind.i64.wrap (((catS pre).length : Int) + (p.size : Int)) = ((catS pre).length : Int) + (p.size : Int) := IntWalk.i64_in _ (by have := catS_le pre; omega)
          have wn : IntKind.i64.wrap ((pre.length : Int) + 1) = (pre.length : Int) + 1 := IntWalk.i64_in _ (by omega)
          have wst : IntKind.i64.wrap stop = stop := IntWalk.i64_in _ (by omega)
          have hmx : Tryd.prog.follows .mixedOrders = true := by kernel_rfl
          have hR0 : Rd w wy.heap.size stop 1 W t ((catS pre).length : Int) (pre.length : Int) W := ⟨by omega, Hb2.out, Hb1.out, Hb3.out, Hb0.out, Hbs.out, Hbr.out, hB, KeepsOthers.refl _, Below.refl _ _⟩
          have HR0 := hid hR0
          clear hR0
          gi_wp2
          gi_region_with_o (refine ⟨trivial, ?_⟩; gi_at_call 14; refine (CallsIn.inRound l (callsIn_wide.2 (put_any _ _))).mono ?_; intro e w' hp; obtain ⟨he, hb⟩ := hp; rw [hpv] at he; subst he; have hR1 := (by first | exact HR0.out.drew.call hb | exact HR0.out.call hb : Rd w wy.heap.size stop 1 W t ((catS pre).length : Int) (pre.length : Int) w'); have HR1 := hid hR1; obtain ⟨k2', g2'⟩ := hR1.b2; clear hb hR1)
          all_goals
            refine at_exit (fun y => Rd w wy.heap.size stop 1 W (t ++ p) ((catS pre).length : Int) (pre.length : Int) y) (by first | exact HR1.out.text _ | exact (HR1.out.text _).drew) ?_
            intro y hRy
            have HRy := hid hRy
            obtain ⟨j1, i1⟩ := hRy.b1
            clear hRy
            gi_wp2
            gi_region_with_o (refine ⟨trivial, ?_⟩; gi_at_call 14; refine (CallsIn.inRound l (callsIn_wide.2 (put_any _ _))).mono ?_; intro e w' hp; obtain ⟨he, hb⟩ := hp; rw [hpv] at he; subst he; have hR2 := (by first | exact HRy.out.drew.call hb | exact HRy.out.call hb : Rd w wy.heap.size stop 1 W (t ++ p) ((catS pre).length : Int) (pre.length : Int) w'); have HR2 := hid hR2; obtain ⟨k1', g1'⟩ := hR2.b1; clear hb hR2)
          all_goals
            refine at_exit (fun y => Rd w wy.heap.size stop 1 W (t ++ p) (((catS pre).length : Int) + (p.size : Int)) (pre.length : Int) y) (by first | exact HR2.out.at_ _ | exact (HR2.out.at_ _).drew) ?_
            intro y2 hR3
            have HR3 := hid hR3
            obtain ⟨l0, l0'⟩ := hR3.b0
            obtain ⟨l3, l3'⟩ := hR3.b3
            obtain ⟨ls, ls'⟩ := hR3.bs
            clear hR3
            have u3 : ((1 : Int) == 0) = false := rfl
            gi_wp2
            exact ⟨(HR3.out.n_ _).kp, (HR3.out.n_ _).bk, (HR3.out.n_ _).iall ht hpd rfl rfl (good_snoc hg hx1 (by omega)), (HR3.out.n_ _).bl, hB2.trans (HR3.out.n_ _).bk⟩
        · have u1 : (x.1 == ((catS pre).length : Int)) = false := beq_eq_false_iff_ne.2 hx1
          gi_wp2
          exact ⟨KeepsOthers.setCell _ _ _, .inl ⟨rfl, not_good (fun h => hx1 h.1)⟩⟩
      case doneb =>
        rintro D1 pre W hD1 hpe ⟨⟨⟨t, ht, b2⟩, b1, b3, b0, bs, br, hg⟩, hB, hB2⟩ hK1
        have hpf : pre <+: letS s.data.toList.length s.data.toList 0 := hpe ▸ List.prefix_refl _
        have hK2 : W.heap[D]? = some (.deferred (some [])) := (hB2.block D (by omega)).trans hKm
        have Hb2 := hid b2
        have Hb1 := hid b1
        have Hb0 := hid b0
        have Hb3 := hid b3
        have Hbs := hid bs
        have Hbr := hid br
        obtain ⟨k1, g1⟩ := b1
        obtain ⟨k2, g2⟩ := b2
        obtain ⟨k0, g0⟩ := b0
        obtain ⟨kr, gr⟩ := br
        obtain ⟨hm1, hm2⟩ := cat_pre s.data.toList.length s.data.toList 0 _ hpf (by omega)
        have hts : s.extract 0 (catS pre).length = t := by
          apply ByteArray.ext
          apply Array.toList_inj.1
          rw [ht, extract_drop, Nat.sub_zero, ← hm1]
        obtain ⟨m, hm⟩ : ∃ m, (catS pre).length = m := ⟨_, rfl⟩
        rw [hm] at hts k1 hm2 Hb1
        have hms : m ≤ s.size := by rw [← str_len s]; omega
        have hmx : Tryd.prog.follows .mixedOrders = true := by kernel_rfl
        have hme : (m : Int) = (s.size : Int) := by
          have hc := cat_let s.data.toList.length s.data.toList 0 (by omega) (by omega)
          rw [← hpe, hm, badAt_zero, hr, str_len] at hc
          split at hc <;> omega
        have hne : ((m : Int) == (s.size : Int)) = true := beq_iff_eq.2 hme
        have hnn : ((m : Int) != (s.size : Int)) = false := by rw [bne, hne]; rfl
        clear hpe hme
        gi_wp2
        gi_big_quiet_th_o (fail)
        refine at_exit (fun z => Bx z (w.heap.size + 1) (.bool false) ∧ Bx z wy.heap.size (.int .i64 1) ∧ Below w.heap.size w z ∧ z.heap[D]? = some (.deferred (some [])) ∧ z.heap[D1]? = some (.deferred (some []))) ⟨Hbr.out, Hb0.out, hB.trans ⟨rfl, rfl, rfl, Nat.le_refl _, fun _ _ => rfl⟩, hK2, hK1⟩ ?_
        rintro z ⟨n1, n3, n4, n5, n6⟩
        have N1 := hid n1
        have N5 := hid n5
        have N6 := hid n6
        have hDz := lt_of_obj n5
        have hD1z := lt_of_obj n6
        obtain ⟨k0, g0⟩ := n3
        obtain ⟨kr, gr⟩ := n1
        have hz1 : ¬ (w.heap.size + 1 = z.heap.size) := by have := N1.out.lt; omega
        have fzz : ∀ v, (z.alloc (.cells #[.int .i64 v] 3)).frozen? ⟨w.heap.size + 1, 0, none⟩ = false := fun v => (World.frozen?_alloc_old _ _ ⟨w.heap.size + 1, 0, none⟩ hz1).trans gr
        have fzc : ∀ v, (z.alloc (.cells #[.int .i64 v] 3)).cell? ⟨w.heap.size + 1, 0, none⟩ = some (.bool false) := fun v => (World.cell?_alloc_lt _ _ ⟨w.heap.size + 1, 0, none⟩ (by have := N1.out.lt; omega)).trans kr
        clear n5 n6
        gi_wp2
        rw [roundsIn_succ]
        gi_wp2
        refine at_post (fun x => x.heap[D]? = some (.deferred (some [])) ∧ x.heap[D1]? = some (.deferred (some [])) ∧ Bx x (w.heap.size + 1) (.bool true) ∧ Below w.heap.size w x) ⟨?_, ?_, ?_, ?_⟩ ?_
        · exact (Below.heap_setCell _ _ _ _ (by simp; omega)).trans ((Below.heap_alloc _ _ _ hDz).trans N5.out)
        · exact (Below.heap_setCell _ _ _ _ (by simp; omega)).trans ((Below.heap_alloc _ _ _ hD1z).trans N6.out)
        · exact (N1.out.alloc _).set _
        · exact (n4.alloc n4.size _).setCell (by simp) _
        rintro x ⟨x1, x2, x3, x4⟩
        refine ⟨by simp, .inl ⟨_, _, rfl, run_takeDeferred x2, ?_⟩⟩
        have y1 : (x.putObj D1 (.deferred none)).heap[D]? = some (.deferred (some [])) := put_other x1 (by omega)
        refine ⟨by simp, .inl ⟨_, _, rfl, run_takeDeferred y1, ?_⟩⟩
        have hc := ((x3.kept (grownBy_putObj' _ D1 (.deferred none)) (fun r e => by cases e; exact ⟨_, x2, rfl⟩)).kept (grownBy_putObj' _ D (.deferred none)) (fun r e => by cases e; exact ⟨_, y1, rfl⟩)).1
        refine ⟨.bool true, ?_, TruePost.mk rfl (below_put (below_put x4 (by omega) x2) (by omega) y1)⟩
        simp [results, Tryd.f6, go_sem, hc]
      case stopb =>
        rintro D1 c pre W hD1 hpf (⟨rfl, hbad⟩ | ⟨rfl, ht0, _⟩) hK1
        · exact absurd (fun q x hq => by have := let_good s.data.toList.length s.data.toList 0 q x (hq.trans hpf); simpa using this) hbad
        · exact absurd ht0 (by decide)
    case stop =>
      rintro D c pre W hD hpf (⟨rfl, hbad⟩ | ⟨rfl, ht0, ⟨⟨t, ht, b2⟩, b1, b3, b0, bs, br, hg⟩, hB, hB2⟩) hK
      · exact absurd (fun q x hq => by have := let_good s.data.toList.length s.data.toList 0 q x (hq.trans hpf); simpa using this) hbad
      have Hb2 := hid b2
      have Hb1 := hid b1
      have Hb0 := hid b0
      have Hb3 := hid b3
      have Hbs := hid bs
      have Hbr := hid br
      obtain ⟨k1, g1⟩ := b1
      obtain ⟨k2, g2⟩ := b2
      obtain ⟨k0, g0⟩ := b0
      obtain ⟨kr, gr⟩ := br
      obtain ⟨hm1, hm2⟩ := cat_pre s.data.toList.length s.data.toList 0 _ hpf (by omega)
      have hts : s.extract 0 (catS pre).length = t := by
        apply ByteArray.ext
        apply Array.toList_inj.1
        rw [ht, extract_drop, Nat.sub_zero, ← hm1]
      obtain ⟨m, hm⟩ : ∃ m, (catS pre).length = m := ⟨_, rfl⟩
      rw [hm] at hts k1 hm2 Hb1
      have hms : m ≤ s.size := by rw [← str_len s]; omega
      have hmx : Tryd.prog.follows .mixedOrders = true := by kernel_rfl
      gi_wp2
      gi_big_quiet_th_o (fail)
      have hKs : D < W.heap.size := (Array.getElem?_eq_some_iff.1 hK).1
      refine at_exit (fun wy => Bx wy w.heap.size (.int .u8 stop) ∧ Bx wy (w.heap.size + 1) (.bool false) ∧ Bx wy w1.heap.size (.string s) ∧ Bx wy w3.heap.size (.int .i64 0) ∧ Below w.heap.size w wy ∧ wy.heap[D]? = some (.deferred (some [])) ∧ W.heap.size ≤ wy.heap.size) ⟨Hbs.out, Hbr.out, (m2.under (B := w3.heap.size) (C := W) hB2 (by omega)), Hb0.out, hB.trans ⟨rfl, rfl, rfl, Nat.le_refl _, fun _ _ => rfl⟩, hK, Nat.le_refl _⟩ ?_
      rintro wy ⟨n0, n1, n2, n3, n4, n5, n6⟩
      have N0 := hid n0
      have N1 := hid n1
      have N2 := hid n2
      have N3 := hid n3
      have N5 := hid n5
      obtain ⟨k0, g0⟩ := n3
      obtain ⟨kr, gr⟩ := n1
      clear n5 n2 n0
      gi_wp2
      rw [roundsIn_succ]
      gi_wp2
      have hys : w3.heap.size + 4 ≤ wy.heap.size := by omega
      have hyd : D < wy.heap.size := by omega
      clear n6
      refine at_world (fun x => Bx x w.heap.size (.int .u8 stop) ∧ Bx x (w.heap.size + 1) (.bool false) ∧ Bx x w1.heap.size (.string s) ∧ Bx x wy.heap.size (.int .i64 1) ∧ Bx x (wy.heap.size + 1) (.int .i64 0) ∧ Bx x (wy.heap.size + 2) (.string ⟨#[]⟩) ∧ Bx x (wy.heap.size + 3) (.int .i64 0) ∧ Below w.heap.size w x ∧ x.heap.size = wy.heap.size + 4 ∧ Below wy.heap.size wy x) ⟨?_, ?_, ?_, ?_, ?_, ?_, ?_, ?_, ?_, ?_⟩ ?_
      · have := N0.out
        (repeat (first | assumption | exact Bx.new' (by first | rfl | (simp; done) | (simp; omega)) | refine Bx.set ?_ _ | refine Bx.put ?_ (by first | omega | (simp; done) | (simp; omega)) _ | refine Bx.alloc ?_ _))
      · have := N1.out
        (repeat (first | assumption | exact Bx.new' (by first | rfl | (simp; done) | (simp; omega)) | refine Bx.set ?_ _ | refine Bx.put ?_ (by first | omega | (simp; done) | (simp; omega)) _ | refine Bx.alloc ?_ _))
      · have := N2.out
        (repeat (first | assumption | exact Bx.new' (by first | rfl | (simp; done) | (simp; omega)) | refine Bx.set ?_ _ | refine Bx.put ?_ (by first | omega | (simp; done) | (simp; omega)) _ | refine Bx.alloc ?_ _))
      · (repeat (first | assumption | exact Bx.new' (by first | rfl | (simp; done) | (simp; omega)) | refine Bx.set ?_ _ | refine Bx.put ?_ (by first | omega | (simp; done) | (simp; omega)) _ | refine Bx.alloc ?_ _))
      · (repeat (first | assumption | exact Bx.new' (by first | rfl | (simp; done) | (simp; omega)) | refine Bx.set ?_ _ | refine Bx.put ?_ (by first | omega | (simp; done) | (simp; omega)) _ | refine Bx.alloc ?_ _))
      · (repeat (first | assumption | exact Bx.new' (by first | rfl | (simp; done) | (simp; omega)) | refine Bx.set ?_ _ | refine Bx.put ?_ (by first | omega | (simp; done) | (simp; omega)) _ | refine Bx.alloc ?_ _))
      · (repeat (first | assumption | exact Bx.new' (by first | rfl | (simp; done) | (simp; omega)) | refine Bx.set ?_ _ | refine Bx.put ?_ (by first | omega | (simp; done) | (simp; omega)) _ | refine Bx.alloc ?_ _))
      · (repeat (first | assumption | refine Below.alloc ?_ (by first | omega | (simp; done) | (simp; omega)) _ | refine Below.setCell ?_ (by first | omega | (simp; done) | (simp; omega)) _))
      · simp
      · have := Below.refl wy.heap.size wy
        (repeat (first | assumption | refine Below.alloc ?_ (by first | omega | (simp; done) | (simp; omega)) _ | refine Below.setCell ?_ (by first | omega | (simp; done) | (simp; omega)) _))
      rintro wm ⟨m0, m1, m2, m3, m4, m5, m6, hbl, hsm, hym⟩
      have hlw : LeastAt wm := HL.out.below hbl hLl
      have hKm : wm.heap[D]? = some (.deferred (some [])) := (hym.block D (by omega)).trans N5.out
      refine wpIn_rangeFunc_ownF (n := 3) rfl (by omega) (gf := 20) (lb := #[.pointer (some ⟨w1.heap.size, 0, none⟩)]) rfl trivial (enters_of Tryd.func20 (by kernel_rfl) rfl)
        (all_stops 2 (by omega) w1.heap.size wy.heap.size s wm (by omega) (by omega) m2.1 (by omega) hlw (by omega)) belowK_t (belowK_b (by omega)) (Below.refl _ _) (fun _ => rfl)
        (IB s w stop wy.heap.size 1 wm) (XB s w stop wy.heap.size 1 wm)
        ?hIc ?hIxc ?h0c ?a1c ?assignc ?bodyc ?donec ?stopc
      case hIc => exact ib_own hbl.size (by omega) (by omega)
      case hIxc => exact fun c => xb_own hbl.size (by omega) (by omega)
      case h0c => exact ⟨⟨⟨⟨#[]⟩, rfl, m5⟩, m4, m6, m3, m0, m1, good_nil⟩, hbl, Below.refl _ _⟩
      case assignc =>
        intro l x W K hK
        gi_wp2
        exact hK
      case bodyc =>
        rintro l pre x W ⟨⟨⟨t, ht, b2⟩, b1, b3, b0, bs, br, hg⟩, hB, hB2⟩ hlen
        have Hb2 := hid b2
        have Hb1 := hid b1
        have Hb3 := hid b3
        have Hb0 := hid b0
        have Hbs := hid bs
        have Hbr := hid br
        obtain ⟨k1, g1⟩ := b1
        obtain ⟨k2, g2⟩ := b2
        obtain ⟨k3, g3⟩ := b3
        obtain ⟨k0, g0⟩ := b0
        obtain ⟨ks, gs⟩ := bs
        obtain ⟨kr, gr⟩ := br
        by_cases hx1 : x.1 = ((catS pre).length : Int)
        · have u1 : (x.1 == ((catS pre).length : Int)) = true := beq_iff_eq.2 hx1
          by_cases hx2 : x.2 < 0
          · have u2 : decide (x.2 < 0) = true := decide_eq_true hx2
            gi_wp2
            exact ⟨KeepsOthers.setCell _ _ _, .inl ⟨rfl, not_good (fun h => by omega)⟩⟩
          have u2 : decide (x.2 < 0) = false := decide_eq_false hx2
          obtain ⟨p, hpv, hpd⟩ : ∃ p : ByteArray, strV (putS x.2) = .string p ∧ p.data.toList = putS x.2 := ⟨⟨(putS x.2).toArray⟩, rfl, by simp⟩
          have hps : p.size ≤ 4 := by rw [← str_len p, hpd]; exact putS_le _
          have hts : t.size ≤ 4 * pre.length := by rw [← str_len t, ht]; exact catS_le _
          have hadd := fun w' => run_string_add_sum (P := Tryd.prog) (w := w') t p (by omega)
          have wsum : IntKind.i64.wrap (((catS pre).length : Int) + (p.size : Int)) = ((catS pre).length : Int) + (p.size : Int) := IntWalk.i64_in _ (by have := catS_le pre; omega)
          have wn : IntKind.i64.wrap ((pre.length : Int) + 1) = (pre.length : Int) + 1 := IntWalk.i64_in _ (by omega)
          have wst : IntKind.i64.wrap stop = stop := IntWalk.i64_in _ (by omega)
          have hmx : Tryd.prog.follows .mixedOrders = true := by kernel_rfl
          have hR0 : Rd w wy.heap.size stop 1 W t ((catS pre).length : Int) (pre.length : Int) W := ⟨by omega, Hb2.out, Hb1.out, Hb3.out, Hb0.out, Hbs.out, Hbr.out, hB, KeepsOthers.refl _, Below.refl _ _⟩
          have HR0 := hid hR0
          clear hR0
          gi_wp2
          gi_region_with_o (refine ⟨trivial, ?_⟩; gi_at_call 14; refine (CallsIn.inRound l (callsIn_wide.2 (put_any _ _))).mono ?_; intro e w' hp; obtain ⟨he, hb⟩ := hp; rw [hpv] at he; subst he; have hR1 := (by first | exact HR0.out.drew.call hb | exact HR0.out.call hb : Rd w wy.heap.size stop 1 W t ((catS pre).length : Int) (pre.length : Int) w'); have HR1 := hid hR1; obtain ⟨k2', g2'⟩ := hR1.b2; clear hb hR1)
          all_goals
            refine at_exit (fun y => Rd w wy.heap.size stop 1 W (t ++ p) ((catS pre).length : Int) (pre.length : Int) y) (by first | exact HR1.out.text _ | exact (HR1.out.text _).drew) ?_
            intro y hRy
            have HRy := hid hRy
            obtain ⟨j1, i1⟩ := hRy.b1
            clear hRy
            gi_wp2
            gi_region_with_o (refine ⟨trivial, ?_⟩; gi_at_call 14; refine (CallsIn.inRound l (callsIn_wide.2 (put_any _ _))).mono ?_; intro e w' hp; obtain ⟨he, hb⟩ := hp; rw [hpv] at he; subst he; have hR2 := (by first | exact HRy.out.drew.call hb | exact HRy.out.call hb : Rd w wy.heap.size stop 1 W (t ++ p) ((catS pre).length : Int) (pre.length : Int) w'); have HR2 := hid hR2; obtain ⟨k1', g1'⟩ := hR2.b1; clear hb hR2)
          all_goals
            refine at_exit (fun y => Rd w wy.heap.size stop 1 W (t ++ p) (((catS pre).length : Int) + (p.size : Int)) (pre.length : Int) y) (by first | exact HR2.out.at_ _ | exact (HR2.out.at_ _).drew) ?_
            intro y2 hR3
            have HR3 := hid hR3
            obtain ⟨l0, l0'⟩ := hR3.b0
            obtain ⟨l3, l3'⟩ := hR3.b3
            obtain ⟨ls, ls'⟩ := hR3.bs
            clear hR3
            have u3 : ((1 : Int) == 0) = false := rfl
            gi_wp2
            exact ⟨(HR3.out.n_ _).kp, (HR3.out.n_ _).bk, (HR3.out.n_ _).iall ht hpd rfl rfl (good_snoc hg hx1 (by omega)), (HR3.out.n_ _).bl, hB2.trans (HR3.out.n_ _).bk⟩
        · have u1 : (x.1 == ((catS pre).length : Int)) = false := beq_eq_false_iff_ne.2 hx1
          gi_wp2
          exact ⟨KeepsOthers.setCell _ _ _, .inl ⟨rfl, not_good (fun h => hx1 h.1)⟩⟩
      case donec =>
        rintro D1 pre W hD1 hpe ⟨⟨⟨t, ht, b2⟩, b1, b3, b0, bs, br, hg⟩, hB, hB2⟩ hK1
        have hpf : pre <+: letS s.data.toList.length s.data.toList 0 := hpe ▸ List.prefix_refl _
        have hK2 : W.heap[D]? = some (.deferred (some [])) := (hB2.block D (by omega)).trans hKm
        have Hb2 := hid b2
        have Hb1 := hid b1
        have Hb0 := hid b0
        have Hb3 := hid b3
        have Hbs := hid bs
        have Hbr := hid br
        obtain ⟨k1, g1⟩ := b1
        obtain ⟨k2, g2⟩ := b2
        obtain ⟨k0, g0⟩ := b0
        obtain ⟨kr, gr⟩ := br
        obtain ⟨hm1, hm2⟩ := cat_pre s.data.toList.length s.data.toList 0 _ hpf (by omega)
        have hts : s.extract 0 (catS pre).length = t := by
          apply ByteArray.ext
          apply Array.toList_inj.1
          rw [ht, extract_drop, Nat.sub_zero, ← hm1]
        obtain ⟨m, hm⟩ : ∃ m, (catS pre).length = m := ⟨_, rfl⟩
        rw [hm] at hts k1 hm2 Hb1
        have hms : m ≤ s.size := by rw [← str_len s]; omega
        have hmx : Tryd.prog.follows .mixedOrders = true := by kernel_rfl
        have hme : (m : Int) = (s.size : Int) := by
          have hc := cat_let s.data.toList.length s.data.toList 0 (by omega) (by omega)
          rw [← hpe, hm, badAt_zero, hr, str_len] at hc
          split at hc <;> omega
        have hne : ((m : Int) == (s.size : Int)) = true := beq_iff_eq.2 hme
        have hnn : ((m : Int) != (s.size : Int)) = false := by rw [bne, hne]; rfl
        clear hpe hme
        gi_wp2
        gi_big_quiet_th_o (fail)
        refine at_exit (fun z => Bx z (w.heap.size + 1) (.bool false) ∧ Bx z wy.heap.size (.int .i64 1) ∧ Below w.heap.size w z ∧ z.heap[D]? = some (.deferred (some [])) ∧ z.heap[D1]? = some (.deferred (some []))) ⟨Hbr.out, Hb0.out, hB.trans ⟨rfl, rfl, rfl, Nat.le_refl _, fun _ _ => rfl⟩, hK2, hK1⟩ ?_
        rintro z ⟨n1, n3, n4, n5, n6⟩
        have N1 := hid n1
        have N5 := hid n5
        have N6 := hid n6
        have hDz := lt_of_obj n5
        have hD1z := lt_of_obj n6
        obtain ⟨k0, g0⟩ := n3
        obtain ⟨kr, gr⟩ := n1
        have hz1 : ¬ (w.heap.size + 1 = z.heap.size) := by have := N1.out.lt; omega
        have fzz : ∀ v, (z.alloc (.cells #[.int .i64 v] 3)).frozen? ⟨w.heap.size + 1, 0, none⟩ = false := fun v => (World.frozen?_alloc_old _ _ ⟨w.heap.size + 1, 0, none⟩ hz1).trans gr
        have fzc : ∀ v, (z.alloc (.cells #[.int .i64 v] 3)).cell? ⟨w.heap.size + 1, 0, none⟩ = some (.bool false) := fun v => (World.cell?_alloc_lt _ _ ⟨w.heap.size + 1, 0, none⟩ (by have := N1.out.lt; omega)).trans kr
        clear n5 n6
        gi_wp2
        rw [roundsIn_succ]
        gi_wp2
        refine at_post (fun x => x.heap[D]? = some (.deferred (some [])) ∧ x.heap[D1]? = some (.deferred (some [])) ∧ Bx x (w.heap.size + 1) (.bool true) ∧ Below w.heap.size w x) ⟨?_, ?_, ?_, ?_⟩ ?_
        · exact (Below.heap_setCell _ _ _ _ (by simp; omega)).trans ((Below.heap_alloc _ _ _ hDz).trans N5.out)
        · exact (Below.heap_setCell _ _ _ _ (by simp; omega)).trans ((Below.heap_alloc _ _ _ hD1z).trans N6.out)
        · exact (N1.out.alloc _).set _
        · exact (n4.alloc n4.size _).setCell (by simp) _
        rintro x ⟨x1, x2, x3, x4⟩
        refine ⟨by simp, .inl ⟨_, _, rfl, run_takeDeferred x2, ?_⟩⟩
        have y1 : (x.putObj D1 (.deferred none)).heap[D]? = some (.deferred (some [])) := put_other x1 (by omega)
        refine ⟨by simp, .inl ⟨_, _, rfl, run_takeDeferred y1, ?_⟩⟩
        have hc := ((x3.kept (grownBy_putObj' _ D1 (.deferred none)) (fun r e => by cases e; exact ⟨_, x2, rfl⟩)).kept (grownBy_putObj' _ D (.deferred none)) (fun r e => by cases e; exact ⟨_, y1, rfl⟩)).1
        refine ⟨.bool true, ?_, TruePost.mk rfl (below_put (below_put x4 (by omega) x2) (by omega) y1)⟩
        simp [results, Tryd.f6, go_sem, hc]
      case stopc =>
        rintro D1 c pre W hD1 hpf (⟨rfl, hbad⟩ | ⟨rfl, ht0, _⟩) hK1
        · exact absurd (fun q x hq => by have := let_good s.data.toList.length s.data.toList 0 q x (hq.trans hpf); simpa using this) hbad
        · exact absurd ht0 (by decide)
end Go.Proofs.YtjbfkblobaikdaaDoor

/-
  The statement ScopeBack: its call answers true.
-/
import Derived.Test.YtomkdnapnjkclaaDoorScoAlive
import Derived.Test.YtomkdnapnjkclaaDoorScoRef2
import Derived.Test.YtomkdnapnjkclaaDoorScoBackP
import Derived.Test.YtomkdnapnjkclaaDoorScoOpen
namespace Go.Proofs.YtomkdnapnjkclaaDoor.Sco
open Go.RowKit Go.Proofs.YtomkdnapnjkclaaDoor Go.Proofs.YtomkdnapnjkclaaDoor.PScopeSets Go.Proofs.YtomkdnapnjkclaaDoorW.PrintWords Go.Proofs.YtomkdnapnjkclaaDoorW.PrintLast Go.Proofs.YtomkdnapnjkclaaDoorW.PrintMore
set_option linter.unusedVariables false
set_option linter.unusedSimpArgs false
theorem BB.of {b : Bool} {w : World} {e : Ending} {w' : World} (h : BB b w e w') (hb : b = true) : e = .returned (.bool true) ∧ Below w.heap.size w w' := by rw [← hb]; exact h
set_option maxHeartbeats 16000000 in
set_option maxRecDepth 20000 in
theorem back_walk (va : Value) (xa : List ByteArray) (vb : Value) (xb : List ByteArray) (w : World) (ha : InS w va xa) (hb : InS w vb xb) : Calls Tryd.prog 4 #[va, vb] w (TruePost w) := by
  have IA := hid ha
  have IB := hid hb
  obtain ⟨A, ca, rfl, hca, hCA⟩ := ha
  obtain ⟨B, cb, rfl, hcb, hCB⟩ := hb
  have CA := hid hCA
  have CB := hid hCB
  clear hCA hCB
  go_enter Tryd.func4, Tryd.ntmps4
  go_wp2_with (go_at_call 7; refine (alive_any _).mono ?_; rintro e w1 ⟨rfl, hb⟩; have HB1 := hid hb; clear hb)
  refine (great_any xa A ca w1 (Kd.C_below CA.out HB1.out) hca).mono ?_
  rintro e w2 ⟨b, rfl, hgr, hd⟩
  have HB2 := hid (below_then HB1.out hd.below)
  have HGA := hid hgr
  clear hgr hd
  cases b with
  | true =>
    go_wp2_with fail
    go_ret
    exact TruePost.mk rfl HB2.out
  | false =>
    obtain ⟨hna, hsa⟩ := HGA.out rfl
    have HSA := hid hsa
    clear hsa
    go_wp2_with fail
    refine (great_any xb B cb w2 (Kd.C_below CB.out HB2.out) hcb).mono ?_
    rintro e w3 ⟨b, rfl, hgr, hd⟩
    have HB3 := hid (below_then HB2.out hd.below)
    have HGB := hid hgr
    clear hgr hd
    cases b with
    | true =>
      go_wp2_with fail
      go_ret
      exact TruePost.mk rfl HB3.out
    | false =>
      obtain ⟨hnb, _⟩ := HGB.out rfl
      have HSA2 : Hid (∀ x ∈ xa, x.size ≤ 100000) := hid (fun x hx => by have := HSA.out x hx; omega)
      have hbl := both_len xa xb
      have hll := less_len xa xb
      have hal := all_len xa xb
      go_wp2_with fail
      refine (check_any xa _ w3 (IA.out.below HB3.out) (by omega) (fun x hx => by have := HSA.out x hx; omega)).mono ?_
      rintro e w4 ⟨er, g, rfl, he, hg, hd⟩
      have HB4 := hid (below_then HB3.out hd)
      rcases hg with ⟨rfl, hgood⟩ | ⟨rfl, hbad⟩
      · obtain rfl : er = .nilIface := he
        have HGOOD := hid hgood
        have HPP := hid (parse_print hgood)
        clear hd hgood
        go_wp2_with fail
        refine (print_any xa _ w4 (IA.out.below HB4.out) (by omega) HSA2.out).mono ?_
        obtain ⟨T, hT, hTl⟩ : ∃ T : ByteArray, strV (printS xa) = .string T ∧ T.data.toList = printS xa := ⟨⟨(printS xa).toArray⟩, rfl, by simp⟩
        have HT := hid hT
        have hts : T.size ≤ 100000 := by
          have h1 := str_len T
          have h2 : (printS xa).length ≤ xa.length * 1001 := join_lenG xa 1000 HSA.out
          have h3 := good_len HGOOD.out
          rw [hTl] at h1
          have : xa.length * 1001 ≤ 16 * 1001 := Nat.mul_le_mul_right _ h3
          omega
        have HTL := hid hTl
        clear hT hTl
        rintro e w5 ⟨he, hd⟩
        rw [HT.out] at he
        subst he
        have HB5 := hid (below_then HB4.out hd)
        clear hd
        go_wp2_with fail
        have hp := parse_any T w5 hts
        rw [HTL.out, HPP.out] at hp
        refine hp.mono ?_
        rintro e w6 ⟨v6, er6, rfl, ho, he, hd⟩
        obtain rfl : er6 = .nilIface := he
        have HB6 := hid (below_then HB5.out hd)
        have ho6 : OwnS w6 w5.heap.size v6 xa := ho
        have HI6 := hid ho6.reads
        obtain ⟨A6, c6, rfl, _, _⟩ := ho6.reads
        clear hp hd ho ho6
        go_wp2_with fail
        refine (rsame_any _ _ _ w6 HI6.out (IA.out.below HB6.out) (by omega)).mono ?_
        rintro e w7 ⟨rfl, hd⟩
        have HB7 := hid (below_then HB6.out hd)
        clear hd
        go_wp2_with fail
        refine (both_any xa xb _ _ w7 (IA.out.below HB7.out) (IB.out.below HB7.out) (by omega) (by omega)).mono ?_
        rintro e w8 ⟨v8, rfl, ho, hd⟩
        have HB8 := hid (below_then HB7.out hd)
        have IX := hid ho.reads
        obtain ⟨A8, c8, rfl, _, _⟩ := ho.reads
        clear hd ho
        go_wp2_with fail
        refine (less_any xa xb _ _ w8 (IA.out.below HB8.out) (IB.out.below HB8.out) (by omega) (by omega)).mono ?_
        rintro e w9 ⟨v9, rfl, ho, hd⟩
        have HB9 := hid (below_then HB8.out hd)
        replace IX := hid (IX.out.below hd)
        have IY := hid ho.reads
        obtain ⟨A9, c9, rfl, _, _⟩ := ho.reads
        clear hd ho
        go_wp2_with fail
        refine (all_any xa xb _ _ w9 (IA.out.below HB9.out) (IB.out.below HB9.out) (by omega) (by omega)).mono ?_
        rintro e w10 ⟨v10, rfl, ho, hd⟩
        have HB10 := hid (below_then HB9.out hd)
        replace IX := hid (IX.out.below hd)
        replace IY := hid (IY.out.below hd)
        have IZ := hid ho.reads
        obtain ⟨A10, c10, rfl, _, _⟩ := ho.reads
        clear hd ho
        go_wp2_with fail
        have HC10 := hid (Below.refl w10.heap.size w10)
        refine (within_any (bothS xa xb) xa _ _ w10 (IX.out.below HC10.out) (IA.out.below HB10.out) (by omega) (by omega)).mono ?_
        intro e w11 hq
        obtain ⟨rfl, hd⟩ := hq.of (law_ba xa xb)
        have HB11 := hid (below_then HB10.out hd)
        have HC11 := hid (HC10.out.trans (hd.mono HC10.out.size))
        clear hd
        go_wp2_with fail
        refine (within_any (bothS xa xb) xb _ _ w11 (IX.out.below HC11.out) (IB.out.below HB11.out) (by omega) (by omega)).mono ?_
        intro e w12 hq
        obtain ⟨rfl, hd⟩ := hq.of (law_bb xa xb)
        have HB12 := hid (below_then HB11.out hd)
        have HC12 := hid (HC11.out.trans (hd.mono HC11.out.size))
        clear hd
        go_wp2_with fail
        refine (within_any xa (allS xa xb) _ _ w12 (IA.out.below HB12.out) (IZ.out.below HC12.out) (by omega) (by omega)).mono ?_
        intro e w13 hq
        obtain ⟨rfl, hd⟩ := hq.of (law_aa xa xb)
        have HB13 := hid (below_then HB12.out hd)
        have HC13 := hid (HC12.out.trans (hd.mono HC12.out.size))
        clear hd
        go_wp2_with fail
        refine (within_any xb (allS xa xb) _ _ w13 (IB.out.below HB13.out) (IZ.out.below HC13.out) (by omega) (by omega)).mono ?_
        intro e w14 hq
        obtain ⟨rfl, hd⟩ := hq.of (law_ab xa xb)
        have HB14 := hid (below_then HB13.out hd)
        have HC14 := hid (HC13.out.trans (hd.mono HC13.out.size))
        clear hd
        go_wp2_with fail
        refine (all_any (bothS xa xb) (lessS xa xb) _ _ w14 (IX.out.below HC14.out) (IY.out.below HC14.out) (by omega) (by first | omega | (simp; done))).mono ?_
        rintro e w15 ⟨v15, rfl, ho, hd⟩
        have IP := hid ho.reads
        obtain ⟨A15, c15, rfl, _, _⟩ := ho.reads
        clear ho
        have HB15 := hid (below_then HB14.out hd)
        have HC15 := hid (HC14.out.trans (hd.mono HC14.out.size))
        clear hd
        go_wp2_with fail
        refine (all_any xa [] _ _ w15 (IA.out.below HB15.out) (InS.nil w15) (by omega) (by first | omega | (simp; done))).mono ?_
        rintro e w16 ⟨v16, rfl, ho, hd⟩
        have IQ := hid ho.reads
        obtain ⟨A16, c16, rfl, _, _⟩ := ho.reads
        clear ho
        replace IP := hid (IP.out.below hd)
        have HB16 := hid (below_then HB15.out hd)
        have HC16 := hid (HC15.out.trans (hd.mono HC15.out.size))
        clear hd
        go_wp2_with fail
        have hS := rsame_any (allS xa []) _ _ w16 (law_sum xa xb ▸ IP.out) IQ.out (by have := all_len xa []; simp at this; omega)
        rw [law_sum xa xb]
        refine hS.mono ?_
        rintro e w17 ⟨rfl, hd⟩
        clear hS IP IQ
        have HB17 := hid (below_then HB16.out hd)
        have HC17 := hid (HC16.out.trans (hd.mono HC16.out.size))
        clear hd
        go_wp2_with fail
        refine (both_any (lessS xa xb) xb _ _ w17 (IY.out.below HC17.out) (IB.out.below HB17.out) (by omega) (by omega)).mono ?_
        rintro e w18 ⟨v18, rfl, ho, hd⟩
        obtain ⟨A18, c18, rfl, _, _⟩ := ho.reads
        rw [law_none xa xb]
        clear ho
        have HB18 := hid (below_then HB17.out hd)
        have HC18 := hid (HC17.out.trans (hd.mono HC17.out.size))
        clear hd
        go_wp2_with fail
        refine (both_any xb xa _ _ w18 (IB.out.below HB18.out) (IA.out.below HB18.out) (by omega) (by omega)).mono ?_
        rw [← law_sym xa xb]
        rintro e w19 ⟨v19, rfl, ho, hd⟩
        have IP := hid ho.reads
        obtain ⟨A19, c19, rfl, _, _⟩ := ho.reads
        clear ho
        have HB19 := hid (below_then HB18.out hd)
        have HC19 := hid (HC18.out.trans (hd.mono HC18.out.size))
        clear hd
        go_wp2_with fail
        refine (rsame_any (bothS xa xb) _ _ w19 (IX.out.below HC19.out) IP.out (by omega)).mono ?_
        rintro e w20 ⟨rfl, hd⟩
        clear IP
        have HB20 := hid (below_then HB19.out hd)
        have HC20 := hid (HC19.out.trans (hd.mono HC19.out.size))
        clear hd
        go_wp2_with fail
        refine (all_any xb xa _ _ w20 (IB.out.below HB20.out) (IA.out.below HB20.out) (by omega) (by omega)).mono ?_
        rw [← law_com xa xb]
        rintro e w21 ⟨v21, rfl, ho, hd⟩
        have IP := hid ho.reads
        obtain ⟨A21, c21, rfl, _, _⟩ := ho.reads
        clear ho
        have HB21 := hid (below_then HB20.out hd)
        have HC21 := hid (HC20.out.trans (hd.mono HC20.out.size))
        clear hd
        go_wp2_with fail
        refine (rsame_any (allS xa xb) _ _ w21 (IZ.out.below HC21.out) IP.out (by omega)).mono ?_
        rintro e w22 ⟨rfl, hd⟩
        clear IP
        have HB22 := hid (below_then HB21.out hd)
        have HC22 := hid (HC21.out.trans (hd.mono HC21.out.size))
        clear hd
        go_wp2_with fail
        go_ret
        exact TruePost.mk (by simp) HB22.out
      · obtain rfl : er = .iface 41 (.int .i64 70) := he
        clear hd hbad
        go_wp2_with fail
        refine (both_any xa xb _ _ w4 (IA.out.below HB4.out) (IB.out.below HB4.out) (by omega) (by omega)).mono ?_
        rintro e w5 ⟨v5, rfl, ho, hd⟩
        have HB5 := hid (below_then HB4.out hd)
        have IX := hid ho.reads
        obtain ⟨A5, c5, rfl, _, _⟩ := ho.reads
        clear hd ho
        go_wp2_with fail
        refine (less_any xa xb _ _ w5 (IA.out.below HB5.out) (IB.out.below HB5.out) (by omega) (by omega)).mono ?_
        rintro e w6 ⟨v6, rfl, ho, hd⟩
        have HB6 := hid (below_then HB5.out hd)
        replace IX := hid (IX.out.below hd)
        have IY := hid ho.reads
        obtain ⟨A6, c6, rfl, _, _⟩ := ho.reads
        clear hd ho
        go_wp2_with fail
        refine (all_any xa xb _ _ w6 (IA.out.below HB6.out) (IB.out.below HB6.out) (by omega) (by omega)).mono ?_
        rintro e w7 ⟨v7, rfl, ho, hd⟩
        have HB7 := hid (below_then HB6.out hd)
        replace IX := hid (IX.out.below hd)
        replace IY := hid (IY.out.below hd)
        have IZ := hid ho.reads
        obtain ⟨A7, c7, rfl, _, _⟩ := ho.reads
        clear hd ho
        go_wp2_with fail
        have HC7 := hid (Below.refl w7.heap.size w7)
        refine (within_any (bothS xa xb) xa _ _ w7 (IX.out.below HC7.out) (IA.out.below HB7.out) (by omega) (by omega)).mono ?_
        intro e w8 hq
        obtain ⟨rfl, hd⟩ := hq.of (law_ba xa xb)
        have HB8 := hid (below_then HB7.out hd)
        have HC8 := hid (HC7.out.trans (hd.mono HC7.out.size))
        clear hd
        go_wp2_with fail
        refine (within_any (bothS xa xb) xb _ _ w8 (IX.out.below HC8.out) (IB.out.below HB8.out) (by omega) (by omega)).mono ?_
        intro e w9 hq
        obtain ⟨rfl, hd⟩ := hq.of (law_bb xa xb)
        have HB9 := hid (below_then HB8.out hd)
        have HC9 := hid (HC8.out.trans (hd.mono HC8.out.size))
        clear hd
        go_wp2_with fail
        refine (within_any xa (allS xa xb) _ _ w9 (IA.out.below HB9.out) (IZ.out.below HC9.out) (by omega) (by omega)).mono ?_
        intro e w10 hq
        obtain ⟨rfl, hd⟩ := hq.of (law_aa xa xb)
        have HB10 := hid (below_then HB9.out hd)
        have HC10 := hid (HC9.out.trans (hd.mono HC9.out.size))
        clear hd
        go_wp2_with fail
        refine (within_any xb (allS xa xb) _ _ w10 (IB.out.below HB10.out) (IZ.out.below HC10.out) (by omega) (by omega)).mono ?_
        intro e w11 hq
        obtain ⟨rfl, hd⟩ := hq.of (law_ab xa xb)
        have HB11 := hid (below_then HB10.out hd)
        have HC11 := hid (HC10.out.trans (hd.mono HC10.out.size))
        clear hd
        go_wp2_with fail
        refine (all_any (bothS xa xb) (lessS xa xb) _ _ w11 (IX.out.below HC11.out) (IY.out.below HC11.out) (by omega) (by first | omega | (simp; done))).mono ?_
        rintro e w12 ⟨v12, rfl, ho, hd⟩
        have IP := hid ho.reads
        obtain ⟨A12, c12, rfl, _, _⟩ := ho.reads
        clear ho
        have HB12 := hid (below_then HB11.out hd)
        have HC12 := hid (HC11.out.trans (hd.mono HC11.out.size))
        clear hd
        go_wp2_with fail
        refine (all_any xa [] _ _ w12 (IA.out.below HB12.out) (InS.nil w12) (by omega) (by first | omega | (simp; done))).mono ?_
        rintro e w13 ⟨v13, rfl, ho, hd⟩
        have IQ := hid ho.reads
        obtain ⟨A13, c13, rfl, _, _⟩ := ho.reads
        clear ho
        replace IP := hid (IP.out.below hd)
        have HB13 := hid (below_then HB12.out hd)
        have HC13 := hid (HC12.out.trans (hd.mono HC12.out.size))
        clear hd
        go_wp2_with fail
        have hS := rsame_any (allS xa []) _ _ w13 (law_sum xa xb ▸ IP.out) IQ.out (by have := all_len xa []; simp at this; omega)
        rw [law_sum xa xb]
        refine hS.mono ?_
        rintro e w14 ⟨rfl, hd⟩
        clear hS IP IQ
        have HB14 := hid (below_then HB13.out hd)
        have HC14 := hid (HC13.out.trans (hd.mono HC13.out.size))
        clear hd
        go_wp2_with fail
        refine (both_any (lessS xa xb) xb _ _ w14 (IY.out.below HC14.out) (IB.out.below HB14.out) (by omega) (by omega)).mono ?_
        rintro e w15 ⟨v15, rfl, ho, hd⟩
        obtain ⟨A15, c15, rfl, _, _⟩ := ho.reads
        rw [law_none xa xb]
        clear ho
        have HB15 := hid (below_then HB14.out hd)
        have HC15 := hid (HC14.out.trans (hd.mono HC14.out.size))
        clear hd
        go_wp2_with fail
        refine (both_any xb xa _ _ w15 (IB.out.below HB15.out) (IA.out.below HB15.out) (by omega) (by omega)).mono ?_
        rw [← law_sym xa xb]
        rintro e w16 ⟨v16, rfl, ho, hd⟩
        have IP := hid ho.reads
        obtain ⟨A16, c16, rfl, _, _⟩ := ho.reads
        clear ho
        have HB16 := hid (below_then HB15.out hd)
        have HC16 := hid (HC15.out.trans (hd.mono HC15.out.size))
        clear hd
        go_wp2_with fail
        refine (rsame_any (bothS xa xb) _ _ w16 (IX.out.below HC16.out) IP.out (by omega)).mono ?_
        rintro e w17 ⟨rfl, hd⟩
        clear IP
        have HB17 := hid (below_then HB16.out hd)
        have HC17 := hid (HC16.out.trans (hd.mono HC16.out.size))
        clear hd
        go_wp2_with fail
        refine (all_any xb xa _ _ w17 (IB.out.below HB17.out) (IA.out.below HB17.out) (by omega) (by omega)).mono ?_
        rw [← law_com xa xb]
        rintro e w18 ⟨v18, rfl, ho, hd⟩
        have IP := hid ho.reads
        obtain ⟨A18, c18, rfl, _, _⟩ := ho.reads
        clear ho
        have HB18 := hid (below_then HB17.out hd)
        have HC18 := hid (HC17.out.trans (hd.mono HC17.out.size))
        clear hd
        go_wp2_with fail
        refine (rsame_any (allS xa xb) _ _ w18 (IZ.out.below HC18.out) IP.out (by omega)).mono ?_
        rintro e w19 ⟨rfl, hd⟩
        clear IP
        have HB19 := hid (below_then HB18.out hd)
        have HC19 := hid (HC18.out.trans (hd.mono HC18.out.size))
        clear hd
        go_wp2_with fail
        go_ret
        exact TruePost.mk (by simp) HB19.out
end Go.Proofs.YtomkdnapnjkclaaDoor.Sco

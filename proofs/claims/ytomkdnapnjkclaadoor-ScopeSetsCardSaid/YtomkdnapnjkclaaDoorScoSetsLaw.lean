/-
  The statement ScopeSets: its call answers true.
-/
import Derived.Test.YtomkdnapnjkclaaDoorScoAlive
import Derived.Test.YtomkdnapnjkclaaDoorScoRef2
import Derived.Test.YtomkdnapnjkclaaDoorScoOpen
namespace Go.Proofs.YtomkdnapnjkclaaDoor.Sco
open Go.RowKit Go.Proofs.YtomkdnapnjkclaaDoor Go.Proofs.YtomkdnapnjkclaaDoor.PScopeSets Go.Proofs.YtomkdnapnjkclaaDoorW.PrintWords Go.Proofs.YtomkdnapnjkclaaDoorW.PrintLast Go.Proofs.YtomkdnapnjkclaaDoorW.PrintMore
set_option linter.unusedVariables false
set_option linter.unusedSimpArgs false
set_option maxHeartbeats 8000000 in
set_option maxRecDepth 20000 in
theorem sets_walk (va : Value) (xa : List ByteArray) (vb : Value) (xb : List ByteArray) (s : ByteArray) (w : World) (ha : InS w va xa) (hb : InS w vb xb) (hs : s.size ≤ maxLen) : Calls Tryd.prog 3 #[va, vb, .string s] w (TruePost w) := by
  have IA := hid ha
  have IB := hid hb
  obtain ⟨A, ca, rfl, hca, hCA⟩ := ha
  obtain ⟨B, cb, rfl, hcb, hCB⟩ := hb
  have CA := hid hCA
  have CB := hid hCB
  clear hCA hCB
  go_enter Tryd.func3, Tryd.ntmps3
  go_wp2_with (go_at_call 7; refine (alive_any _).mono ?_; rintro e w1 ⟨rfl, hb⟩; have HB1 := hid hb; clear hb)
  refine (great_any xa A ca w1 (Kd.C_below CA.out HB1.out) hca).mono ?_
  rintro e w2 ⟨b, rfl, hgr, hd⟩
  have HB2 := hid (below_then HB1.out hd.below)
  have HGA := hid hgr
  clear hgr hd
  cases b with
  | true =>
    go_wp2_with fail
    go_ret
    exact TruePost.mk rfl HB2.out
  | false =>
    obtain ⟨hna, _⟩ := HGA.out rfl
    go_wp2_with fail
    refine (great_any xb B cb w2 (Kd.C_below CB.out HB2.out) hcb).mono ?_
    rintro e w3 ⟨b, rfl, hgr, hd⟩
    have HB3 := hid (below_then HB2.out hd.below)
    have HGB := hid hgr
    clear hgr hd
    cases b with
    | true =>
      go_wp2_with fail
      go_ret
      exact TruePost.mk rfl HB3.out
    | false =>
      obtain ⟨hnb, _⟩ := HGB.out rfl
      obtain ⟨r, hr⟩ : ∃ r, decide (s ∈ xa) = r := ⟨_, rfl⟩
      obtain ⟨u, hu⟩ : ∃ u, withinB xa xb = u := ⟨_, rfl⟩
      have H1 : Hid (∀ y, Below w.heap.size w y → Calls Tryd.prog 9 #[.slice (A) xa.length ca, .string s] y (BP r y)) := hid (fun y hy => by rw [← hr]; exact has_any xa s A ca y (Kd.C_below CA.out hy) hca (by omega))
      have H2 : Hid (∀ y, Below w.heap.size w y → Calls Tryd.prog 10 #[.slice (A) xa.length ca, .string s] y (BP r y)) := hid (fun y hy => by rw [← hr]; exact rhas_any xa s A ca y (Kd.C_below CA.out hy) hca (by omega))
      have H3 : Hid (∀ y, Below w.heap.size w y → Calls Tryd.prog 11 #[.slice (A) xa.length ca, .slice B xb.length cb] y (BB u y)) := hid (fun y hy => by rw [← hu]; exact within_any xa xb _ _ y (IA.out.below hy) (IB.out.below hy) (by omega) (by omega))
      have H4 : Hid (∀ y, Below w.heap.size w y → Calls Tryd.prog 12 #[.slice (A) xa.length ca, .slice B xb.length cb] y (BB u y)) := hid (fun y hy => by rw [← hu]; exact rwithin_any xa xb _ _ y (IA.out.below hy) (IB.out.below hy) (by omega) (by omega))
      clear hr hu
      have q0 : (r == r) = true := by simp
      have q1 : (u == u) = true := by simp
      go_wp2_with fail
      refine (H1.out _ HB3.out).mono ?_
      rintro e w4 ⟨rfl, hd⟩
      have HB4 := hid (below_then HB3.out hd.below)
      clear hd
      go_wp2_with fail
      refine (H2.out _ HB4.out).mono ?_
      rintro e w5 ⟨rfl, hd⟩
      have HB5 := hid (below_then HB4.out hd.below)
      clear hd
      go_wp2_with fail
      refine (H3.out _ HB5.out).mono ?_
      rintro e w6 ⟨rfl, hd⟩
      have HB6 := hid (below_then HB5.out hd)
      clear hd
      go_wp2_with fail
      refine (H4.out _ HB6.out).mono ?_
      rintro e w7 ⟨rfl, hd⟩
      have HB7 := hid (below_then HB6.out hd)
      clear hd
      go_wp2_with fail
      refine (both_any xa xb _ _ w7 (IA.out.below HB7.out) (IB.out.below HB7.out) (by omega) (by omega)).mono ?_
      rintro e w8 ⟨v8, rfl, ho, hd⟩
      have HB8 := hid (below_then HB7.out hd)
      have HI8 := hid ho.reads
      obtain ⟨A8, c8, rfl, _, _⟩ := ho.reads
      clear hd ho
      go_wp2_with fail
      refine (rboth_any xa xb _ _ w8 (IA.out.below HB8.out) (IB.out.below HB8.out) (by omega) (by omega)).mono ?_
      rintro e w9 ⟨v9, rfl, ho, hd⟩
      have HB9 := hid (below_then HB8.out hd)
      have HJ8 := hid (HI8.out.below hd)
      have HI9 := hid ho.reads
      obtain ⟨A9, c9, rfl, _, _⟩ := ho.reads
      have hl8 : (bothS xa xb).length ≤ 1048576 := Nat.le_trans (set_len _) (by first | (rw [List.length_append]; omega) | (exact Nat.le_trans (List.length_filter_le _ _) (by omega)))
      have HL8 := hid hl8
      clear hd ho hl8
      go_wp2_with fail
      refine (rsame_any _ _ _ w9 HJ8.out HI9.out HL8.out).mono ?_
      rintro e w10 ⟨rfl, hd⟩
      have HB10 := hid (below_then HB9.out hd)
      clear hd
      go_wp2_with fail
      refine (all_any xa xb _ _ w10 (IA.out.below HB10.out) (IB.out.below HB10.out) (by omega) (by omega)).mono ?_
      rintro e w11 ⟨v11, rfl, ho, hd⟩
      have HB11 := hid (below_then HB10.out hd)
      have HI11 := hid ho.reads
      obtain ⟨A11, c11, rfl, _, _⟩ := ho.reads
      clear hd ho
      go_wp2_with fail
      refine (rall_any xa xb _ _ w11 (IA.out.below HB11.out) (IB.out.below HB11.out) (by omega) (by omega)).mono ?_
      rintro e w12 ⟨v12, rfl, ho, hd⟩
      have HB12 := hid (below_then HB11.out hd)
      have HJ11 := hid (HI11.out.below hd)
      have HI12 := hid ho.reads
      obtain ⟨A12, c12, rfl, _, _⟩ := ho.reads
      have hl11 : (allS xa xb).length ≤ 1048576 := Nat.le_trans (set_len _) (by first | (rw [List.length_append]; omega) | (exact Nat.le_trans (List.length_filter_le _ _) (by omega)))
      have HL11 := hid hl11
      clear hd ho hl11
      go_wp2_with fail
      refine (rsame_any _ _ _ w12 HJ11.out HI12.out HL11.out).mono ?_
      rintro e w13 ⟨rfl, hd⟩
      have HB13 := hid (below_then HB12.out hd)
      clear hd
      go_wp2_with fail
      refine (less_any xa xb _ _ w13 (IA.out.below HB13.out) (IB.out.below HB13.out) (by omega) (by omega)).mono ?_
      rintro e w14 ⟨v14, rfl, ho, hd⟩
      have HB14 := hid (below_then HB13.out hd)
      have HI14 := hid ho.reads
      obtain ⟨A14, c14, rfl, _, _⟩ := ho.reads
      clear hd ho
      go_wp2_with fail
      refine (rless_any xa xb _ _ w14 (IA.out.below HB14.out) (IB.out.below HB14.out) (by omega) (by omega)).mono ?_
      rintro e w15 ⟨v15, rfl, ho, hd⟩
      have HB15 := hid (below_then HB14.out hd)
      have HJ14 := hid (HI14.out.below hd)
      have HI15 := hid ho.reads
      obtain ⟨A15, c15, rfl, _, _⟩ := ho.reads
      have hl14 : (lessS xa xb).length ≤ 1048576 := Nat.le_trans (set_len _) (by first | (rw [List.length_append]; omega) | (exact Nat.le_trans (List.length_filter_le _ _) (by omega)))
      have HL14 := hid hl14
      clear hd ho hl14
      go_wp2_with fail
      refine (rsame_any _ _ _ w15 HJ14.out HI15.out HL14.out).mono ?_
      rintro e w16 ⟨rfl, hd⟩
      have HB16 := hid (below_then HB15.out hd)
      clear hd
      go_wp2_with fail
      go_ret
      exact TruePost.mk (by simp) HB16.out
end Go.Proofs.YtomkdnapnjkclaaDoor.Sco

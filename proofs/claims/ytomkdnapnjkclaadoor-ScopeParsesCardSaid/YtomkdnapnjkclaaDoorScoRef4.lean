/-
  The document's Check by contract.
-/
import Derived.Test.YtomkdnapnjkclaaDoorScoRef3
namespace Go.Proofs.YtomkdnapnjkclaaDoor.Sco
open Go.RowKit Go.Proofs.YtomkdnapnjkclaaDoor Go.Proofs.YtomkdnapnjkclaaDoor.PScopeSets Go.Proofs.YtomkdnapnjkclaaDoorW.PrintWords Go.Proofs.YtomkdnapnjkclaaDoorW.PrintLast Go.Proofs.YtomkdnapnjkclaaDoorW.PrintMore
set_option linter.unusedVariables false
set_option linter.unusedSimpArgs false
def RCheckPost (xs : List ByteArray) (w : World) (e : Ending) (w' : World) : Prop := ∃ b, e = .returned (.bool b) ∧ (b = true ↔ Good xs) ∧ Drawn0 w w'
theorem RCheckPost.yes {xs : List ByteArray} {w w' : World} (h : Good xs) (hb : Drawn0 w w') : RCheckPost xs w (.returned (.bool true)) w' := ⟨_, rfl, by simp [h], hb⟩
theorem RCheckPost.no {xs : List ByteArray} {w w' : World} (h : ¬ Good xs) (hb : Drawn0 w w') : RCheckPost xs w (.returned (.bool false)) w' := ⟨_, rfl, by simp [h], hb⟩
set_option maxHeartbeats 8000000 in
set_option maxRecDepth 20000 in
theorem rcheck_any (xs : List ByteArray) (v : Value) (w : World) (h : InS w v xs) (hs : ∀ x ∈ xs, x.size ≤ 1048576) : Calls Tryd.prog 27 #[v] w (RCheckPost xs w) := by
  obtain ⟨A, c, rfl, hc, hC⟩ := h
  have HC := hid hC
  have HS := hid hs
  clear hC hs
  by_cases hbig : 16 < xs.length
  · have t0 : decide ((16 : Int) < (xs.length : Int)) = true := decide_eq_true (by omega)
    have HN : Hid (¬ Good xs) := hid (fun h => by have := good_len h; omega)
    go_enter Tryd.func27, Tryd.ntmps27
    go_wp2_with fail
    go_ret
    exact RCheckPost.no HN.out (Drawn0.refl _)
  · have t0 : decide ((16 : Int) < (xs.length : Int)) = false := decide_eq_false (by omega)
    go_enter Tryd.func27, Tryd.ntmps27
    go_wp2_with fail
    go_loopw [3] (fun vi wr => ∃ i : Nat, i ≤ xs.length ∧ vi = .int .i64 (i : Nat) ∧ Hid (∀ q, q < i → goodAt xs q) ∧ Drawn0 w wr) (fun vi _ => xs.length - (intOf vi).toNat)
    case atStart => exact ⟨0, Nat.zero_le _, rfl, hid (fun q h => absurd h (by omega)), Drawn0.refl _⟩
    case round =>
      obtain ⟨i, hi, rfl, hg, hbw⟩ := hrel
      have HBW := hid hbw
      by_cases hlt : i < xs.length
      · have t1 : decide ((i : Int) < (xs.length : Int)) = true := decide_eq_true (by omega)
        obtain ⟨x, hx⟩ : ∃ x, xs[i]? = some x := ⟨xs[i], by simp⟩
        have p0 : (0 : Int) ≤ (i : Int) := by omega
        have p1 : (i : Int) < (xs.length : Int) := by omega
        obtain ⟨ad, rfl, hcx⟩ := at_S (Kd.C_below HC.out hbw.below) i hlt x hx
        have hxs := HS.out x (List.mem_of_getElem? hx)
        have HX := hid hx
        have hsz := hbw.below.size
        obtain ⟨b, hnm⟩ : ∃ b, nameB x = b := ⟨_, rfl⟩
        have NM : Hid (∀ y, Calls Tryd.prog 26 #[.string x] y (BP b y)) := hid (fun y => by rw [← hnm]; exact rname_any x y hxs)
        have hcx0 := hcx
        have HCX : Hid (∀ z, Below wr.heap.size wr z → z.cell? (ad.add i) = some (.string x)) := hid (fun z hz => (hz.cell (lt_of_cell hcx)).trans hcx)
        have HNM := hid hnm
        clear hx hbw hnm hcx
        by_cases h0 : i = 0
        · have t2 : decide (0 < i) = false := decide_eq_false (by omega)
          have HI0 := hid h0
          clear h0
          cases b with
          | false =>
            have HN : Hid (¬ Good xs) := hid (fun hG => by have := (hG i hlt).2.1 x HX.out; rw [HNM.out] at this; cases this)
            go_wp2_with fail
            go_quiet ((go_at_call 26; refine (NM.out _).mono ?_; rintro e w' ⟨rfl, ⟨nd, rfl⟩⟩; exact ⟨rfl, _, World.drewN_drewN _ _ _⟩))
            go_wp2_with fail
            go_ret
            exact RCheckPost.no HN.out (HBW.out.step _)
          | true =>
            have HGN : Hid (goodAt xs i) := hid ⟨by have := HI0.out; omega, fun y hy => by rw [HX.out] at hy; rw [← Option.some.inj hy]; exact HNM.out, fun _ _ h9 => absurd h9 (by have := HI0.out; omega)⟩
            go_wp2_with fail
            go_quiet ((go_at_call 26; refine (NM.out _).mono ?_; rintro e w' ⟨rfl, ⟨nd, rfl⟩⟩; exact ⟨rfl, _, World.drewN_drewN _ _ _⟩))
            go_wp2_with fail
            refine ⟨⟨i + 1, by omega, by congr 1, hid (fun q hq => by
              rcases Nat.lt_or_ge q i with h9 | h9
              · exact hg.out q h9
              · obtain rfl : q = i := by omega
                exact HGN.out), HBW.out.step _⟩, by simp [intOf] <;> omega⟩
        · have t2 : decide (0 < i) = true := decide_eq_true (by omega)
          obtain ⟨j, hm⟩ : ∃ j, j + 1 = i := ⟨i - 1, by omega⟩
          have HM := hid hm
          obtain ⟨yv, hy⟩ : ∃ y, xs[j]? = some y := ⟨xs[j], by simp⟩
          have p3 : (0 : Int) ≤ (j : Int) := by omega
          have p4 : (j : Int) < (xs.length : Int) := by omega
          have x0 : IntKind.i64.wrap ((i : Int) - 1) = (j : Int) := by rw [IntKind.wrap_i64]; omega
          have HCY : Hid (∀ z, Below wr.heap.size wr z → z.cell? (ad.add i) = some (.string x) ∧ z.cell? (ad.add j) = some (.string yv)) := hid (fun z hz => by
            obtain ⟨ad2, e2, h9⟩ := at_S (Kd.C_below HC.out (HBW.out.below.trans (hz.mono hsz))) j (by omega) yv hy
            cases e2
            exact ⟨HCX.out z hz, h9⟩)
          have HY := hid hy
          have hcy0 := (HCY.out wr (Below.refl _ _)).2
          clear h0 hm hy
          cases b with
          | false =>
            have HN : Hid (¬ Good xs) := hid (fun hG => by have := (hG i hlt).2.1 x HX.out; rw [HNM.out] at this; cases this)
            go_wp2_with fail
            go_quiet ((go_at_call 26; refine (NM.out _).mono ?_; rintro e w' ⟨rfl, ⟨nd, rfl⟩⟩; exact ⟨rfl, _, World.drewN_drewN _ _ _⟩))
            go_wp2_with fail
            go_ret
            exact RCheckPost.no HN.out (HBW.out.step _)
          | true =>
            by_cases hlt2 : BLt yv x
            · have hl9 : Op.bytesLess yv.toList x.toList = true := (less_iff yv x).2 hlt2
              have hg9 := fun w' => run_leq x yv w'
              rw [decide_eq_true hlt2] at hg9
              have hb9 : Op.bytesLess x.toList yv.toList = false := by
                cases e : Op.bytesLess x.toList yv.toList with
                | false => rfl
                | true => exact absurd (lt_trans hlt2 ((less_iff x yv).1 e)) (lt_irr _)
              have he9 : (x.toList == yv.toList) = false := by
                rw [eq_of_beq_str, decide_eq_false (fun e => by rw [e] at hlt2; exact lt_irr _ hlt2)]
              have HGN : Hid (goodAt xs i) := hid ⟨by omega, fun z hz => by rw [HX.out] at hz; rw [← Option.some.inj hz]; exact HNM.out, fun a b _ h9 h8 => by
                rw [← HM.out, Nat.add_sub_cancel, HY.out] at h9
                rw [HX.out] at h8
                rw [← Option.some.inj h9, ← Option.some.inj h8]; exact hlt2⟩
              clear hlt2
              go_wp2_with fail
              go_quiet ((go_at_call 26; refine (NM.out _).mono ?_; rintro e w' ⟨rfl, ⟨nd, rfl⟩⟩; exact ⟨rfl, _, World.drewN_drewN _ _ _⟩))
              go_wp2_with fail
              refine ⟨⟨i + 1, by omega, by congr 1, hid (fun q hq => by
                rcases Nat.lt_or_ge q i with h9 | h9
                · exact hg.out q h9
                · obtain rfl : q = i := by omega
                  exact HGN.out), HBW.out.step _⟩, by simp [intOf] <;> omega⟩
            · have hg9 := fun w' => run_leq x yv w'
              rw [decide_eq_false hlt2] at hg9
              have hor : (Op.bytesLess x.toList yv.toList || x.toList == yv.toList) = true := by
                have := gtr_val x yv
                rw [decide_eq_false hlt2] at this
                rwa [Bool.not_eq_false'] at this
              have HN : Hid (¬ Good xs) := hid (fun hG => hlt2 ((hG i hlt).2.2 x yv (by have := HM.out; omega) (by rw [← HM.out, Nat.add_sub_cancel]; exact HY.out) HX.out))
              clear hlt2
              go_wp2_with fail
              go_quiet ((go_at_call 26; refine (NM.out _).mono ?_; rintro e w' ⟨rfl, ⟨nd, rfl⟩⟩; exact ⟨rfl, _, World.drewN_drewN _ _ _⟩))
              go_wp2_with fail
              go_ret
              exact RCheckPost.no HN.out (HBW.out.step _)
      · obtain rfl : i = xs.length := by omega
        have t1 : decide ((xs.length : Int) < (xs.length : Int)) = false := decide_eq_false (by omega)
        clear hbw
        go_wp2_with fail
        go_ret
        exact RCheckPost.yes (fun q hq => hg.out q hq) HBW.out
end Go.Proofs.YtomkdnapnjkclaaDoor.Sco

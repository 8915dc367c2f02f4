/-
  scope.Check by contract.
-/
import Derived.Test.YtomkdnapnjkclaaDoorScoRef
import Derived.Test.YtomkdnapnjkclaaDoorErr
namespace Go.Proofs.YtomkdnapnjkclaaDoor.Sco
open Go.RowKit Go.Proofs.YtomkdnapnjkclaaDoor Go.Proofs.YtomkdnapnjkclaaDoor.PScopeSets Go.Proofs.YtomkdnapnjkclaaDoorW.PrintWords Go.Proofs.YtomkdnapnjkclaaDoorW.PrintLast Go.Proofs.YtomkdnapnjkclaaDoorW.PrintMore
set_option linter.unusedVariables false
set_option linter.unusedSimpArgs false
def goodAt (xs : List ByteArray) (i : Nat) : Prop := i ≠ 16 ∧ (∀ x, xs[i]? = some x → nameB x = true) ∧ (∀ x y, 0 < i → xs[i - 1]? = some y → xs[i]? = some x → BLt y x)
/-- Are they scopes? -/
def Good (xs : List ByteArray) : Prop := ∀ i, i < xs.length → goodAt xs i
theorem good_len {xs : List ByteArray} (h : Good xs) : xs.length ≤ 16 := by
  by_cases h2 : 16 < xs.length
  · exact absurd rfl (h 16 h2).1
  · omega
theorem good_name {xs : List ByteArray} (h : Good xs) : ∀ x ∈ xs, nameB x = true := fun x hx => by
  obtain ⟨i, hi⟩ := List.mem_iff_getElem?.1 hx
  exact (h i (List.getElem?_eq_some_iff.1 hi).1).2.1 x hi
theorem good_rise {xs : List ByteArray} (h : Good xs) : Rise xs := by
  have key : ∀ (j i : Nat) (x y : ByteArray), i < j → xs[i]? = some y → xs[j]? = some x → BLt y x := by
    intro j
    induction j with
    | zero => intro i x y h1; omega
    | succ j ih =>
      intro i x y h1 h2 h3
      have hj := (List.getElem?_eq_some_iff.1 h3).1
      have h4 : xs[j]? = some xs[j] := by simp
      have h5 := (h (j + 1) hj).2.2 x xs[j] (by omega) (by rw [Nat.add_sub_cancel]; exact h4) h3
      by_cases e : i = j
      · subst e
        rw [h4] at h2
        rw [← Option.some.inj h2]
        exact h5
      · exact lt_trans (ih i _ y (by omega) h2 h4) h5
  refine List.pairwise_iff_getElem.2 (fun i j hi hj hij => key j i _ _ hij (by simp) (by simp))
/-- What Check answers. -/
def CheckPost (xs : List ByteArray) (w : World) (e : Ending) (w' : World) : Prop := ∃ er g, e = .returned er ∧ IsErr w' g er ∧ ((g = .nil ∧ Good xs) ∨ (g = .no 70 ∧ ¬ Good xs)) ∧ Below w.heap.size w w'
theorem CheckPost.yes {xs : List ByteArray} {w w' : World} (h : Good xs) (hb : Below w.heap.size w w') : CheckPost xs w (.returned .nilIface) w' := ⟨_, .nil, rfl, rfl, .inl ⟨rfl, h⟩, hb⟩
theorem CheckPost.no {xs : List ByteArray} {w w' : World} (h : ¬ Good xs) (hb : Below w.heap.size w w') : CheckPost xs w (.returned (.iface 41 (.int .i64 70))) w' := ⟨_, .no 70, rfl, rfl, .inr ⟨rfl, h⟩, hb⟩
set_option maxHeartbeats 4000000 in
set_option maxRecDepth 20000 in
theorem check_any (xs : List ByteArray) (v : Value) (w : World) (h : InS w v xs) (hn : xs.length ≤ 100000) (hs : ∀ x ∈ xs, x.size ≤ 1048576) : Calls Tryd.prog 20 #[v] w (CheckPost xs w) := by
  obtain ⟨A, c, rfl, hc, hC⟩ := h
  have HC := hid hC
  have HS := hid hs
  clear hC hs
  go_enter Tryd.func20, Tryd.ntmps20
  go_wp2_with fail
  go_loopw [7] (fun vi wr => ∃ i : Nat, i ≤ xs.length ∧ vi = .int .i64 (i : Nat) ∧ Hid (∀ q, q < i → goodAt xs q) ∧ Below w.heap.size w wr) (fun vi _ => xs.length - (intOf vi).toNat)
  case atStart => exact ⟨0, Nat.zero_le _, rfl, hid (fun q h => absurd h (by omega)), Below.refl _ _⟩
  case round =>
    obtain ⟨i, hi, rfl, hg, hbw⟩ := hrel
    have HBW := hid hbw
    by_cases hlt : i < xs.length
    · have t0 : decide ((i : Int) < (xs.length : Int)) = true := decide_eq_true (by omega)
      obtain ⟨x, hx⟩ : ∃ x, xs[i]? = some x := ⟨xs[i], by simp⟩
      have p0 : (0 : Int) ≤ (i : Int) := by omega
      have p1 : (i : Int) < (xs.length : Int) := by omega
      obtain ⟨ad, rfl, hcx⟩ := at_S (Kd.C_below HC.out hbw) i hlt x hx
      have hxs := HS.out x (List.mem_of_getElem? hx)
      have HX := hid hx
      have hsz := hbw.size
      by_cases h16 : i = 16
      · have t1 : ((i : Int) == 16) = true := by rw [h16]; rfl
        have HN : Hid (¬ Good xs) := hid (fun hG => (hG i hlt).1 h16)
        clear hx hbw h16
        go_wp2_with fail
        go_ret
        exact CheckPost.no HN.out HBW.out
      · have t1 : ((i : Int) == 16) = false := int_beq_false (by omega)
        have NM := hid (name_any x wr hxs)
        cases hnm : nameB x with
        | false =>
          rw [hnm] at NM
          have HN : Hid (¬ Good xs) := hid (fun hG => by have := (hG i hlt).2.1 x HX.out; rw [hnm] at this; cases this)
          clear hx hbw hnm
          go_wp2_with (go_at_call 25; refine NM.out.mono ?_; rintro e w1 ⟨rfl, hd⟩; have HB1 := hid (HBW.out.trans (hd.below.mono hsz)); clear hd)
          go_ret
          exact CheckPost.no HN.out HB1.out
        | true =>
          rw [hnm] at NM
          have HNM := hid hnm
          clear hbw hnm
          by_cases h0 : i = 0
          · have t2 : decide (0 < i) = false := decide_eq_false (by omega)
            have HGN : Hid (goodAt xs i) := hid ⟨h16, fun y hy => by rw [HX.out] at hy; rw [← Option.some.inj hy]; exact HNM.out, fun _ _ h9 => absurd h9 (by omega)⟩
            have HI0 := hid h0
            clear hx h16 h0
            go_wp2_with (go_at_call 25; refine NM.out.mono ?_; rintro e w1 ⟨rfl, hd⟩; have HB1 := hid (HBW.out.trans (hd.below.mono hsz)); clear hd)
            refine ⟨⟨i + 1, by omega, by congr 1, hid (fun q hq => by
              rcases Nat.lt_or_ge q i with h9 | h9
              · exact hg.out q h9
              · obtain rfl : q = i := by omega
                exact HGN.out), HB1.out⟩, by simp [intOf] <;> omega⟩
          · have t2 : decide (0 < i) = true := decide_eq_true (by omega)
            obtain ⟨j, hm⟩ : ∃ j, j + 1 = i := ⟨i - 1, by omega⟩
            have HM := hid hm
            obtain ⟨y, hy⟩ : ∃ y, xs[j]? = some y := ⟨xs[j], by simp⟩
            have p3 : (0 : Int) ≤ (j : Int) := by omega
            have p4 : (j : Int) < (xs.length : Int) := by omega
            have x0 : IntKind.i64.wrap ((i : Int) - 1) = (j : Int) := by rw [IntKind.wrap_i64]; omega
            have hcy : ∀ z, Below w.heap.size w z → z.cell? (ad.add j) = some (.string y) := fun z hz => by
              obtain ⟨ad2, e2, h9⟩ := at_S (Kd.C_below HC.out hz) j (by omega) y hy
              cases e2
              exact h9
            have HCY := hid hcy
            have HY := hid hy
            have HG16 := hid h16
            clear hx h16 h0 hy hcy hm
            by_cases hlt2 : BLt y x
            · have hl9 : Op.bytesLess y.toList x.toList = true := (less_iff y x).2 hlt2
              have HGN : Hid (goodAt xs i) := hid ⟨HG16.out, fun z hz => by rw [HX.out] at hz; rw [← Option.some.inj hz]; exact HNM.out, fun a b _ h9 h8 => by
                rw [← HM.out, Nat.add_sub_cancel, HY.out] at h9
                rw [HX.out] at h8
                rw [← Option.some.inj h9, ← Option.some.inj h8]; exact hlt2⟩
              clear hlt2
              go_wp2_with (go_at_call 25; refine NM.out.mono ?_; rintro e w1 ⟨rfl, hd⟩; have HB1 := hid (HBW.out.trans (hd.below.mono hsz)); have hcx1 := HCY.out _ HB1.out; clear hd)
              refine ⟨⟨i + 1, by omega, by congr 1, hid (fun q hq => by
                rcases Nat.lt_or_ge q i with h9 | h9
                · exact hg.out q h9
                · obtain rfl : q = i := by omega
                  exact HGN.out), HB1.out⟩, by simp [intOf] <;> omega⟩
            · have hl9 : Op.bytesLess y.toList x.toList = false := by
                cases e : Op.bytesLess y.toList x.toList with
                | false => rfl
                | true => exact absurd ((less_iff y x).1 e) hlt2
              have HN : Hid (¬ Good xs) := hid (fun hG => hlt2 ((hG i hlt).2.2 x y (by have := HM.out; omega) (by rw [← HM.out, Nat.add_sub_cancel]; exact HY.out) HX.out))
              clear hlt2
              go_wp2_with (go_at_call 25; refine NM.out.mono ?_; rintro e w1 ⟨rfl, hd⟩; have HB1 := hid (HBW.out.trans (hd.below.mono hsz)); have hcx1 := HCY.out _ HB1.out; clear hd)
              go_ret
              exact CheckPost.no HN.out HB1.out
    · obtain rfl : i = xs.length := by omega
      have t0 : decide ((xs.length : Int) < (xs.length : Int)) = false := decide_eq_false (by omega)
      clear hbw
      go_wp2_with fail
      go_ret
      exact CheckPost.yes (fun q hq => hg.out q hq) HBW.out
end Go.Proofs.YtomkdnapnjkclaaDoor.Sco

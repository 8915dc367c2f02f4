/-
  The document's Put, All, Both, Less, Within, Same by contract.
-/
import Derived.Test.YtomkdnapnjkclaaDoorScoOps
namespace Go.Proofs.YtomkdnapnjkclaaDoor.Sco
open Go.RowKit Go.Proofs.YtomkdnapnjkclaaDoor Go.Proofs.YtomkdnapnjkclaaDoor.PScopeSets Go.Proofs.YtomkdnapnjkclaaDoorW.PrintWords Go.Proofs.YtomkdnapnjkclaaDoorW.PrintLast Go.Proofs.YtomkdnapnjkclaaDoorW.PrintMore
set_option linter.unusedVariables false
set_option linter.unusedSimpArgs false
theorem eq_of_beq_str (a b : ByteArray) : (a.toList == b.toList) = decide (a = b) := by
  by_cases h : a = b
  · subst h; simp
  · rw [decide_eq_false h, beq_eq_false_iff_ne]; exact fun e => h (ba_injL e)
theorem gtr_val (a b : ByteArray) : (!(Op.bytesLess a.toList b.toList || a.toList == b.toList)) = decide (BLt b a) := by
  rw [eq_of_beq_str]
  have h1 := less_iff a b
  by_cases h : BLt b a
  · rw [decide_eq_true h]
    have h2 : ¬ BLt a b := fun e => lt_irr _ (lt_trans e h)
    have h3 : ¬ a = b := fun e => lt_irr b (by rw [e] at h; exact h)
    rw [decide_eq_false h3]
    cases e : Op.bytesLess a.toList b.toList with
    | true => exact absurd (h1.1 e) h2
    | false => rfl
  · rw [decide_eq_false h]
    by_cases h2 : BLt a b
    · rw [h1.2 h2]; rfl
    · rw [decide_eq_true (lt_tri h2 h)]; simp
theorem run_gtr (a b : ByteArray) (w : World) : (binOp .gtr 9 (.string a) (.string b)).run Tryd.prog w = .ok (.bool (decide (BLt b a))) w := by
  rw [← gtr_val]
  rfl
theorem run_leq (a b : ByteArray) (w : World) : (binOp .leq 9 (.string a) (.string b)).run Tryd.prog w = .ok (.bool (!decide (BLt b a))) w := by
  rw [← gtr_val, Bool.not_not]
  rfl
theorem run_geq (a b : ByteArray) (w : World) : (binOp .geq 9 (.string a) (.string b)).run Tryd.prog w = .ok (.bool (!decide (BLt a b))) w := by
  have : decide (BLt a b) = Op.bytesLess a.toList b.toList := by
    have h1 := less_iff a b
    cases e : Op.bytesLess a.toList b.toList with
    | true => rw [decide_eq_true (h1.1 e)]
    | false => rw [decide_eq_false (fun h => by rw [h1.2 h] at e; cases e)]
  rw [this]
  rfl
/-- What answers a list of the call's own, from a base on. -/
def ListB (xs : List ByteArray) (base : Nat) (w : World) (e : Ending) (w' : World) : Prop := ∃ v, e = .returned v ∧ OwnS w' base v xs ∧ Below w.heap.size w w'
def PutRel (xs : List ByteArray) (x : ByteArray) (w : World) (vo vd vi : Value) (wr : World) : Prop :=
  ∃ (i : Nat) (out : List ByteArray) (d : Bool), i ≤ xs.length ∧ vi = .int .i64 (i : Nat) ∧ vd = .bool d ∧ OwnS wr w.heap.size vo out ∧ out ++ (if d = true then xs.drop i else insS x (xs.drop i)) = insS x xs ∧ out.length ≤ i + d.toNat ∧ Below w.heap.size w wr
set_option maxHeartbeats 4000000 in
set_option maxRecDepth 20000 in
theorem rput_any (xs : List ByteArray) (x : ByteArray) (v : Value) (base : Nat) (w : World) (h : OwnS w base v xs) (hb : base ≤ w.heap.size) (hn : xs.length ≤ 100000) :
    Calls Tryd.prog 32 #[v, .string x] w (ListB (putS xs x) base w) := by
  obtain ⟨A, c, rfl, hc, hC⟩ := h.reads
  have HO := hid h
  have HC := hid hC
  have HH := hid (rhas_any xs x A c w hC hc (by omega))
  clear h hC
  by_cases hx : x ∈ xs
  · rw [decide_eq_true hx] at HH
    have HP : Hid (putS xs x = xs) := hid (by unfold putS; rw [if_pos hx])
    clear hx
    go_enter Tryd.func32, Tryd.ntmps32
    go_wp2_with fail
    refine HH.out.mono ?_
    rintro e w1 ⟨rfl, hd⟩
    have HB := hid hd.below
    clear hd HH
    go_wp2_with fail
    go_ret
    exact ⟨_, rfl, by rw [HP.out]; exact HO.out.below HB.out, HB.out⟩
  · rw [decide_eq_false hx] at HH
    have HP : Hid (putS xs x = insS x xs) := hid (by unfold putS; rw [if_neg hx])
    have HX := hid hx
    clear hx
    go_enter Tryd.func32, Tryd.ntmps32
    go_wp2_with fail
    refine HH.out.mono ?_
    rintro e w1 ⟨rfl, hd⟩
    have HB := hid hd.below
    clear hd HH
    go_wp2_with fail
    go_loopw [5, 6, 7] (fun vo vd vi wr => PutRel xs x w1 vo vd vi wr) (fun _ _ vi _ => xs.length - (intOf vi).toNat)
    case atStart => exact ⟨0, [], false, Nat.zero_le _, rfl, rfl, OwnS.nil _ _, rfl, Nat.zero_le _, Below.refl _ _⟩
    case round =>
      obtain ⟨i, out, d, hi, rfl, rfl, ho, hq, hol, hbw⟩ := hrel
      have HOO := hid ho
      have HQ := hid hq
      have HBW := hid hbw
      obtain ⟨Ao, co, rfl, _, _⟩ := ho.reads
      clear ho hq
      by_cases hlt : i < xs.length
      · have t0 : decide ((i : Int) < (xs.length : Int)) = true := decide_eq_true (by omega)
        obtain ⟨y, hy⟩ : ∃ y, xs[i]? = some y := ⟨xs[i], by simp⟩
        have hdr : xs.drop i = y :: xs.drop (i + 1) := by
          rw [List.drop_eq_getElem_cons hlt]
          rw [List.getElem?_eq_getElem hlt] at hy
          rw [Option.some.inj hy]
        have p0 : (0 : Int) ≤ (i : Int) := by omega
        have p1 : (i : Int) < (xs.length : Int) := by omega
        obtain ⟨ad, rfl, hcx⟩ := at_S (Kd.C_below HC.out (HB.out.trans (hbw.mono HB.out.size))) i hlt y hy
        have hs1 := hbw.size
        have HD := hid hdr
        have HLY := hid hy
        clear hbw hdr hy
        have hcy : ∀ z, Below w1.heap.size w1 z → z.cell? (ad.add i) = some (.string y) := by
          obtain ⟨ad2, e2, h9⟩ := at_S (Kd.C_below HC.out HB.out) i hlt y HLY.out
          cases e2
          exact fun z hz => (hz.cell (lt_of_cell h9)).trans h9
        have HCY := hid hcy
        clear hcy
        cases d with
        | true =>
          replace hol : out.length ≤ i + 1 := hol
          have hq2 := HQ.out
          rw [if_pos rfl, HD.out] at hq2
          have HQ2 := hid hq2
          clear hq2
          go_wp2_with (at_builtin; refine wpList_append_s rfl (.tmp 32) (.tmp 37) rfl w1.heap.size out y (.slice Ao out.length co) wr.heap.size rfl rfl (HOO.out.below ((Below.refl _ wr).alloc (Nat.le_refl _) _)) (by simp) (by omega) (by simp; omega) ?_; intro v' w4 ho hg hb; have HO4 := hid ho; have HG4 := hid hg; clear ho hg hb)
          have hbl : Below w1.heap.size w1 w4 := (HBW.out.alloc hs1 _).trans (grown_low (HOO.out.below ((Below.refl _ wr).alloc (Nat.le_refl _) _)) HG4.out (Nat.le_refl _) (by simp; omega))
          refine ⟨⟨i + 1, out ++ [y], true, by omega, by congr 1, rfl, HO4.out, by rw [if_pos rfl, List.append_assoc]; exact HQ2.out, by rw [List.length_append]; simp; omega, hbl⟩, by simp [intOf] <;> omega⟩
        | false =>
          replace hol : out.length ≤ i := hol
          have hq2 := HQ.out
          rw [if_neg (by simp), HD.out, insS] at hq2
          have hne9 : (y.toList == x.toList) = false := by
            rw [eq_of_beq_str, decide_eq_false (fun e => HX.out (by rw [← e]; exact List.mem_of_getElem? HLY.out))]
          by_cases hxy : BLt x y
          · rw [if_pos hxy] at hq2
            have hl9 : Op.bytesLess y.toList x.toList = false := by
              cases e : Op.bytesLess y.toList x.toList with
              | false => rfl
              | true => exact absurd (lt_trans hxy ((less_iff y x).1 e)) (lt_irr _)
            have HQ2 := hid hq2
            clear hq2 hxy
            go_wp2_with (first
              | (at_builtin; refine wpList_append_s rfl (.tmp 28) (.tmp 30) rfl w1.heap.size out x (.slice Ao out.length co) wr.heap.size rfl rfl (HOO.out.below ((Below.refl _ wr).alloc (Nat.le_refl _) _)) (by simp) (by omega) (by simp; omega) ?_; intro v' w4 ho hg hb; have HO4 := hid ho; have HG4 := hid hg; have HB4 := hid (show Below w1.heap.size w1 w4 from (HBW.out.alloc hs1 _).trans (grown_low (HOO.out.below ((Below.refl _ wr).alloc (Nat.le_refl _) _)) HG4.out (Nat.le_refl _) (by simp; omega))); have hcx4 := HCY.out w4 HB4.out; obtain ⟨o2, ho2⟩ : ∃ o2, out ++ [x] = o2 := ⟨_, rfl⟩; have HOL2 : Hid (o2.length = out.length + 1) := hid (by rw [← ho2]; simp); have HOE := hid ho2; rw [ho2] at ho HO4; obtain ⟨A4, c4, rfl, _, _⟩ := ho.reads; clear ho hg hb ho2)
              | (at_builtin; refine wpList_append_s rfl (.tmp 32) (.tmp 37) rfl w1.heap.size o2 y (.slice A4 o2.length c4) w4.heap.size rfl rfl (HO4.out.below ((Below.refl _ w4).alloc (Nat.le_refl _) _)) (by simp) (by have := HOL2.out; omega) (by have := HB4.out.size; simp; omega) ?_; intro v5 w5 ho hg hb; have HO5 := hid ho; have HG5 := hid hg; clear ho hg hb))
            have hbl : Below w1.heap.size w1 w5 := (HB4.out.alloc HB4.out.size _).trans (grown_low (HO4.out.below ((Below.refl _ w4).alloc (Nat.le_refl _) _)) HG5.out (Nat.le_refl _) (by have := HB4.out.size; simp; omega))
            refine ⟨⟨i + 1, o2 ++ [y], true, by omega, by congr 1, rfl, HO5.out, by rw [if_pos rfl, ← HOE.out, List.append_assoc, List.append_assoc]; exact HQ2.out, by rw [List.length_append, HOL2.out]; simp; omega, hbl⟩, by simp [intOf] <;> omega⟩
          · rw [if_neg hxy] at hq2
            have hl9 : Op.bytesLess y.toList x.toList = true := by
              refine (less_iff y x).2 ?_
              by_cases h9 : BLt y x
              · exact h9
              · exact absurd (lt_tri h9 hxy) (fun e => HX.out (by rw [← e]; exact List.mem_of_getElem? HLY.out))
            have HQ2 := hid hq2
            clear hq2 hxy
            go_wp2_with (at_builtin; refine wpList_append_s rfl (.tmp 32) (.tmp 37) rfl w1.heap.size out y (.slice Ao out.length co) wr.heap.size rfl rfl (HOO.out.below ((Below.refl _ wr).alloc (Nat.le_refl _) _)) (by simp) (by omega) (by simp; omega) ?_; intro v' w4 ho hg hb; have HO4 := hid ho; have HG4 := hid hg; clear ho hg hb)
            have hbl : Below w1.heap.size w1 w4 := (HBW.out.alloc hs1 _).trans (grown_low (HOO.out.below ((Below.refl _ wr).alloc (Nat.le_refl _) _)) HG4.out (Nat.le_refl _) (by simp; omega))
            refine ⟨⟨i + 1, out ++ [y], false, by omega, by congr 1, rfl, HO4.out, by rw [if_neg (by simp), List.append_assoc]; exact HQ2.out, by rw [List.length_append]; simp; omega, hbl⟩, by simp [intOf] <;> omega⟩
      · obtain rfl : i = xs.length := by omega
        have t0 : decide ((xs.length : Int) < (xs.length : Int)) = false := decide_eq_false (by omega)
        have hq2 := HQ.out
        rw [List.drop_length] at hq2
        have hs1 := hbw.size
        clear hbw
        have hol2 : out.length ≤ xs.length + 1 := Nat.le_trans hol (by cases d <;> simp)
        clear hol
        cases d with
        | true =>
          rw [if_pos rfl, List.append_nil] at hq2
          have HQ2 := hid hq2
          clear hq2
          go_wp2_with fail
          go_ret
          exact ⟨_, rfl, by rw [HP.out, ← HQ2.out]; exact HOO.out.lower (Nat.le_trans hb HB.out.size), HB.out.trans (HBW.out.mono HB.out.size)⟩
        | false =>
          rw [if_neg (by simp), insS] at hq2
          have HQ2 := hid hq2
          clear hq2
          go_wp2_with (at_builtin; refine wpList_append_s rfl (.tmp 41) (.tmp 43) rfl w1.heap.size out x (.slice Ao out.length co) wr.heap.size rfl rfl (HOO.out.below ((Below.refl _ wr).alloc (Nat.le_refl _) _)) (by simp) (by omega) (by simp; omega) ?_; intro v' w4 ho hg hb9; have HO4 := hid ho; have HG4 := hid hg; clear ho hg hb9)
          have hbl : Below w1.heap.size w1 w4 := (HBW.out.alloc hs1 _).trans (grown_low (HOO.out.below ((Below.refl _ wr).alloc (Nat.le_refl _) _)) HG4.out (Nat.le_refl _) (by simp; omega))
          go_ret
          exact ⟨_, rfl, by rw [HP.out, ← HQ2.out]; exact HO4.out.lower (Nat.le_trans hb HB.out.size), HB.out.trans (hbl.mono HB.out.size)⟩
end Go.Proofs.YtomkdnapnjkclaaDoor.Sco

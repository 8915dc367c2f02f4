/-
  The statement ScopeParses: its call answers true.
-/
import Derived.Test.YtomkdnapnjkclaaDoorScoAlive
import Derived.Test.YtomkdnapnjkclaaDoorScoRef4
import Derived.Test.YtomkdnapnjkclaaDoorScoOpen
namespace Go.Proofs.YtomkdnapnjkclaaDoor.Sco
open Go.RowKit Go.Proofs.YtomkdnapnjkclaaDoor Go.Proofs.YtomkdnapnjkclaaDoorW.PrintWords Go.Proofs.YtomkdnapnjkclaaDoorW.PrintLast Go.Proofs.YtomkdnapnjkclaaDoorW.PrintMore
set_option linter.unusedVariables false
set_option linter.unusedSimpArgs false
/-- The parts that end ahead of place i; where the part at i begins. -/
def SplAt (l : List UInt8) (i f : Nat) (ps : List ByteArray) : Prop := f ≤ i ∧ (∀ q, f ≤ q → q < i → l[q]? ≠ some 32) ∧ (f ≤ l.length → bl ps ++ splitS 32 (l.drop f) = splitS 32 l) ∧ (l.length < f → bl ps = splitS 32 l) ∧ ps.length ≤ f
theorem bl_snoc (ps : List ByteArray) (x : ByteArray) : bl (ps ++ [x]) = bl ps ++ [x.data.toList] := by unfold bl; simp
def RSplRel (s : ByteArray) (w : World) (vo vf vi : Value) (wr : World) : Prop :=
  ∃ (i f : Nat) (ps : List ByteArray), i ≤ s.size + 1 ∧ vi = .int .i64 (i : Nat) ∧ vf = .int .i64 (f : Nat) ∧ OwnS wr w.heap.size vo ps ∧ SplAt s.data.toList i f ps ∧ (i = s.size + 1 → f = s.size + 1) ∧ Below w.heap.size w wr
theorem extract_seg (s : ByteArray) (i j : Nat) : (s.extract i j).data.toList = (s.data.toList.drop i).take (j - i) := by rw [Lib.extract_data]
theorem no_32 {l : List UInt8} (h : ∀ q : Nat, l[q]? ≠ some 32) : (32 : UInt8) ∉ l := fun hm => by
  obtain ⟨q, hq⟩ := List.mem_iff_getElem?.1 hm
  exact h q hq
/-- The next place bears no blank. -/
theorem spl_next {l : List UInt8} {i f : Nat} {ps : List ByteArray} (h : SplAt l i f ps) (hi : i < l.length) (hc : l[i]? ≠ some 32) : SplAt l (i + 1) f ps := by
  obtain ⟨h1, h2, h3, h4, h5⟩ := h
  refine ⟨by omega, fun q hq1 hq2 => ?_, h3, h4, h5⟩
  rcases Nat.lt_or_ge q i with h9 | h9
  · exact h2 q hq1 h9
  · obtain rfl : q = i := by omega
    exact hc
/-- A part ends. -/
theorem spl_cut {s : ByteArray} {i f : Nat} {ps : List ByteArray} (h : SplAt s.data.toList i f ps) (hi : i < s.size) (hc : s.data.toList[i]? = some 32) : SplAt s.data.toList (i + 1) (i + 1) (ps ++ [s.extract f i]) := by
  have hln := str_len s
  obtain ⟨h1, h2, h3, h4, h5⟩ := h
  have hsp : splitS 32 (s.data.toList.drop f) = (s.extract f i).data.toList :: splitS 32 (s.data.toList.drop (i + 1)) := by
    rw [splitS_at (m := i - f) (by rw [List.getElem?_drop, show f + (i - f) = i by omega]; exact hc) (fun k hk => by rw [List.getElem?_drop]; exact h2 (f + k) (by omega) (by omega)), extract_seg, List.drop_drop, show f + (i - f + 1) = i + 1 by omega]
  refine ⟨Nat.le_refl _, fun q hq1 hq2 => absurd hq2 (by omega), fun _ => ?_, fun h9 => absurd h9 (by omega), by rw [List.length_append]; simp; omega⟩
  rw [bl_snoc, List.append_assoc, List.singleton_append, ← hsp]
  exact h3 (by omega)
theorem spl_end {s : ByteArray} {f : Nat} {ps : List ByteArray} (h : SplAt s.data.toList s.size f ps) : SplAt s.data.toList (s.size + 1) (s.size + 1) (ps ++ [s.extract f s.size]) := by
  have hln := str_len s
  obtain ⟨h1, h2, h3, h4, h5⟩ := h
  have hsp : splitS 32 (s.data.toList.drop f) = [(s.extract f s.size).data.toList] := by
    rw [splitS_none (no_32 (fun q hq => by
      rw [List.getElem?_drop] at hq
      exact h2 (f + q) (by omega) (by have := (List.getElem?_eq_some_iff.1 hq).1; omega) hq)), extract_seg, List.take_of_length_le (by rw [List.length_drop]; omega)]
  refine ⟨Nat.le_refl _, fun q hq1 hq2 => absurd hq2 (by omega), fun h9 => absurd h9 (by omega), fun _ => ?_, by rw [List.length_append]; simp; omega⟩
  rw [bl_snoc, ← hsp]
  exact h3 (by omega)
set_option maxHeartbeats 4000000 in
set_option maxRecDepth 20000 in
theorem rsplit_any (s : ByteArray) (w : World) (hs : s.size ≤ 100000) : Calls Tryd.prog 39 #[.string s] w (fun e w' => ∃ v ps, e = .returned v ∧ OwnS w' w.heap.size v ps ∧ bl ps = splitS 32 s.data.toList ∧ Below w.heap.size w w') := by
  have hln := str_len s
  have HLN := hid hln
  clear hln
  go_enter Tryd.func39, Tryd.ntmps39
  go_wp2_with fail
  go_loopw [3, 4, 5] (fun vo vf vi wr => RSplRel s w vo vf vi wr) (fun _ _ vi _ => s.size + 1 - (intOf vi).toNat)
  case atStart => exact ⟨0, 0, [], by omega, rfl, rfl, OwnS.nil _ _, ⟨Nat.le_refl _, fun q h1 h2 => absurd h2 (by omega), fun _ => by simp [bl], fun h => absurd h (by omega), Nat.le_refl _⟩, fun h => absurd h (by omega), Below.refl _ _⟩
  case round =>
    obtain ⟨i, f, ps, hi, rfl, rfl, ho, hsp, hend, hbw⟩ := hrel
    have HO := hid ho
    have HSP := hid hsp
    have HB := hid hbw
    obtain ⟨Ao, co, rfl, _, _⟩ := ho.reads
    have hfi := hsp.1
    have hpl := hsp.2.2.2.2
    have hs1 := hbw.size
    clear ho hsp hbw
    by_cases hle : i ≤ s.size
    · have t0 : decide ((i : Int) ≤ (s.size : Int)) = true := decide_eq_true (by omega)
      have p0 : (0 : Int) ≤ (i : Int) := by omega
      have p1 : (0 : Int) ≤ (f : Int) := by omega
      have p2 : (f : Int) ≤ (i : Int) := by omega
      have p3 : (i : Int) ≤ (s.size : Int) := by omega
      have x0 : IntKind.i64.wrap ((i : Int) + 1) = (i : Int) + 1 := by rw [IntKind.wrap_i64]; omega
      by_cases he : i = s.size
      · have t1 : ((i : Int) == (s.size : Int)) = true := int_beq_true (by omega)
        have HSP2 := hid (spl_end (he ▸ HSP.out))
        have HE := hid he
        clear he hend
        go_wp2_with (at_builtin; refine wpList_append_s rfl (.tmp 22) (.tmp 27) rfl w.heap.size ps (s.extract f i) (.slice Ao ps.length co) wr.heap.size rfl rfl (HO.out.below ((Below.refl _ wr).alloc (Nat.le_refl _) _)) (by simp) (by omega) (by simp; omega) ?_; intro v' w4 ho hg hb; have HO4 := hid ho; have HG4 := hid hg; clear ho hg hb)
        have hbl : Below w.heap.size w w4 := (HB.out.alloc hs1 _).trans (grown_low (HO.out.below ((Below.refl _ wr).alloc (Nat.le_refl _) _)) HG4.out (Nat.le_refl _) (by simp; omega))
        refine ⟨⟨i + 1, i + 1, ps ++ [s.extract f i], by omega, by congr 1, by congr 1, HO4.out, by rw [HE.out]; exact HSP2.out, fun h => by omega, hbl⟩, by simp [intOf] <;> omega⟩
      · have t1 : ((i : Int) == (s.size : Int)) = false := int_beq_false (by omega)
        have hlt : i < s.size := by omega
        have p4 : (i : Int) < (s.size : Int) := by omega
        have hget := str_get s i hlt
        obtain ⟨c, hc⟩ : ∃ c, s.data.toList[i]? = some c := ⟨s.data.toList[i]'(by rw [HLN.out]; exact hlt), by simp⟩
        have hget2 : s[i] = c := by rw [hget, List.getD_eq_getElem?_getD, hc]; rfl
        have HC := hid hc
        clear hget hc he hend
        by_cases h32 : c = 32
        · have q0 : ((c.toNat : Int) == 32) = true := by rw [h32]; rfl
          have HSP2 := hid (spl_cut HSP.out hlt (by rw [HC.out, h32]))
          clear h32
          go_wp2_with (at_builtin; refine wpList_append_s rfl (.tmp 22) (.tmp 27) rfl w.heap.size ps (s.extract f i) (.slice Ao ps.length co) wr.heap.size rfl rfl (HO.out.below ((Below.refl _ wr).alloc (Nat.le_refl _) _)) (by simp) (by omega) (by simp; omega) ?_; intro v' w4 ho hg hb; have HO4 := hid ho; have HG4 := hid hg; clear ho hg hb)
          have hbl : Below w.heap.size w w4 := (HB.out.alloc hs1 _).trans (grown_low (HO.out.below ((Below.refl _ wr).alloc (Nat.le_refl _) _)) HG4.out (Nat.le_refl _) (by simp; omega))
          refine ⟨⟨i + 1, i + 1, ps ++ [s.extract f i], by omega, by congr 1, by congr 1, HO4.out, HSP2.out, fun h => by omega, hbl⟩, by simp [intOf] <;> omega⟩
        · have q0 : ((c.toNat : Int) == 32) = false := by
            rw [beq_eq_false_iff_ne]; intro e; exact h32 (UInt8.toNat_inj.1 (by have : (32 : UInt8).toNat = 32 := rfl; omega))
          have HSP2 := hid (spl_next HSP.out (by rw [HLN.out]; exact hlt) (by rw [HC.out]; exact fun e => h32 (Option.some.inj e)))
          clear h32
          go_wp2_with fail
          refine ⟨⟨i + 1, f, ps, by omega, by congr 1, rfl, HO.out, HSP2.out, fun h => by omega, HB.out⟩, by simp [intOf] <;> omega⟩
    · have t0 : decide ((i : Int) ≤ (s.size : Int)) = false := decide_eq_false (by omega)
      have hf := hend (by omega)
      have HFIN := hid (HSP.out.2.2.2.1 (by rw [HLN.out]; omega))
      clear hend hf
      go_wp2_with fail
      go_ret
      exact ⟨_, ps, rfl, HO.out, HFIN.out, HB.out⟩
def RParsePost (o : Option (List ByteArray)) (w : World) (e : Ending) (w' : World) : Prop := ∃ v, e = .returned (.tuple #[v, .bool o.isSome]) ∧ OwnS w' w.heap.size v (o.getD []) ∧ Below w.heap.size w w'
theorem RParsePost.mk {o o' : Option (List ByteArray)} {xs : List ByteArray} {b : Bool} {w w' : World} {v : Value} (h : o = o') (hx : o'.getD [] = xs) (hg : o'.isSome = b) (hv : OwnS w' w.heap.size v xs) (hb : Below w.heap.size w w') : RParsePost o w (.returned (.tuple #[v, .bool b])) w' := by
  subst h; subst hx; subst hg; exact ⟨v, rfl, hv, hb⟩
set_option maxHeartbeats 4000000 in
set_option maxRecDepth 20000 in
theorem rparse_any (s : ByteArray) (w : World) (hs : s.size ≤ 40000) : Calls Tryd.prog 23 #[.string s] w (RParsePost (parseS s.data.toList) w) := by
  have hln := str_len s
  by_cases h0 : s.size = 0
  · have hE : s.data.toList = [] := List.eq_nil_of_length_eq_zero (by omega)
    have HP : Hid (parseS s.data.toList = some []) := hid (by unfold parseS; rw [if_pos hE])
    have hn0 : s.toList = [] := str_empty s h0
    clear hE hln h0
    go_enter Tryd.func23, Tryd.ntmps23
    go_wp2_with fail
    go_ret2
    exact RParsePost.mk HP.out rfl rfl (OwnS.nil _ _) (Below.refl _ _)
  · have hn1 : 0 < s.size := by omega
    have hn2 := str_ne_empty s hn1
    have hn3 := str_not_empty s hn1
    have hn4 : (s.toList == ([] : List UInt8)) = false := by simpa using hn3
    have hn5 : s.toList.isEmpty = false := by simpa using hn3
    have hlist : s.data.toList ≠ [] := fun e => by rw [e] at hln; simp at hln; omega
    obtain ⟨R, hR⟩ : ∃ R, parseS s.data.toList = R := ⟨_, rfl⟩
    have hP := hR
    unfold parseS at hP
    rw [if_neg hlist] at hP
    rw [hR]
    have HP := hid hP
    have HSP := hid (rsplit_any s w (by omega))
    have HSL := hid hln
    clear hP hR hlist hln
    go_enter Tryd.func23, Tryd.ntmps23
    go_wp2_with fail
    refine HSP.out.mono ?_
    clear HSP
    rintro e w1 ⟨v, ps, rfl, ho, hm, hb⟩
    have hpz : ∀ x ∈ ps, x.size ≤ 100000 := fun x hx => by
      have h9 : x.data.toList ∈ bl ps := List.mem_map.2 ⟨x, hx, rfl⟩
      rw [hm] at h9
      have := split_small h9
      rw [HSL.out, str_len] at this
      omega
    have hpl : ps.length ≤ 40001 := by
      have h1 := congrArg List.length hm
      unfold bl at h1
      rw [List.length_map, splitS_len] at h1
      have h2 : s.data.toList.count 32 ≤ s.data.toList.length := List.count_le_length
      rw [HSL.out] at h2
      omega
    have hmk : mk (splitS 32 s.data.toList) = ps := by
      rw [← hm]
      unfold mk bl
      rw [List.map_map]
      have : ((fun l : List UInt8 => (⟨l.toArray⟩ : ByteArray)) ∘ fun p : ByteArray => p.data.toList) = id := by funext p; exact ba_eta p
      rw [this, List.map_id]
    have hp2 := HP.out
    rw [hmk] at hp2
    have HP2 := hid hp2
    have HB := hid hb
    have HI := hid ho.reads
    obtain ⟨A, c, rfl, hc, hC⟩ := ho.reads
    have HC := hid hC
    have HS1 := hid hb.size
    clear hm hb hp2 hmk ho hC
    go_wp2_with fail
    go_loopw [5] (fun vi wr => ∃ i : Nat, i ≤ ps.length ∧ vi = .int .i64 (i : Nat) ∧ Hid (∀ q x, q < i → ps[q]? = some x → nameB x = true) ∧ Below w1.heap.size w1 wr) (fun vi _ => ps.length - (intOf vi).toNat)
    case atStart => exact ⟨0, Nat.zero_le _, rfl, hid (fun q x h => absurd h (by omega)), Below.refl _ _⟩
    case round =>
      obtain ⟨i, hi, rfl, hg, hbw⟩ := hrel
      have HBW := hid hbw
      by_cases hlt : i < ps.length
      · have t0 : decide ((i : Int) < (ps.length : Int)) = true := decide_eq_true (by omega)
        obtain ⟨x, hx⟩ : ∃ x, ps[i]? = some x := ⟨ps[i], by simp⟩
        have p0 : (0 : Int) ≤ (i : Int) := by omega
        have p1 : (i : Int) < (ps.length : Int) := by omega
        obtain ⟨ad, rfl, hcx⟩ := at_S (Kd.C_below HC.out hbw) i hlt x hx
        have hxs := hpz x (List.mem_of_getElem? hx)
        have hxm := List.mem_of_getElem? hx
        have HX := hid hx
        have HXM := hid hxm
        have hsz := hbw.size
        have NM := hid (rname_any x wr (by omega))
        clear hx hbw hxm
        cases hnm : nameB x with
        | false =>
          rw [hnm] at NM
          have HR3 : Hid (R = none) := hid (by
            rw [← HP2.out, if_neg]
            intro h
            have := List.any_eq_false.1 h.1 x HXM.out
            rw [hnm] at this
            exact this rfl)
          clear hnm
          go_wp2_with (go_at_call 26; refine NM.out.mono ?_; rintro e w2 ⟨rfl, hd⟩; have HB2 := hid (HBW.out.trans (hd.below.mono hsz)); clear hd)
          go_ret2
          exact RParsePost.mk HR3.out rfl rfl (OwnS.nil _ _) (HB.out.trans (HB2.out.mono HS1.out))
        | true =>
          rw [hnm] at NM
          have HNM := hid hnm
          clear hnm
          go_wp2_with (go_at_call 26; refine NM.out.mono ?_; rintro e w2 ⟨rfl, hd⟩; have HB2 := hid (HBW.out.trans (hd.below.mono hsz)); clear hd)
          refine ⟨⟨i + 1, by omega, by congr 1, hid (fun q y hq hy => by
            rcases Nat.lt_or_ge q i with h9 | h9
            · exact hg.out q y h9 hy
            · obtain rfl : q = i := by omega
              rw [HX.out] at hy
              rw [← Option.some.inj hy]; exact HNM.out), HB2.out⟩, by simp [intOf] <;> omega⟩
      · obtain rfl : i = ps.length := by omega
        have t0 : decide ((ps.length : Int) < (ps.length : Int)) = false := decide_eq_false (by omega)
        have HANY : Hid ((ps.any fun s => !nameB s) = false) := hid (by
          rw [List.any_eq_false]
          intro x hx
          obtain ⟨q, hq⟩ := List.mem_iff_getElem?.1 hx
          rw [hg.out q x (List.getElem?_eq_some_iff.1 hq).1 hq]
          simp)
        have hsz := hbw.size
        have HAE : Hid (allS ps [] = setS ps) := hid (by unfold allS; rw [List.append_nil])
        clear hbw
        obtain ⟨w0, hw0⟩ : ∃ z, z = wr := ⟨_, rfl⟩
        rw [← hw0] at HBW hsz ⊢
        clear hw0
        go_wp2_with fail
        refine (rall_any ps [] _ _ w0 (HI.out.below HBW.out) (InS.nil w0) (by omega) (by simp)).mono ?_
        rw [HAE.out]
        rintro e w2 ⟨v2, rfl, ho, hd⟩
        have HO := hid ho
        have HB2 := hid (HBW.out.trans (hd.mono hsz))
        obtain ⟨A2, c2, rfl, _, _⟩ := ho.reads
        have hsl := set_len ps
        clear ho hd
        by_cases h16 : 16 < (setS ps).length
        · have t1 : decide ((16 : Int) < ((setS ps).length : Int)) = true := decide_eq_true (by omega)
          have HR3 : Hid (R = none) := hid (by rw [← HP2.out, if_neg (fun h => by have := h.2; omega)])
          go_wp2_with fail
          go_ret2
          exact RParsePost.mk HR3.out rfl rfl (OwnS.nil _ _) (HB.out.trans (HB2.out.mono HS1.out))
        · have t1 : decide ((16 : Int) < ((setS ps).length : Int)) = false := decide_eq_false (by omega)
          have HR3 : Hid (R = some (setS ps)) := hid (by rw [← HP2.out, if_pos ⟨HANY.out, by omega⟩])
          go_wp2_with fail
          go_ret2
          exact RParsePost.mk HR3.out rfl rfl (HO.out.lower (Nat.le_trans HS1.out hsz)) (HB.out.trans (HB2.out.mono HS1.out))
theorem parse_len (l : List UInt8) : ((parseS l).getD []).length ≤ 16 := by
  unfold parseS
  by_cases h : l = []
  · rw [if_pos h]; simp
  · rw [if_neg h]
    by_cases h2 : (mk (splitS 32 l)).any (fun s => !nameB s) = false ∧ (setS (mk (splitS 32 l))).length ≤ 16
    · rw [if_pos h2]; exact h2.2
    · rw [if_neg h2]; simp
set_option maxHeartbeats 8000000 in
set_option maxRecDepth 20000 in
theorem parses_walk (s : ByteArray) (w : World) (hs : s.size ≤ maxLen) (hg : ErrorType w) : Calls Tryd.prog 5 #[.string s] w (TruePost w) := by
  have HG := hid hg
  have hgl := hg.lt
  clear hg
  by_cases hbig : 3000 < s.size
  · have t0 : decide ((3000 : Int) < (s.size : Int)) = true := decide_eq_true (by omega)
    go_enter Tryd.func5, Tryd.ntmps5
    go_wp2_with (go_at_call 7; refine (alive_any _).mono ?_; rintro e w1 ⟨rfl, hb⟩; have HB1 := hid hb; clear hb)
    go_ret
    exact TruePost.mk rfl HB1.out
  · have t0 : decide ((3000 : Int) < (s.size : Int)) = false := decide_eq_false (by omega)
    obtain ⟨o, ho⟩ : ∃ o, parseS s.data.toList = o := ⟨_, rfl⟩
    obtain ⟨nb, hnb⟩ : ∃ b, nameB s = b := ⟨_, rfl⟩
    have hl := parse_len s.data.toList
    have P1 : Hid (∀ y, Calls Tryd.prog 21 #[.string s] y (ParsePost o y)) := hid (fun y => by rw [← ho]; exact parse_any s y (by omega))
    have P2 : Hid (∀ y, Calls Tryd.prog 23 #[.string s] y (RParsePost o y)) := hid (fun y => by rw [← ho]; exact rparse_any s y (by omega))
    have N1 : Hid (∀ y, Calls Tryd.prog 25 #[.string s] y (BP nb y)) := hid (fun y => by rw [← hnb]; exact name_any s y (by omega))
    have N2 : Hid (∀ y, Calls Tryd.prog 26 #[.string s] y (BP nb y)) := hid (fun y => by rw [← hnb]; exact rname_any s y (by omega))
    have q0 : (nb == nb) = true := by simp
    rw [ho] at hl
    have HL := hid hl
    clear ho hnb hl
    go_enter Tryd.func5, Tryd.ntmps5
    go_wp2_with (go_at_call 7; refine (alive_any _).mono ?_; rintro e w1 ⟨rfl, hb⟩; have HB1 := hid hb; clear hb)
    refine (P1.out _).mono ?_
    rintro e w2 ⟨v2, er, rfl, ho2, he2, hd⟩
    have HB2 := hid (below_then HB1.out hd)
    have HI2 := hid ho2.reads
    have HE2 := hid he2
    obtain ⟨A2, c2, rfl, _, _⟩ := ho2.reads
    clear hd ho2
    go_wp2_with fail
    refine (P2.out _).mono ?_
    rintro e w3 ⟨v3, rfl, ho3, hd⟩
    have HB3 := hid (below_then HB2.out hd)
    have HI3 := hid (HI2.out.below hd)
    have HE3 := hid (HE2.out.below hd)
    have HJ3 := hid ho3.reads
    obtain ⟨A3, c3, rfl, _, _⟩ := ho3.reads
    clear hd ho3
    cases o with
    | some xs =>
      obtain rfl : er = .nilIface := he2
      go_wp2_with fail
      refine (rsame_any xs _ _ w3 HI3.out HJ3.out (by have := HL.out; simp at this; omega)).mono ?_
      rintro e w4 ⟨rfl, hd⟩
      have HB4 := hid (below_then HB3.out hd)
      clear hd
      go_wp2_with fail
      refine (N1.out _).mono ?_
      rintro e w5 ⟨rfl, hd⟩
      have HB5 := hid (below_then HB4.out hd.below)
      clear hd
      go_wp2_with fail
      refine (N2.out _).mono ?_
      rintro e w6 ⟨rfl, hd⟩
      have HB6 := hid (below_then HB5.out hd.below)
      clear hd
      go_wp2_with fail
      go_ret
      exact TruePost.mk (by simp) HB6.out
    | none =>
      obtain rfl : er = .iface 41 (.int .i64 70) := he2
      go_wp2_with fail
      refine (num_any (.no 70) _ w3 (HG.out.below HB3.out hgl) rfl).mono ?_
      rintro e w4 ⟨rfl, hd⟩
      have HB4 := hid (below_then HB3.out hd)
      have HI4 := hid (HI3.out.below hd)
      have HJ4 := hid (HJ3.out.below hd)
      clear hd
      go_wp2_with fail
      refine (rsame_any [] _ _ w4 HI4.out HJ4.out (by simp)).mono ?_
      rintro e w5 ⟨rfl, hd⟩
      have HB5 := hid (below_then HB4.out hd)
      clear hd
      go_wp2_with fail
      refine (N1.out _).mono ?_
      rintro e w6 ⟨rfl, hd⟩
      have HB6 := hid (below_then HB5.out hd.below)
      clear hd
      go_wp2_with fail
      refine (N2.out _).mono ?_
      rintro e w7 ⟨rfl, hd⟩
      have HB7 := hid (below_then HB6.out hd.below)
      clear hd
      go_wp2_with fail
      go_ret
      exact TruePost.mk (by simp) HB7.out
end Go.Proofs.YtomkdnapnjkclaaDoor.Sco

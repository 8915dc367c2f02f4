/-
  UrlParse, UrlParse2, UrlBackQ, UrlAlive, UrlBackLaw, UrlRefUn, UrlRefBad, UrlRefEsc, UrlRefPrint, UrlPrintsLaw, UrlRowKit: this proof's parts in one text.
-/
import Derived.Test.YtgdbjkkanjgbnaaDoorMUrlPrintsRowc
import Derived.Maps.AppendAt
import Derived.Test.YtgdbjkkanjgbnaaDoorPUrlencParsesx7
import Derived.Test.YtgdbjkkanjgbnaaDoorPUrlencParsesx4
import Derived.Test.YtgdbjkkanjgbnaaDoorMUrlPrintsRowa
import Derived.Test.YtgdbjkkanjgbnaaDoorPUrlencParsesx5
import Derived.Test.YtgdbjkkanjgbnaaDoorPUrlencParsesx3
import Derived.Deep.RegionLaw
import Derived.Test.YtgdbjkkanjgbnaaDoorMUrlPrintsRowb
import Derived.Lib.LaidTab
import Derived.Test.YtgdbjkkanjgbnaaDoorRows
import Derived.ProofKit
import Derived.OpenShut
import Derived.ChangeVars
import Derived.LaidLaws
import Derived.LaidHandle
import Derived.Stop.LaidErr
namespace Go.Proofs.YtgdbjkkanjgbnaaDoor.Url
open Go.RowKit Go.Proofs.YtgdbjkkanjgbnaaDoor
open Go.Proofs.YtgdbjkkanjgbnaaDoorW.PrintWords (Kd rdOf)
open Go.Proofs.YtgdbjkkanjgbnaaDoor.PUrlencParses
set_option linter.unusedVariables false
set_option linter.unusedSimpArgs false
def parC (x : Par) : List Value := [.string x.f0, .string x.f1]
theorem parC_len (xs : List Par) : (xs.flatMap parC).length = xs.length * 2 := by
  induction xs with
  | nil => rfl
  | cons x xs ih => rw [List.flatMap_cons, List.length_append, ih, List.length_cons]; simp [parC]; omega
theorem parC_get (xs : List Par) (i : Nat) (x : Par) (h : xs[i]? = some x) : (xs.flatMap parC)[i * 2]? = some (.string x.f0) ∧ (xs.flatMap parC)[i * 2 + 1]? = some (.string x.f1) := by
  induction xs generalizing i with
  | nil => simp at h
  | cons y ys ih =>
    cases i with
    | zero =>
      simp at h
      subst h
      simp [parC]
    | succ i =>
      have := ih i (by simpa using h)
      rw [List.flatMap_cons]
      show (parC y ++ ys.flatMap parC)[(i + 1) * 2]? = _ ∧ (parC y ++ ys.flatMap parC)[(i + 1) * 2 + 1]? = _
      rw [show (i + 1) * 2 = i * 2 + 2 by omega, show i * 2 + 2 + 1 = (i * 2 + 1) + 2 by omega]
      simpa [parC] using this
/-- A list of parameters in a block of its own. -/
def OwnP (w : World) (base : Nat) (v : Value) (xs : List Par) : Prop := w.ownsRow base 45 2 v xs.length (xs.flatMap parC)
theorem OwnP.form {w : World} {base : Nat} {v : Value} {xs : List Par} (h : OwnP w base v xs) : ∃ A c, v = .slice A xs.length c ∧ xs.length ≤ c := by
  rcases h.2 with ⟨rfl, e⟩ | ⟨g, cap, cur, rfl, _, _, hn, _⟩
  · exact ⟨none, 0, by rw [e], by omega⟩
  · exact ⟨_, cap, rfl, hn⟩
theorem OwnP.reads {w : World} {base : Nat} {A : Option Addr} {n c : Nat} {xs : List Par} (h : OwnP w base (.slice A n c) xs) : k45.C w A xs.length xs := by
  rcases h.2 with ⟨e, en⟩ | ⟨g, cap, cur, e, _, hh, hn, hm, hs, ht⟩
  · cases e
    rw [List.eq_nil_of_length_eq_zero en]
    exact Kd.C_nil _ _
  · cases e
    refine ⟨rfl, by have : maxLen = 9223372036854775807 := rfl; omega, fun _ => ⟨⟨g, 0, none⟩, rfl, fun j p hj => ?_⟩⟩
    have hjl : j < xs.length := (List.getElem?_eq_some_iff.1 hj).1
    obtain ⟨e0, e1⟩ := parC_get xs j p hj
    refine ⟨[.string p.f0, .string p.f1], rfl, k45_mk w p, fun q u hq => ?_⟩
    have hcur : ∀ k u, k < xs.length * 2 → (xs.flatMap parC)[k]? = some u → w.cell? ⟨g, k, none⟩ = some u := fun k u hk hu => by
      rw [← ht, List.getElem?_take, if_pos hk] at hu
      simp only [World.cell?, hh]
      simpa using hu
    have hadd : ((⟨g, 0, none⟩ : Addr).add (j * 2 + q)) = ⟨g, j * 2 + q, none⟩ := by rw [Addr.add_lit, Nat.zero_add]
    match q, hq with
    | 0, hq => cases hq; show w.cell? ((⟨g, 0, none⟩ : Addr).add (j * 2 + 0)) = _; rw [hadd]; exact hcur _ _ (by omega) e0
    | 1, hq => cases hq; show w.cell? ((⟨g, 0, none⟩ : Addr).add (j * 2 + 1)) = _; rw [hadd]; exact hcur _ _ (by omega) e1
theorem OwnP.below {w w' : World} {base : Nat} {v : Value} {xs : List Par} (h : OwnP w base v xs) (hb : Below w.heap.size w w') : OwnP w' base v xs := by
  refine ⟨h.1, ?_⟩
  rcases h.2 with h2 | ⟨g, cap, cur, rfl, hg, hh, r⟩
  · exact .inl h2
  · exact .inr ⟨g, cap, cur, rfl, hg, (hb.block g (lt_of_heap hh)).trans hh, r⟩
theorem pinfo : (Tryd.prog.info? 45).map (fun i => (i.zero, i.size, i.bytes)) = some (some (.agg #[.string ⟨#[]⟩, .string ⟨#[]⟩]), 2, 32) := by kernel_rfl
theorem wpList_append_p {w : World} {ops : Array Oper} {rest : List Oper} {o : Oper} {a : Act} {Q : Exit → Act → World → Prop} (hgd : o.guard = none) (s x : Operand)
    (ho : o.op = .call { callee := .builtin .append, args := #[s, x], argTypes := #[23, 23] }) (base : Nat) (xs : List Par) (y : Par) (v : Value) (g : Nat) (hs : a.eval s = v) (hx : a.eval x = .slice (some ⟨g, 0, none⟩) 1 1)
    (hown : OwnP w base v xs) (h0 : w.cell? ⟨g, 0, none⟩ = some (.string y.f0)) (h1 : w.cell? ⟨g, 1, none⟩ = some (.string y.f1)) (hlen : xs.length ≤ 1048576) (hbase : base ≤ w.heap.size)
    (h : ∀ v' w', OwnP w' base v' (xs ++ [y]) → w.grownBy w' v.ownBlock → (v'.ownBlock = v.ownBlock ∨ v'.ownBlock = some w.heap.size) → wpList Tryd.prog ops Q rest (a.put o.dst v') w') : wpList Tryd.prog ops Q (o :: rest) a w := by
  obtain ⟨i, hi, hz, hsize, hby⟩ := info_parts pinfo
  obtain ⟨v', w', hr, h2, h3, _, h5⟩ := run_append_own_at (P := Tryd.prog) (w := w) base 23 o.type 45 i (.agg #[.string ⟨#[]⟩, .string ⟨#[]⟩]) 2 32 Tryd.underlying23 hi hz hsize hby rfl (by omega) v xs.length (xs.flatMap parC) hown ⟨g, 0, none⟩ 1 1 (parC y) rfl
    (by
      intro j u hu
      match j, hu with
      | 0, hu => cases hu; exact h0
      | 1, hu => cases hu; exact h1)
    (by intro u hu; simp [parC] at hu; rcases hu with rfl | rfl <;> rfl) (by have : maxLen = 9223372036854775807 := rfl; omega) (by omega) hbase
  refine wpList_plain hgd fun _ hK => ?_
  unfold Oper.wp execOp
  simp only [ho, resolve, invoke, builtin, Sem.run_bind, Sem.run_pure, Result.andThen_ok, List.map_toArray, List.map_cons, List.map_nil, hs, hx, hr]
  refine hK _ _ (h v' w' ?_ h3 h5)
  unfold OwnP
  rw [List.length_append, List.flatMap_append]
  simpa using h2
/-- The parameters of parts. -/
def mkP (p : List UInt8 × List UInt8) : Par := ⟨⟨p.1.toArray⟩, ⟨p.2.toArray⟩⟩
def parseL : List (List UInt8) → Nat → List Par → List Par × GErr
  | [], _, acc => (acc, .nil)
  | p :: ps, d, acc =>
    if p = [] then parseL ps (d + 1) acc
    else match partS p with
      | .error q => ([], .at_ (d + q) 60)
      | .ok kv =>
        if (getS acc (mkP kv).f0).isSome = true then ([], .at_ d 52)
        else if acc.length = 32 then ([], .no 53)
        else parseL ps (d + p.length + 1) (acc ++ [mkP kv])
def parseS (l : List UInt8) : List Par × GErr := if 4096 < l.length then ([], .no 2) else parseL (splitS 38 l) 0 []
def totL (ps : List (List UInt8)) : Nat := (ps.map (fun p => p.length + 1)).sum
theorem totL_split (c : UInt8) (l : List UInt8) : totL (splitS c l) = l.length + 1 := by
  induction l with
  | nil => simp [splitS, totL]
  | cons b l ih =>
    rw [splitS]
    by_cases h : b = c
    · rw [if_pos h]; unfold totL at ih ⊢; simp at ih ⊢; omega
    · rw [if_neg h]
      have hne := splitS_ne c l
      cases e : splitS c l with
      | nil => exact absurd e hne
      | cons p ps => rw [e] at ih; unfold totL at ih ⊢; simp at ih ⊢; omega
/-- What Parse answers: a list of its own. -/
def ParsePost (r : List Par × GErr) (w : World) (e : Ending) (w' : World) : Prop := ∃ v er, e = .returned (.tuple #[v, er]) ∧ OwnP w' w.heap.size v r.1 ∧ IsErr w' r.2 er ∧ Below w.heap.size w w'
theorem ParsePost.mk {r : List Par × GErr} {xs : List Par} {g : GErr} {w w' : World} {v er : Value} (h : r = (xs, g)) (hv : OwnP w' w.heap.size v xs) (he : IsErr w' g er) (hb : Below w.heap.size w w') : ParsePost r w (.returned (.tuple #[v, er])) w' := ⟨v, er, rfl, by rw [h]; exact hv, by rw [h]; exact he, hb⟩
theorem own_none (w : World) (base : Nat) : OwnP w base (.slice none 0 0) [] := World.ownsRow_nil _ _ _ 2
theorem grown_low {B : Nat} {w w' : World} {base : Nat} {v : Value} {xs : List Par} (h : OwnP w base v xs) (hg : w.grownBy w' v.ownBlock) (hB : B ≤ base) (hb : B ≤ w.heap.size) : Below B w w' :=
  (Below.refl B w).grown hg hb (fun k hk => by have := (World.ownsRow.lt h k hk).1; omega)
/-- How the loop stands. -/
def ParRel (ps : List ByteArray) (R : List Par × GErr) (n : Nat) (w : World) (vl vd vi : Value) (wr : World) : Prop :=
  ∃ (i d : Nat) (acc : List Par), i ≤ ps.length ∧ vi = .int .i64 i ∧ vd = .int .i64 d ∧ parseL ((ps.map (fun p => p.data.toList)).drop i) d acc = R ∧ d + totL ((ps.map (fun p => p.data.toList)).drop i) = n + 1 ∧ acc.length ≤ 32 ∧ OwnP wr w.heap.size vl acc ∧ Below w.heap.size w wr ∧ w.heap.size ≤ wr.heap.size
end Go.Proofs.YtgdbjkkanjgbnaaDoor.Url

namespace Go.Proofs.YtgdbjkkanjgbnaaDoor.Url
open Go.RowKit Go.Proofs.YtgdbjkkanjgbnaaDoor
open Go.Proofs.YtgdbjkkanjgbnaaDoorW.PrintWords (Kd rdOf)
open Go.Proofs.YtgdbjkkanjgbnaaDoor.PUrlencParses
set_option linter.unusedVariables false
set_option linter.unusedSimpArgs false
theorem own_mono {w : World} {base base' : Nat} {v : Value} {xs : List Par} (h : OwnP w base v xs) (hb : base' ≤ base) : OwnP w base' v xs := by
  refine ⟨h.1, ?_⟩
  rcases h.2 with h2 | ⟨g, cap, cur, rfl, hg, r⟩
  · exact .inl h2
  · exact .inr ⟨g, cap, cur, rfl, Nat.le_trans hb hg, r⟩
set_option maxHeartbeats 8000000 in
set_option maxRecDepth 20000 in
theorem parse_any (s : ByteArray) (w : World) (hg : ErrorType w) (hL : LeastAt w) (hs : s.size ≤ 1048576) : Calls Tryd.prog 8 #[.string s] w (ParsePost (parseS s.data.toList) w) := by
  have HG := hid hg
  have HL := hid hL
  have hgl := hg.lt
  have hll := LeastAt.lt hL
  have hln := str_len s
  clear hg hL
  by_cases hbig : 4096 < s.size
  · have hP : parseS s.data.toList = ([], .no 2) := by unfold parseS; rw [if_pos (by omega)]
    have HP := hid hP
    have t0 : decide ((4096 : Int) < (s.size : Int)) = true := decide_eq_true (by omega)
    clear hP
    go_enter Tryd.func8, Tryd.ntmps8
    go_wp2_with fail
    go_ret2
    exact ParsePost.mk HP.out (own_none _ _) rfl (Below.refl _ _)
  · have t0 : decide ((4096 : Int) < (s.size : Int)) = false := decide_eq_false (by omega)
    obtain ⟨l, hl⟩ : ∃ l, s.data.toList = l := ⟨_, rfl⟩
    obtain ⟨R, hR⟩ : ∃ R, parseL (splitS 38 l) 0 [] = R := ⟨_, rfl⟩
    have hP : parseS s.data.toList = R := by unfold parseS; rw [hl, if_neg (by rw [← hl]; omega)]; exact hR
    rw [hP]
    have hsp := split_any s 38 w hs
    rw [hl] at hsp hln
    have HSP := hid hsp
    have HR := hid hR
    have HTT := hid (totL_split 38 l)
    clear hP hR hsp hl
    go_enter Tryd.func8, Tryd.ntmps8
    go_wp2_with fail
    refine HSP.out.mono ?_
    clear HSP
    rintro e w1 ⟨v, ps, rfl, hr, hm, hb⟩
    have HRC := hid hr
    obtain ⟨A, cap, hv, hpm, _⟩ := hr
    rw [List.length_map] at hv hpm
    subst hv
    have HM := hid hm
    have hpl9 : ps.length ≤ 5000 := by
      have h1 := congrArg List.length hm
      rw [List.length_map, splitS_len] at h1
      have h2 : l.count 38 ≤ l.length := List.count_le_length
      omega
    have HB1 := hid hb
    clear hb hm
    go_wp2_with fail
    go_loopw [4, 5, 20] (fun vl vd vi wr => ParRel ps R l.length w1 vl vd vi wr) (fun _ _ vi _ => ps.length - (intOf vi).toNat)
    case atStart => exact ⟨0, 0, [], Nat.zero_le _, rfl, rfl, by rw [List.drop_zero, HM.out]; exact HR.out, by rw [List.drop_zero, HM.out, HTT.out]; omega, by simp, own_none _ _, Below.refl _ _, Nat.le_refl _⟩
    case round =>
      obtain ⟨i, d, acc, hi, rfl, rfl, hpl, htt, hac, hown, hbw, hsz⟩ := hrel
      have HB := hid hbw
      have HO := hid hown
      obtain ⟨Aa, ca, rfl, hca⟩ := hown.form
      have HKC := hid hown.reads
      by_cases hlt : i < ps.length
      · have t1 : decide ((i : Int) < (ps.length : Int)) = true := decide_eq_true (by omega)
        obtain ⟨p, hp⟩ : ∃ p, ps[i]? = some p := ⟨ps[i], by simp⟩
        have hdrop : (ps.map (fun p => p.data.toList)).drop i = p.data.toList :: (ps.map (fun p => p.data.toList)).drop (i + 1) := by
          rw [List.drop_eq_getElem_cons (by rw [List.length_map]; exact hlt), List.getElem_map]
          rw [List.getElem?_eq_getElem hlt] at hp
          rw [Option.some.inj hp]
        rw [hdrop] at hpl htt
        obtain ⟨pb, po, pc, epv, hpc⟩ : ∃ b o cap', Value.slice A ps.length cap = .slice (some ⟨b, o, none⟩) ps.length cap' ∧ w1.cell? ⟨b, o + i, none⟩ = some (.string p) := by
          obtain ⟨a', c', e', _, hc'⟩ := HRC.out
          rw [List.length_map] at e' hc'
          cases e'
          obtain ⟨b, o, rfl, hi'⟩ := hc' (by omega)
          exact ⟨b, o, cap, rfl, hi' i _ (by rw [List.getElem?_map, hp]; rfl)⟩
        cases epv
        have hcp : wr.cell? ⟨pb, po + i, none⟩ = some (.string p) := (hbw.cell (lt_of_cell hpc)).trans hpc
        have HPL := hid hpl
        have HTT2 := hid htt
        have hpn : d + p.data.toList.length + 1 ≤ l.length + 1 := by
          have : totL (p.data.toList :: (ps.map (fun p => p.data.toList)).drop (i + 1)) = p.data.toList.length + 1 + totL ((ps.map (fun p => p.data.toList)).drop (i + 1)) := by simp [totL]
          omega
        rw [str_len] at hpn
        have hpz : ¬ p.size = 0 → p.data.toList ≠ [] := fun h e => h (by rw [← str_len p, e]; rfl)
        have q0 : (0 : Int) ≤ (i : Int) := by omega
        have q1 : (i : Int) < (ps.length : Int) := by omega
        have HD := hid hdrop
        have x0 : IntKind.i64.wrap ((p.size : Int) + 1) = (p.size : Int) + 1 := by rw [IntKind.wrap_i64]; omega
        have x1 : IntKind.i64.wrap ((d : Int) + ((p.size : Int) + 1)) = (d : Int) + ((p.size : Int) + 1) := by rw [IntKind.wrap_i64]; omega
        clear hpl htt hdrop hp hpc hbw hown
        by_cases hz : p.size = 0
        · have hp0 : p.toList = [] := str_empty p hz
          have hpl2 : parseL ((ps.map (fun p => p.data.toList)).drop (i + 1)) (d + 1) acc = R := by
            have h9 := HPL.out
            rw [parseL, if_pos (by rw [← str_toList]; exact hp0)] at h9
            exact h9
          have htt2 : (d + 1) + totL ((ps.map (fun p => p.data.toList)).drop (i + 1)) = l.length + 1 := by
            have h9 := HTT2.out
            have : totL (p.data.toList :: (ps.map (fun p => p.data.toList)).drop (i + 1)) = p.data.toList.length + 1 + totL ((ps.map (fun p => p.data.toList)).drop (i + 1)) := by simp [totL]
            rw [this, str_len] at h9
            omega
          have H1 := hid hpl2
          have H2 := hid htt2
          have hd9 : ((d : Int) + ((p.size : Int) + 1)) = ((d + 1 : Nat) : Int) := by omega
          have HD9 := hid hd9
          clear hpl2 htt2 hz hd9 hpz
          go_wp2_with fail
          refine ⟨⟨i + 1, d + 1, acc, by omega, by congr 1, by rw [HD9.out], H1.out, H2.out, hac, HO.out, HB.out, hsz⟩, by simp [intOf] <;> omega⟩
        · have hp1 : 0 < p.size := by omega
          have hn2 := str_ne_empty p hp1
          have hn3 := str_not_empty p hp1
          have hn4 : (p.toList == ([] : List UInt8)) = false := by simpa using hn3
          have hn5 : p.toList.isEmpty = false := by simpa using hn3
          have hbw2 : Below w.heap.size w wr := HB1.out.trans (HB.out.mono HB1.out.size)
          have HPT := hid (part_any p d wr (HG.out.below hbw2 hgl) (LeastAt.below HL.out hbw2 hll) (by omega) (by omega))
          have HBW := hid hbw2
          have hpl2 := HPL.out
          rw [parseL, if_neg (hpz hz)] at hpl2
          have hd9 : ((d : Int) + ((p.size : Int) + 1)) = ((d + p.data.toList.length + 1 : Nat) : Int) := by rw [str_len]; omega
          have HD9 := hid hd9
          have htt2 : (d + p.data.toList.length + 1) + totL ((ps.map (fun p => p.data.toList)).drop (i + 1)) = l.length + 1 := by
            have h9 := HTT2.out
            have : totL (p.data.toList :: (ps.map (fun p => p.data.toList)).drop (i + 1)) = p.data.toList.length + 1 + totL ((ps.map (fun p => p.data.toList)).drop (i + 1)) := by simp [totL]
            rw [this] at h9
            omega
          have H2 := hid htt2
          clear hbw2 hpz hd9 htt2
          cases hps : partS p.data.toList with
          | error q =>
            rw [hps] at hpl2
            have HR2 := hid hpl2
            have HPS := hid hps
            clear hpl2 hps
            go_wp2_with fail
            refine HPT.out.mono ?_
            clear HPT
            intro e w2 hq
            unfold PartPost at hq
            rw [HPS.out] at hq
            obtain ⟨v, rfl, he, hb2⟩ := hq
            have HE := hid he
            have HB2 := hid (below_then HBW.out hb2)
            obtain ⟨eb, eo, rfl, _, _⟩ := he
            clear hb2
            go_wp2_with fail
            go_ret2
            exact ParsePost.mk HR2.out.symm (own_none _ _) (HE.out.below ((Below.refl _ w2).alloc (Nat.le_refl _) _)) (HB2.out.alloc (by have := HB2.out.size; omega) _)
          | ok kv =>
            rw [hps] at hpl2
            have HPS := hid hps
            obtain ⟨x, hx⟩ : ∃ x, mkP kv = x := ⟨_, rfl⟩
            simp only [hx] at hpl2
            have hx0 : strV kv.1 = .string x.f0 := by rw [← hx]; rfl
            have hx1 : strV kv.2 = .string x.f1 := by rw [← hx]; rfl
            have HX0 := hid hx0
            have HX1 := hid hx1
            clear hps hx hx0 hx1
            go_wp2_with fail
            refine HPT.out.mono ?_
            clear HPT
            intro e w2 hq
            unfold PartPost at hq
            rw [HPS.out] at hq
            obtain ⟨rfl, hb2⟩ := hq
            rw [HX0.out, HX1.out]
            have hba : Below wr.heap.size wr (w2.alloc (.cells #[.string x.f0, .string x.f1] 45)) := hb2.alloc hb2.size _
            have HBA := hid (below_then HBW.out hba)
            have HOA := hid (HO.out.below hba)
            have HGT := hid (get_any (w2.alloc (.cells #[.string x.f0, .string x.f1] 45)) Aa ca acc x.f0 (Kd.C_below HKC.out hba) hca (by omega))
            have HH2 := hid (heap_alloc_new w2 (.cells #[.string x.f0, .string x.f1] 45))
            have HB1A := hid (HB.out.trans (hba.mono hsz))
            have hs2 := hb2.size
            clear hb2 hba
            cases hgt : getS acc x.f0 with
            | some v =>
              rw [hgt] at HGT hpl2
              have HR2 : Hid ((([], .at_ d 52) : List Par × GErr) = R) := hid (by simpa using hpl2)
              clear hpl2 hgt
              go_wp2_with fail
              refine HGT.out.mono ?_
              clear HGT
              rintro e w3 ⟨he, hb3⟩
              obtain rfl : e = .returned (.tuple #[.string v, .bool true]) := he
              have HB3 := hid (below_then HBA.out hb3)
              clear hb3
              go_wp2_with fail
              go_ret2
              exact ParsePost.mk HR2.out.symm (own_none _ _) ⟨w3.heap.size, 0, rfl, by simp, by simp⟩ (HB3.out.alloc (by have := HB3.out.size; omega) _)
            | none =>
              rw [hgt] at HGT hpl2
              by_cases h32 : acc.length = 32
              · have HR2 : Hid ((([], .no 53) : List Par × GErr) = R) := hid (by simpa [h32] using hpl2)
                have t3 : ((acc.length : Int) == 32) = true := by rw [h32]; rfl
                clear hpl2 hgt h32
                go_wp2_with fail
                refine HGT.out.mono ?_
                clear HGT
                rintro e w3 ⟨he, hb3⟩
                obtain rfl : e = .returned (.tuple #[.string ⟨#[]⟩, .bool false]) := he
                have HB3 := hid (below_then HBA.out hb3)
                clear hb3
                go_wp2_with fail
                go_ret2
                exact ParsePost.mk HR2.out.symm (own_none _ _) rfl HB3.out
              · have HR2 : Hid (parseL ((ps.map (fun p => p.data.toList)).drop (i + 1)) (d + p.data.toList.length + 1) (acc ++ [x]) = R) := hid (by simpa [h32] using hpl2)
                have t3 : ((acc.length : Int) == 32) = false := by simp; omega
                clear hpl2 hgt
                go_wp2_with fail
                refine HGT.out.mono ?_
                clear HGT
                rintro e w3 ⟨he, hb3⟩
                obtain rfl : e = .returned (.tuple #[.string ⟨#[]⟩, .bool false]) := he
                have HB3 := hid (below_then HBA.out hb3)
                have HB13 := hid (below_then HB1A.out hb3)
                have HO3 := hid (HOA.out.below hb3)
                have hh3 := (hb3.block w2.heap.size (by simp)).trans HH2.out
                have HH3 := hid hh3
                have c0 : w3.cell? ⟨w2.heap.size, 0, none⟩ = some (.string x.f0) := by simp [World.cell?, hh3]
                have c1 : w3.cell? ⟨w2.heap.size, 1, none⟩ = some (.string x.f1) := by simp [World.cell?, hh3]
                obtain ⟨bo, hbo⟩ : ∃ bo, (Value.slice Aa acc.length ca).ownBlock = bo := ⟨_, rfl⟩
                have HBO := hid hbo
                have hs3 := HB13.out.size
                clear hb3 hh3 hbo
                go_wp2_with (at_builtin; refine wpList_append_p rfl (.tmp 58) (.tmp 60) rfl w1.heap.size acc x (.slice Aa acc.length ca) w3.heap.size rfl rfl (HO3.out.below ((Below.refl _ w3).alloc (Nat.le_refl _) _)) (by simp) (by simp) (by omega) (by simp; omega) ?_; intro v' w4 ho hg hb; have HO4 := hid ho; have HG4 := hid hg; obtain ⟨A4, c4, rfl, _⟩ := ho.form; clear ho hg hb)
                have hbl : Below w1.heap.size w1 w4 := (HB13.out.alloc hs3 _).trans (grown_low (HO3.out.below ((Below.refl _ w3).alloc (Nat.le_refl _) _)) HG4.out (Nat.le_refl _) (by simp; omega))
                refine ⟨⟨i + 1, d + p.data.toList.length + 1, acc ++ [x], by omega, by congr 1, by rw [HD9.out], HR2.out, H2.out, by simp; omega, (by have h9 := HO4.out; rw [List.length_append] at h9; exact h9), hbl, hbl.size⟩, by simp [intOf] <;> omega⟩
      · obtain rfl : i = ps.length := by omega
        have t1 : decide ((ps.length : Int) < (ps.length : Int)) = false := decide_eq_false (by omega)
        have hR : R = (acc, .nil) := by
          rw [← hpl, List.drop_of_length_le (by rw [List.length_map]; omega)]
          rfl
        have HR2 := hid hR
        clear hpl htt hR hown hbw
        go_wp2_with fail
        go_ret2
        exact ParsePost.mk HR2.out (own_mono HO.out HB1.out.size) rfl (HB1.out.trans (HB.out.mono HB1.out.size))
end Go.Proofs.YtgdbjkkanjgbnaaDoor.Url

namespace Go.Proofs.YtgdbjkkanjgbnaaDoor.Url
open Go.RowKit Go.Proofs.YtgdbjkkanjgbnaaDoor
open Go.Proofs.YtgdbjkkanjgbnaaDoor.PUrlencParses
set_option linter.unusedVariables false
set_option linter.unusedSimpArgs false
end Go.Proofs.YtgdbjkkanjgbnaaDoor.Url

namespace Go.Proofs.YtgdbjkkanjgbnaaDoor.Url
open Go.RowKit Go.Proofs.YtgdbjkkanjgbnaaDoor
open Go.Proofs.YtgdbjkkanjgbnaaDoorW.PrintWords (Kd rdOf)
open Go.Proofs.YtgdbjkkanjgbnaaDoor.PUrlencParses
set_option linter.unusedVariables false
set_option linter.unusedSimpArgs false
theorem bad_step {l : List UInt8} {v n : Int} (h : l ≠ []) (hn : nextS l = (v, n)) (hv : ¬ v < 0) (hr : badS (l.drop n.toNat) < 0) : badS l < 0 := by
  rw [badS, dif_neg h, hn]
  simp only
  rw [if_neg hv]
  try simp only
  rw [if_pos hr]
  omega
theorem bad_nil : badS [] < 0 := by rw [badS_nil]; omega
theorem bad_a : badS [97] < 0 := bad_step (v := 97) (n := 1) (by simp) (by decide +kernel) (by omega) bad_nil
theorem bad_b : badS [98] < 0 := bad_step (v := 98) (n := 1) (by simp) (by decide +kernel) (by omega) bad_nil
theorem bad_c : badS [99] < 0 := bad_step (v := 99) (n := 1) (by simp) (by decide +kernel) (by omega) bad_nil
theorem bad_x : badS [120] < 0 := bad_step (v := 120) (n := 1) (by simp) (by decide +kernel) (by omega) bad_nil
theorem bad_e : badS [195, 169] < 0 := bad_step (v := 233) (n := 2) (by simp) (by decide +kernel) (by omega) bad_nil
theorem bad_12 : badS [49, 32, 50] < 0 := bad_step (v := 49) (n := 1) (by simp) (by decide +kernel) (by omega) (bad_step (v := 32) (n := 1) (by simp) (by decide +kernel) (by omega) (bad_step (v := 50) (n := 1) (by simp) (by decide +kernel) (by omega) bad_nil))
theorem bad_ab : badS [97, 32, 98, 38] < 0 := bad_step (v := 97) (n := 1) (by simp) (by decide +kernel) (by omega) (bad_step (v := 32) (n := 1) (by simp) (by decide +kernel) (by omega) (bad_step (v := 98) (n := 1) (by simp) (by decide +kernel) (by omega) (bad_step (v := 38) (n := 1) (by simp) (by decide +kernel) (by omega) bad_nil)))
theorem part_ok {l n v : List UInt8} (h1 : unS (cutA l) = (n, -1)) (h2 : unS (cutB l) = (v, -1)) (h3 : n ≠ []) (h4 : badS n < 0) (h5 : badS v < 0) : partS l = .ok (n, v) := by
  unfold partS
  rw [h1, h2]
  simp only
  rw [if_neg (by omega), if_neg (by omega), if_neg]
  rintro (h | h | h)
  · exact h3 h
  · omega
  · omega
theorem part1 : partS [97, 61, 49, 43, 50] = .ok ([97], [49, 32, 50]) := part_ok (by decide +kernel) (by decide +kernel) (by simp) bad_a bad_12
theorem part2 : partS [98, 61, 37, 67, 51, 37, 65, 57] = .ok ([98], [195, 169]) := part_ok (by decide +kernel) (by decide +kernel) (by simp) bad_b bad_e
theorem part3 : partS [99] = .ok ([99], []) := part_ok (by decide +kernel) (by decide +kernel) (by simp) bad_c bad_nil
theorem part4 : partS [97, 61, 37, 52] = .error 2 := by
  unfold partS
  rw [show unS (cutA [97, 61, 37, 52]) = ([97], -1) by decide +kernel, show unS (cutB [97, 61, 37, 52]) = ([], 0) by decide +kernel]
  rfl
def al1 : Par := ⟨⟨#[97]⟩, ⟨#[49, 32, 50]⟩⟩
def al2 : Par := ⟨⟨#[98]⟩, ⟨#[195, 169]⟩⟩
def al3 : Par := ⟨⟨#[99]⟩, ⟨#[]⟩⟩
theorem parse1 : parseS [97, 61, 49, 43, 50, 38, 98, 61, 37, 67, 51, 37, 65, 57, 38, 99] = ([al1, al2, al3], .nil) := by
  unfold parseS
  rw [if_neg (by simp), show splitS 38 [97, 61, 49, 43, 50, 38, 98, 61, 37, 67, 51, 37, 65, 57, 38, 99] = [[97, 61, 49, 43, 50], [98, 61, 37, 67, 51, 37, 65, 57], [99]] by decide +kernel]
  rw [parseL, if_neg (by simp), part1]
  show (if (getS [] al1.f0).isSome = true then _ else _) = _
  rw [if_neg (by simp [getS]), if_neg (by simp), parseL, if_neg (by simp), part2]
  show (if (getS [al1] al2.f0).isSome = true then _ else _) = _
  rw [if_neg (by simp [getS, al1, al2]), if_neg (by simp), parseL, if_neg (by simp), part3]
  show (if (getS [al1, al2] al3.f0).isSome = true then _ else _) = _
  rw [if_neg (by simp [getS, al1, al2, al3]), if_neg (by simp)]
  rfl
theorem parse2 : parseS [97, 61, 37, 52] = ([], .at_ 2 60) := by
  unfold parseS
  rw [if_neg (by simp), show splitS 38 [97, 61, 37, 52] = [[97, 61, 37, 52]] by decide +kernel]
  rw [parseL, if_neg (by simp), part4]
  rfl
def alx : Par := ⟨⟨#[120]⟩, ⟨#[97, 32, 98, 38]⟩⟩
theorem print1 : printS [alx] = ([120, 61, 97, 43, 98, 37, 50, 54], .nil) := by
  have h : ¬ badP [] alx := by
    rintro (h | h | h | h)
    · simp [getS] at h
    · exact absurd h (by decide)
    · have := bad_x; simp only [alx] at h; omega
    · have := bad_ab; simp only [alx] at h; omega
  unfold printS
  rw [if_neg (by simp), printL_good h]
  have e : ([] ++ sepS [] ++ oneS alx : List UInt8) = [120, 61, 97, 43, 98, 37, 50, 54] := by decide +kernel
  rw [e]
  rfl
theorem ownP_cells {w : World} {base : Nat} {v : Value} {xs : List Par} (h : OwnP w base v xs) (h0 : 0 < xs.length) : ∃ g c, v = .slice (some ⟨g, 0, none⟩) xs.length c ∧ ∀ j u, (xs.flatMap parC)[j]? = some u → w.cell? ⟨g, j, none⟩ = some u := by
  rcases h.2 with ⟨_, en⟩ | ⟨g, cap, cur, e, _, hh, hn, hm, hs, ht⟩
  · omega
  · refine ⟨g, cap, e, fun j u hu => ?_⟩
    have hj : j < xs.length * 2 := by have := (List.getElem?_eq_some_iff.1 hu).1; rw [parC_len] at this; exact this
    rw [← ht, List.getElem?_take, if_pos hj] at hu
    simp only [World.cell?, hh]
    simpa using hu
set_option maxHeartbeats 8000000 in
set_option maxRecDepth 20000 in
theorem alive_any (w : World) (hg : ErrorType w) (hL : LeastAt w) : Calls Tryd.prog 7 #[] w (TruePost w) := by
  have HG := hid hg
  have HL := hid hL
  have hgl := hg.lt
  have hll := LeastAt.lt hL
  have h1 := parse_any ⟨#[97, 61, 49, 43, 50, 38, 98, 61, 37, 67, 51, 37, 65, 57, 38, 99]⟩ w hg hL (by decide)
  rw [show (⟨#[97, 61, 49, 43, 50, 38, 98, 61, 37, 67, 51, 37, 65, 57, 38, 99]⟩ : ByteArray).data.toList = [97, 61, 49, 43, 50, 38, 98, 61, 37, 67, 51, 37, 65, 57, 38, 99] from rfl, parse1] at h1
  have H1 := hid h1
  clear h1 hg hL
  go_enter Tryd.func7, Tryd.ntmps7
  go_wp2_with fail
  refine H1.out.mono ?_
  clear H1
  rintro e w1 ⟨v1, er1, rfl, ho1, he1, hb1⟩
  obtain rfl : er1 = .nilIface := he1
  have HB1 := hid hb1
  have HO1 := hid ho1
  have h2 := parse_any ⟨#[97, 61, 37, 52]⟩ w1 (HG.out.below hb1 hgl) (LeastAt.below HL.out hb1 hll) (by decide)
  rw [show (⟨#[97, 61, 37, 52]⟩ : ByteArray).data.toList = [97, 61, 37, 52] from rfl, parse2] at h2
  have H2 := hid h2
  clear h2 hb1 ho1
  go_wp2_with fail
  refine H2.out.mono ?_
  clear H2
  rintro e w2 ⟨v2, er2, rfl, _, he2, hb2⟩
  have HE2 := hid he2
  have HB2 := hid (below_then HB1.out hb2)
  have HO2 := hid (HO1.out.below hb2)
  clear he2 hb2
  go_wp2_with fail
  have hb3 : Below w2.heap.size w2 (w2.alloc (.cells #[.string ⟨#[120]⟩, .string ⟨#[97, 32, 98, 38]⟩] 45)) := (Below.refl _ w2).alloc (Nat.le_refl _) _
  have hC3 : k45.C (w2.alloc (.cells #[.string ⟨#[120]⟩, .string ⟨#[97, 32, 98, 38]⟩] 45)) (some ⟨w2.heap.size, 0, none⟩) [alx].length [alx] := by
    refine ⟨rfl, by decide, fun _ => ⟨_, rfl, fun j p hj => ?_⟩⟩
    have hj0 : j = 0 := by have := (List.getElem?_eq_some_iff.1 hj).1; simpa using this
    subst hj0
    simp at hj
    subst hj
    refine ⟨[.string ⟨#[120]⟩, .string ⟨#[97, 32, 98, 38]⟩], rfl, k45_mk _ alx, fun q u hq => ?_⟩
    match q, hq with
    | 0, hq => cases hq; rw [Addr.add_lit]; simp
    | 1, hq => cases hq; rw [Addr.add_lit]; simp
  have hB3 := below_then HB2.out hb3
  have hp := print_any (some ⟨w2.heap.size, 0, none⟩) 1 [alx] _ hC3 (by decide) (by decide) (fun x hx => by
    obtain rfl : x = alx := by simpa using hx
    exact ⟨by decide, by decide⟩) (HG.out.below hB3 hgl) (LeastAt.below HL.out hB3 hll)
  rw [print1] at hp
  refine hp.mono ?_
  rintro e w3 ⟨er3, rfl, he3, hb4⟩
  obtain rfl : er3 = .nilIface := he3
  have hb5 := hb3.trans (hb4.mono hb3.size)
  have HB5 := hid (below_then HB2.out hb5)
  have HE3 := hid (HE2.out.below hb5)
  have ho3 := HO2.out.below hb5
  obtain ⟨g, c, rfl, hcell⟩ := ownP_cells ho3 (by decide)
  have x0 : w3.cell? ⟨g, 1, none⟩ = some (.string ⟨#[49, 32, 50]⟩) := hcell 1 _ rfl
  have x1 : w3.cell? ⟨g, 3, none⟩ = some (.string ⟨#[195, 169]⟩) := hcell 3 _ rfl
  have x2 : w3.cell? ⟨g, 4, none⟩ = some (.string ⟨#[99]⟩) := hcell 4 _ rfl
  have hstr : strV [120, 61, 97, 43, 98, 37, 50, 54] = .string ⟨#[120, 61, 97, 43, 98, 37, 50, 54]⟩ := rfl
  rw [hstr]
  clear hb3 hC3 hB3 hp hb4 hb5 ho3 hcell hstr
  go_wp2_with fail
  refine (num_any (.at_ 2 60) _ w3 (HG.out.below HB5.out hgl) HE3.out).mono ?_
  rintro e w4 ⟨rfl, hb6⟩
  have HB6 := hid (below_then HB5.out hb6)
  have HE4 := hid (HE3.out.below hb6)
  clear hb6 x0 x1 x2
  go_wp2_with fail
  refine (pos_any (.at_ 2 60) _ w4 (HG.out.below HB6.out hgl) HE4.out).mono ?_
  rintro e w5 ⟨rfl, hb7⟩
  have HB7 := hid (below_then HB6.out hb7)
  clear hb7
  go_wp2_with fail
  go_ret
  exact TruePost.mk (by simp) HB7.out
end Go.Proofs.YtgdbjkkanjgbnaaDoor.Url

namespace Go.Proofs.YtgdbjkkanjgbnaaDoor.Url
open Go.RowKit Go.Proofs.YtgdbjkkanjgbnaaDoor
open Go.Proofs.YtgdbjkkanjgbnaaDoorW.PrintWords (Kd rdOf Ev Drawn0)
open Go.Proofs.YtgdbjkkanjgbnaaDoor.PUrlencParses
set_option linter.unusedVariables false
set_option linter.unusedSimpArgs false
def GreatPost (xs : List Par) (w : World) (e : Ending) (w' : World) : Prop := ∃ b, e = .returned (.bool b) ∧ (b = false → xs.length ≤ 100 ∧ ∀ x ∈ xs, x.f0.size ≤ 3000 ∧ x.f1.size ≤ 3000) ∧ Below w.heap.size w w'
set_option maxHeartbeats 4000000 in
set_option maxRecDepth 20000 in
theorem great_any (w : World) (A : Option Addr) (c : Nat) (xs : List Par) (hC : k45.C w A xs.length xs) (hc : xs.length ≤ c) : Calls Tryd.prog 13 #[.slice A xs.length c] w (GreatPost xs w) := by
  have HC := hid hC
  clear hC
  by_cases hbig : 100 < xs.length
  · have t0 : decide ((100 : Int) < (xs.length : Int)) = true := decide_eq_true (by omega)
    go_enter Tryd.func13, Tryd.ntmps13
    go_wp2
    go_ret
    exact ⟨true, rfl, (fun h => by cases h), Below.refl _ _⟩
  · have t0 : decide ((100 : Int) < (xs.length : Int)) = false := decide_eq_false (by omega)
    go_enter Tryd.func13, Tryd.ntmps13
    go_wp2
    go_loopw [3] (fun vi wr => ∃ i : Nat, vi = .int .i64 i ∧ i ≤ xs.length ∧ wr = w ∧ Hid (∀ (q : Nat) (y : Par), q < i → xs[q]? = some y → y.f0.size ≤ 3000 ∧ y.f1.size ≤ 3000)) (fun vi _ => xs.length - (intOf vi).toNat)
    case atStart => exact ⟨0, rfl, Nat.zero_le _, rfl, hid (fun q y h => absurd h (by omega))⟩
    case round =>
      obtain ⟨i, rfl, hi, rfl, hlo⟩ := hrel
      by_cases hlt : i < xs.length
      · have t1 : decide (i < xs.length) = true := decide_eq_true hlt
        obtain ⟨x, hx⟩ : ∃ x, xs[i]? = some x := ⟨xs[i]'hlt, by simp⟩
        have p0 : (0 : Int) ≤ (i : Int) := by omega
        have p1 : (i : Int) < (xs.length : Int) := by omega
        obtain ⟨ad, rfl, e0, e1⟩ := at_T45 HC.out (i : Int) (by omega) (by omega)
        simp only [Int.toNat_natCast] at e0 e1
        have hrd : rd_T45 xs (i : Int) = x := by unfold rd_T45; rw [Int.toNat_natCast, List.getD_eq_getElem?_getD, hx]; rfl
        rw [hrd] at e0 e1
        have HX := hid hx
        clear hrd hx
        by_cases h1 : 3000 < x.f0.size
        · have t2 : decide ((3000 : Int) < (x.f0.size : Int)) = true := decide_eq_true (by omega)
          go_wp2
          go_ret
          exact ⟨true, rfl, (fun h => by cases h), Below.refl _ _⟩
        · have t2 : decide ((3000 : Int) < (x.f0.size : Int)) = false := decide_eq_false (by omega)
          by_cases h2 : 3000 < x.f1.size
          · have t3 : decide ((3000 : Int) < (x.f1.size : Int)) = true := decide_eq_true (by omega)
            go_wp2
            go_ret
            exact ⟨true, rfl, (fun h => by cases h), Below.refl _ _⟩
          · have t3 : decide ((3000 : Int) < (x.f1.size : Int)) = false := decide_eq_false (by omega)
            go_wp2
            refine ⟨⟨i + 1, by congr 1, by omega, by first | rfl | trivial, hid (fun q y hq hy => ?_)⟩, by simp [intOf] <;> omega⟩
            rcases Nat.lt_or_ge q i with h9 | h9
            · exact hlo.out q y h9 hy
            · obtain rfl : q = i := by omega
              rw [HX.out] at hy
              cases hy
              omega
      · obtain rfl : i = xs.length := by omega
        have t1 : decide (xs.length < xs.length) = false := decide_eq_false (by omega)
        go_wp2
        go_ret
        refine ⟨false, rfl, fun _ => ⟨by omega, fun x hx => ?_⟩, Below.refl _ _⟩
        obtain ⟨q, hq⟩ := List.mem_iff_getElem?.1 hx
        exact hlo.out q x (List.getElem?_eq_some_iff.1 hq).1 hq
end Go.Proofs.YtgdbjkkanjgbnaaDoor.Url

namespace Go.Proofs.YtgdbjkkanjgbnaaDoor.Url
open Go.RowKit Go.Proofs.YtgdbjkkanjgbnaaDoor Go.Proofs.YtgdbjkkanjgbnaaDoor.PUrlencParses Go.Proofs.YtgdbjkkanjgbnaaDoorW.PrintWords Go.Proofs.YtgdbjkkanjgbnaaDoorW.PrintLast Go.Proofs.YtgdbjkkanjgbnaaDoorW.PrintMore
set_option linter.unusedVariables false
set_option linter.unusedSimpArgs false
theorem wrap_in (n : Int) (h0 : -9223372036854775808 ≤ n) (h1 : n ≤ 9223372036854775807) : wrap64 n = n := by unfold wrap64; omega
end Go.Proofs.YtgdbjkkanjgbnaaDoor.Url

namespace Go.Proofs.YtgdbjkkanjgbnaaDoor.Url
open Go.RowKit Go.Proofs.YtgdbjkkanjgbnaaDoor Go.Proofs.YtgdbjkkanjgbnaaDoor.PUrlencParses Go.Proofs.YtgdbjkkanjgbnaaDoorW.PrintWords Go.Proofs.YtgdbjkkanjgbnaaDoorW.PrintLast Go.Proofs.YtgdbjkkanjgbnaaDoorW.PrintMore
set_option linter.unusedVariables false
set_option linter.unusedSimpArgs false
theorem get_ev (xs : List Par) (key : ByteArray) (hn : xs.length ≤ 1048576) (d : Nat) : ∀ i : Nat, xs.length - i = d → i ≤ xs.length → Ev (fun j => warrantref06_Get.l0 j xs key i) (match getS (xs.drop i) key with | some v => (v, true) | none => (⟨#[]⟩, false)) := by
  induction d with
  | zero =>
    intro i h1 h2
    obtain rfl : i = xs.length := by omega
    rw [List.drop_length]
    refine Ev.step (f := fun _ => some (⟨#[]⟩, false)) (fun j => ?_) (Ev.now _)
    simp only [warrantref06_Get.l0]
    rw [if_neg (by omega)]
  | succ d ih =>
    intro i h1 h2
    have hlt : i < xs.length := by omega
    have h9 := ih (i + 1) (by omega) (by omega)
    rw [List.drop_eq_getElem_cons hlt, getS]
    have hrd : rd_T45 xs (i : Int) = xs[i] := by unfold rd_T45; rw [Int.toNat_natCast, List.getD_eq_getElem?_getD, List.getElem?_eq_getElem hlt]; rfl
    by_cases hk : (xs[i]).f0 = key
    · rw [if_pos hk]
      refine Ev.step (f := fun _ => some ((xs[i]).f1, true)) (fun j => ?_) (Ev.now _)
      simp only [warrantref06_Get.l0]
      rw [if_pos (by omega), if_pos (by omega), hrd, if_pos (by rw [hk])]
    · rw [if_neg hk]
      refine Ev.step (fun j => ?_) h9
      simp only [warrantref06_Get.l0]
      rw [if_pos (by omega), if_pos (by omega), hrd, if_neg (fun e => hk (ba_inj e)), wrap_in _ (by omega) (by omega)]
      rfl
theorem get_f (xs : List Par) (key : ByteArray) (hn : xs.length ≤ 1048576) : Ev (fun j => warrantref06_Get.f j xs key) (match getS xs key with | some v => (v, true) | none => (⟨#[]⟩, false)) := by
  have h := get_ev xs key hn xs.length 0 (by omega) (by omega)
  rw [List.drop_zero] at h
  exact h
end Go.Proofs.YtgdbjkkanjgbnaaDoor.Url

namespace Go.Proofs.YtgdbjkkanjgbnaaDoor.Url
open Go.RowKit Go.Proofs.YtgdbjkkanjgbnaaDoor
set_option linter.unusedVariables false
set_option linter.unusedSimpArgs false
theorem byteT : ByteT Tryd.prog 59 5 := ⟨Tryd.underlying59, Tryd.underlying5, by kernel_rfl⟩
set_option maxHeartbeats 2000000 in
theorem has_any (s : ByteArray) (c : UInt8) (w : World) (hs : s.size ≤ 1048576) : Calls Tryd.prog 34 #[.string s, .int .u8 (c.toNat : Int)] w (BoolPost (decide (c ∈ s.data.toList)) w) := by
  have hln := str_len s
  obtain ⟨r, hr⟩ : ∃ r, decide (c ∈ s.data.toList) = r := ⟨_, rfl⟩
  rw [hr]
  have HR := hid hr
  clear hr
  go_enter Tryd.func34, Tryd.ntmps34
  go_wp2
  go_loopw [5] (fun vi wr => ∃ i : Nat, vi = .int .i64 i ∧ i ≤ s.size ∧ wr = w ∧ Hid (∀ q, q < i → s.data.toList[q]? ≠ some c)) (fun vi _ => s.size - (intOf vi).toNat)
  case atStart => exact ⟨0, rfl, Nat.zero_le _, rfl, hid (fun q h => absurd h (by omega))⟩
  case round =>
    obtain ⟨i, rfl, hi, rfl, hno⟩ := hrel
    by_cases hlt : i < s.size
    · have t0 : decide ((i : Int) < (s.size : Int)) = true := decide_eq_true (by omega)
      have p0 : (0 : Int) ≤ (i : Int) := by omega
      have hget : s.data.toList[i]? = some s[i] := by
        rw [str_get s i hlt, List.getD_eq_getElem?_getD, List.getElem?_eq_getElem (by rw [hln]; exact hlt)]; rfl
      by_cases hc : s[i] = c
      · have q0 : ((s[i].toNat : Int) == (c.toNat : Int)) = true := by rw [hc]; simp
        have HT : Hid (r = true) := hid (by rw [← HR.out, decide_eq_true_eq]; rw [hc] at hget; exact List.mem_of_getElem? hget)
        clear hget hc
        go_wp2_with fail
        go_ret
        exact BoolPost.mk HT.out
      · have q0 : ((s[i].toNat : Int) == (c.toNat : Int)) = false := by
          rw [beq_eq_false_iff_ne]; intro e; exact hc (UInt8.toNat_inj.1 (by omega))
        have HG := hid hget
        have HC := hid hc
        clear hget hc
        go_wp2_with fail
        refine ⟨⟨i + 1, by congr 1, by omega, by first | rfl | trivial, hid (fun q hq => ?_)⟩, by simp [intOf] <;> omega⟩
        rcases Nat.lt_or_ge q i with h9 | h9
        · exact hno.out q h9
        · obtain rfl : q = i := by omega
          rw [HG.out]
          intro e
          exact HC.out (Option.some.inj e)
    · obtain rfl : i = s.size := by omega
      have t0 : decide ((s.size : Int) < (s.size : Int)) = false := decide_eq_false (by omega)
      have HT : Hid (r = false) := hid (by
        rw [← HR.out, decide_eq_false_iff_not]
        intro hm
        obtain ⟨q, hq⟩ := List.mem_iff_getElem?.1 hm
        exact hno.out q (by rw [← hln]; exact (List.getElem?_eq_some_iff.1 hq).1) hq)
      go_wp2_with fail
      go_ret
      exact BoolPost.mk HT.out
theorem pl_has : ∀ n : Fin 256, plB (UInt8.ofNat n.val) = decide (UInt8.ofNat n.val ∈ ([65, 66, 67, 68, 69, 70, 71, 72, 73, 74, 75, 76, 77, 78, 79, 80, 81, 82, 83, 84, 85, 86, 87, 88, 89, 90, 97, 98, 99, 100, 101, 102, 103, 104, 105, 106, 107, 108, 109, 110, 111, 112, 113, 114, 115, 116, 117, 118, 119, 120, 121, 122, 48, 49, 50, 51, 52, 53, 54, 55, 56, 57, 42, 45, 46, 95] : List UInt8)) := by decide +kernel
theorem own_form2 {w : World} {base : Nat} {e : TypeId} {v : Value} {l : List UInt8} (h : OwnB w base e v l) : ∃ a c, v = .slice a l.length c := by
  rcases h.2 with ⟨rfl, e⟩ | ⟨g, cap, cur, rfl, _⟩
  · exact ⟨none, 0, by rw [e]⟩
  · exact ⟨_, _, rfl⟩
def RefRel (l : List UInt8) (B : Nat) (w : World) (out i : Value) (wr : World) : Prop := ∃ (k : Nat) (a : Option Addr) (c : Nat), k ≤ l.length ∧ i = .int .i64 k ∧ out = .slice a (escS (l.take k)).length c ∧ OwnB wr B 5 out (escS (l.take k)) ∧ Below B w wr ∧ B ≤ wr.heap.size
set_option maxHeartbeats 4000000 in
set_option maxRecDepth 20000 in
theorem refescape_any (s : ByteArray) (w : World) (hs : s.size ≤ 1048576) : Calls Tryd.prog 21 #[.string s] w (TextPost (escS s.data.toList) w) := by
  have hln : s.data.toList.length = s.size := str_len s
  have HLN := hid hln
  obtain ⟨l, hl⟩ : ∃ l, s.data.toList = l := ⟨_, rfl⟩
  rw [hl] at HLN ⊢
  have HL := hid hl
  clear hln hl
  go_enter Tryd.func21, Tryd.ntmps21
  go_wp2_with fail
  go_loopw [3, 4] (fun out i wr => RefRel l w.heap.size w out i wr) (fun _ i _ => s.size - (intOf i).toNat)
  case atStart => exact ⟨0, _, _, Nat.zero_le _, rfl, rfl, OwnB.new w w.heap.size _ #[] [] 0 rfl rfl (Nat.le_refl _) (by decide), (Below.refl _ w).alloc (Nat.le_refl _) _, by simp⟩
  case round =>
    obtain ⟨k, av, cv, hk, rfl, rfl, ho, hbw, hsz⟩ := hrel
    have HO := hid ho
    have HBW := hid hbw
    have hk' : k ≤ s.size := by have := HLN.out; omega
    have HLE := hid (escS_le (l.take k))
    obtain ⟨bo, hbo⟩ : ∃ bo, (Value.slice av (escS (l.take k)).length cv).ownBlock = bo := ⟨_, rfl⟩
    clear ho hbw hk hbo
    by_cases hlt : k < s.size
    · have hget := str_get s k hlt
      rw [HL.out] at hget
      have hsn := escS_snoc l k (by rw [HLN.out]; exact hlt)
      rw [← hget] at hsn
      obtain ⟨c, hc⟩ : ∃ c, s[k] = c := ⟨_, rfl⟩
      have t0 : decide ((k : Int) < (s.size : Int)) = true := decide_eq_true (by omega)
      rw [hc] at hsn
      have HSN := hid hsn
      have HC := hid hc
      have p0 : (0 : Int) ≤ (k : Int) := by omega
      have hlen : (escS (l.take k)).length + 3 ≤ 1099511627776 := by have := HLE.out; rw [List.length_take] at this; omega
      have hcl := c.toNat_lt
      have hpl := pl_has ⟨c.toNat, hcl⟩
      simp only [UInt8.ofNat_toNat] at hpl
      have HPL := hid hpl
      clear hget hsn hc hpl
      by_cases hp : plB c = true
      · have HE : Hid (escB c = [c]) := hid (by unfold escB; rw [if_pos hp])
        have HPT : Hid (decide (c ∈ ([65, 66, 67, 68, 69, 70, 71, 72, 73, 74, 75, 76, 77, 78, 79, 80, 81, 82, 83, 84, 85, 86, 87, 88, 89, 90, 97, 98, 99, 100, 101, 102, 103, 104, 105, 106, 107, 108, 109, 110, 111, 112, 113, 114, 115, 116, 117, 118, 119, 120, 121, 122, 48, 49, 50, 51, 52, 53, 54, 55, 56, 57, 42, 45, 46, 95] : List UInt8)) = true) := hid (HPL.out.symm.trans hp)
        go_wp2_with fail
        rw [HC.out]
        refine (has_any _ c _ (by decide)).mono ?_
        rintro e w1 ⟨rfl, rfl⟩
        rw [show decide (c ∈ (⟨#[65, 66, 67, 68, 69, 70, 71, 72, 73, 74, 75, 76, 77, 78, 79, 80, 81, 82, 83, 84, 85, 86, 87, 88, 89, 90, 97, 98, 99, 100, 101, 102, 103, 104, 105, 106, 107, 108, 109, 110, 111, 112, 113, 114, 115, 116, 117, 118, 119, 120, 121, 122, 48, 49, 50, 51, 52, 53, 54, 55, 56, 57, 42, 45, 46, 95]⟩ : ByteArray).data.toList) = true from HPT.out]
        go_wp2_with (at_builtin; refine wpList_append_b byteT rfl (.tmp 28) (.tmp 30) rfl w.heap.size (escS (l.take k)) [c] (.slice av (escS (l.take k)).length cv) (.slice (some ⟨wr.heap.size, 0, none⟩) 1 1) rfl rfl (HO.out.alloc _) (OwnB.new wr wr.heap.size _ _ [c] 1 rfl rfl (Nat.le_refl _) (by decide)).reads (by simp; omega) (by simp; omega) ?_; intro v2 w2 ho hg _ _; have HO2 := hid ho; have HBL2 := hid ((HBW.out.alloc hsz _).trans (below_grown (HO.out.alloc _) hg (Nat.le_refl _) (by simp; omega))); obtain ⟨A2, C2, rfl⟩ := own_form2 ho; clear ho hg)
        exact ⟨⟨k + 1, A2, C2, by have := HLN.out; omega, by congr 1, by rw [HSN.out, HE.out, List.length_append]; rfl, by rw [HSN.out, HE.out]; have h9 := HO2.out; rw [List.length_append] at h9; exact h9, HBL2.out, HBL2.out.size⟩, by simp [intOf] <;> omega⟩
      · have hpf : plB c = false := by simpa using hp
        have HPT : Hid (decide (c ∈ ([65, 66, 67, 68, 69, 70, 71, 72, 73, 74, 75, 76, 77, 78, 79, 80, 81, 82, 83, 84, 85, 86, 87, 88, 89, 90, 97, 98, 99, 100, 101, 102, 103, 104, 105, 106, 107, 108, 109, 110, 111, 112, 113, 114, 115, 116, 117, 118, 119, 120, 121, 122, 48, 49, 50, 51, 52, 53, 54, 55, 56, 57, 42, 45, 46, 95] : List UInt8)) = false) := hid (HPL.out.symm.trans hpf)
        by_cases h32 : c.toNat = 32
        · have HE : Hid (escB c = [43]) := hid (by unfold escB; rw [if_neg hp, if_pos h32])
          have t1 : ((c.toNat : Int) == 32) = true := by simp; omega
          go_wp2_with fail
          rw [HC.out]
          refine (has_any _ c _ (by decide)).mono ?_
          rintro e w1 ⟨rfl, rfl⟩
          rw [show decide (c ∈ (⟨#[65, 66, 67, 68, 69, 70, 71, 72, 73, 74, 75, 76, 77, 78, 79, 80, 81, 82, 83, 84, 85, 86, 87, 88, 89, 90, 97, 98, 99, 100, 101, 102, 103, 104, 105, 106, 107, 108, 109, 110, 111, 112, 113, 114, 115, 116, 117, 118, 119, 120, 121, 122, 48, 49, 50, 51, 52, 53, 54, 55, 56, 57, 42, 45, 46, 95]⟩ : ByteArray).data.toList) = false from HPT.out]
          rw [HC.out] at *
          go_wp2_with (at_builtin; refine wpList_append_b byteT rfl (.tmp 35) (.tmp 36) rfl w.heap.size (escS (l.take k)) [43] (.slice av (escS (l.take k)).length cv) (.slice (some ⟨wr.heap.size, 0, none⟩) 1 1) rfl rfl (HO.out.alloc _) (OwnB.new wr wr.heap.size _ _ [43] 1 rfl rfl (Nat.le_refl _) (by decide)).reads (by simp; omega) (by simp; omega) ?_; intro v2 w2 ho hg _ _; have HO2 := hid ho; have HBL2 := hid ((HBW.out.alloc hsz _).trans (below_grown (HO.out.alloc _) hg (Nat.le_refl _) (by simp; omega))); obtain ⟨A2, C2, rfl⟩ := own_form2 ho; clear ho hg)
          exact ⟨⟨k + 1, A2, C2, by have := HLN.out; omega, by congr 1, by rw [HSN.out, HE.out, List.length_append]; rfl, by rw [HSN.out, HE.out]; have h9 := HO2.out; rw [List.length_append] at h9; exact h9, HBL2.out, HBL2.out.size⟩, by simp [intOf] <;> omega⟩
        · have HE : Hid (escB c = [37, hexU (c.toNat / 16), hexU (c.toNat % 16)]) := hid (by unfold escB; rw [if_neg hp, if_neg h32])
          have t1 : ((c.toNat : Int) == 32) = false := by simp; omega
          go_wp2_with fail
          rw [HC.out]
          refine (has_any _ c _ (by decide)).mono ?_
          rintro e w1 ⟨rfl, rfl⟩
          rw [show decide (c ∈ (⟨#[65, 66, 67, 68, 69, 70, 71, 72, 73, 74, 75, 76, 77, 78, 79, 80, 81, 82, 83, 84, 85, 86, 87, 88, 89, 90, 97, 98, 99, 100, 101, 102, 103, 104, 105, 106, 107, 108, 109, 110, 111, 112, 113, 114, 115, 116, 117, 118, 119, 120, 121, 122, 48, 49, 50, 51, 52, 53, 54, 55, 56, 57, 42, 45, 46, 95]⟩ : ByteArray).data.toList) = false from HPT.out]
          go_wp2_with fail
          obtain ⟨q, hq⟩ : ∃ q, c.toNat / 16 = q := ⟨_, rfl⟩
          obtain ⟨m, hm⟩ : ∃ m, c.toNat % 16 = m := ⟨_, rfl⟩
          rw [hq, hm] at HE
          have n0 : q < 16 := by omega
          have n1 : m < 16 := by omega
          have n2 : IntKind.u8.wrap ((c.toNat : Int) / 16) = (q : Int) := by simp [IntKind.wrap, IntKind.bits, IntKind.signed]; omega
          have n3 : IntKind.u8.wrap ((c.toNat : Int) % 16) = (m : Int) := by simp [IntKind.wrap, IntKind.bits, IntKind.signed]; omega
          have n4 : (q : Int) < 16 := by omega
          have n5 : (m : Int) < 16 := by omega
          have n6 : (c.toNat : Int) % 16 = (m : Int) := by omega
          have n7 : Int.tmod (c.toNat : Int) 16 = (m : Int) := by rw [Int.tmod_eq_emod_of_nonneg (by omega)]; omega
          have n8 : ∀ h, ((⟨#[48, 49, 50, 51, 52, 53, 54, 55, 56, 57, 65, 66, 67, 68, 69, 70]⟩ : ByteArray)[q]'h).toNat = (hexU q).toNat := fun h => by rw [hex_get]
          have n9 : ∀ h, ((⟨#[48, 49, 50, 51, 52, 53, 54, 55, 56, 57, 65, 66, 67, 68, 69, 70]⟩ : ByteArray)[m]'h).toNat = (hexU m).toNat := fun h => by rw [hex_get]
          clear hq hm
          have HOA : Hid (OwnB (wr.drew.alloc (.cells #[.int .u8 37, .int .u8 ((hexU q).toNat : Nat), .int .u8 ((hexU m).toNat : Nat)] 5)) w.heap.size 5 (.slice av (escS (l.take k)).length cv) (escS (l.take k))) := hid (OwnB.alloc (w := wr.drew) HO.out _)
          have HRA : Hid (ReadsB (wr.drew.alloc (.cells #[.int .u8 37, .int .u8 ((hexU q).toNat : Nat), .int .u8 ((hexU m).toNat : Nat)] 5)) (.slice (some ⟨wr.heap.size, 0, none⟩) 3 3) [37, hexU q, hexU m]) := hid (OwnB.new wr.drew wr.heap.size _ _ [37, hexU q, hexU m] 3 rfl rfl (Nat.le_refl _) (by decide)).reads
          have hl3 : (escS (l.take k)).length + [37, hexU q, hexU m].length ≤ 1099511627776 := by simp; omega
          have hb3 : w.heap.size ≤ (wr.drew.alloc (.cells #[.int .u8 37, .int .u8 ((hexU q).toNat : Nat), .int .u8 ((hexU m).toNat : Nat)] 5)).heap.size := by simp; omega
          go_region_law (refine step_append_b byteT rfl (.tmp 16) (.tmp 23) rfl w.heap.size (escS (l.take k)) [37, hexU q, hexU m] (.slice av (escS (l.take k)).length cv) (.slice (some ⟨wr.heap.size, 0, none⟩) 3 3) ?_ ?_ HOA.out HRA.out hl3 hb3 ?_; go_simp; go_simp; intro v2 w2 ho hg _ _; have HO2 := hid ho; have HBL2 := hid ((HBW.out.drew.alloc hsz _).trans (below_grown HOA.out hg (Nat.le_refl _) hb3)); obtain ⟨A2, C2, rfl⟩ := own_form2 ho; clear ho hg)
          all_goals
            go_wp2
            exact ⟨⟨k + 1, A2, C2, by have := HLN.out; omega, by congr 1, by rw [HSN.out, HE.out, List.length_append]; rfl, by rw [HSN.out, HE.out]; have h9 := HO2.out; rw [List.length_append] at h9; exact h9, HBL2.out, HBL2.out.size⟩, by simp [intOf] <;> omega⟩
    · obtain rfl : k = s.size := by omega
      have HK : Hid (l.take s.size = l) := hid (by rw [← HLN.out, List.take_length])
      have t0 : decide ((s.size : Int) < (s.size : Int)) = false := decide_eq_false (by omega)
      have hcv := fun (w' : World) (h : ReadsB w' (.slice av (escS (l.take s.size)).length cv) (escS (l.take s.size))) => run_string_of_reads (dst := 9) byteT Tryd.underlying9 h
      have hcv2 := hcv wr HO.out.reads
      rw [HK.out] at hcv2
      rw [HK.out]
      clear hcv
      go_wp2_with fail
      go_ret
      exact ⟨rfl, HBW.out⟩
end Go.Proofs.YtgdbjkkanjgbnaaDoor.Url

namespace Go.Proofs.YtgdbjkkanjgbnaaDoor.Url
open Go.RowKit Go.Proofs.YtgdbjkkanjgbnaaDoor
open Go.Proofs.YtgdbjkkanjgbnaaDoorW.PrintWords (Kd rdOf Ev Drawn0)
open Go.Proofs.YtgdbjkkanjgbnaaDoor.PUrlencParses
set_option linter.unusedVariables false
set_option linter.unusedSimpArgs false
theorem refget_any (w : World) (A : Option Addr) (c : Nat) (xs : List Par) (key : ByteArray) (hC : k45.C w A xs.length xs) (hc : xs.length ≤ c) (hn : xs.length ≤ 1048576) :
    Calls Tryd.prog 17 #[.slice A xs.length c, .string key] w (GetPost (getS xs key) w) := by
  obtain ⟨k, hk⟩ := (get_f xs key hn).rounds
  cases h : getS xs key with
  | some v =>
    rw [h] at hk
    exact (warrantref06_Get.calls k A c xs key _ _ w hC hc hk).mono (fun e w' hq => ⟨hq.1, hq.2.below⟩)
  | none =>
    rw [h] at hk
    exact (warrantref06_Get.calls k A c xs key _ _ w hC hc hk).mono (fun e w' hq => ⟨hq.1, hq.2.below⟩)
/-- How the loop stands. -/
def RPriRel (xs : List Par) (R : Option (List UInt8)) (w : World) (vs vi : Value) (wr : World) : Prop :=
  ∃ (i : Nat) (s : ByteArray), i ≤ xs.length ∧ vi = .int .i64 i ∧ vs = .string s ∧ printL (xs.drop i) (xs.take i) s.data.toList = R ∧ s.size ≤ i * 20000 ∧ Below w.heap.size w wr
def RPrintPost (r : List UInt8 × GErr) (w : World) (e : Ending) (w' : World) : Prop := e = .returned (.tuple #[strV r.1, .int .i64 r.2.num]) ∧ Below w.heap.size w w'
theorem RPrintPost.mk {r : List UInt8 × GErr} {s : ByteArray} {g : GErr} {n : Int} {w w' : World} (h : r = (s.data.toList, g)) (hn : g.num = n) (hb : Below w.heap.size w w') : RPrintPost r w (.returned (.tuple #[.string s, .int .i64 n])) w' := ⟨by rw [h, ← hn], hb⟩
set_option maxHeartbeats 8000000 in
set_option maxRecDepth 20000 in
theorem refprint_any (A : Option Addr) (c : Nat) (xs : List Par) (w : World) (hC : k45.C w A xs.length xs) (hc : xs.length ≤ c) (hn : xs.length ≤ 100) (hsz : ∀ x ∈ xs, x.f0.size ≤ 3000 ∧ x.f1.size ≤ 3000) : Calls Tryd.prog 15 #[.slice A xs.length c] w (RPrintPost (printS xs) w) := by
  have HC := hid hC
  have HSZ := hid hsz
  clear hC hsz
  by_cases hbig : 32 < xs.length
  · have HP : Hid (printS xs = ([], .no 1)) := hid (by unfold printS; rw [if_pos hbig])
    have t0 : decide ((32 : Int) < (xs.length : Int)) = true := decide_eq_true (by omega)
    go_enter Tryd.func15, Tryd.ntmps15
    go_wp2_with fail
    go_ret2
    exact RPrintPost.mk HP.out rfl (Below.refl _ _)
  · have t0 : decide ((32 : Int) < (xs.length : Int)) = false := decide_eq_false (by omega)
    obtain ⟨R, hR⟩ : ∃ R, printL xs [] [] = R := ⟨_, rfl⟩
    have HP : Hid (printS xs = finS R) := hid (by unfold printS; rw [if_neg hbig, hR])
    have HR := hid hR
    clear hR
    go_enter Tryd.func15, Tryd.ntmps15
    go_wp2_with fail
    go_loopw [4, 5] (fun vs vi wr => RPriRel xs R w vs vi wr) (fun _ vi _ => xs.length - (intOf vi).toNat)
    case atStart => exact ⟨0, ⟨#[]⟩, Nat.zero_le _, rfl, rfl, by rw [List.drop_zero, List.take_zero]; exact HR.out, Nat.le_refl _, Below.refl _ _⟩
    case round =>
      obtain ⟨i, s, hi, rfl, rfl, hpl, hol, hbw⟩ := hrel
      have HBW := hid hbw
      have HPL := hid hpl
      by_cases hlt : i < xs.length
      · have t1 : decide ((i : Int) < (xs.length : Int)) = true := decide_eq_true (by omega)
        obtain ⟨x, hx⟩ : ∃ x, xs[i]? = some x := ⟨xs[i]'hlt, by simp⟩
        obtain ⟨hx0, hx1⟩ := HSZ.out x (List.mem_of_getElem? hx)
        have hdr : xs.drop i = x :: xs.drop (i + 1) := by
          rw [List.drop_eq_getElem_cons hlt]
          rw [List.getElem?_eq_getElem hlt] at hx
          rw [Option.some.inj hx]
        have htk : xs.take i ++ [x] = xs.take (i + 1) := by
          rw [List.take_succ_eq_append_getElem hlt]
          rw [List.getElem?_eq_getElem hlt] at hx
          rw [Option.some.inj hx]
        rw [hdr] at hpl
        have HPX := hid hpl
        have HTK := hid htk
        have hC2 := Kd.C_below HC.out hbw
        have p0 : (0 : Int) ≤ (i : Int) := by omega
        have p1 : (i : Int) < (xs.length : Int) := by omega
        have p2 : (i : Int) ≤ (c : Int) := by omega
        obtain ⟨ad, rfl, e0, e1⟩ := at_T45 hC2 (i : Int) (by omega) (by omega)
        simp only [Int.toNat_natCast] at e0 e1
        have hrd : rd_T45 xs (i : Int) = x := by unfold rd_T45; rw [Int.toNat_natCast, List.getD_eq_getElem?_getD, hx]; rfl
        rw [hrd] at e0 e1
        have hC3 := hid (c_take hC2 i (by omega))
        have HSA : Hid (∀ y, Below wr.heap.size wr y → y.cell? (ad.add (i * 2)) = some (.string x.f0) ∧ y.cell? ⟨(ad.add (i * 2)).block, (ad.add (i * 2)).off + 1, none⟩ = some (.string x.f1)) := hid (fun y hy =>
          ⟨(hy.cell (lt_of_cell e0)).trans e0, (hy.cell (p := ⟨(ad.add (i * 2)).block, (ad.add (i * 2)).off + 1, none⟩) (lt_of_cell e1)).trans e1⟩)
        have hti : (xs.take i).length = i := by rw [List.length_take]; omega
        have HGT : Hid (∀ y, Below wr.heap.size wr y → Calls Tryd.prog 17 #[.slice (some ad) i c, .string x.f0] y (GetPost (getS (xs.take i) x.f0) y)) := hid (fun y hy => by
          have h9 := refget_any y (some ad) c (xs.take i) x.f0 (Kd.C_below hC3.out hy) (by omega) (by omega)
          rw [hti] at h9
          exact h9)
        have hsa : w.heap.size ≤ wr.heap.size := HBW.out.size
        have HTI := hid hti
        clear hC2 hrd hx hdr hpl htk hbw e0 e1 hti
        obtain ⟨o, ho⟩ : ∃ o, getS (xs.take i) x.f0 = o := ⟨_, rfl⟩
        rw [ho] at HGT
        have HO := hid ho
        clear ho hC3
        obtain ⟨v0, b0, hv⟩ : ∃ v0 b0, getV o = .tuple #[.string v0, .bool b0] ∧ (b0 = o.isSome) := by
          cases o with
          | none => exact ⟨_, _, rfl, rfl⟩
          | some v => exact ⟨_, _, rfl, rfl⟩
        have HV := hid hv.1
        have HV2 := hid hv.2
        clear hv
        go_wp2_with fail
        go_region_held3 (fun y => y.cell? (ad.add (i * 2)) = some (.string x.f0) ∧ y.cell? ⟨(ad.add (i * 2)).block, (ad.add (i * 2)).off + 1, none⟩ = some (.string x.f1))
          (first | exact HSA.out _ HB2.out | exact HSA.out _ ((Below.refl _ wr).drew))
          ((go_at_call 17; refine (HGT.out _ ((Below.refl _ wr).drew)).mono ?_; rintro e y ⟨he, hb2⟩; rw [HV.out] at he; subst he; have HB2 := hid ((Below.refl wr.heap.size wr).drew.trans hb2); clear hb2))
        have BADR : Hid (badP (xs.take i) x → printS xs = ([], .no 1)) := hid (fun h => by
          rw [HP.out, ← HPX.out, printL_bad h]; rfl)
        have hy1 := below_then HBW.out HB2.out
        have HY1 := hid hy1
        obtain ⟨c0, c1⟩ := HSA.out y HB2.out
        clear hy1
        cases o with
        | some v =>
          have hb0 : b0 = true := HV2.out
          subst hb0
          have HR2 := hid (BADR.out (.inl (by rw [HO.out]; rfl)))
          go_wp2_with fail
          go_ret2
          exact RPrintPost.mk HR2.out rfl HY1.out
        | none =>
          have hb0 : b0 = false := HV2.out
          subst hb0
          by_cases hz : x.f0.size = 0
          · have hn0 : x.f0.toList = [] := str_empty x.f0 hz
            have HR2 := hid (BADR.out (.inr (.inl hz)))
            clear hz
            go_wp2_with fail
            go_ret2
            exact RPrintPost.mk HR2.out rfl HY1.out
          · have hn1 : 0 < x.f0.size := by omega
            have hn2 := str_ne_empty x.f0 hn1
            have hn3 := str_not_empty x.f0 hn1
            have hn4 : (x.f0.toList == ([] : List UInt8)) = false := by simpa using hn3
            have hn5 : x.f0.toList.isEmpty = false := by simpa using hn3
            obtain ⟨z0, hz0⟩ : ∃ z, badS x.f0.data.toList = z := ⟨_, rfl⟩
            obtain ⟨z1, hz1⟩ : ∃ z, badS x.f1.data.toList = z := ⟨_, rfl⟩
            have K0 : Hid (∀ y, Calls Tryd.prog 24 #[.string x.f0] y (NumPost z0 y)) := hid (fun y => by rw [← hz0]; exact bad_any x.f0 y (by omega))
            have K1 : Hid (∀ y, Calls Tryd.prog 24 #[.string x.f1] y (NumPost z1 y)) := hid (fun y => by rw [← hz1]; exact bad_any x.f1 y (by omega))
            have HZ0 := hid hz0
            have HZ1 := hid hz1
            clear hz0 hz1
            by_cases hb1 : 0 ≤ z0
            · have HR2 := hid (BADR.out (.inr (.inr (.inl (by rw [HZ0.out]; exact hb1)))))
              have t2 : decide ((0 : Int) ≤ z0) = true := decide_eq_true hb1
              go_wp2_with (go_at_call 24; refine (K0.out _).mono ?_; rintro e y2 ⟨rfl, hb4⟩; have HY2 := hid (below_then HY1.out hb4); clear hb4 c0 c1)
              go_ret2
              exact RPrintPost.mk HR2.out rfl HY2.out
            · have t2 : decide ((0 : Int) ≤ z0) = false := decide_eq_false hb1
              go_wp2_with fail
              refine (K0.out _).mono ?_
              rintro e y2 ⟨rfl, hb4⟩
              have HY2 := hid (below_then HY1.out hb4)
              have HB4 := hid (below_then HB2.out hb4)
              clear hb4 c0 c1
              obtain ⟨c0, c1⟩ := HSA.out y2 HB4.out
              by_cases hb2 : 0 ≤ z1
              · have HR2 := hid (BADR.out (.inr (.inr (.inr (by rw [HZ1.out]; exact hb2)))))
                have t3 : decide ((0 : Int) ≤ z1) = true := decide_eq_true hb2
                go_wp2_with (go_at_call 24; refine (K1.out _).mono ?_; rintro e y3 ⟨rfl, hb5⟩; have HY3 := hid (below_then HY2.out hb5); clear hb5 c0 c1)
                go_ret2
                exact RPrintPost.mk HR2.out rfl HY3.out
              · have t3 : decide ((0 : Int) ≤ z1) = false := decide_eq_false hb2
                have HGOOD : Hid (¬ badP (xs.take i) x) := hid (by
                  rintro (h9 | h9 | h9 | h9)
                  · rw [HO.out] at h9; cases h9
                  · exact hz h9
                  · rw [HZ0.out] at h9; omega
                  · rw [HZ1.out] at h9; omega)
                go_wp2_with fail
                refine (K1.out _).mono ?_
                rintro e y3 ⟨rfl, hb5⟩
                have HY3 := hid (below_then HY2.out hb5)
                have HB5 := hid (below_then HB4.out hb5)
                clear hb5 c0 c1 hn1 hn2 hn3 hn4 hn5 hb1 hb2
                obtain ⟨c0, c1⟩ := HSA.out y3 HB5.out
                obtain ⟨E0, hE0, hE0l⟩ : ∃ E : ByteArray, strV (escS x.f0.data.toList) = .string E ∧ E.data.toList = escS x.f0.data.toList := ⟨⟨(escS x.f0.data.toList).toArray⟩, rfl, by simp⟩
                obtain ⟨E1, hE1, hE1l⟩ : ∃ E : ByteArray, strV (escS x.f1.data.toList) = .string E ∧ E.data.toList = escS x.f1.data.toList := ⟨⟨(escS x.f1.data.toList).toArray⟩, rfl, by simp⟩
                have he0 : E0.size ≤ 9000 := by have h1 := str_len E0; have h2 := escS_le x.f0.data.toList; rw [str_len] at h2; rw [hE0l] at h1; omega
                have he1 : E1.size ≤ 9000 := by have h1 := str_len E1; have h2 := escS_le x.f1.data.toList; rw [str_len] at h2; rw [hE1l] at h1; omega
                have X0 := hid hE0
                have X1 := hid hE1
                have hx0' : x.f0.size ≤ 1048576 := by omega
                have hx1' : x.f1.size ≤ 1048576 := by omega
                by_cases hi0 : i = 0
                · have t5 : decide (0 < i) = false := decide_eq_false (by omega)
                  obtain ⟨S1, hS1, hS1l⟩ : ∃ S1 : ByteArray, S1 = s ∧ S1.data.toList = s.data.toList ++ sepS (xs.take i) := ⟨s, rfl, by unfold sepS; rw [HTI.out, if_pos hi0, List.append_nil]⟩
                  have hsz0 : S1.size = s.size := by rw [hS1]
                  have a0 := fun w' => run_string_add_sum (P := Tryd.prog) w' S1 E0 (by omega)
                  have hsz1 : (S1 ++ E0).size = S1.size + E0.size := by simp
                  obtain ⟨S2, hS2⟩ : ∃ S2, S1 ++ E0 = S2 := ⟨_, rfl⟩
                  rw [hS2] at a0 hsz1
                  have a1 := fun w' => run_string_add_sum (P := Tryd.prog) w' S2 ⟨#[61]⟩ (by show S2.size + 1 ≤ _; omega)
                  have hsz2 : (S2 ++ (⟨#[61]⟩ : ByteArray)).size = S2.size + 1 := by rw [ByteArray.size_append]; rfl
                  obtain ⟨S3, hS3⟩ : ∃ S3, S2 ++ (⟨#[61]⟩ : ByteArray) = S3 := ⟨_, rfl⟩
                  rw [hS3] at a1 hsz2
                  have a2 := fun w' => run_string_add_sum (P := Tryd.prog) w' S3 E1 (by omega)
                  have hsz3 : (S3 ++ E1).size = S3.size + E1.size := by simp
                  obtain ⟨S4, hS4⟩ : ∃ S4, S3 ++ E1 = S4 := ⟨_, rfl⟩
                  rw [hS4] at a2 hsz3
                  have hl4 : S4.data.toList = s.data.toList ++ sepS (xs.take i) ++ oneS x := by unfold oneS; rw [← hS4, ← hS3, ← hS2, ← hE0l, ← hE1l, ← hS1l]; simp
                  have HL4 := hid hl4
                  clear hE0 hE1 hS2 hS3 hS4 hE0l hE1l hS1l hl4 hi0
                  subst hS1
                  clear c0 c1
                  have T0 := HB5
                  go_wp2_with fail
                  go_region_held3 (fun y => y.cell? (ad.add (i * 2)) = some (.string x.f0) ∧ y.cell? ⟨(ad.add (i * 2)).block, (ad.add (i * 2)).off + 1, none⟩ = some (.string x.f1))
                    (first | exact HSA.out _ T2.out | exact HSA.out _ T1.out | exact HSA.out _ T0.out.drew)
                    (first
                      | (go_at_call 21; refine (refescape_any _ _ (by first | (exact hx0') | (exact hx1'))).mono ?_; rintro e y6 ⟨he, hq⟩; (first | (rw [X0.out] at he) | (rw [X1.out] at he)); subst he; have T2 := hid (below_then T1.out hq); clear hq)
                      | (go_at_call 21; refine (refescape_any _ _ (by first | (exact hx0') | (exact hx1'))).mono ?_; rintro e y5 ⟨he, hq⟩; (first | (rw [X0.out] at he) | (rw [X1.out] at he)); subst he; have T1 := hid (below_then T0.out.drew hq); clear hq))
                  all_goals go_wp2
                  refine ⟨⟨i + 1, S4, by omega, by congr 1, rfl, by rw [← HTK.out, HL4.out, ← printL_good HGOOD.out]; exact HPX.out, by omega, below_then HBW.out T2.out⟩, by simp [intOf] <;> omega⟩
                · have t5 : decide (0 < i) = true := decide_eq_true (by omega)
                  have a9 := fun w' => run_string_add_sum (P := Tryd.prog) w' s ⟨#[38]⟩ (by show s.size + 1 ≤ _; omega)
                  obtain ⟨S1, hS1, hS1l⟩ : ∃ S1 : ByteArray, S1 = s ++ (⟨#[38]⟩ : ByteArray) ∧ S1.data.toList = s.data.toList ++ sepS (xs.take i) := ⟨_, rfl, by unfold sepS; rw [HTI.out, if_neg hi0]; simp⟩
                  rw [← hS1] at a9
                  have hsz0 : S1.size = s.size + 1 := by rw [hS1, ByteArray.size_append]; rfl
                  have a0 := fun w' => run_string_add_sum (P := Tryd.prog) w' S1 E0 (by omega)
                  have hsz1 : (S1 ++ E0).size = S1.size + E0.size := by simp
                  obtain ⟨S2, hS2⟩ : ∃ S2, S1 ++ E0 = S2 := ⟨_, rfl⟩
                  rw [hS2] at a0 hsz1
                  have a1 := fun w' => run_string_add_sum (P := Tryd.prog) w' S2 ⟨#[61]⟩ (by show S2.size + 1 ≤ _; omega)
                  have hsz2 : (S2 ++ (⟨#[61]⟩ : ByteArray)).size = S2.size + 1 := by rw [ByteArray.size_append]; rfl
                  obtain ⟨S3, hS3⟩ : ∃ S3, S2 ++ (⟨#[61]⟩ : ByteArray) = S3 := ⟨_, rfl⟩
                  rw [hS3] at a1 hsz2
                  have a2 := fun w' => run_string_add_sum (P := Tryd.prog) w' S3 E1 (by omega)
                  have hsz3 : (S3 ++ E1).size = S3.size + E1.size := by simp
                  obtain ⟨S4, hS4⟩ : ∃ S4, S3 ++ E1 = S4 := ⟨_, rfl⟩
                  rw [hS4] at a2 hsz3
                  have hl4 : S4.data.toList = s.data.toList ++ sepS (xs.take i) ++ oneS x := by unfold oneS; rw [← hS4, ← hS3, ← hS2, ← hE0l, ← hE1l, ← hS1l]; simp
                  have HL4 := hid hl4
                  clear hE0 hE1 hS2 hS3 hS4 hE0l hE1l hS1l hl4 hi0
                  clear hS1
                  clear c0 c1
                  have T0 := HB5
                  go_wp2_with fail
                  go_region_held3 (fun y => y.cell? (ad.add (i * 2)) = some (.string x.f0) ∧ y.cell? ⟨(ad.add (i * 2)).block, (ad.add (i * 2)).off + 1, none⟩ = some (.string x.f1))
                    (first | exact HSA.out _ T2.out | exact HSA.out _ T1.out | exact HSA.out _ T0.out.drew)
                    (first
                      | (go_at_call 21; refine (refescape_any _ _ (by first | (exact hx0') | (exact hx1'))).mono ?_; rintro e y6 ⟨he, hq⟩; (first | (rw [X0.out] at he) | (rw [X1.out] at he)); subst he; have T2 := hid (below_then T1.out hq); clear hq)
                      | (go_at_call 21; refine (refescape_any _ _ (by first | (exact hx0') | (exact hx1'))).mono ?_; rintro e y5 ⟨he, hq⟩; (first | (rw [X0.out] at he) | (rw [X1.out] at he)); subst he; have T1 := hid (below_then T0.out.drew hq); clear hq))
                  all_goals go_wp2
                  refine ⟨⟨i + 1, S4, by omega, by congr 1, rfl, by rw [← HTK.out, HL4.out, ← printL_good HGOOD.out]; exact HPX.out, by omega, below_then HBW.out T2.out⟩, by simp [intOf] <;> omega⟩
      · have hieq : i = xs.length := by omega
        subst hieq
        have t1 : decide ((xs.length : Int) < (xs.length : Int)) = false := decide_eq_false (by omega)
        rw [List.drop_length] at hpl
        have hR2 : R = some s.data.toList := hpl.symm
        have hln := str_len s
        clear hbw
        by_cases hlong : 4096 < s.size
        · have HR3 : Hid (printS xs = ([], .no 2)) := hid (by rw [HP.out, hR2]; show (if 4096 < s.data.toList.length then (([], GErr.no 2) : List UInt8 × GErr) else (s.data.toList, .nil)) = _; rw [if_pos (by omega)])
          have t5 : decide ((4096 : Int) < (s.size : Int)) = true := decide_eq_true (by omega)
          clear hR2 hpl hln
          go_wp2_with fail
          go_ret2
          exact RPrintPost.mk HR3.out rfl HBW.out
        · have HR3 : Hid (printS xs = (s.data.toList, .nil)) := hid (by rw [HP.out, hR2]; show (if 4096 < s.data.toList.length then (([], GErr.no 2) : List UInt8 × GErr) else (s.data.toList, .nil)) = _; rw [if_neg (by omega)])
          have t5 : decide ((4096 : Int) < (s.size : Int)) = false := decide_eq_false (by omega)
          clear hR2 hpl hln
          go_wp2_with fail
          go_ret2
          exact RPrintPost.mk HR3.out rfl HBW.out
end Go.Proofs.YtgdbjkkanjgbnaaDoor.Url

namespace Go.Proofs.YtgdbjkkanjgbnaaDoor.Url
open Go.RowKit Go.Proofs.YtgdbjkkanjgbnaaDoor
open Go.Proofs.YtgdbjkkanjgbnaaDoorW.PrintWords (Kd rdOf Ev Drawn0)
open Go.Proofs.YtgdbjkkanjgbnaaDoor.PUrlencParses
set_option linter.unusedVariables false
set_option linter.unusedSimpArgs false
set_option maxHeartbeats 4000000 in
set_option maxRecDepth 20000 in
theorem prints_walk (lv : Value) (xs : List Par) (s : ByteArray) (w : World) (hl : ParsIn w lv xs) (hs : s.size ≤ maxLen) (hg : ErrorType w) (hL : LeastAt w) : Calls Tryd.prog 4 #[lv, .string s] w (TruePost w) := by
  obtain ⟨A, c, rfl, hc, hC⟩ := hl
  have HG := hid hg
  have HL := hid hL
  have hgl := hg.lt
  have hll := LeastAt.lt hL
  have HC := hid hC
  have HA := hid (alive_any w hg hL)
  clear hg hL hC
  go_enter Tryd.func4, Tryd.ntmps4
  go_wp2_with (go_at_call 7; refine HA.out.mono ?_; rintro e w1 ⟨rfl, hb⟩; have HB1 := hid hb; clear hb)
  have HC1 := hid (Kd.C_below HC.out HB1.out)
  refine (great_any w1 A c xs HC1.out hc).mono ?_
  rintro e w2 ⟨b, rfl, hgr, hb2⟩
  have HB2 := hid (below_then HB1.out hb2)
  have HGR := hid hgr
  clear hgr hb2
  cases b with
  | true =>
    go_wp2_with fail
    go_ret
    exact TruePost.mk rfl HB2.out
  | false =>
    obtain ⟨hn, hsz⟩ := HGR.out rfl
    have HSZ := hid hsz
    obtain ⟨t, g, hp⟩ : ∃ t g, printS xs = (t, g) := ⟨_, _, rfl⟩
    obtain ⟨gn, hgn⟩ : ∃ n, g.num = n := ⟨_, rfl⟩
    obtain ⟨T, hT⟩ : ∃ T : ByteArray, strV t = .string T := ⟨_, rfl⟩
    obtain ⟨o, ho⟩ : ∃ o, getS xs s = o := ⟨_, rfl⟩
    obtain ⟨v0, b0, hv⟩ : ∃ v0 b0, getV o = .tuple #[.string v0, .bool b0] := by
      cases o with
      | none => exact ⟨_, _, rfl⟩
      | some v => exact ⟨_, _, rfl⟩
    have HP := hid hp
    have HN := hid hgn
    have HT := hid hT
    have HO := hid ho
    have HV := hid hv
    have q1 : (T.toList == T.toList) = true := by simp
    have q2 : (v0.toList == v0.toList) = true := by simp
    clear hsz hp hgn hT ho hv
    go_wp2_with fail
    refine (print_any A c xs w2 (Kd.C_below HC.out HB2.out) hc hn HSZ.out (HG.out.below HB2.out hgl) (LeastAt.below HL.out HB2.out hll)).mono ?_
    rw [HP.out]
    rintro e w3 ⟨er, he, he3, hb3⟩
    simp only [HT.out] at he
    subst he
    have HB3 := hid (below_then HB2.out hb3)
    have HE3 := hid he3
    clear hb3 he3
    go_wp2_with fail
    refine (refprint_any A c xs w3 (Kd.C_below HC.out HB3.out) hc hn HSZ.out).mono ?_
    rw [HP.out]
    rintro e w4 ⟨he, hb4⟩
    simp only [HT.out, HN.out] at he
    subst he
    have HB4 := hid (below_then HB3.out hb4)
    have HE4 := hid (HE3.out.below hb4)
    clear hb4
    go_wp2_with fail
    refine (get_any w4 A c xs s (Kd.C_below HC.out HB4.out) hc (by omega)).mono ?_
    rw [HO.out]
    rintro e w5 ⟨he, hb5⟩
    rw [HV.out] at he
    subst he
    have HB5 := hid (below_then HB4.out hb5)
    have HE5 := hid (HE4.out.below hb5)
    clear hb5
    go_wp2_with fail
    refine (refget_any w5 A c xs s (Kd.C_below HC.out HB5.out) hc (by omega)).mono ?_
    rw [HO.out]
    rintro e w6 ⟨he, hb6⟩
    rw [HV.out] at he
    subst he
    have HB6 := hid (below_then HB5.out hb6)
    have HE6 := hid (HE5.out.below hb6)
    clear hb6
    go_wp2_with fail
    refine (num_any g _ w6 (HG.out.below HB6.out hgl) HE6.out).mono ?_
    rintro e w7 ⟨he, hb7⟩
    rw [HN.out] at he
    subst he
    have HB7 := hid (below_then HB6.out hb7)
    clear hb7
    go_wp2_with fail
    go_ret
    exact TruePost.mk (by simp) HB7.out
end Go.Proofs.YtgdbjkkanjgbnaaDoor.Url

namespace Go.Proofs.YtgdbjkkanjgbnaaDoor
open Go.ChangeShapes Go.WideShapes Go.RowKit
set_option linter.unusedVariables false

theorem A.et : Tryd.prog.globalNamed "errors.errorType" = some 0 := by kernel_rfl
theorem A.rt : (Tryd.prog.cutTypes.find? (·.1 == "internal/reflectlite.rtype")).map (·.2) = some 98 := by kernel_rfl
theorem A.oneRow : ((List.range 151).filter fun t => Tryd.prog.rowNamed t [101, 114, 114, 111, 114]) = [25] := by kernel_rfl
theorem A.ntypes : Tryd.prog.types.size = 151 := by kernel_rfl

theorem A.gTab : Tryd.prog.globalNamed "warrant/utf.least" = some 1 := by kernel_rfl
theorem A.gTabType : (Tryd.prog.globals[1]?).map (·.type) = some 111 := by kernel_rfl
theorem A.cellsTab : Tryd.prog.cellsOf 111 = 5 := by kernel_rfl
theorem A.cellsInt : Tryd.prog.cellsOf 3 = 1 := by kernel_rfl
/-- What the row's list gives: both variables' cells. -/
theorem handle_of_laid {W : World} (l : List (String × DataW Unit)) (hl : l = [("unicode/utf8.acceptRanges", Rows.laid_unicode_utf8_acceptRanges), ("errors.errorType", Rows.laid_errors_errorType), ("warrant/utf.least", Rows.laid_warrant_utf_least), ("unicode/utf8.first", Rows.laid_unicode_utf8_first)]) (h : laidMetH Tryd.prog l W) : ErrorType W ∧ LeastAt W := by
  subst hl
  have h' : laidMet Tryd.prog [("unicode/utf8.acceptRanges", Rows.laid_unicode_utf8_acceptRanges), ("warrant/utf.least", Rows.laid_warrant_utf_least), ("unicode/utf8.first", Rows.laid_unicode_utf8_first)] W ∧ handlesMet Tryd.prog [("errors.errorType", Rows.laid_errors_errorType)] W := h
  constructor
  · obtain ⟨name, u, ty, e1, e2, e3, e4, e5⟩ := h'.2 _ (List.mem_singleton.2 rfl)
    have en : name = [101, 114, 114, 111, 114] := (Option.some.inj e1).symm
    subst en
    obtain rfl := Option.some.inj (A.rt.symm.trans e2)
    have hm : ty ∈ (List.range 151).filter fun t => Tryd.prog.rowNamed t [101, 114, 114, 111, 114] := List.mem_filter.2 ⟨List.mem_range.2 (by rw [← A.ntypes]; exact e3), e4⟩
    rw [A.oneRow] at hm
    obtain rfl := List.mem_singleton.1 hm
    have hh : typeHandle Tryd.prog 25 = .pointer (some ⟨5, 25, none⟩) := by kernel_rfl
    rw [hh] at e5
    simpa [ErrorType] using World.var?_cell A.et e5 0
  · have ht : Lib.TabIs Tryd.prog W "warrant/utf.least" .i64 [0, 0, 128, 2048, 65536] := Lib.tabIs_of_head (rest := [("unicode/utf8.first", Rows.laid_unicode_utf8_first)]) A.gTab A.gTabType Tryd.underlying111 Tryd.underlying3 A.cellsInt A.cellsTab (laidMet.tail h'.1)
    exact ⟨ht.cell A.gTab 2 (by decide), ht.cell A.gTab 3 (by decide), ht.cell A.gTab 4 (by decide)⟩

/-- A reading's cells. -/
def dCells : Nat → DataW Unit → List Value
  | 0, _ => []
  | f + 1, .agg l => l.flatMap (dCells f)
  | f + 1, .lit (.int k n) => [.int k n]
  | _, _ => []
/-- A world that meets the list: the settled one, the variables' cells laid. -/
noncomputable def laidWorld (os : Os) : World :=
  let w0 := World.holding Tryd.prog os ⟨#[], #[], []⟩
  { w0 with heap := (((w0.heap.modify 0 fun
      | .cells _ t frozen => .cells #[.iface 98 (.agg #[.pointer (some ⟨5, 25, none⟩)])] t frozen
      | o => o).modify 1 fun
      | .cells _ t frozen => .cells #[.int .i64 0, .int .i64 0, .int .i64 128, .int .i64 2048, .int .i64 65536] t frozen
      | o => o).modify 4 fun
      | .cells _ t frozen => .cells (dCells 4 Rows.laid_unicode_utf8_acceptRanges).toArray t frozen
      | o => o).modify 3 fun
      | .cells _ t frozen => .cells (dCells 4 Rows.laid_unicode_utf8_first).toArray t frozen
      | o => o }
end Go.Proofs.YtgdbjkkanjgbnaaDoor

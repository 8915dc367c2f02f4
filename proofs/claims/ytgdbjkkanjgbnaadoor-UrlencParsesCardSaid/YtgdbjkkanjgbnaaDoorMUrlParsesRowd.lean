/-
  UrlParse2, UrlBackQ, UrlAlive, UrlBackLaw, UrlRefUn, UrlRefBad, UrlDocP, UrlRefParse, UrlParsesLaw, UrlRowKit: this proof's parts in one text.
-/
import Derived.Test.YtgdbjkkanjgbnaaDoorMUrlParsesRowc
import Derived.Test.YtgdbjkkanjgbnaaDoorPUrlencParsesx7
import Derived.Test.YtgdbjkkanjgbnaaDoorPUrlencParsesx4
import Derived.Test.YtgdbjkkanjgbnaaDoorMUrlParsesRowa
import Derived.Test.YtgdbjkkanjgbnaaDoorPUrlencParsesx5
import Derived.Test.YtgdbjkkanjgbnaaDoorPUrlencParsesx3
import Derived.Test.YtgdbjkkanjgbnaaDoorMUrlParsesRowb
import Derived.Test.YtgdbjkkanjgbnaaDoorPUrlencParsesx6
import Derived.Lib.LaidTab
import Derived.Test.YtgdbjkkanjgbnaaDoorRows
import Derived.ProofKit
import Derived.OpenShut
import Derived.ChangeVars
import Derived.LaidLaws
import Derived.LaidHandle
import Derived.Stop.LaidErr
namespace Go.Proofs.YtgdbjkkanjgbnaaDoor.Url
open Go.RowKit Go.Proofs.YtgdbjkkanjgbnaaDoor
open Go.Proofs.YtgdbjkkanjgbnaaDoorW.PrintWords (Kd rdOf)
open Go.Proofs.YtgdbjkkanjgbnaaDoor.PUrlencParses
set_option linter.unusedVariables false
set_option linter.unusedSimpArgs false
theorem own_mono {w : World} {base base' : Nat} {v : Value} {xs : List Par} (h : OwnP w base v xs) (hb : base' ≤ base) : OwnP w base' v xs := by
  refine ⟨h.1, ?_⟩
  rcases h.2 with h2 | ⟨g, cap, cur, rfl, hg, r⟩
  · exact .inl h2
  · exact .inr ⟨g, cap, cur, rfl, Nat.le_trans hb hg, r⟩
set_option maxHeartbeats 8000000 in
set_option maxRecDepth 20000 in
theorem parse_any (s : ByteArray) (w : World) (hg : ErrorType w) (hL : LeastAt w) (hs : s.size ≤ 1048576) : Calls Tryd.prog 8 #[.string s] w (ParsePost (parseS s.data.toList) w) := by
  have HG := hid hg
  have HL := hid hL
  have hgl := hg.lt
  have hll := LeastAt.lt hL
  have hln := str_len s
  clear hg hL
  by_cases hbig : 4096 < s.size
  · have hP : parseS s.data.toList = ([], .no 2) := by unfold parseS; rw [if_pos (by omega)]
    have HP := hid hP
    have t0 : decide ((4096 : Int) < (s.size : Int)) = true := decide_eq_true (by omega)
    clear hP
    go_enter Tryd.func8, Tryd.ntmps8
    go_wp2_with fail
    go_ret2
    exact ParsePost.mk HP.out (own_none _ _) rfl (Below.refl _ _)
  · have t0 : decide ((4096 : Int) < (s.size : Int)) = false := decide_eq_false (by omega)
    obtain ⟨l, hl⟩ : ∃ l, s.data.toList = l := ⟨_, rfl⟩
    obtain ⟨R, hR⟩ : ∃ R, parseL (splitS 38 l) 0 [] = R := ⟨_, rfl⟩
    have hP : parseS s.data.toList = R := by unfold parseS; rw [hl, if_neg (by rw [← hl]; omega)]; exact hR
    rw [hP]
    have hsp := split_any s 38 w hs
    rw [hl] at hsp hln
    have HSP := hid hsp
    have HR := hid hR
    have HTT := hid (totL_split 38 l)
    clear hP hR hsp hl
    go_enter Tryd.func8, Tryd.ntmps8
    go_wp2_with fail
    refine HSP.out.mono ?_
    clear HSP
    rintro e w1 ⟨v, ps, rfl, hr, hm, hb⟩
    have HRC := hid hr
    obtain ⟨A, cap, hv, hpm, _⟩ := hr
    rw [List.length_map] at hv hpm
    subst hv
    have HM := hid hm
    have hpl9 : ps.length ≤ 5000 := by
      have h1 := congrArg List.length hm
      rw [List.length_map, splitS_len] at h1
      have h2 : l.count 38 ≤ l.length := List.count_le_length
      omega
    have HB1 := hid hb
    clear hb hm
    go_wp2_with fail
    go_loopw [4, 5, 20] (fun vl vd vi wr => ParRel ps R l.length w1 vl vd vi wr) (fun _ _ vi _ => ps.length - (intOf vi).toNat)
    case atStart => exact ⟨0, 0, [], Nat.zero_le _, rfl, rfl, by rw [List.drop_zero, HM.out]; exact HR.out, by rw [List.drop_zero, HM.out, HTT.out]; omega, by simp, own_none _ _, Below.refl _ _, Nat.le_refl _⟩
    case round =>
      obtain ⟨i, d, acc, hi, rfl, rfl, hpl, htt, hac, hown, hbw, hsz⟩ := hrel
      have HB := hid hbw
      have HO := hid hown
      obtain ⟨Aa, ca, rfl, hca⟩ := hown.form
      have HKC := hid hown.reads
      by_cases hlt : i < ps.length
      · have t1 : decide ((i : Int) < (ps.length : Int)) = true := decide_eq_true (by omega)
        obtain ⟨p, hp⟩ : ∃ p, ps[i]? = some p := ⟨ps[i], by simp⟩
        have hdrop : (ps.map (fun p => p.data.toList)).drop i = p.data.toList :: (ps.map (fun p => p.data.toList)).drop (i + 1) := by
          rw [List.drop_eq_getElem_cons (by rw [List.length_map]; exact hlt), List.getElem_map]
          rw [List.getElem?_eq_getElem hlt] at hp
          rw [Option.some.inj hp]
        rw [hdrop] at hpl htt
        obtain ⟨pb, po, pc, epv, hpc⟩ : ∃ b o cap', Value.slice A ps.length cap = .slice (some ⟨b, o, none⟩) ps.length cap' ∧ w1.cell? ⟨b, o + i, none⟩ = some (.string p) := by
          obtain ⟨a', c', e', _, hc'⟩ := HRC.out
          rw [List.length_map] at e' hc'
          cases e'
          obtain ⟨b, o, rfl, hi'⟩ := hc' (by omega)
          exact ⟨b, o, cap, rfl, hi' i _ (by rw [List.getElem?_map, hp]; rfl)⟩
        cases epv
        have hcp : wr.cell? ⟨pb, po + i, none⟩ = some (.string p) := (hbw.cell (lt_of_cell hpc)).trans hpc
        have HPL := hid hpl
        have HTT2 := hid htt
        have hpn : d + p.data.toList.length + 1 ≤ l.length + 1 := by
          have : totL (p.data.toList :: (ps.map (fun p => p.data.toList)).drop (i + 1)) = p.data.toList.length + 1 + totL ((ps.map (fun p => p.data.toList)).drop (i + 1)) := by simp [totL]
          omega
        rw [str_len] at hpn
        have hpz : ¬ p.size = 0 → p.data.toList ≠ [] := fun h e => h (by rw [← str_len p, e]; rfl)
        have q0 : (0 : Int) ≤ (i : Int) := by omega
        have q1 : (i : Int) < (ps.length : Int) := by omega
        have HD := hid hdrop
        have x0 : IntKind.i64.wrap ((p.size : Int) + 1) = (p.size : Int) + 1 := by rw [IntKind.wrap_i64]; omega
        have x1 : IntKind.i64.wrap ((d : Int) + ((p.size : Int) + 1)) = (d : Int) + ((p.size : Int) + 1) := by rw [IntKind.wrap_i64]; omega
        clear hpl htt hdrop hp hpc hbw hown
        by_cases hz : p.size = 0
        · have hp0 : p.toList = [] := str_empty p hz
          have hpl2 : parseL ((ps.map (fun p => p.data.toList)).drop (i + 1)) (d + 1) acc = R := by
            have h9 := HPL.out
            rw [parseL, if_pos (by rw [← str_toList]; exact hp0)] at h9
            exact h9
          have htt2 : (d + 1) + totL ((ps.map (fun p => p.data.toList)).drop (i + 1)) = l.length + 1 := by
            have h9 := HTT2.out
            have : totL (p.data.toList :: (ps.map (fun p => p.data.toList)).drop (i + 1)) = p.data.toList.length + 1 + totL ((ps.map (fun p => p.data.toList)).drop (i + 1)) := by simp [totL]
            rw [this, str_len] at h9
            omega
          have H1 := hid hpl2
          have H2 := hid htt2
          have hd9 : ((d : Int) + ((p.size : Int) + 1)) = ((d + 1 : Nat) : Int) := by omega
          have HD9 := hid hd9
          clear hpl2 htt2 hz hd9 hpz
          go_wp2_with fail
          refine ⟨⟨i + 1, d + 1, acc, by omega, by congr 1, by rw [HD9.out], H1.out, H2.out, hac, HO.out, HB.out, hsz⟩, by simp [intOf] <;> omega⟩
        · have hp1 : 0 < p.size := by omega
          have hn2 := str_ne_empty p hp1
          have hn3 := str_not_empty p hp1
          have hn4 : (p.toList == ([] : List UInt8)) = false := by simpa using hn3
          have hn5 : p.toList.isEmpty = false := by simpa using hn3
          have hbw2 : Below w.heap.size w wr := HB1.out.trans (HB.out.mono HB1.out.size)
          have HPT := hid (part_any p d wr (HG.out.below hbw2 hgl) (LeastAt.below HL.out hbw2 hll) (by omega) (by omega))
          have HBW := hid hbw2
          have hpl2 := HPL.out
          rw [parseL, if_neg (hpz hz)] at hpl2
          have hd9 : ((d : Int) + ((p.size : Int) + 1)) = ((d + p.data.toList.length + 1 : Nat) : Int) := by rw [str_len]; omega
          have HD9 := hid hd9
          have htt2 : (d + p.data.toList.length + 1) + totL ((ps.map (fun p => p.data.toList)).drop (i + 1)) = l.length + 1 := by
            have h9 := HTT2.out
            have : totL (p.data.toList :: (ps.map (fun p => p.data.toList)).drop (i + 1)) = p.data.toList.length + 1 + totL ((ps.map (fun p => p.data.toList)).drop (i + 1)) := by simp [totL]
            rw [this] at h9
            omega
          have H2 := hid htt2
          clear hbw2 hpz hd9 htt2
          cases hps : partS p.data.toList with
          | error q =>
            rw [hps] at hpl2
            have HR2 := hid hpl2
            have HPS := hid hps
            clear hpl2 hps
            go_wp2_with fail
            refine HPT.out.mono ?_
            clear HPT
            intro e w2 hq
            unfold PartPost at hq
            rw [HPS.out] at hq
            obtain ⟨v, rfl, he, hb2⟩ := hq
            have HE := hid he
            have HB2 := hid (below_then HBW.out hb2)
            obtain ⟨eb, eo, rfl, _, _⟩ := he
            clear hb2
            go_wp2_with fail
            go_ret2
            exact ParsePost.mk HR2.out.symm (own_none _ _) (HE.out.below ((Below.refl _ w2).alloc (Nat.le_refl _) _)) (HB2.out.alloc (by have := HB2.out.size; omega) _)
          | ok kv =>
            rw [hps] at hpl2
            have HPS := hid hps
            obtain ⟨x, hx⟩ : ∃ x, mkP kv = x := ⟨_, rfl⟩
            simp only [hx] at hpl2
            have hx0 : strV kv.1 = .string x.f0 := by rw [← hx]; rfl
            have hx1 : strV kv.2 = .string x.f1 := by rw [← hx]; rfl
            have HX0 := hid hx0
            have HX1 := hid hx1
            clear hps hx hx0 hx1
            go_wp2_with fail
            refine HPT.out.mono ?_
            clear HPT
            intro e w2 hq
            unfold PartPost at hq
            rw [HPS.out] at hq
            obtain ⟨rfl, hb2⟩ := hq
            rw [HX0.out, HX1.out]
            have hba : Below wr.heap.size wr (w2.alloc (.cells #[.string x.f0, .string x.f1] 45)) := hb2.alloc hb2.size _
            have HBA := hid (below_then HBW.out hba)
            have HOA := hid (HO.out.below hba)
            have HGT := hid (get_any (w2.alloc (.cells #[.string x.f0, .string x.f1] 45)) Aa ca acc x.f0 (Kd.C_below HKC.out hba) hca (by omega))
            have HH2 := hid (heap_alloc_new w2 (.cells #[.string x.f0, .string x.f1] 45))
            have HB1A := hid (HB.out.trans (hba.mono hsz))
            have hs2 := hb2.size
            clear hb2 hba
            cases hgt : getS acc x.f0 with
            | some v =>
              rw [hgt] at HGT hpl2
              have HR2 : Hid ((([], .at_ d 52) : List Par × GErr) = R) := hid (by simpa using hpl2)
              clear hpl2 hgt
              go_wp2_with fail
              refine HGT.out.mono ?_
              clear HGT
              rintro e w3 ⟨he, hb3⟩
              obtain rfl : e = .returned (.tuple #[.string v, .bool true]) := he
              have HB3 := hid (below_then HBA.out hb3)
              clear hb3
              go_wp2_with fail
              go_ret2
              exact ParsePost.mk HR2.out.symm (own_none _ _) ⟨w3.heap.size, 0, rfl, by simp, by simp⟩ (HB3.out.alloc (by have := HB3.out.size; omega) _)
            | none =>
              rw [hgt] at HGT hpl2
              by_cases h32 : acc.length = 32
              · have HR2 : Hid ((([], .no 53) : List Par × GErr) = R) := hid (by simpa [h32] using hpl2)
                have t3 : ((acc.length : Int) == 32) = true := by rw [h32]; rfl
                clear hpl2 hgt h32
                go_wp2_with fail
                refine HGT.out.mono ?_
                clear HGT
                rintro e w3 ⟨he, hb3⟩
                obtain rfl : e = .returned (.tuple #[.string ⟨#[]⟩, .bool false]) := he
                have HB3 := hid (below_then HBA.out hb3)
                clear hb3
                go_wp2_with fail
                go_ret2
                exact ParsePost.mk HR2.out.symm (own_none _ _) rfl HB3.out
              · have HR2 : Hid (parseL ((ps.map (fun p => p.data.toList)).drop (i + 1)) (d + p.data.toList.length + 1) (acc ++ [x]) = R) := hid (by simpa [h32] using hpl2)
                have t3 : ((acc.length : Int) == 32) = false := by simp; omega
                clear hpl2 hgt
                go_wp2_with fail
                refine HGT.out.mono ?_
                clear HGT
                rintro e w3 ⟨he, hb3⟩
                obtain rfl : e = .returned (.tuple #[.string ⟨#[]⟩, .bool false]) := he
                have HB3 := hid (below_then HBA.out hb3)
                have HB13 := hid (below_then HB1A.out hb3)
                have HO3 := hid (HOA.out.below hb3)
                have hh3 := (hb3.block w2.heap.size (by simp)).trans HH2.out
                have HH3 := hid hh3
                have c0 : w3.cell? ⟨w2.heap.size, 0, none⟩ = some (.string x.f0) := by simp [World.cell?, hh3]
                have c1 : w3.cell? ⟨w2.heap.size, 1, none⟩ = some (.string x.f1) := by simp [World.cell?, hh3]
                obtain ⟨bo, hbo⟩ : ∃ bo, (Value.slice Aa acc.length ca).ownBlock = bo := ⟨_, rfl⟩
                have HBO := hid hbo
                have hs3 := HB13.out.size
                clear hb3 hh3 hbo
                go_wp2_with (at_builtin; refine wpList_append_p rfl (.tmp 58) (.tmp 60) rfl w1.heap.size acc x (.slice Aa acc.length ca) w3.heap.size rfl rfl (HO3.out.below ((Below.refl _ w3).alloc (Nat.le_refl _) _)) (by simp) (by simp) (by omega) (by simp; omega) ?_; intro v' w4 ho hg hb; have HO4 := hid ho; have HG4 := hid hg; obtain ⟨A4, c4, rfl, _⟩ := ho.form; clear ho hg hb)
                have hbl : Below w1.heap.size w1 w4 := (HB13.out.alloc hs3 _).trans (grown_low (HO3.out.below ((Below.refl _ w3).alloc (Nat.le_refl _) _)) HG4.out (Nat.le_refl _) (by simp; omega))
                refine ⟨⟨i + 1, d + p.data.toList.length + 1, acc ++ [x], by omega, by congr 1, by rw [HD9.out], HR2.out, H2.out, by simp; omega, (by have h9 := HO4.out; rw [List.length_append] at h9; exact h9), hbl, hbl.size⟩, by simp [intOf] <;> omega⟩
      · obtain rfl : i = ps.length := by omega
        have t1 : decide ((ps.length : Int) < (ps.length : Int)) = false := decide_eq_false (by omega)
        have hR : R = (acc, .nil) := by
          rw [← hpl, List.drop_of_length_le (by rw [List.length_map]; omega)]
          rfl
        have HR2 := hid hR
        clear hpl htt hR hown hbw
        go_wp2_with fail
        go_ret2
        exact ParsePost.mk HR2.out (own_mono HO.out HB1.out.size) rfl (HB1.out.trans (HB.out.mono HB1.out.size))
end Go.Proofs.YtgdbjkkanjgbnaaDoor.Url

namespace Go.Proofs.YtgdbjkkanjgbnaaDoor.Url
open Go.RowKit Go.Proofs.YtgdbjkkanjgbnaaDoor
open Go.Proofs.YtgdbjkkanjgbnaaDoor.PUrlencParses
set_option linter.unusedVariables false
set_option linter.unusedSimpArgs false
end Go.Proofs.YtgdbjkkanjgbnaaDoor.Url

namespace Go.Proofs.YtgdbjkkanjgbnaaDoor.Url
open Go.RowKit Go.Proofs.YtgdbjkkanjgbnaaDoor
open Go.Proofs.YtgdbjkkanjgbnaaDoorW.PrintWords (Kd rdOf)
open Go.Proofs.YtgdbjkkanjgbnaaDoor.PUrlencParses
set_option linter.unusedVariables false
set_option linter.unusedSimpArgs false
theorem bad_step {l : List UInt8} {v n : Int} (h : l ≠ []) (hn : nextS l = (v, n)) (hv : ¬ v < 0) (hr : badS (l.drop n.toNat) < 0) : badS l < 0 := by
  rw [badS, dif_neg h, hn]
  simp only
  rw [if_neg hv]
  try simp only
  rw [if_pos hr]
  omega
theorem bad_nil : badS [] < 0 := by rw [badS_nil]; omega
theorem bad_a : badS [97] < 0 := bad_step (v := 97) (n := 1) (by simp) (by decide +kernel) (by omega) bad_nil
theorem bad_b : badS [98] < 0 := bad_step (v := 98) (n := 1) (by simp) (by decide +kernel) (by omega) bad_nil
theorem bad_c : badS [99] < 0 := bad_step (v := 99) (n := 1) (by simp) (by decide +kernel) (by omega) bad_nil
theorem bad_x : badS [120] < 0 := bad_step (v := 120) (n := 1) (by simp) (by decide +kernel) (by omega) bad_nil
theorem bad_e : badS [195, 169] < 0 := bad_step (v := 233) (n := 2) (by simp) (by decide +kernel) (by omega) bad_nil
theorem bad_12 : badS [49, 32, 50] < 0 := bad_step (v := 49) (n := 1) (by simp) (by decide +kernel) (by omega) (bad_step (v := 32) (n := 1) (by simp) (by decide +kernel) (by omega) (bad_step (v := 50) (n := 1) (by simp) (by decide +kernel) (by omega) bad_nil))
theorem bad_ab : badS [97, 32, 98, 38] < 0 := bad_step (v := 97) (n := 1) (by simp) (by decide +kernel) (by omega) (bad_step (v := 32) (n := 1) (by simp) (by decide +kernel) (by omega) (bad_step (v := 98) (n := 1) (by simp) (by decide +kernel) (by omega) (bad_step (v := 38) (n := 1) (by simp) (by decide +kernel) (by omega) bad_nil)))
theorem part_ok {l n v : List UInt8} (h1 : unS (cutA l) = (n, -1)) (h2 : unS (cutB l) = (v, -1)) (h3 : n ≠ []) (h4 : badS n < 0) (h5 : badS v < 0) : partS l = .ok (n, v) := by
  unfold partS
  rw [h1, h2]
  simp only
  rw [if_neg (by omega), if_neg (by omega), if_neg]
  rintro (h | h | h)
  · exact h3 h
  · omega
  · omega
theorem part1 : partS [97, 61, 49, 43, 50] = .ok ([97], [49, 32, 50]) := part_ok (by decide +kernel) (by decide +kernel) (by simp) bad_a bad_12
theorem part2 : partS [98, 61, 37, 67, 51, 37, 65, 57] = .ok ([98], [195, 169]) := part_ok (by decide +kernel) (by decide +kernel) (by simp) bad_b bad_e
theorem part3 : partS [99] = .ok ([99], []) := part_ok (by decide +kernel) (by decide +kernel) (by simp) bad_c bad_nil
theorem part4 : partS [97, 61, 37, 52] = .error 2 := by
  unfold partS
  rw [show unS (cutA [97, 61, 37, 52]) = ([97], -1) by decide +kernel, show unS (cutB [97, 61, 37, 52]) = ([], 0) by decide +kernel]
  rfl
def al1 : Par := ⟨⟨#[97]⟩, ⟨#[49, 32, 50]⟩⟩
def al2 : Par := ⟨⟨#[98]⟩, ⟨#[195, 169]⟩⟩
def al3 : Par := ⟨⟨#[99]⟩, ⟨#[]⟩⟩
theorem parse1 : parseS [97, 61, 49, 43, 50, 38, 98, 61, 37, 67, 51, 37, 65, 57, 38, 99] = ([al1, al2, al3], .nil) := by
  unfold parseS
  rw [if_neg (by simp), show splitS 38 [97, 61, 49, 43, 50, 38, 98, 61, 37, 67, 51, 37, 65, 57, 38, 99] = [[97, 61, 49, 43, 50], [98, 61, 37, 67, 51, 37, 65, 57], [99]] by decide +kernel]
  rw [parseL, if_neg (by simp), part1]
  show (if (getS [] al1.f0).isSome = true then _ else _) = _
  rw [if_neg (by simp [getS]), if_neg (by simp), parseL, if_neg (by simp), part2]
  show (if (getS [al1] al2.f0).isSome = true then _ else _) = _
  rw [if_neg (by simp [getS, al1, al2]), if_neg (by simp), parseL, if_neg (by simp), part3]
  show (if (getS [al1, al2] al3.f0).isSome = true then _ else _) = _
  rw [if_neg (by simp [getS, al1, al2, al3]), if_neg (by simp)]
  rfl
theorem parse2 : parseS [97, 61, 37, 52] = ([], .at_ 2 60) := by
  unfold parseS
  rw [if_neg (by simp), show splitS 38 [97, 61, 37, 52] = [[97, 61, 37, 52]] by decide +kernel]
  rw [parseL, if_neg (by simp), part4]
  rfl
def alx : Par := ⟨⟨#[120]⟩, ⟨#[97, 32, 98, 38]⟩⟩
theorem print1 : printS [alx] = ([120, 61, 97, 43, 98, 37, 50, 54], .nil) := by
  have h : ¬ badP [] alx := by
    rintro (h | h | h | h)
    · simp [getS] at h
    · exact absurd h (by decide)
    · have := bad_x; simp only [alx] at h; omega
    · have := bad_ab; simp only [alx] at h; omega
  unfold printS
  rw [if_neg (by simp), printL_good h]
  have e : ([] ++ sepS [] ++ oneS alx : List UInt8) = [120, 61, 97, 43, 98, 37, 50, 54] := by decide +kernel
  rw [e]
  rfl
theorem ownP_cells {w : World} {base : Nat} {v : Value} {xs : List Par} (h : OwnP w base v xs) (h0 : 0 < xs.length) : ∃ g c, v = .slice (some ⟨g, 0, none⟩) xs.length c ∧ ∀ j u, (xs.flatMap parC)[j]? = some u → w.cell? ⟨g, j, none⟩ = some u := by
  rcases h.2 with ⟨_, en⟩ | ⟨g, cap, cur, e, _, hh, hn, hm, hs, ht⟩
  · omega
  · refine ⟨g, cap, e, fun j u hu => ?_⟩
    have hj : j < xs.length * 2 := by have := (List.getElem?_eq_some_iff.1 hu).1; rw [parC_len] at this; exact this
    rw [← ht, List.getElem?_take, if_pos hj] at hu
    simp only [World.cell?, hh]
    simpa using hu
set_option maxHeartbeats 8000000 in
set_option maxRecDepth 20000 in
theorem alive_any (w : World) (hg : ErrorType w) (hL : LeastAt w) : Calls Tryd.prog 7 #[] w (TruePost w) := by
  have HG := hid hg
  have HL := hid hL
  have hgl := hg.lt
  have hll := LeastAt.lt hL
  have h1 := parse_any ⟨#[97, 61, 49, 43, 50, 38, 98, 61, 37, 67, 51, 37, 65, 57, 38, 99]⟩ w hg hL (by decide)
  rw [show (⟨#[97, 61, 49, 43, 50, 38, 98, 61, 37, 67, 51, 37, 65, 57, 38, 99]⟩ : ByteArray).data.toList = [97, 61, 49, 43, 50, 38, 98, 61, 37, 67, 51, 37, 65, 57, 38, 99] from rfl, parse1] at h1
  have H1 := hid h1
  clear h1 hg hL
  go_enter Tryd.func7, Tryd.ntmps7
  go_wp2_with fail
  refine H1.out.mono ?_
  clear H1
  rintro e w1 ⟨v1, er1, rfl, ho1, he1, hb1⟩
  obtain rfl : er1 = .nilIface := he1
  have HB1 := hid hb1
  have HO1 := hid ho1
  have h2 := parse_any ⟨#[97, 61, 37, 52]⟩ w1 (HG.out.below hb1 hgl) (LeastAt.below HL.out hb1 hll) (by decide)
  rw [show (⟨#[97, 61, 37, 52]⟩ : ByteArray).data.toList = [97, 61, 37, 52] from rfl, parse2] at h2
  have H2 := hid h2
  clear h2 hb1 ho1
  go_wp2_with fail
  refine H2.out.mono ?_
  clear H2
  rintro e w2 ⟨v2, er2, rfl, _, he2, hb2⟩
  have HE2 := hid he2
  have HB2 := hid (below_then HB1.out hb2)
  have HO2 := hid (HO1.out.below hb2)
  clear he2 hb2
  go_wp2_with fail
  have hb3 : Below w2.heap.size w2 (w2.alloc (.cells #[.string ⟨#[120]⟩, .string ⟨#[97, 32, 98, 38]⟩] 45)) := (Below.refl _ w2).alloc (Nat.le_refl _) _
  have hC3 : k45.C (w2.alloc (.cells #[.string ⟨#[120]⟩, .string ⟨#[97, 32, 98, 38]⟩] 45)) (some ⟨w2.heap.size, 0, none⟩) [alx].length [alx] := by
    refine ⟨rfl, by decide, fun _ => ⟨_, rfl, fun j p hj => ?_⟩⟩
    have hj0 : j = 0 := by have := (List.getElem?_eq_some_iff.1 hj).1; simpa using this
    subst hj0
    simp at hj
    subst hj
    refine ⟨[.string ⟨#[120]⟩, .string ⟨#[97, 32, 98, 38]⟩], rfl, k45_mk _ alx, fun q u hq => ?_⟩
    match q, hq with
    | 0, hq => cases hq; rw [Addr.add_lit]; simp
    | 1, hq => cases hq; rw [Addr.add_lit]; simp
  have hB3 := below_then HB2.out hb3
  have hp := print_any (some ⟨w2.heap.size, 0, none⟩) 1 [alx] _ hC3 (by decide) (by decide) (fun x hx => by
    obtain rfl : x = alx := by simpa using hx
    exact ⟨by decide, by decide⟩) (HG.out.below hB3 hgl) (LeastAt.below HL.out hB3 hll)
  rw [print1] at hp
  refine hp.mono ?_
  rintro e w3 ⟨er3, rfl, he3, hb4⟩
  obtain rfl : er3 = .nilIface := he3
  have hb5 := hb3.trans (hb4.mono hb3.size)
  have HB5 := hid (below_then HB2.out hb5)
  have HE3 := hid (HE2.out.below hb5)
  have ho3 := HO2.out.below hb5
  obtain ⟨g, c, rfl, hcell⟩ := ownP_cells ho3 (by decide)
  have x0 : w3.cell? ⟨g, 1, none⟩ = some (.string ⟨#[49, 32, 50]⟩) := hcell 1 _ rfl
  have x1 : w3.cell? ⟨g, 3, none⟩ = some (.string ⟨#[195, 169]⟩) := hcell 3 _ rfl
  have x2 : w3.cell? ⟨g, 4, none⟩ = some (.string ⟨#[99]⟩) := hcell 4 _ rfl
  have hstr : strV [120, 61, 97, 43, 98, 37, 50, 54] = .string ⟨#[120, 61, 97, 43, 98, 37, 50, 54]⟩ := rfl
  rw [hstr]
  clear hb3 hC3 hB3 hp hb4 hb5 ho3 hcell hstr
  go_wp2_with fail
  refine (num_any (.at_ 2 60) _ w3 (HG.out.below HB5.out hgl) HE3.out).mono ?_
  rintro e w4 ⟨rfl, hb6⟩
  have HB6 := hid (below_then HB5.out hb6)
  have HE4 := hid (HE3.out.below hb6)
  clear hb6 x0 x1 x2
  go_wp2_with fail
  refine (pos_any (.at_ 2 60) _ w4 (HG.out.below HB6.out hgl) HE4.out).mono ?_
  rintro e w5 ⟨rfl, hb7⟩
  have HB7 := hid (below_then HB6.out hb7)
  clear hb7
  go_wp2_with fail
  go_ret
  exact TruePost.mk (by simp) HB7.out
end Go.Proofs.YtgdbjkkanjgbnaaDoor.Url

namespace Go.Proofs.YtgdbjkkanjgbnaaDoor.Url
open Go.RowKit Go.Proofs.YtgdbjkkanjgbnaaDoor
open Go.Proofs.YtgdbjkkanjgbnaaDoorW.PrintWords (Kd rdOf Ev Drawn0)
open Go.Proofs.YtgdbjkkanjgbnaaDoor.PUrlencParses
set_option linter.unusedVariables false
set_option linter.unusedSimpArgs false
theorem wrap_in2 (n : Int) (h0 : -9223372036854775808 ≤ n) (h1 : n ≤ 9223372036854775807) : wrap64 n = n := by unfold wrap64; omega
theorem same_ev (xs : List Par) (hn : xs.length ≤ 1048576) (d : Nat) : ∀ i : Nat, xs.length - i = d → Ev (fun k => warrantref06_Same.l0 k xs xs (i : Int)) true := by
  induction d with
  | zero =>
    intro i hd
    refine Ev.step (f := fun _ => some true) (fun k => ?_) (Ev.now _)
    simp only [warrantref06_Same.l0]
    rw [if_neg (by omega)]
  | succ d ih =>
    intro i hd
    refine Ev.step (f := fun k => warrantref06_Same.l0 k xs xs ((i + 1 : Nat) : Int)) (fun k => ?_) (ih (i + 1) (by omega))
    simp only [warrantref06_Same.l0]
    rw [if_pos (by omega), if_pos (by omega), if_pos (by omega), if_neg (by simp), wrap_in2 _ (by omega) (by omega)]
    rfl
theorem same_any (w : World) (A A' : Option Addr) (c c' : Nat) (xs : List Par) (h : k45.C w A xs.length xs) (hc : xs.length ≤ c) (h' : k45.C w A' xs.length xs) (hc' : xs.length ≤ c') (hn : xs.length ≤ 1048576) : Calls Tryd.prog 12 #[.slice A xs.length c, .slice A' xs.length c'] w (fun e w' => e = .returned (.bool true) ∧ Drawn0 w w') := by
  obtain ⟨k, hk⟩ := (same_ev xs hn xs.length 0 (by omega)).rounds
  refine warrantref06_Same.calls k A c xs A' c' xs true w h hc h' hc' ?_
  unfold warrantref06_Same.f
  rw [if_pos rfl]
  exact hk
end Go.Proofs.YtgdbjkkanjgbnaaDoor.Url

namespace Go.Proofs.YtgdbjkkanjgbnaaDoor.Url
open Go.RowKit Go.Proofs.YtgdbjkkanjgbnaaDoor Go.Proofs.YtgdbjkkanjgbnaaDoor.PUrlencParses Go.Proofs.YtgdbjkkanjgbnaaDoorW.PrintWords Go.Proofs.YtgdbjkkanjgbnaaDoorW.PrintLast Go.Proofs.YtgdbjkkanjgbnaaDoorW.PrintMore
set_option linter.unusedVariables false
set_option linter.unusedSimpArgs false
theorem wrap_in (n : Int) (h0 : -9223372036854775808 ≤ n) (h1 : n ≤ 9223372036854775807) : wrap64 n = n := by unfold wrap64; omega
theorem bt_get (s : ByteArray) (i : Nat) (c : UInt8) (h : s.data.toList[i]? = some c) : bt s (i : Int) = (c.toNat : Nat) := by
  have hi : i < s.size := by rw [← str_len]; exact (List.getElem?_eq_some_iff.1 h).1
  unfold bt
  rw [Int.toNat_natCast, dif_pos hi, str_get s i hi, List.getD_eq_getElem?_getD, h]
  rfl
def digV (o : Option Nat) : Int := match o with | some n => n | none => -1
def lowN (n : Nat) : Int := if n < 10 then 48 + n else 87 + n
def upN (n : Nat) : Int := if n < 10 then 48 + n else 55 + n
theorem low_at : ∀ n : Fin 16, bt ⟨#[48, 49, 50, 51, 52, 53, 54, 55, 56, 57, 97, 98, 99, 100, 101, 102]⟩ (n.val : Int) = lowN n.val := by decide +kernel
theorem up_at : ∀ n : Fin 16, bt ⟨#[48, 49, 50, 51, 52, 53, 54, 55, 56, 57, 65, 66, 67, 68, 69, 70]⟩ (n.val : Int) = upN n.val := by decide +kernel
def dig256 (c : Nat) : Int := if 48 ≤ c ∧ c ≤ 57 then c - 48 else if 97 ≤ c ∧ c ≤ 102 then c - 87 else if 65 ≤ c ∧ c ≤ 70 then c - 55 else -1
theorem dig_eq (c : UInt8) : digV (nibB c) = dig256 c.toNat := by
  unfold nibB dig256 digV
  (repeat' split) <;> (simp_all <;> omega)
theorem dig_hit (c n : Nat) (hn : n < 16) : ((c : Int) = lowN n ∨ (c : Int) = upN n) ↔ dig256 c = n := by
  unfold lowN upN dig256
  by_cases h : n < 10
  · simp only [h, if_true]
    (repeat' split) <;> omega
  · simp only [h, if_false]
    (repeat' split) <;> omega
theorem dig_ge (c : Nat) : -1 ≤ dig256 c ∧ dig256 c < 16 := by
  unfold dig256
  (repeat' split) <;> omega
theorem digit_in (s : ByteArray) (i : Nat) (c : UInt8) (h : s.data.toList[i]? = some c) (d : Nat) : ∀ n : Nat, 16 - n = d → n ≤ 16 → (dig256 c.toNat = -1 ∨ (n : Int) ≤ dig256 c.toNat) → Ev (fun k => warrantref06_digit.l0 k s i n) (dig256 c.toNat) := by
  have hi : i < s.size := by rw [← str_len]; exact (List.getElem?_eq_some_iff.1 h).1
  have hg := dig_ge c.toNat
  induction d with
  | zero =>
    intro n h1 h2 h3
    obtain rfl : n = 16 := by omega
    refine Ev.step (f := fun k => warrantref06_digit.j1 k s i ((16 : Nat) : Int) false) (fun k => ?_) (Ev.step (f := fun _ => some (dig256 c.toNat)) (fun k => ?_) (Ev.now _))
    · simp only [warrantref06_digit.l0]
      rw [if_pos (by omega)]
      rfl
    · simp only [warrantref06_digit.j1]
      rw [if_neg (by simp), show dig256 c.toNat = -1 by omega]
  | succ d ih =>
    intro n h1 h2 h3
    have hl := low_at ⟨n, by omega⟩
    have hu := up_at ⟨n, by omega⟩
    have hh := dig_hit c.toNat n (by omega)
    have hb := bt_get s i c h
    simp only at hl hu
    by_cases e : dig256 c.toNat = n
    · refine Ev.step (f := fun k => warrantref06_digit.j1 k s i (n : Int) true) (fun k => ?_) (Ev.step (f := fun _ => some (dig256 c.toNat)) (fun k => ?_) (Ev.now _))
      · simp only [warrantref06_digit.l0]
        rw [if_pos (by omega), show decide ((n : Int) < 16) = true from decide_eq_true (by omega)]
      · simp only [warrantref06_digit.j1]
        rw [if_pos trivial, if_pos (by omega), if_pos (by omega), if_pos (by omega), if_pos (by omega), hb, hl, hu]
        rcases hh.2 e with e2 | e2
        · rw [if_pos e2, e]
        · by_cases e3 : ((c.toNat : Nat) : Int) = lowN n
          · rw [if_pos e3, e]
          · rw [if_neg e3, if_pos e2, e]
    · refine Ev.step (f := fun k => warrantref06_digit.j1 k s i (n : Int) true) (fun k => ?_) (Ev.step (f := fun k => warrantref06_digit.l0 k s i ((n + 1 : Nat) : Int)) (fun k => ?_) (ih (n + 1) (by omega) (by omega) (by omega)))
      · simp only [warrantref06_digit.l0]
        rw [if_pos (by omega), show decide ((n : Int) < 16) = true from decide_eq_true (by omega)]
      · simp only [warrantref06_digit.j1]
        rw [if_pos trivial, if_pos (by omega), if_pos (by omega), if_pos (by omega), if_pos (by omega), hb, hl, hu, if_neg (fun x => e (hh.1 (.inl x))), if_neg (fun x => e (hh.1 (.inr x))), wrap_in _ (by omega) (by omega)]
        rfl
theorem digit_f (s : ByteArray) (i : Nat) (hs : s.size ≤ 1048576) : Ev (fun k => warrantref06_digit.f k s i) (digV (nibAt s.data.toList i)) := by
  show Ev (fun k => warrantref06_digit.l0 k s i ((0 : Nat) : Int)) _
  unfold nibAt
  cases h : s.data.toList[i]? with
  | some c =>
    simp only
    rw [dig_eq]
    have := dig_ge c.toNat
    exact digit_in s i c h 16 0 (by omega) (by omega) (by omega)
  | none =>
    have hi : s.size ≤ i := by rw [← str_len]; exact List.getElem?_eq_none_iff.1 h
    refine Ev.step (f := fun k => warrantref06_digit.j1 k s i ((0 : Nat) : Int) false) (fun k => ?_) (Ev.step (f := fun _ => some (-1)) (fun k => ?_) (Ev.now _))
    · simp only [warrantref06_digit.l0]
      rw [if_neg (by omega)]
    · simp only [warrantref06_digit.j1]
      rw [if_neg (by simp)]
def numsU (l : List UInt8) : List Int := l.map fun b => (b.toNat : Int)
theorem un_ev (s : ByteArray) (hs : s.size ≤ 1048576) (d : Nat) : ∀ (i : Nat) (out : List UInt8), s.size - i = d → out.length ≤ i → Ev (fun k => warrantref06_Unescape.l0 k s (numsU out) i) (⟨(unF (s.size + 1) s.data.toList i out).1.toArray⟩, (unF (s.size + 1) s.data.toList i out).2) := by
  have hln := str_len s
  induction d using Nat.strongRecOn with
  | _ d ih =>
    intro i out hd ho
    by_cases hi : i < s.size
    · obtain ⟨c, hc⟩ : ∃ c, s.data.toList[i]? = some c := ⟨s.data.toList[i]'(by omega), by simp⟩
      have hb := bt_get s i c hc
      have hus := un_at hc
      have hlen : (numsU out).length < 140737488355328 := by unfold numsU; rw [List.length_map]; omega
      have hcl := c.toNat_lt
      have one : ∀ (b : UInt8), unStep s.data.toList i = some (b, 1) → Ev (fun k => warrantref06_Unescape.l0 k s (numsU out ++ [(b.toNat : Int)]) ((i + 1 : Nat) : Int)) (⟨(unF (s.size + 1) s.data.toList i out).1.toArray⟩, (unF (s.size + 1) s.data.toList i out).2) := fun b hb1 => by
        have h9 := ih (s.size - (i + 1)) (by omega) (i + 1) (out ++ [b]) rfl (by simp; omega)
        rw [unF_step (by omega) (by omega) hb1]
        have e : numsU (out ++ [b]) = numsU out ++ [(b.toNat : Int)] := by simp [numsU]
        rw [e] at h9
        exact h9
      by_cases h37 : c.toNat = 37
      · rw [if_pos h37] at hus
        have D1 := digit_f s (i + 1) hs
        have D2 := digit_f s (i + 2) hs
        refine Ev.step (f := fun k => (warrantref06_digit.f k s ((i + 1 : Nat) : Int)).bind fun t116 => ((warrantref06_digit.f k s ((i + 2 : Nat) : Int)).bind fun t117 => (if t116 < 0 then (some ((⟨#[]⟩ : ByteArray), (i : Int))) else (if t117 < 0 then (some ((⟨#[]⟩ : ByteArray), (i : Int))) else (if (numsU out).length < 140737488355328 then (warrantref06_Unescape.l0 k s (numsU out ++ [(wrap64 ((wrap64 (16 * t116)) + t117)) % 256]) (wrap64 ((wrap64 ((i : Int) + 2)) + 1))) else (none)))))) (fun k => ?_) (Ev.bind D1 (Ev.bind D2 ?_))
        · simp only [warrantref06_Unescape.l0]
          rw [if_pos (by omega), if_pos (by omega), hb, if_pos (by omega), wrap_in ((i : Int) + 1) (by omega) (by omega), wrap_in ((i : Int) + 2) (by omega) (by omega)]
          rfl
        · obtain ⟨x, hx⟩ : ∃ x, digV (nibAt s.data.toList (i + 1)) = x := ⟨_, rfl⟩
          obtain ⟨y, hy⟩ : ∃ y, digV (nibAt s.data.toList (i + 2)) = y := ⟨_, rfl⟩
          rw [hx, hy]
          cases e1 : nibAt s.data.toList (i + 1) with
          | none =>
            rw [e1] at hus hx
            have hx1 : x = -1 := hx.symm
            rw [unF_stop (by omega) (by omega) hus]
            show Ev _ ((⟨#[]⟩ : ByteArray), (i : Int))
            exact Ev.congr (f := fun _ => some ((⟨#[]⟩ : ByteArray), (i : Int))) (fun k => if_pos (by omega)) (Ev.now _)
          | some a =>
            rw [e1] at hx
            have hx1 : x = a := hx.symm
            cases e2 : nibAt s.data.toList (i + 2) with
            | none =>
              rw [e1, e2] at hus
              rw [e2] at hy
              have hy1 : y = -1 := hy.symm
              rw [unF_stop (by omega) (by omega) hus]
              show Ev _ ((⟨#[]⟩ : ByteArray), (i : Int))
              exact Ev.congr (f := fun _ => some ((⟨#[]⟩ : ByteArray), (i : Int))) (fun k => (if_neg (by omega)).trans (if_pos (by omega))) (Ev.now _)
            | some b =>
              rw [e1, e2] at hus
              rw [e2] at hy
              have hy1 : y = b := hy.symm
              have ha := (nibAt_lt e1).1
              have hb2 := nibAt_lt e2
              have h9 := ih (s.size - (i + 3)) (by omega) (i + 3) (out ++ [UInt8.ofNat (a * 16 + b)]) rfl (by simp; omega)
              rw [unF_step (by omega) (by omega) hus]
              have e : numsU (out ++ [UInt8.ofNat (a * 16 + b)]) = numsU out ++ [((a * 16 + b : Nat) : Int)] := by
                simp only [numsU, List.map_append, List.map_cons, List.map_nil]
                rw [UInt8.toNat_ofNat', Nat.mod_eq_of_lt (by omega)]
              rw [e] at h9
              refine Ev.congr (fun k => (if_neg (by omega)).trans ((if_neg (by omega)).trans ((if_pos hlen).trans ?_))) h9
              rw [wrap_in (16 * x) (by omega) (by omega), wrap_in (16 * x + y) (by omega) (by omega), wrap_in ((i : Int) + 2) (by omega) (by omega), wrap_in _ (by omega) (by omega), show (16 * x + y) % 256 = ((a * 16 + b : Nat) : Int) by omega]
              rfl
      · rw [if_neg h37] at hus
        by_cases h43 : c.toNat = 43
        · rw [if_pos h43] at hus
          refine Ev.step (fun k => ?_) (one 32 hus)
          simp only [warrantref06_Unescape.l0]
          rw [if_pos (by omega), if_pos (by omega), hb, if_neg (by omega), if_pos (by omega), if_pos hlen, wrap_in ((i : Int) + 1) (by omega) (by omega)]
          rfl
        · rw [if_neg h43] at hus
          refine Ev.step (fun k => ?_) (one c hus)
          simp only [warrantref06_Unescape.l0]
          rw [if_pos (by omega), if_pos (by omega), hb, if_neg (by omega), if_neg (by omega), if_pos hlen, wrap_in ((i : Int) + 1) (by omega) (by omega)]
          rfl
    · rw [unF_end _ _ _ _ (by omega)]
      refine Ev.step (f := fun _ => some (⟨out.toArray⟩, -1)) (fun k => ?_) (Ev.now _)
      simp only [warrantref06_Unescape.l0]
      rw [if_neg (by omega)]
      unfold numsU
      rw [str_of_nums]
theorem un_f (s : ByteArray) (hs : s.size ≤ 1048576) : Ev (fun k => warrantref06_Unescape.f k s) (⟨(unS s.data.toList).1.toArray⟩, (unS s.data.toList).2) := by
  have h := un_ev s hs s.size 0 [] (by omega) (by simp)
  unfold unS
  rw [str_len]
  exact h
end Go.Proofs.YtgdbjkkanjgbnaaDoor.Url

namespace Go.Proofs.YtgdbjkkanjgbnaaDoor.Url
open Go.RowKit Go.Proofs.YtgdbjkkanjgbnaaDoor Go.Proofs.YtgdbjkkanjgbnaaDoor.PUrlencParses Go.Proofs.YtgdbjkkanjgbnaaDoorW.PrintWords Go.Proofs.YtgdbjkkanjgbnaaDoorW.PrintLast Go.Proofs.YtgdbjkkanjgbnaaDoorW.PrintMore
set_option linter.unusedVariables false
set_option linter.unusedSimpArgs false
theorem by8_nat (m : Nat) (h : m < 256) : (((by8 m).toNat : Nat) : Int) = (m : Int) := by rw [by8_toNat m h]
theorem put_no (n : Int) (h : rightB n = false) : Ev (fun k => warrantref03_Put.j0 k n true) ⟨(putS n).toArray⟩ := by
  have : putS n = [] := by unfold putS; rw [if_neg (by rw [h]; simp)]
  rw [this]
  refine Ev.step (f := fun _ => some ⟨#[]⟩) (fun k => ?_) (Ev.now _)
  simp only [warrantref03_Put.j0]
  rw [if_pos trivial]
theorem put_yes (m : Nat) (h : rightB (m : Int) = true) : Ev (fun k => warrantref03_Put.j0 k (m : Int) false) ⟨(putS (m : Int)).toArray⟩ := by
  have hr := (rightB_iff (m : Int)).1 h
  have hp : putS (m : Int) = putN m := by unfold putS; rw [if_pos h, Int.toNat_natCast]
  rw [hp]
  refine Ev.step (f := fun _ => some ⟨(putN m).toArray⟩) (fun k => ?_) (Ev.now _)
  have d : ∀ x : Int, Int.tdiv (m : Int) x = (m : Int) / x := fun x => Int.tdiv_eq_ediv_of_nonneg (by omega)
  have d0 : ∀ x : Int, Int.tmod (m : Int) x = (m : Int) % x := fun x => Int.tmod_eq_emod_of_nonneg (by omega)
  have w1 : wrap64 ((m : Int) / 64) = (m : Int) / 64 := wrap_in _ (by omega) (by omega)
  have w2 : wrap64 ((m : Int) / 4096) = (m : Int) / 4096 := wrap_in _ (by omega) (by omega)
  have w3 : wrap64 ((m : Int) / 262144) = (m : Int) / 262144 := wrap_in _ (by omega) (by omega)
  have d1 : ∀ x : Int, Int.tmod ((m : Int) / 64) x = ((m : Int) / 64) % x := fun x => Int.tmod_eq_emod_of_nonneg (by omega)
  have d2 : ∀ x : Int, Int.tmod ((m : Int) / 4096) x = ((m : Int) / 4096) % x := fun x => Int.tmod_eq_emod_of_nonneg (by omega)
  simp only [warrantref03_Put.j0, d, d0, w1, w2, w3, d1, d2]
  rw [if_neg (by simp)]
  unfold putN
  by_cases h1 : m < 128
  · rw [if_pos (by omega), if_pos h1, ← str_of_nums]
    congr 2
  · rw [if_neg (by omega), if_neg h1]
    by_cases h2 : m < 2048
    · rw [if_pos (by omega), if_pos h2, ← str_of_nums]
      congr 2
      simp only [List.map_cons, List.map_nil]
      rw [by8_nat _ (by omega), by8_nat _ (by omega), wrap_in _ (by omega) (by omega), wrap_in _ (by omega) (by omega)]
      congr 1
      · omega
      · congr 1; omega
    · rw [if_neg (by omega), if_neg h2]
      by_cases h3 : m < 65536
      · rw [if_pos (by omega), if_pos h3, ← str_of_nums]
        congr 2
        simp only [List.map_cons, List.map_nil]
        rw [by8_nat _ (by omega), by8_nat _ (by omega), by8_nat _ (by omega), wrap_in _ (by omega) (by omega), wrap_in _ (by omega) (by omega), wrap_in _ (by omega) (by omega)]
        congr 1
        · omega
        · congr 1
          · omega
          · congr 1; omega
      · rw [if_neg (by omega), if_neg h3, ← str_of_nums]
        congr 2
        simp only [List.map_cons, List.map_nil]
        rw [by8_nat _ (by omega), by8_nat _ (by omega), by8_nat _ (by omega), by8_nat _ (by omega), wrap_in _ (by omega) (by omega), wrap_in _ (by omega) (by omega), wrap_in _ (by omega) (by omega), wrap_in _ (by omega) (by omega)]
        congr 1
        · omega
        · congr 1
          · omega
          · congr 1
            · omega
            · congr 1; omega
theorem put_ev (n : Int) : Ev (fun k => warrantref03_Put.f k n) ⟨(putS n).toArray⟩ := by
  cases hr : rightB n with
  | false =>
    have hn := (rightB_no n).1 hr
    refine Ev.congr (fun k => ?_) (put_no n hr)
    unfold warrantref03_Put.f
    by_cases h1 : n < 0
    · rw [if_pos h1]
    · rw [if_neg h1]
      by_cases h2 : n > 1114111
      · rw [if_pos h2]
      · rw [if_neg h2, if_pos (by omega), show decide (n ≤ 57343) = true from decide_eq_true (by omega)]
  | true =>
    have h := (rightB_iff n).1 hr
    obtain ⟨m, rfl⟩ := Int.eq_ofNat_of_zero_le h.1
    refine Ev.congr (fun k => ?_) (put_yes m hr)
    unfold warrantref03_Put.f
    rw [if_neg (by omega), if_neg (by omega)]
    by_cases h1 : (m : Int) ≥ 55296
    · rw [if_pos h1, show decide ((m : Int) ≤ 57343) = false from decide_eq_false (by omega)]
    · rw [if_neg h1]
theorem accB_lt3 (a : Nat) (l : List UInt8) (ha : a < 256) (hl : l.length ≤ 3) : accB a l < 67108864 := by
  have h := accB_lt0 l a
  have : 64 ^ l.length ≤ 64 ^ 3 := Nat.pow_le_pow_right (by omega) hl
  have h2 : (a + 1) * 64 ^ l.length ≤ 256 * 64 ^ 3 := Nat.mul_le_mul (by omega) this
  omega
theorem next_in (s : ByteArray) (k a : Nat) (r : Int × Int) (hk : k ≤ 4) (hs : k ≤ s.size) (ha : a < 256) (d : Nat) : ∀ i : Nat, k - i = d → 1 ≤ i → i ≤ k →
    Ev (fun j => warrantref03_Next.l1 j s k ((accB a ((s.data.toList.drop 1).take (k - 1)) : Nat)) k) r → Ev (fun j => warrantref03_Next.l1 j s k ((accB a ((s.data.toList.drop 1).take (i - 1)) : Nat)) i) r := by
  have hln := str_len s
  induction d with
  | zero => intro i h1 h2 h3 h; obtain rfl : i = k := by omega
            exact h
  | succ d ih =>
    intro i h1 h2 h3 h
    have hi : i < s.data.toList.length := by omega
    obtain ⟨c, hc⟩ : ∃ c, s.data.toList[i]? = some c := ⟨s.data.toList[i], by simp⟩
    have hb := bt_get s i c hc
    have hcl := c.toNat_lt
    have h9 := ih (i + 1) (by omega) (by omega) (by omega) h
    have hsn := accB_snoc a (s.data.toList.drop 1) (i - 1) (by rw [List.length_drop]; omega)
    rw [show i - 1 + 1 = i + 1 - 1 by omega, List.getD_eq_getElem?_getD, List.getElem?_drop, show 1 + (i - 1) = i by omega, hc] at hsn
    have hlt := accB_lt3 a ((s.data.toList.drop 1).take (i - 1)) ha (by rw [List.length_take]; omega)
    have hm : Int.tmod ((c.toNat : Nat) : Int) 64 = (c.toNat : Int) % 64 := Int.tmod_eq_emod_of_nonneg (by omega)
    refine Ev.step (fun j => ?_) h9
    simp only [warrantref03_Next.l1]
    rw [if_pos (by omega), if_pos (by omega), if_pos (by omega), hb, hm, wrap_in ((c.toNat : Int) % 64) (by omega) (by omega), wrap_in (((accB a ((s.data.toList.drop 1).take (i - 1)) : Nat) : Int) * 64) (by omega) (by omega), wrap_in _ (by omega) (by omega), wrap_in _ (by omega) (by omega), hsn]
    simp only [Option.getD_some]
    congr 1 <;> omega
theorem next_ev (s : ByteArray) (hs0 : s.size ≤ 1048576) (d : Nat) : ∀ k : Nat, 5 - k = d → 1 ≤ k → k ≤ 5 → Ev (fun j => warrantref03_Next.l0 j s k) (tryS s.data.toList k) := by
  have hln := str_len s
  induction d with
  | zero =>
    intro k h1 h2 h3
    rw [try_end _ _ (by omega)]
    refine Ev.step (f := fun j => warrantref03_Next.j1 j s k false) (fun j => ?_) (Ev.step (f := fun _ => some (-1, 1)) (fun j => ?_) (Ev.now _))
    · simp only [warrantref03_Next.l0]
      rw [if_neg (by omega)]
    · simp only [warrantref03_Next.j1]
      rw [if_neg (by simp)]
  | succ d ih =>
    intro k h1 h2 h3
    by_cases hs : k ≤ s.size
    · have hi : 0 < s.data.toList.length := by omega
      obtain ⟨c, hc⟩ : ∃ c, s.data.toList[0]? = some c := ⟨s.data.toList[0], by simp⟩
      have hb := bt_get s 0 c hc
      rw [show ((0 : Nat) : Int) = 0 from rfl] at hb
      have hcl := c.toNat_lt
      have h9 := ih (k + 1) (by omega) (by omega) (by omega)
      rw [try_step _ k (by omega) (by omega)]
      obtain ⟨v, hv⟩ : ∃ v, valS s.data.toList k = v := ⟨_, rfl⟩
      rw [hv]
      have fin : Ev (fun j => warrantref03_Next.l1 j s k (v : Int) k) (if putS (v : Int) = s.data.toList.take k then ((v : Int), (k : Int)) else tryS s.data.toList (k + 1)) := by
        refine Ev.step (fun j => ?_) (Ev.bind (put_ev (v : Int)) (f := fun j t139 => if 0 ≤ (k : Int) then (if (k : Int) ≤ (s.size : Int) then (if t139.toList = (s.extract 0 k).toList then (some ((v : Int), (k : Int))) else (warrantref03_Next.l0 j s (wrap64 ((k : Int) + 1)))) else none) else none) ?_)
        · simp only [warrantref03_Next.l1]
          rw [if_neg (by omega), Int.toNat_natCast]
        · by_cases hp : putS (v : Int) = s.data.toList.take k
          · rw [if_pos hp]
            refine Ev.congr (fun j => ?_) (Ev.now _)
            try simp only
            rw [if_pos (by omega), if_pos (by omega), if_pos]
            rw [extract_upto, ← hp, str_toList]
          · rw [if_neg hp]
            refine Ev.congr (fun j => ?_) h9
            try simp only
            rw [if_pos (by omega), if_pos (by omega), if_neg, wrap_in _ (by omega) (by omega)]
            · rfl
            · rw [extract_upto, str_toList]; exact hp
      have hkc : k = 1 ∨ k = 2 ∨ k = 3 ∨ k = 4 := by omega
      obtain ⟨a, ha, haa⟩ : ∃ a : Nat, a < 256 ∧ (v = accB a ((s.data.toList.drop 1).take (k - 1)) ∧ ∀ j, warrantref03_Next.j1 (j + 1) s k true = warrantref03_Next.j2 j s k (a : Int)) := by
        have hg : s.data.toList.getD 0 0 = c := by rw [List.getD_eq_getElem?_getD, hc]; rfl
        have hm : ∀ x : Int, Int.tmod ((c.toNat : Nat) : Int) x = (c.toNat : Int) % x := fun x => Int.tmod_eq_emod_of_nonneg (by omega)
        rw [← hv]
        unfold valS
        rw [hg]
        rcases hkc with rfl | rfl | rfl | rfl
        · refine ⟨c.toNat, hcl, rfl, fun j => ?_⟩
          simp only [warrantref03_Next.j1]
          rw [if_pos trivial, if_pos (by omega), if_neg (by omega), if_neg (by omega), if_neg (by omega), hb, wrap_in _ (by omega) (by omega)]
        · refine ⟨c.toNat % 32, by omega, rfl, fun j => ?_⟩
          simp only [warrantref03_Next.j1]
          rw [if_pos trivial, if_pos (by omega), if_pos (by rfl), hb, wrap_in _ (by omega) (by omega), hm]
          rfl
        · refine ⟨c.toNat % 16, by omega, rfl, fun j => ?_⟩
          simp only [warrantref03_Next.j1]
          rw [if_pos trivial, if_pos (by omega), if_neg (by omega), if_pos (by rfl), hb, wrap_in _ (by omega) (by omega), hm]
          rfl
        · refine ⟨c.toNat % 8, by omega, rfl, fun j => ?_⟩
          simp only [warrantref03_Next.j1]
          rw [if_pos trivial, if_pos (by omega), if_neg (by omega), if_neg (by omega), if_pos (by rfl), hb, wrap_in _ (by omega) (by omega), hm]
          rfl
      rw [haa.1] at fin
      have hin := next_in s k a _ (by omega) hs ha (k - 1) 1 rfl (by omega) (by omega) fin
      rw [← haa.1] at hin
      refine Ev.step (f := fun j => warrantref03_Next.j1 j s k true) (fun j => ?_) (Ev.step (f := fun j => warrantref03_Next.j2 j s k (a : Int)) haa.2 (Ev.step (fun j => ?_) hin))
      · simp only [warrantref03_Next.l0]
        rw [if_pos (by omega), show decide ((k : Int) ≤ (s.size : Int)) = true from decide_eq_true (by omega)]
      · simp only [warrantref03_Next.j2]
        rfl
    · rw [try_end _ _ (by omega)]
      refine Ev.step (f := fun j => warrantref03_Next.j1 j s k false) (fun j => ?_) (Ev.step (f := fun _ => some (-1, 1)) (fun j => ?_) (Ev.now _))
      · simp only [warrantref03_Next.l0]
        rw [if_pos (by omega), show decide ((k : Int) ≤ (s.size : Int)) = false from decide_eq_false (by omega)]
      · simp only [warrantref03_Next.j1]
        rw [if_neg (by simp)]
theorem next_f (s : ByteArray) (hs : s.size ≤ 1048576) : Ev (fun j => warrantref03_Next.f j s) (nextS s.data.toList) := by
  have hln := str_len s
  have h := try_next s.data.toList
  unfold warrantref03_Next.f
  by_cases h0 : s.size = 0
  · rw [if_pos (by omega)] at h
    rw [← h]
    exact Ev.congr (fun j => if_pos (by omega)) (Ev.now _)
  · rw [if_neg (by omega)] at h
    rw [← h]
    exact Ev.congr (fun j => if_neg (by omega)) (next_ev s hs 4 1 rfl (by omega) (by omega))
theorem bad_ev (s : ByteArray) (hs : s.size ≤ 1048576) (d : Nat) : ∀ k : Nat, s.size - k = d → k ≤ s.size → Ev (fun j => warrantref03_Bad.l0 j s k) (badAt s.data.toList k) := by
  have hln := str_len s
  induction d using Nat.strongRecOn with
  | _ d ih =>
    intro k hd hk
    by_cases hlt : k < s.size
    · have hp := nextS_pos _ (drop_ne s.data.toList k (by omega))
      rw [List.length_drop] at hp
      have hn := next_f (s.extract k s.size) (by rw [ByteArray.size_extract]; omega)
      rw [extract_from] at hn
      have hstep := badAt_step s.data.toList k (by omega)
      have hhere := badAt_here s.data.toList k (by omega)
      obtain ⟨x, n, hxn⟩ : ∃ x n, nextS (s.data.toList.drop k) = (x, n) := ⟨_, _, rfl⟩
      rw [hxn] at hn hstep hhere hp
      simp only at hstep hhere hp
      refine Ev.step (fun j => ?_) (Ev.bind hn (f := fun j bt140 => if bt140.1 < 0 then (some (k : Int)) else (warrantref03_Bad.l0 j s (wrap64 ((k : Int) + bt140.2)))) ?_)
      · simp only [warrantref03_Bad.l0]
        rw [if_pos (by omega), if_pos (by omega), if_pos (by omega), Int.toNat_natCast]
      · by_cases hx : x < 0
        · rw [hhere hx]
          exact Ev.congr (fun j => if_pos hx) (Ev.now _)
        · have h9 := ih (s.size - (k + n.toNat)) (by omega) (k + n.toNat) rfl (by omega)
          rw [hstep hx] at h9
          refine Ev.congr (fun j => (if_neg hx).trans ?_) h9
          rw [wrap_in _ (by omega) (by omega)]
          congr 1
          omega
    · rw [badAt_end _ _ (by omega)]
      refine Ev.step (f := fun _ => some (-1)) (fun j => ?_) (Ev.now _)
      simp only [warrantref03_Bad.l0]
      rw [if_neg (by omega)]
theorem bad_f (s : ByteArray) (hs : s.size ≤ 1048576) : Ev (fun j => warrantref03_Bad.f j s) (badS s.data.toList) := by
  have h := bad_ev s hs s.size 0 (by omega) (by omega)
  rw [badAt_zero] at h
  exact h
theorem get_ev (xs : List Par) (key : ByteArray) (hn : xs.length ≤ 1048576) (d : Nat) : ∀ i : Nat, xs.length - i = d → i ≤ xs.length → Ev (fun j => warrantref06_Get.l0 j xs key i) (match getS (xs.drop i) key with | some v => (v, true) | none => (⟨#[]⟩, false)) := by
  induction d with
  | zero =>
    intro i h1 h2
    obtain rfl : i = xs.length := by omega
    rw [List.drop_length]
    refine Ev.step (f := fun _ => some (⟨#[]⟩, false)) (fun j => ?_) (Ev.now _)
    simp only [warrantref06_Get.l0]
    rw [if_neg (by omega)]
  | succ d ih =>
    intro i h1 h2
    have hlt : i < xs.length := by omega
    have h9 := ih (i + 1) (by omega) (by omega)
    rw [List.drop_eq_getElem_cons hlt, getS]
    have hrd : rd_T45 xs (i : Int) = xs[i] := by unfold rd_T45; rw [Int.toNat_natCast, List.getD_eq_getElem?_getD, List.getElem?_eq_getElem hlt]; rfl
    by_cases hk : (xs[i]).f0 = key
    · rw [if_pos hk]
      refine Ev.step (f := fun _ => some ((xs[i]).f1, true)) (fun j => ?_) (Ev.now _)
      simp only [warrantref06_Get.l0]
      rw [if_pos (by omega), if_pos (by omega), hrd, if_pos (by rw [hk])]
    · rw [if_neg hk]
      refine Ev.step (fun j => ?_) h9
      simp only [warrantref06_Get.l0]
      rw [if_pos (by omega), if_pos (by omega), hrd, if_neg (fun e => hk (ba_inj e)), wrap_in _ (by omega) (by omega)]
      rfl
theorem get_f (xs : List Par) (key : ByteArray) (hn : xs.length ≤ 1048576) : Ev (fun j => warrantref06_Get.f j xs key) (match getS xs key with | some v => (v, true) | none => (⟨#[]⟩, false)) := by
  have h := get_ev xs key hn xs.length 0 (by omega) (by omega)
  rw [List.drop_zero] at h
  exact h
end Go.Proofs.YtgdbjkkanjgbnaaDoor.Url

namespace Go.Proofs.YtgdbjkkanjgbnaaDoor.Url
open Go.RowKit Go.Proofs.YtgdbjkkanjgbnaaDoor
set_option linter.unusedVariables false
set_option linter.unusedSimpArgs false
/-- The parts of what is left at a place. -/
def restS (l : List UInt8) (i : Nat) : List (List UInt8) := if i ≤ l.length then splitS 38 (l.drop i) else []
theorem rest_seg {l : List UInt8} {m : Nat} : ∀ {i : Nat}, i + m ≤ l.length → (∀ k, k < m → l[i + k]? ≠ some 38) → (i + m = l.length ∨ l[i + m]? = some 38) → restS l i = (l.drop i).take m :: restS l (i + m + 1) := by
  induction m with
  | zero =>
    intro i hi _ he
    unfold restS
    rw [if_pos (by omega), List.take_zero]
    rcases he with he | he
    · rw [List.drop_of_length_le (by omega), if_neg (by omega)]
      first | done | rfl
    · have hlt : i < l.length := (List.getElem?_eq_some_iff.1 he).1
      rw [if_pos (by omega), List.drop_eq_getElem_cons hlt]
      have h9 : l[i] = 38 := (List.getElem?_eq_some_iff.1 he).2
      rw [splitS, if_pos h9]
      first | done | rfl
  | succ m ih =>
    intro i hi hno he
    have hlt : i < l.length := by omega
    have h0 : l[i] ≠ 38 := fun e => hno 0 (by omega) (by rw [Nat.add_zero, List.getElem?_eq_getElem hlt, e])
    have h9 := ih (i := i + 1) (by omega) (fun k hk => by have := hno (k + 1) (by omega); rwa [show i + (k + 1) = i + 1 + k by omega] at this) (by rw [show i + 1 + m = i + (m + 1) by omega]; exact he)
    have hr : restS l (i + 1) = splitS 38 (l.drop (i + 1)) := by unfold restS; rw [if_pos (by omega)]
    rw [hr] at h9
    have hr2 : restS l i = splitS 38 (l.drop i) := by unfold restS; rw [if_pos (by omega)]
    rw [hr2, List.drop_eq_getElem_cons hlt, splitS, if_neg h0, h9, List.take_succ_cons, show i + (m + 1) + 1 = i + 1 + m + 1 by omega]
theorem rest_end (l : List UInt8) (i : Nat) (h : ¬ i ≤ l.length) : restS l i = [] := by unfold restS; rw [if_neg h]
theorem rest_zero (l : List UInt8) : restS l 0 = splitS 38 l := by unfold restS; rw [if_pos (Nat.zero_le _), List.drop_zero]
theorem cut_at2 {l : List UInt8} {i m q : Nat} (hq : q ≤ m) (hm : i + m ≤ l.length) (hno : ∀ k, k < q → l[i + k]? ≠ some 61) (he : q = m ∨ l[i + q]? = some 61) :
    cutA ((l.drop i).take m) = (l.drop i).take q ∧ cutB ((l.drop i).take m) = (l.drop (i + q + 1)).take (m - q - 1) := by
  have hg : ∀ k, k < m → ((l.drop i).take m)[k]? = l[i + k]? := fun k hk => by rw [List.getElem?_take, if_pos hk, List.getElem?_drop]
  by_cases h : q = m
  · subst h
    have hn : (61 : UInt8) ∉ (l.drop i).take q := fun h9 => by
      obtain ⟨k, hk, e⟩ := List.getElem_of_mem h9
      rw [List.length_take] at hk
      have h8 := hg k (by omega)
      rw [List.getElem?_eq_getElem (by rw [List.length_take]; exact hk), e] at h8
      exact hno k (by omega) h8.symm
    obtain ⟨h1, h2⟩ := cut_no hn
    refine ⟨h1, ?_⟩
    rw [h2, show q - q - 1 = 0 by omega, List.take_zero]
  · have hlt : q < m := by omega
    have he2 : l[i + q]? = some 61 := he.resolve_left h
    obtain ⟨h1, h2⟩ := cut_at (l := (l.drop i).take m) (m := q) (by rw [hg q hlt]; exact he2) (fun k hk => by rw [hg k (by omega)]; exact hno k hk)
    refine ⟨by rw [h1, List.take_take, Nat.min_eq_left hq], ?_⟩
    rw [h2, List.drop_take, List.drop_drop, show i + (q + 1) = i + q + 1 by omega, show m - (q + 1) = m - q - 1 by omega]
end Go.Proofs.YtgdbjkkanjgbnaaDoor.Url

namespace Go.Proofs.YtgdbjkkanjgbnaaDoor.Url
open Go.RowKit Go.Proofs.YtgdbjkkanjgbnaaDoor Go.Proofs.YtgdbjkkanjgbnaaDoor.PUrlencParses Go.Proofs.YtgdbjkkanjgbnaaDoorW.PrintWords Go.Proofs.YtgdbjkkanjgbnaaDoorW.PrintLast Go.Proofs.YtgdbjkkanjgbnaaDoorW.PrintMore
set_option linter.unusedVariables false
set_option linter.unusedSimpArgs false
theorem seg_at (p : UInt8) (l : List UInt8) (n : Nat) (d : Nat) : ∀ i : Nat, n - i = d → i ≤ n → ∃ m, i + m ≤ n ∧ (∀ k, k < m → l[i + k]? ≠ some p) ∧ (i + m = n ∨ l[i + m]? = some p) := by
  induction d with
  | zero => intro i h1 h2; exact ⟨0, by omega, fun k hk => absurd hk (by omega), .inl (by omega)⟩
  | succ d ih =>
    intro i h1 h2
    by_cases h : l[i]? = some p
    · exact ⟨0, by omega, fun k hk => absurd hk (by omega), .inr h⟩
    · obtain ⟨m, h3, h4, h5⟩ := ih (i + 1) (by omega) (by omega)
      refine ⟨m + 1, by omega, fun k hk => ?_, by rwa [show i + (m + 1) = i + 1 + m by omega]⟩
      cases k with
      | zero => exact h
      | succ k => rw [show i + (k + 1) = i + 1 + k by omega]; exact h4 k (by omega)
def resP (r : List Par × GErr) : List Par × Int × Int := (r.1, r.2.num, r.2.pos)
theorem find_38 (s : ByteArray) (acc : List Par) (i m : Nat) (r : List Par × Int × Int) (hs : s.size ≤ 1048576) (hm : i + m ≤ s.size) (hno : ∀ k, k < m → s.data.toList[i + k]? ≠ some 38) (he : i + m = s.size ∨ s.data.toList[i + m]? = some 38)
    (h : Ev (fun j => warrantref06_Parse.j2 j s acc i ((i + m : Nat) : Int)) r) (d : Nat) : ∀ t : Nat, m - t = d → t ≤ m → Ev (fun j => warrantref06_Parse.l1 j s acc i ((i + t : Nat) : Int)) r := by
  have hln := str_len s
  induction d with
  | zero =>
    intro t h1 h2
    obtain rfl : t = m := by omega
    refine Ev.step (fun j => ?_) h
    simp only [warrantref06_Parse.l1]
    rcases he with he | he
    · rw [if_neg (by omega)]
    · have hi := (List.getElem?_eq_some_iff.1 he).1
      rw [if_pos (by omega), if_pos (by omega), bt_get s _ _ he, if_pos (by rfl)]
  | succ d ih =>
    intro t h1 h2
    refine Ev.step (fun j => ?_) (ih (t + 1) (by omega) (by omega))
    simp only [warrantref06_Parse.l1]
    obtain ⟨c, hc⟩ : ∃ c, s.data.toList[i + t]? = some c := ⟨s.data.toList[i + t]'(by omega), by simp⟩
    have hn := hno t (by omega)
    rw [hc] at hn
    have hn2 : ¬ ((c.toNat : Nat) : Int) = 38 := fun e => hn (by rw [Option.some.injEq]; exact UInt8.toNat_inj.1 (by have : (38 : UInt8).toNat = 38 := rfl; omega))
    rw [if_pos (by omega), if_pos (by omega), bt_get s _ _ hc, if_neg hn2, wrap_in _ (by omega) (by omega)]
    rfl
theorem find_61 (s : ByteArray) (acc : List Par) (i e q : Nat) (r : List Par × Int × Int) (hs : s.size ≤ 1048576) (hm : i + q ≤ e) (he0 : e ≤ s.size) (hno : ∀ k, k < q → s.data.toList[i + k]? ≠ some 61) (he : i + q = e ∨ s.data.toList[i + q]? = some 61)
    (h : Ev (fun j => warrantref06_Parse.j4 j s acc i e ((i + q : Nat) : Int)) r) (d : Nat) : ∀ t : Nat, q - t = d → t ≤ q → Ev (fun j => warrantref06_Parse.l2 j s acc i e ((i + t : Nat) : Int)) r := by
  have hln := str_len s
  induction d with
  | zero =>
    intro t h1 h2
    obtain rfl : t = q := by omega
    refine Ev.step (fun j => ?_) h
    simp only [warrantref06_Parse.l2]
    by_cases hq : i + t = e
    · rw [if_neg (by omega)]
    · have he := he.resolve_left hq
      rw [if_pos (by omega), if_pos (by omega), if_pos (by omega), bt_get s _ _ he, if_pos (by rfl)]
  | succ d ih =>
    intro t h1 h2
    refine Ev.step (fun j => ?_) (ih (t + 1) (by omega) (by omega))
    simp only [warrantref06_Parse.l2]
    obtain ⟨c, hc⟩ : ∃ c, s.data.toList[i + t]? = some c := ⟨s.data.toList[i + t]'(by omega), by simp⟩
    have hn := hno t (by omega)
    rw [hc] at hn
    have hn2 : ¬ ((c.toNat : Nat) : Int) = 61 := fun e => hn (by rw [Option.some.injEq]; exact UInt8.toNat_inj.1 (by have : (61 : UInt8).toNat = 61 := rfl; omega))
    rw [if_pos (by omega), if_pos (by omega), if_pos (by omega), bt_get s _ _ hc, if_neg hn2, wrap_in _ (by omega) (by omega)]
    rfl
theorem extract_seg (s : ByteArray) (i j : Nat) : (s.extract i j).data.toList = (s.data.toList.drop i).take (j - i) := by rw [Lib.extract_data]
/-- What stands behind a name and a value. -/
def outS (l : List UInt8) (i e : Nat) (acc : List Par) (nb vb : List UInt8) : List Par × GErr :=
  if nb = [] ∨ 0 ≤ badS nb ∨ 0 ≤ badS vb then ([], .at_ (i : Int) 60)
  else if (getS acc ⟨nb.toArray⟩).isSome = true then ([], .at_ (i : Int) 52)
  else if acc.length = 32 then ([], .no 53)
  else parseL (restS l (e + 1)) (e + 1) (acc ++ [mkP (nb, vb)])
theorem j6_bad (s : ByteArray) (acc : List Par) (i e : Nat) (nb vb : List UInt8) (h : nb = [] ∨ 0 ≤ badS nb ∨ 0 ≤ badS vb) :
    Ev (fun j => warrantref06_Parse.j6 j s acc i e ⟨nb.toArray⟩ ⟨vb.toArray⟩ true) (resP (outS s.data.toList i e acc nb vb)) := by
  unfold outS
  rw [if_pos h]
  refine Ev.step (f := fun _ => some (([] : List Par), (60 : Int), (i : Int))) (fun j => ?_) (Ev.now _)
  simp only [warrantref06_Parse.j6]
  rw [if_pos trivial]
theorem j6_good (s : ByteArray) (acc : List Par) (i e : Nat) (nb vb : List UInt8) (hac : acc.length ≤ 32) (he : e ≤ 1048576) (h : ¬ (nb = [] ∨ 0 ≤ badS nb ∨ 0 ≤ badS vb))
    (hk : acc.length < 32 → Ev (fun j => warrantref06_Parse.l0 j s (acc ++ [mkP (nb, vb)]) ((e + 1 : Nat) : Int)) (resP (parseL (restS s.data.toList (e + 1)) (e + 1) (acc ++ [mkP (nb, vb)])))) :
    Ev (fun j => warrantref06_Parse.j6 j s acc i e ⟨nb.toArray⟩ ⟨vb.toArray⟩ false) (resP (outS s.data.toList i e acc nb vb)) := by
  unfold outS
  rw [if_neg h]
  refine Ev.step (fun j => ?_) (Ev.bind (get_f acc ⟨nb.toArray⟩ (by omega)) (f := fun j bt148 => if bt148.2 = true then (some (([] : List Par), (52 : Int), (i : Int))) else (if (acc.length : Int) = 32 then (some (([] : List Par), (53 : Int), (-1 : Int))) else (if acc.length < 4398046511104 then (warrantref06_Parse.l0 j s (acc ++ [(⟨⟨nb.toArray⟩, ⟨vb.toArray⟩⟩ : Par)]) (wrap64 ((e : Int) + 1))) else none))) ?_)
  · simp only [warrantref06_Parse.j6]
    rw [if_neg (by simp)]
  · cases hg : getS acc ⟨nb.toArray⟩ with
    | some v =>
      rw [if_pos (by simp)]
      refine Ev.congr (fun j => ?_) (Ev.now _)
      simp only
      rw [if_pos trivial]
      rfl
    | none =>
      rw [if_neg (by simp)]
      by_cases h32 : acc.length = 32
      · rw [if_pos h32]
        refine Ev.congr (fun j => ?_) (Ev.now _)
        simp only
        rw [if_neg (by simp), if_pos (by omega)]
        rfl
      · rw [if_neg h32]
        refine Ev.congr (fun j => ?_) (hk (by omega))
        simp only
        rw [if_neg (by simp), if_neg (by omega), if_pos (by omega), wrap_in _ (by omega) (by omega)]
        rfl
theorem j5_ev (s : ByteArray) (acc : List Par) (i e : Nat) (nb vb : List UInt8) (hac : acc.length ≤ 32) (he : e ≤ 1048576) (hn : nb.length ≤ 1048576) (hv : vb.length ≤ 1048576)
    (hk : acc.length < 32 → Ev (fun j => warrantref06_Parse.l0 j s (acc ++ [mkP (nb, vb)]) ((e + 1 : Nat) : Int)) (resP (parseL (restS s.data.toList (e + 1)) (e + 1) (acc ++ [mkP (nb, vb)])))) :
    Ev (fun j => warrantref06_Parse.j5 j s acc i e ⟨nb.toArray⟩ ⟨vb.toArray⟩) (resP (outS s.data.toList i e acc nb vb)) := by
  have tl : ∀ l : List UInt8, (⟨l.toArray⟩ : ByteArray).toList = l := fun l => by rw [str_toList]
  have bn := bad_f ⟨nb.toArray⟩ (by rw [← str_len]; exact hn)
  have bv := bad_f ⟨vb.toArray⟩ (by rw [← str_len]; exact hv)
  by_cases h0 : nb = []
  · refine Ev.step (fun j => ?_) (j6_bad s acc i e nb vb (.inl h0))
    simp only [warrantref06_Parse.j5]
    rw [tl, if_pos h0]
  · refine Ev.step (fun j => ?_) (Ev.bind bn (f := fun j t146 => if t146 ≥ 0 then (warrantref06_Parse.j6 j s acc i e ⟨nb.toArray⟩ ⟨vb.toArray⟩ true) else ((warrantref03_Bad.f j ⟨vb.toArray⟩).bind fun t147 => (warrantref06_Parse.j6 j s acc i e ⟨nb.toArray⟩ ⟨vb.toArray⟩ (decide (t147 ≥ 0))))) ?_)
    · simp only [warrantref06_Parse.j5]
      rw [tl, if_neg h0]
    · by_cases h1 : 0 ≤ badS nb
      · exact Ev.congr (fun j => if_pos h1) (j6_bad s acc i e nb vb (.inr (.inl h1)))
      · refine Ev.congr (fun j => if_neg (by simpa using h1)) (Ev.bind bv ?_)
        by_cases h2 : 0 ≤ badS vb
        · refine Ev.congr (fun j => ?_) (j6_bad s acc i e nb vb (.inr (.inr h2)))
          rw [show decide ((badS (⟨vb.toArray⟩ : ByteArray).data.toList) ≥ 0) = true from decide_eq_true h2]
        · refine Ev.congr (fun j => ?_) (j6_good s acc i e nb vb hac he (by rintro (h | h | h) <;> contradiction) hk)
          rw [show decide ((badS (⟨vb.toArray⟩ : ByteArray).data.toList) ≥ 0) = false from decide_eq_false (by simpa using h2)]
theorem parseL_part (l : List UInt8) (i e : Nat) (acc : List Par) (p : List UInt8) (hp : p ≠ []) (hpl : i + p.length = e) :
    parseL (p :: restS l (e + 1)) i acc = if 0 ≤ (unS (cutA p)).2 then ([], .at_ (i + (unS (cutA p)).2) 60) else if 0 ≤ (unS (cutB p)).2 then ([], .at_ (i + ((cutA p).length + 1 + (unS (cutB p)).2)) 60) else outS l i e acc (unS (cutA p)).1 (unS (cutB p)).1 := by
  rw [parseL, if_neg hp]
  unfold partS outS
  by_cases h1 : 0 ≤ (unS (cutA p)).2
  · rw [if_pos h1, if_pos h1]
  · rw [if_neg h1, if_neg h1]
    by_cases h2 : 0 ≤ (unS (cutB p)).2
    · rw [if_pos h2, if_pos h2]
    · rw [if_neg h2, if_neg h2]
      by_cases h3 : (unS (cutA p)).1 = [] ∨ 0 ≤ badS (unS (cutA p)).1 ∨ 0 ≤ badS (unS (cutB p)).1
      · rw [if_pos h3, if_pos h3]; simp
      · rw [if_neg h3, if_neg h3, show i + p.length + 1 = e + 1 by omega]
        rfl
theorem parse_ev (s : ByteArray) (hs : s.size ≤ 1048576) (d : Nat) : ∀ (i : Nat) (acc : List Par), s.size + 1 - i = d → i ≤ s.size + 1 → acc.length ≤ 32 → Ev (fun j => warrantref06_Parse.l0 j s acc i) (resP (parseL (restS s.data.toList i) i acc)) := by
  have hln := str_len s
  induction d using Nat.strongRecOn with
  | _ d ih =>
    intro i acc hd hi hac
    by_cases hle : i ≤ s.size
    · obtain ⟨m, hm, hno, he⟩ := seg_at 38 s.data.toList s.size _ i rfl hle
      have hrs := rest_seg (l := s.data.toList) (m := m) (i := i) (by omega) hno (by rw [hln]; exact he)
      rw [hrs]
      have next : ∀ acc' : List Par, acc'.length ≤ 32 → Ev (fun j => warrantref06_Parse.l0 j s acc' ((i + m + 1 : Nat) : Int)) (resP (parseL (restS s.data.toList (i + m + 1)) (i + m + 1) acc')) := fun acc' h => ih (s.size + 1 - (i + m + 1)) (by omega) (i + m + 1) acc' rfl (by omega) h
      refine Ev.step (f := fun j => warrantref06_Parse.l1 j s acc i ((i + 0 : Nat) : Int)) (fun j => ?_) (find_38 s acc i m _ hs hm hno he ?_ _ 0 rfl (by omega))
      · simp only [warrantref06_Parse.l0]
        rw [if_pos (by omega)]
        rfl
      · by_cases hm0 : m = 0
        · subst hm0
          rw [List.take_zero, parseL, if_pos rfl]
          refine Ev.step (fun j => ?_) (next acc hac)
          simp only [warrantref06_Parse.j2]
          rw [if_neg (by omega), wrap_in _ (by omega) (by omega)]
          rfl
        · obtain ⟨q, hq, hno2, he2⟩ := seg_at 61 s.data.toList (i + m) _ i rfl (by omega)
          obtain ⟨c1, c2⟩ := cut_at2 (l := s.data.toList) (i := i) (m := m) (q := q) (by omega) (by omega) hno2 (he2.elim (fun h => .inl (by omega)) .inr)
          have hpl : ((s.data.toList.drop i).take m).length = m := by rw [List.length_take, List.length_drop]; omega
          rw [parseL_part s.data.toList i (i + m) acc _ (fun h => by rw [h] at hpl; simp at hpl; omega) (by omega), c1, c2]
          have hal : ((s.data.toList.drop i).take q).length = q := by rw [List.length_take, List.length_drop]; omega
          rw [hal]
          have hun := un_f (s.extract i (i + q)) (by rw [ByteArray.size_extract]; omega)
          rw [extract_seg, show i + q - i = q by omega] at hun
          have hvn := un_f (s.extract (i + q + 1) (i + m)) (by rw [ByteArray.size_extract]; omega)
          rw [extract_seg, show i + m - (i + q + 1) = m - q - 1 by omega] at hvn
          obtain ⟨A, hA⟩ : ∃ A, unS ((s.data.toList.drop i).take q) = A := ⟨_, rfl⟩
          obtain ⟨B, hB⟩ : ∃ B, unS ((s.data.toList.drop (i + q + 1)).take (m - q - 1)) = B := ⟨_, rfl⟩
          have hAl : A.1.length ≤ 1048576 := by have := unS_len ((s.data.toList.drop i).take q); rw [hA, hal] at this; omega
          have hBl : B.1.length ≤ 1048576 := by have := unS_len ((s.data.toList.drop (i + q + 1)).take (m - q - 1)); rw [hB, List.length_take, List.length_drop] at this; omega
          have hAp := unS_pos ((s.data.toList.drop i).take q)
          have hBp := unS_pos ((s.data.toList.drop (i + q + 1)).take (m - q - 1))
          rw [hA, hal] at hAp
          rw [hB, List.length_take, List.length_drop] at hBp
          rw [hA] at hun ⊢
          rw [hB] at hvn ⊢
          have J5 := j5_ev s acc i (i + m) A.1 B.1 hac (by omega) hAl hBl (fun h => next _ (by rw [List.length_append]; simp; omega))
          refine Ev.step (f := fun j => warrantref06_Parse.l2 j s acc i ((i + m : Nat) : Int) ((i + 0 : Nat) : Int)) (fun j => ?_) (find_61 s acc i (i + m) q _ hs hq (by omega) hno2 he2 ?_ _ 0 rfl (by omega))
          · simp only [warrantref06_Parse.j2]
            rw [if_pos (by omega)]
            rfl
          · refine Ev.step (fun j => ?_) (Ev.bind hun (f := fun j bt142 => if bt142.2 ≥ 0 then (some (([] : List Par), (60 : Int), wrap64 ((i : Int) + bt142.2))) else (if ((i + q : Nat) : Int) < ((i + m : Nat) : Int) then (if 0 ≤ (wrap64 (((i + q : Nat) : Int) + 1)) then (if (wrap64 (((i + q : Nat) : Int) + 1)) ≤ ((i + m : Nat) : Int) then (if ((i + m : Nat) : Int) ≤ (s.size : Int) then ((warrantref06_Unescape.f j (s.extract ((wrap64 (((i + q : Nat) : Int) + 1)) : Int).toNat (((i + m : Nat) : Int) : Int).toNat)).bind fun bt144 => (if bt144.2 ≥ 0 then (some (([] : List Par), (60 : Int), wrap64 ((wrap64 (((i + q : Nat) : Int) + 1)) + bt144.2))) else (warrantref06_Parse.j5 j s acc i ((i + m : Nat) : Int) bt142.1 bt144.1))) else (none)) else (none)) else (none)) else (warrantref06_Parse.j5 j s acc i ((i + m : Nat) : Int) bt142.1 (⟨#[]⟩ : ByteArray)))) ?_)
            · simp only [warrantref06_Parse.j4]
              rw [if_pos (by omega), if_pos (by omega), if_pos (by omega), Int.toNat_natCast, Int.toNat_natCast]
            · by_cases h1 : 0 ≤ A.2
              · rw [if_pos h1]
                refine Ev.congr (fun j => (if_pos h1).trans ?_) (Ev.now _)
                rw [wrap_in _ (by omega) (by omega)]
                rfl
              · rw [if_neg h1]
                refine Ev.congr (fun j => if_neg h1) ?_
                by_cases hqm : q = m
                · subst hqm
                  have hB0 : B = ([], -1) := by
                    rw [← hB, show q - q - 1 = 0 by omega, List.take_zero]; rfl
                  rw [hB0] at J5 ⊢
                  rw [if_neg (by simp)]
                  exact Ev.congr (fun j => if_neg (by omega)) J5
                · refine Ev.congr (fun j => ?_) (Ev.bind hvn (f := fun j bt144 => if bt144.2 ≥ 0 then (some (([] : List Par), (60 : Int), wrap64 ((wrap64 (((i + q : Nat) : Int) + 1)) + bt144.2))) else (warrantref06_Parse.j5 j s acc i ((i + m : Nat) : Int) ⟨A.1.toArray⟩ bt144.1)) ?_)
                  · rw [if_pos (by omega), wrap_in _ (by omega) (by omega), if_pos (by omega), if_pos (by omega), if_pos (by omega)]
                    rfl
                  · by_cases h2 : 0 ≤ B.2
                    · rw [if_pos h2]
                      refine Ev.congr (fun j => (if_pos h2).trans ?_) (Ev.now _)
                      rw [wrap_in (((i + q : Nat) : Int) + 1) (by omega) (by omega), wrap_in _ (by omega) (by omega)]
                      unfold resP
                      congr 3
                      show ((i + q : Nat) : Int) + 1 + B.2 = (i : Int) + ((q : Int) + 1 + B.2)
                      omega
                    · rw [if_neg h2]
                      exact Ev.congr (fun j => if_neg h2) J5
    · obtain rfl : i = s.size + 1 := by omega
      rw [rest_end _ _ (by omega), parseL]
      refine Ev.step (f := fun _ => some (acc, (0 : Int), (-1 : Int))) (fun j => ?_) (Ev.now _)
      simp only [warrantref06_Parse.l0]
      rw [if_neg (by omega)]
theorem parse_f (s : ByteArray) (hs : s.size ≤ 1048576) : Ev (fun j => warrantref06_Parse.f j s) (resP (parseS s.data.toList)) := by
  have hln := str_len s
  unfold parseS warrantref06_Parse.f
  by_cases h : 4096 < s.size
  · rw [if_pos (by omega)]
    exact Ev.congr (fun j => if_pos (by omega)) (Ev.now _)
  · rw [if_neg (by omega), ← rest_zero]
    exact Ev.congr (fun j => if_neg (by omega)) (parse_ev s hs _ 0 [] rfl (by omega) (by simp))
/-- What the document's Parse answers. -/
def DocPost (r : List Par × GErr) (w : World) (e : Ending) (w' : World) : Prop := ∃ v : Value, e = .returned (.tuple #[v, .int .i64 r.2.num, .int .i64 r.2.pos]) ∧ Kd.R k45 45 w' w.heap.size (fun _ => True) v r.1 ∧ Below w.heap.size w w'
theorem doc_any (s : ByteArray) (w : World) (hs : s.size ≤ 1048576) : Calls Tryd.prog 9 #[.string s] w (DocPost (parseS s.data.toList) w) := by
  obtain ⟨k, hk⟩ := (parse_f s hs).rounds
  refine (warrantref06_Parse.calls k s _ _ _ w hk).mono ?_
  rintro e w' ⟨v, rfl, hr, hb⟩
  exact ⟨v, rfl, hr, hb⟩
end Go.Proofs.YtgdbjkkanjgbnaaDoor.Url

namespace Go.Proofs.YtgdbjkkanjgbnaaDoor.Url
open Go.RowKit Go.Proofs.YtgdbjkkanjgbnaaDoor
open Go.Proofs.YtgdbjkkanjgbnaaDoorW.PrintWords (Kd rdOf Ev Drawn0)
open Go.Proofs.YtgdbjkkanjgbnaaDoor.PUrlencParses
set_option linter.unusedVariables false
set_option linter.unusedSimpArgs false
theorem parseL_len (ps : List (List UInt8)) : ∀ (d : Nat) (acc : List Par), acc.length ≤ 32 → (parseL ps d acc).1.length ≤ 32 := by
  induction ps with
  | nil => intro d acc h; rw [parseL]; exact h
  | cons p ps ih =>
    intro d acc h
    rw [parseL]
    by_cases h1 : p = []
    · rw [if_pos h1]; exact ih _ _ h
    · rw [if_neg h1]
      cases partS p with
      | error q => simp
      | ok kv =>
        simp only
        by_cases h2 : (getS acc (mkP kv).f0).isSome = true
        · rw [if_pos h2]; simp
        · rw [if_neg h2]
          by_cases h3 : acc.length = 32
          · rw [if_pos h3]; simp
          · rw [if_neg h3]; exact ih _ _ (by rw [List.length_append]; simp; omega)
theorem parseS_len (l : List UInt8) : (parseS l).1.length ≤ 32 := by
  unfold parseS
  by_cases h : 4096 < l.length
  · rw [if_pos h]; simp
  · rw [if_neg h]; exact parseL_len _ _ _ (by simp)
set_option maxHeartbeats 4000000 in
set_option maxRecDepth 20000 in
theorem parses_walk (s : ByteArray) (w : World) (hs : s.size ≤ maxLen) (hg : ErrorType w) (hL : LeastAt w) : Calls Tryd.prog 3 #[.string s] w (TruePost w) := by
  have HG := hid hg
  have HL := hid hL
  have hgl := hg.lt
  have hll := LeastAt.lt hL
  have HA := hid (alive_any w hg hL)
  clear hg hL
  by_cases hbig : 5000 < s.size
  · have t0 : decide ((5000 : Int) < (s.size : Int)) = true := decide_eq_true (by omega)
    go_enter Tryd.func3, Tryd.ntmps3
    go_wp2_with (go_at_call 7; refine HA.out.mono ?_; rintro e w1 ⟨rfl, hb⟩; have HB := hid hb; clear hb)
    go_ret
    exact TruePost.mk rfl HB.out
  · have t0 : decide ((5000 : Int) < (s.size : Int)) = false := decide_eq_false (by omega)
    have hlen := parseS_len s.data.toList
    obtain ⟨xs, g, hp⟩ : ∃ xs g, parseS s.data.toList = (xs, g) := ⟨_, _, rfl⟩
    rw [hp] at hlen
    have HP := hid hp
    obtain ⟨gn, hgn⟩ : ∃ n, g.num = n := ⟨_, rfl⟩
    obtain ⟨gp, hgp⟩ : ∃ n, g.pos = n := ⟨_, rfl⟩
    have HN := hid hgn
    have HPO := hid hgp
    clear hp hgn hgp
    go_enter Tryd.func3, Tryd.ntmps3
    go_wp2_with (go_at_call 7; refine HA.out.mono ?_; rintro e w1 ⟨rfl, hb⟩; have HB := hid hb; clear hb)
    refine (parse_any s _ (HG.out.below HB.out hgl) (LeastAt.below HL.out HB.out hll) (by omega)).mono ?_
    rw [HP.out]
    rintro e w2 ⟨v2, er2, rfl, ho2, he2, hb2⟩
    have HB2 := hid (below_then HB.out hb2)
    have HE2 := hid he2
    obtain ⟨A2, c2, rfl, hc2⟩ := ho2.form
    have HC2 := hid ho2.reads
    clear hb2 ho2 he2
    go_wp2_with fail
    refine (doc_any s _ (by omega)).mono ?_
    rw [HP.out]
    rintro e w3 ⟨v3, he3, hr3, hb3⟩
    simp only [HN.out, HPO.out] at he3
    subst he3
    have HB3 := hid (below_then HB2.out hb3)
    have HC3 := hid (Kd.C_below HC2.out hb3)
    have HE3 := hid (HE2.out.below hb3)
    obtain ⟨A3, c3, rfl, hc3, hk3⟩ := Kd.R_reads hr3
    have HK3 := hid hk3
    clear hb3 hr3 hk3
    go_wp2_with fail
    refine (num_any g _ w3 (HG.out.below HB3.out hgl) HE3.out).mono ?_
    rintro e w4 ⟨he4, hb4⟩
    rw [HN.out] at he4
    subst he4
    have HB4 := hid (below_then HB3.out hb4)
    have HE4 := hid (HE3.out.below hb4)
    have HC4 := hid (Kd.C_below HC3.out hb4)
    have HK4 := hid (Kd.C_below HK3.out hb4)
    clear hb4
    go_wp2_with fail
    refine (pos_any g _ w4 (HG.out.below HB4.out hgl) HE4.out).mono ?_
    rintro e w5 ⟨he5, hb5⟩
    rw [HPO.out] at he5
    subst he5
    have HB5 := hid (below_then HB4.out hb5)
    have HC5 := hid (Kd.C_below HC4.out hb5)
    have HK5 := hid (Kd.C_below HK4.out hb5)
    clear hb5
    go_wp2_with fail
    refine (same_any w5 A2 A3 c2 c3 xs HC5.out hc2 HK5.out hc3 (by omega)).mono ?_
    rintro e w6 ⟨rfl, hd⟩
    have HB6 := hid (below_then HB5.out hd.below)
    clear hd
    go_wp2_with fail
    go_ret
    exact TruePost.mk rfl HB6.out
end Go.Proofs.YtgdbjkkanjgbnaaDoor.Url

namespace Go.Proofs.YtgdbjkkanjgbnaaDoor
open Go.ChangeShapes Go.WideShapes Go.RowKit
set_option linter.unusedVariables false

theorem A.et : Tryd.prog.globalNamed "errors.errorType" = some 0 := by kernel_rfl
theorem A.rt : (Tryd.prog.cutTypes.find? (·.1 == "internal/reflectlite.rtype")).map (·.2) = some 98 := by kernel_rfl
theorem A.oneRow : ((List.range 151).filter fun t => Tryd.prog.rowNamed t [101, 114, 114, 111, 114]) = [25] := by kernel_rfl
theorem A.ntypes : Tryd.prog.types.size = 151 := by kernel_rfl

theorem A.gTab : Tryd.prog.globalNamed "warrant/utf.least" = some 1 := by kernel_rfl
theorem A.gTabType : (Tryd.prog.globals[1]?).map (·.type) = some 111 := by kernel_rfl
theorem A.cellsTab : Tryd.prog.cellsOf 111 = 5 := by kernel_rfl
theorem A.cellsInt : Tryd.prog.cellsOf 3 = 1 := by kernel_rfl
/-- What the row's list gives: both variables' cells. -/
theorem handle_of_laid {W : World} (l : List (String × DataW Unit)) (hl : l = [("unicode/utf8.acceptRanges", Rows.laid_unicode_utf8_acceptRanges), ("errors.errorType", Rows.laid_errors_errorType), ("warrant/utf.least", Rows.laid_warrant_utf_least), ("unicode/utf8.first", Rows.laid_unicode_utf8_first)]) (h : laidMetH Tryd.prog l W) : ErrorType W ∧ LeastAt W := by
  subst hl
  have h' : laidMet Tryd.prog [("unicode/utf8.acceptRanges", Rows.laid_unicode_utf8_acceptRanges), ("warrant/utf.least", Rows.laid_warrant_utf_least), ("unicode/utf8.first", Rows.laid_unicode_utf8_first)] W ∧ handlesMet Tryd.prog [("errors.errorType", Rows.laid_errors_errorType)] W := h
  constructor
  · obtain ⟨name, u, ty, e1, e2, e3, e4, e5⟩ := h'.2 _ (List.mem_singleton.2 rfl)
    have en : name = [101, 114, 114, 111, 114] := (Option.some.inj e1).symm
    subst en
    obtain rfl := Option.some.inj (A.rt.symm.trans e2)
    have hm : ty ∈ (List.range 151).filter fun t => Tryd.prog.rowNamed t [101, 114, 114, 111, 114] := List.mem_filter.2 ⟨List.mem_range.2 (by rw [← A.ntypes]; exact e3), e4⟩
    rw [A.oneRow] at hm
    obtain rfl := List.mem_singleton.1 hm
    have hh : typeHandle Tryd.prog 25 = .pointer (some ⟨5, 25, none⟩) := by kernel_rfl
    rw [hh] at e5
    simpa [ErrorType] using World.var?_cell A.et e5 0
  · have ht : Lib.TabIs Tryd.prog W "warrant/utf.least" .i64 [0, 0, 128, 2048, 65536] := Lib.tabIs_of_head (rest := [("unicode/utf8.first", Rows.laid_unicode_utf8_first)]) A.gTab A.gTabType Tryd.underlying111 Tryd.underlying3 A.cellsInt A.cellsTab (laidMet.tail h'.1)
    exact ⟨ht.cell A.gTab 2 (by decide), ht.cell A.gTab 3 (by decide), ht.cell A.gTab 4 (by decide)⟩

/-- A reading's cells. -/
def dCells : Nat → DataW Unit → List Value
  | 0, _ => []
  | f + 1, .agg l => l.flatMap (dCells f)
  | f + 1, .lit (.int k n) => [.int k n]
  | _, _ => []
/-- A world that meets the list: the settled one, the variables' cells laid. -/
noncomputable def laidWorld (os : Os) : World :=
  let w0 := World.holding Tryd.prog os ⟨#[], #[], []⟩
  { w0 with heap := (((w0.heap.modify 0 fun
      | .cells _ t frozen => .cells #[.iface 98 (.agg #[.pointer (some ⟨5, 25, none⟩)])] t frozen
      | o => o).modify 1 fun
      | .cells _ t frozen => .cells #[.int .i64 0, .int .i64 0, .int .i64 128, .int .i64 2048, .int .i64 65536] t frozen
      | o => o).modify 4 fun
      | .cells _ t frozen => .cells (dCells 4 Rows.laid_unicode_utf8_acceptRanges).toArray t frozen
      | o => o).modify 3 fun
      | .cells _ t frozen => .cells (dCells 4 Rows.laid_unicode_utf8_first).toArray t frozen
      | o => o }
end Go.Proofs.YtgdbjkkanjgbnaaDoor

/-
  UrlPrint, UrlPars, UrlBackP, StrSplit, UrlParse, UrlParse2, UrlBackQ, UrlAlive, UrlBackLaw: this proof's parts in one text.
-/
import Derived.Test.YtgdbjkkanjgbnaaDoorMUrlBackRowb
import Derived.Deep.RegionHeld3
import Derived.Deep.RegionWith
import Derived.Laws.Concat
import Derived.Deep.SlicePairs
import Derived.ChangeArms
import Derived.OpenShut
import Derived.Test.YtgdbjkkanjgbnaaDoorMUrlBackRowa
import Derived.Maps.AppendAt
import Derived.Test.YtgdbjkkanjgbnaaDoorPUrlencParsesx7
namespace Go.Proofs.YtgdbjkkanjgbnaaDoor.Url
open Go.RowKit Go.Proofs.YtgdbjkkanjgbnaaDoor
open Go.Proofs.YtgdbjkkanjgbnaaDoorW.PrintWords (Kd rdOf)
open Go.Proofs.YtgdbjkkanjgbnaaDoor.PUrlencParses
set_option linter.unusedVariables false
set_option linter.unusedSimpArgs false
/-- Is a parameter wrong, behind those ahead of it? -/
def badP (pre : List Par) (x : Par) : Prop := (getS pre x.f0).isSome = true ∨ x.f0.size = 0 ∨ 0 ≤ badS x.f0.data.toList ∨ 0 ≤ badS x.f1.data.toList
def sepS (pre : List Par) : List UInt8 := if pre.length = 0 then [] else [38]
def oneS (x : Par) : List UInt8 := escS x.f0.data.toList ++ [61] ++ escS x.f1.data.toList
open Classical in
noncomputable def printL : List Par → List Par → List UInt8 → Option (List UInt8)
  | [], _, out => some out
  | x :: xs, pre, out => if badP pre x then none else printL xs (pre ++ [x]) (out ++ sepS pre ++ oneS x)
def finS : Option (List UInt8) → List UInt8 × GErr
  | none => ([], .no 1)
  | some out => if 4096 < out.length then ([], .no 2) else (out, .nil)
noncomputable def printS (xs : List Par) : List UInt8 × GErr := if 32 < xs.length then ([], .no 1) else finS (printL xs [] [])
def PrintPost (r : List UInt8 × GErr) (w : World) (e : Ending) (w' : World) : Prop := ∃ er, e = .returned (.tuple #[strV r.1, er]) ∧ IsErr w' r.2 er ∧ Below w.heap.size w w'
theorem PrintPost.mk {r : List UInt8 × GErr} {l : List UInt8} {g : GErr} {w w' : World} {er : Value} (h : r = (l, g)) (he : IsErr w' g er) (hb : Below w.heap.size w w') : PrintPost r w (.returned (.tuple #[strV l, er])) w' := ⟨er, by rw [h], by rw [h]; exact he, hb⟩
theorem printL_bad {x : Par} {xs pre : List Par} {out : List UInt8} (h : badP pre x) : printL (x :: xs) pre out = none := by rw [printL, if_pos h]
theorem printL_good {x : Par} {xs pre : List Par} {out : List UInt8} (h : ¬ badP pre x) : printL (x :: xs) pre out = printL xs (pre ++ [x]) (out ++ sepS pre ++ oneS x) := by rw [printL, if_neg h]
/-- How the loop stands. -/
def PriRel (xs : List Par) (R : Option (List UInt8)) (B : Nat) (w : World) (vi : Value) (wr : World) : Prop :=
  ∃ (i : Nat) (out : List UInt8), i ≤ xs.length ∧ vi = .int .i64 i ∧ printL (xs.drop i) (xs.take i) out = R ∧ out.length ≤ i * 20000 ∧ Bld B B out wr ∧ Below B w wr ∧ B ≤ wr.heap.size
theorem c_take {w : World} {A : Option Addr} {xs : List Par} (h : k45.C w A xs.length xs) (i : Nat) (hi : i ≤ xs.length) : k45.C w A (xs.take i).length (xs.take i) := by
  obtain ⟨h1, h2, h3⟩ := h
  refine ⟨rfl, by rw [List.length_take]; omega, fun h0 => ?_⟩
  rw [List.length_take] at h0
  obtain ⟨ad, ha, hq⟩ := h3 (by omega)
  refine ⟨ad, ha, fun j p hj => hq j p ?_⟩
  rw [List.getElem?_take] at hj
  split at hj
  · exact hj
  · cases hj
/-- The world within a round. -/
structure PW (w : World) (t : Nat) (x : Par) (out : List UInt8) (y : World) : Prop where
  below : Below w.heap.size w y
  bld : Bld w.heap.size w.heap.size out y
  box : y.heap[t]? = some (.cells #[.string x.f0, .string x.f1] 45 (0, 0))
  gt : w.heap.size < t
theorem PW.cells {w : World} {t : Nat} {x : Par} {out : List UInt8} {y : World} (h : PW w t x out y) : y.cell? ⟨t, 0, none⟩ = some (.string x.f0) ∧ y.cell? ⟨t, 1, none⟩ = some (.string x.f1) := by
  have h9 := h.box
  exact ⟨by simp [World.cell?, h9], by simp [World.cell?, h9]⟩
theorem PW.new {w : World} {t : Nat} {x : Par} {out : List UInt8} {y y' : World} (h : PW w t x out y) (hb : Below y.heap.size y y') : PW w t x out y' := ⟨below_then h.below hb, h.bld.below hb, (hb.block t (lt_of_heap2 h.box)).trans h.box, h.gt⟩
theorem PW.dn {w : World} {t : Nat} {x : Par} {out : List UInt8} {y : World} (h : PW w t x out y) : PW w t x out y.drew := h.new ((Below.refl _ y).drew)
theorem PW.put {w : World} {t : Nat} {x : Par} {out out' : List UInt8} {y y' : World} (h : PW w t x out y) (hl : Bld w.heap.size w.heap.size out' y') (hb : Below w.heap.size y y') (hk : BldK w.heap.size y y') : PW w t x out' y' := ⟨h.below.trans hb, hl, hk t _ _ _ (by have := h.gt; omega) (by decide) h.box, h.gt⟩
theorem PW.le {w : World} {t : Nat} {x : Par} {out : List UInt8} {y : World} (h : PW w t x out y) : w.heap.size ≤ y.heap.size := h.below.size
set_option maxHeartbeats 8000000 in
set_option maxRecDepth 20000 in
theorem print_any (A : Option Addr) (c : Nat) (xs : List Par) (w : World) (hC : k45.C w A xs.length xs) (hc : xs.length ≤ c) (hn : xs.length ≤ 100) (hsz : ∀ x ∈ xs, x.f0.size ≤ 3000 ∧ x.f1.size ≤ 3000) (hg : ErrorType w) (hL : LeastAt w) : Calls Tryd.prog 14 #[.slice A xs.length c] w (PrintPost (printS xs) w) := by
  have HG := hid hg
  have HL := hid hL
  have hgl := hg.lt
  have hll := LeastAt.lt hL
  have HC := hid hC
  have HSZ := hid hsz
  have kc := fun (w : World) (s : ByteArray) => Lib.run_convert_string_bytes (P := Tryd.prog) w 9 59 5 s Tryd.underlying9 Tryd.underlying59 Tryd.underlying5
  clear hg hL hC hsz
  by_cases hbig : 32 < xs.length
  · have HP : Hid (printS xs = ([], .no 1)) := hid (by unfold printS; rw [if_pos hbig])
    have t0 : decide ((32 : Int) < (xs.length : Int)) = true := decide_eq_true (by omega)
    clear kc
    go_enter Tryd.func14, Tryd.ntmps14
    go_wp2_with fail
    go_ret2
    exact PrintPost.mk HP.out rfl (Below.refl _ _)
  · have t0 : decide ((32 : Int) < (xs.length : Int)) = false := decide_eq_false (by omega)
    obtain ⟨R, hR⟩ : ∃ R, printL xs [] [] = R := ⟨_, rfl⟩
    have HP : Hid (printS xs = finS R) := hid (by unfold printS; rw [if_neg hbig, hR])
    have HR := hid hR
    clear hR
    go_enter Tryd.func14, Tryd.ntmps14
    go_wp2_with fail
    go_loopw [15] (fun vi wr => PriRel xs R w.heap.size w vi wr) (fun vi _ => xs.length - (intOf vi).toNat)
    case atStart => exact ⟨0, [], Nat.zero_le _, rfl, by rw [List.drop_zero, List.take_zero]; exact HR.out, by simp, bld_new w, (Below.refl _ w).alloc (Nat.le_refl _) _, by simp⟩
    case round =>
      obtain ⟨i, out, hi, rfl, hpl, hol, hb, hbw, hs⟩ := hrel
      have HB := hid hb
      have HBW := hid hbw
      have HPL := hid hpl
      by_cases hlt : i < xs.length
      · have t1 : decide ((i : Int) < (xs.length : Int)) = true := decide_eq_true (by omega)
        obtain ⟨x, hx⟩ : ∃ x, xs[i]? = some x := ⟨xs[i]'hlt, by simp⟩
        obtain ⟨hx0, hx1⟩ := HSZ.out x (List.mem_of_getElem? hx)
        have hdr : xs.drop i = x :: xs.drop (i + 1) := by
          rw [List.drop_eq_getElem_cons hlt]
          rw [List.getElem?_eq_getElem hlt] at hx
          rw [Option.some.inj hx]
        have htk : xs.take i ++ [x] = xs.take (i + 1) := by
          rw [List.take_succ_eq_append_getElem hlt]
          rw [List.getElem?_eq_getElem hlt] at hx
          rw [Option.some.inj hx]
        rw [hdr] at hpl
        have HPX := hid hpl
        have HTK := hid htk
        have hC2 := Kd.C_below HC.out hbw
        have p0 : (0 : Int) ≤ (i : Int) := by omega
        have p1 : (i : Int) < (xs.length : Int) := by omega
        have p2 : (i : Int) ≤ (c : Int) := by omega
        obtain ⟨ad, rfl, e0, e1⟩ := at_T45 hC2 (i : Int) (by omega) (by omega)
        simp only [Int.toNat_natCast] at e0 e1
        have hrd : rd_T45 xs (i : Int) = x := by unfold rd_T45; rw [Int.toNat_natCast, List.getD_eq_getElem?_getD, hx]; rfl
        rw [hrd] at e0 e1
        have hC3 := hid (c_take hC2 i (by omega))
        clear hC2 hrd hx hdr hpl htk hb hbw
        go_wp2_with fail
        obtain ⟨wa, hwa⟩ : ∃ wa, wr.alloc (.cells #[.string x.f0, .string x.f1] 45) = wa := ⟨_, rfl⟩
        rw [hwa]
        have hba : Below wr.heap.size wr wa := hwa ▸ (Below.refl _ wr).alloc (Nat.le_refl _) _
        have hha : wa.heap[wr.heap.size]? = some (.cells #[.string x.f0, .string x.f1] 45 (0, 0)) := by rw [← hwa]; exact heap_alloc_new wr _
        have HBA := hid (below_then HBW.out hba)
        have HHA := hid hha
        have HBB := hid (HB.out.below hba)
        have HSA : Hid (∀ y, Below wa.heap.size wa y → Below wa.heap.size wa y ∧ y.cell? ⟨wr.heap.size, 0, none⟩ = some (.string x.f0) ∧ y.cell? ⟨wr.heap.size, 1, none⟩ = some (.string x.f1)) := hid (fun y hy => by
          have h9 := (hy.block wr.heap.size (lt_of_heap hha)).trans hha
          exact ⟨hy, by simp [World.cell?, h9], by simp [World.cell?, h9]⟩)
        have hti : (xs.take i).length = i := by rw [List.length_take]; omega
        have HGT : Hid (∀ y, Below wa.heap.size wa y → Calls Tryd.prog 16 #[.slice (some ad) i c, .string x.f0] y (GetPost (getS (xs.take i) x.f0) y)) := hid (fun y hy => by
          have h9 := get_any y (some ad) c (xs.take i) x.f0 (Kd.C_below (Kd.C_below hC3.out hba) hy) (by omega) (by omega)
          rw [hti] at h9
          exact h9)
        have hsa : w.heap.size ≤ wa.heap.size := HBA.out.size
        have HTI := hid hti
        clear hwa hba hha e0 e1 hC3 hti
        obtain ⟨o, ho⟩ : ∃ o, getS (xs.take i) x.f0 = o := ⟨_, rfl⟩
        rw [ho] at HGT
        have HO := hid ho
        clear ho
        obtain ⟨v0, b0, hv⟩ : ∃ v0 b0, getV o = .tuple #[.string v0, .bool b0] ∧ (b0 = o.isSome) := by
          cases o with
          | none => exact ⟨_, _, rfl, rfl⟩
          | some v => exact ⟨_, _, rfl, rfl⟩
        have HV := hid hv.1
        have HV2 := hid hv.2
        clear hv
        go_region_held3 (fun y => Below wa.heap.size wa y ∧ y.cell? ⟨wr.heap.size, 0, none⟩ = some (.string x.f0) ∧ y.cell? ⟨wr.heap.size, 1, none⟩ = some (.string x.f1))
          (first | exact HSA.out _ HB2.out | exact HSA.out _ ((Below.refl _ wa).drew))
          ((go_at_call 16; refine (HGT.out _ ((Below.refl _ wa).drew)).mono ?_; rintro e y ⟨he, hb2⟩; rw [HV.out] at he; subst he; have HB2 := hid ((Below.refl wa.heap.size wa).drew.trans hb2); clear hb2))
        have BADR : Hid (badP (xs.take i) x → printS xs = ([], .no 1)) := hid (fun h => by
          rw [HP.out, ← HPX.out, printL_bad h]; rfl)
        have hy1 := HBA.out.trans (HB2.out.mono hsa)
        have HY1 := hid hy1
        have HBY := hid (HBB.out.below HB2.out)
        obtain ⟨_, c0, c1⟩ := HSA.out y HB2.out
        clear hy1
        cases o with
        | some v =>
          have hb0 : b0 = true := HV2.out
          subst hb0
          have HR2 := hid (BADR.out (.inl (by rw [HO.out]; rfl)))
          go_wp2_with fail
          go_ret2
          exact PrintPost.mk HR2.out rfl HY1.out
        | none =>
          have hb0 : b0 = false := HV2.out
          subst hb0
          by_cases hz : x.f0.size = 0
          · have hn0 : x.f0.toList = [] := str_empty x.f0 hz
            have HR2 := hid (BADR.out (.inr (.inl hz)))
            clear hz
            go_wp2_with fail
            go_ret2
            exact PrintPost.mk HR2.out rfl HY1.out
          · have hn1 : 0 < x.f0.size := by omega
            have hn2 := str_ne_empty x.f0 hn1
            have hn3 := str_not_empty x.f0 hn1
            have hn4 : (x.f0.toList == ([] : List UInt8)) = false := by simpa using hn3
            have hn5 : x.f0.toList.isEmpty = false := by simpa using hn3
            have HK1 := hid (chk_any x.f0 y (LeastAt.below HL.out HY1.out hll) (by omega))
            have k1 := fun (w : World) => kc w x.f0
            have k2 := fun (w : World) => kc w x.f1
            by_cases hb1 : 0 ≤ badS x.f0.data.toList
            · have HR2 := hid (BADR.out (.inr (.inr (.inl hb1))))
              have hE : checkE x.f0.data.toList = .at_ (badS x.f0.data.toList) 30 := by unfold checkE; rw [if_neg (by omega)]
              rw [hE] at HK1
              clear hE
              go_wp2_with fail
              refine HK1.out.mono ?_
              clear HK1
              rintro e y2 ⟨v4, rfl, ⟨eb, eo, rfl, _, _⟩, hb4⟩
              have HY2 := hid (below_then HY1.out hb4)
              clear hb4 c0 c1
              go_wp2_with fail
              go_ret2
              exact PrintPost.mk HR2.out rfl HY2.out
            · have hE : checkE x.f0.data.toList = .nil := by unfold checkE; rw [if_pos (by omega)]
              rw [hE] at HK1
              clear hE
              go_wp2_with fail
              refine HK1.out.mono ?_
              clear HK1
              rintro e y2 ⟨v4, rfl, he4, hb4⟩
              obtain rfl : v4 = .nilIface := he4
              have HY2 := hid (below_then HY1.out hb4)
              have HB4 := hid (below_then HB2.out hb4)
              have HBY2 := hid (HBY.out.below hb4)
              clear hb4 c0 c1
              obtain ⟨_, c0, c1⟩ := HSA.out y2 HB4.out
              have HK2 := hid (chk_any x.f1 y2 (LeastAt.below HL.out HY2.out hll) (by omega))
              by_cases hb2 : 0 ≤ badS x.f1.data.toList
              · have HR2 := hid (BADR.out (.inr (.inr (.inr hb2))))
                have hE : checkE x.f1.data.toList = .at_ (badS x.f1.data.toList) 30 := by unfold checkE; rw [if_neg (by omega)]
                rw [hE] at HK2
                clear hE
                go_wp2_with fail
                refine HK2.out.mono ?_
                clear HK2
                rintro e y3 ⟨v5, rfl, ⟨eb, eo, rfl, _, _⟩, hb5⟩
                have HY3 := hid (below_then HY2.out hb5)
                clear hb5 c0 c1
                go_wp2_with fail
                go_ret2
                exact PrintPost.mk HR2.out rfl HY3.out
              · have hE : checkE x.f1.data.toList = .nil := by unfold checkE; rw [if_pos (by omega)]
                rw [hE] at HK2
                clear hE
                have HGOOD : Hid (¬ badP (xs.take i) x) := hid (by
                  rintro (h9 | h9 | h9 | h9)
                  · rw [HO.out] at h9; cases h9
                  · exact hz h9
                  · omega
                  · omega)
                go_wp2_with fail
                refine HK2.out.mono ?_
                clear HK2
                rintro e y3 ⟨v5, rfl, he5, hb5⟩
                obtain rfl : v5 = .nilIface := he5
                have HY3 := hid (below_then HY2.out hb5)
                have HB5 := hid (below_then HB4.out hb5)
                have HBY3 := hid (HBY2.out.below hb5)
                clear hb5 c0 c1 hn1 hn2 hn3 hn4 hn5 hb1 hb2 k1 k2
                obtain ⟨_, c0, c1⟩ := HSA.out y3 HB5.out
                have hsy3 := HY3.out.size
                by_cases hi0 : i = 0
                · have t5 : decide ((0 : Int) < (i : Int)) = false := decide_eq_false (by omega)
                  have HSEP : Hid (sepS (xs.take i) = []) := hid (by unfold sepS; rw [HTI.out, if_pos hi0])
                  obtain ⟨E0, hE0, hE0l⟩ : ∃ E : ByteArray, strV (escS x.f0.data.toList) = .string E ∧ E.data.toList = escS x.f0.data.toList := ⟨⟨(escS x.f0.data.toList).toArray⟩, rfl, by simp⟩
                  obtain ⟨E1, hE1, hE1l⟩ : ∃ E : ByteArray, strV (escS x.f1.data.toList) = .string E ∧ E.data.toList = escS x.f1.data.toList := ⟨⟨(escS x.f1.data.toList).toArray⟩, rfl, by simp⟩
                  have he0 : E0.size ≤ 9000 := by have h1 := str_len E0; have h2 := escS_le x.f0.data.toList; rw [str_len] at h2; rw [hE0l] at h1; omega
                  have he1 : E1.size ≤ 9000 := by have h1 := str_len E1; have h2 := escS_le x.f1.data.toList; rw [str_len] at h2; rw [hE1l] at h1; omega
                  have a0 := fun w' => run_string_add_sum (P := Tryd.prog) w' E0 ⟨#[61]⟩ (by show E0.size + 1 ≤ _; omega)
                  have hsz1 : (E0 ++ ⟨#[61]⟩ : ByteArray).size = E0.size + 1 := by rw [ByteArray.size_append]; rfl
                  obtain ⟨E2, hE2⟩ : ∃ E2, E0 ++ (⟨#[61]⟩ : ByteArray) = E2 := ⟨_, rfl⟩
                  rw [hE2] at a0 hsz1
                  have a1 := fun w' => run_string_add_sum (P := Tryd.prog) w' E2 E1 (by omega)
                  have hsz2 : (E2 ++ E1).size = E2.size + E1.size := by simp
                  obtain ⟨E3, hE3⟩ : ∃ E3, E2 ++ E1 = E3 := ⟨_, rfl⟩
                  rw [hE3] at a1 hsz2
                  have hE3l : E3.data.toList = oneS x := by unfold oneS; rw [← hE3, ← hE2, ← hE0l, ← hE1l]; simp
                  have X0 := hid hE0
                  have X1 := hid hE1
                  have X3 := hid hE3l
                  have hx0' : x.f0.size ≤ 1048576 := by omega
                  have hx1' : x.f1.size ≤ 1048576 := by omega
                  clear hE0 hE1 hE2 hE3 hE0l hE1l hE3l
                  have hpw : PW w wr.heap.size x out y3 := ⟨HY3.out, HBY3.out, (HB5.out.block wr.heap.size (lt_of_heap2 HHA.out)).trans HHA.out, HB.out.lt⟩
                  have HPW := hid hpw
                  clear hpw
                  have T0 := hid HPW.out
                  clear c0 c1
                  go_wp2_with fail
                  have hlen6 : out.length + E3.size ≤ 140737488355328 := by omega
                  go_region_held3 (fun y => y.cell? ⟨wr.heap.size, 0, none⟩ = some (.string x.f0) ∧ y.cell? ⟨wr.heap.size, 1, none⟩ = some (.string x.f1))
                    (first | exact T3.out.cells | exact T2.out.cells | exact T1.out.cells | exact T0.out.dn.cells)
                    (first
                      | (go_at_call 28; refine (bld_text2 _ _ _ E3 _ T2.out.bld hlen6 T2.out.le).mono ?_; rintro e y7 ⟨rfl, hq1, hq2, hq3⟩; have T3 := hid (T2.out.put hq1 hq2 hq3); clear hq1 hq2 hq3)
                      | (go_at_call 20; refine (escape_any _ _ (by first | (exact hx0') | (exact hx1'))).mono ?_; rintro e y6 ⟨he, hq⟩; (first | (rw [X0.out] at he) | (rw [X1.out] at he)); subst he; have T2 := hid (T1.out.new hq); clear hq)
                      | (go_at_call 20; refine (escape_any _ _ (by first | (exact hx0') | (exact hx1'))).mono ?_; rintro e y5 ⟨he, hq⟩; (first | (rw [X0.out] at he) | (rw [X1.out] at he)); subst he; have T1 := hid (T0.out.dn.new hq); clear hq))
                  all_goals go_wp2
                  refine ⟨⟨i + 1, out ++ sepS (xs.take i) ++ oneS x, by omega, by first | (congr 1; done) | (simp [hi0]; done) | (rw [hi0]; rfl), by rw [← HTK.out, ← printL_good HGOOD.out]; exact HPX.out, ?_, ?_, T3.out.below, T3.out.le⟩, by simp [intOf] <;> omega⟩
                  · rw [List.length_append, List.length_append]
                    have h8 := congrArg List.length X3.out
                    rw [str_len] at h8
                    have h9 : (sepS (xs.take i)).length ≤ 1 := by unfold sepS; split <;> simp
                    omega
                  · have h9 := T3.out.bld
                    rw [X3.out] at h9
                    rw [HSEP.out, List.append_nil]
                    exact h9
                · have t5 : decide ((0 : Int) < (i : Int)) = true := decide_eq_true (by omega)
                  have HSEP : Hid (sepS (xs.take i) = [38]) := hid (by unfold sepS; rw [HTI.out, if_neg hi0])
                  obtain ⟨E0, hE0, hE0l⟩ : ∃ E : ByteArray, strV (escS x.f0.data.toList) = .string E ∧ E.data.toList = escS x.f0.data.toList := ⟨⟨(escS x.f0.data.toList).toArray⟩, rfl, by simp⟩
                  obtain ⟨E1, hE1, hE1l⟩ : ∃ E : ByteArray, strV (escS x.f1.data.toList) = .string E ∧ E.data.toList = escS x.f1.data.toList := ⟨⟨(escS x.f1.data.toList).toArray⟩, rfl, by simp⟩
                  have he0 : E0.size ≤ 9000 := by have h1 := str_len E0; have h2 := escS_le x.f0.data.toList; rw [str_len] at h2; rw [hE0l] at h1; omega
                  have he1 : E1.size ≤ 9000 := by have h1 := str_len E1; have h2 := escS_le x.f1.data.toList; rw [str_len] at h2; rw [hE1l] at h1; omega
                  have a0 := fun w' => run_string_add_sum (P := Tryd.prog) w' E0 ⟨#[61]⟩ (by show E0.size + 1 ≤ _; omega)
                  have hsz1 : (E0 ++ ⟨#[61]⟩ : ByteArray).size = E0.size + 1 := by rw [ByteArray.size_append]; rfl
                  obtain ⟨E2, hE2⟩ : ∃ E2, E0 ++ (⟨#[61]⟩ : ByteArray) = E2 := ⟨_, rfl⟩
                  rw [hE2] at a0 hsz1
                  have a1 := fun w' => run_string_add_sum (P := Tryd.prog) w' E2 E1 (by omega)
                  have hsz2 : (E2 ++ E1).size = E2.size + E1.size := by simp
                  obtain ⟨E3, hE3⟩ : ∃ E3, E2 ++ E1 = E3 := ⟨_, rfl⟩
                  rw [hE3] at a1 hsz2
                  have hE3l : E3.data.toList = oneS x := by unfold oneS; rw [← hE3, ← hE2, ← hE0l, ← hE1l]; simp
                  have X0 := hid hE0
                  have X1 := hid hE1
                  have X3 := hid hE3l
                  have hx0' : x.f0.size ≤ 1048576 := by omega
                  have hx1' : x.f1.size ≤ 1048576 := by omega
                  clear hE0 hE1 hE2 hE3 hE0l hE1l hE3l
                  have hpw : PW w wr.heap.size x out y3 := ⟨HY3.out, HBY3.out, (HB5.out.block wr.heap.size (lt_of_heap2 HHA.out)).trans HHA.out, HB.out.lt⟩
                  have HPW := hid hpw
                  clear hpw
                  go_wp2_with fail
                  refine (bld_byte2 _ _ _ 38 _ HBY3.out (by omega) hsy3).mono ?_
                  rintro e y4 ⟨rfl, hb6, hbl6, hbk6⟩
                  have T0 := hid (HPW.out.put hb6 hbl6 hbk6)
                  clear hb6 hbl6 hbk6 c0 c1
                  go_wp2_with fail
                  have hlen6 : (out ++ [(38 : UInt8)]).length + E3.size ≤ 140737488355328 := by rw [List.length_append]; simp; omega
                  go_region_held3 (fun y => y.cell? ⟨wr.heap.size, 0, none⟩ = some (.string x.f0) ∧ y.cell? ⟨wr.heap.size, 1, none⟩ = some (.string x.f1))
                    (first | exact T3.out.cells | exact T2.out.cells | exact T1.out.cells | exact T0.out.dn.cells)
                    (first
                      | (go_at_call 28; refine (bld_text2 _ _ _ E3 _ T2.out.bld hlen6 T2.out.le).mono ?_; rintro e y7 ⟨rfl, hq1, hq2, hq3⟩; have T3 := hid (T2.out.put hq1 hq2 hq3); clear hq1 hq2 hq3)
                      | (go_at_call 20; refine (escape_any _ _ (by first | (exact hx0') | (exact hx1'))).mono ?_; rintro e y6 ⟨he, hq⟩; (first | (rw [X0.out] at he) | (rw [X1.out] at he)); subst he; have T2 := hid (T1.out.new hq); clear hq)
                      | (go_at_call 20; refine (escape_any _ _ (by first | (exact hx0') | (exact hx1'))).mono ?_; rintro e y5 ⟨he, hq⟩; (first | (rw [X0.out] at he) | (rw [X1.out] at he)); subst he; have T1 := hid (T0.out.dn.new hq); clear hq))
                  all_goals go_wp2
                  refine ⟨⟨i + 1, out ++ sepS (xs.take i) ++ oneS x, by omega, by congr 1, by rw [← HTK.out, ← printL_good HGOOD.out]; exact HPX.out, ?_, ?_, T3.out.below, T3.out.le⟩, by simp [intOf] <;> omega⟩
                  · rw [List.length_append, List.length_append]
                    have h8 := congrArg List.length X3.out
                    rw [str_len] at h8
                    have h9 : (sepS (xs.take i)).length ≤ 1 := by unfold sepS; split <;> simp
                    omega
                  · have h9 := T3.out.bld
                    rw [X3.out] at h9
                    rw [HSEP.out]
                    exact h9
      · have hieq : i = xs.length := by omega
        subst hieq
        have t1 : decide ((xs.length : Int) < (xs.length : Int)) = false := decide_eq_false (by omega)
        rw [List.drop_length] at hpl
        have hR2 : R = some out := hpl.symm
        clear hb hbw
        by_cases hlong : 4096 < out.length
        · have HR3 : Hid (printS xs = ([], .no 2)) := hid (by rw [HP.out, hR2]; show (if 4096 < out.length then (([], GErr.no 2) : List UInt8 × GErr) else (out, .nil)) = _; rw [if_pos hlong])
          have t5 : decide ((4096 : Int) < (out.length : Int)) = true := decide_eq_true (by omega)
          clear hR2 hpl
          go_wp2_with (go_at_call 29; refine (bld_len _ _ _ _ HB.out).mono ?_; rintro e w' ⟨rfl, he⟩; rw [← he]; clear he w')
          go_ret2
          exact PrintPost.mk HR3.out rfl HBW.out
        · have HR3 : Hid (printS xs = (out, .nil)) := hid (by rw [HP.out, hR2]; show (if 4096 < out.length then (([], GErr.no 2) : List UInt8 × GErr) else (out, .nil)) = _; rw [if_neg hlong])
          have t5 : decide ((4096 : Int) < (out.length : Int)) = false := decide_eq_false (by omega)
          clear hR2 hpl
          go_wp2_with (first
            | (go_at_call 29; refine (bld_len _ _ _ _ HB.out).mono ?_; rintro e w' ⟨rfl, he⟩; rw [← he]; clear he w')
            | (go_at_call 30; refine (bld_string _ _ _ _ HB.out hs).mono ?_; intro e w2 hq; obtain ⟨rfl, _, hbl2⟩ := hq; have HBL2 := hid hbl2; clear hbl2))
          go_ret2
          exact PrintPost.mk HR3.out rfl (HBW.out.trans HBL2.out)
end Go.Proofs.YtgdbjkkanjgbnaaDoor.Url

namespace Go.Proofs.YtgdbjkkanjgbnaaDoor.Url
open Go.RowKit Go.ChangeShapes Go.WideShapes Go.ChangeAt Go.Deep Go.Proofs.YtgdbjkkanjgbnaaDoor
open Go.Proofs.YtgdbjkkanjgbnaaDoorW.PrintWords (Kd ReadsRow add_field)
open Go.Proofs.YtgdbjkkanjgbnaaDoor.PUrlencParses
set_option linter.unusedVariables false
/-- A list of parameters that came in. -/
def ParsIn (W : World) (v : Value) (xs : List Par) : Prop := ∃ A c, v = .slice A xs.length c ∧ xs.length ≤ c ∧ k45.C W A xs.length xs
section
variable {H : Type} {enc : TypeId × Value → H} {W : World}
theorem open_pars {a : Option Addr} {len cap : Nat} {d : DataW H} {ps : List MemPlace} (h : DataW.Trod enc Tryd.prog W 0 (fun _ => true) true 23 (.slice a len cap) d ps) :
    ∃ l : List Par, ParsIn W (.slice a len cap) l := by
  obtain ⟨fuel, hf⟩ := h
  have h1 : Tryd.prog.cellsOf 9 = 1 := by kernel_rfl
  rcases open_slice_pairs Tryd.underlying23 Tryd.underlying45 (by kernel_rfl) rfl rfl (by kernel_rfl) (by kernel_rfl) hf with ⟨hcs, _⟩ | ⟨x, l, c, m, n, V0, V1, D0, D1, P0, P1, hcs, _, hl, hm, hmm, _, hel⟩
  · simp [Value.cells] at hcs
    obtain ⟨rfl, rfl, rfl⟩ := hcs
    exact ⟨[], none, 0, rfl, by simp, rfl, by simp, fun h => absurd h (by simp)⟩
  · simp [Value.cells] at hcs
    obtain ⟨rfl, rfl, rfl⟩ := hcs
    rw [if_pos rfl] at hmm
    subst hmm
    have hel' : ∀ i, ∃ s t : ByteArray, i < len → W.cell? (x.add (i * 2)) = some (.string s) ∧ W.cell? (x.add (i * 2 + 1)) = some (.string t) := by
      intro i
      by_cases hi : i < len
      · obtain ⟨q1, q2, q3, q4⟩ := hel i (by omega)
        obtain ⟨s, q5, _, _⟩ := DataW.trod_string Tryd.underlying9 q3
        obtain ⟨t, q6, _, _⟩ := DataW.trod_string Tryd.underlying9 q4
        simp only [List.cons.injEq, and_true] at q5 q6
        exact ⟨s, t, fun _ => ⟨by rw [q1, q5], by rw [q2, q6]⟩⟩
      · exact ⟨⟨#[]⟩, ⟨#[]⟩, fun h => absurd h hi⟩
    obtain ⟨f, hf⟩ : ∃ f : Nat → Par, ∀ i, i < len → W.cell? (x.add (i * 2)) = some (.string (f i).f0) ∧ W.cell? (x.add (i * 2 + 1)) = some (.string (f i).f1) :=
      ⟨fun i => ⟨Classical.choose (hel' i), Classical.choose (Classical.choose_spec (hel' i))⟩, fun i => Classical.choose_spec (Classical.choose_spec (hel' i))⟩
    refine ⟨(List.range len).map f, some x, m, by simp, by simp; omega, by simp, by simp; unfold maxLen at *; omega, fun h0 => ⟨x, rfl, fun j p hp => ?_⟩⟩
    have hj : j < len := by have := (List.getElem?_eq_some_iff.1 hp).1; simpa using this
    have hp' : p = f j := by simpa [hj] using hp.symm
    subst hp'
    refine ⟨[.string (f j).f0, .string (f j).f1], rfl, k45_mk W _, fun i u hu => ?_⟩
    have hsz : k45.sz = 2 := rfl
    rw [hsz]
    match i, hu with
    | 0, hu => cases hu; exact (hf j hj).1
    | 1, hu => cases hu; exact (hf j hj).2
    | (i + 2), hu => simp at hu
end
end Go.Proofs.YtgdbjkkanjgbnaaDoor.Url

namespace Go.Proofs.YtgdbjkkanjgbnaaDoor.Url
open Go.RowKit Go.Proofs.YtgdbjkkanjgbnaaDoor
set_option linter.unusedVariables false
set_option linter.unusedSimpArgs false
theorem hex_nib : ∀ n : Fin 16, nibB (hexU n.val) = some n.val := by decide +kernel
theorem unF_esc (l : List UInt8) : ∀ (pre L : List UInt8) (out : List UInt8) (f : Nat), L = pre ++ escS l → L.length < f + pre.length → unF f L pre.length out = (out ++ l, -1) := by
  induction l with
  | nil =>
    intro pre L out f hL hf
    rw [unF_end _ _ _ _ (by rw [hL]; simp [escS])]
    simp
  | cons c l ih =>
    intro pre L out f hL hf
    have he : escS (c :: l) = escB c ++ escS l := by simp [escS]
    rw [he] at hL
    have hcl := c.toNat_lt
    by_cases hp : plB c = true
    · have hb : escB c = [c] := by unfold escB; rw [if_pos hp]
      rw [hb] at hL
      have hg : L[pre.length]? = some c := by rw [hL]; simp
      have h37 : ¬ c.toNat = 37 := by intro e; unfold plB at hp; rw [e] at hp; exact absurd hp (by decide)
      have h43 : ¬ c.toNat = 43 := by intro e; unfold plB at hp; rw [e] at hp; exact absurd hp (by decide)
      have hs : unStep L pre.length = some (c, 1) := by rw [un_at hg, if_neg h37, if_neg h43]
      have hi : pre.length < L.length := by rw [hL]; simp
      rw [unF_step hf hi hs]
      have h9 := ih (pre ++ [c]) L (out ++ [c]) f (by rw [hL]; simp) (by simp; omega)
      rw [List.length_append] at h9
      simpa using h9
    · by_cases h32 : c.toNat = 32
      · have hb : escB c = [43] := by unfold escB; rw [if_neg hp, if_pos h32]
        rw [hb] at hL
        have hg : L[pre.length]? = some 43 := by rw [hL]; simp
        have hs : unStep L pre.length = some (32, 1) := by rw [un_at hg]; rfl
        have hc : c = 32 := UInt8.toNat_inj.1 h32
        have hi : pre.length < L.length := by rw [hL]; simp
        rw [unF_step hf hi hs]
        have h9 := ih (pre ++ [43]) L (out ++ [32]) f (by rw [hL]; simp) (by simp; omega)
        rw [List.length_append] at h9
        rw [hc]
        simpa using h9
      · have hb : escB c = [37, hexU (c.toNat / 16), hexU (c.toNat % 16)] := by unfold escB; rw [if_neg hp, if_neg h32]
        rw [hb] at hL
        have hg : L[pre.length]? = some 37 := by rw [hL]; simp
        have n1 : nibAt L (pre.length + 1) = some (c.toNat / 16) := by
          have : L[pre.length + 1]? = some (hexU (c.toNat / 16)) := by rw [hL]; simp
          unfold nibAt; rw [this]; exact hex_nib ⟨c.toNat / 16, by omega⟩
        have n2 : nibAt L (pre.length + 2) = some (c.toNat % 16) := by
          have : L[pre.length + 2]? = some (hexU (c.toNat % 16)) := by rw [hL]; simp
          unfold nibAt; rw [this]; exact hex_nib ⟨c.toNat % 16, by omega⟩
        have hs : unStep L pre.length = some (c, 3) := by
          rw [un_at hg, n1, n2]
          have e : UInt8.ofNat (c.toNat / 16 * 16 + c.toNat % 16) = c := by
            apply UInt8.toNat_inj.1
            rw [UInt8.toNat_ofNat', Nat.mod_eq_of_lt (by omega)]
            omega
          show some (UInt8.ofNat (c.toNat / 16 * 16 + c.toNat % 16), 3) = _
          rw [e]
        have hi : pre.length < L.length := by rw [hL]; simp
        rw [unF_step hf hi hs]
        have h9 := ih (pre ++ [37, hexU (c.toNat / 16), hexU (c.toNat % 16)]) L (out ++ [c]) f (by rw [hL]; simp) (by simp; omega)
        rw [List.length_append] at h9
        simpa using h9
theorem un_esc (l : List UInt8) : unS (escS l) = (l, -1) := by
  have h := unF_esc l [] (escS l) [] ((escS l).length + 1) rfl (by simp)
  simpa [unS] using h
/-- The signs of a text. -/
theorem esc_no (c : UInt8) (l : List UInt8) : c ∈ escS l → c.toNat ≠ 38 ∧ c.toNat ≠ 61 := by
  intro h
  unfold escS at h
  rw [List.mem_flatMap] at h
  obtain ⟨d, _, hd⟩ := h
  have hdl := d.toNat_lt
  unfold escB at hd
  split at hd
  · rename_i hp
    simp at hd
    subst hd
    constructor <;> (intro e; unfold plB at hp; rw [e] at hp; exact absurd hp (by decide))
  · split at hd
    · simp at hd; subst hd; decide
    · have hx : ∀ n : Fin 16, (hexU n.val).toNat ≠ 38 ∧ (hexU n.val).toNat ≠ 61 := by decide +kernel
      simp at hd
      rcases hd with rfl | rfl | rfl
      · decide
      · exact hx ⟨d.toNat / 16, by omega⟩
      · exact hx ⟨d.toNat % 16, by omega⟩
end Go.Proofs.YtgdbjkkanjgbnaaDoor.Url

namespace Go.Proofs.YtgdbjkkanjgbnaaDoor
open Go.RowKit
set_option linter.unusedVariables false
set_option linter.unusedSimpArgs false
theorem spmin2 (k k' : IntKind) (x y : Int) : Builtin.min2 (.int k x) (.int k' y) = pure (.int k (if y < x then y else x)) := by simp only [Builtin.min2]
theorem spmin_two (ats : Array TypeId) (ty : TypeId) (a b : Value) : Builtin.min_ ats ty #[a, b] = (Builtin.min2 a b >>= fun s => pure s) := by simp only [Builtin.min_, List.foldlM_cons, List.foldlM_nil]
attribute [local go_sem] spmin2 spmin_two
set_option maxHeartbeats 1000000 in
set_option maxRecDepth 100000 in
theorem lib_count1 (s : ByteArray) (c : UInt8) (w : World) :
    Calls Tryd.prog 46 #[.string s, .string ⟨#[c]⟩] w fun e w' => e = .returned (.int .i64 (s.data.toList.count c : Nat)) ∧ w' = w := by
  go_enter Tryd.func46, Tryd.ntmps46
  go_wp2
  rw [run_callFunc_extern Tryd.func57 (by kernel_rfl) (by kernel_rfl) (by kernel_rfl) (e := Extern.BytealgCount.count) (by kernel_rfl), Lib.run_countString]
  simp only [Result.andThen]
  rw [Oper.upon_value]
  go_wp2
  go_ret
  exact ⟨rfl, rfl⟩
theorem str_index1 (s : ByteArray) (c : UInt8) (w : World) :
    Calls Tryd.prog 47 #[.string s, .string ⟨#[c]⟩] w fun e w' => e = .returned (.int .i64 (Lib.indexByte s.data.toList c)) ∧ w' = w := by
  go_enter Tryd.func47, Tryd.ntmps47
  go_wp2_with (go_at_call 58; refine (lib_index1 _ _ _).mono ?_; rintro e w' ⟨rfl, he⟩; rw [he]; clear he w')
  go_ret
  exact ⟨rfl, rfl⟩
theorem sinfo : (Tryd.prog.info? 9).map (fun i => (i.zero, i.size, i.bytes)) = some (some (.string ⟨#[]⟩), 1, 16) := by kernel_rfl
/-- What Split answers: a slice of its own. -/
def SplitPost (c : UInt8) (l : List UInt8) (w : World) (e : Ending) (w' : World) : Prop :=
  ∃ (v : Value) (ps : List ByteArray), e = .returned v ∧ RowC w' v (ps.map Value.string) ∧ ps.map (fun p => p.data.toList) = splitS c l ∧ Below w.heap.size w w'
theorem own1_cell {w : World} {base g n c : Nat} {e : TypeId} {cs : List Value} (h : w.ownsRow base e 1 (.slice (some ⟨g, 0, none⟩) n c) n cs) : n ≤ c ∧ ∀ j v, cs[j]? = some v → w.cell? ⟨g, j, none⟩ = some v ∧ w.frozen? ⟨g, j, none⟩ = false := by
  rcases h.2 with ⟨e, _⟩ | ⟨g', cap, cur, e, hg, hh, hn, hm, hs, ht⟩
  · cases e
  · cases e
    refine ⟨hn, fun j v hv => ?_⟩
    have hj : j < n * 1 := by have := (List.getElem?_eq_some_iff.1 hv).1; rw [h.1] at this; exact this
    rw [← ht, List.getElem?_take, if_pos hj] at hv
    constructor
    · simp only [World.cell?, hh]
      simpa using hv
    · simp [World.frozen?, hh]
theorem set_take (cs : List Value) (q : Nat) (x : Value) (h : q < cs.length) : (cs.set q x).take (q + 1) = cs.take q ++ [x] := by
  rw [List.set_eq_take_append_cons_drop, if_pos h]
  have hl : (cs.take q ++ [x]).length = q + 1 := by simp; omega
  have e : cs.take q ++ x :: cs.drop (q + 1) = (cs.take q ++ [x]) ++ cs.drop (q + 1) := by simp
  rw [e, ← hl, List.take_left']
  rfl
/-- How the loop stands. -/
def SplRel (c : UInt8) (l : List UInt8) (G N : Nat) (w : World) (vs vi : Value) (wr : World) : Prop :=
  ∃ (s : ByteArray) (ps : List ByteArray) (cs : List Value), vs = .string s ∧ vi = .int .i64 ps.length ∧ ps.map (fun p => p.data.toList) ++ splitS c s.data.toList = splitS c l ∧ ps.length + s.data.toList.count c + 1 = N ∧ s.size ≤ 1048576 ∧
    wr.ownsRow w.heap.size 9 1 (.slice (some ⟨G, 0, none⟩) N N) N cs ∧ cs.take ps.length = ps.map Value.string ∧ Below w.heap.size w wr ∧ w.heap.size ≤ G ∧ G < wr.heap.size
set_option maxHeartbeats 4000000 in
set_option maxRecDepth 100000 in
theorem gen_any (s : ByteArray) (c : UInt8) (w : World) (hs : s.size ≤ 1048576) : Calls Tryd.prog 35 #[.string s, .string ⟨#[c]⟩, .int .i64 0, .int .i64 (-1)] w (SplitPost c s.data.toList w) := by
  have hln := str_len s
  have hcl : s.data.toList.count c ≤ s.size := by rw [← hln]; exact List.count_le_length
  obtain ⟨l, hl⟩ : ∃ l, s.data.toList = l := ⟨_, rfl⟩
  rw [hl] at hcl ⊢
  have HL := hid hl
  obtain ⟨N, hN⟩ : ∃ N, l.count c + 1 = N := ⟨_, rfl⟩
  obtain ⟨n, hn⟩ : ∃ n, l.count c = n := ⟨_, rfl⟩
  have hNn : N = n + 1 := by omega
  subst hNn
  have HN := hid hn
  rw [hn] at hcl
  clear hln hl hN hn
  have p0 : ¬ ((s.size : Int) + 1 < (n : Int) + 1) := by omega
  have p1 : (((n : Int) + 1)) = ((n + 1 : Nat) : Int) := by omega
  have HP1 := hid p1
  clear p1
  obtain ⟨ti, hi1, hi2, hi3, hi4⟩ := info_parts sinfo
  go_enter Tryd.func35, Tryd.ntmps35
  go_wp2_with (first
    | (go_at_call 46; refine (lib_count1 _ _ _).mono ?_; rintro e w' ⟨rfl, he⟩; rw [he]; clear he w'; rw [HL.out, HN.out])
    | (at_make; refine wpList_make_full _ rfl (.tmp 30) (.tmp 30) 47 rfl w.heap.size 9 ti (.string ⟨#[]⟩) 1 Tryd.underlying47 hi1 hi2 hi3 .i64 .i64 ((n : Int) + 1) ((n : Int) + 1) (n + 1) rfl rfl HP1.out HP1.out (by rw [hi4]; omega) (by have : maxLen = 9223372036854775807 := rfl; omega) (Nat.le_refl _) ?_; intro w1 ho hg; have HO := hid ho; have HG := hid hg; clear ho hg))
  go_loopw [0, 10] (fun vs vi wr => SplRel c l w.heap.size (n + 1) w vs vi wr) (fun _ vi _ => n - (intOf vi).toNat)
  case atStart =>
    exact ⟨s, [], _, rfl, rfl, by rw [HL.out]; rfl, by rw [HL.out, HN.out]; simp, hs, HO.out, by simp, ⟨HG.out.os, HG.out.tape, HG.out.output, HG.out.size, fun k hk => HG.out.block k hk (by simp)⟩, Nat.le_refl _, by
      rcases HO.out.2 with ⟨e, _⟩ | ⟨g', cap, cur, e, _, hh, _⟩
      · cases e
      · cases e; exact lt_of_heap hh⟩
  case round =>
    obtain ⟨t, ps, cs, rfl, rfl, hsp, hct, hts, ho, htk, hb, _, hGl⟩ := hrel
    have HSP := hid hsp
    have HO2 := hid ho
    have HTK := hid htk
    have HB := hid hb
    have hcl2 := ho.1
    obtain ⟨q, hq⟩ : ∃ q, ps.length = q := ⟨_, rfl⟩
    rw [hq] at hct htk ⊢
    have HQ := hid hq
    have hqc : q < cs.length := by omega
    obtain ⟨u, hu⟩ : ∃ u, cs[q]? = some u := ⟨cs[q], by simp⟩
    obtain ⟨g0, g1⟩ := (own1_cell ho).2 q u hu
    obtain ⟨cn, hcn⟩ : ∃ cn, t.data.toList.count c = cn := ⟨_, rfl⟩
    rw [hcn] at hct
    have HCN := hid hcn
    have htl := str_len t
    have r0 : (0 : Int) ≤ (q : Int) := by omega
    have r1 : (q : Int) < (n : Int) + 1 := by omega
    clear hsp ho htk hb hcl2 hq hu hcn
    by_cases hlt : q < n
    · obtain ⟨m, hm, hml, h1, h2⟩ := index_pos (c := c) (l := t.data.toList) (by rw [HCN.out]; omega)
      rw [htl] at hml
      have HM := hid hm
      have H1 := hid h1
      have H2 := hid h2
      have t0 : decide ((q : Int) < (n : Int)) = true := decide_eq_true (by omega)
      have t1 : decide ((m : Int) < 0) = false := decide_eq_false (by omega)
      have p2 : (0 : Int) ≤ (m : Int) := by omega
      have p3 : (m : Int) ≤ (t.size : Int) := by omega
      have p4 : (m : Int) + 1 ≤ (t.size : Int) := by omega
      have p5 : (0 : Int) ≤ (m : Int) + 1 := by omega
      have p6 : ((m : Int) + 1).toNat = m + 1 := by omega
      clear hm h1 h2 htl
      go_wp2_with (go_at_call 47; refine (str_index1 _ _ _).mono ?_; rintro e w' ⟨rfl, he⟩; rw [he]; clear he w'; rw [HM.out])
      have hst := HO2.out.stored q (.string (t.extract 0 m))
      have hps : (ps ++ [t.extract 0 m]).length = q + 1 := by rw [List.length_append, HQ.out]; rfl
      have hdl : (t.extract (m + 1) t.size).data.toList = t.data.toList.drop (m + 1) := ext_drop t (m + 1)
      have hb2 : Below w.heap.size w (wr.setCell ⟨w.heap.size, q, none⟩ (.string (t.extract 0 m))) := HB.out.setCell (p := ⟨w.heap.size, q, none⟩) (Nat.le_refl _) _
      refine ⟨⟨t.extract (m + 1) t.size, ps ++ [t.extract 0 m], _, rfl, by rw [hps]; rfl, ?_, ?_, ?_, hst.1, ?_, hb2, Nat.le_refl _, ?_⟩, by simp [intOf] <;> omega⟩
      · rw [← HSP.out, splitS_at H1.out H2.out, hdl]
        simp [ext_take]
      · rw [hps, hdl]
        have := count_at H1.out H2.out
        rw [HCN.out] at this
        omega
      · have h1 := congrArg List.length hdl
        rw [str_len, List.length_drop, str_len] at h1
        omega
      · rw [hps, set_take cs q _ hqc, List.map_append]
        have h9 := HTK.out
        rw [HQ.out] at h9
        rw [h9]
        rfl
      · simp [World.setCell]
        exact hGl
    · obtain rfl : q = n := by omega
      have hc0 : cn = 0 := by omega
      have t0 : decide ((q : Int) < (q : Int)) = false := decide_eq_false (by omega)
      have r2 : (q : Int) + 1 ≤ (q : Int) + 1 := by omega
      go_wp2_with fail
      go_ret
      have hst := HO2.out.stored q (.string t)
      have hps : (ps ++ [t]).length = q + 1 := by rw [List.length_append, HQ.out]; rfl
      refine ⟨.slice (some ⟨w.heap.size, 0, none⟩) (q + 1) (q + 1), ps ++ [t], rfl, ⟨some ⟨w.heap.size, 0, none⟩, q + 1, by rw [List.length_map, hps], by rw [List.length_map, hps]; have : maxLen = 9223372036854775807 := rfl; omega, fun _ => ⟨_, _, rfl, fun i u hu => ?_⟩⟩, ?_, HB.out.setCell (p := ⟨w.heap.size, q, none⟩) (Nat.le_refl _) _⟩
      · have hi : i < q + 1 := by have := (List.getElem?_eq_some_iff.1 hu).1; rw [List.length_map, hps] at this; exact this
        rw [Nat.zero_add]
        refine ((own1_cell hst.1).2 i u ?_).1
        have e : (cs.set q (.string t)).take (q + 1) = (ps ++ [t]).map Value.string := by
          have h9 := HTK.out
          rw [HQ.out] at h9
          rw [set_take cs q _ hqc, List.map_append, h9]
          rfl
        rw [← e, List.getElem?_take, if_pos hi] at hu
        exact hu
      · rw [← HSP.out, splitS_none (count_zero_not (by rw [HCN.out, hc0]))]
        simp
theorem split_any (s : ByteArray) (c : UInt8) (w : World) (hs : s.size ≤ 1048576) : Calls Tryd.prog 22 #[.string s, .string ⟨#[c]⟩] w (SplitPost c s.data.toList w) := by
  go_enter Tryd.func22, Tryd.ntmps22
  go_wp2_with fail
  refine (gen_any s c w hs).mono ?_
  rintro e w1 ⟨v, ps, rfl, hr, hm, hb⟩
  have HR := hid hr
  have HM := hid hm
  have HB := hid hb
  obtain ⟨a, cap, hv, _⟩ := hr
  rw [List.length_map] at hv
  subst hv
  clear hm hb
  go_wp2
  go_ret
  exact ⟨_, ps, rfl, HR.out, HM.out, HB.out⟩
end Go.Proofs.YtgdbjkkanjgbnaaDoor

namespace Go.Proofs.YtgdbjkkanjgbnaaDoor.Url
open Go.RowKit Go.Proofs.YtgdbjkkanjgbnaaDoor
open Go.Proofs.YtgdbjkkanjgbnaaDoorW.PrintWords (Kd rdOf)
open Go.Proofs.YtgdbjkkanjgbnaaDoor.PUrlencParses
set_option linter.unusedVariables false
set_option linter.unusedSimpArgs false
def parC (x : Par) : List Value := [.string x.f0, .string x.f1]
theorem parC_len (xs : List Par) : (xs.flatMap parC).length = xs.length * 2 := by
  induction xs with
  | nil => rfl
  | cons x xs ih => rw [List.flatMap_cons, List.length_append, ih, List.length_cons]; simp [parC]; omega
theorem parC_get (xs : List Par) (i : Nat) (x : Par) (h : xs[i]? = some x) : (xs.flatMap parC)[i * 2]? = some (.string x.f0) ∧ (xs.flatMap parC)[i * 2 + 1]? = some (.string x.f1) := by
  induction xs generalizing i with
  | nil => simp at h
  | cons y ys ih =>
    cases i with
    | zero =>
      simp at h
      subst h
      simp [parC]
    | succ i =>
      have := ih i (by simpa using h)
      rw [List.flatMap_cons]
      show (parC y ++ ys.flatMap parC)[(i + 1) * 2]? = _ ∧ (parC y ++ ys.flatMap parC)[(i + 1) * 2 + 1]? = _
      rw [show (i + 1) * 2 = i * 2 + 2 by omega, show i * 2 + 2 + 1 = (i * 2 + 1) + 2 by omega]
      simpa [parC] using this
/-- A list of parameters in a block of its own. -/
def OwnP (w : World) (base : Nat) (v : Value) (xs : List Par) : Prop := w.ownsRow base 45 2 v xs.length (xs.flatMap parC)
theorem OwnP.form {w : World} {base : Nat} {v : Value} {xs : List Par} (h : OwnP w base v xs) : ∃ A c, v = .slice A xs.length c ∧ xs.length ≤ c := by
  rcases h.2 with ⟨rfl, e⟩ | ⟨g, cap, cur, rfl, _, _, hn, _⟩
  · exact ⟨none, 0, by rw [e], by omega⟩
  · exact ⟨_, cap, rfl, hn⟩
theorem OwnP.reads {w : World} {base : Nat} {A : Option Addr} {n c : Nat} {xs : List Par} (h : OwnP w base (.slice A n c) xs) : k45.C w A xs.length xs := by
  rcases h.2 with ⟨e, en⟩ | ⟨g, cap, cur, e, _, hh, hn, hm, hs, ht⟩
  · cases e
    rw [List.eq_nil_of_length_eq_zero en]
    exact Kd.C_nil _ _
  · cases e
    refine ⟨rfl, by have : maxLen = 9223372036854775807 := rfl; omega, fun _ => ⟨⟨g, 0, none⟩, rfl, fun j p hj => ?_⟩⟩
    have hjl : j < xs.length := (List.getElem?_eq_some_iff.1 hj).1
    obtain ⟨e0, e1⟩ := parC_get xs j p hj
    refine ⟨[.string p.f0, .string p.f1], rfl, k45_mk w p, fun q u hq => ?_⟩
    have hcur : ∀ k u, k < xs.length * 2 → (xs.flatMap parC)[k]? = some u → w.cell? ⟨g, k, none⟩ = some u := fun k u hk hu => by
      rw [← ht, List.getElem?_take, if_pos hk] at hu
      simp only [World.cell?, hh]
      simpa using hu
    have hadd : ((⟨g, 0, none⟩ : Addr).add (j * 2 + q)) = ⟨g, j * 2 + q, none⟩ := by rw [Addr.add_lit, Nat.zero_add]
    match q, hq with
    | 0, hq => cases hq; show w.cell? ((⟨g, 0, none⟩ : Addr).add (j * 2 + 0)) = _; rw [hadd]; exact hcur _ _ (by omega) e0
    | 1, hq => cases hq; show w.cell? ((⟨g, 0, none⟩ : Addr).add (j * 2 + 1)) = _; rw [hadd]; exact hcur _ _ (by omega) e1
theorem OwnP.below {w w' : World} {base : Nat} {v : Value} {xs : List Par} (h : OwnP w base v xs) (hb : Below w.heap.size w w') : OwnP w' base v xs := by
  refine ⟨h.1, ?_⟩
  rcases h.2 with h2 | ⟨g, cap, cur, rfl, hg, hh, r⟩
  · exact .inl h2
  · exact .inr ⟨g, cap, cur, rfl, hg, (hb.block g (lt_of_heap hh)).trans hh, r⟩
theorem pinfo : (Tryd.prog.info? 45).map (fun i => (i.zero, i.size, i.bytes)) = some (some (.agg #[.string ⟨#[]⟩, .string ⟨#[]⟩]), 2, 32) := by kernel_rfl
theorem wpList_append_p {w : World} {ops : Array Oper} {rest : List Oper} {o : Oper} {a : Act} {Q : Exit → Act → World → Prop} (hgd : o.guard = none) (s x : Operand)
    (ho : o.op = .call { callee := .builtin .append, args := #[s, x], argTypes := #[23, 23] }) (base : Nat) (xs : List Par) (y : Par) (v : Value) (g : Nat) (hs : a.eval s = v) (hx : a.eval x = .slice (some ⟨g, 0, none⟩) 1 1)
    (hown : OwnP w base v xs) (h0 : w.cell? ⟨g, 0, none⟩ = some (.string y.f0)) (h1 : w.cell? ⟨g, 1, none⟩ = some (.string y.f1)) (hlen : xs.length ≤ 1048576) (hbase : base ≤ w.heap.size)
    (h : ∀ v' w', OwnP w' base v' (xs ++ [y]) → w.grownBy w' v.ownBlock → (v'.ownBlock = v.ownBlock ∨ v'.ownBlock = some w.heap.size) → wpList Tryd.prog ops Q rest (a.put o.dst v') w') : wpList Tryd.prog ops Q (o :: rest) a w := by
  obtain ⟨i, hi, hz, hsize, hby⟩ := info_parts pinfo
  obtain ⟨v', w', hr, h2, h3, _, h5⟩ := run_append_own_at (P := Tryd.prog) (w := w) base 23 o.type 45 i (.agg #[.string ⟨#[]⟩, .string ⟨#[]⟩]) 2 32 Tryd.underlying23 hi hz hsize hby rfl (by omega) v xs.length (xs.flatMap parC) hown ⟨g, 0, none⟩ 1 1 (parC y) rfl
    (by
      intro j u hu
      match j, hu with
      | 0, hu => cases hu; exact h0
      | 1, hu => cases hu; exact h1)
    (by intro u hu; simp [parC] at hu; rcases hu with rfl | rfl <;> rfl) (by have : maxLen = 9223372036854775807 := rfl; omega) (by omega) hbase
  refine wpList_plain hgd fun _ hK => ?_
  unfold Oper.wp execOp
  simp only [ho, resolve, invoke, builtin, Sem.run_bind, Sem.run_pure, Result.andThen_ok, List.map_toArray, List.map_cons, List.map_nil, hs, hx, hr]
  refine hK _ _ (h v' w' ?_ h3 h5)
  unfold OwnP
  rw [List.length_append, List.flatMap_append]
  simpa using h2
/-- The parameters of parts. -/
def mkP (p : List UInt8 × List UInt8) : Par := ⟨⟨p.1.toArray⟩, ⟨p.2.toArray⟩⟩
def parseL : List (List UInt8) → Nat → List Par → List Par × GErr
  | [], _, acc => (acc, .nil)
  | p :: ps, d, acc =>
    if p = [] then parseL ps (d + 1) acc
    else match partS p with
      | .error q => ([], .at_ (d + q) 60)
      | .ok kv =>
        if (getS acc (mkP kv).f0).isSome = true then ([], .at_ d 52)
        else if acc.length = 32 then ([], .no 53)
        else parseL ps (d + p.length + 1) (acc ++ [mkP kv])
def parseS (l : List UInt8) : List Par × GErr := if 4096 < l.length then ([], .no 2) else parseL (splitS 38 l) 0 []
def totL (ps : List (List UInt8)) : Nat := (ps.map (fun p => p.length + 1)).sum
theorem totL_split (c : UInt8) (l : List UInt8) : totL (splitS c l) = l.length + 1 := by
  induction l with
  | nil => simp [splitS, totL]
  | cons b l ih =>
    rw [splitS]
    by_cases h : b = c
    · rw [if_pos h]; unfold totL at ih ⊢; simp at ih ⊢; omega
    · rw [if_neg h]
      have hne := splitS_ne c l
      cases e : splitS c l with
      | nil => exact absurd e hne
      | cons p ps => rw [e] at ih; unfold totL at ih ⊢; simp at ih ⊢; omega
/-- What Parse answers: a list of its own. -/
def ParsePost (r : List Par × GErr) (w : World) (e : Ending) (w' : World) : Prop := ∃ v er, e = .returned (.tuple #[v, er]) ∧ OwnP w' w.heap.size v r.1 ∧ IsErr w' r.2 er ∧ Below w.heap.size w w'
theorem ParsePost.mk {r : List Par × GErr} {xs : List Par} {g : GErr} {w w' : World} {v er : Value} (h : r = (xs, g)) (hv : OwnP w' w.heap.size v xs) (he : IsErr w' g er) (hb : Below w.heap.size w w') : ParsePost r w (.returned (.tuple #[v, er])) w' := ⟨v, er, rfl, by rw [h]; exact hv, by rw [h]; exact he, hb⟩
theorem own_none (w : World) (base : Nat) : OwnP w base (.slice none 0 0) [] := World.ownsRow_nil _ _ _ 2
theorem grown_low {B : Nat} {w w' : World} {base : Nat} {v : Value} {xs : List Par} (h : OwnP w base v xs) (hg : w.grownBy w' v.ownBlock) (hB : B ≤ base) (hb : B ≤ w.heap.size) : Below B w w' :=
  (Below.refl B w).grown hg hb (fun k hk => by have := (World.ownsRow.lt h k hk).1; omega)
/-- How the loop stands. -/
def ParRel (ps : List ByteArray) (R : List Par × GErr) (n : Nat) (w : World) (vl vd vi : Value) (wr : World) : Prop :=
  ∃ (i d : Nat) (acc : List Par), i ≤ ps.length ∧ vi = .int .i64 i ∧ vd = .int .i64 d ∧ parseL ((ps.map (fun p => p.data.toList)).drop i) d acc = R ∧ d + totL ((ps.map (fun p => p.data.toList)).drop i) = n + 1 ∧ acc.length ≤ 32 ∧ OwnP wr w.heap.size vl acc ∧ Below w.heap.size w wr ∧ w.heap.size ≤ wr.heap.size
end Go.Proofs.YtgdbjkkanjgbnaaDoor.Url

namespace Go.Proofs.YtgdbjkkanjgbnaaDoor.Url
open Go.RowKit Go.Proofs.YtgdbjkkanjgbnaaDoor
open Go.Proofs.YtgdbjkkanjgbnaaDoorW.PrintWords (Kd rdOf)
open Go.Proofs.YtgdbjkkanjgbnaaDoor.PUrlencParses
set_option linter.unusedVariables false
set_option linter.unusedSimpArgs false
theorem own_mono {w : World} {base base' : Nat} {v : Value} {xs : List Par} (h : OwnP w base v xs) (hb : base' ≤ base) : OwnP w base' v xs := by
  refine ⟨h.1, ?_⟩
  rcases h.2 with h2 | ⟨g, cap, cur, rfl, hg, r⟩
  · exact .inl h2
  · exact .inr ⟨g, cap, cur, rfl, Nat.le_trans hb hg, r⟩
set_option maxHeartbeats 8000000 in
set_option maxRecDepth 20000 in
theorem parse_any (s : ByteArray) (w : World) (hg : ErrorType w) (hL : LeastAt w) (hs : s.size ≤ 1048576) : Calls Tryd.prog 8 #[.string s] w (ParsePost (parseS s.data.toList) w) := by
  have HG := hid hg
  have HL := hid hL
  have hgl := hg.lt
  have hll := LeastAt.lt hL
  have hln := str_len s
  clear hg hL
  by_cases hbig : 4096 < s.size
  · have hP : parseS s.data.toList = ([], .no 2) := by unfold parseS; rw [if_pos (by omega)]
    have HP := hid hP
    have t0 : decide ((4096 : Int) < (s.size : Int)) = true := decide_eq_true (by omega)
    clear hP
    go_enter Tryd.func8, Tryd.ntmps8
    go_wp2_with fail
    go_ret2
    exact ParsePost.mk HP.out (own_none _ _) rfl (Below.refl _ _)
  · have t0 : decide ((4096 : Int) < (s.size : Int)) = false := decide_eq_false (by omega)
    obtain ⟨l, hl⟩ : ∃ l, s.data.toList = l := ⟨_, rfl⟩
    obtain ⟨R, hR⟩ : ∃ R, parseL (splitS 38 l) 0 [] = R := ⟨_, rfl⟩
    have hP : parseS s.data.toList = R := by unfold parseS; rw [hl, if_neg (by rw [← hl]; omega)]; exact hR
    rw [hP]
    have hsp := split_any s 38 w hs
    rw [hl] at hsp hln
    have HSP := hid hsp
    have HR := hid hR
    have HTT := hid (totL_split 38 l)
    clear hP hR hsp hl
    go_enter Tryd.func8, Tryd.ntmps8
    go_wp2_with fail
    refine HSP.out.mono ?_
    clear HSP
    rintro e w1 ⟨v, ps, rfl, hr, hm, hb⟩
    have HRC := hid hr
    obtain ⟨A, cap, hv, hpm, _⟩ := hr
    rw [List.length_map] at hv hpm
    subst hv
    have HM := hid hm
    have hpl9 : ps.length ≤ 5000 := by
      have h1 := congrArg List.length hm
      rw [List.length_map, splitS_len] at h1
      have h2 : l.count 38 ≤ l.length := List.count_le_length
      omega
    have HB1 := hid hb
    clear hb hm
    go_wp2_with fail
    go_loopw [4, 5, 20] (fun vl vd vi wr => ParRel ps R l.length w1 vl vd vi wr) (fun _ _ vi _ => ps.length - (intOf vi).toNat)
    case atStart => exact ⟨0, 0, [], Nat.zero_le _, rfl, rfl, by rw [List.drop_zero, HM.out]; exact HR.out, by rw [List.drop_zero, HM.out, HTT.out]; omega, by simp, own_none _ _, Below.refl _ _, Nat.le_refl _⟩
    case round =>
      obtain ⟨i, d, acc, hi, rfl, rfl, hpl, htt, hac, hown, hbw, hsz⟩ := hrel
      have HB := hid hbw
      have HO := hid hown
      obtain ⟨Aa, ca, rfl, hca⟩ := hown.form
      have HKC := hid hown.reads
      by_cases hlt : i < ps.length
      · have t1 : decide ((i : Int) < (ps.length : Int)) = true := decide_eq_true (by omega)
        obtain ⟨p, hp⟩ : ∃ p, ps[i]? = some p := ⟨ps[i], by simp⟩
        have hdrop : (ps.map (fun p => p.data.toList)).drop i = p.data.toList :: (ps.map (fun p => p.data.toList)).drop (i + 1) := by
          rw [List.drop_eq_getElem_cons (by rw [List.length_map]; exact hlt), List.getElem_map]
          rw [List.getElem?_eq_getElem hlt] at hp
          rw [Option.some.inj hp]
        rw [hdrop] at hpl htt
        obtain ⟨pb, po, pc, epv, hpc⟩ : ∃ b o cap', Value.slice A ps.length cap = .slice (some ⟨b, o, none⟩) ps.length cap' ∧ w1.cell? ⟨b, o + i, none⟩ = some (.string p) := by
          obtain ⟨a', c', e', _, hc'⟩ := HRC.out
          rw [List.length_map] at e' hc'
          cases e'
          obtain ⟨b, o, rfl, hi'⟩ := hc' (by omega)
          exact ⟨b, o, cap, rfl, hi' i _ (by rw [List.getElem?_map, hp]; rfl)⟩
        cases epv
        have hcp : wr.cell? ⟨pb, po + i, none⟩ = some (.string p) := (hbw.cell (lt_of_cell hpc)).trans hpc
        have HPL := hid hpl
        have HTT2 := hid htt
        have hpn : d + p.data.toList.length + 1 ≤ l.length + 1 := by
          have : totL (p.data.toList :: (ps.map (fun p => p.data.toList)).drop (i + 1)) = p.data.toList.length + 1 + totL ((ps.map (fun p => p.data.toList)).drop (i + 1)) := by simp [totL]
          omega
        rw [str_len] at hpn
        have hpz : ¬ p.size = 0 → p.data.toList ≠ [] := fun h e => h (by rw [← str_len p, e]; rfl)
        have q0 : (0 : Int) ≤ (i : Int) := by omega
        have q1 : (i : Int) < (ps.length : Int) := by omega
        have HD := hid hdrop
        have x0 : IntKind.i64.wrap ((p.size : Int) + 1) = (p.size : Int) + 1 := by rw [IntKind.wrap_i64]; omega
        have x1 : IntKind.i64.wrap ((d : Int) + ((p.size : Int) + 1)) = (d : Int) + ((p.size : Int) + 1) := by rw [IntKind.wrap_i64]; omega
        clear hpl htt hdrop hp hpc hbw hown
        by_cases hz : p.size = 0
        · have hp0 : p.toList = [] := str_empty p hz
          have hpl2 : parseL ((ps.map (fun p => p.data.toList)).drop (i + 1)) (d + 1) acc = R := by
            have h9 := HPL.out
            rw [parseL, if_pos (by rw [← str_toList]; exact hp0)] at h9
            exact h9
          have htt2 : (d + 1) + totL ((ps.map (fun p => p.data.toList)).drop (i + 1)) = l.length + 1 := by
            have h9 := HTT2.out
            have : totL (p.data.toList :: (ps.map (fun p => p.data.toList)).drop (i + 1)) = p.data.toList.length + 1 + totL ((ps.map (fun p => p.data.toList)).drop (i + 1)) := by simp [totL]
            rw [this, str_len] at h9
            omega
          have H1 := hid hpl2
          have H2 := hid htt2
          have hd9 : ((d : Int) + ((p.size : Int) + 1)) = ((d + 1 : Nat) : Int) := by omega
          have HD9 := hid hd9
          clear hpl2 htt2 hz hd9 hpz
          go_wp2_with fail
          refine ⟨⟨i + 1, d + 1, acc, by omega, by congr 1, by rw [HD9.out], H1.out, H2.out, hac, HO.out, HB.out, hsz⟩, by simp [intOf] <;> omega⟩
        · have hp1 : 0 < p.size := by omega
          have hn2 := str_ne_empty p hp1
          have hn3 := str_not_empty p hp1
          have hn4 : (p.toList == ([] : List UInt8)) = false := by simpa using hn3
          have hn5 : p.toList.isEmpty = false := by simpa using hn3
          have hbw2 : Below w.heap.size w wr := HB1.out.trans (HB.out.mono HB1.out.size)
          have HPT := hid (part_any p d wr (HG.out.below hbw2 hgl) (LeastAt.below HL.out hbw2 hll) (by omega) (by omega))
          have HBW := hid hbw2
          have hpl2 := HPL.out
          rw [parseL, if_neg (hpz hz)] at hpl2
          have hd9 : ((d : Int) + ((p.size : Int) + 1)) = ((d + p.data.toList.length + 1 : Nat) : Int) := by rw [str_len]; omega
          have HD9 := hid hd9
          have htt2 : (d + p.data.toList.length + 1) + totL ((ps.map (fun p => p.data.toList)).drop (i + 1)) = l.length + 1 := by
            have h9 := HTT2.out
            have : totL (p.data.toList :: (ps.map (fun p => p.data.toList)).drop (i + 1)) = p.data.toList.length + 1 + totL ((ps.map (fun p => p.data.toList)).drop (i + 1)) := by simp [totL]
            rw [this] at h9
            omega
          have H2 := hid htt2
          clear hbw2 hpz hd9 htt2
          cases hps : partS p.data.toList with
          | error q =>
            rw [hps] at hpl2
            have HR2 := hid hpl2
            have HPS := hid hps
            clear hpl2 hps
            go_wp2_with fail
            refine HPT.out.mono ?_
            clear HPT
            intro e w2 hq
            unfold PartPost at hq
            rw [HPS.out] at hq
            obtain ⟨v, rfl, he, hb2⟩ := hq
            have HE := hid he
            have HB2 := hid (below_then HBW.out hb2)
            obtain ⟨eb, eo, rfl, _, _⟩ := he
            clear hb2
            go_wp2_with fail
            go_ret2
            exact ParsePost.mk HR2.out.symm (own_none _ _) (HE.out.below ((Below.refl _ w2).alloc (Nat.le_refl _) _)) (HB2.out.alloc (by have := HB2.out.size; omega) _)
          | ok kv =>
            rw [hps] at hpl2
            have HPS := hid hps
            obtain ⟨x, hx⟩ : ∃ x, mkP kv = x := ⟨_, rfl⟩
            simp only [hx] at hpl2
            have hx0 : strV kv.1 = .string x.f0 := by rw [← hx]; rfl
            have hx1 : strV kv.2 = .string x.f1 := by rw [← hx]; rfl
            have HX0 := hid hx0
            have HX1 := hid hx1
            clear hps hx hx0 hx1
            go_wp2_with fail
            refine HPT.out.mono ?_
            clear HPT
            intro e w2 hq
            unfold PartPost at hq
            rw [HPS.out] at hq
            obtain ⟨rfl, hb2⟩ := hq
            rw [HX0.out, HX1.out]
            have hba : Below wr.heap.size wr (w2.alloc (.cells #[.string x.f0, .string x.f1] 45)) := hb2.alloc hb2.size _
            have HBA := hid (below_then HBW.out hba)
            have HOA := hid (HO.out.below hba)
            have HGT := hid (get_any (w2.alloc (.cells #[.string x.f0, .string x.f1] 45)) Aa ca acc x.f0 (Kd.C_below HKC.out hba) hca (by omega))
            have HH2 := hid (heap_alloc_new w2 (.cells #[.string x.f0, .string x.f1] 45))
            have HB1A := hid (HB.out.trans (hba.mono hsz))
            have hs2 := hb2.size
            clear hb2 hba
            cases hgt : getS acc x.f0 with
            | some v =>
              rw [hgt] at HGT hpl2
              have HR2 : Hid ((([], .at_ d 52) : List Par × GErr) = R) := hid (by simpa using hpl2)
              clear hpl2 hgt
              go_wp2_with fail
              refine HGT.out.mono ?_
              clear HGT
              rintro e w3 ⟨he, hb3⟩
              obtain rfl : e = .returned (.tuple #[.string v, .bool true]) := he
              have HB3 := hid (below_then HBA.out hb3)
              clear hb3
              go_wp2_with fail
              go_ret2
              exact ParsePost.mk HR2.out.symm (own_none _ _) ⟨w3.heap.size, 0, rfl, by simp, by simp⟩ (HB3.out.alloc (by have := HB3.out.size; omega) _)
            | none =>
              rw [hgt] at HGT hpl2
              by_cases h32 : acc.length = 32
              · have HR2 : Hid ((([], .no 53) : List Par × GErr) = R) := hid (by simpa [h32] using hpl2)
                have t3 : ((acc.length : Int) == 32) = true := by rw [h32]; rfl
                clear hpl2 hgt h32
                go_wp2_with fail
                refine HGT.out.mono ?_
                clear HGT
                rintro e w3 ⟨he, hb3⟩
                obtain rfl : e = .returned (.tuple #[.string ⟨#[]⟩, .bool false]) := he
                have HB3 := hid (below_then HBA.out hb3)
                clear hb3
                go_wp2_with fail
                go_ret2
                exact ParsePost.mk HR2.out.symm (own_none _ _) rfl HB3.out
              · have HR2 : Hid (parseL ((ps.map (fun p => p.data.toList)).drop (i + 1)) (d + p.data.toList.length + 1) (acc ++ [x]) = R) := hid (by simpa [h32] using hpl2)
                have t3 : ((acc.length : Int) == 32) = false := by simp; omega
                clear hpl2 hgt
                go_wp2_with fail
                refine HGT.out.mono ?_
                clear HGT
                rintro e w3 ⟨he, hb3⟩
                obtain rfl : e = .returned (.tuple #[.string ⟨#[]⟩, .bool false]) := he
                have HB3 := hid (below_then HBA.out hb3)
                have HB13 := hid (below_then HB1A.out hb3)
                have HO3 := hid (HOA.out.below hb3)
                have hh3 := (hb3.block w2.heap.size (by simp)).trans HH2.out
                have HH3 := hid hh3
                have c0 : w3.cell? ⟨w2.heap.size, 0, none⟩ = some (.string x.f0) := by simp [World.cell?, hh3]
                have c1 : w3.cell? ⟨w2.heap.size, 1, none⟩ = some (.string x.f1) := by simp [World.cell?, hh3]
                obtain ⟨bo, hbo⟩ : ∃ bo, (Value.slice Aa acc.length ca).ownBlock = bo := ⟨_, rfl⟩
                have HBO := hid hbo
                have hs3 := HB13.out.size
                clear hb3 hh3 hbo
                go_wp2_with (at_builtin; refine wpList_append_p rfl (.tmp 58) (.tmp 60) rfl w1.heap.size acc x (.slice Aa acc.length ca) w3.heap.size rfl rfl (HO3.out.below ((Below.refl _ w3).alloc (Nat.le_refl _) _)) (by simp) (by simp) (by omega) (by simp; omega) ?_; intro v' w4 ho hg hb; have HO4 := hid ho; have HG4 := hid hg; obtain ⟨A4, c4, rfl, _⟩ := ho.form; clear ho hg hb)
                have hbl : Below w1.heap.size w1 w4 := (HB13.out.alloc hs3 _).trans (grown_low (HO3.out.below ((Below.refl _ w3).alloc (Nat.le_refl _) _)) HG4.out (Nat.le_refl _) (by simp; omega))
                refine ⟨⟨i + 1, d + p.data.toList.length + 1, acc ++ [x], by omega, by congr 1, by rw [HD9.out], HR2.out, H2.out, by simp; omega, (by have h9 := HO4.out; rw [List.length_append] at h9; exact h9), hbl, hbl.size⟩, by simp [intOf] <;> omega⟩
      · obtain rfl : i = ps.length := by omega
        have t1 : decide ((ps.length : Int) < (ps.length : Int)) = false := decide_eq_false (by omega)
        have hR : R = (acc, .nil) := by
          rw [← hpl, List.drop_of_length_le (by rw [List.length_map]; omega)]
          rfl
        have HR2 := hid hR
        clear hpl htt hR hown hbw
        go_wp2_with fail
        go_ret2
        exact ParsePost.mk HR2.out (own_mono HO.out HB1.out.size) rfl (HB1.out.trans (HB.out.mono HB1.out.size))
end Go.Proofs.YtgdbjkkanjgbnaaDoor.Url

namespace Go.Proofs.YtgdbjkkanjgbnaaDoor.Url
open Go.RowKit Go.Proofs.YtgdbjkkanjgbnaaDoor
open Go.Proofs.YtgdbjkkanjgbnaaDoor.PUrlencParses
set_option linter.unusedVariables false
set_option linter.unusedSimpArgs false
theorem splitS_app {c : UInt8} {a : List UInt8} (h : c ∉ a) (b : List UInt8) : splitS c (a ++ c :: b) = a :: splitS c b := by
  have := splitS_at (c := c) (l := a ++ c :: b) (m := a.length) (by simp) (fun k hk e => by
    rw [List.getElem?_append_left hk] at e
    exact h (List.mem_of_getElem? e))
  rw [this]
  simp
theorem one_no (x : Par) : (38 : UInt8) ∉ oneS x := by
  unfold oneS
  intro h
  rw [List.mem_append, List.mem_append] at h
  rcases h with (h | h) | h
  · exact (esc_no 38 _ h).1 rfl
  · simp at h
  · exact (esc_no 38 _ h).1 rfl
theorem one_cut (x : Par) : cutA (oneS x) = escS x.f0.data.toList ∧ cutB (oneS x) = escS x.f1.data.toList := by
  have h61 : (61 : UInt8) ∉ escS x.f0.data.toList := fun h => (esc_no 61 _ h).2 rfl
  have := cut_at (l := oneS x) (m := (escS x.f0.data.toList).length) (by unfold oneS; simp) (fun k hk e => by
    unfold oneS at e
    rw [List.append_assoc, List.getElem?_append_left hk] at e
    exact h61 (List.mem_of_getElem? e))
  rw [this.1, this.2]
  unfold oneS
  simp
theorem one_ne (x : Par) : oneS x ≠ [] := by unfold oneS; simp
theorem ba_eta (b : ByteArray) : (⟨b.data.toList.toArray⟩ : ByteArray) = b := by
  apply ByteArray.ext; simp
theorem one_part {pre : List Par} {x : Par} (h : ¬ badP pre x) : partS (oneS x) = .ok (x.f0.data.toList, x.f1.data.toList) ∧ (getS pre x.f0).isSome = false := by
  unfold badP at h
  rw [not_or, not_or, not_or] at h
  obtain ⟨h1, h2, h3, h4⟩ := h
  obtain ⟨e1, e2⟩ := one_cut x
  refine ⟨?_, by simpa using h1⟩
  unfold partS
  rw [e1, e2, un_esc, un_esc]
  simp only
  rw [if_neg (by omega), if_neg (by omega), if_neg]
  rintro (h | h | h)
  · apply h2; rw [← str_len, h]; rfl
  · exact h3 h
  · exact h4 h
def tailT : List Par → List Par → List UInt8
  | [], _ => []
  | x :: xs, pre => sepS pre ++ oneS x ++ tailT xs (pre ++ [x])
def goodL : List Par → List Par → Prop
  | [], _ => True
  | x :: xs, pre => ¬ badP pre x ∧ goodL xs (pre ++ [x])
theorem printL_some (xs : List Par) : ∀ (pre : List Par) (out R : List UInt8), printL xs pre out = some R → goodL xs pre ∧ R = out ++ tailT xs pre := by
  induction xs with
  | nil => intro pre out R h; rw [printL] at h; exact ⟨trivial, by rw [← Option.some.inj h]; simp [tailT]⟩
  | cons x xs ih =>
    intro pre out R h
    by_cases hb : badP pre x
    · rw [printL_bad hb] at h; cases h
    · rw [printL_good hb] at h
      obtain ⟨h1, h2⟩ := ih _ _ _ h
      exact ⟨⟨hb, h1⟩, by rw [h2, tailT]; simp⟩
theorem parse_back (xs : List Par) : ∀ (x : Par) (pre : List Par) (d : Nat), goodL (x :: xs) pre → pre.length + xs.length + 1 ≤ 32 → parseL (splitS 38 (oneS x ++ tailT xs (pre ++ [x]))) d pre = (pre ++ x :: xs, .nil) := by
  have hx : ∀ x : Par, mkP (x.f0.data.toList, x.f1.data.toList) = x := fun x => by
    unfold mkP; rw [ba_eta, ba_eta]
  induction xs with
  | nil =>
    intro x pre d hg hl
    obtain ⟨e1, e2⟩ := one_part hg.1
    rw [tailT, List.append_nil, splitS_none (one_no x), parseL, if_neg (one_ne x), e1]
    simp only [hx]
    rw [if_neg (by rw [e2]; simp), if_neg (by simp at hl; omega), parseL]
  | cons y ys ih =>
    intro x pre d hg hl
    obtain ⟨e1, e2⟩ := one_part hg.1
    have hs : sepS (pre ++ [x]) = [38] := by unfold sepS; rw [if_neg (by simp)]
    rw [tailT, hs, show oneS x ++ ([38] ++ oneS y ++ tailT ys (pre ++ [x] ++ [y])) = oneS x ++ 38 :: (oneS y ++ tailT ys (pre ++ [x] ++ [y])) by simp, splitS_app (one_no x), parseL, if_neg (one_ne x), e1]
    simp only [hx]
    rw [if_neg (by rw [e2]; simp), if_neg (by simp at hl; omega), ih y (pre ++ [x]) _ hg.2 (by simp at hl ⊢; omega)]
    simp
/-- The printed text is read as the list. -/
theorem print_back {xs : List Par} {t : List UInt8} (h : printS xs = (t, .nil)) : parseS t = (xs, .nil) := by
  unfold printS at h
  by_cases h32 : 32 < xs.length
  · rw [if_pos h32] at h; cases h
  · rw [if_neg h32] at h
    cases hp : printL xs [] [] with
    | none => rw [hp] at h; cases h
    | some R =>
      rw [hp] at h
      unfold finS at h
      by_cases hl : 4096 < R.length
      · simp only [hl, if_true] at h; cases h
      · simp only [hl, if_false] at h
        cases h
        obtain ⟨hg, hR⟩ := printL_some xs [] [] _ hp
        rw [List.nil_append] at hR
        unfold parseS
        rw [if_neg hl, hR]
        cases xs with
        | nil => rfl
        | cons x xs =>
          have hs : sepS [] = [] := rfl
          have e : tailT (x :: xs) [] = oneS x ++ tailT xs ([] ++ [x]) := by rw [tailT, hs]; simp
          rw [e, parse_back xs x [] 0 hg (by simp at h32 ⊢; omega)]
          simp
theorem print_err {xs : List Par} {t : List UInt8} {g : GErr} (h : printS xs = (t, g)) (hg : g ≠ .nil) : t = [] := by
  unfold printS at h
  by_cases h32 : 32 < xs.length
  · rw [if_pos h32] at h; cases h; rfl
  · rw [if_neg h32] at h
    cases hp : printL xs [] [] with
    | none => rw [hp] at h; cases h; rfl
    | some R =>
      rw [hp] at h
      unfold finS at h
      by_cases hl : 4096 < R.length
      · simp only [hl, if_true] at h; cases h; rfl
      · simp only [hl, if_false] at h; cases h; exact absurd rfl hg
end Go.Proofs.YtgdbjkkanjgbnaaDoor.Url

namespace Go.Proofs.YtgdbjkkanjgbnaaDoor.Url
open Go.RowKit Go.Proofs.YtgdbjkkanjgbnaaDoor
open Go.Proofs.YtgdbjkkanjgbnaaDoorW.PrintWords (Kd rdOf)
open Go.Proofs.YtgdbjkkanjgbnaaDoor.PUrlencParses
set_option linter.unusedVariables false
set_option linter.unusedSimpArgs false
theorem bad_step {l : List UInt8} {v n : Int} (h : l ≠ []) (hn : nextS l = (v, n)) (hv : ¬ v < 0) (hr : badS (l.drop n.toNat) < 0) : badS l < 0 := by
  rw [badS, dif_neg h, hn]
  simp only
  rw [if_neg hv]
  try simp only
  rw [if_pos hr]
  omega
theorem bad_nil : badS [] < 0 := by rw [badS_nil]; omega
theorem bad_a : badS [97] < 0 := bad_step (v := 97) (n := 1) (by simp) (by decide +kernel) (by omega) bad_nil
theorem bad_b : badS [98] < 0 := bad_step (v := 98) (n := 1) (by simp) (by decide +kernel) (by omega) bad_nil
theorem bad_c : badS [99] < 0 := bad_step (v := 99) (n := 1) (by simp) (by decide +kernel) (by omega) bad_nil
theorem bad_x : badS [120] < 0 := bad_step (v := 120) (n := 1) (by simp) (by decide +kernel) (by omega) bad_nil
theorem bad_e : badS [195, 169] < 0 := bad_step (v := 233) (n := 2) (by simp) (by decide +kernel) (by omega) bad_nil
theorem bad_12 : badS [49, 32, 50] < 0 := bad_step (v := 49) (n := 1) (by simp) (by decide +kernel) (by omega) (bad_step (v := 32) (n := 1) (by simp) (by decide +kernel) (by omega) (bad_step (v := 50) (n := 1) (by simp) (by decide +kernel) (by omega) bad_nil))
theorem bad_ab : badS [97, 32, 98, 38] < 0 := bad_step (v := 97) (n := 1) (by simp) (by decide +kernel) (by omega) (bad_step (v := 32) (n := 1) (by simp) (by decide +kernel) (by omega) (bad_step (v := 98) (n := 1) (by simp) (by decide +kernel) (by omega) (bad_step (v := 38) (n := 1) (by simp) (by decide +kernel) (by omega) bad_nil)))
theorem part_ok {l n v : List UInt8} (h1 : unS (cutA l) = (n, -1)) (h2 : unS (cutB l) = (v, -1)) (h3 : n ≠ []) (h4 : badS n < 0) (h5 : badS v < 0) : partS l = .ok (n, v) := by
  unfold partS
  rw [h1, h2]
  simp only
  rw [if_neg (by omega), if_neg (by omega), if_neg]
  rintro (h | h | h)
  · exact h3 h
  · omega
  · omega
theorem part1 : partS [97, 61, 49, 43, 50] = .ok ([97], [49, 32, 50]) := part_ok (by decide +kernel) (by decide +kernel) (by simp) bad_a bad_12
theorem part2 : partS [98, 61, 37, 67, 51, 37, 65, 57] = .ok ([98], [195, 169]) := part_ok (by decide +kernel) (by decide +kernel) (by simp) bad_b bad_e
theorem part3 : partS [99] = .ok ([99], []) := part_ok (by decide +kernel) (by decide +kernel) (by simp) bad_c bad_nil
theorem part4 : partS [97, 61, 37, 52] = .error 2 := by
  unfold partS
  rw [show unS (cutA [97, 61, 37, 52]) = ([97], -1) by decide +kernel, show unS (cutB [97, 61, 37, 52]) = ([], 0) by decide +kernel]
  rfl
def al1 : Par := ⟨⟨#[97]⟩, ⟨#[49, 32, 50]⟩⟩
def al2 : Par := ⟨⟨#[98]⟩, ⟨#[195, 169]⟩⟩
def al3 : Par := ⟨⟨#[99]⟩, ⟨#[]⟩⟩
theorem parse1 : parseS [97, 61, 49, 43, 50, 38, 98, 61, 37, 67, 51, 37, 65, 57, 38, 99] = ([al1, al2, al3], .nil) := by
  unfold parseS
  rw [if_neg (by simp), show splitS 38 [97, 61, 49, 43, 50, 38, 98, 61, 37, 67, 51, 37, 65, 57, 38, 99] = [[97, 61, 49, 43, 50], [98, 61, 37, 67, 51, 37, 65, 57], [99]] by decide +kernel]
  rw [parseL, if_neg (by simp), part1]
  show (if (getS [] al1.f0).isSome = true then _ else _) = _
  rw [if_neg (by simp [getS]), if_neg (by simp), parseL, if_neg (by simp), part2]
  show (if (getS [al1] al2.f0).isSome = true then _ else _) = _
  rw [if_neg (by simp [getS, al1, al2]), if_neg (by simp), parseL, if_neg (by simp), part3]
  show (if (getS [al1, al2] al3.f0).isSome = true then _ else _) = _
  rw [if_neg (by simp [getS, al1, al2, al3]), if_neg (by simp)]
  rfl
theorem parse2 : parseS [97, 61, 37, 52] = ([], .at_ 2 60) := by
  unfold parseS
  rw [if_neg (by simp), show splitS 38 [97, 61, 37, 52] = [[97, 61, 37, 52]] by decide +kernel]
  rw [parseL, if_neg (by simp), part4]
  rfl
def alx : Par := ⟨⟨#[120]⟩, ⟨#[97, 32, 98, 38]⟩⟩
theorem print1 : printS [alx] = ([120, 61, 97, 43, 98, 37, 50, 54], .nil) := by
  have h : ¬ badP [] alx := by
    rintro (h | h | h | h)
    · simp [getS] at h
    · exact absurd h (by decide)
    · have := bad_x; simp only [alx] at h; omega
    · have := bad_ab; simp only [alx] at h; omega
  unfold printS
  rw [if_neg (by simp), printL_good h]
  have e : ([] ++ sepS [] ++ oneS alx : List UInt8) = [120, 61, 97, 43, 98, 37, 50, 54] := by decide +kernel
  rw [e]
  rfl
theorem ownP_cells {w : World} {base : Nat} {v : Value} {xs : List Par} (h : OwnP w base v xs) (h0 : 0 < xs.length) : ∃ g c, v = .slice (some ⟨g, 0, none⟩) xs.length c ∧ ∀ j u, (xs.flatMap parC)[j]? = some u → w.cell? ⟨g, j, none⟩ = some u := by
  rcases h.2 with ⟨_, en⟩ | ⟨g, cap, cur, e, _, hh, hn, hm, hs, ht⟩
  · omega
  · refine ⟨g, cap, e, fun j u hu => ?_⟩
    have hj : j < xs.length * 2 := by have := (List.getElem?_eq_some_iff.1 hu).1; rw [parC_len] at this; exact this
    rw [← ht, List.getElem?_take, if_pos hj] at hu
    simp only [World.cell?, hh]
    simpa using hu
set_option maxHeartbeats 8000000 in
set_option maxRecDepth 20000 in
theorem alive_any (w : World) (hg : ErrorType w) (hL : LeastAt w) : Calls Tryd.prog 7 #[] w (TruePost w) := by
  have HG := hid hg
  have HL := hid hL
  have hgl := hg.lt
  have hll := LeastAt.lt hL
  have h1 := parse_any ⟨#[97, 61, 49, 43, 50, 38, 98, 61, 37, 67, 51, 37, 65, 57, 38, 99]⟩ w hg hL (by decide)
  rw [show (⟨#[97, 61, 49, 43, 50, 38, 98, 61, 37, 67, 51, 37, 65, 57, 38, 99]⟩ : ByteArray).data.toList = [97, 61, 49, 43, 50, 38, 98, 61, 37, 67, 51, 37, 65, 57, 38, 99] from rfl, parse1] at h1
  have H1 := hid h1
  clear h1 hg hL
  go_enter Tryd.func7, Tryd.ntmps7
  go_wp2_with fail
  refine H1.out.mono ?_
  clear H1
  rintro e w1 ⟨v1, er1, rfl, ho1, he1, hb1⟩
  obtain rfl : er1 = .nilIface := he1
  have HB1 := hid hb1
  have HO1 := hid ho1
  have h2 := parse_any ⟨#[97, 61, 37, 52]⟩ w1 (HG.out.below hb1 hgl) (LeastAt.below HL.out hb1 hll) (by decide)
  rw [show (⟨#[97, 61, 37, 52]⟩ : ByteArray).data.toList = [97, 61, 37, 52] from rfl, parse2] at h2
  have H2 := hid h2
  clear h2 hb1 ho1
  go_wp2_with fail
  refine H2.out.mono ?_
  clear H2
  rintro e w2 ⟨v2, er2, rfl, _, he2, hb2⟩
  have HE2 := hid he2
  have HB2 := hid (below_then HB1.out hb2)
  have HO2 := hid (HO1.out.below hb2)
  clear he2 hb2
  go_wp2_with fail
  have hb3 : Below w2.heap.size w2 (w2.alloc (.cells #[.string ⟨#[120]⟩, .string ⟨#[97, 32, 98, 38]⟩] 45)) := (Below.refl _ w2).alloc (Nat.le_refl _) _
  have hC3 : k45.C (w2.alloc (.cells #[.string ⟨#[120]⟩, .string ⟨#[97, 32, 98, 38]⟩] 45)) (some ⟨w2.heap.size, 0, none⟩) [alx].length [alx] := by
    refine ⟨rfl, by decide, fun _ => ⟨_, rfl, fun j p hj => ?_⟩⟩
    have hj0 : j = 0 := by have := (List.getElem?_eq_some_iff.1 hj).1; simpa using this
    subst hj0
    simp at hj
    subst hj
    refine ⟨[.string ⟨#[120]⟩, .string ⟨#[97, 32, 98, 38]⟩], rfl, k45_mk _ alx, fun q u hq => ?_⟩
    match q, hq with
    | 0, hq => cases hq; rw [Addr.add_lit]; simp
    | 1, hq => cases hq; rw [Addr.add_lit]; simp
  have hB3 := below_then HB2.out hb3
  have hp := print_any (some ⟨w2.heap.size, 0, none⟩) 1 [alx] _ hC3 (by decide) (by decide) (fun x hx => by
    obtain rfl : x = alx := by simpa using hx
    exact ⟨by decide, by decide⟩) (HG.out.below hB3 hgl) (LeastAt.below HL.out hB3 hll)
  rw [print1] at hp
  refine hp.mono ?_
  rintro e w3 ⟨er3, rfl, he3, hb4⟩
  obtain rfl : er3 = .nilIface := he3
  have hb5 := hb3.trans (hb4.mono hb3.size)
  have HB5 := hid (below_then HB2.out hb5)
  have HE3 := hid (HE2.out.below hb5)
  have ho3 := HO2.out.below hb5
  obtain ⟨g, c, rfl, hcell⟩ := ownP_cells ho3 (by decide)
  have x0 : w3.cell? ⟨g, 1, none⟩ = some (.string ⟨#[49, 32, 50]⟩) := hcell 1 _ rfl
  have x1 : w3.cell? ⟨g, 3, none⟩ = some (.string ⟨#[195, 169]⟩) := hcell 3 _ rfl
  have x2 : w3.cell? ⟨g, 4, none⟩ = some (.string ⟨#[99]⟩) := hcell 4 _ rfl
  have hstr : strV [120, 61, 97, 43, 98, 37, 50, 54] = .string ⟨#[120, 61, 97, 43, 98, 37, 50, 54]⟩ := rfl
  rw [hstr]
  clear hb3 hC3 hB3 hp hb4 hb5 ho3 hcell hstr
  go_wp2_with fail
  refine (num_any (.at_ 2 60) _ w3 (HG.out.below HB5.out hgl) HE3.out).mono ?_
  rintro e w4 ⟨rfl, hb6⟩
  have HB6 := hid (below_then HB5.out hb6)
  have HE4 := hid (HE3.out.below hb6)
  clear hb6 x0 x1 x2
  go_wp2_with fail
  refine (pos_any (.at_ 2 60) _ w4 (HG.out.below HB6.out hgl) HE4.out).mono ?_
  rintro e w5 ⟨rfl, hb7⟩
  have HB7 := hid (below_then HB6.out hb7)
  clear hb7
  go_wp2_with fail
  go_ret
  exact TruePost.mk (by simp) HB7.out
end Go.Proofs.YtgdbjkkanjgbnaaDoor.Url

namespace Go.Proofs.YtgdbjkkanjgbnaaDoor.Url
open Go.RowKit Go.Proofs.YtgdbjkkanjgbnaaDoor
open Go.Proofs.YtgdbjkkanjgbnaaDoorW.PrintWords (Kd rdOf Ev Drawn0)
open Go.Proofs.YtgdbjkkanjgbnaaDoor.PUrlencParses
set_option linter.unusedVariables false
set_option linter.unusedSimpArgs false
theorem wrap_in2 (n : Int) (h0 : -9223372036854775808 ≤ n) (h1 : n ≤ 9223372036854775807) : wrap64 n = n := by unfold wrap64; omega
def GreatPost (xs : List Par) (w : World) (e : Ending) (w' : World) : Prop := ∃ b, e = .returned (.bool b) ∧ (b = false → xs.length ≤ 100 ∧ ∀ x ∈ xs, x.f0.size ≤ 3000 ∧ x.f1.size ≤ 3000) ∧ Below w.heap.size w w'
set_option maxHeartbeats 4000000 in
set_option maxRecDepth 20000 in
theorem great_any (w : World) (A : Option Addr) (c : Nat) (xs : List Par) (hC : k45.C w A xs.length xs) (hc : xs.length ≤ c) : Calls Tryd.prog 13 #[.slice A xs.length c] w (GreatPost xs w) := by
  have HC := hid hC
  clear hC
  by_cases hbig : 100 < xs.length
  · have t0 : decide ((100 : Int) < (xs.length : Int)) = true := decide_eq_true (by omega)
    go_enter Tryd.func13, Tryd.ntmps13
    go_wp2
    go_ret
    exact ⟨true, rfl, (fun h => by cases h), Below.refl _ _⟩
  · have t0 : decide ((100 : Int) < (xs.length : Int)) = false := decide_eq_false (by omega)
    go_enter Tryd.func13, Tryd.ntmps13
    go_wp2
    go_loopw [3] (fun vi wr => ∃ i : Nat, vi = .int .i64 i ∧ i ≤ xs.length ∧ wr = w ∧ Hid (∀ (q : Nat) (y : Par), q < i → xs[q]? = some y → y.f0.size ≤ 3000 ∧ y.f1.size ≤ 3000)) (fun vi _ => xs.length - (intOf vi).toNat)
    case atStart => exact ⟨0, rfl, Nat.zero_le _, rfl, hid (fun q y h => absurd h (by omega))⟩
    case round =>
      obtain ⟨i, rfl, hi, rfl, hlo⟩ := hrel
      by_cases hlt : i < xs.length
      · have t1 : decide (i < xs.length) = true := decide_eq_true hlt
        obtain ⟨x, hx⟩ : ∃ x, xs[i]? = some x := ⟨xs[i]'hlt, by simp⟩
        have p0 : (0 : Int) ≤ (i : Int) := by omega
        have p1 : (i : Int) < (xs.length : Int) := by omega
        obtain ⟨ad, rfl, e0, e1⟩ := at_T45 HC.out (i : Int) (by omega) (by omega)
        simp only [Int.toNat_natCast] at e0 e1
        have hrd : rd_T45 xs (i : Int) = x := by unfold rd_T45; rw [Int.toNat_natCast, List.getD_eq_getElem?_getD, hx]; rfl
        rw [hrd] at e0 e1
        have HX := hid hx
        clear hrd hx
        by_cases h1 : 3000 < x.f0.size
        · have t2 : decide ((3000 : Int) < (x.f0.size : Int)) = true := decide_eq_true (by omega)
          go_wp2
          go_ret
          exact ⟨true, rfl, (fun h => by cases h), Below.refl _ _⟩
        · have t2 : decide ((3000 : Int) < (x.f0.size : Int)) = false := decide_eq_false (by omega)
          by_cases h2 : 3000 < x.f1.size
          · have t3 : decide ((3000 : Int) < (x.f1.size : Int)) = true := decide_eq_true (by omega)
            go_wp2
            go_ret
            exact ⟨true, rfl, (fun h => by cases h), Below.refl _ _⟩
          · have t3 : decide ((3000 : Int) < (x.f1.size : Int)) = false := decide_eq_false (by omega)
            go_wp2
            refine ⟨⟨i + 1, by congr 1, by omega, by first | rfl | trivial, hid (fun q y hq hy => ?_)⟩, by simp [intOf] <;> omega⟩
            rcases Nat.lt_or_ge q i with h9 | h9
            · exact hlo.out q y h9 hy
            · obtain rfl : q = i := by omega
              rw [HX.out] at hy
              cases hy
              omega
      · obtain rfl : i = xs.length := by omega
        have t1 : decide (xs.length < xs.length) = false := decide_eq_false (by omega)
        go_wp2
        go_ret
        refine ⟨false, rfl, fun _ => ⟨by omega, fun x hx => ?_⟩, Below.refl _ _⟩
        obtain ⟨q, hq⟩ := List.mem_iff_getElem?.1 hx
        exact hlo.out q x (List.getElem?_eq_some_iff.1 hq).1 hq
theorem same_ev (xs : List Par) (hn : xs.length ≤ 1048576) (d : Nat) : ∀ i : Nat, xs.length - i = d → Ev (fun k => warrantref06_Same.l0 k xs xs (i : Int)) true := by
  induction d with
  | zero =>
    intro i hd
    refine Ev.step (f := fun _ => some true) (fun k => ?_) (Ev.now _)
    simp only [warrantref06_Same.l0]
    rw [if_neg (by omega)]
  | succ d ih =>
    intro i hd
    refine Ev.step (f := fun k => warrantref06_Same.l0 k xs xs ((i + 1 : Nat) : Int)) (fun k => ?_) (ih (i + 1) (by omega))
    simp only [warrantref06_Same.l0]
    rw [if_pos (by omega), if_pos (by omega), if_pos (by omega), if_neg (by simp), wrap_in2 _ (by omega) (by omega)]
    rfl
theorem same_any (w : World) (A A' : Option Addr) (c c' : Nat) (xs : List Par) (h : k45.C w A xs.length xs) (hc : xs.length ≤ c) (h' : k45.C w A' xs.length xs) (hc' : xs.length ≤ c') (hn : xs.length ≤ 1048576) : Calls Tryd.prog 12 #[.slice A xs.length c, .slice A' xs.length c'] w (fun e w' => e = .returned (.bool true) ∧ Drawn0 w w') := by
  obtain ⟨k, hk⟩ := (same_ev xs hn xs.length 0 (by omega)).rounds
  refine warrantref06_Same.calls k A c xs A' c' xs true w h hc h' hc' ?_
  unfold warrantref06_Same.f
  rw [if_pos rfl]
  exact hk
theorem print_cases (xs : List Par) : (printS xs).2 = .nil ∨ ∃ n, (printS xs).2 = .no n := by
  unfold printS
  split
  · exact .inr ⟨1, rfl⟩
  · unfold finS
    split
    · exact .inr ⟨1, rfl⟩
    · split
      · exact .inr ⟨2, rfl⟩
      · exact .inl rfl
set_option maxHeartbeats 8000000 in
set_option maxRecDepth 20000 in
theorem back_walk (lv : Value) (xs : List Par) (s : ByteArray) (w : World) (hl : ParsIn w lv xs) (hs : s.size ≤ maxLen) (hg : ErrorType w) (hL : LeastAt w) : Calls Tryd.prog 6 #[lv, .string s] w (TruePost w) := by
  obtain ⟨A, c, rfl, hc, hC⟩ := hl
  have HG := hid hg
  have HL := hid hL
  have hgl := hg.lt
  have hll := LeastAt.lt hL
  have HC := hid hC
  have HA := hid (alive_any w hg hL)
  clear hg hL hC
  go_enter Tryd.func6, Tryd.ntmps6
  go_wp2_with (go_at_call 7; refine HA.out.mono ?_; rintro e w1 ⟨rfl, hb⟩; have HB1 := hid hb; clear hb)
  have HC1 := hid (Kd.C_below HC.out HB1.out)
  refine (great_any w1 A c xs HC1.out hc).mono ?_
  rintro e w2 ⟨b, rfl, hgr, hb2⟩
  have HB2 := hid (below_then HB1.out hb2)
  have HGR := hid hgr
  clear hgr hb2
  cases b with
  | true =>
    go_wp2_with fail
    go_ret
    exact TruePost.mk rfl HB2.out
  | false =>
    obtain ⟨hn, hsz⟩ := HGR.out rfl
    by_cases hbig : 5000 < s.size
    · have t0 : decide ((5000 : Int) < (s.size : Int)) = true := decide_eq_true (by omega)
      go_wp2_with fail
      go_ret
      exact TruePost.mk rfl HB2.out
    · have t0 : decide ((5000 : Int) < (s.size : Int)) = false := decide_eq_false (by omega)
      obtain ⟨E, hE, hEl⟩ : ∃ E : ByteArray, strV (escS s.data.toList) = .string E ∧ E.data.toList = escS s.data.toList := ⟨⟨(escS s.data.toList).toArray⟩, rfl, by simp⟩
      have hEs : E.size ≤ 15000 := by have h1 := str_len E; have h2 := escS_le s.data.toList; rw [str_len] at h2; rw [hEl] at h1; omega
      have hun : unS E.data.toList = (s.data.toList, -1) := by rw [hEl, un_esc]
      have HE := hid hE
      have HUN := hid hun
      have HSZ := hid hsz
      clear hE hEl hun hsz
      go_wp2_with fail
      refine (escape_any s _ (by omega)).mono ?_
      rintro e w3 ⟨rfl, hb3⟩
      rw [HE.out]
      have HB3 := hid (below_then HB2.out hb3)
      clear hb3
      go_wp2_with fail
      refine (unescape_any E _ (by omega)).mono ?_
      rintro e w4 ⟨v, rfl, he, hb4⟩
      have HB4 := hid (below_then HB3.out hb4)
      rw [HUN.out] at he ⊢
      have he2 : v = .nilIface := by
        rw [show errU (-1) = .nil from errU_no] at he; exact he
      subst he2
      have hst : strV s.data.toList = .string s := by show Value.string ⟨s.data.toList.toArray⟩ = _; rw [ba_eta]
      simp only [hst]
      have q0 : (s.toList == s.toList) = true := by simp
      clear he hb4 hst
      have HC4 := hid (Kd.C_below HC.out HB4.out)
      go_wp2_with fail
      refine (print_any A c xs w4 HC4.out hc hn HSZ.out (HG.out.below HB4.out hgl) (LeastAt.below HL.out HB4.out hll)).mono ?_
      rintro e w5 ⟨er, rfl, he5, hb5⟩
      have HB5 := hid (below_then HB4.out hb5)
      obtain ⟨t, g, hp⟩ : ∃ t g, printS xs = (t, g) := ⟨_, _, rfl⟩
      rw [hp] at he5 ⊢
      rcases print_cases xs with h | ⟨n, h⟩
      · rw [hp] at h
        obtain rfl : g = .nil := h
        obtain rfl : er = .nilIface := he5
        obtain ⟨T, hT, hTl⟩ : ∃ T : ByteArray, strV t = .string T ∧ T.data.toList = t := ⟨⟨t.toArray⟩, rfl, by simp⟩
        have hpb : parseS T.data.toList = (xs, .nil) := by rw [hTl]; exact print_back hp
        have hTs : T.size ≤ 4096 := by
          by_cases h9 : 4096 < T.size
          · have : parseS T.data.toList = ([], .no 2) := by unfold parseS; rw [if_pos (by rw [str_len]; omega)]
            rw [hpb] at this; cases this
          · omega
        simp only [hT]
        have HPB := hid hpb
        clear hT hTl hpb hp hb5
        go_wp2_with fail
        refine (parse_any T w5 (HG.out.below HB5.out hgl) (LeastAt.below HL.out HB5.out hll) (by omega)).mono ?_
        rw [HPB.out]
        rintro e w6 ⟨v6, er6, rfl, ho6, he6, hb6⟩
        obtain rfl : er6 = .nilIface := he6
        have HB6 := hid (below_then HB5.out hb6)
        obtain ⟨A6, c6, rfl, hc6⟩ := ho6.form
        have HC6 := hid ho6.reads
        have HC7 := hid (Kd.C_below HC.out HB6.out)
        clear hb6 ho6
        go_wp2_with fail
        refine (same_any w6 A A6 c c6 xs HC7.out hc HC6.out hc6 (by omega)).mono ?_
        rintro e w7 ⟨rfl, hd⟩
        have HB7 := hid (below_then HB6.out hd.below)
        clear hd
        go_wp2_with fail
        go_ret
        exact TruePost.mk rfl HB7.out
      · rw [hp] at h
        obtain rfl : g = .no n := h
        obtain rfl : er = .iface 46 (.int .i64 n) := he5
        have ht : t = [] := print_err hp (by intro h9; cases h9)
        subst ht
        clear hp hb5
        go_wp2_with fail
        go_ret
        exact TruePost.mk rfl HB5.out
end Go.Proofs.YtgdbjkkanjgbnaaDoor.Url

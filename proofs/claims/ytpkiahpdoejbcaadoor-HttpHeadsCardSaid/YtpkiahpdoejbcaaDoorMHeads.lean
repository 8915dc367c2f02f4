/-
  HttAlive, HttAlive2, HttPars, HttHeadsLaw, HttRowKit, HttHeadsRow: this proof's parts in one text.
-/
import Derived.Test.YtpkiahpdoejbcaaDoorHttParse
import Derived.Test.YtpkiahpdoejbcaaDoorBuilder2
import Derived.Test.YtpkiahpdoejbcaaDoorDecPrint
import Derived.Lib.SlBytesConst
import Derived.Deep.SlicePairs
import Derived.ChangeArms
import Derived.OpenShut
import Derived.Test.YtpkiahpdoejbcaaDoorHttHead
import Derived.Test.YtpkiahpdoejbcaaDoorRows
import Derived.ProofKit
import Derived.ChangeVars
import Derived.LaidLaws
import Derived.LaidHandle
import Derived.Stop.LaidErr
import Derived.Shelf.Vars
import Derived.Lay
import Derived.Test.YtpkiahpdoejbcaaDoorCards
import Derived.Test.YtpkiahpdoejbcaaDoorTie
import Derived.WalkKit
import Derived.ShutString
import Derived.ChangeOld
import Derived.Below
import Derived.Deep.DeepHandedRow
import Derived.SevenTiedAt
import Derived.Deep.DeepWitnessRowRef
section
namespace Go.Proofs.YtpkiahpdoejbcaaDoor.Htt
open Go.RowKit Go.Proofs.YtpkiahpdoejbcaaDoor
open Go.Proofs.YtpkiahpdoejbcaaDoorW.PrintWords (results_ct Drawn0)
set_option linter.unusedVariables false
set_option linter.unusedSimpArgs false
def text204 : List UInt8 := [72, 84, 84, 80, 47, 49, 46, 49, 32, 50, 48, 52, 32, 78, 111, 32, 67, 111, 110, 116, 101, 110, 116, 13, 10, 67, 111, 110, 116, 101, 110, 116, 45, 76, 101, 110, 103, 116, 104, 58, 32, 48, 13, 10, 13, 10]
theorem ex_one : parseS [71, 69, 84, 32, 47, 97, 63, 98, 32, 72, 84, 84, 80, 47, 49, 46, 49, 13, 10, 13, 10] = .ok ⟨[71, 69, 84], [47, 97], [98], [], []⟩ := by kernel_rfl
theorem ex_two : parseS [80, 79, 83, 84, 32, 47, 120, 32, 72, 84, 84, 80, 47, 49, 46, 49, 13, 10, 67, 111, 110, 116, 101, 110, 116, 45, 76, 101, 110, 103, 116, 104, 58, 32, 50, 13, 10, 13, 10, 97, 98, 99] = .error (.at_ 39 230) := by kernel_rfl
theorem dec204 : decText 204 = [50, 48, 52] := by
  unfold decText
  rw [if_neg (by omega)]
  show digs 204 = _
  rw [digs, if_neg (by omega), digs, if_neg (by omega), digs, if_pos (by omega)]
  rfl
theorem dec0 : decText 0 = [48] := by
  unfold decText
  rw [if_neg (by omega)]
  show digs 0 = _
  rw [digs, if_pos (by omega)]
  rfl
theorem index_nil (f : Value) (w : World) : Calls Tryd.prog 47 #[.slice none 0 0, f] w (fun e w' => e = .returned (.int .i64 (-1)) ∧ Below w.heap.size w w') := by
  go_enter Tryd.func47, Tryd.ntmps47
  go_wp2_with fail
  go_loopw [8] (fun vi wr => vi = .int .i64 0 ∧ Below w.heap.size w wr) (fun _ _ => 0)
  case atStart => exact ⟨rfl, Below.refl _ _⟩
  case round =>
    obtain ⟨rfl, hb⟩ := hrel
    have HB := hid hb
    clear hb
    go_wp2_with fail
    go_ret
    exact ⟨rfl, HB.out⟩
theorem contains_nil (f : Value) (w : World) : Calls Tryd.prog 32 #[.slice none 0 0, f] w (BBelow false w) := by
  go_enter Tryd.func32, Tryd.ntmps32
  go_wp2_with (go_at_call 47; refine (index_nil _ _).mono ?_; rintro e w1 ⟨rfl, hb⟩; have HB := hid hb; clear hb)
  go_ret
  exact ⟨rfl, HB.out⟩
theorem lines_nil (v : Value) (w : World) : Calls Tryd.prog 19 #[v, .slice none 0 0] w (fun e w' => e = .returned (.tuple #[]) ∧ w' = w) := by
  go_enter Tryd.func19, Tryd.ntmps19
  go_wp2_with fail
  go_loopw [8] (fun vi wr => vi = .int .i64 0 ∧ wr = w) (fun _ _ => 0)
  case atStart => exact ⟨rfl, rfl⟩
  case round =>
    obtain ⟨rfl, rfl⟩ := hrel
    go_wp2_with fail
    go_end0
    exact ⟨rfl, rfl⟩
theorem words204 (w : World) : Calls Tryd.prog 30 #[.int .i64 204] w (fun e w' => e = .returned (.string ⟨#[78, 111, 32, 67, 111, 110, 116, 101, 110, 116]⟩) ∧ Drawn0 w w') := Pwords.http_words.calls 204 _ w rfl
def text1 : List UInt8 := [72, 84, 84, 80, 47, 49, 46, 49, 32, 50, 48, 52, 32, 78, 111, 32, 67, 111, 110, 116, 101, 110, 116, 13, 10]
theorem bld_is {B b : Nat} {L L' : List UInt8} {w : World} (h : L = L') (hb : Bld B b L w) : Bld B b L' w := h ▸ hb
theorem strV_lit (l : List UInt8) : strV l = .string (baL l) := rfl
abbrev rspO : Obj := .cells #[.int .i64 204, .slice none 0 0, .string ⟨#[]⟩] 43 (0, 0)
theorem rsp_at {w : World} {B : Nat} (h : w.heap[B]? = some rspO) : w.cell? ⟨B, 0, none⟩ = some (.int .i64 204) ∧ w.cell? ⟨B, 1, none⟩ = some (.slice none 0 0) ∧ w.cell? ⟨B, 2, none⟩ = some (.string ⟨#[]⟩) := by
  simp [World.cell?, h]
set_option maxHeartbeats 4000000 in
set_option maxRecDepth 20000 in
theorem render204 (w : World) : Calls Tryd.prog 14 #[.agg #[.int .i64 204, .slice none 0 0, .string ⟨#[]⟩]] w (fun e w' => e = .returned (.tuple #[.string (baL text204), .nilIface]) ∧ Below w.heap.size w w') := by
  have hd204 : ∀ w, Calls Tryd.prog 34 #[.int .i64 204] w (fun e w' => e = .returned (.string ⟨#[50, 48, 52]⟩) ∧ Below w.heap.size w w') := fun w => by
    have := print_any 204 w (by omega) (by omega)
    rw [dec204] at this
    exact this
  have hd0 : ∀ w, Calls Tryd.prog 34 #[.int .i64 0] w (fun e w' => e = .returned (.string ⟨#[48]⟩) ∧ Below w.heap.size w w') := fun w => by
    have := print_any 0 w (by omega) (by omega)
    rw [dec0] at this
    exact this
  have HD2 := hid hd204
  have HD0 := hid hd0
  have HBI := hid ((Below.refl w.heap.size w).alloc (Nat.le_refl _) (.cells #[.int .i64 204, .slice none 0 0, .string ⟨#[]⟩] 43))
  have HI := hid (heap_alloc_new w (.cells #[.int .i64 204, .slice none 0 0, .string ⟨#[]⟩] 43))
  clear hd204 hd0
  go_enter Tryd.func14, Tryd.ntmps14
  go_wp2_with (go_at_call 30; refine (words204 _).mono ?_; rintro e w1 ⟨rfl, hd⟩; have HB1 := hid (HBI.out.trans (hd.below.mono (by simp))); have HI1 := hid ((hd.below.block w.heap.size (by simp)).trans HI.out); have hs1 : w.heap.size + 1 ≤ w1.heap.size := (by have := hd.below.size; simpa using this); obtain ⟨r0, r1, r2⟩ := rsp_at HI1.out; clear hd)
  go_loopw [4, 5, 16] (fun v4 v5 vi wr => v4 = .slice none 0 0 ∧ v5 = .bool true ∧ vi = .int .i64 0 ∧ wr = w1) (fun _ _ _ _ => 0)
  case atStart => exact ⟨rfl, rfl, rfl, rfl⟩
  case round =>
    obtain ⟨rfl, rfl, rfl, rfl⟩ := hrel
    go_wp2_with (go_at_call 32; refine (contains_nil _ _).mono ?_; rintro e w2 ⟨rfl, hd⟩; have HB2 := hid (below_then HB1.out hd); have HI2 := hid ((hd.block w.heap.size (by omega)).trans HI1.out); have hs2 : w.heap.size + 1 ≤ w2.heap.size := (by have := hd.size; omega); obtain ⟨r0, r1, r2⟩ := rsp_at HI2.out; clear hd)
    have HBL := hid (bld_new w2)
    have HT0 := hid (((Below.refl w2.heap.size w2).alloc (Nat.le_refl _) (.cells #[.pointer none, .slice none 0 0] 50)).drew)
    have HP0 := hid ((HT0.out.cell (p := ⟨w.heap.size, 0, none⟩) (by show w.heap.size < _; omega)).trans r0)
    have hG2 : w.heap.size < w2.heap.size := by omega
    go_region_held3 (fun y => y.cell? ⟨w.heap.size, 0, none⟩ = some (.int .i64 204))
      (first | exact HP5.out | exact HP4.out | exact HP3.out | exact HP0.out)
      (first
        | (go_at_call 34; refine (HD2.out _).mono ?_; rintro e y3 ⟨rfl, hd⟩; have HT3 := hid (HT0.out.trans (hd.mono HT0.out.size)); have HL3 := hid (HBL.out.drew.below hd); have HP3 := hid ((HT3.out.cell (p := ⟨w.heap.size, 0, none⟩) hG2).trans r0); clear hd)
        | (go_at_call 30; refine (words204 _).mono ?_; rintro e y4 ⟨rfl, hd⟩; have HT4 := hid (below_then HT3.out hd.below); have HL4 := hid (HL3.out.below hd.below); have HP4 := hid ((HT4.out.cell (p := ⟨w.heap.size, 0, none⟩) hG2).trans r0); clear hd)
        | (go_at_call 18; refine (bld_text _ _ _ _ _ HL4.out (by decide +kernel) HT4.out.size).mono ?_; rintro e y5 ⟨rfl, hl, hd⟩; have HL5 := hid hl; have HT5 := hid (HT4.out.trans hd); have HP5 := hid ((HT5.out.cell (p := ⟨w.heap.size, 0, none⟩) hG2).trans r0); clear hl hd))
    have r1' := (HT5.out.cell (p := ⟨w.heap.size, 1, none⟩) hG2).trans r1
    have r2' := (HT5.out.cell (p := ⟨w.heap.size, 2, none⟩) hG2).trans r2
    clear r0 r1
    have R2 := hid r2
    go_wp2_with (go_at_call 19; refine (lines_nil _ _).mono ?_; rintro e y6 ⟨rfl, rfl⟩)
    have HL6 := hid (bld_is (L' := text1) (by decide +kernel) HL5.out)
    have HQ0 := hid r2'
    have HT6 := hid HT5.out.drew
    have HQ6 := hid ((HT6.out.cell (p := ⟨w.heap.size, 2, none⟩) hG2).trans r2)
    clear HL5 HP5
    go_region_held3 (fun y => y.cell? ⟨w.heap.size, 2, none⟩ = some (.string ⟨#[]⟩))
      (first | exact HQ8.out | exact HQ7.out | exact HQ6.out)
      (first
        | (go_at_call 34; refine (HD0.out _).mono ?_; rintro e y7 ⟨rfl, hd⟩; have HT7 := hid (HT6.out.trans (hd.mono HT6.out.size)); have HL7 := hid (HL6.out.drew.below hd); have HQ7 := hid ((HT7.out.cell (p := ⟨w.heap.size, 2, none⟩) hG2).trans r2); clear hd)
        | (go_at_call 18; refine (bld_text _ _ _ _ _ HL7.out (by decide +kernel) HT7.out.size).mono ?_; rintro e y8 ⟨rfl, hl, hd⟩; have HL8 := hid hl; have HT8 := hid (HT7.out.trans hd); have HQ8 := hid ((HT8.out.cell (p := ⟨w.heap.size, 2, none⟩) hG2).trans r2); clear hl hd))
    have HL9 := hid (bld_is (L' := text204) (by decide +kernel) HL8.out)
    clear HL8
    go_wp2_with (go_at_call 22; refine (bld_string _ _ _ _ HL9.out HT8.out.size).mono ?_; rintro e y9 ⟨rfl, _, hd⟩; have HT9 := hid (HT8.out.trans hd); clear hd)
    go_ret2
    exact ⟨rfl, HB2.out.trans (HT9.out.mono (by omega))⟩
def TruePost (w : World) (e : Ending) (w' : World) : Prop := e = .returned (.bool true) ∧ Below w.heap.size w w'
end Go.Proofs.YtpkiahpdoejbcaaDoor.Htt

end
section
namespace Go.Proofs.YtpkiahpdoejbcaaDoor.Htt
open Go.RowKit Go.Proofs.YtpkiahpdoejbcaaDoor
open Go.Proofs.YtpkiahpdoejbcaaDoorW.PrintWords (results_ct Drawn0)
set_option linter.unusedVariables false
set_option linter.unusedSimpArgs false
theorem bytes_new (w : World) (C : Array Value) (T : TypeId) (fr : Nat × Nat) (l : List UInt8) (h : C.toList = l.map cellOf) : BytesAt (w.alloc (.cells C T fr)) (some ⟨w.heap.size, 0, none⟩) l.length l.length l := by
  refine ⟨rfl, Nat.le_refl _, _, _, rfl, fun i hi => ?_⟩
  have h1 := heap_alloc_new w (.cells C T fr)
  have h2 : C[i]? = some (cellOf (l.getD i 0)) := by
    rw [← Array.getElem?_toList, h, List.getElem?_map, List.getElem?_eq_getElem hi, List.getD_eq_getElem?_getD, List.getElem?_eq_getElem hi]; rfl
  simp only [World.cell?, h1, Nat.zero_add]
  exact h2
def ParseMid (R : Except GErr Rq) (w : World) (e : Ending) (w' : World) : Prop :=
  (match R with
  | .ok r => ∃ (a b c d : ByteArray) (A : Option Addr) (cap : Nat), a.data.toList = r.m ∧ b.data.toList = r.p ∧ c.data.toList = r.q ∧ d.data.toList = r.body ∧ r.heads.length ≤ cap ∧ OwnP w' w.heap.size (.slice A r.heads.length cap) r.heads ∧ e = .returned (.tuple #[reqV a b c (.slice A r.heads.length cap) d, .nilIface])
  | .error g => ∃ v, e = .returned (.tuple #[reqZ, v]) ∧ IsErr w' g v) ∧ Below w.heap.size w w'
theorem ParseMid.of {R : Except GErr Rq} {w w1 w' : World} {e : Ending} (h : ParsePost R w1 e w') (hb : Below w.heap.size w w1) : ParseMid R w e w' := by
  obtain ⟨h1, h2⟩ := h
  refine ⟨?_, hb.trans (h2.mono hb.size)⟩
  cases R with
  | error g => exact h1
  | ok r =>
    obtain ⟨a, b, c, d, v, h3, h4, h5, h6, ho, rfl⟩ := h1
    obtain ⟨A, cap, rfl, hc⟩ := ho.form
    exact ⟨a, b, c, d, A, cap, h3, h4, h5, h6, hc, own_mono ho hb.size, rfl⟩
theorem parse_const (m : Int) (w : World) (C : Array Value) (T : TypeId) (fr : Nat × Nat) (l : List UInt8) (h : C.toList = l.map cellOf) (hl : l.length ≤ 1000000) (hM : MaxAt m w) (R : Except GErr Rq) (hR : parseS l = R) :
    Calls Tryd.prog 12 #[.slice (some ⟨w.heap.size, 0, none⟩) l.length l.length] (w.alloc (.cells C T fr)) (ParseMid R w) := by
  have hb : Below w.heap.size w (w.alloc (.cells C T fr)) := (Below.refl w.heap.size w).alloc (Nat.le_refl _) _
  rw [← hR]
  exact (parse_any _ _ _ l m _ (hM.below hb hM.lt) (bytes_new w C T fr l h) hl).mono (fun e w' hq => ParseMid.of hq hb)
theorem parse_const_at (m : Int) (w : World) (g : Nat) (hg : w.heap.size = g) (C : Array Value) (T : TypeId) (fr : Nat × Nat) (l : List UInt8) (h : C.toList = l.map cellOf) (hl : l.length ≤ 1000000) (hM : MaxAt m w) (R : Except GErr Rq) (hR : parseS l = R) :
    Calls Tryd.prog 12 #[.slice (some ⟨g, 0, none⟩) l.length l.length] (w.alloc (.cells C T fr)) (ParseMid R w) := by
  subst hg
  exact parse_const m w C T fr l h hl hM R hR
def oneL : List UInt8 := [71, 69, 84, 32, 47, 97, 63, 98, 32, 72, 84, 84, 80, 47, 49, 46, 49, 13, 10, 13, 10]
def twoL : List UInt8 := [80, 79, 83, 84, 32, 47, 120, 32, 72, 84, 84, 80, 47, 49, 46, 49, 13, 10, 67, 111, 110, 116, 101, 110, 116, 45, 76, 101, 110, 103, 116, 104, 58, 32, 50, 13, 10, 13, 10, 97, 98, 99]
set_option maxHeartbeats 4000000 in
set_option maxRecDepth 20000 in
theorem alive_any (m : Int) (w : World) (hg : ErrorType w) (hM : MaxAt m w) : Calls Tryd.prog 5 #[] w (TruePost w) := by
  have HG := hid hg
  have HM := hid hM
  have hgl := hg.lt
  have hml := hM.lt
  have kc := fun (w : World) (C : Array Value) (n c : Nat) => Lib.run_convert_bytes_const (P := Tryd.prog) w 38 5 C n c Tryd.underlying38 Tryd.underlying5
  clear hg hM
  go_enter Tryd.func5, Tryd.ntmps5
  go_wp2_with fail
  refine (parse_const m w _ _ _ oneL (by kernel_rfl) (by decide) HM.out _ ex_one).mono ?_
  rintro e w1 ⟨⟨a, b, c, d, A, cap, ha, hb, hc, hd, hcap, ho, rfl⟩, hb1⟩
  have HB1 := hid hb1
  have hs1 := hb1.size
  have z1 : (b.toList == ([47, 97] : List UInt8)) = true := methods_eq hb
  have z2 : (c.toList == ([98] : List UInt8)) = true := methods_eq hc
  have HH1 := hid (heap_alloc_new w1 (reqO a b c (.slice A 0 cap) d))
  have HB2 := hid (HB1.out.alloc hs1 (reqO a b c (.slice A 0 cap) d))
  obtain ⟨W2, hW2⟩ : ∃ W2, w1.alloc (reqO a b c (.slice A 0 cap) d) = W2 := ⟨_, rfl⟩
  have hsz2 : W2.heap.size = w1.heap.size + 1 := by rw [← hW2]; simp
  have kc2 : ∀ (C : Array Value) (n c : Nat), (convert 38 38 (.slice (some ⟨w1.heap.size + 1, 0, none⟩) n c)).run Tryd.prog (W2.alloc (.cells C 5)) = .ok (.slice (some ⟨w1.heap.size + 1, 0, none⟩) n c) (W2.alloc (.cells C 5 (C.size, C.size + 1))) := fun C n c => by
    have h9 := kc W2 C n c
    rw [hsz2] at h9
    exact h9
  rw [hW2] at HB2 HH1
  have HM2 := hid (HM.out.below HB2.out hml)
  have hw2 : w.heap.size ≤ W2.heap.size := by omega
  have HLT : Hid (w1.heap.size < W2.heap.size) := hid (by omega)
  have HSZ := hid hsz2
  clear ha hb hc hd ho hb1 hcap
  go_wp2_with fail
  refine (parse_const_at m W2 _ HSZ.out _ _ _ twoL (by kernel_rfl) (by decide) HM2.out _ ex_two).mono ?_
  rintro e w3 ⟨⟨v, rfl, he⟩, hb3⟩
  have HB3 := hid (below_then HB2.out hb3)
  have HH3 := hid ((hb3.block w1.heap.size HLT.out).trans HH1.out)
  have HE := hid he
  have hs3 := hb3.size
  have HB4 := hid (HB3.out.alloc (by omega) reqOZ)
  have HH4 := hid ((Below.heap_alloc w3 reqOZ w1.heap.size (by have := HLT.out; omega)).trans HH3.out)
  have HE4 := hid (he.below ((Below.refl w3.heap.size w3).alloc (Nat.le_refl _) reqOZ))
  have hs4 : w.heap.size ≤ (w3.alloc reqOZ).heap.size := HB4.out.size
  have HLT4 : Hid (w1.heap.size < (w3.alloc reqOZ).heap.size) := hid (by have := HLT.out; simp; omega)
  obtain ⟨T, hT⟩ : ∃ T, baL text204 = T := ⟨_, rfl⟩
  have HRN : Hid (∀ w, Calls Tryd.prog 14 #[.agg #[.int .i64 204, .slice none 0 0, .string ⟨#[]⟩]] w (fun e w' => e = .returned (.tuple #[.string T, .nilIface]) ∧ Below w.heap.size w w')) := hid (fun w => by rw [← hT]; exact render204 w)
  have z3 : (T.toList == ([72, 84, 84, 80, 47, 49, 46, 49, 32, 50, 48, 52, 32, 78, 111, 32, 67, 111, 110, 116, 101, 110, 116, 13, 10, 67, 111, 110, 116, 101, 110, 116, 45, 76, 101, 110, 103, 116, 104, 58, 32, 48, 13, 10, 13, 10] : List UInt8)) = true := methods_eq (by rw [← hT, baL_data]; rfl)
  clear hb3 he hT hW2 hsz2 kc kc2
  go_wp2_with (go_at_call 14; refine (HRN.out _).mono ?_; rintro e w5 ⟨rfl, hd⟩; have HB5 := hid (below_then HB4.out hd); have HE5 := hid (HE4.out.below hd); have HH5 := hid ((hd.block w1.heap.size HLT4.out).trans HH4.out); obtain ⟨q0, q1, q2, q3, q4, qf0, qf1, qf2, qf3, qf4⟩ := five_at HH5.out; clear hd HRN)
  refine (num_any (.at_ 39 230) v _ (HG.out.below HB5.out hgl) HE5.out).mono ?_
  rintro e w6 ⟨rfl, hd⟩
  have HB6 := hid (below_then HB5.out hd)
  have HE6 := hid (HE5.out.below hd)
  clear hd q0 q1 q2 q3 q4 qf0 qf1 qf2 qf3 qf4
  rw [show (GErr.at_ 39 230).num = 230 from rfl]
  go_wp2_with fail
  refine (pos_any (.at_ 39 230) v _ (HG.out.below HB6.out hgl) HE6.out).mono ?_
  rintro e w7 ⟨rfl, hd⟩
  have HB7 := hid (below_then HB6.out hd)
  clear hd
  rw [show (GErr.at_ 39 230).pos = 39 from rfl]
  go_wp2_with fail
  go_ret
  exact ⟨rfl, HB7.out⟩
end Go.Proofs.YtpkiahpdoejbcaaDoor.Htt

end
section
namespace Go.Proofs.YtpkiahpdoejbcaaDoor.Htt
open Go.RowKit Go.ChangeShapes Go.WideShapes Go.ChangeAt Go.Deep Go.Proofs.YtpkiahpdoejbcaaDoor
open Go.Proofs.YtpkiahpdoejbcaaDoorW.PrintWords (Kd ReadsRow add_field)
set_option linter.unusedVariables false
/-- A list of parameters that came in. -/
def ParsIn (W : World) (v : Value) (xs : List Par) : Prop := ∃ A c, v = .slice A xs.length c ∧ xs.length ≤ c ∧ PHead.k46.C W A xs.length xs
section
variable {H : Type} {enc : TypeId × Value → H} {W : World}
theorem open_pars {a : Option Addr} {len cap : Nat} {d : DataW H} {ps : List MemPlace} (h : DataW.Trod enc Tryd.prog W 0 (fun _ => true) true 22 (.slice a len cap) d ps) :
    ∃ l : List Par, ParsIn W (.slice a len cap) l := by
  obtain ⟨fuel, hf⟩ := h
  have h1 : Tryd.prog.cellsOf 9 = 1 := by kernel_rfl
  rcases open_slice_pairs Tryd.underlying22 Tryd.underlying46 (by kernel_rfl) rfl rfl (by kernel_rfl) (by kernel_rfl) hf with ⟨hcs, _⟩ | ⟨x, l, c, m, n, V0, V1, D0, D1, P0, P1, hcs, _, hl, hm, hmm, _, hel⟩
  · simp [Value.cells] at hcs
    obtain ⟨rfl, rfl, rfl⟩ := hcs
    exact ⟨[], none, 0, rfl, by simp, rfl, by simp, fun h => absurd h (by simp)⟩
  · simp [Value.cells] at hcs
    obtain ⟨rfl, rfl, rfl⟩ := hcs
    rw [if_pos rfl] at hmm
    subst hmm
    have hel' : ∀ i, ∃ s t : ByteArray, i < len → W.cell? (x.add (i * 2)) = some (.string s) ∧ W.cell? (x.add (i * 2 + 1)) = some (.string t) := by
      intro i
      by_cases hi : i < len
      · obtain ⟨q1, q2, q3, q4⟩ := hel i (by omega)
        obtain ⟨s, q5, _, _⟩ := DataW.trod_string Tryd.underlying9 q3
        obtain ⟨t, q6, _, _⟩ := DataW.trod_string Tryd.underlying9 q4
        simp only [List.cons.injEq, and_true] at q5 q6
        exact ⟨s, t, fun _ => ⟨by rw [q1, q5], by rw [q2, q6]⟩⟩
      · exact ⟨⟨#[]⟩, ⟨#[]⟩, fun h => absurd h hi⟩
    obtain ⟨f, hf⟩ : ∃ f : Nat → Par, ∀ i, i < len → W.cell? (x.add (i * 2)) = some (.string (f i).f0) ∧ W.cell? (x.add (i * 2 + 1)) = some (.string (f i).f1) :=
      ⟨fun i => ⟨Classical.choose (hel' i), Classical.choose (Classical.choose_spec (hel' i))⟩, fun i => Classical.choose_spec (Classical.choose_spec (hel' i))⟩
    refine ⟨(List.range len).map f, some x, m, by simp, by simp; omega, by simp, by simp; unfold maxLen at *; omega, fun h0 => ⟨x, rfl, fun j p hp => ?_⟩⟩
    have hj : j < len := by have := (List.getElem?_eq_some_iff.1 hp).1; simpa using this
    have hp' : p = f j := by simpa [hj] using hp.symm
    subst hp'
    refine ⟨[.string (f j).f0, .string (f j).f1], rfl, PHead.k46_mk W _, fun i u hu => ?_⟩
    have hsz : PHead.k46.sz = 2 := rfl
    rw [hsz]
    match i, hu with
    | 0, hu => cases hu; exact (hf j hj).1
    | 1, hu => cases hu; exact (hf j hj).2
    | (i + 2), hu => simp at hu
end
end Go.Proofs.YtpkiahpdoejbcaaDoor.Htt

end
section
namespace Go.Proofs.YtpkiahpdoejbcaaDoor.Htt
open Go.RowKit Go.Proofs.YtpkiahpdoejbcaaDoor
open Go.Proofs.YtpkiahpdoejbcaaDoorW.PrintWords (Kd Drawn0)
set_option linter.unusedVariables false
set_option linter.unusedSimpArgs false
set_option maxHeartbeats 4000000 in
set_option maxRecDepth 20000 in
theorem rhead_any (xs : List Par) (key : ByteArray) (A : Option Addr) (c : Nat) (w : World) (hC : PHead.k46.C w A xs.length xs) (hc : xs.length ≤ c) (hn : xs.length ≤ 1048576) :
    Calls Tryd.prog 7 #[.slice A xs.length c, .string key] w (HeadPost (getS xs key) w) := by
  have HC := hid hC
  clear hC
  obtain ⟨R, hR⟩ : ∃ R, getS xs key = R := ⟨_, rfl⟩
  rw [hR]
  have HR := hid hR
  clear hR
  go_enter Tryd.func7, Tryd.ntmps7
  go_wp2_with fail
  go_loopw [6] (fun vi wr => ∃ i : Nat, i ≤ xs.length ∧ vi = .int .i64 (i : Nat) ∧ Hid (getS (xs.drop i) key = R) ∧ Below w.heap.size w wr) (fun vi _ => xs.length - (intOf vi).toNat)
  case atStart => exact ⟨0, Nat.zero_le _, rfl, hid (by rw [List.drop_zero]; exact HR.out), Below.refl _ _⟩
  case round =>
    obtain ⟨i, hi, rfl, hg, hbw⟩ := hrel
    have HBW := hid hbw
    by_cases hlt : i < xs.length
    · have t0 : decide ((i : Int) < (xs.length : Int)) = true := decide_eq_true (by omega)
      have p0 : (0 : Int) ≤ (i : Int) := by omega
      have p1 : (i : Int) < (xs.length : Int) := by omega
      obtain ⟨ad, rfl, e0, e1⟩ := PHead.at_T46 (Kd.C_below HC.out hbw) (i : Int) (by omega) (by omega)
      simp only [Int.toNat_natCast] at e0 e1
      obtain ⟨x, hx⟩ : ∃ x, xs[i] = x := ⟨_, rfl⟩
      have hrd : PHead.rd_T46 xs (i : Int) = x := by unfold PHead.rd_T46; rw [Int.toNat_natCast, List.getD_eq_getElem?_getD, List.getElem?_eq_getElem hlt, hx]; rfl
      rw [hrd] at e0 e1
      have hg2 := hg.out
      rw [List.drop_eq_getElem_cons hlt, getS, hx] at hg2
      have HG2 := hid hg2
      clear hg hg2 hbw hrd hx
      by_cases hk : x.f0 = key
      · have z0 : (x.f0.toList == key.toList) = true := by rw [hk]; simp
        have HRR : Hid (R = some x.f1) := hid (by rw [← HG2.out, if_pos hk])
        clear hk
        go_wp2_with fail
        go_ret2
        exact ⟨by rw [HRR.out]; rfl, HBW.out⟩
      · have z0 : (x.f0.toList == key.toList) = false := by simpa using fun e => hk (ba_injL e)
        have HRR : Hid (getS (xs.drop (i + 1)) key = R) := hid (by rw [← HG2.out, if_neg hk])
        clear hk
        go_wp2_with fail
        exact ⟨⟨i + 1, by omega, by congr 1, HRR, HBW.out⟩, by simp [intOf] <;> omega⟩
    · obtain rfl : i = xs.length := by omega
      have t0 : decide ((xs.length : Int) < (xs.length : Int)) = false := decide_eq_false (by omega)
      have HRR : Hid (R = none) := hid (by rw [← hg.out, List.drop_length]; rfl)
      clear hbw hg
      go_wp2_with fail
      go_ret2
      exact ⟨by rw [HRR.out]; rfl, HBW.out⟩
/-- The token of a value. -/
def bearS (s : List UInt8) : List UInt8 × Bool :=
  if Lib.hasPrefix s [66, 101, 97, 114, 101, 114, 32] = true ∧ s.drop 7 ≠ [] then (s.drop 7, true) else ([], false)
def BearPost (p : List UInt8 × Bool) (w : World) (e : Ending) (w' : World) : Prop := e = .returned (.tuple #[.string (baL p.1), .bool p.2]) ∧ Below w.heap.size w w'
theorem baL_eq {s : ByteArray} {l : List UInt8} (h : s.data.toList = l) : baL l = s := by rw [← h]; exact ba_eta s
def authK : ByteArray := ⟨#[97, 117, 116, 104, 111, 114, 105, 122, 97, 116, 105, 111, 110]⟩
def bearB : ByteArray := ⟨#[66, 101, 97, 114, 101, 114, 32]⟩
set_option maxHeartbeats 4000000 in
set_option maxRecDepth 20000 in
theorem bearer_any (xs : List Par) (A : Option Addr) (c : Nat) (w : World) (hC : PHead.k46.C w A xs.length xs) (hc : xs.length ≤ c) (hn : xs.length ≤ 1048576) :
    Calls Tryd.prog 8 #[.slice A xs.length c] w (BearPost (bearS (getR (getS xs authK)).1.data.toList) w) := by
  have hh := head_any xs authK A c w hC hc hn
  obtain ⟨s, b, hsb⟩ : ∃ s b, getR (getS xs authK) = (s, b) := ⟨_, _, rfl⟩
  unfold HeadPost at hh
  rw [hsb] at hh ⊢
  have HH := hid hh
  have hcp := fun w => Tryd.strings_CutPrefix s bearB w
  have hdl : Lib.trimPrefix s.data.toList bearB.data.toList = if Lib.hasPrefix s.data.toList [66, 101, 97, 114, 101, 114, 32] = true then s.data.toList.drop 7 else s.data.toList := rfl
  obtain ⟨p, hp⟩ : ∃ p, Lib.hasPrefix s.data.toList [66, 101, 97, 114, 101, 114, 32] = p := ⟨_, rfl⟩
  have HP := hid hp
  simp only at hh ⊢
  obtain ⟨t, ht⟩ : ∃ t, baL (Lib.trimPrefix s.data.toList bearB.data.toList) = t := ⟨_, rfl⟩
  have htl : t.data.toList = if p = true then s.data.toList.drop 7 else s.data.toList := by rw [← ht, baL_data, hdl, hp]
  have HCP : Hid (∀ w, Calls Tryd.prog 17 #[.string s, .string bearB] w (fun e w' => e = .returned (.tuple #[.string t, .bool p]) ∧ w' = w)) := hid (fun w => by
    have := hcp w
    rw [show Lib.hasPrefix s.data.toList bearB.data.toList = p from hp] at this
    rw [← ht]; exact this)
  obtain ⟨B, hB⟩ : ∃ B, bearS s.data.toList = B := ⟨_, rfl⟩
  have hB2 := hB
  unfold bearS at hB2
  rw [hp] at hB2
  rw [hB]
  clear hh hcp hdl hp ht hB hsb
  go_enter Tryd.func8, Tryd.ntmps8
  cases p with
  | false =>
    have HB : Hid (B = ([], false)) := hid (by rw [← hB2]; simp)
    clear htl hB2
    go_wp2_with (first | (go_at_call 6; refine HH.out.mono ?_; rintro e w1 ⟨rfl, hd⟩; have HB1 := hid hd; clear hd HH) | (go_at_call 17; refine (HCP.out _).mono ?_; rintro e w2 ⟨rfl, rfl⟩; clear HCP))
    go_ret2
    exact ⟨by rw [HB.out]; rfl, HB1.out⟩
  | true =>
    rw [if_pos rfl] at htl
    by_cases hz : t.size = 0
    · have hz0 : t.toList = [] := str_empty t hz
      have HB : Hid (B = ([], false)) := hid (by rw [← hB2, ← htl, if_neg (fun h => h.2 (by rw [← str_toList]; exact hz0))])
      clear htl hB2 hz
      go_wp2_with (first | (go_at_call 6; refine HH.out.mono ?_; rintro e w1 ⟨rfl, hd⟩; have HB1 := hid hd; clear hd HH) | (go_at_call 17; refine (HCP.out _).mono ?_; rintro e w2 ⟨rfl, rfl⟩; clear HCP))
      go_ret2
      exact ⟨by rw [HB.out]; rfl, HB1.out⟩
    · have hn1 : 0 < t.size := by omega
      have hn2 := str_ne_empty t hn1
      have hn3 := str_not_empty t hn1
      have hn4 : (t.toList == ([] : List UInt8)) = false := by simpa using hn3
      have hn5 : t.toList.isEmpty = false := by simpa using hn3
      have HB : Hid (B = (t.data.toList, true)) := hid (by rw [← hB2, ← htl, if_pos ⟨rfl, by rw [← str_toList]; exact hn3⟩])
      clear htl hB2 hz hn1
      go_wp2_with (first | (go_at_call 6; refine HH.out.mono ?_; rintro e w1 ⟨rfl, hd⟩; have HB1 := hid hd; clear hd HH) | (go_at_call 17; refine (HCP.out _).mono ?_; rintro e w2 ⟨rfl, rfl⟩; clear HCP))
      go_ret2
      exact ⟨by rw [HB.out, baL_eq rfl]; rfl, HB1.out⟩
theorem pre_take (s : List UInt8) (h : 7 ≤ s.length) : Lib.hasPrefix s [66, 101, 97, 114, 101, 114, 32] = (s.take 7 == [66, 101, 97, 114, 101, 114, 32]) := by
  unfold Lib.hasPrefix
  rw [Bool.eq_iff_iff, List.isPrefixOf_iff_prefix, beq_iff_eq, List.prefix_iff_eq_take]
  exact ⟨fun h => h.symm, fun h => h.symm⟩
theorem pre_short (s : List UInt8) (h : s.length < 8) : ¬ (Lib.hasPrefix s [66, 101, 97, 114, 101, 114, 32] = true ∧ s.drop 7 ≠ []) := fun h9 => h9.2 (List.drop_eq_nil_of_le (by omega))
set_option maxHeartbeats 4000000 in
set_option maxRecDepth 20000 in
theorem rbearer_any (xs : List Par) (A : Option Addr) (c : Nat) (w : World) (hC : PHead.k46.C w A xs.length xs) (hc : xs.length ≤ c) (hn : xs.length ≤ 1048576) :
    Calls Tryd.prog 9 #[.slice A xs.length c] w (BearPost (bearS (getR (getS xs authK)).1.data.toList) w) := by
  have hh := rhead_any xs authK A c w hC hc hn
  obtain ⟨s, b, hsb⟩ : ∃ s b, getR (getS xs authK) = (s, b) := ⟨_, _, rfl⟩
  unfold HeadPost at hh
  rw [hsb] at hh ⊢
  have HH := hid hh
  have hln := str_len s
  simp only at hh ⊢
  obtain ⟨B, hB⟩ : ∃ B, bearS s.data.toList = B := ⟨_, rfl⟩
  have hB2 := hB
  unfold bearS at hB2
  rw [hB]
  clear hh hB hsb
  go_enter Tryd.func9, Tryd.ntmps9
  by_cases h8 : s.size < 8
  · have t0 : decide ((s.size : Int) < 8) = true := decide_eq_true (by omega)
    have HB : Hid (B = ([], false)) := hid (by rw [← hB2, if_neg (pre_short _ (by omega))])
    clear hB2 h8 hln
    go_wp2_with (go_at_call 7; refine HH.out.mono ?_; rintro e w1 ⟨rfl, hd⟩; have HB1 := hid hd; clear hd HH)
    go_ret2
    exact ⟨by rw [HB.out]; rfl, HB1.out⟩
  · have t0 : decide ((s.size : Int) < 8) = false := decide_eq_false (by omega)
    have p0 : (7 : Int) ≤ (s.size : Int) := by omega
    obtain ⟨t, ht⟩ : ∃ t, s.extract 0 7 = t := ⟨_, rfl⟩
    have htl : t.data.toList = s.data.toList.take 7 := by rw [← ht, ext_take]
    have hpt := pre_take s.data.toList (by omega)
    rw [← htl, ← str_toList t] at hpt
    have HT := hid ht
    obtain ⟨u, hu⟩ : ∃ u, s.extract 7 s.size = u := ⟨_, rfl⟩
    have hul : u.data.toList = s.data.toList.drop 7 := by rw [← hu, ext_drop]
    have HU := hid hu
    have hne : s.data.toList.drop 7 ≠ [] := fun e => by
      have := congrArg List.length e
      rw [List.length_drop] at this
      simp at this
      omega
    cases hz : (t.toList == ([66, 101, 97, 114, 101, 114, 32] : List UInt8)) with
    | true =>
      have z1 : ((s.extract 0 7).toList == ([66, 101, 97, 114, 101, 114, 32] : List UInt8)) = true := by rw [ht]; exact hz
      have z2 : ((s.extract 0 7).toList != ([66, 101, 97, 114, 101, 114, 32] : List UInt8)) = false := by rw [bne, z1]; rfl
      have HB : Hid (B = (u.data.toList, true)) := hid (by rw [← hB2, if_pos ⟨by rw [hpt, hz], hne⟩, hul])
      clear hB2 h8 hln ht htl hpt hu hul hne hz
      go_wp2_with (go_at_call 7; refine HH.out.mono ?_; rintro e w1 ⟨rfl, hd⟩; have HB1 := hid hd; clear hd HH)
      go_ret2
      exact ⟨by rw [HB.out, baL_eq rfl, ← HU.out]; rfl, HB1.out⟩
    | false =>
      have z1 : ((s.extract 0 7).toList == ([66, 101, 97, 114, 101, 114, 32] : List UInt8)) = false := by rw [ht]; exact hz
      have z2 : ((s.extract 0 7).toList != ([66, 101, 97, 114, 101, 114, 32] : List UInt8)) = true := by rw [bne, z1]; rfl
      have HB : Hid (B = ([], false)) := hid (by rw [← hB2, if_neg (fun h => by rw [hpt, hz] at h; simp at h)])
      clear hB2 h8 hln ht htl hpt hu hul hne hz
      go_wp2_with (go_at_call 7; refine HH.out.mono ?_; rintro e w1 ⟨rfl, hd⟩; have HB1 := hid hd; clear hd HH)
      go_ret2
      exact ⟨by rw [HB.out]; rfl, HB1.out⟩
set_option maxHeartbeats 8000000 in
set_option maxRecDepth 20000 in
theorem heads_walk (v : Value) (xs : List Par) (s : ByteArray) (m : Int) (w : World) (hg : ErrorType w) (hM : MaxAt m w) (h : ParsIn w v xs) : Calls Tryd.prog 3 #[v, .string s] w (TruePost w) := by
  obtain ⟨A, c, rfl, hc, hC⟩ := h
  have HC := hid hC
  have HG := hid hg
  have HM := hid hM
  clear hC hg hM
  go_enter Tryd.func3, Tryd.ntmps3
  by_cases h100 : 100 < xs.length
  · have t0 : decide ((100 : Int) < (xs.length : Int)) = true := decide_eq_true (by omega)
    clear h100
    go_wp2_with (go_at_call 5; refine (alive_any m _ HG.out HM.out).mono ?_; rintro e w1 ⟨rfl, hb⟩; have HB1 := hid hb; clear hb)
    go_ret
    exact ⟨rfl, HB1.out⟩
  · have t0 : decide ((100 : Int) < (xs.length : Int)) = false := decide_eq_false (by omega)
    obtain ⟨o, ho⟩ : ∃ o, getS xs s = o := ⟨_, rfl⟩
    obtain ⟨B, hB⟩ : ∃ B, bearS (getR (getS xs authK)).1.data.toList = B := ⟨_, rfl⟩
    have H1 : Hid (∀ y, Below w.heap.size w y → Calls Tryd.prog 6 #[.slice A xs.length c, .string s] y (HeadPost o y)) := hid (fun y hy => by rw [← ho]; exact head_any xs s A c y (Kd.C_below HC.out hy) hc (by omega))
    have H2 : Hid (∀ y, Below w.heap.size w y → Calls Tryd.prog 7 #[.slice A xs.length c, .string s] y (HeadPost o y)) := hid (fun y hy => by rw [← ho]; exact rhead_any xs s A c y (Kd.C_below HC.out hy) hc (by omega))
    have H3 : Hid (∀ y, Below w.heap.size w y → Calls Tryd.prog 8 #[.slice A xs.length c] y (BearPost B y)) := hid (fun y hy => by rw [← hB]; exact bearer_any xs A c y (Kd.C_below HC.out hy) hc (by omega))
    have H4 : Hid (∀ y, Below w.heap.size w y → Calls Tryd.prog 9 #[.slice A xs.length c] y (BearPost B y)) := hid (fun y hy => by rw [← hB]; exact rbearer_any xs A c y (Kd.C_below HC.out hy) hc (by omega))
    obtain ⟨r1, r2⟩ : ByteArray × Bool := getR o
    obtain ⟨s1, b1, hr⟩ : ∃ s1 b1, getR o = (s1, b1) := ⟨_, _, rfl⟩
    obtain ⟨s2, b2, hB5⟩ : ∃ s2 b2, baL B.1 = s2 ∧ B.2 = b2 := ⟨_, _, rfl, rfl⟩
    unfold HeadPost at H1 H2
    unfold BearPost at H3 H4
    rw [hr] at H1 H2
    rw [hB5.1, hB5.2] at H3 H4
    have q0 : (s1.toList == s1.toList) = true := by simp
    have q1 : (b1 == b1) = true := by simp
    have q2 : (s2.toList == s2.toList) = true := by simp
    have q3 : (b2 == b2) = true := by simp
    clear h100 ho hB hr hB5
    go_wp2_with (first
      | (go_at_call 5; refine (alive_any m _ HG.out HM.out).mono ?_; rintro e w1 ⟨rfl, hb⟩; have HB1 := hid hb; clear hb)
      | (go_at_call 6; refine (H1.out _ HB1.out).mono ?_; rintro e w2 ⟨rfl, hd⟩; have HB2 := hid (below_then HB1.out hd); clear hd)
      | (go_at_call 7; refine (H2.out _ HB2.out).mono ?_; rintro e w3 ⟨rfl, hd⟩; have HB3 := hid (below_then HB2.out hd); clear hd)
      | (go_at_call 8; refine (H3.out _ HB3.out).mono ?_; rintro e w4 ⟨rfl, hd⟩; have HB4 := hid (below_then HB3.out hd); clear hd)
      | (go_at_call 9; refine (H4.out _ HB4.out).mono ?_; rintro e w5 ⟨rfl, hd⟩; have HB5 := hid (below_then HB4.out hd); clear hd))
    go_ret
    exact ⟨by simp, HB5.out⟩
end Go.Proofs.YtpkiahpdoejbcaaDoor.Htt

end
section
namespace Go.Proofs.YtpkiahpdoejbcaaDoor
open Go.ChangeShapes Go.WideShapes Go.RowKit
set_option linter.unusedVariables false

theorem A.et : Tryd.prog.globalNamed "errors.errorType" = some 0 := by kernel_rfl
theorem A.rt : (Tryd.prog.cutTypes.find? (·.1 == "internal/reflectlite.rtype")).map (·.2) = some 122 := by kernel_rfl
theorem A.oneRow : ((List.range 182).filter fun t => Tryd.prog.rowNamed t [101, 114, 114, 111, 114]) = [32] := by kernel_rfl
theorem A.ntypes : Tryd.prog.types.size = 182 := by kernel_rfl

/-- What the row's list gives: the variable's cell. -/
theorem handle_of_laid {W : World} (l : List (String × DataW Unit)) (hl : l = [("unicode/utf8.acceptRanges", Rows.laid_unicode_utf8_acceptRanges), ("errors.errorType", Rows.laid_errors_errorType), ("unicode.asciiFold", Rows.laid_unicode_asciiFold), ("unicode.caseOrbit", Rows.laid_unicode_caseOrbit), ("unicode.CaseRanges", Rows.laid_unicode_CaseRanges), ("unicode/utf8.first", Rows.laid_unicode_utf8_first)]) (h : laidMetH Tryd.prog l W) : ErrorType W := by
  subst hl
  have h' : laidMet Tryd.prog [("unicode/utf8.acceptRanges", Rows.laid_unicode_utf8_acceptRanges), ("unicode.asciiFold", Rows.laid_unicode_asciiFold), ("unicode.caseOrbit", Rows.laid_unicode_caseOrbit), ("unicode.CaseRanges", Rows.laid_unicode_CaseRanges), ("unicode/utf8.first", Rows.laid_unicode_utf8_first)] W ∧ handlesMet Tryd.prog [("errors.errorType", Rows.laid_errors_errorType)] W := h
  obtain ⟨name, u, ty, e1, e2, e3, e4, e5⟩ := h'.2 _ (List.mem_singleton.2 rfl)
  have en : name = [101, 114, 114, 111, 114] := (Option.some.inj e1).symm
  subst en
  obtain rfl := Option.some.inj (A.rt.symm.trans e2)
  have hm : ty ∈ (List.range 182).filter fun t => Tryd.prog.rowNamed t [101, 114, 114, 111, 114] := List.mem_filter.2 ⟨List.mem_range.2 (by rw [← A.ntypes]; exact e3), e4⟩
  rw [A.oneRow] at hm
  obtain rfl := List.mem_singleton.1 hm
  have hh : typeHandle Tryd.prog 32 = .pointer (some ⟨7, 32, none⟩) := by kernel_rfl
  rw [hh] at e5
  simpa [ErrorType] using World.var?_cell A.et e5 0
/-- The machine's variable holds some number. -/
theorem max_of_shape {W : World} (h : W.ShapedOpen Tryd.prog) : ∃ m, Htt.MaxAt m W :=
  cell_of_shapedOpen_int (g := 4) (t := 3) (zero := #[.int .i64 0]) h (of_decide_eq_true (by kernel_rfl)) (by kernel_rfl) rfl (by kernel_rfl) (by kernel_rfl) Tryd.underlying3
theorem laidMet_over {P : Program} {w0 : World} {laid : List (String × DataW Unit)} (args : Array Value) (hf : w0.layFits P laid [] = true) (hi : w0.layIfaces P laid (w0.layVars P laid) = true) :
    laidMet P laid ((w0.layVars P laid).forCall (fun _ _ => 0) ⟨#[], args, []⟩).memory := by
  have e1 : (laid.filter fun x => (laid.map (·.1)).contains x.1) = laid := List.filter_eq_self.2 fun x hx => List.contains_iff_mem.2 (List.mem_map.2 ⟨x, hx, rfl⟩)
  have e2 : (laid.filter fun x => !(laid.map (·.1)).contains x.1) = [] := List.filter_eq_nil_iff.2 fun x hx => by rw [List.contains_iff_mem.2 (List.mem_map.2 ⟨x, hx, rfl⟩)]; simp
  have h : laidMet P laid (w0.layVars P laid) := laidMet_layVars (w0 := w0) (laid.map (·.1)) [] (by rw [e1]) (by rw [e1]; exact hf) (by rw [e1]; exact hi) (by rw [e2]; exact LaidIn.none)
  exact h.of_heap (by simp [World.memory, World.forCall, Input.heap])
/-- The listed variables but for the handle. -/
def laidRest : List (String × DataW Unit) := [("unicode/utf8.acceptRanges", Rows.laid_unicode_utf8_acceptRanges), ("unicode.asciiFold", Rows.laid_unicode_asciiFold), ("unicode.caseOrbit", Rows.laid_unicode_caseOrbit), ("unicode.CaseRanges", Rows.laid_unicode_CaseRanges), ("unicode/utf8.first", Rows.laid_unicode_utf8_first)]
/-- The settled world, the handle laid. -/
noncomputable def handWorld (os : Os) : World :=
  let w0 := World.holding Tryd.prog os ⟨#[], #[], []⟩
  { w0 with heap := w0.heap.modify 0 fun
      | .cells _ t frozen => .cells #[.iface 122 (.agg #[.pointer (some ⟨7, 32, none⟩)])] t frozen
      | o => o }
/-- A world that meets the list. -/
noncomputable def laidWorld (os : Os) : World := (handWorld os).layVars Tryd.prog laidRest
theorem laidWorld_os (os : Os) : (laidWorld os).os = os := World.layVars_os _ _ _
theorem laid_fits (os : Os) : (handWorld os).layFits Tryd.prog laidRest [] = true := by kernel_rfl
theorem laid_ifaces (os : Os) : (handWorld os).layIfaces Tryd.prog laidRest (laidWorld os) = true := by kernel_rfl
end Go.Proofs.YtpkiahpdoejbcaaDoor

end
section
namespace Go.Proofs.YtpkiahpdoejbcaaDoor.httpHeadsDone
open Go.ChangeShapes Go.WideShapes Go.ChangeAt Go.RowKit
open Go.ChangeMaps (open_string shut_string)
set_option linter.unusedVariables false

theorem own : ownKnob Tryd.prog.godebug = none := by kernel_rfl
theorem laidOut : laidOutB Tryd.prog = true := by kernel_rfl

set_option maxRecDepth 100000 in
/-- What the walk gives, for every argument. -/
theorem contract (H : Type) (enc : TypeId × Value → H) (W : World) (base : Nat) (args : Array Value) (ds gs : List (DataW H)) (before : List MemPlace)
    (hval : ∀ (j : Nat) t v, Tryd.f3.params[j]? = some t → args[j]? = some v → Value.okWide Tryd.prog W .any base t v)
    (hW : DataW.Whole enc Tryd.prog Tryd.f3.params.toList Rows.httpHeadsSpec.vars false W args.toList ds gs before) (hL : laidMetH Tryd.prog Rows.httpHeadsRow.laid W) (hS : W.ShapedOpen Tryd.prog) :
    Calls Tryd.prog 3 args W fun e W' => ∃ v, e = .returned v ∧ Rows.httpHeadsSpec.post enc Tryd.prog Tryd.f3 false true false false W args v W' := by
  have hW' := hW
  obtain ⟨p, q, hA0, hV, rfl, hfz, hnd⟩ := hW
  have hA : DataW.TrodAll enc Tryd.prog W 0 (fun _ => true) true Tryd.f3.params.toList args.toList ds p := hA0
  rw [Tryd.params3] at hA hval
  obtain ⟨v0, vs0, d0, ds0, p0, q0, hargs, rfl, rfl, h0, r0⟩ := trodAll_cons hA
  obtain ⟨v1, vs1, d1, ds1, p1, q1, rfl, rfl, rfl, h1, r1⟩ := trodAll_cons r0
  obtain ⟨rfl, rfl, rfl⟩ := trodAll_nil r1
  obtain rfl : args = #[v0, v1] := by cases args; simp_all
  obtain ⟨rfl, rfl⟩ := trodVars_none hV
  obtain ⟨a0, len0, cap0, rfl⟩ := okWide_slice Tryd.underlying22 (hval 0 22 v0 rfl rfl)
  have k0 := h0
  have lt0 : ∀ x ∈ p0, x.block < W.heap.size := by obtain ⟨m, hm⟩ := k0; exact DataW.trod_lt m _ _ _ hm
  obtain ⟨z0, w0⟩ := Htt.open_pars h0
  obtain ⟨a1, rfl, rfl, rfl, w1⟩ := open_string Tryd.underlying9 (hval 1 9 v1 rfl rfl) h1
  have hg := handle_of_laid Rows.httpHeadsRow.laid rfl hL
  obtain ⟨mx, hmx⟩ := max_of_shape hS
  clear hA0
  refine (Htt.heads_walk (.slice a0 len0 cap0) z0 a1 mx W hg hmx w0).mono fun e W' hpost => ?_
  obtain ⟨rfl, bel⟩ := hpost
  exact ⟨_, rfl, _, _, _, [], _, [], hW', trodAll_mk1 (shut_bool Tryd.underlying4 _), (trodAll_cons_mk (Below.trod laidOut (by kernel_rfl) (of_decide_eq_true (by kernel_rfl)) k0 bel lt0) (trodAll_cons_mk (shut_string Tryd.underlying9 w1) trodAll_mk0)), rfl, bel.frame _, fun h => by cases h⟩

theorem laid_met (os : Os) : laidMetH Tryd.prog Rows.httpHeadsRow.laid ((laidWorld os).forCall (fun _ _ => 0) ⟨#[], #[.slice none 0 0, .string ⟨#[]⟩], []⟩).memory :=
  laidMetH_of_parts (laidMet_over _ (laid_fits os) (laid_ifaces os)) (by kernel_rfl)
theorem reads (os : Os) {H : Type} (enc : TypeId × Value → H) : ∃ ds places, DataW.whole enc Tryd.prog ((laidWorld os).forCall (fun _ _ => 0) ⟨#[], #[.slice none 0 0, .string ⟨#[]⟩], []⟩).memory Tryd.f3.params.toList Rows.httpHeadsSpec.vars false (#[.slice none 0 0, .string ⟨#[]⟩] : Array Value).toList 8 = some (ds, [], places) := by
  have h : (DataW.whole enc Tryd.prog ((laidWorld os).forCall (fun _ _ => 0) ⟨#[], #[.slice none 0 0, .string ⟨#[]⟩], []⟩).memory Tryd.f3.params.toList Rows.httpHeadsSpec.vars false (#[.slice none 0 0, .string ⟨#[]⟩] : Array Value).toList 8).map (fun x => x.2.1) = some [] := by kernel_rfl
  obtain ⟨⟨ds, gs, places⟩, h1, h2⟩ := Option.map_eq_some_iff.1 h
  obtain rfl : gs = [] := h2
  exact ⟨ds, places, h1⟩

set_option maxRecDepth 100000 in
theorem lifted (os : Os) (started : os.Started) (H : Type) (enc : TypeId × Value → H) (F : Stop.Interp) :
    ReturnsInHanded {} Tryd.checked os 3 .any ((OpenSpec.ofChange Rows.httpHeadsSpec).preRow enc Tryd.prog Tryd.f3 Rows.httpHeadsRow.domain false Rows.httpHeadsRow.laid) (((OpenSpec.ofChange Rows.httpHeadsSpec).at F).post enc Tryd.prog Tryd.f3 false true false false) := by
  obtain ⟨ds, places, hx⟩ := reads os enc
  refine returnsInHanded_of_row (C := Tryd.checked) (s := (OpenSpec.ofChange Rows.httpHeadsSpec)) own started (by kernel_rfl) Tryd.func3
    (witness_row_atRef (enc := enc) (C := Tryd.checked) false (laidWorld os) #[.slice none 0 0, .string ⟨#[]⟩] (laidWorld_os os) (by kernel_rfl) (by kernel_rfl) (by kernel_rfl)
      (OpenSpec.preRow_of_cond 8 hx (by kernel_rfl) (fun k hk => by cases hk) (by kernel_rfl) (laid_met os))) ?_
  intro W base args ds gs before hval hW _ _ _ hL hS _
  exact contract H enc W base args ds gs before hval hW hL hS

theorem said : Rows.HttpHeadsSaid :=
  OpenClaim.holds_of_cond 3 Tryd.f3 rfl rfl rfl rfl rfl rfl rfl ⟨rfl, rfl, rfl, rfl, rfl⟩ rfl rfl rfl rfl rfl (by kernel_rfl) Tryd.func3 (by kernel_rfl)
    (of_decide_eq_true (by kernel_rfl)) (by unfold Func.isWrapper; first | (rw [if_pos (by decide +kernel)]; kernel_rfl) | (rw [if_neg (by decide +kernel)]; exact ⟨rfl, rfl⟩))
    (fun os started H enc _ F => by rw [OpenClaim.pre_eq_preRow]; exact lifted os started H enc F)

theorem plain (f : FuncId) (fn : Func) (hf : Tryd.pinned.checked.prog.funcNamed "warrant/warrantlaw23.HttpHeads" = some f) (hfn : Tryd.pinned.checked.prog.funcs[f]? = some fn) :
    true = Tryd.pinned.checked.prog.looks [] ∧ ∀ (j : Nat) t, fn.params[j]? = some t → Tryd.pinned.checked.prog.wantsStandIn t = false := by
  obtain rfl : f = 3 := Option.some.inj ((show Tryd.prog.funcNamed "warrant/warrantlaw23.HttpHeads" = some 3 by kernel_rfl).symm.trans hf) |>.symm
  obtain rfl : fn = Tryd.f3 := (Option.some.inj (Tryd.func3.symm.trans hfn)).symm
  refine ⟨by kernel_rfl, fun j t ht => ?_⟩
  have h : (Tryd.f3.params.toList.all fun t => !Tryd.prog.wantsStandIn t) = true := by kernel_rfl
  have hm : t ∈ Tryd.f3.params.toList := by simpa using Array.mem_of_getElem? ht
  have h2 := List.all_eq_true.1 h t hm
  exact (by simpa using h2 : Tryd.prog.wantsStandIn t = false)

/-- ████ THE CARD ████ -/
theorem card : Rows.HttpHeadsCardSaid :=
  Claim7.holds_tied_plain_at .later [] _ _ _ _ said (fun _ h => by cases h) (by kernel_rfl) (fun _ h => by cases h) httpHeads_row_tie rfl ⟨rfl, rfl⟩ (by kernel_rfl) rfl plain (by kernel_rfl)
#print axioms card
end Go.Proofs.YtpkiahpdoejbcaaDoor.httpHeadsDone

end

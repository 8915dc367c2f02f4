/-
  http.first by contract.
-/
import Derived.Test.YtpkiahpdoejbcaaDoorHttPure
import Derived.Test.YtpkiahpdoejbcaaDoorShelf
import Derived.Test.YtpkiahpdoejbcaaDoorWWords
namespace Go.Proofs.YtpkiahpdoejbcaaDoor.Htt
open Go.RowKit Go.Proofs.YtpkiahpdoejbcaaDoor
open Go.Proofs.YtpkiahpdoejbcaaDoorW.PrintWords (results_ct)
set_option linter.unusedVariables false
set_option linter.unusedSimpArgs false
def cutA (c : UInt8) (l : List UInt8) : List UInt8 := l.takeWhile (· != c)
def cutB (c : UInt8) (l : List UInt8) : List UInt8 := (l.dropWhile (· != c)).drop 1
theorem cut_at {c : UInt8} {l : List UInt8} : ∀ {m : Nat}, l[m]? = some c → (∀ k, k < m → l[k]? ≠ some c) → cutA c l = l.take m ∧ cutB c l = l.drop (m + 1) := by
  unfold cutA cutB
  induction l with
  | nil => intro m h; simp at h
  | cons b l ih =>
    intro m h hk
    cases m with
    | zero => simp at h; subst h; simp
    | succ m =>
      have hb : b ≠ c := fun e => hk 0 (by omega) (by simp [e])
      obtain ⟨h1, h2⟩ := ih (m := m) (by simpa using h) (fun k hk2 => by have := hk (k + 1) (by omega); simpa using this)
      have hb' : (b != c) = true := by simpa using hb
      rw [List.takeWhile_cons, if_pos hb', List.dropWhile_cons, if_pos hb', h1, h2]
      simp
theorem cut_no {c : UInt8} {l : List UInt8} (h : c ∉ l) : cutA c l = l ∧ cutB c l = [] := by
  unfold cutA cutB
  induction l with
  | nil => simp
  | cons b l ih =>
    rw [List.mem_cons, not_or] at h
    have hb' : (b != c) = true := by simpa using fun e => h.1 e.symm
    obtain ⟨h1, h2⟩ := ih h.2
    rw [List.takeWhile_cons, if_pos hb', List.dropWhile_cons, if_pos hb', h1, h2]
    simp
def Cut1 (c : UInt8) (l : List UInt8) (w : World) (e : Ending) (w' : World) : Prop := ∃ a b r, a.data.toList = cutA c l ∧ b.data.toList = cutB c l ∧ e = .returned (.tuple #[.string a, .string b, .bool r]) ∧ Below w.heap.size w w'
theorem cut1 (s : ByteArray) (c : UInt8) (w : World) (hs : s.size ≤ 1048576) : Calls Tryd.prog 25 #[.string s, .string ⟨#[c]⟩] w (Cut1 c s.data.toList w) := by
  refine (cut_any s c w (by omega)).mono ?_
  rintro e w1 ⟨a, b, (⟨m, h1, h2, h3, h4, rfl⟩ | ⟨h1, h2, h3, rfl⟩), hb⟩
  · obtain ⟨e1, e2⟩ := cut_at h1 h2
    exact ⟨a, b, true, h3.trans e1.symm, h4.trans e2.symm, rfl, hb⟩
  · obtain ⟨e1, e2⟩ := cut_no h1
    exact ⟨a, b, false, h2.trans e1.symm, h3.trans e2.symm, rfl, hb⟩
/-! ### The request's cells -/
abbrev reqV (m p q : ByteArray) (v : Value) (b : ByteArray) : Value := .agg #[.string m, .string p, .string q, v, .string b]
abbrev reqZ : Value := reqV ⟨#[]⟩ ⟨#[]⟩ ⟨#[]⟩ (.slice none 0 0) ⟨#[]⟩
abbrev reqO (m p q : ByteArray) (v : Value) (b : ByteArray) : Obj := .cells #[.string m, .string p, .string q, v, .string b] 35 (0, 0)
abbrev reqOZ : Obj := reqO ⟨#[]⟩ ⟨#[]⟩ ⟨#[]⟩ (.slice none 0 0) ⟨#[]⟩
theorem heap_five {w : World} {B : Nat} {c0 c1 c2 c3 c4 : Value} {T : TypeId} (h : w.heap[B]? = some (.cells #[c0, c1, c2, c3, c4] T (0, 0))) (v0 v1 v2 v3 v4 : Value) :
    (((((w.setCell ⟨B, 0, none⟩ v0).setCell ⟨B, 1, none⟩ v1).setCell ⟨B, 2, none⟩ v2).setCell ⟨B, 3, none⟩ v3).setCell ⟨B, 4, none⟩ v4).heap[B]? = some (.cells #[v0, v1, v2, v3, v4] T (0, 0)) := by
  simp [World.setCell, Array.getElem?_modify, h]
theorem below_five {w0 w : World} {n B : Nat} (h : Below n w0 w) (hB : n ≤ B) (v0 v1 v2 v3 v4 : Value) :
    Below n w0 (((((w.setCell ⟨B, 0, none⟩ v0).setCell ⟨B, 1, none⟩ v1).setCell ⟨B, 2, none⟩ v2).setCell ⟨B, 3, none⟩ v3).setCell ⟨B, 4, none⟩ v4) :=
  ((((h.setCell (p := ⟨B, 0, none⟩) hB _).setCell (p := ⟨B, 1, none⟩) hB _).setCell (p := ⟨B, 2, none⟩) hB _).setCell (p := ⟨B, 3, none⟩) hB _).setCell (p := ⟨B, 4, none⟩) hB _
theorem five_at {w : World} {B : Nat} {c0 c1 c2 c3 c4 : Value} {T : TypeId} (h : w.heap[B]? = some (.cells #[c0, c1, c2, c3, c4] T (0, 0))) :
    w.cell? ⟨B, 0, none⟩ = some c0 ∧ w.cell? ⟨B, 1, none⟩ = some c1 ∧ w.cell? ⟨B, 2, none⟩ = some c2 ∧ w.cell? ⟨B, 3, none⟩ = some c3 ∧ w.cell? ⟨B, 4, none⟩ = some c4 ∧
    w.frozen? ⟨B, 0, none⟩ = false ∧ w.frozen? ⟨B, 1, none⟩ = false ∧ w.frozen? ⟨B, 2, none⟩ = false ∧ w.frozen? ⟨B, 3, none⟩ = false ∧ w.frozen? ⟨B, 4, none⟩ = false := by
  simp [World.cell?, World.frozen?, h]
theorem reqInfo : (Tryd.prog.info? 35).map (·.size) = some 5 := by kernel_rfl
theorem methods_ne {s : ByteArray} {l : List UInt8} (h : s.data.toList ≠ l) : (s.toList == l) = false := by
  rw [str_toList]; simpa using h
theorem methods_eq {s : ByteArray} {l : List UInt8} (h : s.data.toList = l) : (s.toList == l) = true := by
  rw [str_toList, h]; simp
/-! ### What first answers -/
def version : List UInt8 := [72, 84, 84, 80, 47, 49, 46, 49]
def methL (m : List UInt8) : Bool := m == [71, 69, 84] || (m == [68, 69, 76, 69, 84, 69] || (m == [80, 79, 83, 84] || m == [80, 85, 84]))
def tgtL (t : List UInt8) : Bool := Lib.hasPrefix t [47] && (plL 33 t && (decide (1 ≤ t.length) && decide (t.length ≤ 256)))
def firstP : List (List UInt8) → Option (List UInt8 × List UInt8 × List UInt8)
  | [m, t, v] => if v = version ∧ methL m = true ∧ tgtL t = true then some (m, cutA 63 t, cutB 63 t) else none
  | _ => none
def firstS (l : List UInt8) : Option (List UInt8 × List UInt8 × List UInt8) := firstP (splitS 32 l)
def FirstPost (o : Option (List UInt8 × List UInt8 × List UInt8)) (w : World) (e : Ending) (w' : World) : Prop :=
  (match o with
  | some (m, p, q) => ∃ a b c : ByteArray, a.data.toList = m ∧ b.data.toList = p ∧ c.data.toList = q ∧ e = .returned (.tuple #[reqV a b c (.slice none 0 0) ⟨#[]⟩, .bool true])
  | none => e = .returned (.tuple #[reqZ, .bool false])) ∧ Below w.heap.size w w'
theorem FirstPost.no {o : Option (List UInt8 × List UInt8 × List UInt8)} {w w' : World} (h : o = none) (hb : Below w.heap.size w w') : FirstPost o w (.returned (.tuple #[reqZ, .bool false])) w' := by subst h; exact ⟨rfl, hb⟩
theorem FirstPost.yes {o : Option (List UInt8 × List UInt8 × List UInt8)} {w w' : World} {a b c : ByteArray} {m p q : List UInt8} (h : o = some (m, p, q)) (h0 : a.data.toList = m) (h1 : b.data.toList = p) (h2 : c.data.toList = q) (hb : Below w.heap.size w w') :
    FirstPost o w (.returned (.tuple #[reqV a b c (.slice none 0 0) ⟨#[]⟩, .bool true])) w' := by subst h; exact ⟨⟨a, b, c, h0, h1, h2, rfl⟩, hb⟩
theorem firstP_len {ps : List (List UInt8)} (h : ps.length ≠ 3) : firstP ps = none := by
  match ps, h with
  | [], _ => rfl
  | [a], _ => rfl
  | [a, b], _ => rfl
  | [a, b, c], h => exact absurd rfl h
  | a :: b :: c :: d :: e, _ => rfl
theorem split_le (c : UInt8) : ∀ (l p : List UInt8), p ∈ splitS c l → p.length ≤ l.length
  | [], p, h => by simp [splitS] at h; subst h; simp
  | b :: l, p, h => by
    rw [splitS] at h
    split at h
    · rcases List.mem_cons.1 h with rfl | h
      · simp
      · have := split_le c l p h; simp; omega
    · split at h
      · rename_i e; exact absurd e (splitS_ne c l)
      · rename_i q qs e
        rcases List.mem_cons.1 h with rfl | h
        · have := split_le c l q (by rw [e]; simp); simp; omega
        · have := split_le c l p (by rw [e]; exact List.mem_cons_of_mem _ h); simp; omega
theorem beq_list (s : ByteArray) (l : List UInt8) : (s.toList == l) = decide (s.data.toList = l) := by rw [str_toList, Bool.eq_iff_iff]; simp
theorem meth_four (m : ByteArray) (h : methL m.data.toList = true) :
    ((m.toList == [71, 69, 84]) = true ∧ (m.toList == [68, 69, 76, 69, 84, 69]) = false ∧ (m.toList == [80, 79, 83, 84]) = false ∧ (m.toList == [80, 85, 84]) = false) ∨
    ((m.toList == [71, 69, 84]) = false ∧ (m.toList == [68, 69, 76, 69, 84, 69]) = true ∧ (m.toList == [80, 79, 83, 84]) = false ∧ (m.toList == [80, 85, 84]) = false) ∨
    ((m.toList == [71, 69, 84]) = false ∧ (m.toList == [68, 69, 76, 69, 84, 69]) = false ∧ (m.toList == [80, 79, 83, 84]) = true ∧ (m.toList == [80, 85, 84]) = false) ∨
    ((m.toList == [71, 69, 84]) = false ∧ (m.toList == [68, 69, 76, 69, 84, 69]) = false ∧ (m.toList == [80, 79, 83, 84]) = false ∧ (m.toList == [80, 85, 84]) = true) := by
  have hcase : (m.data.toList = [71, 69, 84]) ∨ (m.data.toList = [68, 69, 76, 69, 84, 69]) ∨ (m.data.toList = [80, 79, 83, 84]) ∨ (m.data.toList = [80, 85, 84]) := by
    unfold methL at h
    simpa using h
  rw [beq_list, beq_list, beq_list, beq_list]
  rcases hcase with h | h | h | h <;> rw [h] <;> simp
theorem three {ps : List ByteArray} (h : ps.length = 3) : ∃ m t v, ps = [m, t, v] := by
  match ps, h with
  | [a, b, c], _ => exact ⟨a, b, c, rfl⟩
theorem plainB_tgt (t : ByteArray) : plainB t 33 1 256 = (plL 33 t.data.toList && (decide (1 ≤ t.data.toList.length) && decide (t.data.toList.length ≤ 256))) := by unfold plainB; rw [str_len]
set_option maxHeartbeats 4000000 in
set_option maxRecDepth 20000 in
theorem first_any (s : ByteArray) (w : World) (hs : s.size ≤ 1000000) : Calls Tryd.prog 26 #[.string s] w (FirstPost (firstS s.data.toList) w) := by
  have hln := str_len s
  have hsp := fun w => split_any s 32 w (by omega)
  obtain ⟨l, hl⟩ : ∃ l, s.data.toList = l := ⟨_, rfl⟩
  rw [hl] at hln hsp ⊢
  have HSP := hid hsp
  have HB0 := hid ((Below.refl w.heap.size w).alloc (Nat.le_refl _) reqOZ)
  have HH0 := hid (heap_alloc_new w reqOZ)
  clear hsp hl
  go_enter Tryd.func26, Tryd.ntmps26
  go_wp2_with fail
  refine (HSP.out _).mono ?_
  clear HSP
  rintro e w1 ⟨v, ps, rfl, hr, hm, hb⟩
  have HB1 := hid (HB0.out.trans (hb.mono (by simp)))
  have HH1 := hid ((hb.block w.heap.size (by simp)).trans HH0.out)
  obtain ⟨A, cap, hv, hpm, hcell⟩ := hr
  rw [List.length_map] at hv hpm hcell
  subst hv
  have HC := hid hcell
  obtain ⟨c0, c1, c2, c3, c4, f0, f1, f2, f3, f4⟩ := five_at HH1.out
  have HM := hid hm
  have HZ := hid hb.size
  clear hb hm hcell
  by_cases h3 : ps.length = 3
  · have HB := HC.out (by omega)
    obtain ⟨b, o, rfl, hi⟩ := HB
    obtain ⟨m, t, v, rfl⟩ := three h3
    have k0 : w1.cell? ⟨b, o, none⟩ = some (.string m) := hi 0 _ rfl
    have k1 : w1.cell? ⟨b, o + 1, none⟩ = some (.string t) := hi 1 _ rfl
    have k2 : w1.cell? ⟨b, o + 2, none⟩ = some (.string v) := hi 2 _ rfl
    have hlt : t.data.toList.length ≤ l.length := split_le 32 l _ (by rw [← HM.out]; simp)
    rw [str_len] at hlt
    have HS : Hid (firstS l = firstP [m.data.toList, t.data.toList, v.data.toList]) := hid (by unfold firstS; rw [← HM.out]; rfl)
    have hps := fun w => Tryd.strings_HasPrefix t ⟨#[47]⟩ w
    have hpl : ∀ w, Calls Tryd.prog 42 #[.string t, .int .u8 33, .int .i64 1, .int .i64 256] w (BP (plainB t 33 1 256) w) := fun w => plain_any t 33 1 256 w (by omega) (by omega)
    have hct := fun w => cut1 t 63 w (by omega)
    rw [plainB_tgt] at hpl
    clear hi h3 hln
    by_cases hv : v.data.toList = version
    · have v1 : (v.toList == [72, 84, 84, 80, 47, 49, 46, 49]) = true := methods_eq hv
      by_cases hmt : methL m.data.toList = true
      · have hcase := meth_four m hmt
        have HMT := hid hmt
        have HV := hid hv
        clear hmt hv
        cases hp : Lib.hasPrefix t.data.toList [47] with
        | false =>
          have HN : Hid (firstS l = none) := hid (by rw [HS.out, firstP, if_neg (by unfold tgtL; rw [hp]; simp)])
          have HPS := hid hps
          rw [hp] at HPS
          clear hp hps hpl hct
          rcases hcase with ⟨n1, n2, n3, n4⟩ | ⟨n1, n2, n3, n4⟩ | ⟨n1, n2, n3, n4⟩ | ⟨n1, n2, n3, n4⟩ <;>
          · go_wp2_with (go_at_call 41; refine (HPS.out _).mono ?_; rintro e w' ⟨rfl, he⟩; rw [he]; clear he w')
            refine bodyPost_ret (results_ct rfl _ _ w.heap.size 35 #[.string ⟨#[]⟩, .string ⟨#[]⟩, .string ⟨#[]⟩, .slice none 0 0, .string ⟨#[]⟩] (0, 0) _ rfl (heap_five HH1.out _ _ _ _ _) Tryd.underlying35 rfl reqInfo) rfl ?_
            exact FirstPost.no HN.out (below_five HB1.out (Nat.le_refl _) _ _ _ _ _)
        | true =>
          have HPS := hid hps
          have HPL := hid hpl
          have HCT := hid hct
          rw [hp] at HPS
          clear hps hpl hct
          cases hq : (plL 33 t.data.toList && (decide (1 ≤ t.data.toList.length) && decide (t.data.toList.length ≤ 256))) with
          | false =>
            rw [hq] at HPL
            have HN : Hid (firstS l = none) := hid (by rw [HS.out, firstP, if_neg (by unfold tgtL; rw [hq]; simp)])
            clear hp hq HCT
            rcases hcase with ⟨n1, n2, n3, n4⟩ | ⟨n1, n2, n3, n4⟩ | ⟨n1, n2, n3, n4⟩ | ⟨n1, n2, n3, n4⟩ <;>
            · go_wp2_with (first | (go_at_call 41; refine (HPS.out _).mono ?_; rintro e w' ⟨rfl, he⟩; rw [he]; clear he w') | (go_at_call 42; refine (HPL.out _).mono ?_; rintro e w2 ⟨rfl, hd⟩; have HB2 := hid (below_then HB1.out hd.below); have HH2 := hid ((hd.below.block w.heap.size (lt_of_heap HH1.out)).trans HH1.out); obtain ⟨c0, c1, c2, c3, c4, f0, f1, f2, f3, f4⟩ := five_at HH2.out; have k0 := (hd.below.cell (lt_of_cell k0)).trans k0; have k1 := (hd.below.cell (lt_of_cell k1)).trans k1; clear hd))
              refine bodyPost_ret (results_ct rfl _ _ w.heap.size 35 #[.string ⟨#[]⟩, .string ⟨#[]⟩, .string ⟨#[]⟩, .slice none 0 0, .string ⟨#[]⟩] (0, 0) _ rfl (heap_five HH2.out _ _ _ _ _) Tryd.underlying35 rfl reqInfo) rfl ?_
              exact FirstPost.no HN.out (below_five HB2.out (Nat.le_refl _) _ _ _ _ _)
          | true =>
            rw [hq] at HPL
            have HN : Hid (firstS l = some (m.data.toList, cutA 63 t.data.toList, cutB 63 t.data.toList)) := hid (by rw [HS.out, firstP, if_pos ⟨HV.out, HMT.out, by unfold tgtL; rw [hp, hq]; rfl⟩])
            clear hp hq
            rcases hcase with ⟨n1, n2, n3, n4⟩ | ⟨n1, n2, n3, n4⟩ | ⟨n1, n2, n3, n4⟩ | ⟨n1, n2, n3, n4⟩ <;>
            · go_wp2_with (first | (go_at_call 41; refine (HPS.out _).mono ?_; rintro e w' ⟨rfl, he⟩; rw [he]; clear he w') | (go_at_call 42; refine (HPL.out _).mono ?_; rintro e w2 ⟨rfl, hd⟩; have HB2 := hid (below_then HB1.out hd.below); have HH2 := hid ((hd.below.block w.heap.size (lt_of_heap HH1.out)).trans HH1.out); obtain ⟨c0, c1, c2, c3, c4, f0, f1, f2, f3, f4⟩ := five_at HH2.out; have k0 := (hd.below.cell (lt_of_cell k0)).trans k0; have k1 := (hd.below.cell (lt_of_cell k1)).trans k1; clear hd) | (go_at_call 25; refine (HCT.out _).mono ?_; rintro e w3 ⟨a, b, r, ha, hb, rfl, hd⟩; have HA := hid ha; have HB := hid hb; have HB3 := hid (below_then HB2.out hd); have HH3 := hid ((hd.block w.heap.size (lt_of_heap HH2.out)).trans HH2.out); obtain ⟨c0, c1, c2, c3, c4, f0, f1, f2, f3, f4⟩ := five_at HH3.out; have k0 := (hd.cell (lt_of_cell k0)).trans k0; clear hd ha hb))
              refine bodyPost_ret (results_ct rfl _ _ w.heap.size 35 #[.string m, .string a, .string b, .slice none 0 0, .string ⟨#[]⟩] (0, 0) _ rfl (heap_five HH3.out _ _ _ _ _) Tryd.underlying35 rfl reqInfo) rfl ?_
              exact FirstPost.yes HN.out rfl HA.out HB.out (below_five HB3.out (Nat.le_refl _) _ _ _ _ _)
      · have HN : Hid (firstS l = none) := hid (by rw [HS.out, firstP, if_neg (fun h => hmt h.2.1)])
        have hms : ¬ (m.data.toList = [71, 69, 84]) ∧ ¬ (m.data.toList = [68, 69, 76, 69, 84, 69]) ∧ ¬ (m.data.toList = [80, 79, 83, 84]) ∧ ¬ (m.data.toList = [80, 85, 84]) := by
          unfold methL at hmt
          simpa using hmt
        obtain ⟨h1, h2, h3, h4⟩ := hms
        have n1 := methods_ne h1
        have n2 := methods_ne h2
        have n3 := methods_ne h3
        have n4 := methods_ne h4
        clear hmt hv hps hpl hct h1 h2 h3 h4
        go_wp2_with fail
        refine bodyPost_ret (results_ct rfl _ _ w.heap.size 35 #[.string ⟨#[]⟩, .string ⟨#[]⟩, .string ⟨#[]⟩, .slice none 0 0, .string ⟨#[]⟩] (0, 0) _ rfl (heap_five HH1.out _ _ _ _ _) Tryd.underlying35 rfl reqInfo) rfl ?_
        exact FirstPost.no HN.out (below_five HB1.out (Nat.le_refl _) _ _ _ _ _)
    · have HN : Hid (firstS l = none) := hid (by rw [HS.out, firstP, if_neg (fun h => hv h.1)])
      have v1 : (v.toList == [72, 84, 84, 80, 47, 49, 46, 49]) = false := methods_ne hv
      clear hv hps hpl hct
      go_wp2_with fail
      refine bodyPost_ret (results_ct rfl _ _ w.heap.size 35 #[.string ⟨#[]⟩, .string ⟨#[]⟩, .string ⟨#[]⟩, .slice none 0 0, .string ⟨#[]⟩] (0, 0) _ rfl (heap_five HH1.out _ _ _ _ _) Tryd.underlying35 rfl reqInfo) rfl ?_
      exact FirstPost.no HN.out (below_five HB1.out (Nat.le_refl _) _ _ _ _ _)
  · have HN : Hid (firstS l = none) := hid (firstP_len (by rw [← HM.out, List.length_map]; exact h3))
    have t0 : ((ps.length : Int) == 3) = false := int_beq_false (by omega)
    have t1 : ((ps.length : Int) != 3) = true := by rw [bne, t0]; rfl
    clear h3
    go_wp2_with fail
    refine bodyPost_ret (results_ct rfl _ _ w.heap.size 35 #[.string ⟨#[]⟩, .string ⟨#[]⟩, .string ⟨#[]⟩, .slice none 0 0, .string ⟨#[]⟩] (0, 0) _ rfl (heap_five HH1.out _ _ _ _ _) Tryd.underlying35 rfl reqInfo) rfl ?_
    exact FirstPost.no HN.out (below_five HB1.out (Nat.le_refl _) _ _ _ _ _)
end Go.Proofs.YtpkiahpdoejbcaaDoor.Htt

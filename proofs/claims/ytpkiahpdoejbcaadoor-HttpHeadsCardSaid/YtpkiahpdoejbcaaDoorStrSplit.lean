/-
  strings.Split at a separator of one byte, by contract.
-/
import Derived.Test.YtpkiahpdoejbcaaDoorStrLib
namespace Go.Proofs.YtpkiahpdoejbcaaDoor
open Go.RowKit
set_option linter.unusedVariables false
set_option linter.unusedSimpArgs false
theorem spmin2 (k k' : IntKind) (x y : Int) : Builtin.min2 (.int k x) (.int k' y) = pure (.int k (if y < x then y else x)) := by simp only [Builtin.min2]
theorem spmin_two (ats : Array TypeId) (ty : TypeId) (a b : Value) : Builtin.min_ ats ty #[a, b] = (Builtin.min2 a b >>= fun s => pure s) := by simp only [Builtin.min_, List.foldlM_cons, List.foldlM_nil]
attribute [local go_sem] spmin2 spmin_two
set_option maxHeartbeats 1000000 in
set_option maxRecDepth 100000 in
theorem lib_count1 (s : ByteArray) (c : UInt8) (w : World) :
    Calls Tryd.prog 73 #[.string s, .string ⟨#[c]⟩] w fun e w' => e = .returned (.int .i64 (s.data.toList.count c : Nat)) ∧ w' = w := by
  go_enter Tryd.func73, Tryd.ntmps73
  go_wp2
  rw [run_callFunc_extern Tryd.func83 (by kernel_rfl) (by kernel_rfl) (by kernel_rfl) (e := Extern.BytealgCount.count) (by kernel_rfl), Lib.run_countString]
  simp only [Result.andThen]
  rw [Oper.upon_value]
  go_wp2
  go_ret
  exact ⟨rfl, rfl⟩
theorem str_index1 (s : ByteArray) (c : UInt8) (w : World) :
    Calls Tryd.prog 74 #[.string s, .string ⟨#[c]⟩] w fun e w' => e = .returned (.int .i64 (Lib.indexByte s.data.toList c)) ∧ w' = w := by
  go_enter Tryd.func74, Tryd.ntmps74
  go_wp2_with (go_at_call 55; refine (lib_index1 _ _ _).mono ?_; rintro e w' ⟨rfl, he⟩; rw [he]; clear he w')
  go_ret
  exact ⟨rfl, rfl⟩
theorem sinfo : (Tryd.prog.info? 9).map (fun i => (i.zero, i.size, i.bytes)) = some (some (.string ⟨#[]⟩), 1, 16) := by kernel_rfl
/-- What Split answers: a slice of its own. -/
def SplitPost (c : UInt8) (l : List UInt8) (w : World) (e : Ending) (w' : World) : Prop :=
  ∃ (v : Value) (ps : List ByteArray), e = .returned v ∧ RowC w' v (ps.map Value.string) ∧ ps.map (fun p => p.data.toList) = splitS c l ∧ Below w.heap.size w w'
theorem own1_cell {w : World} {base g n c : Nat} {e : TypeId} {cs : List Value} (h : w.ownsRow base e 1 (.slice (some ⟨g, 0, none⟩) n c) n cs) : n ≤ c ∧ ∀ j v, cs[j]? = some v → w.cell? ⟨g, j, none⟩ = some v ∧ w.frozen? ⟨g, j, none⟩ = false := by
  rcases h.2 with ⟨e, _⟩ | ⟨g', cap, cur, e, hg, hh, hn, hm, hs, ht⟩
  · cases e
  · cases e
    refine ⟨hn, fun j v hv => ?_⟩
    have hj : j < n * 1 := by have := (List.getElem?_eq_some_iff.1 hv).1; rw [h.1] at this; exact this
    rw [← ht, List.getElem?_take, if_pos hj] at hv
    constructor
    · simp only [World.cell?, hh]
      simpa using hv
    · simp [World.frozen?, hh]
theorem set_take (cs : List Value) (q : Nat) (x : Value) (h : q < cs.length) : (cs.set q x).take (q + 1) = cs.take q ++ [x] := by
  rw [List.set_eq_take_append_cons_drop, if_pos h]
  have hl : (cs.take q ++ [x]).length = q + 1 := by simp; omega
  have e : cs.take q ++ x :: cs.drop (q + 1) = (cs.take q ++ [x]) ++ cs.drop (q + 1) := by simp
  rw [e, ← hl, List.take_left']
  rfl
/-- How the loop stands. -/
def SplRel (c : UInt8) (l : List UInt8) (G N : Nat) (w : World) (vs vi : Value) (wr : World) : Prop :=
  ∃ (s : ByteArray) (ps : List ByteArray) (cs : List Value), vs = .string s ∧ vi = .int .i64 ps.length ∧ ps.map (fun p => p.data.toList) ++ splitS c s.data.toList = splitS c l ∧ ps.length + s.data.toList.count c + 1 = N ∧ s.size ≤ 1048576 ∧
    wr.ownsRow w.heap.size 9 1 (.slice (some ⟨G, 0, none⟩) N N) N cs ∧ cs.take ps.length = ps.map Value.string ∧ Below w.heap.size w wr ∧ w.heap.size ≤ G ∧ G < wr.heap.size
set_option maxHeartbeats 4000000 in
set_option maxRecDepth 100000 in
theorem gen_any (s : ByteArray) (c : UInt8) (w : World) (hs : s.size ≤ 1048576) : Calls Tryd.prog 56 #[.string s, .string ⟨#[c]⟩, .int .i64 0, .int .i64 (-1)] w (SplitPost c s.data.toList w) := by
  have hln := str_len s
  have hcl : s.data.toList.count c ≤ s.size := by rw [← hln]; exact List.count_le_length
  obtain ⟨l, hl⟩ : ∃ l, s.data.toList = l := ⟨_, rfl⟩
  rw [hl] at hcl ⊢
  have HL := hid hl
  obtain ⟨N, hN⟩ : ∃ N, l.count c + 1 = N := ⟨_, rfl⟩
  obtain ⟨n, hn⟩ : ∃ n, l.count c = n := ⟨_, rfl⟩
  have hNn : N = n + 1 := by omega
  subst hNn
  have HN := hid hn
  rw [hn] at hcl
  clear hln hl hN hn
  have p0 : ¬ ((s.size : Int) + 1 < (n : Int) + 1) := by omega
  have p1 : (((n : Int) + 1)) = ((n + 1 : Nat) : Int) := by omega
  have HP1 := hid p1
  clear p1
  obtain ⟨ti, hi1, hi2, hi3, hi4⟩ := info_parts sinfo
  go_enter Tryd.func56, Tryd.ntmps56
  go_wp2_with (first
    | (go_at_call 73; refine (lib_count1 _ _ _).mono ?_; rintro e w' ⟨rfl, he⟩; rw [he]; clear he w'; rw [HL.out, HN.out])
    | (at_make; refine wpList_make_full _ rfl (.tmp 30) (.tmp 30) 82 rfl w.heap.size 9 ti (.string ⟨#[]⟩) 1 Tryd.underlying82 hi1 hi2 hi3 .i64 .i64 ((n : Int) + 1) ((n : Int) + 1) (n + 1) rfl rfl HP1.out HP1.out (by rw [hi4]; omega) (by have : maxLen = 9223372036854775807 := rfl; omega) (Nat.le_refl _) ?_; intro w1 ho hg; have HO := hid ho; have HG := hid hg; clear ho hg))
  go_loopw [0, 10] (fun vs vi wr => SplRel c l w.heap.size (n + 1) w vs vi wr) (fun _ vi _ => n - (intOf vi).toNat)
  case atStart =>
    exact ⟨s, [], _, rfl, rfl, by rw [HL.out]; rfl, by rw [HL.out, HN.out]; simp, hs, HO.out, by simp, ⟨HG.out.os, HG.out.tape, HG.out.output, HG.out.size, fun k hk => HG.out.block k hk (by simp)⟩, Nat.le_refl _, by
      rcases HO.out.2 with ⟨e, _⟩ | ⟨g', cap, cur, e, _, hh, _⟩
      · cases e
      · cases e; exact lt_of_heap hh⟩
  case round =>
    obtain ⟨t, ps, cs, rfl, rfl, hsp, hct, hts, ho, htk, hb, _, hGl⟩ := hrel
    have HSP := hid hsp
    have HO2 := hid ho
    have HTK := hid htk
    have HB := hid hb
    have hcl2 := ho.1
    obtain ⟨q, hq⟩ : ∃ q, ps.length = q := ⟨_, rfl⟩
    rw [hq] at hct htk ⊢
    have HQ := hid hq
    have hqc : q < cs.length := by omega
    obtain ⟨u, hu⟩ : ∃ u, cs[q]? = some u := ⟨cs[q], by simp⟩
    obtain ⟨g0, g1⟩ := (own1_cell ho).2 q u hu
    obtain ⟨cn, hcn⟩ : ∃ cn, t.data.toList.count c = cn := ⟨_, rfl⟩
    rw [hcn] at hct
    have HCN := hid hcn
    have htl := str_len t
    have r0 : (0 : Int) ≤ (q : Int) := by omega
    have r1 : (q : Int) < (n : Int) + 1 := by omega
    clear hsp ho htk hb hcl2 hq hu hcn
    by_cases hlt : q < n
    · obtain ⟨m, hm, hml, h1, h2⟩ := index_pos (c := c) (l := t.data.toList) (by rw [HCN.out]; omega)
      rw [htl] at hml
      have HM := hid hm
      have H1 := hid h1
      have H2 := hid h2
      have t0 : decide ((q : Int) < (n : Int)) = true := decide_eq_true (by omega)
      have t1 : decide ((m : Int) < 0) = false := decide_eq_false (by omega)
      have p2 : (0 : Int) ≤ (m : Int) := by omega
      have p3 : (m : Int) ≤ (t.size : Int) := by omega
      have p4 : (m : Int) + 1 ≤ (t.size : Int) := by omega
      have p5 : (0 : Int) ≤ (m : Int) + 1 := by omega
      have p6 : ((m : Int) + 1).toNat = m + 1 := by omega
      clear hm h1 h2 htl
      go_wp2_with (go_at_call 74; refine (str_index1 _ _ _).mono ?_; rintro e w' ⟨rfl, he⟩; rw [he]; clear he w'; rw [HM.out])
      have hst := HO2.out.stored q (.string (t.extract 0 m))
      have hps : (ps ++ [t.extract 0 m]).length = q + 1 := by rw [List.length_append, HQ.out]; rfl
      have hdl : (t.extract (m + 1) t.size).data.toList = t.data.toList.drop (m + 1) := ext_drop t (m + 1)
      have hb2 : Below w.heap.size w (wr.setCell ⟨w.heap.size, q, none⟩ (.string (t.extract 0 m))) := HB.out.setCell (p := ⟨w.heap.size, q, none⟩) (Nat.le_refl _) _
      refine ⟨⟨t.extract (m + 1) t.size, ps ++ [t.extract 0 m], _, rfl, by rw [hps]; rfl, ?_, ?_, ?_, hst.1, ?_, hb2, Nat.le_refl _, ?_⟩, by simp [intOf] <;> omega⟩
      · rw [← HSP.out, splitS_at H1.out H2.out, hdl]
        simp [ext_take]
      · rw [hps, hdl]
        have := count_at H1.out H2.out
        rw [HCN.out] at this
        omega
      · have h1 := congrArg List.length hdl
        rw [str_len, List.length_drop, str_len] at h1
        omega
      · rw [hps, set_take cs q _ hqc, List.map_append]
        have h9 := HTK.out
        rw [HQ.out] at h9
        rw [h9]
        rfl
      · simp [World.setCell]
        exact hGl
    · obtain rfl : q = n := by omega
      have hc0 : cn = 0 := by omega
      have t0 : decide ((q : Int) < (q : Int)) = false := decide_eq_false (by omega)
      have r2 : (q : Int) + 1 ≤ (q : Int) + 1 := by omega
      go_wp2_with fail
      go_ret
      have hst := HO2.out.stored q (.string t)
      have hps : (ps ++ [t]).length = q + 1 := by rw [List.length_append, HQ.out]; rfl
      refine ⟨.slice (some ⟨w.heap.size, 0, none⟩) (q + 1) (q + 1), ps ++ [t], rfl, ⟨some ⟨w.heap.size, 0, none⟩, q + 1, by rw [List.length_map, hps], by rw [List.length_map, hps]; have : maxLen = 9223372036854775807 := rfl; omega, fun _ => ⟨_, _, rfl, fun i u hu => ?_⟩⟩, ?_, HB.out.setCell (p := ⟨w.heap.size, q, none⟩) (Nat.le_refl _) _⟩
      · have hi : i < q + 1 := by have := (List.getElem?_eq_some_iff.1 hu).1; rw [List.length_map, hps] at this; exact this
        rw [Nat.zero_add]
        refine ((own1_cell hst.1).2 i u ?_).1
        have e : (cs.set q (.string t)).take (q + 1) = (ps ++ [t]).map Value.string := by
          have h9 := HTK.out
          rw [HQ.out] at h9
          rw [set_take cs q _ hqc, List.map_append, h9]
          rfl
        rw [← e, List.getElem?_take, if_pos hi] at hu
        exact hu
      · rw [← HSP.out, splitS_none (count_zero_not (by rw [HCN.out, hc0]))]
        simp
theorem split_any (s : ByteArray) (c : UInt8) (w : World) (hs : s.size ≤ 1048576) : Calls Tryd.prog 40 #[.string s, .string ⟨#[c]⟩] w (SplitPost c s.data.toList w) := by
  go_enter Tryd.func40, Tryd.ntmps40
  go_wp2_with fail
  refine (gen_any s c w hs).mono ?_
  rintro e w1 ⟨v, ps, rfl, hr, hm, hb⟩
  have HR := hid hr
  have HM := hid hm
  have HB := hid hb
  obtain ⟨a, cap, hv, _⟩ := hr
  rw [List.length_map] at hv
  subst hv
  clear hm hb
  go_wp2
  go_ret
  exact ⟨_, ps, rfl, HR.out, HM.out, HB.out⟩
end Go.Proofs.YtpkiahpdoejbcaaDoor

/-
  RowBackLaw, RowKit: this proof's parts in one text.
-/
import Derived.Test.YtcgjacffemjehaaDoorMRowBackRowm
import Derived.Test.YtcgjacffemjehaaDoorMRowBackRowd
import Derived.Test.YtcgjacffemjehaaDoorRows
import Derived.ProofKit
import Derived.OpenShut
import Derived.ChangeVars
import Derived.LaidLaws
import Derived.LaidHandle
namespace Go.Proofs.YtcgjacffemjehaaDoor
open Go.RowKit
open Go.Proofs.YtcgjacffemjehaaDoorW.PrintWords (Kd rdOf)
open Go.Proofs.YtcgjacffemjehaaDoor.PRowReads
set_option linter.unusedVariables false
set_option linter.unusedSimpArgs false
theorem len_str (l : List UInt8) : (ByteArray.mk l.toArray).size = l.length := by show l.toArray.size = _; simp
/-- A whole row is loaded, under a guard that is met. -/
theorem wpList_load_rowG {P : Program} {ops : Array Oper} {rest : List Oper} {o : Oper} {a : Act} {w : World} {Q : Exit → Act → World → Prop} (hw : Region.wanted o (yielded ops a.tmps) = true) (ty : TypeId) (x : Operand) (ho : o.op = .load ty x)
    (g : Nat) (hx : a.eval x = .pointer (some ⟨g, 0, none⟩)) (t : TypeId) (cs : Array Value) (fr : Nat × Nat) (d : TypeDesc) (hg : w.heap[g]? = some (.cells cs t fr))
    (hu : P.underlying ty = some d) (hd : (match d with | .struct _ | .array _ _ => true | _ => false) = true) (hi : (P.info? ty).map (·.size) = some cs.size)
    (h : wpList P ops Q rest (a.put o.dst (.agg cs)) w) : wpList P ops Q (o :: rest) a w := by
  simp only [wpList, hw, if_true]
  exact .inl (wp_load_row ty x ho g hx t cs fr d hg hu hd hi h)
theorem bytes_str (w : World) (vs : Array Value) (x : S41) (hK : k41.K w x vs.toList) (hs : Small x) (hf : Fits x) (S : ByteArray) (hS : rowB x = S.data.toList) :
    Calls Tryd.prog 10 #[.agg vs] w fun e w' => e = .returned (.string S) ∧ Below w.heap.size w w' :=
  (bytes_at w vs x hK hs hf).mono (by rintro e w' ⟨rfl, hb⟩; exact ⟨by rw [hS], hb⟩)
/-- read, and what its row's cells are. -/
theorem read_vs (w : World) (hg : ErrorType w) (k : Int) (h1 : 1 ≤ k) (h8 : k ≤ 8) (S : ByteArray) (hs : S.size ≤ 1099511627776) (n : Int) (hn : (if (readRow k S.data.toList).2 = true then (0 : Int) else 170) = n) :
    Calls Tryd.prog 6 #[.int .i64 k, .string S] w fun e w' => ∃ us : Array Value, e = .returned (.tuple #[.agg us, .int .i64 n]) ∧ k41.K w' (readRow k S.data.toList).1 us.toList ∧ Below w.heap.size w w' :=
  (read_at w hg k h1 h8 S hs).mono (by
    rintro e w' ⟨cs, rfl, hM, hb⟩
    exact ⟨cs.toArray, by rw [hn], k41.K_of_M hM, hb⟩)
set_option maxHeartbeats 8000000 in
set_option maxRecDepth 100000 in
theorem back_core (w : World) (hg : ErrorType w) (vs : Array Value) (m : UInt8) (x : S41) (hK : k41.K w x vs.toList) (hs : Small x) :
    Calls Tryd.prog 4 #[.agg vs, .int .u8 (m.toNat : Int)] w (TruePost w) := by
  obtain ⟨hk0, hsz, hone⟩ := kind_at w vs x hK
  have hi : (Tryd.prog.info? 41).map (·.size) = some vs.size := by rw [hsz]; exact rowInfo
  have hb0 : Below w.heap.size w (w.alloc (.cells vs 41)) := (Below.refl w.heap.size w).alloc (Nat.le_refl _) _
  have hat0 : AtB (w.alloc (.cells vs 41)) w.heap.size 41 vs := heap_alloc_new w _
  have HB0 := hid hb0
  have HAT0 := hid hat0
  have HK := hid hK
  have HS := hid hs
  have HG := hid hg
  have HK0 := hid hk0
  clear hb0 hat0 hK hs hg hk0 hone
  go_enter Tryd.func4, Tryd.ntmps4
  go_wp2_with fail
  refine (alive_any _).mono ?_
  rintro e w1 ⟨rfl, hb1⟩
  have hat1 : AtB w1 w.heap.size 41 vs := (hb1.block w.heap.size (lt_of_heap HAT0.out)).trans HAT0.out
  have HAT1 := hid hat1
  have HB1 := hid (below_then HB0.out hb1)
  clear hb1 hat1
  go_wp2_with (refine wpList_load_row rfl 41 (.tmp 2) rfl w.heap.size rfl 41 vs (0, 0) _ HAT1.out Tryd.underlying41 rfl hi ?_)
  refine (far_at w1 vs x (k41.K_below HB1.out HK.out) HS.out).mono ?_
  rintro e w2 ⟨b, rfl, hb2, hnear⟩
  have hat2 : AtB w2 w.heap.size 41 vs := (hb2.block w.heap.size (lt_of_heap HAT1.out)).trans HAT1.out
  have HAT2 := hid hat2
  have HB2 := hid (below_then HB1.out hb2)
  have hc2 : w2.cell? ⟨w.heap.size, 0, none⟩ = some (.int .i64 x.f0) := (hat2.cell 0).trans HK0.out
  clear hb2 hat2
  cases b with
  | true =>
    clear hnear
    go_wp2
    go_ret
    exact TruePost.mk rfl HB2.out
  | false =>
    have HN := hid (hnear rfl)
    clear hnear
    by_cases h1 : x.f0 < 1
    · have t1 : decide (x.f0 < 1) = true := decide_eq_true h1
      go_wp2
      go_ret
      exact TruePost.mk rfl HB2.out
    have t1 : decide (x.f0 < 1) = false := decide_eq_false h1
    have h1 : 1 ≤ x.f0 := by omega
    by_cases h8 : 8 < x.f0
    · have t8 : decide (8 < x.f0) = true := decide_eq_true h8
      go_wp2
      go_ret
      exact TruePost.mk rfl HB2.out
    have t8 : decide (8 < x.f0) = false := decide_eq_false h8
    have h8 : x.f0 ≤ 8 := by omega
    go_wp2_with (refine wpList_load_row rfl 41 (.tmp 2) rfl w.heap.size rfl 41 vs (0, 0) _ HAT2.out Tryd.underlying41 rfl hi ?_)
    obtain ⟨S, hS⟩ : ∃ S : ByteArray, rowB x = S.data.toList := ⟨⟨(rowB x).toArray⟩, rfl⟩
    have hself := row_self x HS.out (by omega) (by omega)
    rw [hS] at hself
    obtain ⟨e1, e2, e3, e4⟩ := hself
    have E1 := hid e1
    have E2 := hid e2
    have E3 := hid e3
    have E4 := hid e4
    have ES := hid hS
    clear e1 e2 e3 e4 hS
    refine (bytes_str w2 vs x (k41.K_below HB2.out HK.out) HS.out (fits x HS.out HN.out) S ES.out).mono ?_
    rintro e w3 ⟨rfl, hb3⟩
    have hat3 : AtB w3 w.heap.size 41 vs := (hb3.block w.heap.size (lt_of_heap HAT2.out)).trans HAT2.out
    have HAT3 := hid hat3
    have HB3 := hid (below_then HB2.out hb3)
    have hc3 : w3.cell? ⟨w.heap.size, 0, none⟩ = some (.int .i64 x.f0) := (hat3.cell 0).trans HK0.out
    clear hb3 hat3 hc2
    by_cases hlen : 3000 < S.size
    · have tl : decide ((3000 : Int) < (S.size : Int)) = true := decide_eq_true (by omega)
      have tl2 : decide (3000 < S.size) = true := decide_eq_true hlen
      go_wp2
      go_ret
      exact TruePost.mk rfl HB3.out
    have tl : decide ((3000 : Int) < (S.size : Int)) = false := decide_eq_false (by omega)
    have tl2 : decide (3000 < S.size) = false := decide_eq_false hlen
    go_wp2_with fail
    go_at_call 6
    refine (read_vs w3 (HG.out.below HB3.out HG.out.lt) x.f0 (by omega) (by omega) S (by omega) 0 (by rw [E1.out]; rfl)).mono ?_
    rintro e w4 ⟨us, rfl, hu4, hb4⟩
    obtain ⟨-, usz, uone⟩ := kind_at w4 us _ hu4
    have hiu : (Tryd.prog.info? 41).map (·.size) = some us.size := by rw [usz]; exact rowInfo
    have hat4 : AtB w4 w.heap.size 41 vs := (hb4.block w.heap.size (lt_of_heap HAT3.out)).trans HAT3.out
    have ha4 : AtB (w4.alloc (.cells us 41)) w.heap.size 41 vs := hat4.alloc _
    have hau : AtB (w4.alloc (.cells us 41)) w4.heap.size 41 us := at_make rfl
    have hbu : Below w4.heap.size w4 (w4.alloc (.cells us 41)) := (Below.refl _ w4).alloc (Nat.le_refl _) _
    have HU := hid (k41.K_below hbu hu4)
    have HAU := hid hau
    have HAT4 := hid ha4
    have HB4 := hid (below_then (below_then HB3.out hb4) hbu)
    clear hb4 hat4 hu4 ha4 hau hbu hc3
    go_wp2_with (first | (refine wpList_allocTo rfl (some 6) rfl _ _ (run_allocRow _ _ rfl _) ?_) | (refine wpList_store_new rfl 41 (.tmp 6) (.tmp 37) rfl rfl w4 41 rowZ us rfl rfl rfl hiu (by rw [usz]; rfl) uone ?_) | (refine wpList_load_rowG (by rfl) 41 (.tmp 6) rfl w4.heap.size rfl 41 us (0, 0) _ HAU.out Tryd.underlying41 rfl hiu ?_))
    have hsm := small_read x.f0 (by omega) (by omega) S.data.toList (by rw [str_len]; omega)
    refine (bytes_str _ us _ HU.out hsm.1 hsm.2 S E2.out).mono ?_
    clear hsm
    rintro e w5 ⟨rfl, hb5⟩
    have hat5 : AtB w5 w.heap.size 41 vs := (hb5.block w.heap.size (lt_of_heap HAT4.out)).trans HAT4.out
    have HAT5 := hid hat5
    have HB5 := hid (below_then HB4.out hb5)
    have hc5 : w5.cell? ⟨w.heap.size, 0, none⟩ = some (.int .i64 x.f0) := (hat5.cell 0).trans HK0.out
    have kc := fun w => run_string_of_one (P := Tryd.prog) (w := w) Tryd.underlying49 Tryd.underlying5 Tryd.underlying9 (.int .u8 (m.toNat : Int)) m rfl
    clear hb5 hat5
    go_wp2_with fail
    have hbl : Below w5.heap.size w5 (w5.alloc (.cells #[.int .u8 (m.toNat : Int)] 5)) := (Below.refl _ w5).alloc (Nat.le_refl _) _
    have hg5 := HG.out.below (below_then HB5.out hbl) HG.out.lt
    obtain ⟨S2, hS2⟩ : ∃ S2 : ByteArray, S ++ ({ data := #[m] } : ByteArray) = S2 := ⟨_, rfl⟩
    have hsz2 : S2.size = S.size + 1 := by rw [← hS2, ByteArray.size_append]; rfl
    have hdl : S2.data.toList = S.data.toList ++ [m] := by rw [← hS2]; simp
    have hrd := read_vs (w5.alloc (.cells #[.int .u8 (m.toNat : Int)] 5)) hg5 x.f0 h1 h8 S2 (by omega) 170 (by rw [hdl, E3.out m]; rfl)
    rw [hS2]
    refine hrd.mono ?_
    clear hg5 hsz2 hdl kc hrd
    rintro e w6 ⟨us6, rfl, hu6, hb6⟩
    obtain ⟨-, usz6, uone6⟩ := kind_at w6 us6 _ hu6
    have hiu6 : (Tryd.prog.info? 41).map (·.size) = some us6.size := by rw [usz6]; exact rowInfo
    have hbu6 : Below w6.heap.size w6 (w6.alloc (.cells us6 41)) := (Below.refl _ w6).alloc (Nat.le_refl _) _
    have hat6 : AtB (w6.alloc (.cells us6 41)) w.heap.size 41 vs := (hbu6.block _ (lt_of_heap ((hb6.block _ (lt_of_heap (HAT5.out.alloc _))).trans (HAT5.out.alloc _)))).trans ((hb6.block _ (lt_of_heap (HAT5.out.alloc _))).trans (HAT5.out.alloc _))
    have HAT6 := hid hat6
    have HB6 := hid (below_then (below_then (below_then HB5.out hbl) hb6) hbu6)
    clear hbl hb6 hu6 hbu6 hat6 hc5
    go_wp2_with (first | (refine wpList_allocTo rfl (some 8) rfl _ _ (run_allocRow _ _ rfl _) ?_) | (refine wpList_store_new rfl 41 (.tmp 8) (.tmp 56) rfl rfl w6 41 rowZ us6 rfl rfl rfl hiu6 (by rw [usz6]; rfl) uone6 ?_))
    go_loopw [10] (fun i wr => ∃ (k : Nat), i = .int .i64 k ∧ k ≤ S.size ∧ AtB wr w.heap.size 41 vs ∧ Below w.heap.size w wr) (fun i _ => S.size - (intOf i).toNat)
    case atStart => exact ⟨0, rfl, by omega, HAT6.out, HB6.out⟩
    case round =>
      obtain ⟨k, rfl, hk, hat7, hb7⟩ := hrel
      have HAT7 := hid hat7
      have HB7 := hid hb7
      have hc7 : wr.cell? ⟨w.heap.size, 0, none⟩ = some (.int .i64 x.f0) := (hat7.cell 0).trans HK0.out
      clear hat7 hb7
      by_cases hlt : k < S.size
      · have t0 : decide (k < S.size) = true := decide_eq_true hlt
        go_wp2_with fail
        have hb7d : Below w.heap.size w wr.drew := Below.drew HB7.out
        have hat7d : AtB wr.drew w.heap.size 41 vs := HAT7.out
        have i0 : (0 : Int) ≤ (k : Int) := by omega
        have i1 : (k : Int) ≤ (S.size : Int) := by omega
        have hn170 : (if (readRow x.f0 (S.extract 0 k).data.toList).2 = true then (0 : Int) else 170) = 170 := by
          have he : (S.extract 0 k).data.toList = S.data.toList.take k := by simp
          rw [he, E4.out k (by rw [str_len]; omega)]; rfl
        refine wp_region_held_drew (S := fun W => Below w.heap.size w W ∧ AtB W w.heap.size 41 vs) (by kernel_rfl) ⟨hb7d, hat7d⟩ (fun hHeld => ?_)
        refine wpAnyH_take (i := 0) (v := .pointer (some ⟨w.heap.size, 0, none⟩)) rfl (by kernel_rfl) (by kernel_rfl) (by kernel_rfl) (fun _ _ _ h => h) (Or.inl ⟨by rfl, fun W hW => by go_simp⟩) hHeld ?_
        try simp only [Act.put, List.setIfInBounds_toArray, List.set_cons_zero, List.set_cons_succ]
        refine wpAnyH_take (i := 1) (v := .int .i64 x.f0) rfl (by kernel_rfl) (by kernel_rfl) (by kernel_rfl) (fun _ _ _ h => h) (Or.inl ⟨by rfl, fun W hW => by have hc := (hW.2.cell 0).trans HK0.out; go_simp⟩) hHeld ?_
        try simp only [Act.put, List.setIfInBounds_toArray, List.set_cons_zero, List.set_cons_succ]
        refine wpAnyH_take (i := 2) (v := .string S) rfl (by kernel_rfl) (by kernel_rfl) (by kernel_rfl) (fun _ _ _ h => h) (Or.inl ⟨by rfl, fun W hW => by go_simp⟩) hHeld ?_
        try simp only [Act.put, List.setIfInBounds_toArray, List.set_cons_zero, List.set_cons_succ]
        refine wpAnyH_take (i := 3) (v := .int .i64 (k : Int)) rfl (by kernel_rfl) (by kernel_rfl) (by kernel_rfl) (fun _ _ _ h => h) (Or.inl ⟨by rfl, fun W hW => by go_simp⟩) hHeld ?_
        try simp only [Act.put, List.setIfInBounds_toArray, List.set_cons_zero, List.set_cons_succ]
        refine wpAnyH_take (i := 4) (v := .string (S.extract 0 k)) rfl (by kernel_rfl) (by kernel_rfl) (by kernel_rfl) (fun _ _ _ h => h) (Or.inl ⟨by rfl, fun W hW => by go_simp⟩) hHeld ?_
        try simp only [Act.put, List.setIfInBounds_toArray, List.set_cons_zero, List.set_cons_succ]
        refine wpAnyH_ready (rs := [5, 9]) (by kernel_rfl) (by simp) ?_
        refine AllReadyH.cons rfl (fun K hK => ?_) (AllReadyH.cons rfl (fun K hK => ?_) AllReadyH.nil)
        ·
          go_simp
          have hrd := read_vs wr.drew (HG.out.below hHeld.1 HG.out.lt) x.f0 h1 h8 (S.extract 0 k) (by rw [ByteArray.size_extract]; omega) 170 hn170
          refine hrd.mono ?_
          clear hrd
          rintro e w8 ⟨us8, rfl, hu8, hb8⟩
          obtain ⟨-, usz8, uone8⟩ := kind_at w8 us8 _ hu8
          have hiu8 : (Tryd.prog.info? 41).map (·.size) = some us8.size := by rw [usz8]; exact rowInfo
          have hS8 : Below w.heap.size w w8 ∧ AtB w8 w.heap.size 41 vs := ⟨below_then hHeld.1 hb8, (hb8.block _ (lt_of_heap hHeld.2)).trans hHeld.2⟩
          clear hHeld hu8
          refine hK.out _ _ hS8 (fun hHeld => ?_)
          clear hK K
          try simp only [Act.put, List.setIfInBounds_toArray, List.set_cons_zero, List.set_cons_succ]
          have hS9 : Below w.heap.size w (w8.alloc (.cells us8 41)) ∧ AtB (w8.alloc (.cells us8 41)) w.heap.size 41 vs := ⟨hS8.1.alloc hS8.1.size _, hS8.2.alloc _⟩
          clear hS8
          refine wpAnyH_take (i := 6) (v := .tuple #[.agg us8, .int .i64 170]) rfl (by kernel_rfl) (by kernel_rfl) (by kernel_rfl) (fun _ _ _ h => h) (Or.inl ⟨by rfl, fun W hW => by go_simp⟩) hHeld ?_
          try simp only [Act.put, List.setIfInBounds_toArray, List.set_cons_zero, List.set_cons_succ]
          refine wpAnyH_take (i := 7) (v := .agg us8) rfl (by kernel_rfl) (by kernel_rfl) (by kernel_rfl) (fun _ _ _ h => h) (Or.inl ⟨by rfl, fun W hW => by go_simp⟩) hHeld ?_
          try simp only [Act.put, List.setIfInBounds_toArray, List.set_cons_zero, List.set_cons_succ]
          refine wpAnyH_take (i := 8) (v := .int .i64 170) rfl (by kernel_rfl) (by kernel_rfl) (by kernel_rfl) (fun _ _ _ h => h) (Or.inl ⟨by rfl, fun W hW => by go_simp⟩) hHeld ?_
          try simp only [Act.put, List.setIfInBounds_toArray, List.set_cons_zero, List.set_cons_succ]
          refine wpAnyH_ready (rs := [9]) (by kernel_rfl) (by simp) ?_
          refine AllReadyH.cons rfl (fun K hK => ?_) AllReadyH.nil
          rw [if_pos (by rfl)]
          refine wp_alloc_row rfl ?_
          have hSa : Below w.heap.size w (w8.alloc (.cells rowZ 41)) ∧ AtB (w8.alloc (.cells rowZ 41)) w.heap.size 41 vs := ⟨hHeld.1.alloc hHeld.1.size _, hHeld.2.alloc _⟩
          clear hHeld
          refine hK.out _ _ hSa (fun hHeld => ?_)
          clear hK K
          try simp only [Act.put, List.setIfInBounds_toArray, List.set_cons_zero, List.set_cons_succ]
          refine wpAnyH_ready (rs := [10]) (by kernel_rfl) (by simp) ?_
          refine AllReadyH.cons rfl (fun K hK => ?_) AllReadyH.nil
          rw [if_pos (by rfl)]
          refine wp_store_new 41 (.tmp 11) (.tmp 73) rfl rfl w8 41 rowZ us8 rfl rfl rfl hiu8 (by rw [usz8]; rfl) uone8 ?_
          have hSb : Below w.heap.size w (w8.alloc (.cells us8 41)) ∧ AtB (w8.alloc (.cells us8 41)) w.heap.size 41 vs := hS9
          clear hHeld
          refine hK.out _ _ hSb (fun hHeld => ?_)
          clear hK K
          try simp only [Act.put, List.setIfInBounds_toArray, List.set_cons_zero, List.set_cons_succ]
          refine wpAnyH_ready (rs := [11]) (by kernel_rfl) (by simp) ?_
          refine AllReadyH.cons rfl (fun K hK => ?_) AllReadyH.nil
          go_simp
          refine hK.out _ _ hHeld (fun hHeld => ?_)
          clear hK K
          try simp only [Act.put, List.setIfInBounds_toArray, List.set_cons_zero, List.set_cons_succ]
          refine wpAnyH_done (by kernel_rfl) ?_ _
          have HBE := hid hHeld.1
          have HAE := hid hHeld.2
          clear hHeld
          go_wp2
          go_round
          case rel => exact ⟨k + 1, by go_num, by omega, HAE.out, HBE.out⟩
          case measure => simp [intOf]; omega
        ·
          have hza : AtB (wr.drew.alloc (.cells rowZ 41)) wr.drew.heap.size 41 rowZ := at_make rfl
          rw [if_pos (by rfl)]
          refine wp_alloc_row rfl ?_
          have hSa : Below w.heap.size w (wr.drew.alloc (.cells rowZ 41)) ∧ AtB (wr.drew.alloc (.cells rowZ 41)) w.heap.size 41 vs := ⟨hHeld.1.alloc hHeld.1.size _, hHeld.2.alloc _⟩
          clear hHeld
          refine hK.out _ _ hSa (fun hHeld => ?_)
          clear hK K
          try simp only [Act.put, List.setIfInBounds_toArray, List.set_cons_zero, List.set_cons_succ]
          refine wpAnyH_ready (rs := [5]) (by kernel_rfl) (by simp) ?_
          refine AllReadyH.cons rfl (fun K hK => ?_) AllReadyH.nil
          go_simp
          have hrd := read_vs _ (HG.out.below hHeld.1 HG.out.lt) x.f0 h1 h8 (S.extract 0 k) (by rw [ByteArray.size_extract]; omega) 170 hn170
          refine hrd.mono ?_
          clear hrd
          rintro e w8 ⟨us8, rfl, hu8, hb8⟩
          obtain ⟨-, usz8, uone8⟩ := kind_at w8 us8 _ hu8
          have hiu8 : (Tryd.prog.info? 41).map (·.size) = some us8.size := by rw [usz8]; exact rowInfo
          have hS8 : Below w.heap.size w w8 ∧ AtB w8 w.heap.size 41 vs := ⟨below_then hHeld.1 hb8, (hb8.block _ (lt_of_heap hHeld.2)).trans hHeld.2⟩
          have hz8 : AtB w8 wr.drew.heap.size 41 rowZ := (hb8.block _ (lt_of_heap hza)).trans hza
          clear hHeld hu8
          refine hK.out _ _ hS8 (fun hHeld => ?_)
          clear hK K
          try simp only [Act.put, List.setIfInBounds_toArray, List.set_cons_zero, List.set_cons_succ]
          clear hS8
          refine wpAnyH_take (i := 6) (v := .tuple #[.agg us8, .int .i64 170]) rfl (by kernel_rfl) (by kernel_rfl) (by kernel_rfl) (fun _ _ _ h => h) (Or.inl ⟨by rfl, fun W hW => by go_simp⟩) hHeld ?_
          try simp only [Act.put, List.setIfInBounds_toArray, List.set_cons_zero, List.set_cons_succ]
          refine wpAnyH_take (i := 7) (v := .agg us8) rfl (by kernel_rfl) (by kernel_rfl) (by kernel_rfl) (fun _ _ _ h => h) (Or.inl ⟨by rfl, fun W hW => by go_simp⟩) hHeld ?_
          try simp only [Act.put, List.setIfInBounds_toArray, List.set_cons_zero, List.set_cons_succ]
          refine wpAnyH_take (i := 8) (v := .int .i64 170) rfl (by kernel_rfl) (by kernel_rfl) (by kernel_rfl) (fun _ _ _ h => h) (Or.inl ⟨by rfl, fun W hW => by go_simp⟩) hHeld ?_
          try simp only [Act.put, List.setIfInBounds_toArray, List.set_cons_zero, List.set_cons_succ]
          refine wpAnyH_ready (rs := [10]) (by kernel_rfl) (by simp) ?_
          refine AllReadyH.cons rfl (fun K hK => ?_) AllReadyH.nil
          rw [if_pos (by rfl)]
          refine wp_store_row 41 (.tmp 11) (.tmp 73) rfl wr.drew.heap.size us8 rfl rfl 41 rowZ hz8 hiu8 (by rw [usz8]; rfl) uone8 ?_
          have hle : w.heap.size < wr.drew.heap.size := lt_of_heap hat7d
          have hSb : Below w.heap.size w (w8.setRow wr.drew.heap.size us8) ∧ AtB (w8.setRow wr.drew.heap.size us8) w.heap.size 41 vs := ⟨hHeld.1.trans ((mod_setRow w8 wr.drew.heap.size us8).below hHeld.1.size (fun x e => by omega)), (mod_setRow w8 wr.drew.heap.size us8).heap hHeld.2 (show ¬ (w.heap.size = wr.drew.heap.size) by omega)⟩
          clear hHeld hz8
          refine hK.out _ _ hSb (fun hHeld => ?_)
          clear hK K
          try simp only [Act.put, List.setIfInBounds_toArray, List.set_cons_zero, List.set_cons_succ]
          refine wpAnyH_ready (rs := [11]) (by kernel_rfl) (by simp) ?_
          refine AllReadyH.cons rfl (fun K hK => ?_) AllReadyH.nil
          go_simp
          refine hK.out _ _ hHeld (fun hHeld => ?_)
          clear hK K
          try simp only [Act.put, List.setIfInBounds_toArray, List.set_cons_zero, List.set_cons_succ]
          refine wpAnyH_done (by kernel_rfl) ?_ _
          have HBE := hid hHeld.1
          have HAE := hid hHeld.2
          clear hHeld
          go_wp2
          go_round
          case rel => exact ⟨k + 1, by go_num, by omega, HAE.out, HBE.out⟩
          case measure => simp [intOf]; omega
      · have t0 : decide (k < S.size) = false := decide_eq_false hlt
        go_wp2
        go_ret
        exact TruePost.mk rfl HB7.out
theorem back_any (vs : Array Value) (x : S41) (c : Int) (w : World) (hK : k41.K w x vs.toList) (g : GRow x) (c0 : 0 ≤ c) (c1 : c ≤ 255) (hg : ErrorType w) :
    Calls Tryd.prog 4 #[.agg vs, .int .u8 c] w (TruePost w) := by
  obtain ⟨m, rfl⟩ : ∃ m : UInt8, c = (m.toNat : Int) := ⟨UInt8.ofNat c.toNat, by simp; omega⟩
  exact back_core w hg vs m x hK (small_of x g)
end Go.Proofs.YtcgjacffemjehaaDoor

namespace Go.Proofs.YtcgjacffemjehaaDoor
open Go.ChangeShapes Go.WideShapes Go.RowKit
set_option linter.unusedVariables false

theorem A.et : Tryd.prog.globalNamed "errors.errorType" = some 0 := by kernel_rfl
theorem A.rt : (Tryd.prog.cutTypes.find? (·.1 == "internal/reflectlite.rtype")).map (·.2) = some 170 := by kernel_rfl
theorem A.oneRow : ((List.range 211).filter fun t => Tryd.prog.rowNamed t [101, 114, 114, 111, 114]) = [53] := by kernel_rfl
theorem A.ntypes : Tryd.prog.types.size = 211 := by kernel_rfl

/-- What the row's list gives: the variable's one cell. -/
theorem handle_of_laid {W : World} (l : List (String × DataW Unit)) (hl : l = [("errors.errorType", Rows.laid_errors_errorType)]) (h : laidMetH Tryd.prog l W) : ErrorType W := by
  subst hl
  have h' : laidMet Tryd.prog [] W ∧ handlesMet Tryd.prog [("errors.errorType", Rows.laid_errors_errorType)] W := h
  obtain ⟨name, u, ty, e1, e2, e3, e4, e5⟩ := h'.2 _ (List.mem_singleton.2 rfl)
  have en : name = [101, 114, 114, 111, 114] := (Option.some.inj e1).symm
  subst en
  obtain rfl := Option.some.inj (A.rt.symm.trans e2)
  have hm : ty ∈ (List.range 211).filter fun t => Tryd.prog.rowNamed t [101, 114, 114, 111, 114] := List.mem_filter.2 ⟨List.mem_range.2 (by rw [← A.ntypes]; exact e3), e4⟩
  rw [A.oneRow] at hm
  obtain rfl := List.mem_singleton.1 hm
  have hh : typeHandle Tryd.prog 53 = .pointer (some ⟨1, 53, none⟩) := by kernel_rfl
  rw [hh] at e5
  simpa [ErrorType] using World.var?_cell A.et e5 0

/-- A world that meets the list: the settled one, the variable's cell laid. -/
noncomputable def laidWorld (os : Os) : World :=
  let w0 := World.holding Tryd.prog os ⟨#[], #[], []⟩
  { w0 with heap := w0.heap.modify 0 fun
      | .cells _ t frozen => .cells #[.iface 170 (.agg #[.pointer (some ⟨1, 53, none⟩)])] t frozen
      | o => o }
end Go.Proofs.YtcgjacffemjehaaDoor

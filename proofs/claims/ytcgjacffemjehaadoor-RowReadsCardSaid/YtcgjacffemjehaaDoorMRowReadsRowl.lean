/-
  RowAlive, RowReadsLaw, RowKit: this proof's parts in one text.
-/
import Derived.Test.YtcgjacffemjehaaDoorMRowReadsRowe
import Derived.Test.YtcgjacffemjehaaDoorMRowReadsRowd
import Derived.Test.YtcgjacffemjehaaDoorMRowReadsRowi
import Derived.Test.YtcgjacffemjehaaDoorMRowReadsRowj
import Derived.Test.YtcgjacffemjehaaDoorMRowReadsRowk
import Derived.Test.YtcgjacffemjehaaDoorMRowReadsRowc
import Derived.Test.YtcgjacffemjehaaDoorRows
import Derived.ProofKit
import Derived.OpenShut
import Derived.ChangeVars
import Derived.LaidLaws
import Derived.LaidHandle
namespace Go.Proofs.YtcgjacffemjehaaDoor
open Go.RowKit
open Go.Proofs.YtcgjacffemjehaaDoorW.PrintWords (Kd rdOf)
open Go.Proofs.YtcgjacffemjehaaDoor.PRowReads
set_option linter.unusedVariables false
theorem amax2 (k k' : IntKind) (x y : Int) : Builtin.max2 (.int k x) (.int k' y) = pure (.int k (if x < y then y else x)) := by simp only [Builtin.max2]
theorem amax_two (ats : Array TypeId) (ty : TypeId) (a b : Value) : Builtin.max_ ats ty #[a, b] = (Builtin.max2 a b >>= fun s => pure s) := by simp only [Builtin.max_, List.foldlM_cons, List.foldlM_nil]
attribute [local go_sem] amax2 amax_two
def exR : S31 := ⟨⟨#[104]⟩, ⟨#[102]⟩, 3⟩
def exB : List UInt8 := [0, 0, 0, 1, 104, 0, 0, 0, 1, 102, 0, 0, 0, 0, 0, 0, 0, 3]
theorem ex_bytes : refreshB exR = exB := by rfl
theorem ex_read : unR (refreshR exB false) = some exR := by rfl
theorem ex_short : unR (refreshR (exB.take 17) false) = none := by rfl
set_option maxHeartbeats 8000000 in
set_option maxRecDepth 100000 in
theorem alive_any (w : World) : Calls Tryd.prog 5 #[] w (TruePost w) := by
  have h1 : Calls Tryd.prog 11 #[.agg #[.string ⟨#[104]⟩, .string ⟨#[102]⟩, .int .i64 3]] w (BytesPost exB w) := by
    have := rowRefresh_any w exR ⟨(show (1 : Nat) ≤ 1048576 by omega), (show (1 : Nat) ≤ 1048576 by omega), (show (-9223372036854775808 : Int) ≤ 3 by omega), (show (3 : Int) ≤ 9223372036854775807 by omega)⟩ (by decide)
    rw [ex_bytes] at this
    exact this
  have H1 := hid h1
  clear h1
  go_enter Tryd.func5, Tryd.ntmps5
  go_wp2_with fail
  refine H1.out.mono ?_
  intro e w1 hq
  obtain ⟨v1, rfl, hr1, hb1⟩ := hq
  obtain ⟨B, o, cap, rfl, hcap, _⟩ := reads_some hr1 18 rfl (by omega)
  have HR1 := hid hr1
  have HB1 := hid hb1
  clear hr1 hb1
  go_wp2_with fail
  refine (toRefresh_any w1 _ exB HR1.out (by decide)).mono ?_
  rw [ex_read]
  intro e w2 hq
  obtain ⟨cs2, rfl, hM2, hb2⟩ := hq
  obtain rfl := k31_openM hM2
  have HB2 := hid (below_then HB1.out hb2)
  have HR2 := hid (HR1.out.below hb2)
  have HR3 := hid (reads_take HR2.out 17 (by omega))
  clear hM2 hb2
  go_wp2_with fail
  have hal : Below w2.heap.size w2 (w2.alloc (.cells #[.string exR.f0, .string exR.f1, .int .i64 exR.f2] 31)) := (Below.refl _ w2).alloc (Nat.le_refl _) _
  have hcl := cells_of_alloc w2 #[.string exR.f0, .string exR.f1, .int .i64 exR.f2] 31 2 (.int .i64 3) rfl
  refine (toRefresh_any _ _ (exB.take 17) (HR3.out.below hal) (by decide)).mono ?_
  rw [ex_short]
  intro e w3 hq
  obtain ⟨cs3, rfl, hM3, hb3⟩ := hq
  obtain rfl := k31_openM hM3
  have HB3 := hid (below_then HB2.out (below_then hal hb3))
  have hd : w3.cell? ⟨w2.heap.size, 2, none⟩ = some (.int .i64 3) := (hb3.cell (p := ⟨w2.heap.size, 2, none⟩) (by simp)).trans hcl
  have hd2 : ∀ q, (w3.alloc q).cell? ⟨w2.heap.size, 2, none⟩ = some (.int .i64 3) := fun q => (World.cell?_alloc_lt w3 q ⟨w2.heap.size, 2, none⟩ (lt_of_cell hd)).trans hd
  have hr4 := (HR2.out.below hal).below hb3
  have kc := fun q => run_string_of_reads (P := Tryd.prog) byteT Tryd.underlying9 (hr4.below ((Below.refl _ w3).alloc (Nat.le_refl _) q))
  have ev1 : errV true = .nilIface := rfl
  have ev2 : errV false = .iface 111 (.int .i64 170) := rfl
  have ekb : strV exB = .string ⟨#[0, 0, 0, 1, 104, 0, 0, 0, 1, 102, 0, 0, 0, 0, 0, 0, 0, 3]⟩ := rfl
  rw [ekb] at kc
  clear hM3 hb3 hal hr4 ekb hcl
  go_wp2
  go_ret
  exact TruePost.mk rfl (HB3.out.alloc HB3.out.size _)
end Go.Proofs.YtcgjacffemjehaaDoor

namespace Go.Proofs.YtcgjacffemjehaaDoor
open Go.RowKit
open Go.Proofs.YtcgjacffemjehaaDoorW.PrintWords (Kd rdOf results_ct)
open Go.Proofs.YtcgjacffemjehaaDoor.PRowReads
set_option linter.unusedVariables false
theorem doc_at (w : World) (k : Int) (h1 : 1 ≤ k) (h8 : k ≤ 8) (s : ByteArray) (hs : s.size ≤ 1048576) :
    Calls Tryd.prog 7 #[.int .i64 k, .string s] w (DocPost (readRow k s.data.toList).1 (readRow k s.data.toList).2 w) := by
  have hk : k = 1 ∨ k = 2 ∨ k = 3 ∨ k = 4 ∨ k = 5 ∨ k = 6 ∨ k = 7 ∨ k = 8 := by omega
  rcases hk with rfl | rfl | rfl | rfl | rfl | rfl | rfl | rfl
  · exact docConsent w s hs
  · exact docCode w s hs
  · exact docFamily w s hs
  · exact docRefresh w s hs
  · exact docAccess w s hs
  · exact docResource w s hs
  · exact docTicket w s hs
  · exact docKeys w s hs
/-- A row of nothing but its kind. -/
def rowNo (k : Int) : S41 := ⟨k, z25, z27, z29, z31, z34, z36, z38, []⟩
theorem rowNo_K (w : World) (k : Int) : k41.K w (rowNo k) (rowK k).toList := by
  have h := k41_mkM w 0 (fun _ => True) (rowNo k) (Kd.R_nil _ _ _ _ _) (Kd.R_nil _ _ _ _ _) (Kd.R_nil _ _ _ _ _) (Kd.R_nil _ _ _ _ _) (Kd.R_nil _ _ _ _ _) (Kd.R_nil _ _ _ _ _) (Kd.R_nil _ _ _ _ _) (Kd.R_nil _ _ _ _ _)
  have key : ∀ c c', c = c' → k41.M w 0 (fun _ => True) (rowNo k) c → k41.M w 0 (fun _ => True) (rowNo k) c' := fun _ _ e h => e ▸ h
  exact k41.K_of_M (key _ _ (by kernel_rfl) h)
theorem readRow_no (k : Int) (h1 : 1 ≤ k) (h8 : k ≤ 8) (l : List UInt8) (h : (readRow k l).2 = false) : (readRow k l).1 = rowNo k := by
  have hk : k = 1 ∨ k = 2 ∨ k = 3 ∨ k = 4 ∨ k = 5 ∨ k = 6 ∨ k = 7 ∨ k = 8 := by omega
  rcases hk with rfl | rfl | rfl | rfl | rfl | rfl | rfl | rfl
  · have h' : (unR (consentR l false)).isSome = false := h
    show rowConsent ((unR (consentR l false)).getD z25) = _
    cases e : unR (consentR l false) with
    | none => rfl
    | some y => rw [e] at h'; cases h'
  · have h' : (unR (codeR l false)).isSome = false := h
    show rowCode ((unR (codeR l false)).getD z27) = _
    cases e : unR (codeR l false) with
    | none => rfl
    | some y => rw [e] at h'; cases h'
  · have h' : (unR (familyR l false)).isSome = false := h
    show rowFamily ((unR (familyR l false)).getD z29) = _
    cases e : unR (familyR l false) with
    | none => rfl
    | some y => rw [e] at h'; cases h'
  · have h' : (unR (refreshR l false)).isSome = false := h
    show rowRefresh ((unR (refreshR l false)).getD z31) = _
    cases e : unR (refreshR l false) with
    | none => rfl
    | some y => rw [e] at h'; cases h'
  · have h' : (unR (accessR l false)).isSome = false := h
    show rowAccess ((unR (accessR l false)).getD z34) = _
    cases e : unR (accessR l false) with
    | none => rfl
    | some y => rw [e] at h'; cases h'
  · have h' : (unR (resourceR l false)).isSome = false := h
    show rowResource ((unR (resourceR l false)).getD z36) = _
    cases e : unR (resourceR l false) with
    | none => rfl
    | some y => rw [e] at h'; cases h'
  · have h' : (unR (ticketR l false)).isSome = false := h
    show rowTicket ((unR (ticketR l false)).getD z38) = _
    cases e : unR (ticketR l false) with
    | none => rfl
    | some y => rw [e] at h'; cases h'
  · have h' : (unR (listR keyR l false)).isSome = false := h
    show rowKeysR ((unR (listR keyR l false)).getD []) = _
    cases e : unR (listR keyR l false) with
    | none => rfl
    | some y => rw [e] at h'; cases h'
theorem refBytes_str (w : World) (vs : Array Value) (x : S41) (hK : k41.K w x vs.toList) (hs : Small x) (hf : Fits x) (S : ByteArray) (hS : rowB x = S.data.toList) :
    Calls Tryd.prog 8 #[.agg vs] w fun e w' => e = .returned (.string S) ∧ Below w.heap.size w w' :=
  (refBytes_at w vs x hK hs hf).mono (by rintro e w' ⟨rfl, hb⟩; exact ⟨by rw [hS], hb⟩)
theorem read_us (w : World) (hg : ErrorType w) (k : Int) (h1 : 1 ≤ k) (h8 : k ≤ 8) (S : ByteArray) (hs : S.size ≤ 1099511627776) (n : Int) (hn : (if (readRow k S.data.toList).2 = true then (0 : Int) else 170) = n) :
    Calls Tryd.prog 6 #[.int .i64 k, .string S] w fun e w' => ∃ us : Array Value, e = .returned (.tuple #[.agg us, .int .i64 n]) ∧ k41.K w' (readRow k S.data.toList).1 us.toList ∧ Below w.heap.size w w' :=
  (read_at w hg k h1 h8 S hs).mono (by
    rintro e w' ⟨cs, rfl, hM, hb⟩
    exact ⟨cs.toArray, by rw [hn], k41.K_of_M hM, hb⟩)
/-- A struct is built, under a guard that is met. -/
theorem wpList_buildG {P : Program} {ops : Array Oper} {rest : List Oper} {o : Oper} {a : Act} {w : World} {Q : Exit → Act → World → Prop} (hw : Region.wanted o (yielded ops a.tmps) = true) (t : TypeId) (parts : Array (Nat × Operand)) (ho : o.op = .build t parts)
    (d : Option Tmp) (hd : o.dst = d) (cells : Array Value) (hf : P.built t (parts.map fun (i, x) => (i, a.eval x)).toList = some cells)
    (h : wpList P ops Q rest (a.put d (.agg cells)) w) : wpList P ops Q (o :: rest) a w := by
  subst hd
  simp only [wpList, hw, if_true]
  refine .inl (wp_build t parts ho (by rw [hf]; rfl) ?_)
  rw [hf]
  exact h
set_option linter.unusedSimpArgs false
set_option maxHeartbeats 8000000 in
set_option maxRecDepth 100000 in
theorem reads_walk (k : Int) (s : ByteArray) (w : World) (k0 : -9223372036854775808 ≤ k) (k1 : k ≤ 9223372036854775807) (hmax : s.size ≤ maxLen) (hg : ErrorType w) :
    Calls Tryd.prog 3 #[.int .i64 k, .string s] w (TruePost w) := by
  have HG := hid hg
  clear hg
  go_enter Tryd.func3, Tryd.ntmps3
  go_wp2_with fail
  refine (alive_any _).mono ?_
  rintro e w1 ⟨rfl, hb1⟩
  have HB1 := hid hb1
  clear hb1
  by_cases hl : 5000 < s.size
  · have t1 : decide ((5000 : Int) < (s.size : Int)) = true := decide_eq_true (by omega)
    have t2 : decide (5000 < s.size) = true := decide_eq_true hl
    go_wp2
    go_ret
    exact TruePost.mk rfl HB1.out
  have t1 : decide ((5000 : Int) < (s.size : Int)) = false := decide_eq_false (by omega)
  have t2 : decide (5000 < s.size) = false := decide_eq_false hl
  by_cases h1 : k < 1
  · have t3 : decide (k < 1) = true := decide_eq_true h1
    go_wp2
    go_ret
    exact TruePost.mk rfl HB1.out
  have t3 : decide (k < 1) = false := decide_eq_false h1
  have h1 : 1 ≤ k := by omega
  by_cases h8 : 8 < k
  · have t4 : decide (8 < k) = true := decide_eq_true h8
    go_wp2
    go_ret
    exact TruePost.mk rfl HB1.out
  have t4 : decide (8 < k) = false := decide_eq_false h8
  have h8 : k ≤ 8 := by omega
  have hsl : s.data.toList.length ≤ 1048576 := by rw [str_len]; omega
  obtain ⟨n, hn⟩ : ∃ n : Int, (if (readRow k s.data.toList).2 = true then (0 : Int) else 170) = n := ⟨_, rfl⟩
  obtain ⟨ok, hok⟩ : ∃ b, (readRow k s.data.toList).2 = b := ⟨_, rfl⟩
  obtain ⟨x, hx⟩ : ∃ x, (readRow k s.data.toList).1 = x := ⟨_, rfl⟩
  obtain ⟨S, hS⟩ : ∃ S : ByteArray, rowB x = S.data.toList := ⟨⟨(rowB x).toArray⟩, rfl⟩
  have hsm : Small x ∧ Fits x := by rw [← hx]; exact small_read k h1 h8 _ hsl
  have hrd := read_us w1 (HG.out.below HB1.out HG.out.lt) k h1 h8 s (by omega) n hn
  rw [hx] at hrd
  have HRD := hid hrd
  have HOK := hid hok
  have HX := hid hx
  have HSM := hid hsm
  have HS := hid hS
  rw [hok] at hn
  have HN := hid hn
  clear hrd hok hx hsm hS hn
  go_wp2_with fail
  go_at_call 6
  refine HRD.out.mono ?_
  clear HRD
  rintro e w2 ⟨us, rfl, hu, hb2⟩
  obtain ⟨-, usz, uone⟩ := kind_at w2 us _ hu
  have hiu : (Tryd.prog.info? 41).map (·.size) = some us.size := by rw [usz]; exact rowInfo
  have hbu : Below w2.heap.size w2 (w2.alloc (.cells us 41)) := (Below.refl _ w2).alloc (Nat.le_refl _) _
  have hau : AtB (w2.alloc (.cells us 41)) w2.heap.size 41 us := at_make rfl
  have HU := hid (k41.K_below hbu hu)
  have HAU := hid hau
  have HB2 := hid (below_then (below_then HB1.out hb2) hbu)
  clear hb2 hu hbu hau
  go_wp2_with (first | (refine wpList_allocTo rfl (some 5) rfl _ _ (run_allocRow _ _ rfl _) ?_) | (refine wpList_store_new rfl 41 (.tmp 5) (.tmp 26) rfl rfl w2 41 rowZ us rfl rfl rfl hiu (by rw [usz]; rfl) uone ?_))
  have hdc := doc_at (w2.alloc (.cells us 41)) k h1 h8 s (by omega)
  rw [HX.out, HOK.out] at hdc
  refine hdc.mono ?_
  clear hdc
  rintro e w3 ⟨vs, rfl, vsz, vone, hv, hb3⟩
  have hiv : (Tryd.prog.info? 41).map (·.size) = some vs.size := by rw [vsz]; exact rowInfo
  have hbv : Below w3.heap.size w3 (w3.alloc (.cells vs 41)) := (Below.refl _ w3).alloc (Nat.le_refl _) _
  have hav : AtB (w3.alloc (.cells vs 41)) w3.heap.size 41 vs := at_make rfl
  have ha3 : AtB (w3.alloc (.cells vs 41)) w2.heap.size 41 us := (hbv.block _ (lt_of_heap ((hb3.block _ (lt_of_heap HAU.out)).trans HAU.out))).trans ((hb3.block _ (lt_of_heap HAU.out)).trans HAU.out)
  have HAV := hid hav
  have HA3 := hid ha3
  have HU3 := hid (k41.K_below hbv (k41.K_below hb3 HU.out))
  have HV3 := hid (fun e => k41.K_below hbv (hv e))
  have HB3 := hid (below_then (below_then HB2.out hb3) hbv)
  clear hv hb3 hbv hav ha3
  cases ok with
  | false =>
    obtain rfl : n = 170 := HN.out.symm
    have hxn : x = rowNo k := by rw [← HX.out]; exact readRow_no k h1 h8 _ HOK.out
    have HXN := hid hxn
    clear hxn
    go_wp2_with (first | (refine wpList_allocTo rfl (some 7) rfl _ _ (run_allocRow _ _ rfl _) ?_) | (refine wpList_store_new rfl 41 (.tmp 7) (.tmp 32) rfl rfl w3 41 rowZ vs rfl rfl rfl hiv (by rw [vsz]; rfl) vone ?_) | (refine wpList_load_rowH (by rfl) 41 (.tmp 5) rfl w2.heap.size rfl 41 us (0, 0) _ HA3.out Tryd.underlying41 rfl hiu ?_))
    refine (refBytes_str _ us x HU3.out HSM.out.1 HSM.out.2 S HS.out).mono ?_
    rintro e w4 ⟨rfl, hb4⟩
    have HB4 := hid (below_then HB3.out hb4)
    clear hb4
    have hno := refBytes_str w4 (rowK k) (rowNo k) (rowNo_K w4 k) (by rw [← HXN.out]; exact HSM.out.1) (by rw [← HXN.out]; exact HSM.out.2) S (by rw [← HXN.out]; exact HS.out)
    have HNO := hid hno
    clear hno
    go_wp2_with (first | (refine wpList_buildG (by rfl) 41 _ rfl (some 42) rfl (rowK k) (by kernel_rfl) ?_))
    refine HNO.out.mono ?_
    clear HNO
    rintro e w5 ⟨rfl, hb5⟩
    have HB5 := hid (below_then HB4.out hb5)
    clear hb5
    go_wp2
    go_ret
    exact TruePost.mk (by simp) HB5.out
  | true =>
    obtain rfl : n = 0 := HN.out.symm
    go_wp2_with (first | (refine wpList_allocTo rfl (some 7) rfl _ _ (run_allocRow _ _ rfl _) ?_) | (refine wpList_store_new rfl 41 (.tmp 7) (.tmp 32) rfl rfl w3 41 rowZ vs rfl rfl rfl hiv (by rw [vsz]; rfl) vone ?_))
    have hr0 : (w3.alloc (.cells vs 41)).drew.rangeAt w2.heap.size 0 us.toList := (World.rangeAt_drew _ _ _ _).2 (range_of_atB HA3.out)
    have hr1 : (w3.alloc (.cells vs 41)).drew.rangeAt w3.heap.size 0 vs.toList := (World.rangeAt_drew _ _ _ _).2 (range_of_atB HAV.out)
    have hdr : Below (w3.alloc (.cells vs 41)).heap.size (w3.alloc (.cells vs 41)) (w3.alloc (.cells vs 41)).drew := Below.drew (Below.refl _ _)
    have HUd := hid (k41.K_below hdr HU3.out)
    have HVd := hid (k41.K_below hdr (HV3.out (by simp)))
    have hbd : Below w.heap.size w (w3.alloc (.cells vs 41)).drew := Below.drew HB3.out
    have hiu' : (Tryd.prog.info? 41).map (·.size) = some us.toList.length := by rw [Array.length_toList]; exact hiu
    have hiv' : (Tryd.prog.info? 41).map (·.size) = some vs.toList.length := by rw [Array.length_toList]; exact hiv
    clear hdr
    refine wp_region_held_drew (S := fun W => Below w.heap.size w W ∧ W.rangeAt w2.heap.size 0 us.toList ∧ W.rangeAt w3.heap.size 0 vs.toList) (by kernel_rfl) ⟨hbd, hr0, hr1⟩ (fun hHeld => ?_)
    clear hr0 hr1 hbd
    refine wpAnyH_take (i := 0) (v := .int .i64 0) rfl (by kernel_rfl) (by kernel_rfl) (by kernel_rfl) (fun _ _ _ h => h) (Or.inl ⟨by rfl, fun W hW => by go_simp⟩) hHeld ?_
    try simp only [Act.put, List.setIfInBounds_toArray, List.set_cons_zero, List.set_cons_succ, Array.toArray_toList]
    refine wpAnyH_take (i := 1) (v := .bool true) rfl (by kernel_rfl) (by kernel_rfl) (by kernel_rfl) (fun _ _ _ h => h) (Or.inl ⟨by rfl, fun W hW => by go_simp⟩) hHeld ?_
    try simp only [Act.put, List.setIfInBounds_toArray, List.set_cons_zero, List.set_cons_succ, Array.toArray_toList]
    refine wpAnyH_take (i := 2) (v := .bool true) rfl (by kernel_rfl) (by kernel_rfl) (by kernel_rfl) (fun _ _ _ h => h) (Or.inl ⟨by rfl, fun W hW => by go_simp⟩) hHeld ?_
    try simp only [Act.put, List.setIfInBounds_toArray, List.set_cons_zero, List.set_cons_succ, Array.toArray_toList]
    refine wpAnyH_take (i := 3) (v := _) rfl (by kernel_rfl) (by kernel_rfl) (by kernel_rfl) (fun _ _ _ h => h) (yieldsIf_load_mid (by rfl) _ _ rfl w2.heap.size 0 rfl us.toList _ (fun W hW => hW.2.1) Tryd.underlying41 rfl hiu') hHeld ?_
    try simp only [Act.put, List.setIfInBounds_toArray, List.set_cons_zero, List.set_cons_succ, Array.toArray_toList]
    refine wpAnyH_take (i := 5) (v := _) rfl (by kernel_rfl) (by kernel_rfl) (by kernel_rfl) (fun _ _ _ h => h) (yieldsIf_load_mid (by rfl) _ _ rfl w3.heap.size 0 rfl vs.toList _ (fun W hW => hW.2.2) Tryd.underlying41 rfl hiv') hHeld ?_
    try simp only [Act.put, List.setIfInBounds_toArray, List.set_cons_zero, List.set_cons_succ, Array.toArray_toList]
    refine wpAnyH_ready (rs := [4]) (by kernel_rfl) (by simp) ?_
    refine AllReadyH.cons rfl (fun K hK => ?_) AllReadyH.nil
    go_simp
    refine (refBytes_str _ us x HUd.out HSM.out.1 HSM.out.2 S HS.out).mono ?_
    rintro e w4 ⟨rfl, hb⟩
    have hS : Below w.heap.size w w4 ∧ w4.rangeAt w2.heap.size 0 us.toList ∧ w4.rangeAt w3.heap.size 0 vs.toList := ⟨below_then hHeld.1 hb, range_of_below hb hHeld.2.1 (by rw [Array.length_toList]; omega), range_of_below hb hHeld.2.2 (by rw [Array.length_toList]; omega)⟩
    have HK1 := hid (k41.K_below hb HUd.out)
    have HK2 := hid (k41.K_below hb HVd.out)
    clear HUd HVd hHeld hb
    have HUd := hid HK1.out
    have HVd := hid HK2.out
    clear HK1 HK2
    refine hK.out _ _ hS (fun hHeld => ?_)
    clear hK K
    try simp only [Act.put, List.setIfInBounds_toArray, List.set_cons_zero, List.set_cons_succ, Array.toArray_toList]
    clear hS
    refine wpAnyH_ready (rs := [6]) (by kernel_rfl) (by simp) ?_
    refine AllReadyH.cons rfl (fun K hK => ?_) AllReadyH.nil
    go_simp
    refine (refBytes_str _ vs x HVd.out HSM.out.1 HSM.out.2 S HS.out).mono ?_
    rintro e w5 ⟨rfl, hb⟩
    have hS : Below w.heap.size w w5 ∧ w5.rangeAt w2.heap.size 0 us.toList ∧ w5.rangeAt w3.heap.size 0 vs.toList := ⟨below_then hHeld.1 hb, range_of_below hb hHeld.2.1 (by rw [Array.length_toList]; omega), range_of_below hb hHeld.2.2 (by rw [Array.length_toList]; omega)⟩
    have HK1 := hid (k41.K_below hb HUd.out)
    have HK2 := hid (k41.K_below hb HVd.out)
    clear HUd HVd hHeld hb
    have HUd := hid HK1.out
    have HVd := hid HK2.out
    clear HK1 HK2
    refine hK.out _ _ hS (fun hHeld => ?_)
    clear hK K
    try simp only [Act.put, List.setIfInBounds_toArray, List.set_cons_zero, List.set_cons_succ, Array.toArray_toList]
    clear hS
    refine wpAnyH_ready (rs := [7]) (by kernel_rfl) (by simp) ?_
    refine AllReadyH.cons rfl (fun K hK => ?_) AllReadyH.nil
    go_simp
    refine hK.out _ _ hHeld (fun hHeld => ?_)
    clear hK K
    try simp only [Act.put, List.setIfInBounds_toArray, List.set_cons_zero, List.set_cons_succ, Array.toArray_toList]
    refine wpAnyH_ready (rs := [8]) (by kernel_rfl) (by simp) ?_
    refine AllReadyH.cons rfl (fun K hK => ?_) AllReadyH.nil
    go_simp
    refine hK.out _ _ hHeld (fun hHeld => ?_)
    clear hK K
    try simp only [Act.put, List.setIfInBounds_toArray, List.set_cons_zero, List.set_cons_succ, Array.toArray_toList]
    refine wpAnyH_ready (rs := [9]) (by kernel_rfl) (by simp) ?_
    refine AllReadyH.cons rfl (fun K hK => ?_) AllReadyH.nil
    go_simp
    refine hK.out _ _ hHeld (fun hHeld => ?_)
    clear hK K
    try simp only [Act.put, List.setIfInBounds_toArray, List.set_cons_zero, List.set_cons_succ, Array.toArray_toList]
    refine wpAnyH_done (by kernel_rfl) ?_ _
    have HBE := hid hHeld.1
    clear hHeld
    go_wp2
    go_ret
    exact TruePost.mk rfl HBE.out
end Go.Proofs.YtcgjacffemjehaaDoor

namespace Go.Proofs.YtcgjacffemjehaaDoor
open Go.ChangeShapes Go.WideShapes Go.RowKit
set_option linter.unusedVariables false

theorem A.et : Tryd.prog.globalNamed "errors.errorType" = some 0 := by kernel_rfl
theorem A.rt : (Tryd.prog.cutTypes.find? (·.1 == "internal/reflectlite.rtype")).map (·.2) = some 170 := by kernel_rfl
theorem A.oneRow : ((List.range 211).filter fun t => Tryd.prog.rowNamed t [101, 114, 114, 111, 114]) = [53] := by kernel_rfl
theorem A.ntypes : Tryd.prog.types.size = 211 := by kernel_rfl

/-- What the row's list gives: the variable's one cell. -/
theorem handle_of_laid {W : World} (l : List (String × DataW Unit)) (hl : l = [("errors.errorType", Rows.laid_errors_errorType)]) (h : laidMetH Tryd.prog l W) : ErrorType W := by
  subst hl
  have h' : laidMet Tryd.prog [] W ∧ handlesMet Tryd.prog [("errors.errorType", Rows.laid_errors_errorType)] W := h
  obtain ⟨name, u, ty, e1, e2, e3, e4, e5⟩ := h'.2 _ (List.mem_singleton.2 rfl)
  have en : name = [101, 114, 114, 111, 114] := (Option.some.inj e1).symm
  subst en
  obtain rfl := Option.some.inj (A.rt.symm.trans e2)
  have hm : ty ∈ (List.range 211).filter fun t => Tryd.prog.rowNamed t [101, 114, 114, 111, 114] := List.mem_filter.2 ⟨List.mem_range.2 (by rw [← A.ntypes]; exact e3), e4⟩
  rw [A.oneRow] at hm
  obtain rfl := List.mem_singleton.1 hm
  have hh : typeHandle Tryd.prog 53 = .pointer (some ⟨1, 53, none⟩) := by kernel_rfl
  rw [hh] at e5
  simpa [ErrorType] using World.var?_cell A.et e5 0

/-- A world that meets the list: the settled one, the variable's cell laid. -/
noncomputable def laidWorld (os : Os) : World :=
  let w0 := World.holding Tryd.prog os ⟨#[], #[], []⟩
  { w0 with heap := w0.heap.modify 0 fun
      | .cells _ t frozen => .cells #[.iface 170 (.agg #[.pointer (some ⟨1, 53, none⟩)])] t frozen
      | o => o }
end Go.Proofs.YtcgjacffemjehaaDoor

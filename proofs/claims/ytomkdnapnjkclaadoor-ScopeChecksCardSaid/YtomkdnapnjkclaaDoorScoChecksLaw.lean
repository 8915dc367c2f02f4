/-
  The statement ScopeChecks: its call answers true.
-/
import Derived.Test.YtomkdnapnjkclaaDoorScoAlive
import Derived.Test.YtomkdnapnjkclaaDoorScoRef4
import Derived.Test.YtomkdnapnjkclaaDoorScoBackP
import Derived.Test.YtomkdnapnjkclaaDoorScoOpen
import Derived.Test.YtomkdnapnjkclaaDoorPScopeChecksx10
namespace Go.Proofs.YtomkdnapnjkclaaDoor.Sco
open Go.RowKit Go.Proofs.YtomkdnapnjkclaaDoor Go.Proofs.YtomkdnapnjkclaaDoorW.PrintWords Go.Proofs.YtomkdnapnjkclaaDoorW.PrintLast Go.Proofs.YtomkdnapnjkclaaDoorW.PrintMore
set_option linter.unusedVariables false
set_option linter.unusedSimpArgs false
def sepT (i : Nat) : List UInt8 := if i = 0 then [] else [32]
def upTo (xs : List ByteArray) (i : Nat) : List UInt8 := printS (xs.take i)
theorem tail_snoc (xs : List ByteArray) (x : ByteArray) : tailS (xs ++ [x]) = tailS xs ++ 32 :: x.data.toList := by
  induction xs with
  | nil => simp [tailS]
  | cons y ys ih => rw [List.cons_append, tailS, ih, tailS]; simp
theorem upTo_step (xs : List ByteArray) (i : Nat) (x : ByteArray) (hx : xs[i]? = some x) : upTo xs (i + 1) = upTo xs i ++ sepT i ++ x.data.toList := by
  unfold upTo sepT
  rw [List.take_add_one, hx, Option.toList_some]
  cases h : xs.take i with
  | nil =>
    have hi : i = 0 := by
      have := congrArg List.length h
      rw [List.length_take, List.length_nil] at this
      have := (List.getElem?_eq_some_iff.1 hx).1
      omega
    rw [if_pos hi, List.nil_append, printS_cons]
    simp [tailS, printS_nil]
  | cons y ys =>
    have hi : i ≠ 0 := by
      rintro rfl
      rw [List.take_zero] at h; cases h
    rw [if_neg hi, List.cons_append, printS_cons, printS_cons, tail_snoc]
    simp
theorem rprint_ev (xs : List ByteArray) (hn : xs.length ≤ 100) (hs : ∀ x ∈ xs, x.size ≤ 1000) (d : Nat) : ∀ i : Nat, xs.length - i = d → i ≤ xs.length → Ev (fun k => PScopeChecks.warrantref07_Print.l0 k xs ⟨(upTo xs i).toArray⟩ i) ⟨(printS xs).toArray⟩ := by
  have hbound : ∀ i, i ≤ xs.length → (upTo xs i).length ≤ 200000 := fun i hi => by
    have h1 := join_lenG (xs.take i) 1000 (fun x hx => hs x (List.mem_of_mem_take hx))
    have h2 : (xs.take i).length * 1001 ≤ 100 * 1001 := Nat.mul_le_mul_right _ (by rw [List.length_take]; omega)
    unfold upTo
    omega
  induction d with
  | zero =>
    intro i h1 h2
    obtain rfl : i = xs.length := by omega
    have : upTo xs xs.length = printS xs := by unfold upTo; rw [List.take_length]
    rw [this]
    refine Ev.step (f := fun _ => some ⟨(printS xs).toArray⟩) (fun k => ?_) (Ev.now _)
    simp only [PScopeChecks.warrantref07_Print.l0]
    rw [if_neg (by omega)]
  | succ d ih =>
    intro i h1 h2
    have hi : i < xs.length := by omega
    have hx : xs[i]? = some xs[i] := by simp
    have hst := upTo_step xs i xs[i] hx
    have hb1 := hbound i h2
    have hsx := hs xs[i] (List.getElem_mem hi)
    have hb2 := hbound (i + 1) hi
    have next := ih (i + 1) (by omega) hi
    have hsz : ∀ l : List UInt8, (⟨l.toArray⟩ : ByteArray).size = l.length := fun l => by rw [← str_len]
    by_cases h0 : i = 0
    · refine Ev.step (fun k => ?_) next
      simp only [PScopeChecks.warrantref07_Print.l0]
      rw [if_pos (by omega), if_neg (by omega), if_pos (by omega), rd_get xs i hi, if_pos (by rw [hsz]; omega), wrap_in _ (by omega) (by omega)]
      have e : (⟨(upTo xs i).toArray⟩ : ByteArray) ++ xs[i] = ⟨(upTo xs (i + 1)).toArray⟩ := by
        rw [hst]; unfold sepT; rw [if_pos h0, List.append_nil]
        apply ba_inj; simp
      rw [e]
      rfl
    · refine Ev.step (fun k => ?_) next
      simp only [PScopeChecks.warrantref07_Print.l0]
      have hs1 : ((⟨(upTo xs i).toArray⟩ : ByteArray) ++ (⟨#[32]⟩ : ByteArray)).size = (upTo xs i).length + 1 := by rw [ByteArray.size_append, hsz]; rfl
      rw [if_pos (by omega), if_pos (by omega), if_pos (by rw [hsz]; omega), if_pos (by omega), rd_get xs i hi, if_pos (by rw [hs1]; omega), wrap_in _ (by omega) (by omega)]
      have e : (⟨(upTo xs i).toArray⟩ : ByteArray) ++ (⟨#[32]⟩ : ByteArray) ++ xs[i] = ⟨(upTo xs (i + 1)).toArray⟩ := by
        rw [hst]; unfold sepT; rw [if_neg h0]
        apply ba_inj; simp
      rw [e]
      rfl
theorem rprint_any (xs : List ByteArray) (v : Value) (w : World) (h : InS w v xs) (hn : xs.length ≤ 100) (hs : ∀ x ∈ xs, x.size ≤ 1000) :
    Calls Tryd.prog 28 #[v] w (TextPost (printS xs) w) := by
  obtain ⟨A, c, rfl, hc, hC⟩ := h
  have h := rprint_ev xs hn hs xs.length 0 (by omega) (by omega)
  have e : upTo xs 0 = [] := by unfold upTo; rw [List.take_zero, printS_nil]
  rw [e] at h
  obtain ⟨k, hk⟩ := h.rounds
  exact (PScopeChecks.warrantref07_Print.calls k A c xs _ w hC hc hk).mono (fun e w' hq => ⟨hq.1, hq.2.below⟩)
set_option maxHeartbeats 8000000 in
set_option maxRecDepth 20000 in
theorem checks_walk (va : Value) (xa : List ByteArray) (w : World) (ha : InS w va xa) (hg : ErrorType w) : Calls Tryd.prog 6 #[va] w (TruePost w) := by
  have HG := hid hg
  have hgl := hg.lt
  have IA := hid ha
  obtain ⟨A, ca, rfl, hca, hCA⟩ := ha
  have CA := hid hCA
  clear hCA hg
  go_enter Tryd.func6, Tryd.ntmps6
  go_wp2_with (go_at_call 7; refine (alive_any _).mono ?_; rintro e w1 ⟨rfl, hb⟩; have HB1 := hid hb; clear hb)
  refine (great_any xa A ca w1 (Kd.C_below CA.out HB1.out) hca).mono ?_
  rintro e w2 ⟨b, rfl, hgr, hd⟩
  have HB2 := hid (below_then HB1.out hd.below)
  have HGA := hid hgr
  clear hgr hd
  cases b with
  | true =>
    go_wp2_with fail
    go_ret
    exact TruePost.mk rfl HB2.out
  | false =>
    obtain ⟨hna, hsa⟩ := HGA.out rfl
    have HSA := hid hsa
    have HSM : Hid (∀ x ∈ xa, x.size ≤ 1048576) := hid (fun x hx => by have := hsa x hx; omega)
    have HSP : Hid (∀ x ∈ xa, x.size ≤ 100000) := hid (fun x hx => by have := hsa x hx; omega)
    obtain ⟨T, hT⟩ : ∃ T : ByteArray, strV (printS xa) = .string T := ⟨_, rfl⟩
    have HT := hid hT
    have q0 : (T.toList == T.toList) = true := by simp
    clear hsa hT
    go_wp2_with fail
    refine (check_any xa _ w2 (IA.out.below HB2.out) (by omega) HSM.out).mono ?_
    rintro e w3 ⟨er, g, rfl, he, hgd, hd⟩
    have HB3 := hid (below_then HB2.out hd)
    have HE3 := hid he
    clear hd
    go_wp2_with fail
    have HD3 := hid (HB3.out.trans ((Below.refl w3.heap.size w3).drew.mono HB3.out.size))
    rcases hgd with ⟨rfl, hgood⟩ | ⟨rfl, hbad⟩
    · obtain rfl : er = .nilIface := he
      have RC : Hid (∀ y, Below w.heap.size w y → Calls Tryd.prog 27 #[.slice A xa.length ca] y (BP true y)) := hid (fun y hy => (rcheck_any xa _ y (IA.out.below hy) HSM.out).mono (by
        rintro e z ⟨b, rfl, hb, hd⟩
        rw [hb.2 hgood]
        exact ⟨rfl, hd⟩))
      clear hgood
      go_quiet ((go_at_call 27; refine (RC.out _ (below_drewN' HB3.out _)).mono ?_; rintro e w' ⟨rfl, ⟨nd, rfl⟩⟩; exact ⟨rfl, _, World.drewN_drewN _ _ _⟩))
      obtain ⟨w4, hw4⟩ : ∃ z, w3.drewN nq = z := ⟨_, rfl⟩
      have HB4 : Hid (Below w.heap.size w w4) := hid (hw4 ▸ below_drewN' HB3.out nq)
      rw [hw4]
      clear hw4
      go_wp2_with fail
      refine (print_any xa _ w4 (IA.out.below HB4.out) (by omega) HSP.out).mono ?_
      rintro e w5 ⟨he, hd⟩
      rw [HT.out] at he
      subst he
      have HB5 := hid (below_then HB4.out hd)
      clear hd
      go_wp2_with fail
      refine (rprint_any xa _ w5 (IA.out.below HB5.out) hna HSA.out).mono ?_
      rintro e w6 ⟨he, hd⟩
      rw [HT.out] at he
      subst he
      have HB6 := hid (below_then HB5.out hd)
      clear hd
      go_wp2_with fail
      go_ret
      exact TruePost.mk (by simp) HB6.out
    · obtain rfl : er = .iface 41 (.int .i64 70) := he
      have RC : Hid (∀ y, Below w.heap.size w y → Calls Tryd.prog 27 #[.slice A xa.length ca] y (BB false y)) := hid (fun y hy => (rcheck_any xa _ y (IA.out.below hy) HSM.out).mono (by
        rintro e z ⟨b, rfl, hb, hd⟩
        have hbf : b = false := by
          cases b with
          | false => rfl
          | true => exact absurd (hb.1 rfl) hbad
        rw [hbf]
        exact ⟨rfl, hd.below⟩))
      clear hbad
      go_region_with (first
        | (go_at_call 27; refine (RC.out _ HD3.out).mono ?_; rintro e w4 ⟨rfl, hd⟩; have HB4 := hid (below_then HD3.out hd); clear hd)
        | (go_at_call 24; refine (num_any (.no 70) _ _ (HG.out.below HB4.out hgl) rfl).mono ?_; rintro e w5 ⟨rfl, hd⟩; have HB5 := hid (below_then HB4.out hd); clear hd))
      all_goals
        go_wp2_with fail
        refine (print_any xa _ w5 (IA.out.below HB5.out) (by omega) HSP.out).mono ?_
        rintro e w6 ⟨he, hd⟩
        rw [HT.out] at he
        subst he
        have HB6 := hid (below_then HB5.out hd)
        clear hd
        go_wp2_with fail
        refine (rprint_any xa _ w6 (IA.out.below HB6.out) hna HSA.out).mono ?_
        rintro e w7 ⟨he, hd⟩
        rw [HT.out] at he
        subst he
        have HB7 := hid (below_then HB6.out hd)
        clear hd
        go_wp2_with fail
        go_ret
        exact TruePost.mk (by simp) HB7.out
end Go.Proofs.YtomkdnapnjkclaaDoor.Sco

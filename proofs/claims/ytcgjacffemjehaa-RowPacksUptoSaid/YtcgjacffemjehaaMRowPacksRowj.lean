/-
  RowRk: this proof's parts in one text.
-/
import Derived.Test.YtcgjacffemjehaaMRowPacksRowi
import Derived.Test.YtcgjacffemjehaaMRowPacksRowb
namespace Go.Proofs.Ytcgjacffemjehaa
open Go.RowKit
open Go.Proofs.YtcgjacffemjehaaW.PrintWords (Kd rdOf)
open Go.Proofs.Ytcgjacffemjehaa.PRowPacks
set_option linter.unusedVariables false
/-- What a reader of a struct answers. -/
def RM {α : Type} (w0 : World) (g bb : Nat) (T : TypeId) (d : Kd α) (x : α) (l : List UInt8) (b : Bool) (w : World) (e : Ending) (w' : World) : Prop :=
  e = .returned (.tuple #[]) ∧ RS w0 g l b w' ∧ (∃ cs, AtB w' bb T cs.toArray ∧ d.M w' w.heap.size (fun _ => True) x cs) ∧ Mod (fun k => k = g ∨ k = bb) w w'
set_option maxHeartbeats 1000000 in
theorem texts_r {w0 w : World} {g bb : Nat} {T : TypeId} {cs : Array Value} {o : Nat} {l : List UInt8} {b : Bool} (h : RS w0 g l b w) (ha : AtB w bb T cs) (hne : bb ≠ g) (hge : w0.heap.size ≤ bb) (A0 : Option Addr) (n0 c0 : Nat) (hs : cs[o]? = some (.slice A0 n0 c0)) (hT : ∀ q, q ∈ 9 :: Kd.string.E → q ≠ T) :
    Calls Try.prog 43 #[.pointer (some ⟨g, 0, none⟩), .pointer (some ⟨bb, o, none⟩)] w (RL w0 g bb T cs o Kd.string 9 (listR textR l b).1 (listR textR l b).2.1 (listR textR l b).2.2 w) := by
  have HTT := hid hT
  clear hT
  go_enter Try.func43, Try.ntmps43
  go_wp2_with fail
  refine (listS_r h ha hne hge A0 n0 c0 hs HTT.out).mono ?_
  intro e w1 hq
  obtain ⟨rfl, h1, h2, h3⟩ := hq
  go_wp2
  go_end0
  exact ⟨rfl, h1, h2, h3⟩
theorem einfoPerm : (Try.prog.info? 51).map (fun i => (i.zero, i.size, i.bytes)) = some (some (.agg #[.string ⟨#[]⟩, .slice none 0 0]), 2, 40) := by kernel_rfl
theorem einfoKey : (Try.prog.info? 85).map (fun i => (i.zero, i.size, i.bytes)) = some (some (.agg #[.string ⟨#[]⟩, .string ⟨#[]⟩]), 2, 32) := by kernel_rfl
def permR (l : List UInt8) (b : Bool) : S51 × List UInt8 × Bool :=
  let r0 := textR l b
  let r1 := listR textR r0.2.1 r0.2.2
  (⟨r0.1, r1.1⟩, r1.2.1, r1.2.2)
set_option maxHeartbeats 8000000 in
set_option maxRecDepth 100000 in
theorem perm_r {w0 w : World} {g bb : Nat} {l : List UInt8} {b : Bool} (h : RS w0 g l b w) (ha : AtB w bb 51 #[.string ⟨#[]⟩, .slice none 0 0]) (hne : bb ≠ g) (hge : w0.heap.size ≤ bb) :
    Calls Try.prog 46 #[.pointer (some ⟨g, 0, none⟩), .pointer (some ⟨bb, 0, none⟩)] w (RM w0 g bb 51 k51 (permR l b).1 (permR l b).2.1 (permR l b).2.2 w) := by
  have hgw : g < w.heap.size := h.lt
  have hbw := lt_atB ha
  obtain ⟨⟨x0, l0, b0⟩, e0⟩ : ∃ z, textR l b = z := ⟨_, rfl⟩
  obtain ⟨⟨x1, l1, b1⟩, e1⟩ : ∃ z, listR textR l0 b0 = z := ⟨_, rfl⟩
  have hfin : permR l b = (⟨x0, x1⟩, l1, b1) := by simp only [permR, e0, e1]
  rw [hfin]
  have E0 := hid e0
  have E1 := hid e1
  have H0 := hid h
  have HA0 := hid ha
  have HM0 := hid (Mod.refl (fun x => x = g ∨ x = bb) w)
  clear h ha hfin e0 e1
  go_enter Try.func46, Try.ntmps46
  have hc := text_r (o := 0) H0.out HA0.out hne hge ⟨#[]⟩ rfl
  rw [E0.out] at hc
  go_wp2_with fail
  refine hc.mono ?_
  clear hc
  intro e w1 hq
  obtain ⟨rfl, h, ha, hm⟩ := hq
  have ha2 : AtB w1 bb 51 #[.string x0, .slice none 0 0] := ha
  have H1 := hid h
  have HA1 := hid ha2
  have HM1 := hid (HM0.out.trans hm (fun _ e => .inl e))
  clear h ha ha2 hm
  have hc := texts_r (o := 1) H1.out HA1.out hne hge none 0 0 rfl (by intro q hq; have hq' : q ∈ ([9] : List Nat) := hq; rw [List.mem_singleton] at hq'; subst hq'; decide)
  rw [E1.out] at hc
  go_wp2_with fail
  refine hc.mono ?_
  clear hc
  intro e w2 hq
  obtain ⟨rfl, h, ⟨v1, ha, hr⟩, hm⟩ := hq
  have G1_2 := hid (Kd.R_lower hr HM1.out.size)
  clear hr
  have ha2 : AtB w2 bb 51 #[.string x0, v1] := ha
  have H2 := hid h
  have HA2 := hid ha2
  have HM2 := hid (HM1.out.trans hm (fun _ e => .inl e))
  clear h ha ha2 hm
  go_wp2
  go_end0
  exact ⟨rfl, H2.out, ⟨[.string x0, v1], HA2.out, k51_mkM _ _ _ ⟨x0, x1⟩ G1_2.out⟩, HM2.out⟩
def keyR (l : List UInt8) (b : Bool) : S85 × List UInt8 × Bool :=
  let r0 := textR l b
  let r1 := textR r0.2.1 r0.2.2
  (⟨r0.1, r1.1⟩, r1.2.1, r1.2.2)
set_option maxHeartbeats 8000000 in
set_option maxRecDepth 100000 in
theorem key_r {w0 w : World} {g bb : Nat} {l : List UInt8} {b : Bool} (h : RS w0 g l b w) (ha : AtB w bb 85 #[.string ⟨#[]⟩, .string ⟨#[]⟩]) (hne : bb ≠ g) (hge : w0.heap.size ≤ bb) :
    Calls Try.prog 48 #[.pointer (some ⟨g, 0, none⟩), .pointer (some ⟨bb, 0, none⟩)] w (RM w0 g bb 85 k85 (keyR l b).1 (keyR l b).2.1 (keyR l b).2.2 w) := by
  have hgw : g < w.heap.size := h.lt
  have hbw := lt_atB ha
  obtain ⟨⟨x0, l0, b0⟩, e0⟩ : ∃ z, textR l b = z := ⟨_, rfl⟩
  obtain ⟨⟨x1, l1, b1⟩, e1⟩ : ∃ z, textR l0 b0 = z := ⟨_, rfl⟩
  have hfin : keyR l b = (⟨x0, x1⟩, l1, b1) := by simp only [keyR, e0, e1]
  rw [hfin]
  have E0 := hid e0
  have E1 := hid e1
  have H0 := hid h
  have HA0 := hid ha
  have HM0 := hid (Mod.refl (fun x => x = g ∨ x = bb) w)
  clear h ha hfin e0 e1
  go_enter Try.func48, Try.ntmps48
  have hc := text_r (o := 0) H0.out HA0.out hne hge ⟨#[]⟩ rfl
  rw [E0.out] at hc
  go_wp2_with fail
  refine hc.mono ?_
  clear hc
  intro e w1 hq
  obtain ⟨rfl, h, ha, hm⟩ := hq
  have ha2 : AtB w1 bb 85 #[.string x0, .string ⟨#[]⟩] := ha
  have H1 := hid h
  have HA1 := hid ha2
  have HM1 := hid (HM0.out.trans hm (fun _ e => .inl e))
  clear h ha ha2 hm
  have hc := text_r (o := 1) H1.out HA1.out hne hge ⟨#[]⟩ rfl
  rw [E1.out] at hc
  go_wp2_with fail
  refine hc.mono ?_
  clear hc
  intro e w2 hq
  obtain ⟨rfl, h, ha, hm⟩ := hq
  have ha2 : AtB w2 bb 85 #[.string x0, .string x1] := ha
  have H2 := hid h
  have HA2 := hid ha2
  have HM2 := hid (HM1.out.trans hm (fun _ e => .inl e))
  clear h ha ha2 hm
  go_wp2
  go_end0
  exact ⟨rfl, H2.out, ⟨[.string x0, .string x1], HA2.out, k85_mkM _ _ _ ⟨x0, x1⟩ ⟩, HM2.out⟩
set_option maxHeartbeats 8000000 in
set_option maxRecDepth 100000 in
theorem listP_r {w0 w : World} {g bb : Nat} {T : TypeId} {cs : Array Value} {o : Nat} {l : List UInt8} {b : Bool} (h : RS w0 g l b w) (ha : AtB w bb T cs) (hne : bb ≠ g) (hge : w0.heap.size ≤ bb) (A0 : Option Addr) (n0 c0 : Nat) (hs : cs[o]? = some (.slice A0 n0 c0)) (hT : ∀ q, q ∈ 51 :: k51.E → q ≠ T) :
    Calls Try.prog 45 #[.pointer (some ⟨g, 0, none⟩), .pointer (some ⟨bb, o, none⟩), .func (.func 46) #[] #[]] w (RL w0 g bb T cs o k51 51 (listR permR l b).1 (listR permR l b).2.1 (listR permR l b).2.2 w) := by
  have hp := (ha.cell o).trans hs
  have hoS : o < cs.size := by
    rcases Nat.lt_or_ge o cs.size with h | h
    · exact h
    · rw [Array.getElem?_eq_none h] at hs; cases hs
  obtain ⟨F, hF⟩ : ∃ F, listR permR l b = F := ⟨_, rfl⟩
  unfold listR at hF
  rw [show listR permR l b = F from hF]
  obtain ⟨⟨n, l1, b1⟩, hz⟩ : ∃ z, sizeR l b = z := ⟨_, rfl⟩
  have hsz := size_r h n0
  rw [hz] at hsz hF
  have hnl : n ≤ 1099511627776 := by
    cases b1 with
    | true => have := sizeR_bad hz; omega
    | false => have h1 := sizeR_ok hz; have h2 := sizeR_le l b; rw [hz] at h2; have := h.small; simp only at h2; omega
  have HF := hid hF
  have HSZ := hid hsz
  have HA := hid ha
  have HS := hid hs
  have H := hid h
  have hbw := lt_atB ha
  have HTT := hid hT
  clear hT h ha hs hsz hz hF
  go_enter Try.func45, Try.ntmps45
  go_wp2_with (go_at_call 49; refine HSZ.out.mono ?_; intro e w1 hq; obtain ⟨rfl, h1, hm1⟩ := hq; have ha1 := HA.out.mod hm1 hne; have HA1 := hid ha1; have H1 := hid h1; have HM1 := hid hm1; have hp1 := (ha1.cell o).trans HS.out; have hf1 := ha1.free o; obtain ⟨v2, _, _, c1, c2, _, _⟩ := h1.cells; clear h1 ha1 hm1)
  go_loopw [7] (fun i wr => ∃ (k : Nat) (acc : List S51) (l2 : List UInt8) (b2 : Bool) (v : Value), i = .int .i64 k ∧ k ≤ n ∧ acc.length = k ∧ Hid (listLoop permR (n - k) acc l2 b2 = F) ∧ RS w0 g l2 b2 wr ∧ AtB wr bb T (cs.setIfInBounds o v) ∧ k51.R 51 wr w.heap.size (fun _ => True) v acc ∧ Mod (fun x => x = g ∨ x = bb) w wr) (fun i _ => n - (intOf i).toNat)
  case atStart =>
    refine ⟨0, [], l1, b1, .slice none 0 0, rfl, by omega, rfl, by simpa using HF, H1.out.mod ((Mod.refl (fun x => x = bb) w1).setCell _ _ (.inl rfl)) (fun k e => by subst e; exact ⟨hge, hne⟩), HA1.out.set o _, Kd.R_nil _ _ _ _ _, ((HM1.out.mono (fun _ _ e => .inl e)).setCell _ _ (.inl (.inr rfl)))⟩
  case round =>
    obtain ⟨k, acc, l2, b2, v, rfl, hk, hacc, hloop, h2, ha2, hr2, hm2⟩ := hrel
    have hp2 : wr.cell? ⟨bb, o, none⟩ = some v := (ha2.cell o).trans (by simp [hoS])
    have hf2 := ha2.free o
    obtain ⟨v2, _, d0, d1, d2, _, _⟩ := h2.cells
    have hown : ∀ j, v.ownBlock = some j → j < wr.heap.size := fun j e => (Kd.R_bound hr2).1 j e |>.2.2.1
    have HOW := hid hown
    have H2 := hid h2
    have HA2 := hid ha2
    have HR2 := hid hr2
    have HM2 := hid hm2
    have hgl := h2.lt
    have hw2 := hm2.size
    clear h2 ha2 hr2 hm2 hown
    by_cases hkn : k < n
    · have t0 : decide (k < n) = true := decide_eq_true hkn
      cases b2 with
      | true =>
        go_wp2
        go_end0
        have h9 := hloop.out
        rw [listLoop_bad] at h9
        rw [← h9]
        exact ⟨rfl, H2.out, ⟨v, HA2.out, HR2.out⟩, HM2.out⟩
      | false =>
        have hx1 := H2.out.mod (Mod.alloc (Mod.refl (fun _ => False) _) (.cells #[.string ⟨#[]⟩, .slice none 0 0] 51)) (fun k e => e.elim)
        have hx2 : AtB (wr.alloc (.cells #[.string ⟨#[]⟩, .slice none 0 0] 51)) wr.heap.size 51 #[.string ⟨#[]⟩, .slice none 0 0] := heap_alloc_new wr _
        have HX1 := hid hx1
        have HX2 := hid hx2
        clear hx1 hx2
        obtain ⟨y, hs⟩ : ∃ y, (permR l2 false).1 = y := ⟨_, rfl⟩
        obtain ⟨l3, hl3⟩ : ∃ l3, (permR l2 false).2.1 = l3 := ⟨_, rfl⟩
        obtain ⟨b3, hb3⟩ : ∃ b3, (permR l2 false).2.2 = b3 := ⟨_, rfl⟩
        have hword := perm_r (g := g) HX1.out HX2.out (by omega) (by have := H2.out.base; omega)
        rw [hs, hl3, hb3] at hword
        have HW := hid hword
        have HLS := hid hs
        have HL3 := hid hl3
        have HB3 := hid hb3
        have hgw : g < w.heap.size := H.out.lt
        clear hword hs hl3 hb3
        go_wp2_with (go_at_call 46; refine HW.out.mono ?_; intro e w2 hq; obtain ⟨rfl, h3, ⟨cs3, ha3, hM⟩, hm3⟩ := hq; rw [World.size_alloc] at hM; obtain ⟨v6, rfl, g6⟩ := k51_openM hM; obtain ⟨A6, m6, c6, rfl⟩ := r_form g6; have HMM := hid hM; have hm4 : Mod (fun x => x = g ∨ x = wr.heap.size) wr w2 := (Mod.alloc (Mod.refl (fun x => x = g ∨ x = wr.heap.size) wr) _).trans hm3 (fun _ e => .inl e); have H3 := hid h3; have ha4 := HA2.out.mod hm4 (by omega); have HA4 := hid ha4; have hp3 : w2.cell? ⟨bb, o, none⟩ = some v := (ha4.cell o).trans (by simp [hoS]); have hf3 := ha4.free o; have hx3 : w2.cell? ⟨wr.heap.size, 0, none⟩ = some (.string y.f0) := ha3.cell 0; have hx4 : w2.cell? ⟨wr.heap.size, 1, none⟩ = some (Value.slice A6 m6 c6) := ha3.cell 1; have HR3 := hid (r_mod HR2.out hm4 (fun x e => by omega)); have HM3 := hid (HM2.out.trans hm4 (fun x e => by omega)); have hn1 : ∀ q, (w2.alloc q).cell? ⟨bb, o, none⟩ = some v := (fun q => (World.cell?_alloc_lt w2 q ⟨bb, o, none⟩ (lt_of_cell hp3)).trans hp3); have hn2 : ∀ q, (w2.alloc q).cell? ⟨wr.heap.size, 0, none⟩ = some (.string y.f0) := (fun q => (World.cell?_alloc_lt w2 q ⟨wr.heap.size, 0, none⟩ (lt_of_cell hx3)).trans hx3); have hn3 : ∀ q, (w2.alloc q).cell? ⟨wr.heap.size, 1, none⟩ = some (Value.slice A6 m6 c6) := (fun q => (World.cell?_alloc_lt w2 q ⟨wr.heap.size, 1, none⟩ (lt_of_cell hx4)).trans hx4); have hw3 := hm4.size; clear h3 ha3 hm3 hm4 ha4 hM)
        have hMA : k51.M w2.drew (wr.heap.size + 1) (fun _ => True) y [.string y.f0, .slice A6 m6 c6] := HMM.out
        have hMB := k51.M_bound (w := w2.drew) (base := wr.heap.size + 1) (ok := fun _ => True) (x := y) (cs := [.string y.f0, .slice A6 m6 c6]) hMA
        have hMC := k51.M_mono (w := w2.drew) (base := wr.heap.size + 1) (ok' := fun j => wr.heap.size ≤ j) (x := y) (cs := [.string y.f0, .slice A6 m6 c6]) (fun j hj => by have := hj.2.1; omega) hMB
        have hMK := k51.M_lower (w := w2.drew) (base := wr.heap.size + 1) (base' := w.heap.size) (ok := fun j => wr.heap.size ≤ j) (x := y) (cs := [.string y.f0, .slice A6 m6 c6]) (by omega) hMC
        clear hMA hMB hMC
        have HMK := hid hMK
        clear hMK
        go_region_law (refine Kd.R_append_step (w0 := w2.drew) (W := w2.drew) k51 w.heap.size (by simp [Region.wanted]) (.tmp 43) (.tmp 45) 31 51 (.agg #[.string ⟨#[]⟩, .slice none 0 0]) 40 (by rfl) Try.underlying31 einfoPerm (by rfl) (by decide) (by decide) v acc y [.string y.f0, .slice A6 m6 c6] (fun _ => True) (fun j => wr.heap.size ≤ j) (by rfl) (by rfl) HMK.out (fun j e => ⟨trivial, fun e2 => by have := HOW.out j e2.symm; omega⟩) (fun _ _ => trivial) HR3.out (Below.refl _ _) (by show w.heap.size ≤ w2.heap.size; omega) (by rw [hacc]; omega) ?_; intro v' w3 hr4 _ hg4 _; obtain ⟨A5, m5, c5, rfl⟩ := r_form hr4; have hne5 := Kd.R_ne HR3.out HA4.out (HTT.out _ List.mem_cons_self); have ha5 : AtB w3 bb T (cs.setIfInBounds o v) := (hg4.block bb (lt_atB HA4.out) hne5).trans HA4.out; have hf5 := ha5.free o; have hp5 : w3.cell? ⟨bb, o, none⟩ = some v := (ha5.cell o).trans (by simp [hoS]); have HR5 := hid hr4; have HA5 := hid ha5; have HG5 := hid hg4; clear hr4 ha5 hg4)
        all_goals
          have hm5 := app_mod HR3.out HG5.out
          have hS := fun x (e : v.ownBlock = some x) => r_base HR3.out e
          go_wp2
          go_roundw
          case rel =>
            refine ⟨k + 1, acc ++ [y], l3, b3, .slice A5 m5 c5, by go_num, by omega, by rw [List.length_append, hacc]; rfl, ?_, ?_, ?_, ?_, ?_⟩
            · have h9 := hloop.out
              rw [show n - k = (n - (k + 1)) + 1 by omega, listLoop, if_neg (by simp), HLS.out, HL3.out, HB3.out] at h9
              exact hid h9
            · exact (H3.out.mod hm5 (fun x e => by have := hS x e; have := H.out.base; omega)).mod ((Mod.refl (fun x => x = bb) w3).setCell _ _ (.inl rfl)) (fun x e => by subst e; exact ⟨hge, hne⟩)
            · have h9 := HA5.out.set o (.slice A5 m5 c5)
              rw [set_set] at h9
              exact h9
            · exact Kd.R_set HR5.out HA5.out HTT.out o _
            · exact (HM3.out.trans hm5 (fun x e => .inr (hS x e))).setCell _ _ (.inl (.inr rfl))
          case measure => simp [intOf]; omega
    · have t0 : decide (k < n) = false := decide_eq_false hkn
      obtain rfl : k = n := by omega
      go_wp2
      go_end0
      have h9 := hloop.out
      rw [Nat.sub_self] at h9
      rw [← h9]
      exact ⟨rfl, H2.out, ⟨v, HA2.out, HR2.out⟩, HM2.out⟩
set_option maxHeartbeats 8000000 in
set_option maxRecDepth 100000 in
theorem listK_r {w0 w : World} {g bb : Nat} {T : TypeId} {cs : Array Value} {o : Nat} {l : List UInt8} {b : Bool} (h : RS w0 g l b w) (ha : AtB w bb T cs) (hne : bb ≠ g) (hge : w0.heap.size ≤ bb) (A0 : Option Addr) (n0 c0 : Nat) (hs : cs[o]? = some (.slice A0 n0 c0)) (hT : ∀ q, q ∈ 85 :: k85.E → q ≠ T) :
    Calls Try.prog 47 #[.pointer (some ⟨g, 0, none⟩), .pointer (some ⟨bb, o, none⟩), .func (.func 48) #[] #[]] w (RL w0 g bb T cs o k85 85 (listR keyR l b).1 (listR keyR l b).2.1 (listR keyR l b).2.2 w) := by
  have hp := (ha.cell o).trans hs
  have hoS : o < cs.size := by
    rcases Nat.lt_or_ge o cs.size with h | h
    · exact h
    · rw [Array.getElem?_eq_none h] at hs; cases hs
  obtain ⟨F, hF⟩ : ∃ F, listR keyR l b = F := ⟨_, rfl⟩
  unfold listR at hF
  rw [show listR keyR l b = F from hF]
  obtain ⟨⟨n, l1, b1⟩, hz⟩ : ∃ z, sizeR l b = z := ⟨_, rfl⟩
  have hsz := size_r h n0
  rw [hz] at hsz hF
  have hnl : n ≤ 1099511627776 := by
    cases b1 with
    | true => have := sizeR_bad hz; omega
    | false => have h1 := sizeR_ok hz; have h2 := sizeR_le l b; rw [hz] at h2; have := h.small; simp only at h2; omega
  have HF := hid hF
  have HSZ := hid hsz
  have HA := hid ha
  have HS := hid hs
  have H := hid h
  have hbw := lt_atB ha
  have HTT := hid hT
  clear hT h ha hs hsz hz hF
  go_enter Try.func47, Try.ntmps47
  go_wp2_with (go_at_call 49; refine HSZ.out.mono ?_; intro e w1 hq; obtain ⟨rfl, h1, hm1⟩ := hq; have ha1 := HA.out.mod hm1 hne; have HA1 := hid ha1; have H1 := hid h1; have HM1 := hid hm1; have hp1 := (ha1.cell o).trans HS.out; have hf1 := ha1.free o; obtain ⟨v2, _, _, c1, c2, _, _⟩ := h1.cells; clear h1 ha1 hm1)
  go_loopw [7] (fun i wr => ∃ (k : Nat) (acc : List S85) (l2 : List UInt8) (b2 : Bool) (v : Value), i = .int .i64 k ∧ k ≤ n ∧ acc.length = k ∧ Hid (listLoop keyR (n - k) acc l2 b2 = F) ∧ RS w0 g l2 b2 wr ∧ AtB wr bb T (cs.setIfInBounds o v) ∧ k85.R 85 wr w.heap.size (fun _ => True) v acc ∧ Mod (fun x => x = g ∨ x = bb) w wr) (fun i _ => n - (intOf i).toNat)
  case atStart =>
    refine ⟨0, [], l1, b1, .slice none 0 0, rfl, by omega, rfl, by simpa using HF, H1.out.mod ((Mod.refl (fun x => x = bb) w1).setCell _ _ (.inl rfl)) (fun k e => by subst e; exact ⟨hge, hne⟩), HA1.out.set o _, Kd.R_nil _ _ _ _ _, ((HM1.out.mono (fun _ _ e => .inl e)).setCell _ _ (.inl (.inr rfl)))⟩
  case round =>
    obtain ⟨k, acc, l2, b2, v, rfl, hk, hacc, hloop, h2, ha2, hr2, hm2⟩ := hrel
    have hp2 : wr.cell? ⟨bb, o, none⟩ = some v := (ha2.cell o).trans (by simp [hoS])
    have hf2 := ha2.free o
    obtain ⟨v2, _, d0, d1, d2, _, _⟩ := h2.cells
    have hown : ∀ j, v.ownBlock = some j → j < wr.heap.size := fun j e => (Kd.R_bound hr2).1 j e |>.2.2.1
    have HOW := hid hown
    have H2 := hid h2
    have HA2 := hid ha2
    have HR2 := hid hr2
    have HM2 := hid hm2
    have hgl := h2.lt
    have hw2 := hm2.size
    clear h2 ha2 hr2 hm2 hown
    by_cases hkn : k < n
    · have t0 : decide (k < n) = true := decide_eq_true hkn
      cases b2 with
      | true =>
        go_wp2
        go_end0
        have h9 := hloop.out
        rw [listLoop_bad] at h9
        rw [← h9]
        exact ⟨rfl, H2.out, ⟨v, HA2.out, HR2.out⟩, HM2.out⟩
      | false =>
        have hx1 := H2.out.mod (Mod.alloc (Mod.refl (fun _ => False) _) (.cells #[.string ⟨#[]⟩, .string ⟨#[]⟩] 85)) (fun k e => e.elim)
        have hx2 : AtB (wr.alloc (.cells #[.string ⟨#[]⟩, .string ⟨#[]⟩] 85)) wr.heap.size 85 #[.string ⟨#[]⟩, .string ⟨#[]⟩] := heap_alloc_new wr _
        have HX1 := hid hx1
        have HX2 := hid hx2
        clear hx1 hx2
        obtain ⟨y, hs⟩ : ∃ y, (keyR l2 false).1 = y := ⟨_, rfl⟩
        obtain ⟨l3, hl3⟩ : ∃ l3, (keyR l2 false).2.1 = l3 := ⟨_, rfl⟩
        obtain ⟨b3, hb3⟩ : ∃ b3, (keyR l2 false).2.2 = b3 := ⟨_, rfl⟩
        have hword := key_r (g := g) HX1.out HX2.out (by omega) (by have := H2.out.base; omega)
        rw [hs, hl3, hb3] at hword
        have HW := hid hword
        have HLS := hid hs
        have HL3 := hid hl3
        have HB3 := hid hb3
        have hgw : g < w.heap.size := H.out.lt
        clear hword hs hl3 hb3
        go_wp2_with (go_at_call 48; refine HW.out.mono ?_; intro e w2 hq; obtain ⟨rfl, h3, ⟨cs3, ha3, hM⟩, hm3⟩ := hq; rw [World.size_alloc] at hM; obtain rfl := k85_openM hM; have HMM := hid hM; have hm4 : Mod (fun x => x = g ∨ x = wr.heap.size) wr w2 := (Mod.alloc (Mod.refl (fun x => x = g ∨ x = wr.heap.size) wr) _).trans hm3 (fun _ e => .inl e); have H3 := hid h3; have ha4 := HA2.out.mod hm4 (by omega); have HA4 := hid ha4; have hp3 : w2.cell? ⟨bb, o, none⟩ = some v := (ha4.cell o).trans (by simp [hoS]); have hf3 := ha4.free o; have hx3 : w2.cell? ⟨wr.heap.size, 0, none⟩ = some (.string y.f0) := ha3.cell 0; have hx4 : w2.cell? ⟨wr.heap.size, 1, none⟩ = some (Value.string y.f1) := ha3.cell 1; have HR3 := hid (r_mod HR2.out hm4 (fun x e => by omega)); have HM3 := hid (HM2.out.trans hm4 (fun x e => by omega)); have hn1 : ∀ q, (w2.alloc q).cell? ⟨bb, o, none⟩ = some v := (fun q => (World.cell?_alloc_lt w2 q ⟨bb, o, none⟩ (lt_of_cell hp3)).trans hp3); have hn2 : ∀ q, (w2.alloc q).cell? ⟨wr.heap.size, 0, none⟩ = some (.string y.f0) := (fun q => (World.cell?_alloc_lt w2 q ⟨wr.heap.size, 0, none⟩ (lt_of_cell hx3)).trans hx3); have hn3 : ∀ q, (w2.alloc q).cell? ⟨wr.heap.size, 1, none⟩ = some (Value.string y.f1) := (fun q => (World.cell?_alloc_lt w2 q ⟨wr.heap.size, 1, none⟩ (lt_of_cell hx4)).trans hx4); have hw3 := hm4.size; clear h3 ha3 hm3 hm4 ha4 hM)
        have hMA : k85.M w2.drew (wr.heap.size + 1) (fun _ => True) y [.string y.f0, .string y.f1] := HMM.out
        have hMB := k85.M_bound (w := w2.drew) (base := wr.heap.size + 1) (ok := fun _ => True) (x := y) (cs := [.string y.f0, .string y.f1]) hMA
        have hMC := k85.M_mono (w := w2.drew) (base := wr.heap.size + 1) (ok' := fun j => wr.heap.size ≤ j) (x := y) (cs := [.string y.f0, .string y.f1]) (fun j hj => by have := hj.2.1; omega) hMB
        have hMK := k85.M_lower (w := w2.drew) (base := wr.heap.size + 1) (base' := w.heap.size) (ok := fun j => wr.heap.size ≤ j) (x := y) (cs := [.string y.f0, .string y.f1]) (by omega) hMC
        clear hMA hMB hMC
        have HMK := hid hMK
        clear hMK
        go_region_law (refine Kd.R_append_step (w0 := w2.drew) (W := w2.drew) k85 w.heap.size (by simp [Region.wanted]) (.tmp 43) (.tmp 45) 38 85 (.agg #[.string ⟨#[]⟩, .string ⟨#[]⟩]) 32 (by rfl) Try.underlying38 einfoKey (by rfl) (by decide) (by decide) v acc y [.string y.f0, .string y.f1] (fun _ => True) (fun j => wr.heap.size ≤ j) (by rfl) (by rfl) HMK.out (fun j e => ⟨trivial, fun e2 => by have := HOW.out j e2.symm; omega⟩) (fun _ _ => trivial) HR3.out (Below.refl _ _) (by show w.heap.size ≤ w2.heap.size; omega) (by rw [hacc]; omega) ?_; intro v' w3 hr4 _ hg4 _; obtain ⟨A5, m5, c5, rfl⟩ := r_form hr4; have hne5 := Kd.R_ne HR3.out HA4.out (HTT.out _ List.mem_cons_self); have ha5 : AtB w3 bb T (cs.setIfInBounds o v) := (hg4.block bb (lt_atB HA4.out) hne5).trans HA4.out; have hf5 := ha5.free o; have hp5 : w3.cell? ⟨bb, o, none⟩ = some v := (ha5.cell o).trans (by simp [hoS]); have HR5 := hid hr4; have HA5 := hid ha5; have HG5 := hid hg4; clear hr4 ha5 hg4)
        all_goals
          have hm5 := app_mod HR3.out HG5.out
          have hS := fun x (e : v.ownBlock = some x) => r_base HR3.out e
          go_wp2
          go_roundw
          case rel =>
            refine ⟨k + 1, acc ++ [y], l3, b3, .slice A5 m5 c5, by go_num, by omega, by rw [List.length_append, hacc]; rfl, ?_, ?_, ?_, ?_, ?_⟩
            · have h9 := hloop.out
              rw [show n - k = (n - (k + 1)) + 1 by omega, listLoop, if_neg (by simp), HLS.out, HL3.out, HB3.out] at h9
              exact hid h9
            · exact (H3.out.mod hm5 (fun x e => by have := hS x e; have := H.out.base; omega)).mod ((Mod.refl (fun x => x = bb) w3).setCell _ _ (.inl rfl)) (fun x e => by subst e; exact ⟨hge, hne⟩)
            · have h9 := HA5.out.set o (.slice A5 m5 c5)
              rw [set_set] at h9
              exact h9
            · exact Kd.R_set HR5.out HA5.out HTT.out o _
            · exact (HM3.out.trans hm5 (fun x e => .inr (hS x e))).setCell _ _ (.inl (.inr rfl))
          case measure => simp [intOf]; omega
    · have t0 : decide (k < n) = false := decide_eq_false hkn
      obtain rfl : k = n := by omega
      go_wp2
      go_end0
      have h9 := hloop.out
      rw [Nat.sub_self] at h9
      rw [← h9]
      exact ⟨rfl, H2.out, ⟨v, HA2.out, HR2.out⟩, HM2.out⟩
set_option maxHeartbeats 1000000 in
theorem keys_r {w0 w : World} {g bb : Nat} {T : TypeId} {cs : Array Value} {o : Nat} {l : List UInt8} {b : Bool} (h : RS w0 g l b w) (ha : AtB w bb T cs) (hne : bb ≠ g) (hge : w0.heap.size ≤ bb) (A0 : Option Addr) (n0 c0 : Nat) (hs : cs[o]? = some (.slice A0 n0 c0)) (hT : ∀ q, q ∈ 85 :: k85.E → q ≠ T) :
    Calls Try.prog 39 #[.pointer (some ⟨g, 0, none⟩), .pointer (some ⟨bb, o, none⟩)] w (RL w0 g bb T cs o k85 85 (listR keyR l b).1 (listR keyR l b).2.1 (listR keyR l b).2.2 w) := by
  have HTT := hid hT
  clear hT
  go_enter Try.func39, Try.ntmps39
  go_wp2_with fail
  refine (listK_r h ha hne hge A0 n0 c0 hs HTT.out).mono ?_
  intro e w1 hq
  obtain ⟨rfl, h1, h2, h3⟩ := hq
  go_wp2
  go_end0
  exact ⟨rfl, h1, h2, h3⟩
end Go.Proofs.Ytcgjacffemjehaa

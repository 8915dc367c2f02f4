/-
  RowRt, RowU0, RowURefresh, RowAlive, RowPacksCore: this proof's parts in one text.
-/
import Derived.Test.YtcgjacffemjehaaMRowPacksRowj
import Derived.Test.YtcgjacffemjehaaMRowPacksRowd
import Derived.Test.YtcgjacffemjehaaMRowPacksRowi
import Derived.Laws.Rows
import Derived.Deep.WholeRow
import Derived.Deep.MidRow
import Derived.Deep.RegionHeld3
namespace Go.Proofs.Ytcgjacffemjehaa
open Go.RowKit
open Go.Proofs.YtcgjacffemjehaaW.PrintWords (Kd rdOf)
open Go.Proofs.Ytcgjacffemjehaa.PRowPacks
set_option linter.unusedVariables false
def consentR (l : List UInt8) (b : Bool) : S24 × List UInt8 × Bool :=
  let r0 := textR l b
  let r1 := textR r0.2.1 r0.2.2
  let r2 := listR textR r1.2.1 r1.2.2
  (⟨r0.1, r1.1, r2.1⟩, r2.2.1, r2.2.2)
set_option maxHeartbeats 8000000 in
set_option maxRecDepth 100000 in
theorem consent_r {w0 w : World} {g bb : Nat} {l : List UInt8} {b : Bool} (h : RS w0 g l b w) (ha : AtB w bb 24 #[.string ⟨#[]⟩, .string ⟨#[]⟩, .slice none 0 0]) (hne : bb ≠ g) (hge : w0.heap.size ≤ bb) :
    Calls Try.prog 27 #[.pointer (some ⟨g, 0, none⟩), .pointer (some ⟨bb, 0, none⟩)] w (RM w0 g bb 24 k24 (consentR l b).1 (consentR l b).2.1 (consentR l b).2.2 w) := by
  have hgw : g < w.heap.size := h.lt
  have hbw := lt_atB ha
  obtain ⟨⟨x0, l0, b0⟩, e0⟩ : ∃ z, textR l b = z := ⟨_, rfl⟩
  obtain ⟨⟨x1, l1, b1⟩, e1⟩ : ∃ z, textR l0 b0 = z := ⟨_, rfl⟩
  obtain ⟨⟨x2, l2, b2⟩, e2⟩ : ∃ z, listR textR l1 b1 = z := ⟨_, rfl⟩
  have hfin : consentR l b = (⟨x0, x1, x2⟩, l2, b2) := by simp only [consentR, e0, e1, e2]
  rw [hfin]
  have E0 := hid e0
  have E1 := hid e1
  have E2 := hid e2
  have H0 := hid h
  have HA0 := hid ha
  have HM0 := hid (Mod.refl (fun x => x = g ∨ x = bb) w)
  clear h ha hfin e0 e1 e2
  go_enter Try.func27, Try.ntmps27
  have hc := text_r (o := 0) H0.out HA0.out hne hge ⟨#[]⟩ rfl
  rw [E0.out] at hc
  go_wp2_with fail
  refine hc.mono ?_
  clear hc
  intro e w1 hq
  obtain ⟨rfl, h, ha, hm⟩ := hq
  have ha2 : AtB w1 bb 24 #[.string x0, .string ⟨#[]⟩, .slice none 0 0] := ha
  have H1 := hid h
  have HA1 := hid ha2
  have HM1 := hid (HM0.out.trans hm (fun _ e => .inl e))
  clear h ha ha2 hm
  have hc := text_r (o := 1) H1.out HA1.out hne hge ⟨#[]⟩ rfl
  rw [E1.out] at hc
  go_wp2_with fail
  refine hc.mono ?_
  clear hc
  intro e w2 hq
  obtain ⟨rfl, h, ha, hm⟩ := hq
  have ha2 : AtB w2 bb 24 #[.string x0, .string x1, .slice none 0 0] := ha
  have H2 := hid h
  have HA2 := hid ha2
  have HM2 := hid (HM1.out.trans hm (fun _ e => .inl e))
  clear h ha ha2 hm
  have hc := texts_r (o := 2) H2.out HA2.out hne hge none 0 0 rfl (by intro q hq; have hq' : q ∈ ([9] : List Nat) := hq; rw [List.mem_singleton] at hq'; subst hq'; decide)
  rw [E2.out] at hc
  go_wp2_with fail
  refine hc.mono ?_
  clear hc
  intro e w3 hq
  obtain ⟨rfl, h, ⟨v2, ha, hr⟩, hm⟩ := hq
  have G2_3 := hid (Kd.R_lower hr HM2.out.size)
  clear hr
  have ha2 : AtB w3 bb 24 #[.string x0, .string x1, v2] := ha
  have H3 := hid h
  have HA3 := hid ha2
  have HM3 := hid (HM2.out.trans hm (fun _ e => .inl e))
  clear h ha ha2 hm
  go_wp2
  go_end0
  exact ⟨rfl, H3.out, ⟨[.string x0, .string x1, v2], HA3.out, k24_mkM _ _ _ ⟨x0, x1, x2⟩ G2_3.out⟩, HM3.out⟩
def codeR (l : List UInt8) (b : Bool) : S26 × List UInt8 × Bool :=
  let r0 := textR l b
  let r1 := textR r0.2.1 r0.2.2
  let r2 := textR r1.2.1 r1.2.2
  let r3 := textR r2.2.1 r2.2.2
  let r4 := listR textR r3.2.1 r3.2.2
  let r5 := textR r4.2.1 r4.2.2
  let r6 := truthR r5.2.1 r5.2.2
  let r7 := truthR r6.2.1 r6.2.2
  let r8 := numR r7.2.1 r7.2.2
  (⟨r0.1, r1.1, r2.1, r3.1, r4.1, r5.1, r6.1, r7.1, r8.1⟩, r8.2.1, r8.2.2)
set_option maxHeartbeats 8000000 in
set_option maxRecDepth 100000 in
theorem code_r {w0 w : World} {g bb : Nat} {l : List UInt8} {b : Bool} (h : RS w0 g l b w) (ha : AtB w bb 26 #[.string ⟨#[]⟩, .string ⟨#[]⟩, .string ⟨#[]⟩, .string ⟨#[]⟩, .slice none 0 0, .string ⟨#[]⟩, .bool false, .bool false, .int .i64 0]) (hne : bb ≠ g) (hge : w0.heap.size ≤ bb) :
    Calls Try.prog 29 #[.pointer (some ⟨g, 0, none⟩), .pointer (some ⟨bb, 0, none⟩)] w (RM w0 g bb 26 k26 (codeR l b).1 (codeR l b).2.1 (codeR l b).2.2 w) := by
  have hgw : g < w.heap.size := h.lt
  have hbw := lt_atB ha
  obtain ⟨⟨x0, l0, b0⟩, e0⟩ : ∃ z, textR l b = z := ⟨_, rfl⟩
  obtain ⟨⟨x1, l1, b1⟩, e1⟩ : ∃ z, textR l0 b0 = z := ⟨_, rfl⟩
  obtain ⟨⟨x2, l2, b2⟩, e2⟩ : ∃ z, textR l1 b1 = z := ⟨_, rfl⟩
  obtain ⟨⟨x3, l3, b3⟩, e3⟩ : ∃ z, textR l2 b2 = z := ⟨_, rfl⟩
  obtain ⟨⟨x4, l4, b4⟩, e4⟩ : ∃ z, listR textR l3 b3 = z := ⟨_, rfl⟩
  obtain ⟨⟨x5, l5, b5⟩, e5⟩ : ∃ z, textR l4 b4 = z := ⟨_, rfl⟩
  obtain ⟨⟨x6, l6, b6⟩, e6⟩ : ∃ z, truthR l5 b5 = z := ⟨_, rfl⟩
  obtain ⟨⟨x7, l7, b7⟩, e7⟩ : ∃ z, truthR l6 b6 = z := ⟨_, rfl⟩
  obtain ⟨⟨x8, l8, b8⟩, e8⟩ : ∃ z, numR l7 b7 = z := ⟨_, rfl⟩
  have hfin : codeR l b = (⟨x0, x1, x2, x3, x4, x5, x6, x7, x8⟩, l8, b8) := by simp only [codeR, e0, e1, e2, e3, e4, e5, e6, e7, e8]
  rw [hfin]
  have E0 := hid e0
  have E1 := hid e1
  have E2 := hid e2
  have E3 := hid e3
  have E4 := hid e4
  have E5 := hid e5
  have E6 := hid e6
  have E7 := hid e7
  have E8 := hid e8
  have H0 := hid h
  have HA0 := hid ha
  have HM0 := hid (Mod.refl (fun x => x = g ∨ x = bb) w)
  clear h ha hfin e0 e1 e2 e3 e4 e5 e6 e7 e8
  go_enter Try.func29, Try.ntmps29
  have hc := text_r (o := 0) H0.out HA0.out hne hge ⟨#[]⟩ rfl
  rw [E0.out] at hc
  go_wp2_with fail
  refine hc.mono ?_
  clear hc
  intro e w1 hq
  obtain ⟨rfl, h, ha, hm⟩ := hq
  have ha2 : AtB w1 bb 26 #[.string x0, .string ⟨#[]⟩, .string ⟨#[]⟩, .string ⟨#[]⟩, .slice none 0 0, .string ⟨#[]⟩, .bool false, .bool false, .int .i64 0] := ha
  have H1 := hid h
  have HA1 := hid ha2
  have HM1 := hid (HM0.out.trans hm (fun _ e => .inl e))
  clear h ha ha2 hm
  have hc := text_r (o := 1) H1.out HA1.out hne hge ⟨#[]⟩ rfl
  rw [E1.out] at hc
  go_wp2_with fail
  refine hc.mono ?_
  clear hc
  intro e w2 hq
  obtain ⟨rfl, h, ha, hm⟩ := hq
  have ha2 : AtB w2 bb 26 #[.string x0, .string x1, .string ⟨#[]⟩, .string ⟨#[]⟩, .slice none 0 0, .string ⟨#[]⟩, .bool false, .bool false, .int .i64 0] := ha
  have H2 := hid h
  have HA2 := hid ha2
  have HM2 := hid (HM1.out.trans hm (fun _ e => .inl e))
  clear h ha ha2 hm
  have hc := text_r (o := 2) H2.out HA2.out hne hge ⟨#[]⟩ rfl
  rw [E2.out] at hc
  go_wp2_with fail
  refine hc.mono ?_
  clear hc
  intro e w3 hq
  obtain ⟨rfl, h, ha, hm⟩ := hq
  have ha2 : AtB w3 bb 26 #[.string x0, .string x1, .string x2, .string ⟨#[]⟩, .slice none 0 0, .string ⟨#[]⟩, .bool false, .bool false, .int .i64 0] := ha
  have H3 := hid h
  have HA3 := hid ha2
  have HM3 := hid (HM2.out.trans hm (fun _ e => .inl e))
  clear h ha ha2 hm
  have hc := text_r (o := 3) H3.out HA3.out hne hge ⟨#[]⟩ rfl
  rw [E3.out] at hc
  go_wp2_with fail
  refine hc.mono ?_
  clear hc
  intro e w4 hq
  obtain ⟨rfl, h, ha, hm⟩ := hq
  have ha2 : AtB w4 bb 26 #[.string x0, .string x1, .string x2, .string x3, .slice none 0 0, .string ⟨#[]⟩, .bool false, .bool false, .int .i64 0] := ha
  have H4 := hid h
  have HA4 := hid ha2
  have HM4 := hid (HM3.out.trans hm (fun _ e => .inl e))
  clear h ha ha2 hm
  have hc := texts_r (o := 4) H4.out HA4.out hne hge none 0 0 rfl (by intro q hq; have hq' : q ∈ ([9] : List Nat) := hq; rw [List.mem_singleton] at hq'; subst hq'; decide)
  rw [E4.out] at hc
  go_wp2_with fail
  refine hc.mono ?_
  clear hc
  intro e w5 hq
  obtain ⟨rfl, h, ⟨v4, ha, hr⟩, hm⟩ := hq
  have G4_5 := hid (Kd.R_lower hr HM4.out.size)
  clear hr
  have ha2 : AtB w5 bb 26 #[.string x0, .string x1, .string x2, .string x3, v4, .string ⟨#[]⟩, .bool false, .bool false, .int .i64 0] := ha
  have H5 := hid h
  have HA5 := hid ha2
  have HM5 := hid (HM4.out.trans hm (fun _ e => .inl e))
  clear h ha ha2 hm
  have hc := text_r (o := 5) H5.out HA5.out hne hge ⟨#[]⟩ rfl
  rw [E5.out] at hc
  go_wp2_with fail
  refine hc.mono ?_
  clear hc
  intro e w6 hq
  obtain ⟨rfl, h, ha, hm⟩ := hq
  have ha2 : AtB w6 bb 26 #[.string x0, .string x1, .string x2, .string x3, v4, .string x5, .bool false, .bool false, .int .i64 0] := ha
  have H6 := hid h
  have HA6 := hid ha2
  have G4_6 := hid (r_mod G4_5.out hm (fun x e => by rcases e with rfl | rfl <;> omega))
  have HM6 := hid (HM5.out.trans hm (fun _ e => .inl e))
  clear h ha ha2 hm
  have hc := truth_r (o := 6) H6.out HA6.out hne hge (by simp)
  rw [E6.out] at hc
  go_wp2_with fail
  refine hc.mono ?_
  clear hc
  intro e w7 hq
  obtain ⟨rfl, h, ha, hm⟩ := hq
  have ha2 : AtB w7 bb 26 #[.string x0, .string x1, .string x2, .string x3, v4, .string x5, .bool x6, .bool false, .int .i64 0] := ha
  have H7 := hid h
  have HA7 := hid ha2
  have G4_7 := hid (r_mod G4_6.out hm (fun x e => by rcases e with rfl | rfl <;> omega))
  have HM7 := hid (HM6.out.trans hm (fun _ e => .inl e))
  clear h ha ha2 hm
  have hc := truth_r (o := 7) H7.out HA7.out hne hge (by simp)
  rw [E7.out] at hc
  go_wp2_with fail
  refine hc.mono ?_
  clear hc
  intro e w8 hq
  obtain ⟨rfl, h, ha, hm⟩ := hq
  have ha2 : AtB w8 bb 26 #[.string x0, .string x1, .string x2, .string x3, v4, .string x5, .bool x6, .bool x7, .int .i64 0] := ha
  have H8 := hid h
  have HA8 := hid ha2
  have G4_8 := hid (r_mod G4_7.out hm (fun x e => by rcases e with rfl | rfl <;> omega))
  have HM8 := hid (HM7.out.trans hm (fun _ e => .inl e))
  clear h ha ha2 hm
  have hc := num_r (o := 8) H8.out HA8.out hne hge (by simp)
  rw [E8.out] at hc
  go_wp2_with fail
  refine hc.mono ?_
  clear hc
  intro e w9 hq
  obtain ⟨rfl, h, ha, hm⟩ := hq
  have ha2 : AtB w9 bb 26 #[.string x0, .string x1, .string x2, .string x3, v4, .string x5, .bool x6, .bool x7, .int .i64 x8] := ha
  have H9 := hid h
  have HA9 := hid ha2
  have G4_9 := hid (r_mod G4_8.out hm (fun x e => by rcases e with rfl | rfl <;> omega))
  have HM9 := hid (HM8.out.trans hm (fun _ e => .inl e))
  clear h ha ha2 hm
  go_wp2
  go_end0
  exact ⟨rfl, H9.out, ⟨[.string x0, .string x1, .string x2, .string x3, v4, .string x5, .bool x6, .bool x7, .int .i64 x8], HA9.out, k26_mkM _ _ _ ⟨x0, x1, x2, x3, x4, x5, x6, x7, x8⟩ G4_9.out⟩, HM9.out⟩
def familyR (l : List UInt8) (b : Bool) : S28 × List UInt8 × Bool :=
  let r0 := textR l b
  let r1 := textR r0.2.1 r0.2.2
  let r2 := textR r1.2.1 r1.2.2
  let r3 := listR textR r2.2.1 r2.2.2
  let r4 := numR r3.2.1 r3.2.2
  let r5 := numR r4.2.1 r4.2.2
  let r6 := truthR r5.2.1 r5.2.2
  (⟨r0.1, r1.1, r2.1, r3.1, r4.1, r5.1, r6.1⟩, r6.2.1, r6.2.2)
set_option maxHeartbeats 8000000 in
set_option maxRecDepth 100000 in
theorem family_r {w0 w : World} {g bb : Nat} {l : List UInt8} {b : Bool} (h : RS w0 g l b w) (ha : AtB w bb 28 #[.string ⟨#[]⟩, .string ⟨#[]⟩, .string ⟨#[]⟩, .slice none 0 0, .int .i64 0, .int .i64 0, .bool false]) (hne : bb ≠ g) (hge : w0.heap.size ≤ bb) :
    Calls Try.prog 31 #[.pointer (some ⟨g, 0, none⟩), .pointer (some ⟨bb, 0, none⟩)] w (RM w0 g bb 28 k28 (familyR l b).1 (familyR l b).2.1 (familyR l b).2.2 w) := by
  have hgw : g < w.heap.size := h.lt
  have hbw := lt_atB ha
  obtain ⟨⟨x0, l0, b0⟩, e0⟩ : ∃ z, textR l b = z := ⟨_, rfl⟩
  obtain ⟨⟨x1, l1, b1⟩, e1⟩ : ∃ z, textR l0 b0 = z := ⟨_, rfl⟩
  obtain ⟨⟨x2, l2, b2⟩, e2⟩ : ∃ z, textR l1 b1 = z := ⟨_, rfl⟩
  obtain ⟨⟨x3, l3, b3⟩, e3⟩ : ∃ z, listR textR l2 b2 = z := ⟨_, rfl⟩
  obtain ⟨⟨x4, l4, b4⟩, e4⟩ : ∃ z, numR l3 b3 = z := ⟨_, rfl⟩
  obtain ⟨⟨x5, l5, b5⟩, e5⟩ : ∃ z, numR l4 b4 = z := ⟨_, rfl⟩
  obtain ⟨⟨x6, l6, b6⟩, e6⟩ : ∃ z, truthR l5 b5 = z := ⟨_, rfl⟩
  have hfin : familyR l b = (⟨x0, x1, x2, x3, x4, x5, x6⟩, l6, b6) := by simp only [familyR, e0, e1, e2, e3, e4, e5, e6]
  rw [hfin]
  have E0 := hid e0
  have E1 := hid e1
  have E2 := hid e2
  have E3 := hid e3
  have E4 := hid e4
  have E5 := hid e5
  have E6 := hid e6
  have H0 := hid h
  have HA0 := hid ha
  have HM0 := hid (Mod.refl (fun x => x = g ∨ x = bb) w)
  clear h ha hfin e0 e1 e2 e3 e4 e5 e6
  go_enter Try.func31, Try.ntmps31
  have hc := text_r (o := 0) H0.out HA0.out hne hge ⟨#[]⟩ rfl
  rw [E0.out] at hc
  go_wp2_with fail
  refine hc.mono ?_
  clear hc
  intro e w1 hq
  obtain ⟨rfl, h, ha, hm⟩ := hq
  have ha2 : AtB w1 bb 28 #[.string x0, .string ⟨#[]⟩, .string ⟨#[]⟩, .slice none 0 0, .int .i64 0, .int .i64 0, .bool false] := ha
  have H1 := hid h
  have HA1 := hid ha2
  have HM1 := hid (HM0.out.trans hm (fun _ e => .inl e))
  clear h ha ha2 hm
  have hc := text_r (o := 1) H1.out HA1.out hne hge ⟨#[]⟩ rfl
  rw [E1.out] at hc
  go_wp2_with fail
  refine hc.mono ?_
  clear hc
  intro e w2 hq
  obtain ⟨rfl, h, ha, hm⟩ := hq
  have ha2 : AtB w2 bb 28 #[.string x0, .string x1, .string ⟨#[]⟩, .slice none 0 0, .int .i64 0, .int .i64 0, .bool false] := ha
  have H2 := hid h
  have HA2 := hid ha2
  have HM2 := hid (HM1.out.trans hm (fun _ e => .inl e))
  clear h ha ha2 hm
  have hc := text_r (o := 2) H2.out HA2.out hne hge ⟨#[]⟩ rfl
  rw [E2.out] at hc
  go_wp2_with fail
  refine hc.mono ?_
  clear hc
  intro e w3 hq
  obtain ⟨rfl, h, ha, hm⟩ := hq
  have ha2 : AtB w3 bb 28 #[.string x0, .string x1, .string x2, .slice none 0 0, .int .i64 0, .int .i64 0, .bool false] := ha
  have H3 := hid h
  have HA3 := hid ha2
  have HM3 := hid (HM2.out.trans hm (fun _ e => .inl e))
  clear h ha ha2 hm
  have hc := texts_r (o := 3) H3.out HA3.out hne hge none 0 0 rfl (by intro q hq; have hq' : q ∈ ([9] : List Nat) := hq; rw [List.mem_singleton] at hq'; subst hq'; decide)
  rw [E3.out] at hc
  go_wp2_with fail
  refine hc.mono ?_
  clear hc
  intro e w4 hq
  obtain ⟨rfl, h, ⟨v3, ha, hr⟩, hm⟩ := hq
  have G3_4 := hid (Kd.R_lower hr HM3.out.size)
  clear hr
  have ha2 : AtB w4 bb 28 #[.string x0, .string x1, .string x2, v3, .int .i64 0, .int .i64 0, .bool false] := ha
  have H4 := hid h
  have HA4 := hid ha2
  have HM4 := hid (HM3.out.trans hm (fun _ e => .inl e))
  clear h ha ha2 hm
  have hc := num_r (o := 4) H4.out HA4.out hne hge (by simp)
  rw [E4.out] at hc
  go_wp2_with fail
  refine hc.mono ?_
  clear hc
  intro e w5 hq
  obtain ⟨rfl, h, ha, hm⟩ := hq
  have ha2 : AtB w5 bb 28 #[.string x0, .string x1, .string x2, v3, .int .i64 x4, .int .i64 0, .bool false] := ha
  have H5 := hid h
  have HA5 := hid ha2
  have G3_5 := hid (r_mod G3_4.out hm (fun x e => by rcases e with rfl | rfl <;> omega))
  have HM5 := hid (HM4.out.trans hm (fun _ e => .inl e))
  clear h ha ha2 hm
  have hc := num_r (o := 5) H5.out HA5.out hne hge (by simp)
  rw [E5.out] at hc
  go_wp2_with fail
  refine hc.mono ?_
  clear hc
  intro e w6 hq
  obtain ⟨rfl, h, ha, hm⟩ := hq
  have ha2 : AtB w6 bb 28 #[.string x0, .string x1, .string x2, v3, .int .i64 x4, .int .i64 x5, .bool false] := ha
  have H6 := hid h
  have HA6 := hid ha2
  have G3_6 := hid (r_mod G3_5.out hm (fun x e => by rcases e with rfl | rfl <;> omega))
  have HM6 := hid (HM5.out.trans hm (fun _ e => .inl e))
  clear h ha ha2 hm
  have hc := truth_r (o := 6) H6.out HA6.out hne hge (by simp)
  rw [E6.out] at hc
  go_wp2_with fail
  refine hc.mono ?_
  clear hc
  intro e w7 hq
  obtain ⟨rfl, h, ha, hm⟩ := hq
  have ha2 : AtB w7 bb 28 #[.string x0, .string x1, .string x2, v3, .int .i64 x4, .int .i64 x5, .bool x6] := ha
  have H7 := hid h
  have HA7 := hid ha2
  have G3_7 := hid (r_mod G3_6.out hm (fun x e => by rcases e with rfl | rfl <;> omega))
  have HM7 := hid (HM6.out.trans hm (fun _ e => .inl e))
  clear h ha ha2 hm
  go_wp2
  go_end0
  exact ⟨rfl, H7.out, ⟨[.string x0, .string x1, .string x2, v3, .int .i64 x4, .int .i64 x5, .bool x6], HA7.out, k28_mkM _ _ _ ⟨x0, x1, x2, x3, x4, x5, x6⟩ G3_7.out⟩, HM7.out⟩
def refreshR (l : List UInt8) (b : Bool) : S30 × List UInt8 × Bool :=
  let r0 := textR l b
  let r1 := textR r0.2.1 r0.2.2
  let r2 := numR r1.2.1 r1.2.2
  (⟨r0.1, r1.1, r2.1⟩, r2.2.1, r2.2.2)
set_option maxHeartbeats 8000000 in
set_option maxRecDepth 100000 in
theorem refresh_r {w0 w : World} {g bb : Nat} {l : List UInt8} {b : Bool} (h : RS w0 g l b w) (ha : AtB w bb 30 #[.string ⟨#[]⟩, .string ⟨#[]⟩, .int .i64 0]) (hne : bb ≠ g) (hge : w0.heap.size ≤ bb) :
    Calls Try.prog 24 #[.pointer (some ⟨g, 0, none⟩), .pointer (some ⟨bb, 0, none⟩)] w (RM w0 g bb 30 k30 (refreshR l b).1 (refreshR l b).2.1 (refreshR l b).2.2 w) := by
  have hgw : g < w.heap.size := h.lt
  have hbw := lt_atB ha
  obtain ⟨⟨x0, l0, b0⟩, e0⟩ : ∃ z, textR l b = z := ⟨_, rfl⟩
  obtain ⟨⟨x1, l1, b1⟩, e1⟩ : ∃ z, textR l0 b0 = z := ⟨_, rfl⟩
  obtain ⟨⟨x2, l2, b2⟩, e2⟩ : ∃ z, numR l1 b1 = z := ⟨_, rfl⟩
  have hfin : refreshR l b = (⟨x0, x1, x2⟩, l2, b2) := by simp only [refreshR, e0, e1, e2]
  rw [hfin]
  have E0 := hid e0
  have E1 := hid e1
  have E2 := hid e2
  have H0 := hid h
  have HA0 := hid ha
  have HM0 := hid (Mod.refl (fun x => x = g ∨ x = bb) w)
  clear h ha hfin e0 e1 e2
  go_enter Try.func24, Try.ntmps24
  have hc := text_r (o := 0) H0.out HA0.out hne hge ⟨#[]⟩ rfl
  rw [E0.out] at hc
  go_wp2_with fail
  refine hc.mono ?_
  clear hc
  intro e w1 hq
  obtain ⟨rfl, h, ha, hm⟩ := hq
  have ha2 : AtB w1 bb 30 #[.string x0, .string ⟨#[]⟩, .int .i64 0] := ha
  have H1 := hid h
  have HA1 := hid ha2
  have HM1 := hid (HM0.out.trans hm (fun _ e => .inl e))
  clear h ha ha2 hm
  have hc := text_r (o := 1) H1.out HA1.out hne hge ⟨#[]⟩ rfl
  rw [E1.out] at hc
  go_wp2_with fail
  refine hc.mono ?_
  clear hc
  intro e w2 hq
  obtain ⟨rfl, h, ha, hm⟩ := hq
  have ha2 : AtB w2 bb 30 #[.string x0, .string x1, .int .i64 0] := ha
  have H2 := hid h
  have HA2 := hid ha2
  have HM2 := hid (HM1.out.trans hm (fun _ e => .inl e))
  clear h ha ha2 hm
  have hc := num_r (o := 2) H2.out HA2.out hne hge (by simp)
  rw [E2.out] at hc
  go_wp2_with fail
  refine hc.mono ?_
  clear hc
  intro e w3 hq
  obtain ⟨rfl, h, ha, hm⟩ := hq
  have ha2 : AtB w3 bb 30 #[.string x0, .string x1, .int .i64 x2] := ha
  have H3 := hid h
  have HA3 := hid ha2
  have HM3 := hid (HM2.out.trans hm (fun _ e => .inl e))
  clear h ha ha2 hm
  go_wp2
  go_end0
  exact ⟨rfl, H3.out, ⟨[.string x0, .string x1, .int .i64 x2], HA3.out, k30_mkM _ _ _ ⟨x0, x1, x2⟩ ⟩, HM3.out⟩
def accessR (l : List UInt8) (b : Bool) : S33 × List UInt8 × Bool :=
  let r0 := textR l b
  let r1 := textR r0.2.1 r0.2.2
  let r2 := textR r1.2.1 r1.2.2
  let r3 := textR r2.2.1 r2.2.2
  let r4 := textR r3.2.1 r3.2.2
  let r5 := listR textR r4.2.1 r4.2.2
  let r6 := listR permR r5.2.1 r5.2.2
  let r7 := numR r6.2.1 r6.2.2
  let r8 := numR r7.2.1 r7.2.2
  let r9 := truthR r8.2.1 r8.2.2
  (⟨r0.1, r1.1, r2.1, r3.1, r4.1, r5.1, r6.1, r7.1, r8.1, r9.1⟩, r9.2.1, r9.2.2)
set_option maxHeartbeats 8000000 in
set_option maxRecDepth 100000 in
theorem access_r {w0 w : World} {g bb : Nat} {l : List UInt8} {b : Bool} (h : RS w0 g l b w) (ha : AtB w bb 33 #[.string ⟨#[]⟩, .string ⟨#[]⟩, .string ⟨#[]⟩, .string ⟨#[]⟩, .string ⟨#[]⟩, .slice none 0 0, .slice none 0 0, .int .i64 0, .int .i64 0, .bool false]) (hne : bb ≠ g) (hge : w0.heap.size ≤ bb) :
    Calls Try.prog 33 #[.pointer (some ⟨g, 0, none⟩), .pointer (some ⟨bb, 0, none⟩)] w (RM w0 g bb 33 k33 (accessR l b).1 (accessR l b).2.1 (accessR l b).2.2 w) := by
  have hgw : g < w.heap.size := h.lt
  have hbw := lt_atB ha
  obtain ⟨⟨x0, l0, b0⟩, e0⟩ : ∃ z, textR l b = z := ⟨_, rfl⟩
  obtain ⟨⟨x1, l1, b1⟩, e1⟩ : ∃ z, textR l0 b0 = z := ⟨_, rfl⟩
  obtain ⟨⟨x2, l2, b2⟩, e2⟩ : ∃ z, textR l1 b1 = z := ⟨_, rfl⟩
  obtain ⟨⟨x3, l3, b3⟩, e3⟩ : ∃ z, textR l2 b2 = z := ⟨_, rfl⟩
  obtain ⟨⟨x4, l4, b4⟩, e4⟩ : ∃ z, textR l3 b3 = z := ⟨_, rfl⟩
  obtain ⟨⟨x5, l5, b5⟩, e5⟩ : ∃ z, listR textR l4 b4 = z := ⟨_, rfl⟩
  obtain ⟨⟨x6, l6, b6⟩, e6⟩ : ∃ z, listR permR l5 b5 = z := ⟨_, rfl⟩
  obtain ⟨⟨x7, l7, b7⟩, e7⟩ : ∃ z, numR l6 b6 = z := ⟨_, rfl⟩
  obtain ⟨⟨x8, l8, b8⟩, e8⟩ : ∃ z, numR l7 b7 = z := ⟨_, rfl⟩
  obtain ⟨⟨x9, l9, b9⟩, e9⟩ : ∃ z, truthR l8 b8 = z := ⟨_, rfl⟩
  have hfin : accessR l b = (⟨x0, x1, x2, x3, x4, x5, x6, x7, x8, x9⟩, l9, b9) := by simp only [accessR, e0, e1, e2, e3, e4, e5, e6, e7, e8, e9]
  rw [hfin]
  have E0 := hid e0
  have E1 := hid e1
  have E2 := hid e2
  have E3 := hid e3
  have E4 := hid e4
  have E5 := hid e5
  have E6 := hid e6
  have E7 := hid e7
  have E8 := hid e8
  have E9 := hid e9
  have H0 := hid h
  have HA0 := hid ha
  have HM0 := hid (Mod.refl (fun x => x = g ∨ x = bb) w)
  clear h ha hfin e0 e1 e2 e3 e4 e5 e6 e7 e8 e9
  go_enter Try.func33, Try.ntmps33
  have hc := text_r (o := 0) H0.out HA0.out hne hge ⟨#[]⟩ rfl
  rw [E0.out] at hc
  go_wp2_with fail
  refine hc.mono ?_
  clear hc
  intro e w1 hq
  obtain ⟨rfl, h, ha, hm⟩ := hq
  have ha2 : AtB w1 bb 33 #[.string x0, .string ⟨#[]⟩, .string ⟨#[]⟩, .string ⟨#[]⟩, .string ⟨#[]⟩, .slice none 0 0, .slice none 0 0, .int .i64 0, .int .i64 0, .bool false] := ha
  have H1 := hid h
  have HA1 := hid ha2
  have HM1 := hid (HM0.out.trans hm (fun _ e => .inl e))
  clear h ha ha2 hm
  have hc := text_r (o := 1) H1.out HA1.out hne hge ⟨#[]⟩ rfl
  rw [E1.out] at hc
  go_wp2_with fail
  refine hc.mono ?_
  clear hc
  intro e w2 hq
  obtain ⟨rfl, h, ha, hm⟩ := hq
  have ha2 : AtB w2 bb 33 #[.string x0, .string x1, .string ⟨#[]⟩, .string ⟨#[]⟩, .string ⟨#[]⟩, .slice none 0 0, .slice none 0 0, .int .i64 0, .int .i64 0, .bool false] := ha
  have H2 := hid h
  have HA2 := hid ha2
  have HM2 := hid (HM1.out.trans hm (fun _ e => .inl e))
  clear h ha ha2 hm
  have hc := text_r (o := 2) H2.out HA2.out hne hge ⟨#[]⟩ rfl
  rw [E2.out] at hc
  go_wp2_with fail
  refine hc.mono ?_
  clear hc
  intro e w3 hq
  obtain ⟨rfl, h, ha, hm⟩ := hq
  have ha2 : AtB w3 bb 33 #[.string x0, .string x1, .string x2, .string ⟨#[]⟩, .string ⟨#[]⟩, .slice none 0 0, .slice none 0 0, .int .i64 0, .int .i64 0, .bool false] := ha
  have H3 := hid h
  have HA3 := hid ha2
  have HM3 := hid (HM2.out.trans hm (fun _ e => .inl e))
  clear h ha ha2 hm
  have hc := text_r (o := 3) H3.out HA3.out hne hge ⟨#[]⟩ rfl
  rw [E3.out] at hc
  go_wp2_with fail
  refine hc.mono ?_
  clear hc
  intro e w4 hq
  obtain ⟨rfl, h, ha, hm⟩ := hq
  have ha2 : AtB w4 bb 33 #[.string x0, .string x1, .string x2, .string x3, .string ⟨#[]⟩, .slice none 0 0, .slice none 0 0, .int .i64 0, .int .i64 0, .bool false] := ha
  have H4 := hid h
  have HA4 := hid ha2
  have HM4 := hid (HM3.out.trans hm (fun _ e => .inl e))
  clear h ha ha2 hm
  have hc := text_r (o := 4) H4.out HA4.out hne hge ⟨#[]⟩ rfl
  rw [E4.out] at hc
  go_wp2_with fail
  refine hc.mono ?_
  clear hc
  intro e w5 hq
  obtain ⟨rfl, h, ha, hm⟩ := hq
  have ha2 : AtB w5 bb 33 #[.string x0, .string x1, .string x2, .string x3, .string x4, .slice none 0 0, .slice none 0 0, .int .i64 0, .int .i64 0, .bool false] := ha
  have H5 := hid h
  have HA5 := hid ha2
  have HM5 := hid (HM4.out.trans hm (fun _ e => .inl e))
  clear h ha ha2 hm
  have hc := texts_r (o := 5) H5.out HA5.out hne hge none 0 0 rfl (by intro q hq; have hq' : q ∈ ([9] : List Nat) := hq; rw [List.mem_singleton] at hq'; subst hq'; decide)
  rw [E5.out] at hc
  go_wp2_with fail
  refine hc.mono ?_
  clear hc
  intro e w6 hq
  obtain ⟨rfl, h, ⟨v5, ha, hr⟩, hm⟩ := hq
  have G5_6 := hid (Kd.R_lower hr HM5.out.size)
  clear hr
  have ha2 : AtB w6 bb 33 #[.string x0, .string x1, .string x2, .string x3, .string x4, v5, .slice none 0 0, .int .i64 0, .int .i64 0, .bool false] := ha
  have H6 := hid h
  have HA6 := hid ha2
  have HM6 := hid (HM5.out.trans hm (fun _ e => .inl e))
  clear h ha ha2 hm
  have hc := listP_r (o := 6) H6.out HA6.out hne hge none 0 0 rfl (by intro q hq; have hq' : q ∈ ([51, 9] : List Nat) := hq; simp only [List.mem_cons, List.not_mem_nil, or_false] at hq'; rcases hq' with rfl | rfl <;> decide)
  rw [E6.out] at hc
  go_wp2_with fail
  refine hc.mono ?_
  clear hc
  intro e w7 hq
  obtain ⟨rfl, h, ⟨v6, ha, hr⟩, hm⟩ := hq
  have G6_7 := hid (Kd.R_lower hr HM6.out.size)
  clear hr
  have ha2 : AtB w7 bb 33 #[.string x0, .string x1, .string x2, .string x3, .string x4, v5, v6, .int .i64 0, .int .i64 0, .bool false] := ha
  have H7 := hid h
  have HA7 := hid ha2
  have G5_7 := hid (r_mod G5_6.out hm (fun x e => by rcases e with rfl | rfl <;> omega))
  have HM7 := hid (HM6.out.trans hm (fun _ e => .inl e))
  clear h ha ha2 hm
  have hc := num_r (o := 7) H7.out HA7.out hne hge (by simp)
  rw [E7.out] at hc
  go_wp2_with fail
  refine hc.mono ?_
  clear hc
  intro e w8 hq
  obtain ⟨rfl, h, ha, hm⟩ := hq
  have ha2 : AtB w8 bb 33 #[.string x0, .string x1, .string x2, .string x3, .string x4, v5, v6, .int .i64 x7, .int .i64 0, .bool false] := ha
  have H8 := hid h
  have HA8 := hid ha2
  have G5_8 := hid (r_mod G5_7.out hm (fun x e => by rcases e with rfl | rfl <;> omega))
  have G6_8 := hid (r_mod G6_7.out hm (fun x e => by rcases e with rfl | rfl <;> omega))
  have HM8 := hid (HM7.out.trans hm (fun _ e => .inl e))
  clear h ha ha2 hm
  have hc := num_r (o := 8) H8.out HA8.out hne hge (by simp)
  rw [E8.out] at hc
  go_wp2_with fail
  refine hc.mono ?_
  clear hc
  intro e w9 hq
  obtain ⟨rfl, h, ha, hm⟩ := hq
  have ha2 : AtB w9 bb 33 #[.string x0, .string x1, .string x2, .string x3, .string x4, v5, v6, .int .i64 x7, .int .i64 x8, .bool false] := ha
  have H9 := hid h
  have HA9 := hid ha2
  have G5_9 := hid (r_mod G5_8.out hm (fun x e => by rcases e with rfl | rfl <;> omega))
  have G6_9 := hid (r_mod G6_8.out hm (fun x e => by rcases e with rfl | rfl <;> omega))
  have HM9 := hid (HM8.out.trans hm (fun _ e => .inl e))
  clear h ha ha2 hm
  have hc := truth_r (o := 9) H9.out HA9.out hne hge (by simp)
  rw [E9.out] at hc
  go_wp2_with fail
  refine hc.mono ?_
  clear hc
  intro e w10 hq
  obtain ⟨rfl, h, ha, hm⟩ := hq
  have ha2 : AtB w10 bb 33 #[.string x0, .string x1, .string x2, .string x3, .string x4, v5, v6, .int .i64 x7, .int .i64 x8, .bool x9] := ha
  have H10 := hid h
  have HA10 := hid ha2
  have G5_10 := hid (r_mod G5_9.out hm (fun x e => by rcases e with rfl | rfl <;> omega))
  have G6_10 := hid (r_mod G6_9.out hm (fun x e => by rcases e with rfl | rfl <;> omega))
  have HM10 := hid (HM9.out.trans hm (fun _ e => .inl e))
  clear h ha ha2 hm
  go_wp2
  go_end0
  exact ⟨rfl, H10.out, ⟨[.string x0, .string x1, .string x2, .string x3, .string x4, v5, v6, .int .i64 x7, .int .i64 x8, .bool x9], HA10.out, k33_mkM _ _ _ ⟨x0, x1, x2, x3, x4, x5, x6, x7, x8, x9⟩ G5_10.out G6_10.out⟩, HM10.out⟩
def resourceR (l : List UInt8) (b : Bool) : S35 × List UInt8 × Bool :=
  let r0 := textR l b
  let r1 := textR r0.2.1 r0.2.2
  let r2 := textR r1.2.1 r1.2.2
  let r3 := textR r2.2.1 r2.2.2
  let r4 := listR textR r3.2.1 r3.2.2
  let r5 := textR r4.2.1 r4.2.2
  (⟨r0.1, r1.1, r2.1, r3.1, r4.1, r5.1⟩, r5.2.1, r5.2.2)
set_option maxHeartbeats 8000000 in
set_option maxRecDepth 100000 in
theorem resource_r {w0 w : World} {g bb : Nat} {l : List UInt8} {b : Bool} (h : RS w0 g l b w) (ha : AtB w bb 35 #[.string ⟨#[]⟩, .string ⟨#[]⟩, .string ⟨#[]⟩, .string ⟨#[]⟩, .slice none 0 0, .string ⟨#[]⟩]) (hne : bb ≠ g) (hge : w0.heap.size ≤ bb) :
    Calls Try.prog 35 #[.pointer (some ⟨g, 0, none⟩), .pointer (some ⟨bb, 0, none⟩)] w (RM w0 g bb 35 k35 (resourceR l b).1 (resourceR l b).2.1 (resourceR l b).2.2 w) := by
  have hgw : g < w.heap.size := h.lt
  have hbw := lt_atB ha
  obtain ⟨⟨x0, l0, b0⟩, e0⟩ : ∃ z, textR l b = z := ⟨_, rfl⟩
  obtain ⟨⟨x1, l1, b1⟩, e1⟩ : ∃ z, textR l0 b0 = z := ⟨_, rfl⟩
  obtain ⟨⟨x2, l2, b2⟩, e2⟩ : ∃ z, textR l1 b1 = z := ⟨_, rfl⟩
  obtain ⟨⟨x3, l3, b3⟩, e3⟩ : ∃ z, textR l2 b2 = z := ⟨_, rfl⟩
  obtain ⟨⟨x4, l4, b4⟩, e4⟩ : ∃ z, listR textR l3 b3 = z := ⟨_, rfl⟩
  obtain ⟨⟨x5, l5, b5⟩, e5⟩ : ∃ z, textR l4 b4 = z := ⟨_, rfl⟩
  have hfin : resourceR l b = (⟨x0, x1, x2, x3, x4, x5⟩, l5, b5) := by simp only [resourceR, e0, e1, e2, e3, e4, e5]
  rw [hfin]
  have E0 := hid e0
  have E1 := hid e1
  have E2 := hid e2
  have E3 := hid e3
  have E4 := hid e4
  have E5 := hid e5
  have H0 := hid h
  have HA0 := hid ha
  have HM0 := hid (Mod.refl (fun x => x = g ∨ x = bb) w)
  clear h ha hfin e0 e1 e2 e3 e4 e5
  go_enter Try.func35, Try.ntmps35
  have hc := text_r (o := 0) H0.out HA0.out hne hge ⟨#[]⟩ rfl
  rw [E0.out] at hc
  go_wp2_with fail
  refine hc.mono ?_
  clear hc
  intro e w1 hq
  obtain ⟨rfl, h, ha, hm⟩ := hq
  have ha2 : AtB w1 bb 35 #[.string x0, .string ⟨#[]⟩, .string ⟨#[]⟩, .string ⟨#[]⟩, .slice none 0 0, .string ⟨#[]⟩] := ha
  have H1 := hid h
  have HA1 := hid ha2
  have HM1 := hid (HM0.out.trans hm (fun _ e => .inl e))
  clear h ha ha2 hm
  have hc := text_r (o := 1) H1.out HA1.out hne hge ⟨#[]⟩ rfl
  rw [E1.out] at hc
  go_wp2_with fail
  refine hc.mono ?_
  clear hc
  intro e w2 hq
  obtain ⟨rfl, h, ha, hm⟩ := hq
  have ha2 : AtB w2 bb 35 #[.string x0, .string x1, .string ⟨#[]⟩, .string ⟨#[]⟩, .slice none 0 0, .string ⟨#[]⟩] := ha
  have H2 := hid h
  have HA2 := hid ha2
  have HM2 := hid (HM1.out.trans hm (fun _ e => .inl e))
  clear h ha ha2 hm
  have hc := text_r (o := 2) H2.out HA2.out hne hge ⟨#[]⟩ rfl
  rw [E2.out] at hc
  go_wp2_with fail
  refine hc.mono ?_
  clear hc
  intro e w3 hq
  obtain ⟨rfl, h, ha, hm⟩ := hq
  have ha2 : AtB w3 bb 35 #[.string x0, .string x1, .string x2, .string ⟨#[]⟩, .slice none 0 0, .string ⟨#[]⟩] := ha
  have H3 := hid h
  have HA3 := hid ha2
  have HM3 := hid (HM2.out.trans hm (fun _ e => .inl e))
  clear h ha ha2 hm
  have hc := text_r (o := 3) H3.out HA3.out hne hge ⟨#[]⟩ rfl
  rw [E3.out] at hc
  go_wp2_with fail
  refine hc.mono ?_
  clear hc
  intro e w4 hq
  obtain ⟨rfl, h, ha, hm⟩ := hq
  have ha2 : AtB w4 bb 35 #[.string x0, .string x1, .string x2, .string x3, .slice none 0 0, .string ⟨#[]⟩] := ha
  have H4 := hid h
  have HA4 := hid ha2
  have HM4 := hid (HM3.out.trans hm (fun _ e => .inl e))
  clear h ha ha2 hm
  have hc := texts_r (o := 4) H4.out HA4.out hne hge none 0 0 rfl (by intro q hq; have hq' : q ∈ ([9] : List Nat) := hq; rw [List.mem_singleton] at hq'; subst hq'; decide)
  rw [E4.out] at hc
  go_wp2_with fail
  refine hc.mono ?_
  clear hc
  intro e w5 hq
  obtain ⟨rfl, h, ⟨v4, ha, hr⟩, hm⟩ := hq
  have G4_5 := hid (Kd.R_lower hr HM4.out.size)
  clear hr
  have ha2 : AtB w5 bb 35 #[.string x0, .string x1, .string x2, .string x3, v4, .string ⟨#[]⟩] := ha
  have H5 := hid h
  have HA5 := hid ha2
  have HM5 := hid (HM4.out.trans hm (fun _ e => .inl e))
  clear h ha ha2 hm
  have hc := text_r (o := 5) H5.out HA5.out hne hge ⟨#[]⟩ rfl
  rw [E5.out] at hc
  go_wp2_with fail
  refine hc.mono ?_
  clear hc
  intro e w6 hq
  obtain ⟨rfl, h, ha, hm⟩ := hq
  have ha2 : AtB w6 bb 35 #[.string x0, .string x1, .string x2, .string x3, v4, .string x5] := ha
  have H6 := hid h
  have HA6 := hid ha2
  have G4_6 := hid (r_mod G4_5.out hm (fun x e => by rcases e with rfl | rfl <;> omega))
  have HM6 := hid (HM5.out.trans hm (fun _ e => .inl e))
  clear h ha ha2 hm
  go_wp2
  go_end0
  exact ⟨rfl, H6.out, ⟨[.string x0, .string x1, .string x2, .string x3, v4, .string x5], HA6.out, k35_mkM _ _ _ ⟨x0, x1, x2, x3, x4, x5⟩ G4_6.out⟩, HM6.out⟩
def ticketR (l : List UInt8) (b : Bool) : S37 × List UInt8 × Bool :=
  let r0 := textR l b
  let r1 := textR r0.2.1 r0.2.2
  let r2 := listR permR r1.2.1 r1.2.2
  let r3 := textR r2.2.1 r2.2.2
  let r4 := numR r3.2.1 r3.2.2
  let r5 := truthR r4.2.1 r4.2.2
  (⟨r0.1, r1.1, r2.1, r3.1, r4.1, r5.1⟩, r5.2.1, r5.2.2)
set_option maxHeartbeats 8000000 in
set_option maxRecDepth 100000 in
theorem ticket_r {w0 w : World} {g bb : Nat} {l : List UInt8} {b : Bool} (h : RS w0 g l b w) (ha : AtB w bb 37 #[.string ⟨#[]⟩, .string ⟨#[]⟩, .slice none 0 0, .string ⟨#[]⟩, .int .i64 0, .bool false]) (hne : bb ≠ g) (hge : w0.heap.size ≤ bb) :
    Calls Try.prog 37 #[.pointer (some ⟨g, 0, none⟩), .pointer (some ⟨bb, 0, none⟩)] w (RM w0 g bb 37 k37 (ticketR l b).1 (ticketR l b).2.1 (ticketR l b).2.2 w) := by
  have hgw : g < w.heap.size := h.lt
  have hbw := lt_atB ha
  obtain ⟨⟨x0, l0, b0⟩, e0⟩ : ∃ z, textR l b = z := ⟨_, rfl⟩
  obtain ⟨⟨x1, l1, b1⟩, e1⟩ : ∃ z, textR l0 b0 = z := ⟨_, rfl⟩
  obtain ⟨⟨x2, l2, b2⟩, e2⟩ : ∃ z, listR permR l1 b1 = z := ⟨_, rfl⟩
  obtain ⟨⟨x3, l3, b3⟩, e3⟩ : ∃ z, textR l2 b2 = z := ⟨_, rfl⟩
  obtain ⟨⟨x4, l4, b4⟩, e4⟩ : ∃ z, numR l3 b3 = z := ⟨_, rfl⟩
  obtain ⟨⟨x5, l5, b5⟩, e5⟩ : ∃ z, truthR l4 b4 = z := ⟨_, rfl⟩
  have hfin : ticketR l b = (⟨x0, x1, x2, x3, x4, x5⟩, l5, b5) := by simp only [ticketR, e0, e1, e2, e3, e4, e5]
  rw [hfin]
  have E0 := hid e0
  have E1 := hid e1
  have E2 := hid e2
  have E3 := hid e3
  have E4 := hid e4
  have E5 := hid e5
  have H0 := hid h
  have HA0 := hid ha
  have HM0 := hid (Mod.refl (fun x => x = g ∨ x = bb) w)
  clear h ha hfin e0 e1 e2 e3 e4 e5
  go_enter Try.func37, Try.ntmps37
  have hc := text_r (o := 0) H0.out HA0.out hne hge ⟨#[]⟩ rfl
  rw [E0.out] at hc
  go_wp2_with fail
  refine hc.mono ?_
  clear hc
  intro e w1 hq
  obtain ⟨rfl, h, ha, hm⟩ := hq
  have ha2 : AtB w1 bb 37 #[.string x0, .string ⟨#[]⟩, .slice none 0 0, .string ⟨#[]⟩, .int .i64 0, .bool false] := ha
  have H1 := hid h
  have HA1 := hid ha2
  have HM1 := hid (HM0.out.trans hm (fun _ e => .inl e))
  clear h ha ha2 hm
  have hc := text_r (o := 1) H1.out HA1.out hne hge ⟨#[]⟩ rfl
  rw [E1.out] at hc
  go_wp2_with fail
  refine hc.mono ?_
  clear hc
  intro e w2 hq
  obtain ⟨rfl, h, ha, hm⟩ := hq
  have ha2 : AtB w2 bb 37 #[.string x0, .string x1, .slice none 0 0, .string ⟨#[]⟩, .int .i64 0, .bool false] := ha
  have H2 := hid h
  have HA2 := hid ha2
  have HM2 := hid (HM1.out.trans hm (fun _ e => .inl e))
  clear h ha ha2 hm
  have hc := listP_r (o := 2) H2.out HA2.out hne hge none 0 0 rfl (by intro q hq; have hq' : q ∈ ([51, 9] : List Nat) := hq; simp only [List.mem_cons, List.not_mem_nil, or_false] at hq'; rcases hq' with rfl | rfl <;> decide)
  rw [E2.out] at hc
  go_wp2_with fail
  refine hc.mono ?_
  clear hc
  intro e w3 hq
  obtain ⟨rfl, h, ⟨v2, ha, hr⟩, hm⟩ := hq
  have G2_3 := hid (Kd.R_lower hr HM2.out.size)
  clear hr
  have ha2 : AtB w3 bb 37 #[.string x0, .string x1, v2, .string ⟨#[]⟩, .int .i64 0, .bool false] := ha
  have H3 := hid h
  have HA3 := hid ha2
  have HM3 := hid (HM2.out.trans hm (fun _ e => .inl e))
  clear h ha ha2 hm
  have hc := text_r (o := 3) H3.out HA3.out hne hge ⟨#[]⟩ rfl
  rw [E3.out] at hc
  go_wp2_with fail
  refine hc.mono ?_
  clear hc
  intro e w4 hq
  obtain ⟨rfl, h, ha, hm⟩ := hq
  have ha2 : AtB w4 bb 37 #[.string x0, .string x1, v2, .string x3, .int .i64 0, .bool false] := ha
  have H4 := hid h
  have HA4 := hid ha2
  have G2_4 := hid (r_mod G2_3.out hm (fun x e => by rcases e with rfl | rfl <;> omega))
  have HM4 := hid (HM3.out.trans hm (fun _ e => .inl e))
  clear h ha ha2 hm
  have hc := num_r (o := 4) H4.out HA4.out hne hge (by simp)
  rw [E4.out] at hc
  go_wp2_with fail
  refine hc.mono ?_
  clear hc
  intro e w5 hq
  obtain ⟨rfl, h, ha, hm⟩ := hq
  have ha2 : AtB w5 bb 37 #[.string x0, .string x1, v2, .string x3, .int .i64 x4, .bool false] := ha
  have H5 := hid h
  have HA5 := hid ha2
  have G2_5 := hid (r_mod G2_4.out hm (fun x e => by rcases e with rfl | rfl <;> omega))
  have HM5 := hid (HM4.out.trans hm (fun _ e => .inl e))
  clear h ha ha2 hm
  have hc := truth_r (o := 5) H5.out HA5.out hne hge (by simp)
  rw [E5.out] at hc
  go_wp2_with fail
  refine hc.mono ?_
  clear hc
  intro e w6 hq
  obtain ⟨rfl, h, ha, hm⟩ := hq
  have ha2 : AtB w6 bb 37 #[.string x0, .string x1, v2, .string x3, .int .i64 x4, .bool x5] := ha
  have H6 := hid h
  have HA6 := hid ha2
  have G2_6 := hid (r_mod G2_5.out hm (fun x e => by rcases e with rfl | rfl <;> omega))
  have HM6 := hid (HM5.out.trans hm (fun _ e => .inl e))
  clear h ha ha2 hm
  go_wp2
  go_end0
  exact ⟨rfl, H6.out, ⟨[.string x0, .string x1, v2, .string x3, .int .i64 x4, .bool x5], HA6.out, k37_mkM _ _ _ ⟨x0, x1, x2, x3, x4, x5⟩ G2_6.out⟩, HM6.out⟩
end Go.Proofs.Ytcgjacffemjehaa

namespace Go.Proofs.Ytcgjacffemjehaa
open Go.RowKit
open Go.Proofs.YtcgjacffemjehaaW.PrintWords (Kd rdOf results_ct)
open Go.Proofs.Ytcgjacffemjehaa.PRowPacks
set_option linter.unusedVariables false
def unR {α : Type} (r : α × List UInt8 × Bool) : Option α := if r.2.2 = true ∨ 0 < r.2.1.length then none else some r.1
/-- The error that goes with a row that is there, or not. -/
def errV (ok : Bool) : Value := if ok = true then .nilIface else .iface 94 (.int .i64 170)
/-- What unpack answers. -/
def UP {α : Type} (d : Kd α) (z : α) (o : Option α) (w : World) (e : Ending) (w' : World) : Prop :=
  ∃ cs, e = .returned (.tuple #[.agg cs.toArray, errV o.isSome]) ∧ d.M w' w.heap.size (fun _ => True) (o.getD z) cs ∧ Below w.heap.size w w'
theorem reads_form {w : World} {v : Value} {l : List UInt8} (h : ReadsB w v l) : ∃ A m c, v = .slice A m c := by
  rcases h with ⟨rfl, rfl⟩ | ⟨b, o, cap, rfl, _, _⟩ <;> exact ⟨_, _, _, rfl⟩
theorem rs_make {w W : World} {g : Nat} {v : Value} {l : List UInt8} (hb : Below w.heap.size w W) (hg : g = W.heap.size) (hr : ReadsB w v l) (hl : l.length ≤ 1099511627776) : RS w g l false (W.alloc (.cells #[v, .bool true, .bool false] 88)) := by
  subst hg
  exact ⟨hb.alloc hb.size _, hb.size, hl, v, heap_alloc_new W _, hr⟩
theorem at_make {W : World} {bb : Nat} {T : TypeId} {cs : Array Value} (h : bb = W.heap.size) : AtB (W.alloc (.cells cs T)) bb T cs := by subst h; exact heap_alloc_new W _
theorem AtB.alloc {w : World} {bb : Nat} {T : TypeId} {cs : Array Value} (h : AtB w bb T cs) (o : Obj) : AtB (w.alloc o) bb T cs := (Below.heap_alloc w o bb (lt_atB h)).trans h
theorem up_mem {α : Type} {d : Kd α} {w5 w6 : World} {B base : Nat} {ok : Nat → Prop} {x : α} {cs : List Value} {S : Nat → Prop} (h : d.M w5 base ok x cs) (hB : ∀ k, ok k → ¬ S k) (hb : B ≤ base) (hm : Mod S w5 w6) : d.M w6 B (fun _ => True) x cs :=
  d.M_lower hb (d.M_mono (fun _ _ => trivial) (Kd.M_step h (fun k hk hlt => hm.block k hlt (hB k hk))))
end Go.Proofs.Ytcgjacffemjehaa

namespace Go.Proofs.Ytcgjacffemjehaa
open Go.RowKit
open Go.Proofs.YtcgjacffemjehaaW.PrintWords (Kd rdOf results_ct)
open Go.Proofs.Ytcgjacffemjehaa.PRowPacks
set_option linter.unusedVariables false
set_option maxHeartbeats 8000000 in
set_option maxRecDepth 100000 in
theorem unpackRefresh_any (w : World) (v : Value) (l : List UInt8) (hr : ReadsB w v l) (hl : l.length ≤ 1099511627776) :
    Calls Try.prog 25 #[v, .func (.func 24) #[] #[]] w (UP k30 z30 (unR (refreshR l false)) w) := by
  obtain ⟨A9, m9, c9, rfl⟩ := reads_form hr
  have hrs := rs_make (g := w.heap.size + 1 + 1 + 1) (W := (((w.alloc (.cells #[.string ⟨#[]⟩, .string ⟨#[]⟩, .int .i64 0] 30)).alloc (.cells #[.string ⟨#[]⟩, .string ⟨#[]⟩, .int .i64 0] 30)).alloc (.cells #[.string ⟨#[]⟩, .string ⟨#[]⟩, .int .i64 0] 30))) ((((Below.refl _ w).alloc (Nat.le_refl _) _).alloc (by simp) _).alloc (by simp; omega) _) (by simp) hr hl
  have hb0 : AtB ((((w.alloc (.cells #[.string ⟨#[]⟩, .string ⟨#[]⟩, .int .i64 0] 30)).alloc (.cells #[.string ⟨#[]⟩, .string ⟨#[]⟩, .int .i64 0] 30)).alloc (.cells #[.string ⟨#[]⟩, .string ⟨#[]⟩, .int .i64 0] 30)).alloc (.cells #[.slice A9 m9 c9, .bool true, .bool false] 88)) w.heap.size 30 #[.string ⟨#[]⟩, .string ⟨#[]⟩, .int .i64 0] := (((at_make rfl).alloc _).alloc _).alloc _
  have hb1 : AtB ((((w.alloc (.cells #[.string ⟨#[]⟩, .string ⟨#[]⟩, .int .i64 0] 30)).alloc (.cells #[.string ⟨#[]⟩, .string ⟨#[]⟩, .int .i64 0] 30)).alloc (.cells #[.string ⟨#[]⟩, .string ⟨#[]⟩, .int .i64 0] 30)).alloc (.cells #[.slice A9 m9 c9, .bool true, .bool false] 88)) (w.heap.size + 1) 30 #[.string ⟨#[]⟩, .string ⟨#[]⟩, .int .i64 0] := ((at_make (by simp)).alloc _).alloc _
  have hb2 : AtB ((((w.alloc (.cells #[.string ⟨#[]⟩, .string ⟨#[]⟩, .int .i64 0] 30)).alloc (.cells #[.string ⟨#[]⟩, .string ⟨#[]⟩, .int .i64 0] 30)).alloc (.cells #[.string ⟨#[]⟩, .string ⟨#[]⟩, .int .i64 0] 30)).alloc (.cells #[.slice A9 m9 c9, .bool true, .bool false] 88)) (w.heap.size + 1 + 1) 30 #[.string ⟨#[]⟩, .string ⟨#[]⟩, .int .i64 0] := (at_make (by simp)).alloc _
  have h00 : Below w.heap.size w ((((w.alloc (.cells #[.string ⟨#[]⟩, .string ⟨#[]⟩, .int .i64 0] 30)).alloc (.cells #[.string ⟨#[]⟩, .string ⟨#[]⟩, .int .i64 0] 30)).alloc (.cells #[.string ⟨#[]⟩, .string ⟨#[]⟩, .int .i64 0] 30)).alloc (.cells #[.slice A9 m9 c9, .bool true, .bool false] 88)) := hrs.below
  have h01 : ((((w.alloc (.cells #[.string ⟨#[]⟩, .string ⟨#[]⟩, .int .i64 0] 30)).alloc (.cells #[.string ⟨#[]⟩, .string ⟨#[]⟩, .int .i64 0] 30)).alloc (.cells #[.string ⟨#[]⟩, .string ⟨#[]⟩, .int .i64 0] 30)).alloc (.cells #[.slice A9 m9 c9, .bool true, .bool false] 88)).heap.size = w.heap.size + 1 + 1 + 1 + 1 := by simp
  obtain ⟨⟨x, l5, b5⟩, hz⟩ : ∃ z, refreshR l false = z := ⟨_, rfl⟩
  have hcall := refresh_r hrs hb1 (by omega) (by omega)
  rw [hz] at hcall ⊢
  have HC := hid hcall
  have HB0 := hid hb0
  have HB2 := hid hb2
  have HB := hid h00
  clear hcall hrs hb0 hb1 hb2 h00 hz hr
  go_enter Try.func25, Try.ntmps25
  go_wp2_with fail
  refine HC.out.mono ?_
  clear HC h01
  intro e w5 hq
  obtain ⟨rfl, h, ⟨cs3, ha, hM⟩, hm⟩ := hq
  rw [World.size_alloc, World.size_alloc, World.size_alloc, World.size_alloc] at hM
  obtain rfl := k30_openM hM
  have hMB := k30.M_bound hM
  have HMM := hid hMB
  clear hM hMB 
  have hb0 := HB0.out.mod hm (by omega)
  have hb2 := HB2.out.mod hm (by omega)
  have hbb : Below w.heap.size w w5 := HB.out.trans (hm.below (by simp; omega) (fun q e => by omega))
  have hx0 : w5.cell? ⟨w.heap.size + 1, 0, none⟩ = some (.string x.f0) := ha.cell 0
  have hx1 : w5.cell? ⟨w.heap.size + 1, 1, none⟩ = some (.string x.f1) := ha.cell 1
  have hx2 : w5.cell? ⟨w.heap.size + 1, 2, none⟩ = some (.int .i64 x.f2) := ha.cell 2
  have hn0 : w5.cell? ⟨w.heap.size + 1 + 1, 0, none⟩ = some (.string ⟨#[]⟩) := hb2.cell 0
  have hn1 : w5.cell? ⟨w.heap.size + 1 + 1, 1, none⟩ = some (.string ⟨#[]⟩) := hb2.cell 1
  have hn2 : w5.cell? ⟨w.heap.size + 1 + 1, 2, none⟩ = some (.int .i64 0) := hb2.cell 2
  have hr0 : w5.cell? ⟨w.heap.size, 0, none⟩ = some (.string ⟨#[]⟩) := hb0.cell 0
  have hf0 := hb0.free 0
  have hr1 : w5.cell? ⟨w.heap.size, 1, none⟩ = some (.string ⟨#[]⟩) := hb0.cell 1
  have hf1 := hb0.free 1
  have hr2 : w5.cell? ⟨w.heap.size, 2, none⟩ = some (.int .i64 0) := hb0.cell 2
  have hf2 := hb0.free 2
  obtain ⟨v7, hr7, d0, d1, d2, _, _⟩ := h.cells
  obtain ⟨A7, c7, rfl⟩ : ∃ A c, v7 = .slice A l5.length c := by
    rcases hr7 with ⟨rfl, rfl⟩ | ⟨b, o, cap, rfl, _, _⟩ <;> exact ⟨_, _, rfl⟩
  clear HB HB0 HB2
  have HB := hid hbb
  have HB0 := hid hb0
  clear hbb hb0 hb2 ha hm h hr7
  cases b5 with
  | true =>
    · go_wp2
      have q0 : AtB _ w.heap.size 30 #[.string ⟨#[]⟩, .string ⟨#[]⟩, .int .i64 0] := AtB.set HB0.out 0 (.string ⟨#[]⟩ : Value)
      have q1 : AtB _ w.heap.size 30 #[.string ⟨#[]⟩, .string ⟨#[]⟩, .int .i64 0] := AtB.set q0 1 (.string ⟨#[]⟩ : Value)
      have q2 : AtB _ w.heap.size 30 #[.string ⟨#[]⟩, .string ⟨#[]⟩, .int .i64 0] := AtB.set q1 2 (.int .i64 0 : Value)
      have hres2 := q2
      refine bodyPost_ret (results_ct rfl _ _ w.heap.size 30 #[.string ⟨#[]⟩, .string ⟨#[]⟩, .int .i64 0] (0, 0) _ rfl hres2 Try.underlying30 rfl (by kernel_rfl)) rfl ?_
      rw [show unR (x, l5, true) = none from if_pos (.inl rfl)]
      exact ⟨[.string ⟨#[]⟩, .string ⟨#[]⟩, .int .i64 0], rfl, (k30_mkM _ _ _ z30), (((HB.out.setCell (p := ⟨w.heap.size, 0, none⟩) (Nat.le_refl _) _).setCell (p := ⟨w.heap.size, 1, none⟩) (Nat.le_refl _) _).setCell (p := ⟨w.heap.size, 2, none⟩) (Nat.le_refl _) _)⟩
  | false =>
    by_cases h5 : 0 < l5.length
    · have t1 : decide ((0 : Int) < (l5.length : Int)) = true := decide_eq_true (by omega)
      have t2 : decide (0 < l5.length) = true := decide_eq_true h5
      go_wp2
      have q0 : AtB _ w.heap.size 30 #[.string ⟨#[]⟩, .string ⟨#[]⟩, .int .i64 0] := AtB.set HB0.out 0 (.string ⟨#[]⟩ : Value)
      have q1 : AtB _ w.heap.size 30 #[.string ⟨#[]⟩, .string ⟨#[]⟩, .int .i64 0] := AtB.set q0 1 (.string ⟨#[]⟩ : Value)
      have q2 : AtB _ w.heap.size 30 #[.string ⟨#[]⟩, .string ⟨#[]⟩, .int .i64 0] := AtB.set q1 2 (.int .i64 0 : Value)
      have hres2 := q2
      refine bodyPost_ret (results_ct rfl _ _ w.heap.size 30 #[.string ⟨#[]⟩, .string ⟨#[]⟩, .int .i64 0] (0, 0) _ rfl hres2 Try.underlying30 rfl (by kernel_rfl)) rfl ?_
      rw [show unR (x, l5, false) = none from if_pos (.inr h5)]
      exact ⟨[.string ⟨#[]⟩, .string ⟨#[]⟩, .int .i64 0], rfl, (k30_mkM _ _ _ z30), (((HB.out.setCell (p := ⟨w.heap.size, 0, none⟩) (Nat.le_refl _) _).setCell (p := ⟨w.heap.size, 1, none⟩) (Nat.le_refl _) _).setCell (p := ⟨w.heap.size, 2, none⟩) (Nat.le_refl _) _)⟩
    · have h50 : l5 = [] := List.eq_nil_of_length_eq_zero (by omega)
      subst h50
      have t1 : decide ((0 : Int) < ((([] : List UInt8).length : Nat) : Int)) = false := rfl
      go_wp2
      have q0 : AtB _ w.heap.size 30 #[.string x.f0, .string ⟨#[]⟩, .int .i64 0] := AtB.set HB0.out 0 (.string x.f0 : Value)
      have q1 : AtB _ w.heap.size 30 #[.string x.f0, .string x.f1, .int .i64 0] := AtB.set q0 1 (.string x.f1 : Value)
      have q2 : AtB _ w.heap.size 30 #[.string x.f0, .string x.f1, .int .i64 x.f2] := AtB.set q1 2 (.int .i64 x.f2 : Value)
      have hres2 := q2
      refine bodyPost_ret (results_ct rfl _ _ w.heap.size 30 #[.string x.f0, .string x.f1, .int .i64 x.f2] (0, 0) _ rfl hres2 Try.underlying30 rfl (by kernel_rfl)) rfl ?_
      rw [show unR (x, ([] : List UInt8), false) = some x from if_neg (by simp)]
      have hM1 := HMM.out
      exact ⟨[.string x.f0, .string x.f1, .int .i64 x.f2], rfl, up_mem hM1 (fun q hq => by have := hq.2.1; omega) (by omega) ((((Mod.refl (fun q => q = w.heap.size) w5).setCell ⟨w.heap.size, 0, none⟩ (.string x.f0 : Value) (.inl rfl)).setCell ⟨w.heap.size, 1, none⟩ (.string x.f1 : Value) (.inl rfl)).setCell ⟨w.heap.size, 2, none⟩ (.int .i64 x.f2 : Value) (.inl rfl)), (((HB.out.setCell (p := ⟨w.heap.size, 0, none⟩) (Nat.le_refl _) _).setCell (p := ⟨w.heap.size, 1, none⟩) (Nat.le_refl _) _).setCell (p := ⟨w.heap.size, 2, none⟩) (Nat.le_refl _) _)⟩
set_option maxHeartbeats 8000000 in
set_option maxRecDepth 100000 in
theorem toRefresh_any (w : World) (v : Value) (l : List UInt8) (hr : ReadsB w v l) (hl : l.length ≤ 1099511627776) :
    Calls Try.prog 9 #[v] w (UP k30 z30 (unR (refreshR l false)) w) := by
  have h00 : Below w.heap.size w (w.alloc (.cells #[.string ⟨#[]⟩, .string ⟨#[]⟩, .int .i64 0] 30)) := (Below.refl _ w).alloc (Nat.le_refl _) _
  have hb0 : AtB (w.alloc (.cells #[.string ⟨#[]⟩, .string ⟨#[]⟩, .int .i64 0] 30)) w.heap.size 30 #[.string ⟨#[]⟩, .string ⟨#[]⟩, .int .i64 0] := at_make rfl
  obtain ⟨o, ho⟩ : ∃ o, unR (refreshR l false) = o := ⟨_, rfl⟩
  have hcall := unpackRefresh_any (w.alloc (.cells #[.string ⟨#[]⟩, .string ⟨#[]⟩, .int .i64 0] 30)) v l (hr.below h00) hl
  rw [ho] at hcall ⊢
  have HC := hid hcall
  have HB0 := hid hb0
  have HB := hid h00
  clear hcall hb0 h00 ho hr
  go_enter Try.func9, Try.ntmps9
  go_wp2_with (go_at_call 25; refine HC.out.mono ?_)
  clear HC
  intro e w5 hq
  obtain ⟨cs3, rfl, hM, hb⟩ := hq
  rw [World.size_alloc] at hM hb
  obtain ⟨y, hy⟩ : ∃ y, o.getD z30 = y := ⟨_, rfl⟩
  rw [hy] at hM
  have HY := hid hy
  clear hy
  obtain rfl := k30_openM hM
  have hMB := k30.M_bound hM
  have HMM := hid hMB
  clear hM hMB 
  have hb0 : AtB w5 w.heap.size 30 #[.string ⟨#[]⟩, .string ⟨#[]⟩, .int .i64 0] := (hb.block w.heap.size (by omega)).trans HB0.out
  have hbb : Below w.heap.size w w5 := HB.out.trans (hb.mono (by omega))
  have hr0 : w5.cell? ⟨w.heap.size, 0, none⟩ = some (.string ⟨#[]⟩) := hb0.cell 0
  have hf0 := hb0.free 0
  have hr1 : w5.cell? ⟨w.heap.size, 1, none⟩ = some (.string ⟨#[]⟩) := hb0.cell 1
  have hf1 := hb0.free 1
  have hr2 : w5.cell? ⟨w.heap.size, 2, none⟩ = some (.int .i64 0) := hb0.cell 2
  have hf2 := hb0.free 2
  clear HB HB0
  have HB := hid hbb
  have HB0 := hid hb0
  obtain ⟨ev, hev⟩ : ∃ ev, errV o.isSome = ev := ⟨_, rfl⟩
  rw [hev]
  have HEV := hid hev
  clear hbb hb0 hb hev
  go_wp2
  have q0 : AtB _ w.heap.size 30 #[.string y.f0, .string ⟨#[]⟩, .int .i64 0] := AtB.set HB0.out 0 (.string y.f0 : Value)
  have q1 : AtB _ w.heap.size 30 #[.string y.f0, .string y.f1, .int .i64 0] := AtB.set q0 1 (.string y.f1 : Value)
  have q2 : AtB _ w.heap.size 30 #[.string y.f0, .string y.f1, .int .i64 y.f2] := AtB.set q1 2 (.int .i64 y.f2 : Value)
  have hres2 := q2
  refine bodyPost_ret (results_ct rfl _ _ w.heap.size 30 #[.string y.f0, .string y.f1, .int .i64 y.f2] (0, 0) _ rfl hres2 Try.underlying30 rfl (by kernel_rfl)) rfl ?_
  refine ⟨[.string y.f0, .string y.f1, .int .i64 y.f2], by rw [HEV.out]; rfl, ?_, (((HB.out.setCell (p := ⟨w.heap.size, 0, none⟩) (Nat.le_refl _) _).setCell (p := ⟨w.heap.size, 1, none⟩) (Nat.le_refl _) _).setCell (p := ⟨w.heap.size, 2, none⟩) (Nat.le_refl _) _)⟩
  rw [HY.out]
  exact up_mem HMM.out (fun q hq => by have := hq.2.1; omega) (by omega) ((((Mod.refl (fun q => q = w.heap.size) w5).setCell ⟨w.heap.size, 0, none⟩ (.string y.f0 : Value) (.inl rfl)).setCell ⟨w.heap.size, 1, none⟩ (.string y.f1 : Value) (.inl rfl)).setCell ⟨w.heap.size, 2, none⟩ (.int .i64 y.f2 : Value) (.inl rfl))
end Go.Proofs.Ytcgjacffemjehaa

namespace Go.Proofs.Ytcgjacffemjehaa
open Go.RowKit
open Go.Proofs.YtcgjacffemjehaaW.PrintWords (Kd rdOf)
open Go.Proofs.Ytcgjacffemjehaa.PRowPacks
set_option linter.unusedVariables false
theorem amax2 (k k' : IntKind) (x y : Int) : Builtin.max2 (.int k x) (.int k' y) = pure (.int k (if x < y then y else x)) := by simp only [Builtin.max2]
theorem amax_two (ats : Array TypeId) (ty : TypeId) (a b : Value) : Builtin.max_ ats ty #[a, b] = (Builtin.max2 a b >>= fun s => pure s) := by simp only [Builtin.max_, List.foldlM_cons, List.foldlM_nil]
attribute [local go_sem] amax2 amax_two
def exR : S30 := ⟨⟨#[104]⟩, ⟨#[102]⟩, 3⟩
def exB : List UInt8 := [0, 0, 0, 1, 104, 0, 0, 0, 1, 102, 0, 0, 0, 0, 0, 0, 0, 3]
theorem ex_bytes : refreshB exR = exB := by rfl
theorem ex_read : unR (refreshR exB false) = some exR := by rfl
theorem ex_short : unR (refreshR (exB.take 17) false) = none := by rfl
set_option maxHeartbeats 8000000 in
set_option maxRecDepth 100000 in
theorem alive_any (w : World) : Calls Try.prog 4 #[] w (TruePost w) := by
  have h1 : Calls Try.prog 8 #[.agg #[.string ⟨#[104]⟩, .string ⟨#[102]⟩, .int .i64 3]] w (BytesPost exB w) := by
    have := rowRefresh_any w exR ⟨(show (1 : Nat) ≤ 1048576 by omega), (show (1 : Nat) ≤ 1048576 by omega), (show (-9223372036854775808 : Int) ≤ 3 by omega), (show (3 : Int) ≤ 9223372036854775807 by omega)⟩ (by decide)
    rw [ex_bytes] at this
    exact this
  have H1 := hid h1
  clear h1
  go_enter Try.func4, Try.ntmps4
  go_wp2_with fail
  refine H1.out.mono ?_
  intro e w1 hq
  obtain ⟨v1, rfl, hr1, hb1⟩ := hq
  obtain ⟨B, o, cap, rfl, hcap, _⟩ := reads_some hr1 18 rfl (by omega)
  have HR1 := hid hr1
  have HB1 := hid hb1
  clear hr1 hb1
  go_wp2_with fail
  refine (toRefresh_any w1 _ exB HR1.out (by decide)).mono ?_
  rw [ex_read]
  intro e w2 hq
  obtain ⟨cs2, rfl, hM2, hb2⟩ := hq
  obtain rfl := k30_openM hM2
  have HB2 := hid (below_then HB1.out hb2)
  have HR2 := hid (HR1.out.below hb2)
  have HR3 := hid (reads_take HR2.out 17 (by omega))
  clear hM2 hb2
  go_wp2_with fail
  have hal : Below w2.heap.size w2 (w2.alloc (.cells #[.string exR.f0, .string exR.f1, .int .i64 exR.f2] 30)) := (Below.refl _ w2).alloc (Nat.le_refl _) _
  have hcl := cells_of_alloc w2 #[.string exR.f0, .string exR.f1, .int .i64 exR.f2] 30 2 (.int .i64 3) rfl
  refine (toRefresh_any _ _ (exB.take 17) (HR3.out.below hal) (by decide)).mono ?_
  rw [ex_short]
  intro e w3 hq
  obtain ⟨cs3, rfl, hM3, hb3⟩ := hq
  obtain rfl := k30_openM hM3
  have HB3 := hid (below_then HB2.out (below_then hal hb3))
  have hd : w3.cell? ⟨w2.heap.size, 2, none⟩ = some (.int .i64 3) := (hb3.cell (p := ⟨w2.heap.size, 2, none⟩) (by simp)).trans hcl
  have hd2 : ∀ q, (w3.alloc q).cell? ⟨w2.heap.size, 2, none⟩ = some (.int .i64 3) := fun q => (World.cell?_alloc_lt w3 q ⟨w2.heap.size, 2, none⟩ (lt_of_cell hd)).trans hd
  have hr4 := (HR2.out.below hal).below hb3
  have kc := fun q => run_string_of_reads (P := Try.prog) byteT Try.underlying9 (hr4.below ((Below.refl _ w3).alloc (Nat.le_refl _) q))
  have ev1 : errV true = .nilIface := rfl
  have ev2 : errV false = .iface 94 (.int .i64 170) := rfl
  have ekb : strV exB = .string ⟨#[0, 0, 0, 1, 104, 0, 0, 0, 1, 102, 0, 0, 0, 0, 0, 0, 0, 3]⟩ := rfl
  rw [ekb] at kc
  clear hM3 hb3 hal hr4 ekb hcl
  go_wp2
  go_ret
  exact TruePost.mk rfl (HB3.out.alloc HB3.out.size _)
end Go.Proofs.Ytcgjacffemjehaa

namespace Go.Proofs.Ytcgjacffemjehaa
open Go.RowKit
set_option linter.unusedVariables false
theorem range_of_atB {w : World} {b : Nat} {T : TypeId} {vs : Array Value} (h : AtB w b T vs) : w.rangeAt b 0 vs.toList := fun j v hv => by
  rw [Nat.zero_add, h.cell j]
  simpa using hv
theorem range_of_below {a b : World} {g : Nat} {l : List Value} (h : Below a.heap.size a b) (hr : a.rangeAt g 0 l) (hg : 0 < l.length) : b.rangeAt g 0 l := by
  have h0 := hr 0 (l[0]'hg) (by simp)
  have hlt := lt_of_cell h0
  intro j v hv
  rw [h.cell (p := ⟨g, 0 + j, none⟩) hlt]
  exact hr j v hv
def FarP (N : Prop) (w : World) (e : Ending) (w' : World) : Prop := ∃ b, e = .returned (.bool b) ∧ Below w.heap.size w w' ∧ (b = false → N)
set_option maxHeartbeats 8000000 in
set_option maxRecDepth 100000 in
theorem packs_core (w : World) (vs : Array Value) (l : List UInt8) (N : Prop) (hsz : vs.size = 46)
    (hfar : ∀ w1, Below w.heap.size w w1 → Calls Try.prog 5 #[.agg vs] w1 (FarP N w1))
    (hlaw : N → ∀ w1, Below w.heap.size w w1 → Calls Try.prog 6 #[.agg vs] w1 (TextPost l w1))
    (href : N → ∀ w1, Below w.heap.size w w1 → Calls Try.prog 7 #[.agg vs] w1 (TextPost l w1)) :
    Calls Try.prog 3 #[.agg vs] w (TruePost w) := by
  have HF := hid hfar
  have HL := hid hlaw
  have HR := hid href
  clear hfar hlaw href
  have LT : 0 < vs.toList.length := by simp [hsz]
  have hi : (Try.prog.info? 40).map (·.size) = some vs.size := by rw [hsz]; kernel_rfl
  go_enter Try.func3, Try.ntmps3
  have hb0 : Below w.heap.size w (w.alloc (.cells vs 40)) := (Below.refl w.heap.size w).alloc (Nat.le_refl _) _
  have hat0 : AtB (w.alloc (.cells vs 40)) w.heap.size 40 vs := heap_alloc_new w _
  have HB0 := hid hb0
  have HAT0 := hid hat0
  clear hb0 hat0
  go_wp2_with fail
  refine (alive_any _).mono ?_
  rintro e w1 ⟨rfl, hb1⟩
  have hat1 : AtB w1 w.heap.size 40 vs := (hb1.block w.heap.size (lt_of_heap HAT0.out)).trans HAT0.out
  have HAT1 := hid hat1
  have HB1 := hid (below_then HB0.out hb1)
  clear hb1 hat1
  go_wp2_with (refine wpList_load_row rfl 40 (.tmp 1) rfl w.heap.size rfl 40 vs (0, 0) _ HAT1.out Try.underlying40 rfl hi ?_)
  refine (HF.out w1 HB1.out).mono ?_
  rintro e w2 ⟨b, rfl, hb2, hnear⟩
  have hat2 : AtB w2 w.heap.size 40 vs := (hb2.block w.heap.size (lt_of_heap HAT1.out)).trans HAT1.out
  have HAT2 := hid hat2
  have HB2 := hid (below_then HB1.out hb2)
  clear hb2 hat2
  cases b with
  | true =>
    clear hnear
    go_wp2
    go_ret
    exact TruePost.mk rfl HB2.out
  | false =>
    have HN := hid (hnear rfl)
    clear hnear
    go_wp2
    have hrA : w2.drew.rangeAt w.heap.size 0 vs.toList := (World.rangeAt_drew _ _ _ _).2 (range_of_atB HAT2.out)
    have hbA : Below w.heap.size w w2.drew := Below.drew HB2.out
    refine wp_region_held_drew (S := fun W => Below w.heap.size w W ∧ W.rangeAt w.heap.size 0 vs.toList) (by kernel_rfl) ⟨hbA, hrA⟩ (fun hHeld => ?_)
    refine wpAnyH_take (i := 0) (v := _) rfl (by kernel_rfl) (by kernel_rfl) (by kernel_rfl) (fun _ _ _ h => h) (yieldsIf_load_mid (by rfl) _ _ rfl w.heap.size 0 rfl vs.toList _ (fun W hW => hW.2) Try.underlying40 rfl (by simpa using hi)) hHeld ?_
    try simp only [Act.put, List.setIfInBounds_toArray, Array.toArray_toList]
    refine wpAnyH_take (i := 2) (v := _) rfl (by kernel_rfl) (by kernel_rfl) (by kernel_rfl) (fun _ _ _ h => h) (yieldsIf_load_mid (by rfl) _ _ rfl w.heap.size 0 rfl vs.toList _ (fun W hW => hW.2) Try.underlying40 rfl (by simpa using hi)) hHeld ?_
    try simp only [Act.put, Array.toArray_toList]
    refine wpAnyH_ready (rs := [1]) (by kernel_rfl) (by simp) ?_
    refine AllReadyH.cons rfl (fun K hK => ?_) AllReadyH.nil
    go_simp
    refine (HL.out HN.out _ hHeld.1).mono ?_
    rintro e w3 ⟨rfl, hb3⟩
    have hB3 := hHeld.1.trans (hb3.mono hHeld.1.size)
    have hR3 : w3.rangeAt w.heap.size 0 vs.toList := range_of_below hb3 hHeld.2 LT
    clear hHeld
    refine hK.out _ _ ⟨hB3, hR3⟩ (fun hHeld => ?_)
    clear hK K
    try simp only [Act.put, List.setIfInBounds_toArray, List.set_cons_zero, List.set_cons_succ]
    refine wpAnyH_ready (rs := [3]) (by kernel_rfl) (by simp) ?_
    refine AllReadyH.cons rfl (fun K hK => ?_) AllReadyH.nil
    go_simp
    refine (HR.out HN.out _ hHeld.1).mono ?_
    rintro e w4 ⟨rfl, hb4⟩
    have hB4 := hHeld.1.trans (hb4.mono hHeld.1.size)
    have hR4 : w4.rangeAt w.heap.size 0 vs.toList := range_of_below hb4 hHeld.2 LT
    clear hHeld
    refine hK.out _ _ ⟨hB4, hR4⟩ (fun hHeld => ?_)
    clear hK K
    try simp only [Act.put, List.setIfInBounds_toArray, List.set_cons_zero, List.set_cons_succ]
    refine wpAnyH_ready (rs := [4]) (by kernel_rfl) (by simp) ?_
    refine AllReadyH.cons rfl (fun K hK => ?_) AllReadyH.nil
    go_simp
    refine hK.out _ _ hHeld (fun hHeld => ?_)
    clear hK K
    try simp only [Act.put, List.setIfInBounds_toArray, List.set_cons_zero, List.set_cons_succ]
    refine wpAnyH_ready (rs := [5]) (by kernel_rfl) (by simp) ?_
    refine AllReadyH.cons rfl (fun K hK => ?_) AllReadyH.nil
    go_simp
    refine hK.out _ _ hHeld (fun hHeld => ?_)
    clear hK K
    try simp only [Act.put, List.setIfInBounds_toArray, List.set_cons_zero, List.set_cons_succ]
    refine wpAnyH_done (by kernel_rfl) ?_ _
    have HBE := hid hHeld.1
    clear hHeld
    go_wp2
    go_ret
    exact TruePost.mk rfl HBE.out
end Go.Proofs.Ytcgjacffemjehaa

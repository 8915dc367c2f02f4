/-
  RowUResource, RowUTicket, RowUKeys, RowPure, RowW, RowL: this proof's parts in one text.
-/
import Derived.Test.YtcgjacffemjehaaDoorMRowBackRowc
import Derived.Test.YtcgjacffemjehaaDoorMRowBackRowd
import Derived.Test.YtcgjacffemjehaaDoorMRowBackRowe
import Derived.Test.YtcgjacffemjehaaDoorMRowBackRowb
import Derived.Deep.RegionLaw
import Derived.Test.YtcgjacffemjehaaDoorPRowReadsx0
namespace Go.Proofs.YtcgjacffemjehaaDoor
open Go.RowKit
open Go.Proofs.YtcgjacffemjehaaDoorW.PrintWords (Kd rdOf results_ct)
open Go.Proofs.YtcgjacffemjehaaDoor.PRowReads
set_option linter.unusedVariables false
set_option maxHeartbeats 8000000 in
set_option maxRecDepth 100000 in
theorem unpackResource_any (w : World) (v : Value) (l : List UInt8) (hr : ReadsB w v l) (hl : l.length ≤ 1099511627776) :
    Calls Tryd.prog 51 #[v, .func (.func 52) #[] #[]] w (UP k36 z36 (unR (resourceR l false)) w) := by
  obtain ⟨A9, m9, c9, rfl⟩ := reads_form hr
  have hrs := rs_make (g := w.heap.size + 1 + 1 + 1) (W := (((w.alloc (.cells #[.string ⟨#[]⟩, .string ⟨#[]⟩, .string ⟨#[]⟩, .string ⟨#[]⟩, .slice none 0 0, .string ⟨#[]⟩] 36)).alloc (.cells #[.string ⟨#[]⟩, .string ⟨#[]⟩, .string ⟨#[]⟩, .string ⟨#[]⟩, .slice none 0 0, .string ⟨#[]⟩] 36)).alloc (.cells #[.string ⟨#[]⟩, .string ⟨#[]⟩, .string ⟨#[]⟩, .string ⟨#[]⟩, .slice none 0 0, .string ⟨#[]⟩] 36))) ((((Below.refl _ w).alloc (Nat.le_refl _) _).alloc (by simp) _).alloc (by simp; omega) _) (by simp) hr hl
  have hb0 : AtB ((((w.alloc (.cells #[.string ⟨#[]⟩, .string ⟨#[]⟩, .string ⟨#[]⟩, .string ⟨#[]⟩, .slice none 0 0, .string ⟨#[]⟩] 36)).alloc (.cells #[.string ⟨#[]⟩, .string ⟨#[]⟩, .string ⟨#[]⟩, .string ⟨#[]⟩, .slice none 0 0, .string ⟨#[]⟩] 36)).alloc (.cells #[.string ⟨#[]⟩, .string ⟨#[]⟩, .string ⟨#[]⟩, .string ⟨#[]⟩, .slice none 0 0, .string ⟨#[]⟩] 36)).alloc (.cells #[.slice A9 m9 c9, .bool true, .bool false] 129)) w.heap.size 36 #[.string ⟨#[]⟩, .string ⟨#[]⟩, .string ⟨#[]⟩, .string ⟨#[]⟩, .slice none 0 0, .string ⟨#[]⟩] := (((at_make rfl).alloc _).alloc _).alloc _
  have hb1 : AtB ((((w.alloc (.cells #[.string ⟨#[]⟩, .string ⟨#[]⟩, .string ⟨#[]⟩, .string ⟨#[]⟩, .slice none 0 0, .string ⟨#[]⟩] 36)).alloc (.cells #[.string ⟨#[]⟩, .string ⟨#[]⟩, .string ⟨#[]⟩, .string ⟨#[]⟩, .slice none 0 0, .string ⟨#[]⟩] 36)).alloc (.cells #[.string ⟨#[]⟩, .string ⟨#[]⟩, .string ⟨#[]⟩, .string ⟨#[]⟩, .slice none 0 0, .string ⟨#[]⟩] 36)).alloc (.cells #[.slice A9 m9 c9, .bool true, .bool false] 129)) (w.heap.size + 1) 36 #[.string ⟨#[]⟩, .string ⟨#[]⟩, .string ⟨#[]⟩, .string ⟨#[]⟩, .slice none 0 0, .string ⟨#[]⟩] := ((at_make (by simp)).alloc _).alloc _
  have hb2 : AtB ((((w.alloc (.cells #[.string ⟨#[]⟩, .string ⟨#[]⟩, .string ⟨#[]⟩, .string ⟨#[]⟩, .slice none 0 0, .string ⟨#[]⟩] 36)).alloc (.cells #[.string ⟨#[]⟩, .string ⟨#[]⟩, .string ⟨#[]⟩, .string ⟨#[]⟩, .slice none 0 0, .string ⟨#[]⟩] 36)).alloc (.cells #[.string ⟨#[]⟩, .string ⟨#[]⟩, .string ⟨#[]⟩, .string ⟨#[]⟩, .slice none 0 0, .string ⟨#[]⟩] 36)).alloc (.cells #[.slice A9 m9 c9, .bool true, .bool false] 129)) (w.heap.size + 1 + 1) 36 #[.string ⟨#[]⟩, .string ⟨#[]⟩, .string ⟨#[]⟩, .string ⟨#[]⟩, .slice none 0 0, .string ⟨#[]⟩] := (at_make (by simp)).alloc _
  have h00 : Below w.heap.size w ((((w.alloc (.cells #[.string ⟨#[]⟩, .string ⟨#[]⟩, .string ⟨#[]⟩, .string ⟨#[]⟩, .slice none 0 0, .string ⟨#[]⟩] 36)).alloc (.cells #[.string ⟨#[]⟩, .string ⟨#[]⟩, .string ⟨#[]⟩, .string ⟨#[]⟩, .slice none 0 0, .string ⟨#[]⟩] 36)).alloc (.cells #[.string ⟨#[]⟩, .string ⟨#[]⟩, .string ⟨#[]⟩, .string ⟨#[]⟩, .slice none 0 0, .string ⟨#[]⟩] 36)).alloc (.cells #[.slice A9 m9 c9, .bool true, .bool false] 129)) := hrs.below
  have h01 : ((((w.alloc (.cells #[.string ⟨#[]⟩, .string ⟨#[]⟩, .string ⟨#[]⟩, .string ⟨#[]⟩, .slice none 0 0, .string ⟨#[]⟩] 36)).alloc (.cells #[.string ⟨#[]⟩, .string ⟨#[]⟩, .string ⟨#[]⟩, .string ⟨#[]⟩, .slice none 0 0, .string ⟨#[]⟩] 36)).alloc (.cells #[.string ⟨#[]⟩, .string ⟨#[]⟩, .string ⟨#[]⟩, .string ⟨#[]⟩, .slice none 0 0, .string ⟨#[]⟩] 36)).alloc (.cells #[.slice A9 m9 c9, .bool true, .bool false] 129)).heap.size = w.heap.size + 1 + 1 + 1 + 1 := by simp
  obtain ⟨⟨x, l5, b5⟩, hz⟩ : ∃ z, resourceR l false = z := ⟨_, rfl⟩
  have hcall := resource_r hrs hb1 (by omega) (by omega)
  rw [hz] at hcall ⊢
  have HC := hid hcall
  have HB0 := hid hb0
  have HB2 := hid hb2
  have HB := hid h00
  clear hcall hrs hb0 hb1 hb2 h00 hz hr
  go_enter Tryd.func51, Tryd.ntmps51
  go_wp2_with fail
  refine HC.out.mono ?_
  clear HC h01
  intro e w5 hq
  obtain ⟨rfl, h, ⟨cs3, ha, hM⟩, hm⟩ := hq
  rw [World.size_alloc, World.size_alloc, World.size_alloc, World.size_alloc] at hM
  obtain ⟨v4, rfl, g4⟩ := k36_openM hM
  obtain ⟨A4, m4, c4, rfl⟩ := r_form g4
  have hMB := k36.M_bound hM
  have HMM := hid hMB
  clear hM hMB g4
  have hb0 := HB0.out.mod hm (by omega)
  have hb2 := HB2.out.mod hm (by omega)
  have hbb : Below w.heap.size w w5 := HB.out.trans (hm.below (by simp; omega) (fun q e => by omega))
  have hx0 : w5.cell? ⟨w.heap.size + 1, 0, none⟩ = some (.string x.f0) := ha.cell 0
  have hx1 : w5.cell? ⟨w.heap.size + 1, 1, none⟩ = some (.string x.f1) := ha.cell 1
  have hx2 : w5.cell? ⟨w.heap.size + 1, 2, none⟩ = some (.string x.f2) := ha.cell 2
  have hx3 : w5.cell? ⟨w.heap.size + 1, 3, none⟩ = some (.string x.f3) := ha.cell 3
  have hx4 : w5.cell? ⟨w.heap.size + 1, 4, none⟩ = some (.slice A4 m4 c4) := ha.cell 4
  have hx5 : w5.cell? ⟨w.heap.size + 1, 5, none⟩ = some (.string x.f5) := ha.cell 5
  have hn0 : w5.cell? ⟨w.heap.size + 1 + 1, 0, none⟩ = some (.string ⟨#[]⟩) := hb2.cell 0
  have hn1 : w5.cell? ⟨w.heap.size + 1 + 1, 1, none⟩ = some (.string ⟨#[]⟩) := hb2.cell 1
  have hn2 : w5.cell? ⟨w.heap.size + 1 + 1, 2, none⟩ = some (.string ⟨#[]⟩) := hb2.cell 2
  have hn3 : w5.cell? ⟨w.heap.size + 1 + 1, 3, none⟩ = some (.string ⟨#[]⟩) := hb2.cell 3
  have hn4 : w5.cell? ⟨w.heap.size + 1 + 1, 4, none⟩ = some (.slice none 0 0) := hb2.cell 4
  have hn5 : w5.cell? ⟨w.heap.size + 1 + 1, 5, none⟩ = some (.string ⟨#[]⟩) := hb2.cell 5
  have hr0 : w5.cell? ⟨w.heap.size, 0, none⟩ = some (.string ⟨#[]⟩) := hb0.cell 0
  have hf0 := hb0.free 0
  have hr1 : w5.cell? ⟨w.heap.size, 1, none⟩ = some (.string ⟨#[]⟩) := hb0.cell 1
  have hf1 := hb0.free 1
  have hr2 : w5.cell? ⟨w.heap.size, 2, none⟩ = some (.string ⟨#[]⟩) := hb0.cell 2
  have hf2 := hb0.free 2
  have hr3 : w5.cell? ⟨w.heap.size, 3, none⟩ = some (.string ⟨#[]⟩) := hb0.cell 3
  have hf3 := hb0.free 3
  have hr4 : w5.cell? ⟨w.heap.size, 4, none⟩ = some (.slice none 0 0) := hb0.cell 4
  have hf4 := hb0.free 4
  have hr5 : w5.cell? ⟨w.heap.size, 5, none⟩ = some (.string ⟨#[]⟩) := hb0.cell 5
  have hf5 := hb0.free 5
  obtain ⟨v7, hr7, d0, d1, d2, _, _⟩ := h.cells
  obtain ⟨A7, c7, rfl⟩ : ∃ A c, v7 = .slice A l5.length c := by
    rcases hr7 with ⟨rfl, rfl⟩ | ⟨b, o, cap, rfl, _, _⟩ <;> exact ⟨_, _, rfl⟩
  clear HB HB0 HB2
  have HB := hid hbb
  have HB0 := hid hb0
  clear hbb hb0 hb2 ha hm h hr7
  cases b5 with
  | true =>
    · go_wp2
      have q0 : AtB _ w.heap.size 36 #[.string ⟨#[]⟩, .string ⟨#[]⟩, .string ⟨#[]⟩, .string ⟨#[]⟩, .slice none 0 0, .string ⟨#[]⟩] := AtB.set HB0.out 0 (.string ⟨#[]⟩ : Value)
      have q1 : AtB _ w.heap.size 36 #[.string ⟨#[]⟩, .string ⟨#[]⟩, .string ⟨#[]⟩, .string ⟨#[]⟩, .slice none 0 0, .string ⟨#[]⟩] := AtB.set q0 1 (.string ⟨#[]⟩ : Value)
      have q2 : AtB _ w.heap.size 36 #[.string ⟨#[]⟩, .string ⟨#[]⟩, .string ⟨#[]⟩, .string ⟨#[]⟩, .slice none 0 0, .string ⟨#[]⟩] := AtB.set q1 2 (.string ⟨#[]⟩ : Value)
      have q3 : AtB _ w.heap.size 36 #[.string ⟨#[]⟩, .string ⟨#[]⟩, .string ⟨#[]⟩, .string ⟨#[]⟩, .slice none 0 0, .string ⟨#[]⟩] := AtB.set q2 3 (.string ⟨#[]⟩ : Value)
      have q4 : AtB _ w.heap.size 36 #[.string ⟨#[]⟩, .string ⟨#[]⟩, .string ⟨#[]⟩, .string ⟨#[]⟩, .slice none 0 0, .string ⟨#[]⟩] := AtB.set q3 4 (.slice none 0 0 : Value)
      have q5 : AtB _ w.heap.size 36 #[.string ⟨#[]⟩, .string ⟨#[]⟩, .string ⟨#[]⟩, .string ⟨#[]⟩, .slice none 0 0, .string ⟨#[]⟩] := AtB.set q4 5 (.string ⟨#[]⟩ : Value)
      have hres2 := q5
      refine bodyPost_ret (results_ct rfl _ _ w.heap.size 36 #[.string ⟨#[]⟩, .string ⟨#[]⟩, .string ⟨#[]⟩, .string ⟨#[]⟩, .slice none 0 0, .string ⟨#[]⟩] (0, 0) _ rfl hres2 Tryd.underlying36 rfl (by kernel_rfl)) rfl ?_
      rw [show unR (x, l5, true) = none from if_pos (.inl rfl)]
      exact ⟨[.string ⟨#[]⟩, .string ⟨#[]⟩, .string ⟨#[]⟩, .string ⟨#[]⟩, .slice none 0 0, .string ⟨#[]⟩], rfl, (k36_mkM _ _ _ z36 (Kd.R_nil _ _ _ _ _)), ((((((HB.out.setCell (p := ⟨w.heap.size, 0, none⟩) (Nat.le_refl _) _).setCell (p := ⟨w.heap.size, 1, none⟩) (Nat.le_refl _) _).setCell (p := ⟨w.heap.size, 2, none⟩) (Nat.le_refl _) _).setCell (p := ⟨w.heap.size, 3, none⟩) (Nat.le_refl _) _).setCell (p := ⟨w.heap.size, 4, none⟩) (Nat.le_refl _) _).setCell (p := ⟨w.heap.size, 5, none⟩) (Nat.le_refl _) _)⟩
  | false =>
    by_cases h5 : 0 < l5.length
    · have t1 : decide ((0 : Int) < (l5.length : Int)) = true := decide_eq_true (by omega)
      have t2 : decide (0 < l5.length) = true := decide_eq_true h5
      go_wp2
      have q0 : AtB _ w.heap.size 36 #[.string ⟨#[]⟩, .string ⟨#[]⟩, .string ⟨#[]⟩, .string ⟨#[]⟩, .slice none 0 0, .string ⟨#[]⟩] := AtB.set HB0.out 0 (.string ⟨#[]⟩ : Value)
      have q1 : AtB _ w.heap.size 36 #[.string ⟨#[]⟩, .string ⟨#[]⟩, .string ⟨#[]⟩, .string ⟨#[]⟩, .slice none 0 0, .string ⟨#[]⟩] := AtB.set q0 1 (.string ⟨#[]⟩ : Value)
      have q2 : AtB _ w.heap.size 36 #[.string ⟨#[]⟩, .string ⟨#[]⟩, .string ⟨#[]⟩, .string ⟨#[]⟩, .slice none 0 0, .string ⟨#[]⟩] := AtB.set q1 2 (.string ⟨#[]⟩ : Value)
      have q3 : AtB _ w.heap.size 36 #[.string ⟨#[]⟩, .string ⟨#[]⟩, .string ⟨#[]⟩, .string ⟨#[]⟩, .slice none 0 0, .string ⟨#[]⟩] := AtB.set q2 3 (.string ⟨#[]⟩ : Value)
      have q4 : AtB _ w.heap.size 36 #[.string ⟨#[]⟩, .string ⟨#[]⟩, .string ⟨#[]⟩, .string ⟨#[]⟩, .slice none 0 0, .string ⟨#[]⟩] := AtB.set q3 4 (.slice none 0 0 : Value)
      have q5 : AtB _ w.heap.size 36 #[.string ⟨#[]⟩, .string ⟨#[]⟩, .string ⟨#[]⟩, .string ⟨#[]⟩, .slice none 0 0, .string ⟨#[]⟩] := AtB.set q4 5 (.string ⟨#[]⟩ : Value)
      have hres2 := q5
      refine bodyPost_ret (results_ct rfl _ _ w.heap.size 36 #[.string ⟨#[]⟩, .string ⟨#[]⟩, .string ⟨#[]⟩, .string ⟨#[]⟩, .slice none 0 0, .string ⟨#[]⟩] (0, 0) _ rfl hres2 Tryd.underlying36 rfl (by kernel_rfl)) rfl ?_
      rw [show unR (x, l5, false) = none from if_pos (.inr h5)]
      exact ⟨[.string ⟨#[]⟩, .string ⟨#[]⟩, .string ⟨#[]⟩, .string ⟨#[]⟩, .slice none 0 0, .string ⟨#[]⟩], rfl, (k36_mkM _ _ _ z36 (Kd.R_nil _ _ _ _ _)), ((((((HB.out.setCell (p := ⟨w.heap.size, 0, none⟩) (Nat.le_refl _) _).setCell (p := ⟨w.heap.size, 1, none⟩) (Nat.le_refl _) _).setCell (p := ⟨w.heap.size, 2, none⟩) (Nat.le_refl _) _).setCell (p := ⟨w.heap.size, 3, none⟩) (Nat.le_refl _) _).setCell (p := ⟨w.heap.size, 4, none⟩) (Nat.le_refl _) _).setCell (p := ⟨w.heap.size, 5, none⟩) (Nat.le_refl _) _)⟩
    · have h50 : l5 = [] := List.eq_nil_of_length_eq_zero (by omega)
      subst h50
      have t1 : decide ((0 : Int) < ((([] : List UInt8).length : Nat) : Int)) = false := rfl
      go_wp2
      have q0 : AtB _ w.heap.size 36 #[.string x.f0, .string ⟨#[]⟩, .string ⟨#[]⟩, .string ⟨#[]⟩, .slice none 0 0, .string ⟨#[]⟩] := AtB.set HB0.out 0 (.string x.f0 : Value)
      have q1 : AtB _ w.heap.size 36 #[.string x.f0, .string x.f1, .string ⟨#[]⟩, .string ⟨#[]⟩, .slice none 0 0, .string ⟨#[]⟩] := AtB.set q0 1 (.string x.f1 : Value)
      have q2 : AtB _ w.heap.size 36 #[.string x.f0, .string x.f1, .string x.f2, .string ⟨#[]⟩, .slice none 0 0, .string ⟨#[]⟩] := AtB.set q1 2 (.string x.f2 : Value)
      have q3 : AtB _ w.heap.size 36 #[.string x.f0, .string x.f1, .string x.f2, .string x.f3, .slice none 0 0, .string ⟨#[]⟩] := AtB.set q2 3 (.string x.f3 : Value)
      have q4 : AtB _ w.heap.size 36 #[.string x.f0, .string x.f1, .string x.f2, .string x.f3, .slice A4 m4 c4, .string ⟨#[]⟩] := AtB.set q3 4 (.slice A4 m4 c4 : Value)
      have q5 : AtB _ w.heap.size 36 #[.string x.f0, .string x.f1, .string x.f2, .string x.f3, .slice A4 m4 c4, .string x.f5] := AtB.set q4 5 (.string x.f5 : Value)
      have hres2 := q5
      refine bodyPost_ret (results_ct rfl _ _ w.heap.size 36 #[.string x.f0, .string x.f1, .string x.f2, .string x.f3, .slice A4 m4 c4, .string x.f5] (0, 0) _ rfl hres2 Tryd.underlying36 rfl (by kernel_rfl)) rfl ?_
      rw [show unR (x, ([] : List UInt8), false) = some x from if_neg (by simp)]
      have hM1 := HMM.out
      exact ⟨[.string x.f0, .string x.f1, .string x.f2, .string x.f3, .slice A4 m4 c4, .string x.f5], rfl, up_mem hM1 (fun q hq => by have := hq.2.1; omega) (by omega) (((((((Mod.refl (fun q => q = w.heap.size) w5).setCell ⟨w.heap.size, 0, none⟩ (.string x.f0 : Value) (.inl rfl)).setCell ⟨w.heap.size, 1, none⟩ (.string x.f1 : Value) (.inl rfl)).setCell ⟨w.heap.size, 2, none⟩ (.string x.f2 : Value) (.inl rfl)).setCell ⟨w.heap.size, 3, none⟩ (.string x.f3 : Value) (.inl rfl)).setCell ⟨w.heap.size, 4, none⟩ (.slice A4 m4 c4 : Value) (.inl rfl)).setCell ⟨w.heap.size, 5, none⟩ (.string x.f5 : Value) (.inl rfl)), ((((((HB.out.setCell (p := ⟨w.heap.size, 0, none⟩) (Nat.le_refl _) _).setCell (p := ⟨w.heap.size, 1, none⟩) (Nat.le_refl _) _).setCell (p := ⟨w.heap.size, 2, none⟩) (Nat.le_refl _) _).setCell (p := ⟨w.heap.size, 3, none⟩) (Nat.le_refl _) _).setCell (p := ⟨w.heap.size, 4, none⟩) (Nat.le_refl _) _).setCell (p := ⟨w.heap.size, 5, none⟩) (Nat.le_refl _) _)⟩
set_option maxHeartbeats 8000000 in
set_option maxRecDepth 100000 in
theorem toResource_any (w : World) (v : Value) (l : List UInt8) (hr : ReadsB w v l) (hl : l.length ≤ 1099511627776) :
    Calls Tryd.prog 17 #[v] w (UP k36 z36 (unR (resourceR l false)) w) := by
  have h00 : Below w.heap.size w (w.alloc (.cells #[.string ⟨#[]⟩, .string ⟨#[]⟩, .string ⟨#[]⟩, .string ⟨#[]⟩, .slice none 0 0, .string ⟨#[]⟩] 36)) := (Below.refl _ w).alloc (Nat.le_refl _) _
  have hb0 : AtB (w.alloc (.cells #[.string ⟨#[]⟩, .string ⟨#[]⟩, .string ⟨#[]⟩, .string ⟨#[]⟩, .slice none 0 0, .string ⟨#[]⟩] 36)) w.heap.size 36 #[.string ⟨#[]⟩, .string ⟨#[]⟩, .string ⟨#[]⟩, .string ⟨#[]⟩, .slice none 0 0, .string ⟨#[]⟩] := at_make rfl
  obtain ⟨o, ho⟩ : ∃ o, unR (resourceR l false) = o := ⟨_, rfl⟩
  have hcall := unpackResource_any (w.alloc (.cells #[.string ⟨#[]⟩, .string ⟨#[]⟩, .string ⟨#[]⟩, .string ⟨#[]⟩, .slice none 0 0, .string ⟨#[]⟩] 36)) v l (hr.below h00) hl
  rw [ho] at hcall ⊢
  have HC := hid hcall
  have HB0 := hid hb0
  have HB := hid h00
  clear hcall hb0 h00 ho hr
  go_enter Tryd.func17, Tryd.ntmps17
  go_wp2_with (go_at_call 51; refine HC.out.mono ?_)
  clear HC
  intro e w5 hq
  obtain ⟨cs3, rfl, hM, hb⟩ := hq
  rw [World.size_alloc] at hM hb
  obtain ⟨y, hy⟩ : ∃ y, o.getD z36 = y := ⟨_, rfl⟩
  rw [hy] at hM
  have HY := hid hy
  clear hy
  obtain ⟨v4, rfl, g4⟩ := k36_openM hM
  obtain ⟨A4, m4, c4, rfl⟩ := r_form g4
  have hMB := k36.M_bound hM
  have HMM := hid hMB
  clear hM hMB g4
  have hb0 : AtB w5 w.heap.size 36 #[.string ⟨#[]⟩, .string ⟨#[]⟩, .string ⟨#[]⟩, .string ⟨#[]⟩, .slice none 0 0, .string ⟨#[]⟩] := (hb.block w.heap.size (by omega)).trans HB0.out
  have hbb : Below w.heap.size w w5 := HB.out.trans (hb.mono (by omega))
  have hr0 : w5.cell? ⟨w.heap.size, 0, none⟩ = some (.string ⟨#[]⟩) := hb0.cell 0
  have hf0 := hb0.free 0
  have hr1 : w5.cell? ⟨w.heap.size, 1, none⟩ = some (.string ⟨#[]⟩) := hb0.cell 1
  have hf1 := hb0.free 1
  have hr2 : w5.cell? ⟨w.heap.size, 2, none⟩ = some (.string ⟨#[]⟩) := hb0.cell 2
  have hf2 := hb0.free 2
  have hr3 : w5.cell? ⟨w.heap.size, 3, none⟩ = some (.string ⟨#[]⟩) := hb0.cell 3
  have hf3 := hb0.free 3
  have hr4 : w5.cell? ⟨w.heap.size, 4, none⟩ = some (.slice none 0 0) := hb0.cell 4
  have hf4 := hb0.free 4
  have hr5 : w5.cell? ⟨w.heap.size, 5, none⟩ = some (.string ⟨#[]⟩) := hb0.cell 5
  have hf5 := hb0.free 5
  clear HB HB0
  have HB := hid hbb
  have HB0 := hid hb0
  obtain ⟨ev, hev⟩ : ∃ ev, errV o.isSome = ev := ⟨_, rfl⟩
  rw [hev]
  have HEV := hid hev
  clear hbb hb0 hb hev
  go_wp2
  have q0 : AtB _ w.heap.size 36 #[.string y.f0, .string ⟨#[]⟩, .string ⟨#[]⟩, .string ⟨#[]⟩, .slice none 0 0, .string ⟨#[]⟩] := AtB.set HB0.out 0 (.string y.f0 : Value)
  have q1 : AtB _ w.heap.size 36 #[.string y.f0, .string y.f1, .string ⟨#[]⟩, .string ⟨#[]⟩, .slice none 0 0, .string ⟨#[]⟩] := AtB.set q0 1 (.string y.f1 : Value)
  have q2 : AtB _ w.heap.size 36 #[.string y.f0, .string y.f1, .string y.f2, .string ⟨#[]⟩, .slice none 0 0, .string ⟨#[]⟩] := AtB.set q1 2 (.string y.f2 : Value)
  have q3 : AtB _ w.heap.size 36 #[.string y.f0, .string y.f1, .string y.f2, .string y.f3, .slice none 0 0, .string ⟨#[]⟩] := AtB.set q2 3 (.string y.f3 : Value)
  have q4 : AtB _ w.heap.size 36 #[.string y.f0, .string y.f1, .string y.f2, .string y.f3, .slice A4 m4 c4, .string ⟨#[]⟩] := AtB.set q3 4 (.slice A4 m4 c4 : Value)
  have q5 : AtB _ w.heap.size 36 #[.string y.f0, .string y.f1, .string y.f2, .string y.f3, .slice A4 m4 c4, .string y.f5] := AtB.set q4 5 (.string y.f5 : Value)
  have hres2 := q5
  refine bodyPost_ret (results_ct rfl _ _ w.heap.size 36 #[.string y.f0, .string y.f1, .string y.f2, .string y.f3, .slice A4 m4 c4, .string y.f5] (0, 0) _ rfl hres2 Tryd.underlying36 rfl (by kernel_rfl)) rfl ?_
  refine ⟨[.string y.f0, .string y.f1, .string y.f2, .string y.f3, .slice A4 m4 c4, .string y.f5], by rw [HEV.out]; rfl, ?_, ((((((HB.out.setCell (p := ⟨w.heap.size, 0, none⟩) (Nat.le_refl _) _).setCell (p := ⟨w.heap.size, 1, none⟩) (Nat.le_refl _) _).setCell (p := ⟨w.heap.size, 2, none⟩) (Nat.le_refl _) _).setCell (p := ⟨w.heap.size, 3, none⟩) (Nat.le_refl _) _).setCell (p := ⟨w.heap.size, 4, none⟩) (Nat.le_refl _) _).setCell (p := ⟨w.heap.size, 5, none⟩) (Nat.le_refl _) _)⟩
  rw [HY.out]
  exact up_mem HMM.out (fun q hq => by have := hq.2.1; omega) (by omega) (((((((Mod.refl (fun q => q = w.heap.size) w5).setCell ⟨w.heap.size, 0, none⟩ (.string y.f0 : Value) (.inl rfl)).setCell ⟨w.heap.size, 1, none⟩ (.string y.f1 : Value) (.inl rfl)).setCell ⟨w.heap.size, 2, none⟩ (.string y.f2 : Value) (.inl rfl)).setCell ⟨w.heap.size, 3, none⟩ (.string y.f3 : Value) (.inl rfl)).setCell ⟨w.heap.size, 4, none⟩ (.slice A4 m4 c4 : Value) (.inl rfl)).setCell ⟨w.heap.size, 5, none⟩ (.string y.f5 : Value) (.inl rfl))
end Go.Proofs.YtcgjacffemjehaaDoor

namespace Go.Proofs.YtcgjacffemjehaaDoor
open Go.RowKit
open Go.Proofs.YtcgjacffemjehaaDoorW.PrintWords (Kd rdOf results_ct)
open Go.Proofs.YtcgjacffemjehaaDoor.PRowReads
set_option linter.unusedVariables false
set_option maxHeartbeats 8000000 in
set_option maxRecDepth 100000 in
theorem unpackTicket_any (w : World) (v : Value) (l : List UInt8) (hr : ReadsB w v l) (hl : l.length ≤ 1099511627776) :
    Calls Tryd.prog 53 #[v, .func (.func 54) #[] #[]] w (UP k38 z38 (unR (ticketR l false)) w) := by
  obtain ⟨A9, m9, c9, rfl⟩ := reads_form hr
  have hrs := rs_make (g := w.heap.size + 1 + 1 + 1) (W := (((w.alloc (.cells #[.string ⟨#[]⟩, .string ⟨#[]⟩, .slice none 0 0, .string ⟨#[]⟩, .int .i64 0, .bool false] 38)).alloc (.cells #[.string ⟨#[]⟩, .string ⟨#[]⟩, .slice none 0 0, .string ⟨#[]⟩, .int .i64 0, .bool false] 38)).alloc (.cells #[.string ⟨#[]⟩, .string ⟨#[]⟩, .slice none 0 0, .string ⟨#[]⟩, .int .i64 0, .bool false] 38))) ((((Below.refl _ w).alloc (Nat.le_refl _) _).alloc (by simp) _).alloc (by simp; omega) _) (by simp) hr hl
  have hb0 : AtB ((((w.alloc (.cells #[.string ⟨#[]⟩, .string ⟨#[]⟩, .slice none 0 0, .string ⟨#[]⟩, .int .i64 0, .bool false] 38)).alloc (.cells #[.string ⟨#[]⟩, .string ⟨#[]⟩, .slice none 0 0, .string ⟨#[]⟩, .int .i64 0, .bool false] 38)).alloc (.cells #[.string ⟨#[]⟩, .string ⟨#[]⟩, .slice none 0 0, .string ⟨#[]⟩, .int .i64 0, .bool false] 38)).alloc (.cells #[.slice A9 m9 c9, .bool true, .bool false] 129)) w.heap.size 38 #[.string ⟨#[]⟩, .string ⟨#[]⟩, .slice none 0 0, .string ⟨#[]⟩, .int .i64 0, .bool false] := (((at_make rfl).alloc _).alloc _).alloc _
  have hb1 : AtB ((((w.alloc (.cells #[.string ⟨#[]⟩, .string ⟨#[]⟩, .slice none 0 0, .string ⟨#[]⟩, .int .i64 0, .bool false] 38)).alloc (.cells #[.string ⟨#[]⟩, .string ⟨#[]⟩, .slice none 0 0, .string ⟨#[]⟩, .int .i64 0, .bool false] 38)).alloc (.cells #[.string ⟨#[]⟩, .string ⟨#[]⟩, .slice none 0 0, .string ⟨#[]⟩, .int .i64 0, .bool false] 38)).alloc (.cells #[.slice A9 m9 c9, .bool true, .bool false] 129)) (w.heap.size + 1) 38 #[.string ⟨#[]⟩, .string ⟨#[]⟩, .slice none 0 0, .string ⟨#[]⟩, .int .i64 0, .bool false] := ((at_make (by simp)).alloc _).alloc _
  have hb2 : AtB ((((w.alloc (.cells #[.string ⟨#[]⟩, .string ⟨#[]⟩, .slice none 0 0, .string ⟨#[]⟩, .int .i64 0, .bool false] 38)).alloc (.cells #[.string ⟨#[]⟩, .string ⟨#[]⟩, .slice none 0 0, .string ⟨#[]⟩, .int .i64 0, .bool false] 38)).alloc (.cells #[.string ⟨#[]⟩, .string ⟨#[]⟩, .slice none 0 0, .string ⟨#[]⟩, .int .i64 0, .bool false] 38)).alloc (.cells #[.slice A9 m9 c9, .bool true, .bool false] 129)) (w.heap.size + 1 + 1) 38 #[.string ⟨#[]⟩, .string ⟨#[]⟩, .slice none 0 0, .string ⟨#[]⟩, .int .i64 0, .bool false] := (at_make (by simp)).alloc _
  have h00 : Below w.heap.size w ((((w.alloc (.cells #[.string ⟨#[]⟩, .string ⟨#[]⟩, .slice none 0 0, .string ⟨#[]⟩, .int .i64 0, .bool false] 38)).alloc (.cells #[.string ⟨#[]⟩, .string ⟨#[]⟩, .slice none 0 0, .string ⟨#[]⟩, .int .i64 0, .bool false] 38)).alloc (.cells #[.string ⟨#[]⟩, .string ⟨#[]⟩, .slice none 0 0, .string ⟨#[]⟩, .int .i64 0, .bool false] 38)).alloc (.cells #[.slice A9 m9 c9, .bool true, .bool false] 129)) := hrs.below
  have h01 : ((((w.alloc (.cells #[.string ⟨#[]⟩, .string ⟨#[]⟩, .slice none 0 0, .string ⟨#[]⟩, .int .i64 0, .bool false] 38)).alloc (.cells #[.string ⟨#[]⟩, .string ⟨#[]⟩, .slice none 0 0, .string ⟨#[]⟩, .int .i64 0, .bool false] 38)).alloc (.cells #[.string ⟨#[]⟩, .string ⟨#[]⟩, .slice none 0 0, .string ⟨#[]⟩, .int .i64 0, .bool false] 38)).alloc (.cells #[.slice A9 m9 c9, .bool true, .bool false] 129)).heap.size = w.heap.size + 1 + 1 + 1 + 1 := by simp
  obtain ⟨⟨x, l5, b5⟩, hz⟩ : ∃ z, ticketR l false = z := ⟨_, rfl⟩
  have hcall := ticket_r hrs hb1 (by omega) (by omega)
  rw [hz] at hcall ⊢
  have HC := hid hcall
  have HB0 := hid hb0
  have HB2 := hid hb2
  have HB := hid h00
  clear hcall hrs hb0 hb1 hb2 h00 hz hr
  go_enter Tryd.func53, Tryd.ntmps53
  go_wp2_with fail
  refine HC.out.mono ?_
  clear HC h01
  intro e w5 hq
  obtain ⟨rfl, h, ⟨cs3, ha, hM⟩, hm⟩ := hq
  rw [World.size_alloc, World.size_alloc, World.size_alloc, World.size_alloc] at hM
  obtain ⟨v2, rfl, g2⟩ := k38_openM hM
  obtain ⟨A2, m2, c2, rfl⟩ := r_form g2
  have hMB := k38.M_bound hM
  have HMM := hid hMB
  clear hM hMB g2
  have hb0 := HB0.out.mod hm (by omega)
  have hb2 := HB2.out.mod hm (by omega)
  have hbb : Below w.heap.size w w5 := HB.out.trans (hm.below (by simp; omega) (fun q e => by omega))
  have hx0 : w5.cell? ⟨w.heap.size + 1, 0, none⟩ = some (.string x.f0) := ha.cell 0
  have hx1 : w5.cell? ⟨w.heap.size + 1, 1, none⟩ = some (.string x.f1) := ha.cell 1
  have hx2 : w5.cell? ⟨w.heap.size + 1, 2, none⟩ = some (.slice A2 m2 c2) := ha.cell 2
  have hx3 : w5.cell? ⟨w.heap.size + 1, 3, none⟩ = some (.string x.f3) := ha.cell 3
  have hx4 : w5.cell? ⟨w.heap.size + 1, 4, none⟩ = some (.int .i64 x.f4) := ha.cell 4
  have hx5 : w5.cell? ⟨w.heap.size + 1, 5, none⟩ = some (.bool x.f5) := ha.cell 5
  have hn0 : w5.cell? ⟨w.heap.size + 1 + 1, 0, none⟩ = some (.string ⟨#[]⟩) := hb2.cell 0
  have hn1 : w5.cell? ⟨w.heap.size + 1 + 1, 1, none⟩ = some (.string ⟨#[]⟩) := hb2.cell 1
  have hn2 : w5.cell? ⟨w.heap.size + 1 + 1, 2, none⟩ = some (.slice none 0 0) := hb2.cell 2
  have hn3 : w5.cell? ⟨w.heap.size + 1 + 1, 3, none⟩ = some (.string ⟨#[]⟩) := hb2.cell 3
  have hn4 : w5.cell? ⟨w.heap.size + 1 + 1, 4, none⟩ = some (.int .i64 0) := hb2.cell 4
  have hn5 : w5.cell? ⟨w.heap.size + 1 + 1, 5, none⟩ = some (.bool false) := hb2.cell 5
  have hr0 : w5.cell? ⟨w.heap.size, 0, none⟩ = some (.string ⟨#[]⟩) := hb0.cell 0
  have hf0 := hb0.free 0
  have hr1 : w5.cell? ⟨w.heap.size, 1, none⟩ = some (.string ⟨#[]⟩) := hb0.cell 1
  have hf1 := hb0.free 1
  have hr2 : w5.cell? ⟨w.heap.size, 2, none⟩ = some (.slice none 0 0) := hb0.cell 2
  have hf2 := hb0.free 2
  have hr3 : w5.cell? ⟨w.heap.size, 3, none⟩ = some (.string ⟨#[]⟩) := hb0.cell 3
  have hf3 := hb0.free 3
  have hr4 : w5.cell? ⟨w.heap.size, 4, none⟩ = some (.int .i64 0) := hb0.cell 4
  have hf4 := hb0.free 4
  have hr5 : w5.cell? ⟨w.heap.size, 5, none⟩ = some (.bool false) := hb0.cell 5
  have hf5 := hb0.free 5
  obtain ⟨v7, hr7, d0, d1, d2, _, _⟩ := h.cells
  obtain ⟨A7, c7, rfl⟩ : ∃ A c, v7 = .slice A l5.length c := by
    rcases hr7 with ⟨rfl, rfl⟩ | ⟨b, o, cap, rfl, _, _⟩ <;> exact ⟨_, _, rfl⟩
  clear HB HB0 HB2
  have HB := hid hbb
  have HB0 := hid hb0
  clear hbb hb0 hb2 ha hm h hr7
  cases b5 with
  | true =>
    · go_wp2
      have q0 : AtB _ w.heap.size 38 #[.string ⟨#[]⟩, .string ⟨#[]⟩, .slice none 0 0, .string ⟨#[]⟩, .int .i64 0, .bool false] := AtB.set HB0.out 0 (.string ⟨#[]⟩ : Value)
      have q1 : AtB _ w.heap.size 38 #[.string ⟨#[]⟩, .string ⟨#[]⟩, .slice none 0 0, .string ⟨#[]⟩, .int .i64 0, .bool false] := AtB.set q0 1 (.string ⟨#[]⟩ : Value)
      have q2 : AtB _ w.heap.size 38 #[.string ⟨#[]⟩, .string ⟨#[]⟩, .slice none 0 0, .string ⟨#[]⟩, .int .i64 0, .bool false] := AtB.set q1 2 (.slice none 0 0 : Value)
      have q3 : AtB _ w.heap.size 38 #[.string ⟨#[]⟩, .string ⟨#[]⟩, .slice none 0 0, .string ⟨#[]⟩, .int .i64 0, .bool false] := AtB.set q2 3 (.string ⟨#[]⟩ : Value)
      have q4 : AtB _ w.heap.size 38 #[.string ⟨#[]⟩, .string ⟨#[]⟩, .slice none 0 0, .string ⟨#[]⟩, .int .i64 0, .bool false] := AtB.set q3 4 (.int .i64 0 : Value)
      have q5 : AtB _ w.heap.size 38 #[.string ⟨#[]⟩, .string ⟨#[]⟩, .slice none 0 0, .string ⟨#[]⟩, .int .i64 0, .bool false] := AtB.set q4 5 (.bool false : Value)
      have hres2 := q5
      refine bodyPost_ret (results_ct rfl _ _ w.heap.size 38 #[.string ⟨#[]⟩, .string ⟨#[]⟩, .slice none 0 0, .string ⟨#[]⟩, .int .i64 0, .bool false] (0, 0) _ rfl hres2 Tryd.underlying38 rfl (by kernel_rfl)) rfl ?_
      rw [show unR (x, l5, true) = none from if_pos (.inl rfl)]
      exact ⟨[.string ⟨#[]⟩, .string ⟨#[]⟩, .slice none 0 0, .string ⟨#[]⟩, .int .i64 0, .bool false], rfl, (k38_mkM _ _ _ z38 (Kd.R_nil _ _ _ _ _)), ((((((HB.out.setCell (p := ⟨w.heap.size, 0, none⟩) (Nat.le_refl _) _).setCell (p := ⟨w.heap.size, 1, none⟩) (Nat.le_refl _) _).setCell (p := ⟨w.heap.size, 2, none⟩) (Nat.le_refl _) _).setCell (p := ⟨w.heap.size, 3, none⟩) (Nat.le_refl _) _).setCell (p := ⟨w.heap.size, 4, none⟩) (Nat.le_refl _) _).setCell (p := ⟨w.heap.size, 5, none⟩) (Nat.le_refl _) _)⟩
  | false =>
    by_cases h5 : 0 < l5.length
    · have t1 : decide ((0 : Int) < (l5.length : Int)) = true := decide_eq_true (by omega)
      have t2 : decide (0 < l5.length) = true := decide_eq_true h5
      go_wp2
      have q0 : AtB _ w.heap.size 38 #[.string ⟨#[]⟩, .string ⟨#[]⟩, .slice none 0 0, .string ⟨#[]⟩, .int .i64 0, .bool false] := AtB.set HB0.out 0 (.string ⟨#[]⟩ : Value)
      have q1 : AtB _ w.heap.size 38 #[.string ⟨#[]⟩, .string ⟨#[]⟩, .slice none 0 0, .string ⟨#[]⟩, .int .i64 0, .bool false] := AtB.set q0 1 (.string ⟨#[]⟩ : Value)
      have q2 : AtB _ w.heap.size 38 #[.string ⟨#[]⟩, .string ⟨#[]⟩, .slice none 0 0, .string ⟨#[]⟩, .int .i64 0, .bool false] := AtB.set q1 2 (.slice none 0 0 : Value)
      have q3 : AtB _ w.heap.size 38 #[.string ⟨#[]⟩, .string ⟨#[]⟩, .slice none 0 0, .string ⟨#[]⟩, .int .i64 0, .bool false] := AtB.set q2 3 (.string ⟨#[]⟩ : Value)
      have q4 : AtB _ w.heap.size 38 #[.string ⟨#[]⟩, .string ⟨#[]⟩, .slice none 0 0, .string ⟨#[]⟩, .int .i64 0, .bool false] := AtB.set q3 4 (.int .i64 0 : Value)
      have q5 : AtB _ w.heap.size 38 #[.string ⟨#[]⟩, .string ⟨#[]⟩, .slice none 0 0, .string ⟨#[]⟩, .int .i64 0, .bool false] := AtB.set q4 5 (.bool false : Value)
      have hres2 := q5
      refine bodyPost_ret (results_ct rfl _ _ w.heap.size 38 #[.string ⟨#[]⟩, .string ⟨#[]⟩, .slice none 0 0, .string ⟨#[]⟩, .int .i64 0, .bool false] (0, 0) _ rfl hres2 Tryd.underlying38 rfl (by kernel_rfl)) rfl ?_
      rw [show unR (x, l5, false) = none from if_pos (.inr h5)]
      exact ⟨[.string ⟨#[]⟩, .string ⟨#[]⟩, .slice none 0 0, .string ⟨#[]⟩, .int .i64 0, .bool false], rfl, (k38_mkM _ _ _ z38 (Kd.R_nil _ _ _ _ _)), ((((((HB.out.setCell (p := ⟨w.heap.size, 0, none⟩) (Nat.le_refl _) _).setCell (p := ⟨w.heap.size, 1, none⟩) (Nat.le_refl _) _).setCell (p := ⟨w.heap.size, 2, none⟩) (Nat.le_refl _) _).setCell (p := ⟨w.heap.size, 3, none⟩) (Nat.le_refl _) _).setCell (p := ⟨w.heap.size, 4, none⟩) (Nat.le_refl _) _).setCell (p := ⟨w.heap.size, 5, none⟩) (Nat.le_refl _) _)⟩
    · have h50 : l5 = [] := List.eq_nil_of_length_eq_zero (by omega)
      subst h50
      have t1 : decide ((0 : Int) < ((([] : List UInt8).length : Nat) : Int)) = false := rfl
      go_wp2
      have q0 : AtB _ w.heap.size 38 #[.string x.f0, .string ⟨#[]⟩, .slice none 0 0, .string ⟨#[]⟩, .int .i64 0, .bool false] := AtB.set HB0.out 0 (.string x.f0 : Value)
      have q1 : AtB _ w.heap.size 38 #[.string x.f0, .string x.f1, .slice none 0 0, .string ⟨#[]⟩, .int .i64 0, .bool false] := AtB.set q0 1 (.string x.f1 : Value)
      have q2 : AtB _ w.heap.size 38 #[.string x.f0, .string x.f1, .slice A2 m2 c2, .string ⟨#[]⟩, .int .i64 0, .bool false] := AtB.set q1 2 (.slice A2 m2 c2 : Value)
      have q3 : AtB _ w.heap.size 38 #[.string x.f0, .string x.f1, .slice A2 m2 c2, .string x.f3, .int .i64 0, .bool false] := AtB.set q2 3 (.string x.f3 : Value)
      have q4 : AtB _ w.heap.size 38 #[.string x.f0, .string x.f1, .slice A2 m2 c2, .string x.f3, .int .i64 x.f4, .bool false] := AtB.set q3 4 (.int .i64 x.f4 : Value)
      have q5 : AtB _ w.heap.size 38 #[.string x.f0, .string x.f1, .slice A2 m2 c2, .string x.f3, .int .i64 x.f4, .bool x.f5] := AtB.set q4 5 (.bool x.f5 : Value)
      have hres2 := q5
      refine bodyPost_ret (results_ct rfl _ _ w.heap.size 38 #[.string x.f0, .string x.f1, .slice A2 m2 c2, .string x.f3, .int .i64 x.f4, .bool x.f5] (0, 0) _ rfl hres2 Tryd.underlying38 rfl (by kernel_rfl)) rfl ?_
      rw [show unR (x, ([] : List UInt8), false) = some x from if_neg (by simp)]
      have hM1 := HMM.out
      exact ⟨[.string x.f0, .string x.f1, .slice A2 m2 c2, .string x.f3, .int .i64 x.f4, .bool x.f5], rfl, up_mem hM1 (fun q hq => by have := hq.2.1; omega) (by omega) (((((((Mod.refl (fun q => q = w.heap.size) w5).setCell ⟨w.heap.size, 0, none⟩ (.string x.f0 : Value) (.inl rfl)).setCell ⟨w.heap.size, 1, none⟩ (.string x.f1 : Value) (.inl rfl)).setCell ⟨w.heap.size, 2, none⟩ (.slice A2 m2 c2 : Value) (.inl rfl)).setCell ⟨w.heap.size, 3, none⟩ (.string x.f3 : Value) (.inl rfl)).setCell ⟨w.heap.size, 4, none⟩ (.int .i64 x.f4 : Value) (.inl rfl)).setCell ⟨w.heap.size, 5, none⟩ (.bool x.f5 : Value) (.inl rfl)), ((((((HB.out.setCell (p := ⟨w.heap.size, 0, none⟩) (Nat.le_refl _) _).setCell (p := ⟨w.heap.size, 1, none⟩) (Nat.le_refl _) _).setCell (p := ⟨w.heap.size, 2, none⟩) (Nat.le_refl _) _).setCell (p := ⟨w.heap.size, 3, none⟩) (Nat.le_refl _) _).setCell (p := ⟨w.heap.size, 4, none⟩) (Nat.le_refl _) _).setCell (p := ⟨w.heap.size, 5, none⟩) (Nat.le_refl _) _)⟩
set_option maxHeartbeats 8000000 in
set_option maxRecDepth 100000 in
theorem toTicket_any (w : World) (v : Value) (l : List UInt8) (hr : ReadsB w v l) (hl : l.length ≤ 1099511627776) :
    Calls Tryd.prog 18 #[v] w (UP k38 z38 (unR (ticketR l false)) w) := by
  have h00 : Below w.heap.size w (w.alloc (.cells #[.string ⟨#[]⟩, .string ⟨#[]⟩, .slice none 0 0, .string ⟨#[]⟩, .int .i64 0, .bool false] 38)) := (Below.refl _ w).alloc (Nat.le_refl _) _
  have hb0 : AtB (w.alloc (.cells #[.string ⟨#[]⟩, .string ⟨#[]⟩, .slice none 0 0, .string ⟨#[]⟩, .int .i64 0, .bool false] 38)) w.heap.size 38 #[.string ⟨#[]⟩, .string ⟨#[]⟩, .slice none 0 0, .string ⟨#[]⟩, .int .i64 0, .bool false] := at_make rfl
  obtain ⟨o, ho⟩ : ∃ o, unR (ticketR l false) = o := ⟨_, rfl⟩
  have hcall := unpackTicket_any (w.alloc (.cells #[.string ⟨#[]⟩, .string ⟨#[]⟩, .slice none 0 0, .string ⟨#[]⟩, .int .i64 0, .bool false] 38)) v l (hr.below h00) hl
  rw [ho] at hcall ⊢
  have HC := hid hcall
  have HB0 := hid hb0
  have HB := hid h00
  clear hcall hb0 h00 ho hr
  go_enter Tryd.func18, Tryd.ntmps18
  go_wp2_with (go_at_call 53; refine HC.out.mono ?_)
  clear HC
  intro e w5 hq
  obtain ⟨cs3, rfl, hM, hb⟩ := hq
  rw [World.size_alloc] at hM hb
  obtain ⟨y, hy⟩ : ∃ y, o.getD z38 = y := ⟨_, rfl⟩
  rw [hy] at hM
  have HY := hid hy
  clear hy
  obtain ⟨v2, rfl, g2⟩ := k38_openM hM
  obtain ⟨A2, m2, c2, rfl⟩ := r_form g2
  have hMB := k38.M_bound hM
  have HMM := hid hMB
  clear hM hMB g2
  have hb0 : AtB w5 w.heap.size 38 #[.string ⟨#[]⟩, .string ⟨#[]⟩, .slice none 0 0, .string ⟨#[]⟩, .int .i64 0, .bool false] := (hb.block w.heap.size (by omega)).trans HB0.out
  have hbb : Below w.heap.size w w5 := HB.out.trans (hb.mono (by omega))
  have hr0 : w5.cell? ⟨w.heap.size, 0, none⟩ = some (.string ⟨#[]⟩) := hb0.cell 0
  have hf0 := hb0.free 0
  have hr1 : w5.cell? ⟨w.heap.size, 1, none⟩ = some (.string ⟨#[]⟩) := hb0.cell 1
  have hf1 := hb0.free 1
  have hr2 : w5.cell? ⟨w.heap.size, 2, none⟩ = some (.slice none 0 0) := hb0.cell 2
  have hf2 := hb0.free 2
  have hr3 : w5.cell? ⟨w.heap.size, 3, none⟩ = some (.string ⟨#[]⟩) := hb0.cell 3
  have hf3 := hb0.free 3
  have hr4 : w5.cell? ⟨w.heap.size, 4, none⟩ = some (.int .i64 0) := hb0.cell 4
  have hf4 := hb0.free 4
  have hr5 : w5.cell? ⟨w.heap.size, 5, none⟩ = some (.bool false) := hb0.cell 5
  have hf5 := hb0.free 5
  clear HB HB0
  have HB := hid hbb
  have HB0 := hid hb0
  obtain ⟨ev, hev⟩ : ∃ ev, errV o.isSome = ev := ⟨_, rfl⟩
  rw [hev]
  have HEV := hid hev
  clear hbb hb0 hb hev
  go_wp2
  have q0 : AtB _ w.heap.size 38 #[.string y.f0, .string ⟨#[]⟩, .slice none 0 0, .string ⟨#[]⟩, .int .i64 0, .bool false] := AtB.set HB0.out 0 (.string y.f0 : Value)
  have q1 : AtB _ w.heap.size 38 #[.string y.f0, .string y.f1, .slice none 0 0, .string ⟨#[]⟩, .int .i64 0, .bool false] := AtB.set q0 1 (.string y.f1 : Value)
  have q2 : AtB _ w.heap.size 38 #[.string y.f0, .string y.f1, .slice A2 m2 c2, .string ⟨#[]⟩, .int .i64 0, .bool false] := AtB.set q1 2 (.slice A2 m2 c2 : Value)
  have q3 : AtB _ w.heap.size 38 #[.string y.f0, .string y.f1, .slice A2 m2 c2, .string y.f3, .int .i64 0, .bool false] := AtB.set q2 3 (.string y.f3 : Value)
  have q4 : AtB _ w.heap.size 38 #[.string y.f0, .string y.f1, .slice A2 m2 c2, .string y.f3, .int .i64 y.f4, .bool false] := AtB.set q3 4 (.int .i64 y.f4 : Value)
  have q5 : AtB _ w.heap.size 38 #[.string y.f0, .string y.f1, .slice A2 m2 c2, .string y.f3, .int .i64 y.f4, .bool y.f5] := AtB.set q4 5 (.bool y.f5 : Value)
  have hres2 := q5
  refine bodyPost_ret (results_ct rfl _ _ w.heap.size 38 #[.string y.f0, .string y.f1, .slice A2 m2 c2, .string y.f3, .int .i64 y.f4, .bool y.f5] (0, 0) _ rfl hres2 Tryd.underlying38 rfl (by kernel_rfl)) rfl ?_
  refine ⟨[.string y.f0, .string y.f1, .slice A2 m2 c2, .string y.f3, .int .i64 y.f4, .bool y.f5], by rw [HEV.out]; rfl, ?_, ((((((HB.out.setCell (p := ⟨w.heap.size, 0, none⟩) (Nat.le_refl _) _).setCell (p := ⟨w.heap.size, 1, none⟩) (Nat.le_refl _) _).setCell (p := ⟨w.heap.size, 2, none⟩) (Nat.le_refl _) _).setCell (p := ⟨w.heap.size, 3, none⟩) (Nat.le_refl _) _).setCell (p := ⟨w.heap.size, 4, none⟩) (Nat.le_refl _) _).setCell (p := ⟨w.heap.size, 5, none⟩) (Nat.le_refl _) _)⟩
  rw [HY.out]
  exact up_mem HMM.out (fun q hq => by have := hq.2.1; omega) (by omega) (((((((Mod.refl (fun q => q = w.heap.size) w5).setCell ⟨w.heap.size, 0, none⟩ (.string y.f0 : Value) (.inl rfl)).setCell ⟨w.heap.size, 1, none⟩ (.string y.f1 : Value) (.inl rfl)).setCell ⟨w.heap.size, 2, none⟩ (.slice A2 m2 c2 : Value) (.inl rfl)).setCell ⟨w.heap.size, 3, none⟩ (.string y.f3 : Value) (.inl rfl)).setCell ⟨w.heap.size, 4, none⟩ (.int .i64 y.f4 : Value) (.inl rfl)).setCell ⟨w.heap.size, 5, none⟩ (.bool y.f5 : Value) (.inl rfl))
end Go.Proofs.YtcgjacffemjehaaDoor

namespace Go.Proofs.YtcgjacffemjehaaDoor
open Go.RowKit
open Go.Proofs.YtcgjacffemjehaaDoorW.PrintWords (Kd rdOf results_ct)
open Go.Proofs.YtcgjacffemjehaaDoor.PRowReads
set_option linter.unusedVariables false
/-- What unpack answers of keys. -/
def UK (o : Option (List S117)) (w : World) (e : Ending) (w' : World) : Prop :=
  ∃ v, e = .returned (.tuple #[v, errV o.isSome]) ∧ k117.R 117 w' w.heap.size (fun _ => True) v (o.getD []) ∧ Below w.heap.size w w'
set_option maxHeartbeats 8000000 in
set_option maxRecDepth 100000 in
theorem unpackKeys_any (w : World) (v : Value) (l : List UInt8) (hr : ReadsB w v l) (hl : l.length ≤ 1099511627776) :
    Calls Tryd.prog 55 #[v, .func (.func 56) #[] #[]] w (UK (unR (listR keyR l false)) w) := by
  obtain ⟨A9, m9, c9, rfl⟩ := reads_form hr
  have hrs := rs_make (g := w.heap.size + 1) (W := (w.alloc (.cells #[.slice none 0 0] 39))) ((Below.refl _ w).alloc (Nat.le_refl _) _) (by simp) hr hl
  have hb1 : AtB ((w.alloc (.cells #[.slice none 0 0] 39)).alloc (.cells #[.slice A9 m9 c9, .bool true, .bool false] 129)) w.heap.size 39 #[.slice none 0 0] := (at_make rfl).alloc _
  have h00 := hrs.below
  obtain ⟨⟨x, l5, b5⟩, hz⟩ : ∃ z, listR keyR l false = z := ⟨_, rfl⟩
  have hcall := keys_r (o := 0) hrs hb1 (by omega) (Nat.le_refl _) none 0 0 rfl (by intro q hq; have hq' : q ∈ ([117] : List Nat) := hq; rw [List.mem_singleton] at hq'; subst hq'; decide)
  rw [hz] at hcall ⊢
  have HC := hid hcall
  have HB := hid h00
  clear hcall hrs hb1 h00 hz hr
  go_enter Tryd.func55, Tryd.ntmps55
  go_wp2_with fail
  refine HC.out.mono ?_
  clear HC
  intro e w5 hq
  obtain ⟨rfl, h, ⟨v3, ha, hR⟩, hm⟩ := hq
  rw [World.size_alloc, World.size_alloc] at hR
  obtain ⟨A5, m5, c5, rfl⟩ := r_form hR
  have hbb : Below w.heap.size w w5 := HB.out.trans (hm.below (by simp; omega) (fun q e => by omega))
  have hx0 : w5.cell? ⟨w.heap.size, 0, none⟩ = some (.slice A5 m5 c5) := ha.cell 0
  obtain ⟨v7, hr7, d0, d1, d2, _, _⟩ := h.cells
  obtain ⟨A7, c7, rfl⟩ : ∃ A c, v7 = .slice A l5.length c := by
    rcases hr7 with ⟨rfl, rfl⟩ | ⟨b, o, cap, rfl, _, _⟩ <;> exact ⟨_, _, rfl⟩
  have HR := hid (Kd.R_lower (base' := w.heap.size) hR (by omega))
  clear HB
  have HB := hid hbb
  clear hbb ha hm h hr7 hR
  cases b5 with
  | true =>
    go_wp2
    go_ret2
    rw [show unR (x, l5, true) = none from if_pos (.inl rfl)]
    exact ⟨_, rfl, Kd.R_nil _ _ _ _ _, HB.out⟩
  | false =>
    by_cases h5 : 0 < l5.length
    · have t1 : decide ((0 : Int) < (l5.length : Int)) = true := decide_eq_true (by omega)
      have t2 : decide (0 < l5.length) = true := decide_eq_true h5
      go_wp2
      go_ret2
      rw [show unR (x, l5, false) = none from if_pos (.inr h5)]
      exact ⟨_, rfl, Kd.R_nil _ _ _ _ _, HB.out⟩
    · have h50 : l5 = [] := List.eq_nil_of_length_eq_zero (by omega)
      subst h50
      have t1 : decide ((0 : Int) < ((([] : List UInt8).length : Nat) : Int)) = false := rfl
      go_wp2
      go_ret2
      rw [show unR (x, ([] : List UInt8), false) = some x from if_neg (by simp)]
      exact ⟨_, rfl, HR.out, HB.out⟩
set_option maxHeartbeats 2000000 in
theorem toKeys_any (w : World) (v : Value) (l : List UInt8) (hr : ReadsB w v l) (hl : l.length ≤ 1099511627776) :
    Calls Tryd.prog 19 #[v] w (UK (unR (listR keyR l false)) w) := by
  have HC := hid (unpackKeys_any w v l hr hl)
  clear hr
  go_enter Tryd.func19, Tryd.ntmps19
  go_wp2_with (go_at_call 55; refine HC.out.mono ?_)
  intro e w5 hq
  obtain ⟨v3, rfl, hR, hb⟩ := hq
  have HR := hid hR
  have HB := hid hb
  obtain ⟨ev, hev⟩ : ∃ ev, errV (unR (listR keyR l false)).isSome = ev := ⟨_, rfl⟩
  rw [hev]
  have HEV := hid hev
  clear hR hb hev
  go_wp2
  go_ret2
  exact ⟨_, by rw [HEV.out]; rfl, HR.out, HB.out⟩
end Go.Proofs.YtcgjacffemjehaaDoor

namespace Go.Proofs.YtcgjacffemjehaaDoor
open Go.RowKit
open Go.Proofs.YtcgjacffemjehaaDoorW.PrintWords (Kd rdOf)
open Go.Proofs.YtcgjacffemjehaaDoor.PRowReads
set_option linter.unusedVariables false
/-- A writer and a reader of one kind of thing. -/
structure Cod {α : Type} (B : α → List UInt8) (R : List UInt8 → Bool → α × List UInt8 × Bool) (ok : α → Prop) : Prop where
  bad : ∀ l, (R l true).2.2 = true
  fwd : ∀ x r, ok x → R (B x ++ r) false = (x, r, false)
  bwd : ∀ l x r, R l false = (x, r, false) → l = B x ++ r ∧ ok x
theorem Cod.ext {α : Type} {B : α → List UInt8} {R : List UInt8 → Bool → α × List UInt8 × Bool} {ok : α → Prop} (h : Cod B R ok) {l : List UInt8} {x : α} {r : List UInt8} (hr : R l false = (x, r, false)) (m : List UInt8) : R (l ++ m) false = (x, r ++ m, false) := by
  obtain ⟨rfl, ho⟩ := h.bwd _ _ _ hr
  rw [List.append_assoc]
  exact h.fwd _ _ ho
theorem trip {α β γ : Type} (x : α × β × γ) : ∃ a b c, x = (a, b, c) := ⟨x.1, x.2.1, x.2.2, rfl⟩
def andR {α β : Type} (R : List UInt8 → Bool → α × List UInt8 × Bool) (R' : List UInt8 → Bool → β × List UInt8 × Bool) (l : List UInt8) (b : Bool) : (α × β) × List UInt8 × Bool :=
  let r0 := R l b
  let r1 := R' r0.2.1 r0.2.2
  ((r0.1, r1.1), r1.2.1, r1.2.2)
theorem Cod.both {α β : Type} {B : α → List UInt8} {R : List UInt8 → Bool → α × List UInt8 × Bool} {ok : α → Prop} {B' : β → List UInt8} {R' : List UInt8 → Bool → β × List UInt8 × Bool} {ok' : β → Prop} (h : Cod B R ok) (h' : Cod B' R' ok') :
    Cod (fun p : α × β => B p.1 ++ B' p.2) (andR R R') (fun p => ok p.1 ∧ ok' p.2) := by
  refine ⟨fun l => ?_, fun x r ho => ?_, fun l x r hr => ?_⟩
  · simp only [andR, h.bad]; exact h'.bad _
  · simp only [andR]
    rw [List.append_assoc, h.fwd _ _ ho.1]
    simp only
    rw [h'.fwd _ _ ho.2]
  · simp only [andR] at hr
    obtain ⟨a, l1, b, e⟩ := trip (R l false)
    rw [e] at hr
    simp only at hr
    cases b with
    | true =>
      have hb := h'.bad l1
      simp only [Prod.mk.injEq] at hr
      rw [hb] at hr
      exact absurd hr.2.2 (by simp)
    | false =>
      obtain ⟨c, l2, b2, e2⟩ := trip (R' l1 false)
      rw [e2] at hr
      simp only [Prod.mk.injEq] at hr
      obtain ⟨rfl, rfl, rfl⟩ := hr
      obtain ⟨h1, o1⟩ := h.bwd _ _ _ e
      obtain ⟨h2, o2⟩ := h'.bwd _ _ _ e2
      exact ⟨by rw [h1, h2, List.append_assoc], o1, o2⟩
theorem Cod.map {α β : Type} {B : α → List UInt8} {R : List UInt8 → Bool → α × List UInt8 × Bool} {ok : α → Prop} (h : Cod B R ok) (f : α → β) (g : β → α) (hfg : ∀ y, f (g y) = y) (hgf : ∀ x, g (f x) = x)
    {B' : β → List UInt8} {R' : List UInt8 → Bool → β × List UInt8 × Bool} {ok' : β → Prop} (hB : ∀ y, B' y = B (g y)) (hR : ∀ l b, R' l b = (f (R l b).1, (R l b).2)) (hok : ∀ y, ok' y ↔ ok (g y)) : Cod B' R' ok' := by
  refine ⟨fun l => ?_, fun x r ho => ?_, fun l x r hr => ?_⟩
  · rw [hR]; exact h.bad l
  · rw [hR, hB, h.fwd _ _ ((hok x).1 ho)]; simp only [hfg]
  · rw [hR] at hr
    obtain ⟨a, l1, b, e⟩ := trip (R l false)
    rw [e] at hr
    simp only [Prod.mk.injEq] at hr
    obtain ⟨rfl, rfl, rfl⟩ := hr
    obtain ⟨h1, o1⟩ := h.bwd _ _ _ e
    exact ⟨by rw [h1, hB, hgf], (hok _).2 (by rw [hgf]; exact o1)⟩
/-! Numbers of four bytes. -/
theorem beN_four (n : Nat) (h : n < 4294967296) : beN (four n) = n := by
  simp [beN, four]
  omega
theorem four_len' (n : Nat) : (four n).length = 4 := rfl
theorem four_of (l : List UInt8) (h : 4 ≤ l.length) : four (beN (l.take 4)) = l.take 4 := by
  match l, h with
  | a :: b :: c :: d :: r, _ =>
    have ha := a.toNat_lt
    have hb := b.toNat_lt
    have hc := c.toNat_lt
    have hd := d.toNat_lt
    simp only [List.take_succ_cons, List.take_zero, beN, List.foldl_cons, List.foldl_nil, four]
    congr 1
    · apply UInt8.toNat_inj.1; simp; omega
    congr 1
    · apply UInt8.toNat_inj.1; simp; omega
    congr 1
    · apply UInt8.toNat_inj.1; simp; omega
    congr 1
    · apply UInt8.toNat_inj.1; simp
theorem beN_lt4 (l : List UInt8) : beN (l.take 4) < 4294967296 := by
  have h := beN_lt (l.take 4)
  have h2 : (l.take 4).length ≤ 4 := by rw [List.length_take]; omega
  have h3 : 256 ^ (l.take 4).length ≤ 256 ^ 4 := Nat.pow_le_pow_right (by omega) h2
  omega
theorem sizeR_fwd (n : Nat) (r : List UInt8) (h : n < 4294967296) (hr : n ≤ r.length) : sizeR (four n ++ r) false = (n, r, false) := by
  have e1 : (four n ++ r).take 4 = four n := by rw [List.take_append_of_le_length (by rw [four_len']; omega)]; rfl
  have e2 : (four n ++ r).drop 4 = r := by rw [List.drop_append_of_le_length (by rw [four_len']; omega)]; rfl
  unfold sizeR
  rw [if_neg (by rw [List.length_append, four_len']; simp), e1, e2, beN_four n h, if_neg (by omega)]
theorem sizeR_bwd {l : List UInt8} {n : Nat} {r : List UInt8} (h : sizeR l false = (n, r, false)) : l = four n ++ r ∧ n < 4294967296 ∧ n ≤ r.length := by
  unfold sizeR at h
  split at h
  · simp at h
  · rename_i h4
    have h4' : 4 ≤ l.length := by simp at h4; omega
    split at h
    · simp at h
    · simp only [Prod.mk.injEq] at h
      obtain ⟨rfl, rfl, _⟩ := h
      exact ⟨by rw [four_of l h4', List.take_append_drop], beN_lt4 l, by omega⟩
theorem sizeR_true (l : List UInt8) : sizeR l true = (0, l, true) := by unfold sizeR; rw [if_pos (.inl rfl)]
def OkT (s : ByteArray) : Prop := s.size < 4294967296
theorem textCod : Cod textB textR OkT := by
  refine ⟨fun l => ?_, fun x r ho => ?_, fun l x r hr => ?_⟩
  · unfold textR; rw [sizeR_true]; rfl
  · have hl := str_len x
    have e : textB x ++ r = four x.size ++ (x.data.toList ++ r) := by rw [textB, List.append_assoc]
    unfold textR
    rw [e, sizeR_fwd x.size _ ho (by rw [List.length_append]; omega), if_neg (by simp)]
    simp only
    rw [← hl, List.take_left', List.drop_left'] <;> first | rfl | skip
  · unfold textR at hr
    obtain ⟨n, l1, b, e⟩ := trip (sizeR l false)
    rw [e] at hr
    cases b with
    | true => simp at hr
    | false =>
      rw [if_neg (by simp)] at hr
      simp only [Prod.mk.injEq] at hr
      obtain ⟨rfl, rfl, _⟩ := hr
      obtain ⟨h1, h2, h3⟩ := sizeR_bwd e
      have hs : (ByteArray.mk (l1.take n).toArray).size = n := by
        show (l1.take n).toArray.size = n
        rw [List.size_toArray, List.length_take]; omega
      refine ⟨?_, by unfold OkT; rw [hs]; exact h2⟩
      rw [textB, hs, List.append_assoc]
      show l = four n ++ ((l1.take n) ++ l1.drop n)
      rw [List.take_append_drop]
      exact h1
theorem numR_true (l : List UInt8) : numR l true = (0, l, true) := by unfold numR; rw [if_pos (.inl rfl)]
set_option maxRecDepth 100000 in
theorem eight_of (l : List UInt8) (h : 8 ≤ l.length) : eight (IntKind.i64.wrap (beN (l.take 8) : Nat)) = l.take 8 := by
  match l, h with
  | a :: b :: c :: d :: e :: f :: g :: i :: r, _ =>
    have ha := a.toNat_lt
    have hb := b.toNat_lt
    have hc := c.toNat_lt
    have hd := d.toNat_lt
    have he := e.toNat_lt
    have hf := f.toNat_lt
    have hg := g.toNat_lt
    have hi := i.toNat_lt
    simp only [List.take_succ_cons, List.take_zero, beN, List.foldl_cons, List.foldl_nil, eight]
    have hw : ∀ z : Int, IntKind.i64.wrap z = (z + 9223372036854775808) % 18446744073709551616 - 9223372036854775808 := fun z => by
      simp [IntKind.wrap, IntKind.signed, IntKind.bits]; omega
    rw [hw]
    generalize hz : (((((((((0 * 256 + a.toNat) * 256 + b.toNat) * 256 + c.toNat) * 256 + d.toNat) * 256 + e.toNat) * 256 + f.toNat) * 256 + g.toNat) * 256 + i.toNat : Nat) : Int) = z
    have hz' : z = (((((((a.toNat : Int) * 256 + b.toNat) * 256 + c.toNat) * 256 + d.toNat) * 256 + e.toNat) * 256 + f.toNat) * 256 + g.toNat) * 256 + i.toNat := by rw [← hz]; push_cast; omega
    have hB : ∀ (y : Int) (u : UInt8), y % 256 = u.toNat → byteI y = u := fun y u h => by
      unfold byteI
      rw [h]
      simp
    refine List.cons_eq_cons.2 ⟨hB _ _ ?_, List.cons_eq_cons.2 ⟨hB _ _ ?_, List.cons_eq_cons.2 ⟨hB _ _ ?_, List.cons_eq_cons.2 ⟨hB _ _ ?_, List.cons_eq_cons.2 ⟨hB _ _ ?_, List.cons_eq_cons.2 ⟨hB _ _ ?_, List.cons_eq_cons.2 ⟨hB _ _ ?_, List.cons_eq_cons.2 ⟨hB _ _ ?_, rfl⟩⟩⟩⟩⟩⟩⟩⟩ <;> omega
set_option maxRecDepth 100000 in
theorem beN_eight (n : Int) (h : I64 n) : IntKind.i64.wrap (beN (eight n) : Nat) = n := by
  obtain ⟨h0, h1⟩ := h
  have hw : ∀ z : Int, IntKind.i64.wrap z = (z + 9223372036854775808) % 18446744073709551616 - 9223372036854775808 := fun z => by
    simp [IntKind.wrap, IntKind.signed, IntKind.bits]; omega
  have hb : ∀ z : Int, ((byteI z).toNat : Int) = z % 256 := fun z => by unfold byteI; simp; omega
  rw [hw]
  simp only [beN, eight, List.foldl_cons, List.foldl_nil]
  push_cast
  simp only [hb]
  omega
theorem eight_len' (n : Int) : (eight n).length = 8 := rfl
set_option maxRecDepth 100000 in
theorem wrap_i64 (z : Int) : I64 (IntKind.i64.wrap z) := by
  have hw : IntKind.i64.wrap z = (z + 9223372036854775808) % 18446744073709551616 - 9223372036854775808 := by
    simp [IntKind.wrap, IntKind.signed, IntKind.bits]; omega
  unfold I64
  omega
theorem numCod : Cod eight numR I64 := by
  refine ⟨fun l => by rw [numR_true], fun x r ho => ?_, fun l x r hr => ?_⟩
  · have e1 : (eight x ++ r).take 8 = eight x := by rw [List.take_append_of_le_length (by rw [eight_len']; omega)]; rfl
    have e2 : (eight x ++ r).drop 8 = r := by rw [List.drop_append_of_le_length (by rw [eight_len']; omega)]; rfl
    unfold numR
    rw [if_neg (by rw [List.length_append, eight_len']; simp), e1, e2, beN_eight x ho]
  · unfold numR at hr
    split at hr
    · simp at hr
    · rename_i h8
      have h8' : 8 ≤ l.length := by simp at h8; omega
      simp only [Prod.mk.injEq] at hr
      obtain ⟨rfl, rfl, _⟩ := hr
      exact ⟨by rw [eight_of l h8', List.take_append_drop], wrap_i64 _⟩
theorem truthCod : Cod truthB truthR (fun _ => True) := by
  refine ⟨fun l => by unfold truthR; rw [if_pos (.inl rfl)], fun x r ho => ?_, fun l x r hr => ?_⟩
  · cases x <;> simp [truthR, truthB, byteI]
  · unfold truthR at hr
    split at hr
    · simp at hr
    · rename_i h1
      match l, h1 with
      | [], h1 => simp at h1
      | a :: t, _ =>
        simp only [List.getD_cons_zero, List.drop_succ_cons, List.drop_zero, Prod.mk.injEq] at hr
        obtain ⟨rfl, rfl, h2⟩ := hr
        have h2 := of_decide_eq_false h2
        refine ⟨?_, trivial⟩
        have ha := a.toNat_lt
        have h3 : a.toNat = 0 ∨ a.toNat = 1 := by omega
        rcases h3 with h3 | h3
        · have : a = 0 := UInt8.toNat_inj.1 (by simpa using h3)
          subst this
          simp [truthB, byteI]
        · have : a = 1 := UInt8.toNat_inj.1 (by simpa using h3)
          subst this
          simp [truthB, byteI]
/-! Lists. -/
def OkL {α : Type} (ok : α → Prop) (l : List α) : Prop := l.length < 4294967296 ∧ ∀ x ∈ l, ok x
def listB {α : Type} (B : α → List UInt8) (l : List α) : List UInt8 := four l.length ++ l.flatMap B
theorem loop_fwd {α : Type} {B : α → List UInt8} {R : List UInt8 → Bool → α × List UInt8 × Bool} {ok : α → Prop} (h : Cod B R ok) (xs : List α) (acc : List α) (r : List UInt8) (ho : ∀ x ∈ xs, ok x) :
    listLoop R xs.length acc (xs.flatMap B ++ r) false = (acc ++ xs, r, false) := by
  induction xs generalizing acc with
  | nil => simp [listLoop]
  | cons x xs ih =>
    rw [List.length_cons, listLoop, if_neg (by simp), List.flatMap_cons, List.append_assoc, h.fwd x _ (ho x List.mem_cons_self)]
    simp only
    rw [ih _ (fun y hy => ho y (List.mem_cons_of_mem _ hy)), List.append_assoc]
    rfl
theorem loop_bwd {α : Type} {B : α → List UInt8} {R : List UInt8 → Bool → α × List UInt8 × Bool} {ok : α → Prop} (h : Cod B R ok) (n : Nat) (acc : List α) (l r : List UInt8) (ys : List α) (e : listLoop R n acc l false = (ys, r, false)) :
    ∃ xs, ys = acc ++ xs ∧ xs.length = n ∧ l = xs.flatMap B ++ r ∧ ∀ x ∈ xs, ok x := by
  induction n generalizing acc l with
  | zero =>
    simp only [listLoop, Prod.mk.injEq] at e
    obtain ⟨rfl, rfl, _⟩ := e
    exact ⟨[], by simp⟩
  | succ n ih =>
    rw [listLoop, if_neg (by simp)] at e
    obtain ⟨a, l1, b, e1⟩ := trip (R l false)
    rw [e1] at e
    simp only at e
    cases b with
    | true =>
      rw [listLoop_bad] at e
      simp at e
    | false =>
      obtain ⟨xs, rfl, hl, rfl, hok⟩ := ih _ _ e
      obtain ⟨h1, o1⟩ := h.bwd _ _ _ e1
      exact ⟨a :: xs, by simp, by simp [hl], by rw [h1, List.flatMap_cons, List.append_assoc], fun x hx => by
        rcases List.mem_cons.1 hx with rfl | hx
        · exact o1
        · exact hok x hx⟩
theorem flat_ge {α : Type} (B : α → List UInt8) (l : List α) (h : ∀ x, 1 ≤ (B x).length) : l.length ≤ (l.flatMap B).length := by
  induction l with
  | nil => simp
  | cons x l ih => rw [List.flatMap_cons, List.length_append, List.length_cons]; have := h x; omega
theorem listCod {α : Type} {B : α → List UInt8} {R : List UInt8 → Bool → α × List UInt8 × Bool} {ok : α → Prop} (h : Cod B R ok) (hB : ∀ x, 1 ≤ (B x).length) : Cod (listB B) (listR R) (OkL ok) := by
  refine ⟨fun l => ?_, fun x r ho => ?_, fun l x r hr => ?_⟩
  · unfold listR; rw [sizeR_true]; rfl
  · unfold listR
    rw [listB, List.append_assoc, sizeR_fwd x.length _ ho.1 (by rw [List.length_append]; have := flat_ge B x hB; omega)]
    simp only
    rw [loop_fwd h x [] r ho.2]
    rfl
  · unfold listR at hr
    obtain ⟨n, l1, b, e⟩ := trip (sizeR l false)
    rw [e] at hr
    simp only at hr
    cases b with
    | true => rw [listLoop_bad] at hr; simp at hr
    | false =>
      obtain ⟨h1, h2, h3⟩ := sizeR_bwd e
      obtain ⟨xs, rfl, hl, rfl, hok⟩ := loop_bwd h _ _ _ _ _ hr
      exact ⟨by rw [h1, listB, hl, List.append_assoc], by rw [hl]; exact h2, hok⟩
theorem textB_ge (s : ByteArray) : 1 ≤ (textB s).length := by rw [textB, List.length_append, four_len']; omega
theorem textsCod : Cod textsB (listR textR) (OkL OkT) := listCod textCod textB_ge
end Go.Proofs.YtcgjacffemjehaaDoor

namespace Go.Proofs.YtcgjacffemjehaaDoor
open Go.RowKit
set_option linter.unusedVariables false
set_option maxHeartbeats 1000000 in
set_option maxRecDepth 100000 in
theorem size_w {w0 w : World} {g : Nat} {v : Value} {l : List UInt8} (h : WS w0 g v l w) (n : Nat) (hn : n ≤ 1099511627776) (hl : l.length ≤ 549755813888) :
    Calls Tryd.prog 79 #[.pointer (some ⟨g, 0, none⟩), .int .i64 n] w (WPost w0 g (l ++ four n) (.returned (.int .i64 n))) := by
  obtain ⟨c0, c1, c2, f0⟩ := h.cells
  have H := hid h
  clear h
  go_enter Tryd.func79, Tryd.ntmps79
  go_wp2_with (at_builtin; refine wpList_append_b byteT rfl (.tmp 16) (.tmp 28) rfl w0.heap.size l (four n) v _ rfl rfl (H.out.own.alloc _) (OwnB.new w 0 5 _ (four n) 4 rfl (four_cells n).symm (Nat.zero_le _) (by decide)).reads (by simp [four]; omega) (by have := H.out.base; simp; omega) ?_; intro v' w1 ho hg _ _; obtain ⟨a1, m1, k1, rfl⟩ := own_form ho; have hW := (H.out.alloc _).grow hg ho; have HW := hid hW; obtain ⟨f1, d1⟩ := hW.cells; clear ho hg hW)
  go_ret
  exact WPost.mk rfl rfl HW.out.store
set_option maxHeartbeats 2000000 in
set_option maxRecDepth 100000 in
theorem text_w {w0 w : World} {g : Nat} {v : Value} {l : List UInt8} (h : WS w0 g v l w) (p : Addr) (s : ByteArray) (hp : w0.cell? p = some (.string s)) (hs : s.size ≤ 549755813884) (hl : l.length ≤ 549755813888) :
    Calls Tryd.prog 67 #[.pointer (some ⟨g, 0, none⟩), .pointer (some p)] w (WPost w0 g (l ++ textB s) (.returned (.tuple #[]))) := by
  have hps := lt_of_cell hp
  have hp1 : w.cell? p = some (.string s) := (h.below.cell hps).trans hp
  have HP := hid hp
  have H := hid h
  clear h hp
  go_enter Tryd.func67, Tryd.ntmps67
  go_wp2_with (go_at_call 79; refine (size_w H.out s.size (by omega) hl).mono ?_; intro e w1 hq; obtain ⟨rfl, v1, h1⟩ := hq; have H1 := hid h1; have hp2 := (h1.below.cell hps).trans HP.out; obtain ⟨c0, c1, c2, f0⟩ := h1.cells; clear h1)
  go_region_law (refine step_append_s byteT Tryd.underlying9 (by rfl) _ _ (by rfl) w0.heap.size (l ++ four s.size) s v1 (by rfl) (by rfl) H1.out.drew.own (by simp [four]; omega) H1.out.base ?_; intro v' w2 ho hg; obtain ⟨a1, m1, k1, rfl⟩ := own_form ho; have hW := H1.out.drew.grow hg ho; have HW := hid hW; obtain ⟨f1, d1⟩ := hW.cells; have s2 : w2.cell? p = some (.string s) := (hW.below.cell hps).trans HP.out; clear ho hg hW)
  all_goals
    go_end0
    exact WPost.mk rfl (by simp [textB]) HW.out.store
set_option maxHeartbeats 2000000 in
set_option maxRecDepth 100000 in
theorem truth_w {w0 w : World} {g : Nat} {v : Value} {l : List UInt8} (h : WS w0 g v l w) (p : Addr) (s : Bool) (hp : w0.cell? p = some (.bool s)) (hl : l.length ≤ 549755813888) :
    Calls Tryd.prog 70 #[.pointer (some ⟨g, 0, none⟩), .pointer (some p)] w (WPost w0 g (l ++ truthB s) (.returned (.tuple #[]))) := by
  have hps := lt_of_cell hp
  have hp1 : w.cell? p = some (.bool s) := (h.below.cell hps).trans hp
  obtain ⟨c0, c1, c2, f0⟩ := h.cells
  have H := hid h
  clear h hp
  cases s
  all_goals
    go_enter Tryd.func70, Tryd.ntmps70
    go_wp2_with (at_builtin; refine wpList_append_b byteT rfl (.tmp 18) (.tmp 20) rfl w0.heap.size l [byteI _] v _ rfl rfl (H.out.own.alloc _) (OwnB.new w 0 5 _ _ 1 rfl (one_cells _ (by rfl)).symm (Nat.zero_le _) (by decide)).reads (by simp; omega) (by have := H.out.base; simp; omega) ?_; intro v' w1 ho hg _ _; obtain ⟨a1, m1, k1, rfl⟩ := own_form ho; have hW := (H.out.alloc _).grow hg ho; have HW := hid hW; obtain ⟨f1, d1⟩ := hW.cells; clear ho hg hW)
    go_end0
    exact WPost.mk rfl rfl HW.out.store
set_option maxHeartbeats 2000000 in
set_option maxRecDepth 100000 in
theorem num_w {w0 w : World} {g : Nat} {v : Value} {l : List UInt8} (h : WS w0 g v l w) (p : Addr) (n : Int) (hp : w0.cell? p = some (.int .i64 n)) (hn : -9223372036854775808 ≤ n ∧ n ≤ 9223372036854775807) (hl : l.length ≤ 549755813888) :
    Calls Tryd.prog 68 #[.pointer (some ⟨g, 0, none⟩), .pointer (some p)] w (WPost w0 g (l ++ eight n) (.returned (.tuple #[]))) := by
  have hps := lt_of_cell hp
  have hp1 : w.cell? p = some (.int .i64 n) := (h.below.cell hps).trans hp
  obtain ⟨c0, c1, c2, f0⟩ := h.cells
  have H := hid h
  have HP := hid hp
  clear h hp
  go_enter Tryd.func68, Tryd.ntmps68
  go_wp2
  go_loopw [4] (fun i wr => ∃ (k : Nat) (v' : Value), k ≤ 8 ∧ i = .int .i64 (56 - 8 * (k : Int)) ∧ WS w0 g v' (l ++ (eight n).take k) wr) (fun i _ => (intOf i + 8).toNat)
  case atStart => exact ⟨0, v, by omega, by simp, by simpa using H.out⟩
  case round =>
    obtain ⟨k, v2, hk, rfl, h⟩ := hrel
    have hp2 : wr.cell? p = some (.int .i64 n) := (h.below.cell hps).trans HP.out
    obtain ⟨c0, c1, c2, f0⟩ := h.cells
    have hn1 : ∀ o, (wr.alloc o).cell? ⟨g, 0, none⟩ = some v2 := fun o => (World.cell?_alloc_lt wr o ⟨g, 0, none⟩ (lt_of_cell c0)).trans c0
    have hn2 : ∀ o, (wr.alloc o).cell? p = some (.int .i64 n) := fun o => (World.cell?_alloc_lt wr o p (lt_of_cell hp2)).trans hp2
    have H2 := hid h
    clear h
    by_cases hk8 : k < 8
    · have t0 : decide ((0 : Int) ≤ 56 - 8 * (k : Int)) = true := decide_eq_true (by omega)
      have b1 : (0 : Int) ≤ 56 - 8 * (k : Int) := by omega
      have b2 : 56 - 8 * (k : Int) < 64 := by omega
      go_wp2
      go_region_law (refine step_append_b byteT (by rfl) _ _ (by rfl) w0.heap.size (l ++ (eight n).take k) [byteI _] v2 _ (by rfl) (by rfl) (H2.out.drew.alloc _).own (OwnB.new _ 0 5 _ _ 1 rfl (one_wrap _).symm (Nat.zero_le _) (by decide)).reads (by simp; omega) (by have := H2.out.base; simp; omega) ?_; intro v' w2 ho hg _ _; obtain ⟨a1, m1, k1, rfl⟩ := own_form ho; have hW := (H2.out.drew.alloc _).grow hg ho; have HW := hid hW; obtain ⟨f1, d1⟩ := hW.cells; have s1 : w2.cell? p = some (.int .i64 n) := (hW.below.cell hps).trans HP.out; clear ho hg hW)
      all_goals
        have he := eight_step n k hk8
        go_wp2
        go_roundw
        case rel => exact ⟨k + 1, _, by omega, by congr 1; omega, by rw [he, ← List.append_assoc]; exact HW.out.store⟩
        case measure => simp [intOf]; omega
    · have t0 : decide ((0 : Int) ≤ 56 - 8 * (k : Int)) = false := decide_eq_false (by omega)
      obtain rfl : k = 8 := by omega
      go_wp2
      go_end0
      exact WPost.mk rfl (by simp [eight]) H2.out
end Go.Proofs.YtcgjacffemjehaaDoor

namespace Go.Proofs.YtcgjacffemjehaaDoor
open Go.RowKit
open Go.Proofs.YtcgjacffemjehaaDoorW.PrintWords (Kd rdOf)
open Go.Proofs.YtcgjacffemjehaaDoor.PRowReads
set_option linter.unusedVariables false
theorem take_snoc_getD {α : Type} (l : List α) (d : α) (k : Nat) (h : k < l.length) : l.take (k + 1) = l.take k ++ [l.getD k d] := by
  rw [List.take_succ_eq_append_getElem h]
  simp [List.getD, h]
theorem flat_snoc {α : Type} (f : α → List UInt8) (l : List α) (d : α) (k : Nat) (h : k < l.length) : (l.take (k + 1)).flatMap f = (l.take k).flatMap f ++ f (l.getD k d) := by
  rw [take_snoc_getD l d k h]
  simp
theorem flat_take_le {α : Type} (f : α → List UInt8) (l : List α) (k : Nat) : ((l.take k).flatMap f).length ≤ (l.flatMap f).length := by
  have h : l.flatMap f = (l.take k).flatMap f ++ (l.drop k).flatMap f := by rw [← List.flatMap_append, List.take_append_drop]
  rw [h, List.length_append]
  omega
set_option maxHeartbeats 1000000 in
theorem word_w {w0 w : World} {g : Nat} {v : Value} {l : List UInt8} (h : WS w0 g v l w) (p : Addr) (s : ByteArray) (hp : w0.cell? p = some (.string s)) (hs : s.size ≤ 549755813884) (hl : l.length ≤ 549755813888) :
    Calls Tryd.prog 82 #[.pointer (some ⟨g, 0, none⟩), .pointer (some p)] w (WPost w0 g (l ++ textB s) (.returned (.tuple #[]))) := by
  go_enter Tryd.func82, Tryd.ntmps82
  go_wp2_with (go_at_call 67; refine (text_w h p s hp hs hl).mono ?_; intro e w1 hq; obtain ⟨rfl, h1⟩ := hq)
  go_end0
  exact ⟨rfl, h1⟩
set_option maxHeartbeats 2000000 in
set_option maxRecDepth 100000 in
theorem listS_w {w0 w : World} {g : Nat} {v : Value} {l : List UInt8} (h : WS w0 g v l w) (p : Addr) (A : Option Addr) (c : Nat) (xs : List ByteArray) (hp : w0.cell? p = some (.slice A xs.length c)) (hC : Kd.string.C w0 A xs.length xs)
    (hx : xs.length ≤ 1048576) (hs : ∀ s ∈ xs, s.size ≤ 1048576) (hl : l.length + (textsB xs).length ≤ 549755813888) :
    Calls Tryd.prog 81 #[.pointer (some ⟨g, 0, none⟩), .pointer (some p), .func (.func 82) #[] #[]] w (WPost w0 g (l ++ textsB xs) (.returned (.tuple #[]))) := by
  have hps := lt_of_cell hp
  have hp1 : w.cell? p = some (.slice A xs.length c) := (h.below.cell hps).trans hp
  have HP := hid hp
  have H := hid h
  have HC := hid hC
  clear h hp hC
  go_enter Tryd.func81, Tryd.ntmps81
  go_wp2_with (go_at_call 79; refine (size_w H.out xs.length (by omega) (by omega)).mono ?_; intro e w1 hq; obtain ⟨rfl, v1, h1⟩ := hq; have H1 := hid h1; have hp2 := (h1.below.cell hps).trans HP.out; obtain ⟨c0, c1, c2, f0⟩ := h1.cells; clear h1)
  go_loopw [7] (fun i wr => ∃ (k : Nat) (v' : Value), k ≤ xs.length ∧ i = .int .i64 k ∧ WS w0 g v' (l ++ four xs.length ++ (xs.take k).flatMap textB) wr) (fun i _ => xs.length - (intOf i).toNat)
  case atStart => exact ⟨0, v1, by omega, by simp, by simpa using H1.out⟩
  case round =>
    obtain ⟨k, v2, hk, rfl, h⟩ := hrel
    have hp3 : wr.cell? p = some (.slice A xs.length c) := (h.below.cell hps).trans HP.out
    obtain ⟨c0, c1, c2, f0⟩ := h.cells
    have H2 := hid h
    clear h
    by_cases hk8 : k < xs.length
    · have t0 : decide (k < xs.length) = true := decide_eq_true hk8
      obtain ⟨ad, hA, hx0⟩ := Go.Proofs.YtcgjacffemjehaaDoorW.PrintWords.Kd.at_string HC.out (k : Int) (by omega) (by omega)
      subst hA
      rw [Int.toNat_natCast] at hx0
      have hf := flat_snoc textB xs ByteArray.empty k hk8
      have hsx : (xs.getD k ByteArray.empty).size ≤ 1048576 := hs _ (by rw [List.getD_eq_getElem?_getD, List.getElem?_eq_getElem hk8]; simp)
      have hlen : (l ++ four xs.length ++ (xs.take k).flatMap textB).length ≤ 549755813888 := by
        have := flat_take_le textB xs k
        simp only [textsB, List.length_append] at hl ⊢
        omega
      have HF := hid hf
      have HX := hid hx0
      clear hf hx0
      go_wp2_with (go_at_call 82; refine (word_w H2.out (ad.add k) (xs.getD k ByteArray.empty) HX.out (by omega) hlen).mono ?_; intro e w2 hq; obtain ⟨rfl, v3, h3⟩ := hq; have H3 := hid h3; clear h3)
      go_roundw
      case rel => exact ⟨k + 1, _, by omega, by go_num, by rw [HF.out, ← List.append_assoc]; exact H3.out⟩
      case measure => simp [intOf]; omega
    · have t0 : decide (k < xs.length) = false := decide_eq_false hk8
      obtain rfl : k = xs.length := by omega
      go_wp2
      go_end0
      exact WPost.mk rfl (by rw [List.take_length]; simp [textsB]) H2.out
end Go.Proofs.YtcgjacffemjehaaDoor

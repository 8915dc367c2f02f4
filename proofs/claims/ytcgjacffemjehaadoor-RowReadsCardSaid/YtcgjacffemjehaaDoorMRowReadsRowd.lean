/-
  RowURefresh, RowUAccess, RowUResource, RowUTicket, RowUKeys: this proof's parts in one text.
-/
import Derived.Test.YtcgjacffemjehaaDoorMRowReadsRowb
namespace Go.Proofs.YtcgjacffemjehaaDoor
open Go.RowKit
open Go.Proofs.YtcgjacffemjehaaDoorW.PrintWords (Kd rdOf results_ct)
open Go.Proofs.YtcgjacffemjehaaDoor.PRowReads
set_option linter.unusedVariables false
set_option maxHeartbeats 8000000 in
set_option maxRecDepth 100000 in
theorem unpackRefresh_any (w : World) (v : Value) (l : List UInt8) (hr : ReadsB w v l) (hl : l.length ≤ 1099511627776) :
    Calls Tryd.prog 42 #[v, .func (.func 41) #[] #[]] w (UP k31 z31 (unR (refreshR l false)) w) := by
  obtain ⟨A9, m9, c9, rfl⟩ := reads_form hr
  have hrs := rs_make (g := w.heap.size + 1 + 1 + 1) (W := (((w.alloc (.cells #[.string ⟨#[]⟩, .string ⟨#[]⟩, .int .i64 0] 31)).alloc (.cells #[.string ⟨#[]⟩, .string ⟨#[]⟩, .int .i64 0] 31)).alloc (.cells #[.string ⟨#[]⟩, .string ⟨#[]⟩, .int .i64 0] 31))) ((((Below.refl _ w).alloc (Nat.le_refl _) _).alloc (by simp) _).alloc (by simp; omega) _) (by simp) hr hl
  have hb0 : AtB ((((w.alloc (.cells #[.string ⟨#[]⟩, .string ⟨#[]⟩, .int .i64 0] 31)).alloc (.cells #[.string ⟨#[]⟩, .string ⟨#[]⟩, .int .i64 0] 31)).alloc (.cells #[.string ⟨#[]⟩, .string ⟨#[]⟩, .int .i64 0] 31)).alloc (.cells #[.slice A9 m9 c9, .bool true, .bool false] 129)) w.heap.size 31 #[.string ⟨#[]⟩, .string ⟨#[]⟩, .int .i64 0] := (((at_make rfl).alloc _).alloc _).alloc _
  have hb1 : AtB ((((w.alloc (.cells #[.string ⟨#[]⟩, .string ⟨#[]⟩, .int .i64 0] 31)).alloc (.cells #[.string ⟨#[]⟩, .string ⟨#[]⟩, .int .i64 0] 31)).alloc (.cells #[.string ⟨#[]⟩, .string ⟨#[]⟩, .int .i64 0] 31)).alloc (.cells #[.slice A9 m9 c9, .bool true, .bool false] 129)) (w.heap.size + 1) 31 #[.string ⟨#[]⟩, .string ⟨#[]⟩, .int .i64 0] := ((at_make (by simp)).alloc _).alloc _
  have hb2 : AtB ((((w.alloc (.cells #[.string ⟨#[]⟩, .string ⟨#[]⟩, .int .i64 0] 31)).alloc (.cells #[.string ⟨#[]⟩, .string ⟨#[]⟩, .int .i64 0] 31)).alloc (.cells #[.string ⟨#[]⟩, .string ⟨#[]⟩, .int .i64 0] 31)).alloc (.cells #[.slice A9 m9 c9, .bool true, .bool false] 129)) (w.heap.size + 1 + 1) 31 #[.string ⟨#[]⟩, .string ⟨#[]⟩, .int .i64 0] := (at_make (by simp)).alloc _
  have h00 : Below w.heap.size w ((((w.alloc (.cells #[.string ⟨#[]⟩, .string ⟨#[]⟩, .int .i64 0] 31)).alloc (.cells #[.string ⟨#[]⟩, .string ⟨#[]⟩, .int .i64 0] 31)).alloc (.cells #[.string ⟨#[]⟩, .string ⟨#[]⟩, .int .i64 0] 31)).alloc (.cells #[.slice A9 m9 c9, .bool true, .bool false] 129)) := hrs.below
  have h01 : ((((w.alloc (.cells #[.string ⟨#[]⟩, .string ⟨#[]⟩, .int .i64 0] 31)).alloc (.cells #[.string ⟨#[]⟩, .string ⟨#[]⟩, .int .i64 0] 31)).alloc (.cells #[.string ⟨#[]⟩, .string ⟨#[]⟩, .int .i64 0] 31)).alloc (.cells #[.slice A9 m9 c9, .bool true, .bool false] 129)).heap.size = w.heap.size + 1 + 1 + 1 + 1 := by simp
  obtain ⟨⟨x, l5, b5⟩, hz⟩ : ∃ z, refreshR l false = z := ⟨_, rfl⟩
  have hcall := refresh_r hrs hb1 (by omega) (by omega)
  rw [hz] at hcall ⊢
  have HC := hid hcall
  have HB0 := hid hb0
  have HB2 := hid hb2
  have HB := hid h00
  clear hcall hrs hb0 hb1 hb2 h00 hz hr
  go_enter Tryd.func42, Tryd.ntmps42
  go_wp2_with fail
  refine HC.out.mono ?_
  clear HC h01
  intro e w5 hq
  obtain ⟨rfl, h, ⟨cs3, ha, hM⟩, hm⟩ := hq
  rw [World.size_alloc, World.size_alloc, World.size_alloc, World.size_alloc] at hM
  obtain rfl := k31_openM hM
  have hMB := k31.M_bound hM
  have HMM := hid hMB
  clear hM hMB 
  have hb0 := HB0.out.mod hm (by omega)
  have hb2 := HB2.out.mod hm (by omega)
  have hbb : Below w.heap.size w w5 := HB.out.trans (hm.below (by simp; omega) (fun q e => by omega))
  have hx0 : w5.cell? ⟨w.heap.size + 1, 0, none⟩ = some (.string x.f0) := ha.cell 0
  have hx1 : w5.cell? ⟨w.heap.size + 1, 1, none⟩ = some (.string x.f1) := ha.cell 1
  have hx2 : w5.cell? ⟨w.heap.size + 1, 2, none⟩ = some (.int .i64 x.f2) := ha.cell 2
  have hn0 : w5.cell? ⟨w.heap.size + 1 + 1, 0, none⟩ = some (.string ⟨#[]⟩) := hb2.cell 0
  have hn1 : w5.cell? ⟨w.heap.size + 1 + 1, 1, none⟩ = some (.string ⟨#[]⟩) := hb2.cell 1
  have hn2 : w5.cell? ⟨w.heap.size + 1 + 1, 2, none⟩ = some (.int .i64 0) := hb2.cell 2
  have hr0 : w5.cell? ⟨w.heap.size, 0, none⟩ = some (.string ⟨#[]⟩) := hb0.cell 0
  have hf0 := hb0.free 0
  have hr1 : w5.cell? ⟨w.heap.size, 1, none⟩ = some (.string ⟨#[]⟩) := hb0.cell 1
  have hf1 := hb0.free 1
  have hr2 : w5.cell? ⟨w.heap.size, 2, none⟩ = some (.int .i64 0) := hb0.cell 2
  have hf2 := hb0.free 2
  obtain ⟨v7, hr7, d0, d1, d2, _, _⟩ := h.cells
  obtain ⟨A7, c7, rfl⟩ : ∃ A c, v7 = .slice A l5.length c := by
    rcases hr7 with ⟨rfl, rfl⟩ | ⟨b, o, cap, rfl, _, _⟩ <;> exact ⟨_, _, rfl⟩
  clear HB HB0 HB2
  have HB := hid hbb
  have HB0 := hid hb0
  clear hbb hb0 hb2 ha hm h hr7
  cases b5 with
  | true =>
    · go_wp2
      have q0 : AtB _ w.heap.size 31 #[.string ⟨#[]⟩, .string ⟨#[]⟩, .int .i64 0] := AtB.set HB0.out 0 (.string ⟨#[]⟩ : Value)
      have q1 : AtB _ w.heap.size 31 #[.string ⟨#[]⟩, .string ⟨#[]⟩, .int .i64 0] := AtB.set q0 1 (.string ⟨#[]⟩ : Value)
      have q2 : AtB _ w.heap.size 31 #[.string ⟨#[]⟩, .string ⟨#[]⟩, .int .i64 0] := AtB.set q1 2 (.int .i64 0 : Value)
      have hres2 := q2
      refine bodyPost_ret (results_ct rfl _ _ w.heap.size 31 #[.string ⟨#[]⟩, .string ⟨#[]⟩, .int .i64 0] (0, 0) _ rfl hres2 Tryd.underlying31 rfl (by kernel_rfl)) rfl ?_
      rw [show unR (x, l5, true) = none from if_pos (.inl rfl)]
      exact ⟨[.string ⟨#[]⟩, .string ⟨#[]⟩, .int .i64 0], rfl, (k31_mkM _ _ _ z31), (((HB.out.setCell (p := ⟨w.heap.size, 0, none⟩) (Nat.le_refl _) _).setCell (p := ⟨w.heap.size, 1, none⟩) (Nat.le_refl _) _).setCell (p := ⟨w.heap.size, 2, none⟩) (Nat.le_refl _) _)⟩
  | false =>
    by_cases h5 : 0 < l5.length
    · have t1 : decide ((0 : Int) < (l5.length : Int)) = true := decide_eq_true (by omega)
      have t2 : decide (0 < l5.length) = true := decide_eq_true h5
      go_wp2
      have q0 : AtB _ w.heap.size 31 #[.string ⟨#[]⟩, .string ⟨#[]⟩, .int .i64 0] := AtB.set HB0.out 0 (.string ⟨#[]⟩ : Value)
      have q1 : AtB _ w.heap.size 31 #[.string ⟨#[]⟩, .string ⟨#[]⟩, .int .i64 0] := AtB.set q0 1 (.string ⟨#[]⟩ : Value)
      have q2 : AtB _ w.heap.size 31 #[.string ⟨#[]⟩, .string ⟨#[]⟩, .int .i64 0] := AtB.set q1 2 (.int .i64 0 : Value)
      have hres2 := q2
      refine bodyPost_ret (results_ct rfl _ _ w.heap.size 31 #[.string ⟨#[]⟩, .string ⟨#[]⟩, .int .i64 0] (0, 0) _ rfl hres2 Tryd.underlying31 rfl (by kernel_rfl)) rfl ?_
      rw [show unR (x, l5, false) = none from if_pos (.inr h5)]
      exact ⟨[.string ⟨#[]⟩, .string ⟨#[]⟩, .int .i64 0], rfl, (k31_mkM _ _ _ z31), (((HB.out.setCell (p := ⟨w.heap.size, 0, none⟩) (Nat.le_refl _) _).setCell (p := ⟨w.heap.size, 1, none⟩) (Nat.le_refl _) _).setCell (p := ⟨w.heap.size, 2, none⟩) (Nat.le_refl _) _)⟩
    · have h50 : l5 = [] := List.eq_nil_of_length_eq_zero (by omega)
      subst h50
      have t1 : decide ((0 : Int) < ((([] : List UInt8).length : Nat) : Int)) = false := rfl
      go_wp2
      have q0 : AtB _ w.heap.size 31 #[.string x.f0, .string ⟨#[]⟩, .int .i64 0] := AtB.set HB0.out 0 (.string x.f0 : Value)
      have q1 : AtB _ w.heap.size 31 #[.string x.f0, .string x.f1, .int .i64 0] := AtB.set q0 1 (.string x.f1 : Value)
      have q2 : AtB _ w.heap.size 31 #[.string x.f0, .string x.f1, .int .i64 x.f2] := AtB.set q1 2 (.int .i64 x.f2 : Value)
      have hres2 := q2
      refine bodyPost_ret (results_ct rfl _ _ w.heap.size 31 #[.string x.f0, .string x.f1, .int .i64 x.f2] (0, 0) _ rfl hres2 Tryd.underlying31 rfl (by kernel_rfl)) rfl ?_
      rw [show unR (x, ([] : List UInt8), false) = some x from if_neg (by simp)]
      have hM1 := HMM.out
      exact ⟨[.string x.f0, .string x.f1, .int .i64 x.f2], rfl, up_mem hM1 (fun q hq => by have := hq.2.1; omega) (by omega) ((((Mod.refl (fun q => q = w.heap.size) w5).setCell ⟨w.heap.size, 0, none⟩ (.string x.f0 : Value) (.inl rfl)).setCell ⟨w.heap.size, 1, none⟩ (.string x.f1 : Value) (.inl rfl)).setCell ⟨w.heap.size, 2, none⟩ (.int .i64 x.f2 : Value) (.inl rfl)), (((HB.out.setCell (p := ⟨w.heap.size, 0, none⟩) (Nat.le_refl _) _).setCell (p := ⟨w.heap.size, 1, none⟩) (Nat.le_refl _) _).setCell (p := ⟨w.heap.size, 2, none⟩) (Nat.le_refl _) _)⟩
set_option maxHeartbeats 8000000 in
set_option maxRecDepth 100000 in
theorem toRefresh_any (w : World) (v : Value) (l : List UInt8) (hr : ReadsB w v l) (hl : l.length ≤ 1099511627776) :
    Calls Tryd.prog 12 #[v] w (UP k31 z31 (unR (refreshR l false)) w) := by
  have h00 : Below w.heap.size w (w.alloc (.cells #[.string ⟨#[]⟩, .string ⟨#[]⟩, .int .i64 0] 31)) := (Below.refl _ w).alloc (Nat.le_refl _) _
  have hb0 : AtB (w.alloc (.cells #[.string ⟨#[]⟩, .string ⟨#[]⟩, .int .i64 0] 31)) w.heap.size 31 #[.string ⟨#[]⟩, .string ⟨#[]⟩, .int .i64 0] := at_make rfl
  obtain ⟨o, ho⟩ : ∃ o, unR (refreshR l false) = o := ⟨_, rfl⟩
  have hcall := unpackRefresh_any (w.alloc (.cells #[.string ⟨#[]⟩, .string ⟨#[]⟩, .int .i64 0] 31)) v l (hr.below h00) hl
  rw [ho] at hcall ⊢
  have HC := hid hcall
  have HB0 := hid hb0
  have HB := hid h00
  clear hcall hb0 h00 ho hr
  go_enter Tryd.func12, Tryd.ntmps12
  go_wp2_with (go_at_call 42; refine HC.out.mono ?_)
  clear HC
  intro e w5 hq
  obtain ⟨cs3, rfl, hM, hb⟩ := hq
  rw [World.size_alloc] at hM hb
  obtain ⟨y, hy⟩ : ∃ y, o.getD z31 = y := ⟨_, rfl⟩
  rw [hy] at hM
  have HY := hid hy
  clear hy
  obtain rfl := k31_openM hM
  have hMB := k31.M_bound hM
  have HMM := hid hMB
  clear hM hMB 
  have hb0 : AtB w5 w.heap.size 31 #[.string ⟨#[]⟩, .string ⟨#[]⟩, .int .i64 0] := (hb.block w.heap.size (by omega)).trans HB0.out
  have hbb : Below w.heap.size w w5 := HB.out.trans (hb.mono (by omega))
  have hr0 : w5.cell? ⟨w.heap.size, 0, none⟩ = some (.string ⟨#[]⟩) := hb0.cell 0
  have hf0 := hb0.free 0
  have hr1 : w5.cell? ⟨w.heap.size, 1, none⟩ = some (.string ⟨#[]⟩) := hb0.cell 1
  have hf1 := hb0.free 1
  have hr2 : w5.cell? ⟨w.heap.size, 2, none⟩ = some (.int .i64 0) := hb0.cell 2
  have hf2 := hb0.free 2
  clear HB HB0
  have HB := hid hbb
  have HB0 := hid hb0
  obtain ⟨ev, hev⟩ : ∃ ev, errV o.isSome = ev := ⟨_, rfl⟩
  rw [hev]
  have HEV := hid hev
  clear hbb hb0 hb hev
  go_wp2
  have q0 : AtB _ w.heap.size 31 #[.string y.f0, .string ⟨#[]⟩, .int .i64 0] := AtB.set HB0.out 0 (.string y.f0 : Value)
  have q1 : AtB _ w.heap.size 31 #[.string y.f0, .string y.f1, .int .i64 0] := AtB.set q0 1 (.string y.f1 : Value)
  have q2 : AtB _ w.heap.size 31 #[.string y.f0, .string y.f1, .int .i64 y.f2] := AtB.set q1 2 (.int .i64 y.f2 : Value)
  have hres2 := q2
  refine bodyPost_ret (results_ct rfl _ _ w.heap.size 31 #[.string y.f0, .string y.f1, .int .i64 y.f2] (0, 0) _ rfl hres2 Tryd.underlying31 rfl (by kernel_rfl)) rfl ?_
  refine ⟨[.string y.f0, .string y.f1, .int .i64 y.f2], by rw [HEV.out]; rfl, ?_, (((HB.out.setCell (p := ⟨w.heap.size, 0, none⟩) (Nat.le_refl _) _).setCell (p := ⟨w.heap.size, 1, none⟩) (Nat.le_refl _) _).setCell (p := ⟨w.heap.size, 2, none⟩) (Nat.le_refl _) _)⟩
  rw [HY.out]
  exact up_mem HMM.out (fun q hq => by have := hq.2.1; omega) (by omega) ((((Mod.refl (fun q => q = w.heap.size) w5).setCell ⟨w.heap.size, 0, none⟩ (.string y.f0 : Value) (.inl rfl)).setCell ⟨w.heap.size, 1, none⟩ (.string y.f1 : Value) (.inl rfl)).setCell ⟨w.heap.size, 2, none⟩ (.int .i64 y.f2 : Value) (.inl rfl))
end Go.Proofs.YtcgjacffemjehaaDoor

namespace Go.Proofs.YtcgjacffemjehaaDoor
open Go.RowKit
open Go.Proofs.YtcgjacffemjehaaDoorW.PrintWords (Kd rdOf results_ct)
open Go.Proofs.YtcgjacffemjehaaDoor.PRowReads
set_option linter.unusedVariables false
set_option maxHeartbeats 8000000 in
set_option maxRecDepth 100000 in
theorem unpackAccess_any (w : World) (v : Value) (l : List UInt8) (hr : ReadsB w v l) (hl : l.length ≤ 1099511627776) :
    Calls Tryd.prog 49 #[v, .func (.func 50) #[] #[]] w (UP k34 z34 (unR (accessR l false)) w) := by
  obtain ⟨A9, m9, c9, rfl⟩ := reads_form hr
  have hrs := rs_make (g := w.heap.size + 1 + 1 + 1) (W := (((w.alloc (.cells #[.string ⟨#[]⟩, .string ⟨#[]⟩, .string ⟨#[]⟩, .string ⟨#[]⟩, .string ⟨#[]⟩, .slice none 0 0, .slice none 0 0, .int .i64 0, .int .i64 0, .bool false] 34)).alloc (.cells #[.string ⟨#[]⟩, .string ⟨#[]⟩, .string ⟨#[]⟩, .string ⟨#[]⟩, .string ⟨#[]⟩, .slice none 0 0, .slice none 0 0, .int .i64 0, .int .i64 0, .bool false] 34)).alloc (.cells #[.string ⟨#[]⟩, .string ⟨#[]⟩, .string ⟨#[]⟩, .string ⟨#[]⟩, .string ⟨#[]⟩, .slice none 0 0, .slice none 0 0, .int .i64 0, .int .i64 0, .bool false] 34))) ((((Below.refl _ w).alloc (Nat.le_refl _) _).alloc (by simp) _).alloc (by simp; omega) _) (by simp) hr hl
  have hb0 : AtB ((((w.alloc (.cells #[.string ⟨#[]⟩, .string ⟨#[]⟩, .string ⟨#[]⟩, .string ⟨#[]⟩, .string ⟨#[]⟩, .slice none 0 0, .slice none 0 0, .int .i64 0, .int .i64 0, .bool false] 34)).alloc (.cells #[.string ⟨#[]⟩, .string ⟨#[]⟩, .string ⟨#[]⟩, .string ⟨#[]⟩, .string ⟨#[]⟩, .slice none 0 0, .slice none 0 0, .int .i64 0, .int .i64 0, .bool false] 34)).alloc (.cells #[.string ⟨#[]⟩, .string ⟨#[]⟩, .string ⟨#[]⟩, .string ⟨#[]⟩, .string ⟨#[]⟩, .slice none 0 0, .slice none 0 0, .int .i64 0, .int .i64 0, .bool false] 34)).alloc (.cells #[.slice A9 m9 c9, .bool true, .bool false] 129)) w.heap.size 34 #[.string ⟨#[]⟩, .string ⟨#[]⟩, .string ⟨#[]⟩, .string ⟨#[]⟩, .string ⟨#[]⟩, .slice none 0 0, .slice none 0 0, .int .i64 0, .int .i64 0, .bool false] := (((at_make rfl).alloc _).alloc _).alloc _
  have hb1 : AtB ((((w.alloc (.cells #[.string ⟨#[]⟩, .string ⟨#[]⟩, .string ⟨#[]⟩, .string ⟨#[]⟩, .string ⟨#[]⟩, .slice none 0 0, .slice none 0 0, .int .i64 0, .int .i64 0, .bool false] 34)).alloc (.cells #[.string ⟨#[]⟩, .string ⟨#[]⟩, .string ⟨#[]⟩, .string ⟨#[]⟩, .string ⟨#[]⟩, .slice none 0 0, .slice none 0 0, .int .i64 0, .int .i64 0, .bool false] 34)).alloc (.cells #[.string ⟨#[]⟩, .string ⟨#[]⟩, .string ⟨#[]⟩, .string ⟨#[]⟩, .string ⟨#[]⟩, .slice none 0 0, .slice none 0 0, .int .i64 0, .int .i64 0, .bool false] 34)).alloc (.cells #[.slice A9 m9 c9, .bool true, .bool false] 129)) (w.heap.size + 1) 34 #[.string ⟨#[]⟩, .string ⟨#[]⟩, .string ⟨#[]⟩, .string ⟨#[]⟩, .string ⟨#[]⟩, .slice none 0 0, .slice none 0 0, .int .i64 0, .int .i64 0, .bool false] := ((at_make (by simp)).alloc _).alloc _
  have hb2 : AtB ((((w.alloc (.cells #[.string ⟨#[]⟩, .string ⟨#[]⟩, .string ⟨#[]⟩, .string ⟨#[]⟩, .string ⟨#[]⟩, .slice none 0 0, .slice none 0 0, .int .i64 0, .int .i64 0, .bool false] 34)).alloc (.cells #[.string ⟨#[]⟩, .string ⟨#[]⟩, .string ⟨#[]⟩, .string ⟨#[]⟩, .string ⟨#[]⟩, .slice none 0 0, .slice none 0 0, .int .i64 0, .int .i64 0, .bool false] 34)).alloc (.cells #[.string ⟨#[]⟩, .string ⟨#[]⟩, .string ⟨#[]⟩, .string ⟨#[]⟩, .string ⟨#[]⟩, .slice none 0 0, .slice none 0 0, .int .i64 0, .int .i64 0, .bool false] 34)).alloc (.cells #[.slice A9 m9 c9, .bool true, .bool false] 129)) (w.heap.size + 1 + 1) 34 #[.string ⟨#[]⟩, .string ⟨#[]⟩, .string ⟨#[]⟩, .string ⟨#[]⟩, .string ⟨#[]⟩, .slice none 0 0, .slice none 0 0, .int .i64 0, .int .i64 0, .bool false] := (at_make (by simp)).alloc _
  have h00 : Below w.heap.size w ((((w.alloc (.cells #[.string ⟨#[]⟩, .string ⟨#[]⟩, .string ⟨#[]⟩, .string ⟨#[]⟩, .string ⟨#[]⟩, .slice none 0 0, .slice none 0 0, .int .i64 0, .int .i64 0, .bool false] 34)).alloc (.cells #[.string ⟨#[]⟩, .string ⟨#[]⟩, .string ⟨#[]⟩, .string ⟨#[]⟩, .string ⟨#[]⟩, .slice none 0 0, .slice none 0 0, .int .i64 0, .int .i64 0, .bool false] 34)).alloc (.cells #[.string ⟨#[]⟩, .string ⟨#[]⟩, .string ⟨#[]⟩, .string ⟨#[]⟩, .string ⟨#[]⟩, .slice none 0 0, .slice none 0 0, .int .i64 0, .int .i64 0, .bool false] 34)).alloc (.cells #[.slice A9 m9 c9, .bool true, .bool false] 129)) := hrs.below
  have h01 : ((((w.alloc (.cells #[.string ⟨#[]⟩, .string ⟨#[]⟩, .string ⟨#[]⟩, .string ⟨#[]⟩, .string ⟨#[]⟩, .slice none 0 0, .slice none 0 0, .int .i64 0, .int .i64 0, .bool false] 34)).alloc (.cells #[.string ⟨#[]⟩, .string ⟨#[]⟩, .string ⟨#[]⟩, .string ⟨#[]⟩, .string ⟨#[]⟩, .slice none 0 0, .slice none 0 0, .int .i64 0, .int .i64 0, .bool false] 34)).alloc (.cells #[.string ⟨#[]⟩, .string ⟨#[]⟩, .string ⟨#[]⟩, .string ⟨#[]⟩, .string ⟨#[]⟩, .slice none 0 0, .slice none 0 0, .int .i64 0, .int .i64 0, .bool false] 34)).alloc (.cells #[.slice A9 m9 c9, .bool true, .bool false] 129)).heap.size = w.heap.size + 1 + 1 + 1 + 1 := by simp
  obtain ⟨⟨x, l5, b5⟩, hz⟩ : ∃ z, accessR l false = z := ⟨_, rfl⟩
  have hcall := access_r hrs hb1 (by omega) (by omega)
  rw [hz] at hcall ⊢
  have HC := hid hcall
  have HB0 := hid hb0
  have HB2 := hid hb2
  have HB := hid h00
  clear hcall hrs hb0 hb1 hb2 h00 hz hr
  go_enter Tryd.func49, Tryd.ntmps49
  go_wp2_with fail
  refine HC.out.mono ?_
  clear HC h01
  intro e w5 hq
  obtain ⟨rfl, h, ⟨cs3, ha, hM⟩, hm⟩ := hq
  rw [World.size_alloc, World.size_alloc, World.size_alloc, World.size_alloc] at hM
  obtain ⟨v5, v6, rfl, g5, g6⟩ := k34_openM hM
  obtain ⟨A5, m5, c5, rfl⟩ := r_form g5
  obtain ⟨A6, m6, c6, rfl⟩ := r_form g6
  have hMB := k34.M_bound hM
  have HMM := hid hMB
  clear hM hMB g5 g6
  have hb0 := HB0.out.mod hm (by omega)
  have hb2 := HB2.out.mod hm (by omega)
  have hbb : Below w.heap.size w w5 := HB.out.trans (hm.below (by simp; omega) (fun q e => by omega))
  have hx0 : w5.cell? ⟨w.heap.size + 1, 0, none⟩ = some (.string x.f0) := ha.cell 0
  have hx1 : w5.cell? ⟨w.heap.size + 1, 1, none⟩ = some (.string x.f1) := ha.cell 1
  have hx2 : w5.cell? ⟨w.heap.size + 1, 2, none⟩ = some (.string x.f2) := ha.cell 2
  have hx3 : w5.cell? ⟨w.heap.size + 1, 3, none⟩ = some (.string x.f3) := ha.cell 3
  have hx4 : w5.cell? ⟨w.heap.size + 1, 4, none⟩ = some (.string x.f4) := ha.cell 4
  have hx5 : w5.cell? ⟨w.heap.size + 1, 5, none⟩ = some (.slice A5 m5 c5) := ha.cell 5
  have hx6 : w5.cell? ⟨w.heap.size + 1, 6, none⟩ = some (.slice A6 m6 c6) := ha.cell 6
  have hx7 : w5.cell? ⟨w.heap.size + 1, 7, none⟩ = some (.int .i64 x.f7) := ha.cell 7
  have hx8 : w5.cell? ⟨w.heap.size + 1, 8, none⟩ = some (.int .i64 x.f8) := ha.cell 8
  have hx9 : w5.cell? ⟨w.heap.size + 1, 9, none⟩ = some (.bool x.f9) := ha.cell 9
  have hn0 : w5.cell? ⟨w.heap.size + 1 + 1, 0, none⟩ = some (.string ⟨#[]⟩) := hb2.cell 0
  have hn1 : w5.cell? ⟨w.heap.size + 1 + 1, 1, none⟩ = some (.string ⟨#[]⟩) := hb2.cell 1
  have hn2 : w5.cell? ⟨w.heap.size + 1 + 1, 2, none⟩ = some (.string ⟨#[]⟩) := hb2.cell 2
  have hn3 : w5.cell? ⟨w.heap.size + 1 + 1, 3, none⟩ = some (.string ⟨#[]⟩) := hb2.cell 3
  have hn4 : w5.cell? ⟨w.heap.size + 1 + 1, 4, none⟩ = some (.string ⟨#[]⟩) := hb2.cell 4
  have hn5 : w5.cell? ⟨w.heap.size + 1 + 1, 5, none⟩ = some (.slice none 0 0) := hb2.cell 5
  have hn6 : w5.cell? ⟨w.heap.size + 1 + 1, 6, none⟩ = some (.slice none 0 0) := hb2.cell 6
  have hn7 : w5.cell? ⟨w.heap.size + 1 + 1, 7, none⟩ = some (.int .i64 0) := hb2.cell 7
  have hn8 : w5.cell? ⟨w.heap.size + 1 + 1, 8, none⟩ = some (.int .i64 0) := hb2.cell 8
  have hn9 : w5.cell? ⟨w.heap.size + 1 + 1, 9, none⟩ = some (.bool false) := hb2.cell 9
  have hr0 : w5.cell? ⟨w.heap.size, 0, none⟩ = some (.string ⟨#[]⟩) := hb0.cell 0
  have hf0 := hb0.free 0
  have hr1 : w5.cell? ⟨w.heap.size, 1, none⟩ = some (.string ⟨#[]⟩) := hb0.cell 1
  have hf1 := hb0.free 1
  have hr2 : w5.cell? ⟨w.heap.size, 2, none⟩ = some (.string ⟨#[]⟩) := hb0.cell 2
  have hf2 := hb0.free 2
  have hr3 : w5.cell? ⟨w.heap.size, 3, none⟩ = some (.string ⟨#[]⟩) := hb0.cell 3
  have hf3 := hb0.free 3
  have hr4 : w5.cell? ⟨w.heap.size, 4, none⟩ = some (.string ⟨#[]⟩) := hb0.cell 4
  have hf4 := hb0.free 4
  have hr5 : w5.cell? ⟨w.heap.size, 5, none⟩ = some (.slice none 0 0) := hb0.cell 5
  have hf5 := hb0.free 5
  have hr6 : w5.cell? ⟨w.heap.size, 6, none⟩ = some (.slice none 0 0) := hb0.cell 6
  have hf6 := hb0.free 6
  have hr7 : w5.cell? ⟨w.heap.size, 7, none⟩ = some (.int .i64 0) := hb0.cell 7
  have hf7 := hb0.free 7
  have hr8 : w5.cell? ⟨w.heap.size, 8, none⟩ = some (.int .i64 0) := hb0.cell 8
  have hf8 := hb0.free 8
  have hr9 : w5.cell? ⟨w.heap.size, 9, none⟩ = some (.bool false) := hb0.cell 9
  have hf9 := hb0.free 9
  obtain ⟨v7, hr7, d0, d1, d2, _, _⟩ := h.cells
  obtain ⟨A7, c7, rfl⟩ : ∃ A c, v7 = .slice A l5.length c := by
    rcases hr7 with ⟨rfl, rfl⟩ | ⟨b, o, cap, rfl, _, _⟩ <;> exact ⟨_, _, rfl⟩
  clear HB HB0 HB2
  have HB := hid hbb
  have HB0 := hid hb0
  clear hbb hb0 hb2 ha hm h hr7
  cases b5 with
  | true =>
    · go_wp2
      have q0 : AtB _ w.heap.size 34 #[.string ⟨#[]⟩, .string ⟨#[]⟩, .string ⟨#[]⟩, .string ⟨#[]⟩, .string ⟨#[]⟩, .slice none 0 0, .slice none 0 0, .int .i64 0, .int .i64 0, .bool false] := AtB.set HB0.out 0 (.string ⟨#[]⟩ : Value)
      have q1 : AtB _ w.heap.size 34 #[.string ⟨#[]⟩, .string ⟨#[]⟩, .string ⟨#[]⟩, .string ⟨#[]⟩, .string ⟨#[]⟩, .slice none 0 0, .slice none 0 0, .int .i64 0, .int .i64 0, .bool false] := AtB.set q0 1 (.string ⟨#[]⟩ : Value)
      have q2 : AtB _ w.heap.size 34 #[.string ⟨#[]⟩, .string ⟨#[]⟩, .string ⟨#[]⟩, .string ⟨#[]⟩, .string ⟨#[]⟩, .slice none 0 0, .slice none 0 0, .int .i64 0, .int .i64 0, .bool false] := AtB.set q1 2 (.string ⟨#[]⟩ : Value)
      have q3 : AtB _ w.heap.size 34 #[.string ⟨#[]⟩, .string ⟨#[]⟩, .string ⟨#[]⟩, .string ⟨#[]⟩, .string ⟨#[]⟩, .slice none 0 0, .slice none 0 0, .int .i64 0, .int .i64 0, .bool false] := AtB.set q2 3 (.string ⟨#[]⟩ : Value)
      have q4 : AtB _ w.heap.size 34 #[.string ⟨#[]⟩, .string ⟨#[]⟩, .string ⟨#[]⟩, .string ⟨#[]⟩, .string ⟨#[]⟩, .slice none 0 0, .slice none 0 0, .int .i64 0, .int .i64 0, .bool false] := AtB.set q3 4 (.string ⟨#[]⟩ : Value)
      have q5 : AtB _ w.heap.size 34 #[.string ⟨#[]⟩, .string ⟨#[]⟩, .string ⟨#[]⟩, .string ⟨#[]⟩, .string ⟨#[]⟩, .slice none 0 0, .slice none 0 0, .int .i64 0, .int .i64 0, .bool false] := AtB.set q4 5 (.slice none 0 0 : Value)
      have q6 : AtB _ w.heap.size 34 #[.string ⟨#[]⟩, .string ⟨#[]⟩, .string ⟨#[]⟩, .string ⟨#[]⟩, .string ⟨#[]⟩, .slice none 0 0, .slice none 0 0, .int .i64 0, .int .i64 0, .bool false] := AtB.set q5 6 (.slice none 0 0 : Value)
      have q7 : AtB _ w.heap.size 34 #[.string ⟨#[]⟩, .string ⟨#[]⟩, .string ⟨#[]⟩, .string ⟨#[]⟩, .string ⟨#[]⟩, .slice none 0 0, .slice none 0 0, .int .i64 0, .int .i64 0, .bool false] := AtB.set q6 7 (.int .i64 0 : Value)
      have q8 : AtB _ w.heap.size 34 #[.string ⟨#[]⟩, .string ⟨#[]⟩, .string ⟨#[]⟩, .string ⟨#[]⟩, .string ⟨#[]⟩, .slice none 0 0, .slice none 0 0, .int .i64 0, .int .i64 0, .bool false] := AtB.set q7 8 (.int .i64 0 : Value)
      have q9 : AtB _ w.heap.size 34 #[.string ⟨#[]⟩, .string ⟨#[]⟩, .string ⟨#[]⟩, .string ⟨#[]⟩, .string ⟨#[]⟩, .slice none 0 0, .slice none 0 0, .int .i64 0, .int .i64 0, .bool false] := AtB.set q8 9 (.bool false : Value)
      have hres2 := q9
      refine bodyPost_ret (results_ct rfl _ _ w.heap.size 34 #[.string ⟨#[]⟩, .string ⟨#[]⟩, .string ⟨#[]⟩, .string ⟨#[]⟩, .string ⟨#[]⟩, .slice none 0 0, .slice none 0 0, .int .i64 0, .int .i64 0, .bool false] (0, 0) _ rfl hres2 Tryd.underlying34 rfl (by kernel_rfl)) rfl ?_
      rw [show unR (x, l5, true) = none from if_pos (.inl rfl)]
      exact ⟨[.string ⟨#[]⟩, .string ⟨#[]⟩, .string ⟨#[]⟩, .string ⟨#[]⟩, .string ⟨#[]⟩, .slice none 0 0, .slice none 0 0, .int .i64 0, .int .i64 0, .bool false], rfl, (k34_mkM _ _ _ z34 (Kd.R_nil _ _ _ _ _) (Kd.R_nil _ _ _ _ _)), ((((((((((HB.out.setCell (p := ⟨w.heap.size, 0, none⟩) (Nat.le_refl _) _).setCell (p := ⟨w.heap.size, 1, none⟩) (Nat.le_refl _) _).setCell (p := ⟨w.heap.size, 2, none⟩) (Nat.le_refl _) _).setCell (p := ⟨w.heap.size, 3, none⟩) (Nat.le_refl _) _).setCell (p := ⟨w.heap.size, 4, none⟩) (Nat.le_refl _) _).setCell (p := ⟨w.heap.size, 5, none⟩) (Nat.le_refl _) _).setCell (p := ⟨w.heap.size, 6, none⟩) (Nat.le_refl _) _).setCell (p := ⟨w.heap.size, 7, none⟩) (Nat.le_refl _) _).setCell (p := ⟨w.heap.size, 8, none⟩) (Nat.le_refl _) _).setCell (p := ⟨w.heap.size, 9, none⟩) (Nat.le_refl _) _)⟩
  | false =>
    by_cases h5 : 0 < l5.length
    · have t1 : decide ((0 : Int) < (l5.length : Int)) = true := decide_eq_true (by omega)
      have t2 : decide (0 < l5.length) = true := decide_eq_true h5
      go_wp2
      have q0 : AtB _ w.heap.size 34 #[.string ⟨#[]⟩, .string ⟨#[]⟩, .string ⟨#[]⟩, .string ⟨#[]⟩, .string ⟨#[]⟩, .slice none 0 0, .slice none 0 0, .int .i64 0, .int .i64 0, .bool false] := AtB.set HB0.out 0 (.string ⟨#[]⟩ : Value)
      have q1 : AtB _ w.heap.size 34 #[.string ⟨#[]⟩, .string ⟨#[]⟩, .string ⟨#[]⟩, .string ⟨#[]⟩, .string ⟨#[]⟩, .slice none 0 0, .slice none 0 0, .int .i64 0, .int .i64 0, .bool false] := AtB.set q0 1 (.string ⟨#[]⟩ : Value)
      have q2 : AtB _ w.heap.size 34 #[.string ⟨#[]⟩, .string ⟨#[]⟩, .string ⟨#[]⟩, .string ⟨#[]⟩, .string ⟨#[]⟩, .slice none 0 0, .slice none 0 0, .int .i64 0, .int .i64 0, .bool false] := AtB.set q1 2 (.string ⟨#[]⟩ : Value)
      have q3 : AtB _ w.heap.size 34 #[.string ⟨#[]⟩, .string ⟨#[]⟩, .string ⟨#[]⟩, .string ⟨#[]⟩, .string ⟨#[]⟩, .slice none 0 0, .slice none 0 0, .int .i64 0, .int .i64 0, .bool false] := AtB.set q2 3 (.string ⟨#[]⟩ : Value)
      have q4 : AtB _ w.heap.size 34 #[.string ⟨#[]⟩, .string ⟨#[]⟩, .string ⟨#[]⟩, .string ⟨#[]⟩, .string ⟨#[]⟩, .slice none 0 0, .slice none 0 0, .int .i64 0, .int .i64 0, .bool false] := AtB.set q3 4 (.string ⟨#[]⟩ : Value)
      have q5 : AtB _ w.heap.size 34 #[.string ⟨#[]⟩, .string ⟨#[]⟩, .string ⟨#[]⟩, .string ⟨#[]⟩, .string ⟨#[]⟩, .slice none 0 0, .slice none 0 0, .int .i64 0, .int .i64 0, .bool false] := AtB.set q4 5 (.slice none 0 0 : Value)
      have q6 : AtB _ w.heap.size 34 #[.string ⟨#[]⟩, .string ⟨#[]⟩, .string ⟨#[]⟩, .string ⟨#[]⟩, .string ⟨#[]⟩, .slice none 0 0, .slice none 0 0, .int .i64 0, .int .i64 0, .bool false] := AtB.set q5 6 (.slice none 0 0 : Value)
      have q7 : AtB _ w.heap.size 34 #[.string ⟨#[]⟩, .string ⟨#[]⟩, .string ⟨#[]⟩, .string ⟨#[]⟩, .string ⟨#[]⟩, .slice none 0 0, .slice none 0 0, .int .i64 0, .int .i64 0, .bool false] := AtB.set q6 7 (.int .i64 0 : Value)
      have q8 : AtB _ w.heap.size 34 #[.string ⟨#[]⟩, .string ⟨#[]⟩, .string ⟨#[]⟩, .string ⟨#[]⟩, .string ⟨#[]⟩, .slice none 0 0, .slice none 0 0, .int .i64 0, .int .i64 0, .bool false] := AtB.set q7 8 (.int .i64 0 : Value)
      have q9 : AtB _ w.heap.size 34 #[.string ⟨#[]⟩, .string ⟨#[]⟩, .string ⟨#[]⟩, .string ⟨#[]⟩, .string ⟨#[]⟩, .slice none 0 0, .slice none 0 0, .int .i64 0, .int .i64 0, .bool false] := AtB.set q8 9 (.bool false : Value)
      have hres2 := q9
      refine bodyPost_ret (results_ct rfl _ _ w.heap.size 34 #[.string ⟨#[]⟩, .string ⟨#[]⟩, .string ⟨#[]⟩, .string ⟨#[]⟩, .string ⟨#[]⟩, .slice none 0 0, .slice none 0 0, .int .i64 0, .int .i64 0, .bool false] (0, 0) _ rfl hres2 Tryd.underlying34 rfl (by kernel_rfl)) rfl ?_
      rw [show unR (x, l5, false) = none from if_pos (.inr h5)]
      exact ⟨[.string ⟨#[]⟩, .string ⟨#[]⟩, .string ⟨#[]⟩, .string ⟨#[]⟩, .string ⟨#[]⟩, .slice none 0 0, .slice none 0 0, .int .i64 0, .int .i64 0, .bool false], rfl, (k34_mkM _ _ _ z34 (Kd.R_nil _ _ _ _ _) (Kd.R_nil _ _ _ _ _)), ((((((((((HB.out.setCell (p := ⟨w.heap.size, 0, none⟩) (Nat.le_refl _) _).setCell (p := ⟨w.heap.size, 1, none⟩) (Nat.le_refl _) _).setCell (p := ⟨w.heap.size, 2, none⟩) (Nat.le_refl _) _).setCell (p := ⟨w.heap.size, 3, none⟩) (Nat.le_refl _) _).setCell (p := ⟨w.heap.size, 4, none⟩) (Nat.le_refl _) _).setCell (p := ⟨w.heap.size, 5, none⟩) (Nat.le_refl _) _).setCell (p := ⟨w.heap.size, 6, none⟩) (Nat.le_refl _) _).setCell (p := ⟨w.heap.size, 7, none⟩) (Nat.le_refl _) _).setCell (p := ⟨w.heap.size, 8, none⟩) (Nat.le_refl _) _).setCell (p := ⟨w.heap.size, 9, none⟩) (Nat.le_refl _) _)⟩
    · have h50 : l5 = [] := List.eq_nil_of_length_eq_zero (by omega)
      subst h50
      have t1 : decide ((0 : Int) < ((([] : List UInt8).length : Nat) : Int)) = false := rfl
      go_wp2
      have q0 : AtB _ w.heap.size 34 #[.string x.f0, .string ⟨#[]⟩, .string ⟨#[]⟩, .string ⟨#[]⟩, .string ⟨#[]⟩, .slice none 0 0, .slice none 0 0, .int .i64 0, .int .i64 0, .bool false] := AtB.set HB0.out 0 (.string x.f0 : Value)
      have q1 : AtB _ w.heap.size 34 #[.string x.f0, .string x.f1, .string ⟨#[]⟩, .string ⟨#[]⟩, .string ⟨#[]⟩, .slice none 0 0, .slice none 0 0, .int .i64 0, .int .i64 0, .bool false] := AtB.set q0 1 (.string x.f1 : Value)
      have q2 : AtB _ w.heap.size 34 #[.string x.f0, .string x.f1, .string x.f2, .string ⟨#[]⟩, .string ⟨#[]⟩, .slice none 0 0, .slice none 0 0, .int .i64 0, .int .i64 0, .bool false] := AtB.set q1 2 (.string x.f2 : Value)
      have q3 : AtB _ w.heap.size 34 #[.string x.f0, .string x.f1, .string x.f2, .string x.f3, .string ⟨#[]⟩, .slice none 0 0, .slice none 0 0, .int .i64 0, .int .i64 0, .bool false] := AtB.set q2 3 (.string x.f3 : Value)
      have q4 : AtB _ w.heap.size 34 #[.string x.f0, .string x.f1, .string x.f2, .string x.f3, .string x.f4, .slice none 0 0, .slice none 0 0, .int .i64 0, .int .i64 0, .bool false] := AtB.set q3 4 (.string x.f4 : Value)
      have q5 : AtB _ w.heap.size 34 #[.string x.f0, .string x.f1, .string x.f2, .string x.f3, .string x.f4, .slice A5 m5 c5, .slice none 0 0, .int .i64 0, .int .i64 0, .bool false] := AtB.set q4 5 (.slice A5 m5 c5 : Value)
      have q6 : AtB _ w.heap.size 34 #[.string x.f0, .string x.f1, .string x.f2, .string x.f3, .string x.f4, .slice A5 m5 c5, .slice A6 m6 c6, .int .i64 0, .int .i64 0, .bool false] := AtB.set q5 6 (.slice A6 m6 c6 : Value)
      have q7 : AtB _ w.heap.size 34 #[.string x.f0, .string x.f1, .string x.f2, .string x.f3, .string x.f4, .slice A5 m5 c5, .slice A6 m6 c6, .int .i64 x.f7, .int .i64 0, .bool false] := AtB.set q6 7 (.int .i64 x.f7 : Value)
      have q8 : AtB _ w.heap.size 34 #[.string x.f0, .string x.f1, .string x.f2, .string x.f3, .string x.f4, .slice A5 m5 c5, .slice A6 m6 c6, .int .i64 x.f7, .int .i64 x.f8, .bool false] := AtB.set q7 8 (.int .i64 x.f8 : Value)
      have q9 : AtB _ w.heap.size 34 #[.string x.f0, .string x.f1, .string x.f2, .string x.f3, .string x.f4, .slice A5 m5 c5, .slice A6 m6 c6, .int .i64 x.f7, .int .i64 x.f8, .bool x.f9] := AtB.set q8 9 (.bool x.f9 : Value)
      have hres2 := q9
      refine bodyPost_ret (results_ct rfl _ _ w.heap.size 34 #[.string x.f0, .string x.f1, .string x.f2, .string x.f3, .string x.f4, .slice A5 m5 c5, .slice A6 m6 c6, .int .i64 x.f7, .int .i64 x.f8, .bool x.f9] (0, 0) _ rfl hres2 Tryd.underlying34 rfl (by kernel_rfl)) rfl ?_
      rw [show unR (x, ([] : List UInt8), false) = some x from if_neg (by simp)]
      have hM1 := HMM.out
      exact ⟨[.string x.f0, .string x.f1, .string x.f2, .string x.f3, .string x.f4, .slice A5 m5 c5, .slice A6 m6 c6, .int .i64 x.f7, .int .i64 x.f8, .bool x.f9], rfl, up_mem hM1 (fun q hq => by have := hq.2.1; omega) (by omega) (((((((((((Mod.refl (fun q => q = w.heap.size) w5).setCell ⟨w.heap.size, 0, none⟩ (.string x.f0 : Value) (.inl rfl)).setCell ⟨w.heap.size, 1, none⟩ (.string x.f1 : Value) (.inl rfl)).setCell ⟨w.heap.size, 2, none⟩ (.string x.f2 : Value) (.inl rfl)).setCell ⟨w.heap.size, 3, none⟩ (.string x.f3 : Value) (.inl rfl)).setCell ⟨w.heap.size, 4, none⟩ (.string x.f4 : Value) (.inl rfl)).setCell ⟨w.heap.size, 5, none⟩ (.slice A5 m5 c5 : Value) (.inl rfl)).setCell ⟨w.heap.size, 6, none⟩ (.slice A6 m6 c6 : Value) (.inl rfl)).setCell ⟨w.heap.size, 7, none⟩ (.int .i64 x.f7 : Value) (.inl rfl)).setCell ⟨w.heap.size, 8, none⟩ (.int .i64 x.f8 : Value) (.inl rfl)).setCell ⟨w.heap.size, 9, none⟩ (.bool x.f9 : Value) (.inl rfl)), ((((((((((HB.out.setCell (p := ⟨w.heap.size, 0, none⟩) (Nat.le_refl _) _).setCell (p := ⟨w.heap.size, 1, none⟩) (Nat.le_refl _) _).setCell (p := ⟨w.heap.size, 2, none⟩) (Nat.le_refl _) _).setCell (p := ⟨w.heap.size, 3, none⟩) (Nat.le_refl _) _).setCell (p := ⟨w.heap.size, 4, none⟩) (Nat.le_refl _) _).setCell (p := ⟨w.heap.size, 5, none⟩) (Nat.le_refl _) _).setCell (p := ⟨w.heap.size, 6, none⟩) (Nat.le_refl _) _).setCell (p := ⟨w.heap.size, 7, none⟩) (Nat.le_refl _) _).setCell (p := ⟨w.heap.size, 8, none⟩) (Nat.le_refl _) _).setCell (p := ⟨w.heap.size, 9, none⟩) (Nat.le_refl _) _)⟩
set_option maxHeartbeats 8000000 in
set_option maxRecDepth 100000 in
theorem toAccess_any (w : World) (v : Value) (l : List UInt8) (hr : ReadsB w v l) (hl : l.length ≤ 1099511627776) :
    Calls Tryd.prog 16 #[v] w (UP k34 z34 (unR (accessR l false)) w) := by
  have h00 : Below w.heap.size w (w.alloc (.cells #[.string ⟨#[]⟩, .string ⟨#[]⟩, .string ⟨#[]⟩, .string ⟨#[]⟩, .string ⟨#[]⟩, .slice none 0 0, .slice none 0 0, .int .i64 0, .int .i64 0, .bool false] 34)) := (Below.refl _ w).alloc (Nat.le_refl _) _
  have hb0 : AtB (w.alloc (.cells #[.string ⟨#[]⟩, .string ⟨#[]⟩, .string ⟨#[]⟩, .string ⟨#[]⟩, .string ⟨#[]⟩, .slice none 0 0, .slice none 0 0, .int .i64 0, .int .i64 0, .bool false] 34)) w.heap.size 34 #[.string ⟨#[]⟩, .string ⟨#[]⟩, .string ⟨#[]⟩, .string ⟨#[]⟩, .string ⟨#[]⟩, .slice none 0 0, .slice none 0 0, .int .i64 0, .int .i64 0, .bool false] := at_make rfl
  obtain ⟨o, ho⟩ : ∃ o, unR (accessR l false) = o := ⟨_, rfl⟩
  have hcall := unpackAccess_any (w.alloc (.cells #[.string ⟨#[]⟩, .string ⟨#[]⟩, .string ⟨#[]⟩, .string ⟨#[]⟩, .string ⟨#[]⟩, .slice none 0 0, .slice none 0 0, .int .i64 0, .int .i64 0, .bool false] 34)) v l (hr.below h00) hl
  rw [ho] at hcall ⊢
  have HC := hid hcall
  have HB0 := hid hb0
  have HB := hid h00
  clear hcall hb0 h00 ho hr
  go_enter Tryd.func16, Tryd.ntmps16
  go_wp2_with (go_at_call 49; refine HC.out.mono ?_)
  clear HC
  intro e w5 hq
  obtain ⟨cs3, rfl, hM, hb⟩ := hq
  rw [World.size_alloc] at hM hb
  obtain ⟨y, hy⟩ : ∃ y, o.getD z34 = y := ⟨_, rfl⟩
  rw [hy] at hM
  have HY := hid hy
  clear hy
  obtain ⟨v5, v6, rfl, g5, g6⟩ := k34_openM hM
  obtain ⟨A5, m5, c5, rfl⟩ := r_form g5
  obtain ⟨A6, m6, c6, rfl⟩ := r_form g6
  have hMB := k34.M_bound hM
  have HMM := hid hMB
  clear hM hMB g5 g6
  have hb0 : AtB w5 w.heap.size 34 #[.string ⟨#[]⟩, .string ⟨#[]⟩, .string ⟨#[]⟩, .string ⟨#[]⟩, .string ⟨#[]⟩, .slice none 0 0, .slice none 0 0, .int .i64 0, .int .i64 0, .bool false] := (hb.block w.heap.size (by omega)).trans HB0.out
  have hbb : Below w.heap.size w w5 := HB.out.trans (hb.mono (by omega))
  have hr0 : w5.cell? ⟨w.heap.size, 0, none⟩ = some (.string ⟨#[]⟩) := hb0.cell 0
  have hf0 := hb0.free 0
  have hr1 : w5.cell? ⟨w.heap.size, 1, none⟩ = some (.string ⟨#[]⟩) := hb0.cell 1
  have hf1 := hb0.free 1
  have hr2 : w5.cell? ⟨w.heap.size, 2, none⟩ = some (.string ⟨#[]⟩) := hb0.cell 2
  have hf2 := hb0.free 2
  have hr3 : w5.cell? ⟨w.heap.size, 3, none⟩ = some (.string ⟨#[]⟩) := hb0.cell 3
  have hf3 := hb0.free 3
  have hr4 : w5.cell? ⟨w.heap.size, 4, none⟩ = some (.string ⟨#[]⟩) := hb0.cell 4
  have hf4 := hb0.free 4
  have hr5 : w5.cell? ⟨w.heap.size, 5, none⟩ = some (.slice none 0 0) := hb0.cell 5
  have hf5 := hb0.free 5
  have hr6 : w5.cell? ⟨w.heap.size, 6, none⟩ = some (.slice none 0 0) := hb0.cell 6
  have hf6 := hb0.free 6
  have hr7 : w5.cell? ⟨w.heap.size, 7, none⟩ = some (.int .i64 0) := hb0.cell 7
  have hf7 := hb0.free 7
  have hr8 : w5.cell? ⟨w.heap.size, 8, none⟩ = some (.int .i64 0) := hb0.cell 8
  have hf8 := hb0.free 8
  have hr9 : w5.cell? ⟨w.heap.size, 9, none⟩ = some (.bool false) := hb0.cell 9
  have hf9 := hb0.free 9
  clear HB HB0
  have HB := hid hbb
  have HB0 := hid hb0
  obtain ⟨ev, hev⟩ : ∃ ev, errV o.isSome = ev := ⟨_, rfl⟩
  rw [hev]
  have HEV := hid hev
  clear hbb hb0 hb hev
  go_wp2
  have q0 : AtB _ w.heap.size 34 #[.string y.f0, .string ⟨#[]⟩, .string ⟨#[]⟩, .string ⟨#[]⟩, .string ⟨#[]⟩, .slice none 0 0, .slice none 0 0, .int .i64 0, .int .i64 0, .bool false] := AtB.set HB0.out 0 (.string y.f0 : Value)
  have q1 : AtB _ w.heap.size 34 #[.string y.f0, .string y.f1, .string ⟨#[]⟩, .string ⟨#[]⟩, .string ⟨#[]⟩, .slice none 0 0, .slice none 0 0, .int .i64 0, .int .i64 0, .bool false] := AtB.set q0 1 (.string y.f1 : Value)
  have q2 : AtB _ w.heap.size 34 #[.string y.f0, .string y.f1, .string y.f2, .string ⟨#[]⟩, .string ⟨#[]⟩, .slice none 0 0, .slice none 0 0, .int .i64 0, .int .i64 0, .bool false] := AtB.set q1 2 (.string y.f2 : Value)
  have q3 : AtB _ w.heap.size 34 #[.string y.f0, .string y.f1, .string y.f2, .string y.f3, .string ⟨#[]⟩, .slice none 0 0, .slice none 0 0, .int .i64 0, .int .i64 0, .bool false] := AtB.set q2 3 (.string y.f3 : Value)
  have q4 : AtB _ w.heap.size 34 #[.string y.f0, .string y.f1, .string y.f2, .string y.f3, .string y.f4, .slice none 0 0, .slice none 0 0, .int .i64 0, .int .i64 0, .bool false] := AtB.set q3 4 (.string y.f4 : Value)
  have q5 : AtB _ w.heap.size 34 #[.string y.f0, .string y.f1, .string y.f2, .string y.f3, .string y.f4, .slice A5 m5 c5, .slice none 0 0, .int .i64 0, .int .i64 0, .bool false] := AtB.set q4 5 (.slice A5 m5 c5 : Value)
  have q6 : AtB _ w.heap.size 34 #[.string y.f0, .string y.f1, .string y.f2, .string y.f3, .string y.f4, .slice A5 m5 c5, .slice A6 m6 c6, .int .i64 0, .int .i64 0, .bool false] := AtB.set q5 6 (.slice A6 m6 c6 : Value)
  have q7 : AtB _ w.heap.size 34 #[.string y.f0, .string y.f1, .string y.f2, .string y.f3, .string y.f4, .slice A5 m5 c5, .slice A6 m6 c6, .int .i64 y.f7, .int .i64 0, .bool false] := AtB.set q6 7 (.int .i64 y.f7 : Value)
  have q8 : AtB _ w.heap.size 34 #[.string y.f0, .string y.f1, .string y.f2, .string y.f3, .string y.f4, .slice A5 m5 c5, .slice A6 m6 c6, .int .i64 y.f7, .int .i64 y.f8, .bool false] := AtB.set q7 8 (.int .i64 y.f8 : Value)
  have q9 : AtB _ w.heap.size 34 #[.string y.f0, .string y.f1, .string y.f2, .string y.f3, .string y.f4, .slice A5 m5 c5, .slice A6 m6 c6, .int .i64 y.f7, .int .i64 y.f8, .bool y.f9] := AtB.set q8 9 (.bool y.f9 : Value)
  have hres2 := q9
  refine bodyPost_ret (results_ct rfl _ _ w.heap.size 34 #[.string y.f0, .string y.f1, .string y.f2, .string y.f3, .string y.f4, .slice A5 m5 c5, .slice A6 m6 c6, .int .i64 y.f7, .int .i64 y.f8, .bool y.f9] (0, 0) _ rfl hres2 Tryd.underlying34 rfl (by kernel_rfl)) rfl ?_
  refine ⟨[.string y.f0, .string y.f1, .string y.f2, .string y.f3, .string y.f4, .slice A5 m5 c5, .slice A6 m6 c6, .int .i64 y.f7, .int .i64 y.f8, .bool y.f9], by rw [HEV.out]; rfl, ?_, ((((((((((HB.out.setCell (p := ⟨w.heap.size, 0, none⟩) (Nat.le_refl _) _).setCell (p := ⟨w.heap.size, 1, none⟩) (Nat.le_refl _) _).setCell (p := ⟨w.heap.size, 2, none⟩) (Nat.le_refl _) _).setCell (p := ⟨w.heap.size, 3, none⟩) (Nat.le_refl _) _).setCell (p := ⟨w.heap.size, 4, none⟩) (Nat.le_refl _) _).setCell (p := ⟨w.heap.size, 5, none⟩) (Nat.le_refl _) _).setCell (p := ⟨w.heap.size, 6, none⟩) (Nat.le_refl _) _).setCell (p := ⟨w.heap.size, 7, none⟩) (Nat.le_refl _) _).setCell (p := ⟨w.heap.size, 8, none⟩) (Nat.le_refl _) _).setCell (p := ⟨w.heap.size, 9, none⟩) (Nat.le_refl _) _)⟩
  rw [HY.out]
  exact up_mem HMM.out (fun q hq => by have := hq.2.1; omega) (by omega) (((((((((((Mod.refl (fun q => q = w.heap.size) w5).setCell ⟨w.heap.size, 0, none⟩ (.string y.f0 : Value) (.inl rfl)).setCell ⟨w.heap.size, 1, none⟩ (.string y.f1 : Value) (.inl rfl)).setCell ⟨w.heap.size, 2, none⟩ (.string y.f2 : Value) (.inl rfl)).setCell ⟨w.heap.size, 3, none⟩ (.string y.f3 : Value) (.inl rfl)).setCell ⟨w.heap.size, 4, none⟩ (.string y.f4 : Value) (.inl rfl)).setCell ⟨w.heap.size, 5, none⟩ (.slice A5 m5 c5 : Value) (.inl rfl)).setCell ⟨w.heap.size, 6, none⟩ (.slice A6 m6 c6 : Value) (.inl rfl)).setCell ⟨w.heap.size, 7, none⟩ (.int .i64 y.f7 : Value) (.inl rfl)).setCell ⟨w.heap.size, 8, none⟩ (.int .i64 y.f8 : Value) (.inl rfl)).setCell ⟨w.heap.size, 9, none⟩ (.bool y.f9 : Value) (.inl rfl))
end Go.Proofs.YtcgjacffemjehaaDoor

namespace Go.Proofs.YtcgjacffemjehaaDoor
open Go.RowKit
open Go.Proofs.YtcgjacffemjehaaDoorW.PrintWords (Kd rdOf results_ct)
open Go.Proofs.YtcgjacffemjehaaDoor.PRowReads
set_option linter.unusedVariables false
set_option maxHeartbeats 8000000 in
set_option maxRecDepth 100000 in
theorem unpackResource_any (w : World) (v : Value) (l : List UInt8) (hr : ReadsB w v l) (hl : l.length ≤ 1099511627776) :
    Calls Tryd.prog 51 #[v, .func (.func 52) #[] #[]] w (UP k36 z36 (unR (resourceR l false)) w) := by
  obtain ⟨A9, m9, c9, rfl⟩ := reads_form hr
  have hrs := rs_make (g := w.heap.size + 1 + 1 + 1) (W := (((w.alloc (.cells #[.string ⟨#[]⟩, .string ⟨#[]⟩, .string ⟨#[]⟩, .string ⟨#[]⟩, .slice none 0 0, .string ⟨#[]⟩] 36)).alloc (.cells #[.string ⟨#[]⟩, .string ⟨#[]⟩, .string ⟨#[]⟩, .string ⟨#[]⟩, .slice none 0 0, .string ⟨#[]⟩] 36)).alloc (.cells #[.string ⟨#[]⟩, .string ⟨#[]⟩, .string ⟨#[]⟩, .string ⟨#[]⟩, .slice none 0 0, .string ⟨#[]⟩] 36))) ((((Below.refl _ w).alloc (Nat.le_refl _) _).alloc (by simp) _).alloc (by simp; omega) _) (by simp) hr hl
  have hb0 : AtB ((((w.alloc (.cells #[.string ⟨#[]⟩, .string ⟨#[]⟩, .string ⟨#[]⟩, .string ⟨#[]⟩, .slice none 0 0, .string ⟨#[]⟩] 36)).alloc (.cells #[.string ⟨#[]⟩, .string ⟨#[]⟩, .string ⟨#[]⟩, .string ⟨#[]⟩, .slice none 0 0, .string ⟨#[]⟩] 36)).alloc (.cells #[.string ⟨#[]⟩, .string ⟨#[]⟩, .string ⟨#[]⟩, .string ⟨#[]⟩, .slice none 0 0, .string ⟨#[]⟩] 36)).alloc (.cells #[.slice A9 m9 c9, .bool true, .bool false] 129)) w.heap.size 36 #[.string ⟨#[]⟩, .string ⟨#[]⟩, .string ⟨#[]⟩, .string ⟨#[]⟩, .slice none 0 0, .string ⟨#[]⟩] := (((at_make rfl).alloc _).alloc _).alloc _
  have hb1 : AtB ((((w.alloc (.cells #[.string ⟨#[]⟩, .string ⟨#[]⟩, .string ⟨#[]⟩, .string ⟨#[]⟩, .slice none 0 0, .string ⟨#[]⟩] 36)).alloc (.cells #[.string ⟨#[]⟩, .string ⟨#[]⟩, .string ⟨#[]⟩, .string ⟨#[]⟩, .slice none 0 0, .string ⟨#[]⟩] 36)).alloc (.cells #[.string ⟨#[]⟩, .string ⟨#[]⟩, .string ⟨#[]⟩, .string ⟨#[]⟩, .slice none 0 0, .string ⟨#[]⟩] 36)).alloc (.cells #[.slice A9 m9 c9, .bool true, .bool false] 129)) (w.heap.size + 1) 36 #[.string ⟨#[]⟩, .string ⟨#[]⟩, .string ⟨#[]⟩, .string ⟨#[]⟩, .slice none 0 0, .string ⟨#[]⟩] := ((at_make (by simp)).alloc _).alloc _
  have hb2 : AtB ((((w.alloc (.cells #[.string ⟨#[]⟩, .string ⟨#[]⟩, .string ⟨#[]⟩, .string ⟨#[]⟩, .slice none 0 0, .string ⟨#[]⟩] 36)).alloc (.cells #[.string ⟨#[]⟩, .string ⟨#[]⟩, .string ⟨#[]⟩, .string ⟨#[]⟩, .slice none 0 0, .string ⟨#[]⟩] 36)).alloc (.cells #[.string ⟨#[]⟩, .string ⟨#[]⟩, .string ⟨#[]⟩, .string ⟨#[]⟩, .slice none 0 0, .string ⟨#[]⟩] 36)).alloc (.cells #[.slice A9 m9 c9, .bool true, .bool false] 129)) (w.heap.size + 1 + 1) 36 #[.string ⟨#[]⟩, .string ⟨#[]⟩, .string ⟨#[]⟩, .string ⟨#[]⟩, .slice none 0 0, .string ⟨#[]⟩] := (at_make (by simp)).alloc _
  have h00 : Below w.heap.size w ((((w.alloc (.cells #[.string ⟨#[]⟩, .string ⟨#[]⟩, .string ⟨#[]⟩, .string ⟨#[]⟩, .slice none 0 0, .string ⟨#[]⟩] 36)).alloc (.cells #[.string ⟨#[]⟩, .string ⟨#[]⟩, .string ⟨#[]⟩, .string ⟨#[]⟩, .slice none 0 0, .string ⟨#[]⟩] 36)).alloc (.cells #[.string ⟨#[]⟩, .string ⟨#[]⟩, .string ⟨#[]⟩, .string ⟨#[]⟩, .slice none 0 0, .string ⟨#[]⟩] 36)).alloc (.cells #[.slice A9 m9 c9, .bool true, .bool false] 129)) := hrs.below
  have h01 : ((((w.alloc (.cells #[.string ⟨#[]⟩, .string ⟨#[]⟩, .string ⟨#[]⟩, .string ⟨#[]⟩, .slice none 0 0, .string ⟨#[]⟩] 36)).alloc (.cells #[.string ⟨#[]⟩, .string ⟨#[]⟩, .string ⟨#[]⟩, .string ⟨#[]⟩, .slice none 0 0, .string ⟨#[]⟩] 36)).alloc (.cells #[.string ⟨#[]⟩, .string ⟨#[]⟩, .string ⟨#[]⟩, .string ⟨#[]⟩, .slice none 0 0, .string ⟨#[]⟩] 36)).alloc (.cells #[.slice A9 m9 c9, .bool true, .bool false] 129)).heap.size = w.heap.size + 1 + 1 + 1 + 1 := by simp
  obtain ⟨⟨x, l5, b5⟩, hz⟩ : ∃ z, resourceR l false = z := ⟨_, rfl⟩
  have hcall := resource_r hrs hb1 (by omega) (by omega)
  rw [hz] at hcall ⊢
  have HC := hid hcall
  have HB0 := hid hb0
  have HB2 := hid hb2
  have HB := hid h00
  clear hcall hrs hb0 hb1 hb2 h00 hz hr
  go_enter Tryd.func51, Tryd.ntmps51
  go_wp2_with fail
  refine HC.out.mono ?_
  clear HC h01
  intro e w5 hq
  obtain ⟨rfl, h, ⟨cs3, ha, hM⟩, hm⟩ := hq
  rw [World.size_alloc, World.size_alloc, World.size_alloc, World.size_alloc] at hM
  obtain ⟨v4, rfl, g4⟩ := k36_openM hM
  obtain ⟨A4, m4, c4, rfl⟩ := r_form g4
  have hMB := k36.M_bound hM
  have HMM := hid hMB
  clear hM hMB g4
  have hb0 := HB0.out.mod hm (by omega)
  have hb2 := HB2.out.mod hm (by omega)
  have hbb : Below w.heap.size w w5 := HB.out.trans (hm.below (by simp; omega) (fun q e => by omega))
  have hx0 : w5.cell? ⟨w.heap.size + 1, 0, none⟩ = some (.string x.f0) := ha.cell 0
  have hx1 : w5.cell? ⟨w.heap.size + 1, 1, none⟩ = some (.string x.f1) := ha.cell 1
  have hx2 : w5.cell? ⟨w.heap.size + 1, 2, none⟩ = some (.string x.f2) := ha.cell 2
  have hx3 : w5.cell? ⟨w.heap.size + 1, 3, none⟩ = some (.string x.f3) := ha.cell 3
  have hx4 : w5.cell? ⟨w.heap.size + 1, 4, none⟩ = some (.slice A4 m4 c4) := ha.cell 4
  have hx5 : w5.cell? ⟨w.heap.size + 1, 5, none⟩ = some (.string x.f5) := ha.cell 5
  have hn0 : w5.cell? ⟨w.heap.size + 1 + 1, 0, none⟩ = some (.string ⟨#[]⟩) := hb2.cell 0
  have hn1 : w5.cell? ⟨w.heap.size + 1 + 1, 1, none⟩ = some (.string ⟨#[]⟩) := hb2.cell 1
  have hn2 : w5.cell? ⟨w.heap.size + 1 + 1, 2, none⟩ = some (.string ⟨#[]⟩) := hb2.cell 2
  have hn3 : w5.cell? ⟨w.heap.size + 1 + 1, 3, none⟩ = some (.string ⟨#[]⟩) := hb2.cell 3
  have hn4 : w5.cell? ⟨w.heap.size + 1 + 1, 4, none⟩ = some (.slice none 0 0) := hb2.cell 4
  have hn5 : w5.cell? ⟨w.heap.size + 1 + 1, 5, none⟩ = some (.string ⟨#[]⟩) := hb2.cell 5
  have hr0 : w5.cell? ⟨w.heap.size, 0, none⟩ = some (.string ⟨#[]⟩) := hb0.cell 0
  have hf0 := hb0.free 0
  have hr1 : w5.cell? ⟨w.heap.size, 1, none⟩ = some (.string ⟨#[]⟩) := hb0.cell 1
  have hf1 := hb0.free 1
  have hr2 : w5.cell? ⟨w.heap.size, 2, none⟩ = some (.string ⟨#[]⟩) := hb0.cell 2
  have hf2 := hb0.free 2
  have hr3 : w5.cell? ⟨w.heap.size, 3, none⟩ = some (.string ⟨#[]⟩) := hb0.cell 3
  have hf3 := hb0.free 3
  have hr4 : w5.cell? ⟨w.heap.size, 4, none⟩ = some (.slice none 0 0) := hb0.cell 4
  have hf4 := hb0.free 4
  have hr5 : w5.cell? ⟨w.heap.size, 5, none⟩ = some (.string ⟨#[]⟩) := hb0.cell 5
  have hf5 := hb0.free 5
  obtain ⟨v7, hr7, d0, d1, d2, _, _⟩ := h.cells
  obtain ⟨A7, c7, rfl⟩ : ∃ A c, v7 = .slice A l5.length c := by
    rcases hr7 with ⟨rfl, rfl⟩ | ⟨b, o, cap, rfl, _, _⟩ <;> exact ⟨_, _, rfl⟩
  clear HB HB0 HB2
  have HB := hid hbb
  have HB0 := hid hb0
  clear hbb hb0 hb2 ha hm h hr7
  cases b5 with
  | true =>
    · go_wp2
      have q0 : AtB _ w.heap.size 36 #[.string ⟨#[]⟩, .string ⟨#[]⟩, .string ⟨#[]⟩, .string ⟨#[]⟩, .slice none 0 0, .string ⟨#[]⟩] := AtB.set HB0.out 0 (.string ⟨#[]⟩ : Value)
      have q1 : AtB _ w.heap.size 36 #[.string ⟨#[]⟩, .string ⟨#[]⟩, .string ⟨#[]⟩, .string ⟨#[]⟩, .slice none 0 0, .string ⟨#[]⟩] := AtB.set q0 1 (.string ⟨#[]⟩ : Value)
      have q2 : AtB _ w.heap.size 36 #[.string ⟨#[]⟩, .string ⟨#[]⟩, .string ⟨#[]⟩, .string ⟨#[]⟩, .slice none 0 0, .string ⟨#[]⟩] := AtB.set q1 2 (.string ⟨#[]⟩ : Value)
      have q3 : AtB _ w.heap.size 36 #[.string ⟨#[]⟩, .string ⟨#[]⟩, .string ⟨#[]⟩, .string ⟨#[]⟩, .slice none 0 0, .string ⟨#[]⟩] := AtB.set q2 3 (.string ⟨#[]⟩ : Value)
      have q4 : AtB _ w.heap.size 36 #[.string ⟨#[]⟩, .string ⟨#[]⟩, .string ⟨#[]⟩, .string ⟨#[]⟩, .slice none 0 0, .string ⟨#[]⟩] := AtB.set q3 4 (.slice none 0 0 : Value)
      have q5 : AtB _ w.heap.size 36 #[.string ⟨#[]⟩, .string ⟨#[]⟩, .string ⟨#[]⟩, .string ⟨#[]⟩, .slice none 0 0, .string ⟨#[]⟩] := AtB.set q4 5 (.string ⟨#[]⟩ : Value)
      have hres2 := q5
      refine bodyPost_ret (results_ct rfl _ _ w.heap.size 36 #[.string ⟨#[]⟩, .string ⟨#[]⟩, .string ⟨#[]⟩, .string ⟨#[]⟩, .slice none 0 0, .string ⟨#[]⟩] (0, 0) _ rfl hres2 Tryd.underlying36 rfl (by kernel_rfl)) rfl ?_
      rw [show unR (x, l5, true) = none from if_pos (.inl rfl)]
      exact ⟨[.string ⟨#[]⟩, .string ⟨#[]⟩, .string ⟨#[]⟩, .string ⟨#[]⟩, .slice none 0 0, .string ⟨#[]⟩], rfl, (k36_mkM _ _ _ z36 (Kd.R_nil _ _ _ _ _)), ((((((HB.out.setCell (p := ⟨w.heap.size, 0, none⟩) (Nat.le_refl _) _).setCell (p := ⟨w.heap.size, 1, none⟩) (Nat.le_refl _) _).setCell (p := ⟨w.heap.size, 2, none⟩) (Nat.le_refl _) _).setCell (p := ⟨w.heap.size, 3, none⟩) (Nat.le_refl _) _).setCell (p := ⟨w.heap.size, 4, none⟩) (Nat.le_refl _) _).setCell (p := ⟨w.heap.size, 5, none⟩) (Nat.le_refl _) _)⟩
  | false =>
    by_cases h5 : 0 < l5.length
    · have t1 : decide ((0 : Int) < (l5.length : Int)) = true := decide_eq_true (by omega)
      have t2 : decide (0 < l5.length) = true := decide_eq_true h5
      go_wp2
      have q0 : AtB _ w.heap.size 36 #[.string ⟨#[]⟩, .string ⟨#[]⟩, .string ⟨#[]⟩, .string ⟨#[]⟩, .slice none 0 0, .string ⟨#[]⟩] := AtB.set HB0.out 0 (.string ⟨#[]⟩ : Value)
      have q1 : AtB _ w.heap.size 36 #[.string ⟨#[]⟩, .string ⟨#[]⟩, .string ⟨#[]⟩, .string ⟨#[]⟩, .slice none 0 0, .string ⟨#[]⟩] := AtB.set q0 1 (.string ⟨#[]⟩ : Value)
      have q2 : AtB _ w.heap.size 36 #[.string ⟨#[]⟩, .string ⟨#[]⟩, .string ⟨#[]⟩, .string ⟨#[]⟩, .slice none 0 0, .string ⟨#[]⟩] := AtB.set q1 2 (.string ⟨#[]⟩ : Value)
      have q3 : AtB _ w.heap.size 36 #[.string ⟨#[]⟩, .string ⟨#[]⟩, .string ⟨#[]⟩, .string ⟨#[]⟩, .slice none 0 0, .string ⟨#[]⟩] := AtB.set q2 3 (.string ⟨#[]⟩ : Value)
      have q4 : AtB _ w.heap.size 36 #[.string ⟨#[]⟩, .string ⟨#[]⟩, .string ⟨#[]⟩, .string ⟨#[]⟩, .slice none 0 0, .string ⟨#[]⟩] := AtB.set q3 4 (.slice none 0 0 : Value)
      have q5 : AtB _ w.heap.size 36 #[.string ⟨#[]⟩, .string ⟨#[]⟩, .string ⟨#[]⟩, .string ⟨#[]⟩, .slice none 0 0, .string ⟨#[]⟩] := AtB.set q4 5 (.string ⟨#[]⟩ : Value)
      have hres2 := q5
      refine bodyPost_ret (results_ct rfl _ _ w.heap.size 36 #[.string ⟨#[]⟩, .string ⟨#[]⟩, .string ⟨#[]⟩, .string ⟨#[]⟩, .slice none 0 0, .string ⟨#[]⟩] (0, 0) _ rfl hres2 Tryd.underlying36 rfl (by kernel_rfl)) rfl ?_
      rw [show unR (x, l5, false) = none from if_pos (.inr h5)]
      exact ⟨[.string ⟨#[]⟩, .string ⟨#[]⟩, .string ⟨#[]⟩, .string ⟨#[]⟩, .slice none 0 0, .string ⟨#[]⟩], rfl, (k36_mkM _ _ _ z36 (Kd.R_nil _ _ _ _ _)), ((((((HB.out.setCell (p := ⟨w.heap.size, 0, none⟩) (Nat.le_refl _) _).setCell (p := ⟨w.heap.size, 1, none⟩) (Nat.le_refl _) _).setCell (p := ⟨w.heap.size, 2, none⟩) (Nat.le_refl _) _).setCell (p := ⟨w.heap.size, 3, none⟩) (Nat.le_refl _) _).setCell (p := ⟨w.heap.size, 4, none⟩) (Nat.le_refl _) _).setCell (p := ⟨w.heap.size, 5, none⟩) (Nat.le_refl _) _)⟩
    · have h50 : l5 = [] := List.eq_nil_of_length_eq_zero (by omega)
      subst h50
      have t1 : decide ((0 : Int) < ((([] : List UInt8).length : Nat) : Int)) = false := rfl
      go_wp2
      have q0 : AtB _ w.heap.size 36 #[.string x.f0, .string ⟨#[]⟩, .string ⟨#[]⟩, .string ⟨#[]⟩, .slice none 0 0, .string ⟨#[]⟩] := AtB.set HB0.out 0 (.string x.f0 : Value)
      have q1 : AtB _ w.heap.size 36 #[.string x.f0, .string x.f1, .string ⟨#[]⟩, .string ⟨#[]⟩, .slice none 0 0, .string ⟨#[]⟩] := AtB.set q0 1 (.string x.f1 : Value)
      have q2 : AtB _ w.heap.size 36 #[.string x.f0, .string x.f1, .string x.f2, .string ⟨#[]⟩, .slice none 0 0, .string ⟨#[]⟩] := AtB.set q1 2 (.string x.f2 : Value)
      have q3 : AtB _ w.heap.size 36 #[.string x.f0, .string x.f1, .string x.f2, .string x.f3, .slice none 0 0, .string ⟨#[]⟩] := AtB.set q2 3 (.string x.f3 : Value)
      have q4 : AtB _ w.heap.size 36 #[.string x.f0, .string x.f1, .string x.f2, .string x.f3, .slice A4 m4 c4, .string ⟨#[]⟩] := AtB.set q3 4 (.slice A4 m4 c4 : Value)
      have q5 : AtB _ w.heap.size 36 #[.string x.f0, .string x.f1, .string x.f2, .string x.f3, .slice A4 m4 c4, .string x.f5] := AtB.set q4 5 (.string x.f5 : Value)
      have hres2 := q5
      refine bodyPost_ret (results_ct rfl _ _ w.heap.size 36 #[.string x.f0, .string x.f1, .string x.f2, .string x.f3, .slice A4 m4 c4, .string x.f5] (0, 0) _ rfl hres2 Tryd.underlying36 rfl (by kernel_rfl)) rfl ?_
      rw [show unR (x, ([] : List UInt8), false) = some x from if_neg (by simp)]
      have hM1 := HMM.out
      exact ⟨[.string x.f0, .string x.f1, .string x.f2, .string x.f3, .slice A4 m4 c4, .string x.f5], rfl, up_mem hM1 (fun q hq => by have := hq.2.1; omega) (by omega) (((((((Mod.refl (fun q => q = w.heap.size) w5).setCell ⟨w.heap.size, 0, none⟩ (.string x.f0 : Value) (.inl rfl)).setCell ⟨w.heap.size, 1, none⟩ (.string x.f1 : Value) (.inl rfl)).setCell ⟨w.heap.size, 2, none⟩ (.string x.f2 : Value) (.inl rfl)).setCell ⟨w.heap.size, 3, none⟩ (.string x.f3 : Value) (.inl rfl)).setCell ⟨w.heap.size, 4, none⟩ (.slice A4 m4 c4 : Value) (.inl rfl)).setCell ⟨w.heap.size, 5, none⟩ (.string x.f5 : Value) (.inl rfl)), ((((((HB.out.setCell (p := ⟨w.heap.size, 0, none⟩) (Nat.le_refl _) _).setCell (p := ⟨w.heap.size, 1, none⟩) (Nat.le_refl _) _).setCell (p := ⟨w.heap.size, 2, none⟩) (Nat.le_refl _) _).setCell (p := ⟨w.heap.size, 3, none⟩) (Nat.le_refl _) _).setCell (p := ⟨w.heap.size, 4, none⟩) (Nat.le_refl _) _).setCell (p := ⟨w.heap.size, 5, none⟩) (Nat.le_refl _) _)⟩
set_option maxHeartbeats 8000000 in
set_option maxRecDepth 100000 in
theorem toResource_any (w : World) (v : Value) (l : List UInt8) (hr : ReadsB w v l) (hl : l.length ≤ 1099511627776) :
    Calls Tryd.prog 17 #[v] w (UP k36 z36 (unR (resourceR l false)) w) := by
  have h00 : Below w.heap.size w (w.alloc (.cells #[.string ⟨#[]⟩, .string ⟨#[]⟩, .string ⟨#[]⟩, .string ⟨#[]⟩, .slice none 0 0, .string ⟨#[]⟩] 36)) := (Below.refl _ w).alloc (Nat.le_refl _) _
  have hb0 : AtB (w.alloc (.cells #[.string ⟨#[]⟩, .string ⟨#[]⟩, .string ⟨#[]⟩, .string ⟨#[]⟩, .slice none 0 0, .string ⟨#[]⟩] 36)) w.heap.size 36 #[.string ⟨#[]⟩, .string ⟨#[]⟩, .string ⟨#[]⟩, .string ⟨#[]⟩, .slice none 0 0, .string ⟨#[]⟩] := at_make rfl
  obtain ⟨o, ho⟩ : ∃ o, unR (resourceR l false) = o := ⟨_, rfl⟩
  have hcall := unpackResource_any (w.alloc (.cells #[.string ⟨#[]⟩, .string ⟨#[]⟩, .string ⟨#[]⟩, .string ⟨#[]⟩, .slice none 0 0, .string ⟨#[]⟩] 36)) v l (hr.below h00) hl
  rw [ho] at hcall ⊢
  have HC := hid hcall
  have HB0 := hid hb0
  have HB := hid h00
  clear hcall hb0 h00 ho hr
  go_enter Tryd.func17, Tryd.ntmps17
  go_wp2_with (go_at_call 51; refine HC.out.mono ?_)
  clear HC
  intro e w5 hq
  obtain ⟨cs3, rfl, hM, hb⟩ := hq
  rw [World.size_alloc] at hM hb
  obtain ⟨y, hy⟩ : ∃ y, o.getD z36 = y := ⟨_, rfl⟩
  rw [hy] at hM
  have HY := hid hy
  clear hy
  obtain ⟨v4, rfl, g4⟩ := k36_openM hM
  obtain ⟨A4, m4, c4, rfl⟩ := r_form g4
  have hMB := k36.M_bound hM
  have HMM := hid hMB
  clear hM hMB g4
  have hb0 : AtB w5 w.heap.size 36 #[.string ⟨#[]⟩, .string ⟨#[]⟩, .string ⟨#[]⟩, .string ⟨#[]⟩, .slice none 0 0, .string ⟨#[]⟩] := (hb.block w.heap.size (by omega)).trans HB0.out
  have hbb : Below w.heap.size w w5 := HB.out.trans (hb.mono (by omega))
  have hr0 : w5.cell? ⟨w.heap.size, 0, none⟩ = some (.string ⟨#[]⟩) := hb0.cell 0
  have hf0 := hb0.free 0
  have hr1 : w5.cell? ⟨w.heap.size, 1, none⟩ = some (.string ⟨#[]⟩) := hb0.cell 1
  have hf1 := hb0.free 1
  have hr2 : w5.cell? ⟨w.heap.size, 2, none⟩ = some (.string ⟨#[]⟩) := hb0.cell 2
  have hf2 := hb0.free 2
  have hr3 : w5.cell? ⟨w.heap.size, 3, none⟩ = some (.string ⟨#[]⟩) := hb0.cell 3
  have hf3 := hb0.free 3
  have hr4 : w5.cell? ⟨w.heap.size, 4, none⟩ = some (.slice none 0 0) := hb0.cell 4
  have hf4 := hb0.free 4
  have hr5 : w5.cell? ⟨w.heap.size, 5, none⟩ = some (.string ⟨#[]⟩) := hb0.cell 5
  have hf5 := hb0.free 5
  clear HB HB0
  have HB := hid hbb
  have HB0 := hid hb0
  obtain ⟨ev, hev⟩ : ∃ ev, errV o.isSome = ev := ⟨_, rfl⟩
  rw [hev]
  have HEV := hid hev
  clear hbb hb0 hb hev
  go_wp2
  have q0 : AtB _ w.heap.size 36 #[.string y.f0, .string ⟨#[]⟩, .string ⟨#[]⟩, .string ⟨#[]⟩, .slice none 0 0, .string ⟨#[]⟩] := AtB.set HB0.out 0 (.string y.f0 : Value)
  have q1 : AtB _ w.heap.size 36 #[.string y.f0, .string y.f1, .string ⟨#[]⟩, .string ⟨#[]⟩, .slice none 0 0, .string ⟨#[]⟩] := AtB.set q0 1 (.string y.f1 : Value)
  have q2 : AtB _ w.heap.size 36 #[.string y.f0, .string y.f1, .string y.f2, .string ⟨#[]⟩, .slice none 0 0, .string ⟨#[]⟩] := AtB.set q1 2 (.string y.f2 : Value)
  have q3 : AtB _ w.heap.size 36 #[.string y.f0, .string y.f1, .string y.f2, .string y.f3, .slice none 0 0, .string ⟨#[]⟩] := AtB.set q2 3 (.string y.f3 : Value)
  have q4 : AtB _ w.heap.size 36 #[.string y.f0, .string y.f1, .string y.f2, .string y.f3, .slice A4 m4 c4, .string ⟨#[]⟩] := AtB.set q3 4 (.slice A4 m4 c4 : Value)
  have q5 : AtB _ w.heap.size 36 #[.string y.f0, .string y.f1, .string y.f2, .string y.f3, .slice A4 m4 c4, .string y.f5] := AtB.set q4 5 (.string y.f5 : Value)
  have hres2 := q5
  refine bodyPost_ret (results_ct rfl _ _ w.heap.size 36 #[.string y.f0, .string y.f1, .string y.f2, .string y.f3, .slice A4 m4 c4, .string y.f5] (0, 0) _ rfl hres2 Tryd.underlying36 rfl (by kernel_rfl)) rfl ?_
  refine ⟨[.string y.f0, .string y.f1, .string y.f2, .string y.f3, .slice A4 m4 c4, .string y.f5], by rw [HEV.out]; rfl, ?_, ((((((HB.out.setCell (p := ⟨w.heap.size, 0, none⟩) (Nat.le_refl _) _).setCell (p := ⟨w.heap.size, 1, none⟩) (Nat.le_refl _) _).setCell (p := ⟨w.heap.size, 2, none⟩) (Nat.le_refl _) _).setCell (p := ⟨w.heap.size, 3, none⟩) (Nat.le_refl _) _).setCell (p := ⟨w.heap.size, 4, none⟩) (Nat.le_refl _) _).setCell (p := ⟨w.heap.size, 5, none⟩) (Nat.le_refl _) _)⟩
  rw [HY.out]
  exact up_mem HMM.out (fun q hq => by have := hq.2.1; omega) (by omega) (((((((Mod.refl (fun q => q = w.heap.size) w5).setCell ⟨w.heap.size, 0, none⟩ (.string y.f0 : Value) (.inl rfl)).setCell ⟨w.heap.size, 1, none⟩ (.string y.f1 : Value) (.inl rfl)).setCell ⟨w.heap.size, 2, none⟩ (.string y.f2 : Value) (.inl rfl)).setCell ⟨w.heap.size, 3, none⟩ (.string y.f3 : Value) (.inl rfl)).setCell ⟨w.heap.size, 4, none⟩ (.slice A4 m4 c4 : Value) (.inl rfl)).setCell ⟨w.heap.size, 5, none⟩ (.string y.f5 : Value) (.inl rfl))
end Go.Proofs.YtcgjacffemjehaaDoor

namespace Go.Proofs.YtcgjacffemjehaaDoor
open Go.RowKit
open Go.Proofs.YtcgjacffemjehaaDoorW.PrintWords (Kd rdOf results_ct)
open Go.Proofs.YtcgjacffemjehaaDoor.PRowReads
set_option linter.unusedVariables false
set_option maxHeartbeats 8000000 in
set_option maxRecDepth 100000 in
theorem unpackTicket_any (w : World) (v : Value) (l : List UInt8) (hr : ReadsB w v l) (hl : l.length ≤ 1099511627776) :
    Calls Tryd.prog 53 #[v, .func (.func 54) #[] #[]] w (UP k38 z38 (unR (ticketR l false)) w) := by
  obtain ⟨A9, m9, c9, rfl⟩ := reads_form hr
  have hrs := rs_make (g := w.heap.size + 1 + 1 + 1) (W := (((w.alloc (.cells #[.string ⟨#[]⟩, .string ⟨#[]⟩, .slice none 0 0, .string ⟨#[]⟩, .int .i64 0, .bool false] 38)).alloc (.cells #[.string ⟨#[]⟩, .string ⟨#[]⟩, .slice none 0 0, .string ⟨#[]⟩, .int .i64 0, .bool false] 38)).alloc (.cells #[.string ⟨#[]⟩, .string ⟨#[]⟩, .slice none 0 0, .string ⟨#[]⟩, .int .i64 0, .bool false] 38))) ((((Below.refl _ w).alloc (Nat.le_refl _) _).alloc (by simp) _).alloc (by simp; omega) _) (by simp) hr hl
  have hb0 : AtB ((((w.alloc (.cells #[.string ⟨#[]⟩, .string ⟨#[]⟩, .slice none 0 0, .string ⟨#[]⟩, .int .i64 0, .bool false] 38)).alloc (.cells #[.string ⟨#[]⟩, .string ⟨#[]⟩, .slice none 0 0, .string ⟨#[]⟩, .int .i64 0, .bool false] 38)).alloc (.cells #[.string ⟨#[]⟩, .string ⟨#[]⟩, .slice none 0 0, .string ⟨#[]⟩, .int .i64 0, .bool false] 38)).alloc (.cells #[.slice A9 m9 c9, .bool true, .bool false] 129)) w.heap.size 38 #[.string ⟨#[]⟩, .string ⟨#[]⟩, .slice none 0 0, .string ⟨#[]⟩, .int .i64 0, .bool false] := (((at_make rfl).alloc _).alloc _).alloc _
  have hb1 : AtB ((((w.alloc (.cells #[.string ⟨#[]⟩, .string ⟨#[]⟩, .slice none 0 0, .string ⟨#[]⟩, .int .i64 0, .bool false] 38)).alloc (.cells #[.string ⟨#[]⟩, .string ⟨#[]⟩, .slice none 0 0, .string ⟨#[]⟩, .int .i64 0, .bool false] 38)).alloc (.cells #[.string ⟨#[]⟩, .string ⟨#[]⟩, .slice none 0 0, .string ⟨#[]⟩, .int .i64 0, .bool false] 38)).alloc (.cells #[.slice A9 m9 c9, .bool true, .bool false] 129)) (w.heap.size + 1) 38 #[.string ⟨#[]⟩, .string ⟨#[]⟩, .slice none 0 0, .string ⟨#[]⟩, .int .i64 0, .bool false] := ((at_make (by simp)).alloc _).alloc _
  have hb2 : AtB ((((w.alloc (.cells #[.string ⟨#[]⟩, .string ⟨#[]⟩, .slice none 0 0, .string ⟨#[]⟩, .int .i64 0, .bool false] 38)).alloc (.cells #[.string ⟨#[]⟩, .string ⟨#[]⟩, .slice none 0 0, .string ⟨#[]⟩, .int .i64 0, .bool false] 38)).alloc (.cells #[.string ⟨#[]⟩, .string ⟨#[]⟩, .slice none 0 0, .string ⟨#[]⟩, .int .i64 0, .bool false] 38)).alloc (.cells #[.slice A9 m9 c9, .bool true, .bool false] 129)) (w.heap.size + 1 + 1) 38 #[.string ⟨#[]⟩, .string ⟨#[]⟩, .slice none 0 0, .string ⟨#[]⟩, .int .i64 0, .bool false] := (at_make (by simp)).alloc _
  have h00 : Below w.heap.size w ((((w.alloc (.cells #[.string ⟨#[]⟩, .string ⟨#[]⟩, .slice none 0 0, .string ⟨#[]⟩, .int .i64 0, .bool false] 38)).alloc (.cells #[.string ⟨#[]⟩, .string ⟨#[]⟩, .slice none 0 0, .string ⟨#[]⟩, .int .i64 0, .bool false] 38)).alloc (.cells #[.string ⟨#[]⟩, .string ⟨#[]⟩, .slice none 0 0, .string ⟨#[]⟩, .int .i64 0, .bool false] 38)).alloc (.cells #[.slice A9 m9 c9, .bool true, .bool false] 129)) := hrs.below
  have h01 : ((((w.alloc (.cells #[.string ⟨#[]⟩, .string ⟨#[]⟩, .slice none 0 0, .string ⟨#[]⟩, .int .i64 0, .bool false] 38)).alloc (.cells #[.string ⟨#[]⟩, .string ⟨#[]⟩, .slice none 0 0, .string ⟨#[]⟩, .int .i64 0, .bool false] 38)).alloc (.cells #[.string ⟨#[]⟩, .string ⟨#[]⟩, .slice none 0 0, .string ⟨#[]⟩, .int .i64 0, .bool false] 38)).alloc (.cells #[.slice A9 m9 c9, .bool true, .bool false] 129)).heap.size = w.heap.size + 1 + 1 + 1 + 1 := by simp
  obtain ⟨⟨x, l5, b5⟩, hz⟩ : ∃ z, ticketR l false = z := ⟨_, rfl⟩
  have hcall := ticket_r hrs hb1 (by omega) (by omega)
  rw [hz] at hcall ⊢
  have HC := hid hcall
  have HB0 := hid hb0
  have HB2 := hid hb2
  have HB := hid h00
  clear hcall hrs hb0 hb1 hb2 h00 hz hr
  go_enter Tryd.func53, Tryd.ntmps53
  go_wp2_with fail
  refine HC.out.mono ?_
  clear HC h01
  intro e w5 hq
  obtain ⟨rfl, h, ⟨cs3, ha, hM⟩, hm⟩ := hq
  rw [World.size_alloc, World.size_alloc, World.size_alloc, World.size_alloc] at hM
  obtain ⟨v2, rfl, g2⟩ := k38_openM hM
  obtain ⟨A2, m2, c2, rfl⟩ := r_form g2
  have hMB := k38.M_bound hM
  have HMM := hid hMB
  clear hM hMB g2
  have hb0 := HB0.out.mod hm (by omega)
  have hb2 := HB2.out.mod hm (by omega)
  have hbb : Below w.heap.size w w5 := HB.out.trans (hm.below (by simp; omega) (fun q e => by omega))
  have hx0 : w5.cell? ⟨w.heap.size + 1, 0, none⟩ = some (.string x.f0) := ha.cell 0
  have hx1 : w5.cell? ⟨w.heap.size + 1, 1, none⟩ = some (.string x.f1) := ha.cell 1
  have hx2 : w5.cell? ⟨w.heap.size + 1, 2, none⟩ = some (.slice A2 m2 c2) := ha.cell 2
  have hx3 : w5.cell? ⟨w.heap.size + 1, 3, none⟩ = some (.string x.f3) := ha.cell 3
  have hx4 : w5.cell? ⟨w.heap.size + 1, 4, none⟩ = some (.int .i64 x.f4) := ha.cell 4
  have hx5 : w5.cell? ⟨w.heap.size + 1, 5, none⟩ = some (.bool x.f5) := ha.cell 5
  have hn0 : w5.cell? ⟨w.heap.size + 1 + 1, 0, none⟩ = some (.string ⟨#[]⟩) := hb2.cell 0
  have hn1 : w5.cell? ⟨w.heap.size + 1 + 1, 1, none⟩ = some (.string ⟨#[]⟩) := hb2.cell 1
  have hn2 : w5.cell? ⟨w.heap.size + 1 + 1, 2, none⟩ = some (.slice none 0 0) := hb2.cell 2
  have hn3 : w5.cell? ⟨w.heap.size + 1 + 1, 3, none⟩ = some (.string ⟨#[]⟩) := hb2.cell 3
  have hn4 : w5.cell? ⟨w.heap.size + 1 + 1, 4, none⟩ = some (.int .i64 0) := hb2.cell 4
  have hn5 : w5.cell? ⟨w.heap.size + 1 + 1, 5, none⟩ = some (.bool false) := hb2.cell 5
  have hr0 : w5.cell? ⟨w.heap.size, 0, none⟩ = some (.string ⟨#[]⟩) := hb0.cell 0
  have hf0 := hb0.free 0
  have hr1 : w5.cell? ⟨w.heap.size, 1, none⟩ = some (.string ⟨#[]⟩) := hb0.cell 1
  have hf1 := hb0.free 1
  have hr2 : w5.cell? ⟨w.heap.size, 2, none⟩ = some (.slice none 0 0) := hb0.cell 2
  have hf2 := hb0.free 2
  have hr3 : w5.cell? ⟨w.heap.size, 3, none⟩ = some (.string ⟨#[]⟩) := hb0.cell 3
  have hf3 := hb0.free 3
  have hr4 : w5.cell? ⟨w.heap.size, 4, none⟩ = some (.int .i64 0) := hb0.cell 4
  have hf4 := hb0.free 4
  have hr5 : w5.cell? ⟨w.heap.size, 5, none⟩ = some (.bool false) := hb0.cell 5
  have hf5 := hb0.free 5
  obtain ⟨v7, hr7, d0, d1, d2, _, _⟩ := h.cells
  obtain ⟨A7, c7, rfl⟩ : ∃ A c, v7 = .slice A l5.length c := by
    rcases hr7 with ⟨rfl, rfl⟩ | ⟨b, o, cap, rfl, _, _⟩ <;> exact ⟨_, _, rfl⟩
  clear HB HB0 HB2
  have HB := hid hbb
  have HB0 := hid hb0
  clear hbb hb0 hb2 ha hm h hr7
  cases b5 with
  | true =>
    · go_wp2
      have q0 : AtB _ w.heap.size 38 #[.string ⟨#[]⟩, .string ⟨#[]⟩, .slice none 0 0, .string ⟨#[]⟩, .int .i64 0, .bool false] := AtB.set HB0.out 0 (.string ⟨#[]⟩ : Value)
      have q1 : AtB _ w.heap.size 38 #[.string ⟨#[]⟩, .string ⟨#[]⟩, .slice none 0 0, .string ⟨#[]⟩, .int .i64 0, .bool false] := AtB.set q0 1 (.string ⟨#[]⟩ : Value)
      have q2 : AtB _ w.heap.size 38 #[.string ⟨#[]⟩, .string ⟨#[]⟩, .slice none 0 0, .string ⟨#[]⟩, .int .i64 0, .bool false] := AtB.set q1 2 (.slice none 0 0 : Value)
      have q3 : AtB _ w.heap.size 38 #[.string ⟨#[]⟩, .string ⟨#[]⟩, .slice none 0 0, .string ⟨#[]⟩, .int .i64 0, .bool false] := AtB.set q2 3 (.string ⟨#[]⟩ : Value)
      have q4 : AtB _ w.heap.size 38 #[.string ⟨#[]⟩, .string ⟨#[]⟩, .slice none 0 0, .string ⟨#[]⟩, .int .i64 0, .bool false] := AtB.set q3 4 (.int .i64 0 : Value)
      have q5 : AtB _ w.heap.size 38 #[.string ⟨#[]⟩, .string ⟨#[]⟩, .slice none 0 0, .string ⟨#[]⟩, .int .i64 0, .bool false] := AtB.set q4 5 (.bool false : Value)
      have hres2 := q5
      refine bodyPost_ret (results_ct rfl _ _ w.heap.size 38 #[.string ⟨#[]⟩, .string ⟨#[]⟩, .slice none 0 0, .string ⟨#[]⟩, .int .i64 0, .bool false] (0, 0) _ rfl hres2 Tryd.underlying38 rfl (by kernel_rfl)) rfl ?_
      rw [show unR (x, l5, true) = none from if_pos (.inl rfl)]
      exact ⟨[.string ⟨#[]⟩, .string ⟨#[]⟩, .slice none 0 0, .string ⟨#[]⟩, .int .i64 0, .bool false], rfl, (k38_mkM _ _ _ z38 (Kd.R_nil _ _ _ _ _)), ((((((HB.out.setCell (p := ⟨w.heap.size, 0, none⟩) (Nat.le_refl _) _).setCell (p := ⟨w.heap.size, 1, none⟩) (Nat.le_refl _) _).setCell (p := ⟨w.heap.size, 2, none⟩) (Nat.le_refl _) _).setCell (p := ⟨w.heap.size, 3, none⟩) (Nat.le_refl _) _).setCell (p := ⟨w.heap.size, 4, none⟩) (Nat.le_refl _) _).setCell (p := ⟨w.heap.size, 5, none⟩) (Nat.le_refl _) _)⟩
  | false =>
    by_cases h5 : 0 < l5.length
    · have t1 : decide ((0 : Int) < (l5.length : Int)) = true := decide_eq_true (by omega)
      have t2 : decide (0 < l5.length) = true := decide_eq_true h5
      go_wp2
      have q0 : AtB _ w.heap.size 38 #[.string ⟨#[]⟩, .string ⟨#[]⟩, .slice none 0 0, .string ⟨#[]⟩, .int .i64 0, .bool false] := AtB.set HB0.out 0 (.string ⟨#[]⟩ : Value)
      have q1 : AtB _ w.heap.size 38 #[.string ⟨#[]⟩, .string ⟨#[]⟩, .slice none 0 0, .string ⟨#[]⟩, .int .i64 0, .bool false] := AtB.set q0 1 (.string ⟨#[]⟩ : Value)
      have q2 : AtB _ w.heap.size 38 #[.string ⟨#[]⟩, .string ⟨#[]⟩, .slice none 0 0, .string ⟨#[]⟩, .int .i64 0, .bool false] := AtB.set q1 2 (.slice none 0 0 : Value)
      have q3 : AtB _ w.heap.size 38 #[.string ⟨#[]⟩, .string ⟨#[]⟩, .slice none 0 0, .string ⟨#[]⟩, .int .i64 0, .bool false] := AtB.set q2 3 (.string ⟨#[]⟩ : Value)
      have q4 : AtB _ w.heap.size 38 #[.string ⟨#[]⟩, .string ⟨#[]⟩, .slice none 0 0, .string ⟨#[]⟩, .int .i64 0, .bool false] := AtB.set q3 4 (.int .i64 0 : Value)
      have q5 : AtB _ w.heap.size 38 #[.string ⟨#[]⟩, .string ⟨#[]⟩, .slice none 0 0, .string ⟨#[]⟩, .int .i64 0, .bool false] := AtB.set q4 5 (.bool false : Value)
      have hres2 := q5
      refine bodyPost_ret (results_ct rfl _ _ w.heap.size 38 #[.string ⟨#[]⟩, .string ⟨#[]⟩, .slice none 0 0, .string ⟨#[]⟩, .int .i64 0, .bool false] (0, 0) _ rfl hres2 Tryd.underlying38 rfl (by kernel_rfl)) rfl ?_
      rw [show unR (x, l5, false) = none from if_pos (.inr h5)]
      exact ⟨[.string ⟨#[]⟩, .string ⟨#[]⟩, .slice none 0 0, .string ⟨#[]⟩, .int .i64 0, .bool false], rfl, (k38_mkM _ _ _ z38 (Kd.R_nil _ _ _ _ _)), ((((((HB.out.setCell (p := ⟨w.heap.size, 0, none⟩) (Nat.le_refl _) _).setCell (p := ⟨w.heap.size, 1, none⟩) (Nat.le_refl _) _).setCell (p := ⟨w.heap.size, 2, none⟩) (Nat.le_refl _) _).setCell (p := ⟨w.heap.size, 3, none⟩) (Nat.le_refl _) _).setCell (p := ⟨w.heap.size, 4, none⟩) (Nat.le_refl _) _).setCell (p := ⟨w.heap.size, 5, none⟩) (Nat.le_refl _) _)⟩
    · have h50 : l5 = [] := List.eq_nil_of_length_eq_zero (by omega)
      subst h50
      have t1 : decide ((0 : Int) < ((([] : List UInt8).length : Nat) : Int)) = false := rfl
      go_wp2
      have q0 : AtB _ w.heap.size 38 #[.string x.f0, .string ⟨#[]⟩, .slice none 0 0, .string ⟨#[]⟩, .int .i64 0, .bool false] := AtB.set HB0.out 0 (.string x.f0 : Value)
      have q1 : AtB _ w.heap.size 38 #[.string x.f0, .string x.f1, .slice none 0 0, .string ⟨#[]⟩, .int .i64 0, .bool false] := AtB.set q0 1 (.string x.f1 : Value)
      have q2 : AtB _ w.heap.size 38 #[.string x.f0, .string x.f1, .slice A2 m2 c2, .string ⟨#[]⟩, .int .i64 0, .bool false] := AtB.set q1 2 (.slice A2 m2 c2 : Value)
      have q3 : AtB _ w.heap.size 38 #[.string x.f0, .string x.f1, .slice A2 m2 c2, .string x.f3, .int .i64 0, .bool false] := AtB.set q2 3 (.string x.f3 : Value)
      have q4 : AtB _ w.heap.size 38 #[.string x.f0, .string x.f1, .slice A2 m2 c2, .string x.f3, .int .i64 x.f4, .bool false] := AtB.set q3 4 (.int .i64 x.f4 : Value)
      have q5 : AtB _ w.heap.size 38 #[.string x.f0, .string x.f1, .slice A2 m2 c2, .string x.f3, .int .i64 x.f4, .bool x.f5] := AtB.set q4 5 (.bool x.f5 : Value)
      have hres2 := q5
      refine bodyPost_ret (results_ct rfl _ _ w.heap.size 38 #[.string x.f0, .string x.f1, .slice A2 m2 c2, .string x.f3, .int .i64 x.f4, .bool x.f5] (0, 0) _ rfl hres2 Tryd.underlying38 rfl (by kernel_rfl)) rfl ?_
      rw [show unR (x, ([] : List UInt8), false) = some x from if_neg (by simp)]
      have hM1 := HMM.out
      exact ⟨[.string x.f0, .string x.f1, .slice A2 m2 c2, .string x.f3, .int .i64 x.f4, .bool x.f5], rfl, up_mem hM1 (fun q hq => by have := hq.2.1; omega) (by omega) (((((((Mod.refl (fun q => q = w.heap.size) w5).setCell ⟨w.heap.size, 0, none⟩ (.string x.f0 : Value) (.inl rfl)).setCell ⟨w.heap.size, 1, none⟩ (.string x.f1 : Value) (.inl rfl)).setCell ⟨w.heap.size, 2, none⟩ (.slice A2 m2 c2 : Value) (.inl rfl)).setCell ⟨w.heap.size, 3, none⟩ (.string x.f3 : Value) (.inl rfl)).setCell ⟨w.heap.size, 4, none⟩ (.int .i64 x.f4 : Value) (.inl rfl)).setCell ⟨w.heap.size, 5, none⟩ (.bool x.f5 : Value) (.inl rfl)), ((((((HB.out.setCell (p := ⟨w.heap.size, 0, none⟩) (Nat.le_refl _) _).setCell (p := ⟨w.heap.size, 1, none⟩) (Nat.le_refl _) _).setCell (p := ⟨w.heap.size, 2, none⟩) (Nat.le_refl _) _).setCell (p := ⟨w.heap.size, 3, none⟩) (Nat.le_refl _) _).setCell (p := ⟨w.heap.size, 4, none⟩) (Nat.le_refl _) _).setCell (p := ⟨w.heap.size, 5, none⟩) (Nat.le_refl _) _)⟩
set_option maxHeartbeats 8000000 in
set_option maxRecDepth 100000 in
theorem toTicket_any (w : World) (v : Value) (l : List UInt8) (hr : ReadsB w v l) (hl : l.length ≤ 1099511627776) :
    Calls Tryd.prog 18 #[v] w (UP k38 z38 (unR (ticketR l false)) w) := by
  have h00 : Below w.heap.size w (w.alloc (.cells #[.string ⟨#[]⟩, .string ⟨#[]⟩, .slice none 0 0, .string ⟨#[]⟩, .int .i64 0, .bool false] 38)) := (Below.refl _ w).alloc (Nat.le_refl _) _
  have hb0 : AtB (w.alloc (.cells #[.string ⟨#[]⟩, .string ⟨#[]⟩, .slice none 0 0, .string ⟨#[]⟩, .int .i64 0, .bool false] 38)) w.heap.size 38 #[.string ⟨#[]⟩, .string ⟨#[]⟩, .slice none 0 0, .string ⟨#[]⟩, .int .i64 0, .bool false] := at_make rfl
  obtain ⟨o, ho⟩ : ∃ o, unR (ticketR l false) = o := ⟨_, rfl⟩
  have hcall := unpackTicket_any (w.alloc (.cells #[.string ⟨#[]⟩, .string ⟨#[]⟩, .slice none 0 0, .string ⟨#[]⟩, .int .i64 0, .bool false] 38)) v l (hr.below h00) hl
  rw [ho] at hcall ⊢
  have HC := hid hcall
  have HB0 := hid hb0
  have HB := hid h00
  clear hcall hb0 h00 ho hr
  go_enter Tryd.func18, Tryd.ntmps18
  go_wp2_with (go_at_call 53; refine HC.out.mono ?_)
  clear HC
  intro e w5 hq
  obtain ⟨cs3, rfl, hM, hb⟩ := hq
  rw [World.size_alloc] at hM hb
  obtain ⟨y, hy⟩ : ∃ y, o.getD z38 = y := ⟨_, rfl⟩
  rw [hy] at hM
  have HY := hid hy
  clear hy
  obtain ⟨v2, rfl, g2⟩ := k38_openM hM
  obtain ⟨A2, m2, c2, rfl⟩ := r_form g2
  have hMB := k38.M_bound hM
  have HMM := hid hMB
  clear hM hMB g2
  have hb0 : AtB w5 w.heap.size 38 #[.string ⟨#[]⟩, .string ⟨#[]⟩, .slice none 0 0, .string ⟨#[]⟩, .int .i64 0, .bool false] := (hb.block w.heap.size (by omega)).trans HB0.out
  have hbb : Below w.heap.size w w5 := HB.out.trans (hb.mono (by omega))
  have hr0 : w5.cell? ⟨w.heap.size, 0, none⟩ = some (.string ⟨#[]⟩) := hb0.cell 0
  have hf0 := hb0.free 0
  have hr1 : w5.cell? ⟨w.heap.size, 1, none⟩ = some (.string ⟨#[]⟩) := hb0.cell 1
  have hf1 := hb0.free 1
  have hr2 : w5.cell? ⟨w.heap.size, 2, none⟩ = some (.slice none 0 0) := hb0.cell 2
  have hf2 := hb0.free 2
  have hr3 : w5.cell? ⟨w.heap.size, 3, none⟩ = some (.string ⟨#[]⟩) := hb0.cell 3
  have hf3 := hb0.free 3
  have hr4 : w5.cell? ⟨w.heap.size, 4, none⟩ = some (.int .i64 0) := hb0.cell 4
  have hf4 := hb0.free 4
  have hr5 : w5.cell? ⟨w.heap.size, 5, none⟩ = some (.bool false) := hb0.cell 5
  have hf5 := hb0.free 5
  clear HB HB0
  have HB := hid hbb
  have HB0 := hid hb0
  obtain ⟨ev, hev⟩ : ∃ ev, errV o.isSome = ev := ⟨_, rfl⟩
  rw [hev]
  have HEV := hid hev
  clear hbb hb0 hb hev
  go_wp2
  have q0 : AtB _ w.heap.size 38 #[.string y.f0, .string ⟨#[]⟩, .slice none 0 0, .string ⟨#[]⟩, .int .i64 0, .bool false] := AtB.set HB0.out 0 (.string y.f0 : Value)
  have q1 : AtB _ w.heap.size 38 #[.string y.f0, .string y.f1, .slice none 0 0, .string ⟨#[]⟩, .int .i64 0, .bool false] := AtB.set q0 1 (.string y.f1 : Value)
  have q2 : AtB _ w.heap.size 38 #[.string y.f0, .string y.f1, .slice A2 m2 c2, .string ⟨#[]⟩, .int .i64 0, .bool false] := AtB.set q1 2 (.slice A2 m2 c2 : Value)
  have q3 : AtB _ w.heap.size 38 #[.string y.f0, .string y.f1, .slice A2 m2 c2, .string y.f3, .int .i64 0, .bool false] := AtB.set q2 3 (.string y.f3 : Value)
  have q4 : AtB _ w.heap.size 38 #[.string y.f0, .string y.f1, .slice A2 m2 c2, .string y.f3, .int .i64 y.f4, .bool false] := AtB.set q3 4 (.int .i64 y.f4 : Value)
  have q5 : AtB _ w.heap.size 38 #[.string y.f0, .string y.f1, .slice A2 m2 c2, .string y.f3, .int .i64 y.f4, .bool y.f5] := AtB.set q4 5 (.bool y.f5 : Value)
  have hres2 := q5
  refine bodyPost_ret (results_ct rfl _ _ w.heap.size 38 #[.string y.f0, .string y.f1, .slice A2 m2 c2, .string y.f3, .int .i64 y.f4, .bool y.f5] (0, 0) _ rfl hres2 Tryd.underlying38 rfl (by kernel_rfl)) rfl ?_
  refine ⟨[.string y.f0, .string y.f1, .slice A2 m2 c2, .string y.f3, .int .i64 y.f4, .bool y.f5], by rw [HEV.out]; rfl, ?_, ((((((HB.out.setCell (p := ⟨w.heap.size, 0, none⟩) (Nat.le_refl _) _).setCell (p := ⟨w.heap.size, 1, none⟩) (Nat.le_refl _) _).setCell (p := ⟨w.heap.size, 2, none⟩) (Nat.le_refl _) _).setCell (p := ⟨w.heap.size, 3, none⟩) (Nat.le_refl _) _).setCell (p := ⟨w.heap.size, 4, none⟩) (Nat.le_refl _) _).setCell (p := ⟨w.heap.size, 5, none⟩) (Nat.le_refl _) _)⟩
  rw [HY.out]
  exact up_mem HMM.out (fun q hq => by have := hq.2.1; omega) (by omega) (((((((Mod.refl (fun q => q = w.heap.size) w5).setCell ⟨w.heap.size, 0, none⟩ (.string y.f0 : Value) (.inl rfl)).setCell ⟨w.heap.size, 1, none⟩ (.string y.f1 : Value) (.inl rfl)).setCell ⟨w.heap.size, 2, none⟩ (.slice A2 m2 c2 : Value) (.inl rfl)).setCell ⟨w.heap.size, 3, none⟩ (.string y.f3 : Value) (.inl rfl)).setCell ⟨w.heap.size, 4, none⟩ (.int .i64 y.f4 : Value) (.inl rfl)).setCell ⟨w.heap.size, 5, none⟩ (.bool y.f5 : Value) (.inl rfl))
end Go.Proofs.YtcgjacffemjehaaDoor

namespace Go.Proofs.YtcgjacffemjehaaDoor
open Go.RowKit
open Go.Proofs.YtcgjacffemjehaaDoorW.PrintWords (Kd rdOf results_ct)
open Go.Proofs.YtcgjacffemjehaaDoor.PRowReads
set_option linter.unusedVariables false
/-- What unpack answers of keys. -/
def UK (o : Option (List S117)) (w : World) (e : Ending) (w' : World) : Prop :=
  ∃ v, e = .returned (.tuple #[v, errV o.isSome]) ∧ k117.R 117 w' w.heap.size (fun _ => True) v (o.getD []) ∧ Below w.heap.size w w'
set_option maxHeartbeats 8000000 in
set_option maxRecDepth 100000 in
theorem unpackKeys_any (w : World) (v : Value) (l : List UInt8) (hr : ReadsB w v l) (hl : l.length ≤ 1099511627776) :
    Calls Tryd.prog 55 #[v, .func (.func 56) #[] #[]] w (UK (unR (listR keyR l false)) w) := by
  obtain ⟨A9, m9, c9, rfl⟩ := reads_form hr
  have hrs := rs_make (g := w.heap.size + 1) (W := (w.alloc (.cells #[.slice none 0 0] 39))) ((Below.refl _ w).alloc (Nat.le_refl _) _) (by simp) hr hl
  have hb1 : AtB ((w.alloc (.cells #[.slice none 0 0] 39)).alloc (.cells #[.slice A9 m9 c9, .bool true, .bool false] 129)) w.heap.size 39 #[.slice none 0 0] := (at_make rfl).alloc _
  have h00 := hrs.below
  obtain ⟨⟨x, l5, b5⟩, hz⟩ : ∃ z, listR keyR l false = z := ⟨_, rfl⟩
  have hcall := keys_r (o := 0) hrs hb1 (by omega) (Nat.le_refl _) none 0 0 rfl (by intro q hq; have hq' : q ∈ ([117] : List Nat) := hq; rw [List.mem_singleton] at hq'; subst hq'; decide)
  rw [hz] at hcall ⊢
  have HC := hid hcall
  have HB := hid h00
  clear hcall hrs hb1 h00 hz hr
  go_enter Tryd.func55, Tryd.ntmps55
  go_wp2_with fail
  refine HC.out.mono ?_
  clear HC
  intro e w5 hq
  obtain ⟨rfl, h, ⟨v3, ha, hR⟩, hm⟩ := hq
  rw [World.size_alloc, World.size_alloc] at hR
  obtain ⟨A5, m5, c5, rfl⟩ := r_form hR
  have hbb : Below w.heap.size w w5 := HB.out.trans (hm.below (by simp; omega) (fun q e => by omega))
  have hx0 : w5.cell? ⟨w.heap.size, 0, none⟩ = some (.slice A5 m5 c5) := ha.cell 0
  obtain ⟨v7, hr7, d0, d1, d2, _, _⟩ := h.cells
  obtain ⟨A7, c7, rfl⟩ : ∃ A c, v7 = .slice A l5.length c := by
    rcases hr7 with ⟨rfl, rfl⟩ | ⟨b, o, cap, rfl, _, _⟩ <;> exact ⟨_, _, rfl⟩
  have HR := hid (Kd.R_lower (base' := w.heap.size) hR (by omega))
  clear HB
  have HB := hid hbb
  clear hbb ha hm h hr7 hR
  cases b5 with
  | true =>
    go_wp2
    go_ret2
    rw [show unR (x, l5, true) = none from if_pos (.inl rfl)]
    exact ⟨_, rfl, Kd.R_nil _ _ _ _ _, HB.out⟩
  | false =>
    by_cases h5 : 0 < l5.length
    · have t1 : decide ((0 : Int) < (l5.length : Int)) = true := decide_eq_true (by omega)
      have t2 : decide (0 < l5.length) = true := decide_eq_true h5
      go_wp2
      go_ret2
      rw [show unR (x, l5, false) = none from if_pos (.inr h5)]
      exact ⟨_, rfl, Kd.R_nil _ _ _ _ _, HB.out⟩
    · have h50 : l5 = [] := List.eq_nil_of_length_eq_zero (by omega)
      subst h50
      have t1 : decide ((0 : Int) < ((([] : List UInt8).length : Nat) : Int)) = false := rfl
      go_wp2
      go_ret2
      rw [show unR (x, ([] : List UInt8), false) = some x from if_neg (by simp)]
      exact ⟨_, rfl, HR.out, HB.out⟩
set_option maxHeartbeats 2000000 in
theorem toKeys_any (w : World) (v : Value) (l : List UInt8) (hr : ReadsB w v l) (hl : l.length ≤ 1099511627776) :
    Calls Tryd.prog 19 #[v] w (UK (unR (listR keyR l false)) w) := by
  have HC := hid (unpackKeys_any w v l hr hl)
  clear hr
  go_enter Tryd.func19, Tryd.ntmps19
  go_wp2_with (go_at_call 55; refine HC.out.mono ?_)
  intro e w5 hq
  obtain ⟨v3, rfl, hR, hb⟩ := hq
  have HR := hid hR
  have HB := hid hb
  obtain ⟨ev, hev⟩ : ∃ ev, errV (unR (listR keyR l false)).isSome = ev := ⟨_, rfl⟩
  rw [hev]
  have HEV := hid hev
  clear hR hb hev
  go_wp2
  go_ret2
  exact ⟨_, by rw [HEV.out]; rfl, HR.out, HB.out⟩
end Go.Proofs.YtcgjacffemjehaaDoor

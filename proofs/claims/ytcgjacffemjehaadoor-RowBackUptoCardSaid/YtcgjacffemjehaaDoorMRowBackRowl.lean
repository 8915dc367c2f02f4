/-
  RowReadFamily, RowReadRefresh, RowReadAccess, RowReadResource, RowReadTicket, RowReadKeys: this proof's parts in one text.
-/
import Derived.Test.YtcgjacffemjehaaDoorMRowBackRowd
import Derived.Test.YtcgjacffemjehaaDoorMRowBackRowe
import Derived.Test.YtcgjacffemjehaaDoorMRowBackRowf
namespace Go.Proofs.YtcgjacffemjehaaDoor
open Go.RowKit
open Go.Proofs.YtcgjacffemjehaaDoorW.PrintWords (Kd rdOf results_ct)
open Go.Proofs.YtcgjacffemjehaaDoor.PRowReads
set_option linter.unusedVariables false
set_option maxHeartbeats 8000000 in
set_option maxRecDepth 100000 in
theorem readFamily (w : World) (hg : ErrorType w) (s : ByteArray) (hs : s.size ≤ 1099511627776) :
    Calls Tryd.prog 6 #[.int .i64 3, .string s] w (ReadPost (rowFamily ((unR (familyR s.data.toList false)).getD z29)) (unR (familyR s.data.toList false)).isSome w) := by
  have kc := fun (w : World) => Lib.run_convert_string_bytes (P := Tryd.prog) w 9 49 5 s Tryd.underlying9 Tryd.underlying49 Tryd.underlying5
  have hb2 : Below w.heap.size w ((w.alloc (.cells rowZ 41)).alloc (.cells (rowK 3) 41)) := ((Below.refl w.heap.size w).alloc (Nat.le_refl _) _).alloc (by simp) _
  have hs2 : ((w.alloc (.cells rowZ 41)).alloc (.cells (rowK 3) 41)).heap.size = w.heap.size + 1 + 1 := by simp
  have ha0 : AtB ((w.alloc (.cells rowZ 41)).alloc (.cells (rowK 3) 41)) w.heap.size 41 rowZ := (at_make rfl).alloc _
  have ha1 : AtB ((w.alloc (.cells rowZ 41)).alloc (.cells (rowK 3) 41)) (w.heap.size + 1) 41 (rowK 3) := at_make (by simp)
  obtain ⟨o, ho⟩ : ∃ o, unR (familyR s.data.toList false) = o := ⟨_, rfl⟩
  have hrw := reads_world ((w.alloc (.cells rowZ 41)).alloc (.cells (rowK 3) 41)) 5 s
  rw [str_len, hs2] at hrw
  have hb3 := below_bytes ((w.alloc (.cells rowZ 41)).alloc (.cells (rowK 3) 41)) 5 s
  have hc := toFamily_any _ _ _ hrw (by rw [str_len]; exact hs)
  rw [ho] at hc ⊢
  have HC := hid hc
  have HB3 := hid (below_then hb2 hb3)
  have HA0 := hid ((hb3.block _ (lt_of_heap ha0)).trans ha0 : AtB _ w.heap.size 41 rowZ)
  have HA1 := hid ((hb3.block _ (lt_of_heap ha1)).trans ha1 : AtB _ (w.heap.size + 1) 41 (rowK 3))
  have HG := hid hg
  have HGL := hid hg.lt
  clear hb2 hs2 ha0 ha1 hrw hb3 hc hg ho
  go_enter Tryd.func6, Tryd.ntmps6
  go_wp2_with (first | (refine wpList_allocTo rfl (some 4) rfl _ _ (run_allocRow _ _ rfl _) ?_) | (refine wpList_allocTo rfl (some 6) rfl _ _ (run_allocRow _ _ rfl _) ?_) | (refine wpList_buildTo rfl 41 _ rfl (some 10) rfl (rowK 3) (by kernel_rfl) ?_) | (refine wpList_store_new rfl 41 (.tmp 6) (.tmp 10) rfl rfl (w.alloc (.cells rowZ 41)) 41 rowZ (rowK 3) rfl (by simp only [World.size_alloc]; rfl) rfl (by kernel_rfl) (by kernel_rfl) (by kernel_rfl) ?_))
  go_at_call 15
  refine HC.out.mono ?_
  clear HC
  intro e w5 hq
  obtain ⟨cs3, rfl, hM, hb⟩ := hq
  obtain ⟨y, hy⟩ : ∃ y, o.getD z29 = y := ⟨_, rfl⟩
  rw [hy] at hM ⊢
  obtain ⟨v3, rfl, g3⟩ := k29_openM hM
  obtain ⟨A3, m3, c3, rfl⟩ := r_form g3
  have HM := hid (k29.M_bound hM)
  obtain ⟨oks, hoks⟩ : ∃ b, o.isSome = b := ⟨_, rfl⟩
  obtain ⟨nn, hnn⟩ : ∃ n : Int, (if oks = true then 0 else 170) = n := ⟨_, rfl⟩
  have HNN := hid hnn
  have HOK := hid hoks
  rw [hoks]
  obtain ⟨ev, hev⟩ : ∃ ev, errV oks = ev := ⟨_, rfl⟩
  rw [hev]
  have HEV := hid hev
  have hle : w.heap.size + 1 + 1 ≤ (Lib.bytesWorld ((w.alloc (.cells rowZ 41)).alloc (.cells (rowK 3) 41)) 5 s).heap.size := by have := HB3.out.size; rw [Lib.bytesWorld_size]; simp
  have HLE := hid hle
  have HA0' := hid ((hb.block _ (lt_of_heap HA0.out)).trans HA0.out : AtB w5 w.heap.size 41 rowZ)
  have hA1 : AtB w5 (w.heap.size + 1) 41 (rowK 3) := (hb.block _ (lt_of_heap HA1.out)).trans HA1.out
  have HB5 := hid (below_then HB3.out hb)
  have HG5 := hid (HG.out.below HB5.out HG.out.lt)
  have hc13 : ∃ u, w5.cell? ⟨w.heap.size + 1, 13, none⟩ = some u := ⟨_, (hA1.cell 13).trans rfl⟩
  obtain ⟨u13, hu13⟩ := hc13
  have hf13 := hA1.free 13
  have hc14 : ∃ u, w5.cell? ⟨w.heap.size + 1, 14, none⟩ = some u := ⟨_, (hA1.cell 14).trans rfl⟩
  obtain ⟨u14, hu14⟩ := hc14
  have hf14 := hA1.free 14
  have hc15 : ∃ u, w5.cell? ⟨w.heap.size + 1, 15, none⟩ = some u := ⟨_, (hA1.cell 15).trans rfl⟩
  obtain ⟨u15, hu15⟩ := hc15
  have hf15 := hA1.free 15
  have hc16 : ∃ u, w5.cell? ⟨w.heap.size + 1, 16, none⟩ = some u := ⟨_, (hA1.cell 16).trans rfl⟩
  obtain ⟨u16, hu16⟩ := hc16
  have hf16 := hA1.free 16
  have hc17 : ∃ u, w5.cell? ⟨w.heap.size + 1, 17, none⟩ = some u := ⟨_, (hA1.cell 17).trans rfl⟩
  obtain ⟨u17, hu17⟩ := hc17
  have hf17 := hA1.free 17
  have hc18 : ∃ u, w5.cell? ⟨w.heap.size + 1, 18, none⟩ = some u := ⟨_, (hA1.cell 18).trans rfl⟩
  obtain ⟨u18, hu18⟩ := hc18
  have hf18 := hA1.free 18
  have hc19 : ∃ u, w5.cell? ⟨w.heap.size + 1, 19, none⟩ = some u := ⟨_, (hA1.cell 19).trans rfl⟩
  obtain ⟨u19, hu19⟩ := hc19
  have hf19 := hA1.free 19
  have HA1' := hid hA1
  clear hb hM hev hoks hnn hA1 HA0 HA1 HB3 HG hle g3
  go_wp2_with fail
  have q : AtB (((((((w5.setCell ⟨w.heap.size + 1, 13, none⟩ (.string y.f0)).setCell ⟨w.heap.size + 1, 14, none⟩ (.string y.f1)).setCell ⟨w.heap.size + 1, 15, none⟩ (.string y.f2)).setCell ⟨w.heap.size + 1, 16, none⟩ (.slice A3 m3 c3)).setCell ⟨w.heap.size + 1, 17, none⟩ (.int .i64 y.f4)).setCell ⟨w.heap.size + 1, 18, none⟩ (.int .i64 y.f5)).setCell ⟨w.heap.size + 1, 19, none⟩ (.bool y.f6)) (w.heap.size + 1) 41 ((((((((rowK 3).setIfInBounds 13 (.string y.f0)).setIfInBounds 14 (.string y.f1)).setIfInBounds 15 (.string y.f2)).setIfInBounds 16 (.slice A3 m3 c3)).setIfInBounds 17 (.int .i64 y.f4)).setIfInBounds 18 (.int .i64 y.f5)).setIfInBounds 19 (.bool y.f6)) := ((((((((HA1'.out).set 13 (.string y.f0)).set 14 (.string y.f1)).set 15 (.string y.f2)).set 16 (.slice A3 m3 c3)).set 17 (.int .i64 y.f4)).set 18 (.int .i64 y.f5)).set 19 (.bool y.f6))
  have hmod : Mod (fun k => k = w.heap.size + 1) w5 (((((((w5.setCell ⟨w.heap.size + 1, 13, none⟩ (.string y.f0)).setCell ⟨w.heap.size + 1, 14, none⟩ (.string y.f1)).setCell ⟨w.heap.size + 1, 15, none⟩ (.string y.f2)).setCell ⟨w.heap.size + 1, 16, none⟩ (.slice A3 m3 c3)).setCell ⟨w.heap.size + 1, 17, none⟩ (.int .i64 y.f4)).setCell ⟨w.heap.size + 1, 18, none⟩ (.int .i64 y.f5)).setCell ⟨w.heap.size + 1, 19, none⟩ (.bool y.f6)) := (((((((Mod.refl (fun k => k = w.heap.size + 1) w5).setCell ⟨w.heap.size + 1, 13, none⟩ (.string y.f0) (.inl rfl)).setCell ⟨w.heap.size + 1, 14, none⟩ (.string y.f1) (.inl rfl)).setCell ⟨w.heap.size + 1, 15, none⟩ (.string y.f2) (.inl rfl)).setCell ⟨w.heap.size + 1, 16, none⟩ (.slice A3 m3 c3) (.inl rfl)).setCell ⟨w.heap.size + 1, 17, none⟩ (.int .i64 y.f4) (.inl rfl)).setCell ⟨w.heap.size + 1, 18, none⟩ (.int .i64 y.f5) (.inl rfl)).setCell ⟨w.heap.size + 1, 19, none⟩ (.bool y.f6) (.inl rfl)
  obtain ⟨W6, hW6⟩ : ∃ W, (((((((w5.setCell ⟨w.heap.size + 1, 13, none⟩ (.string y.f0)).setCell ⟨w.heap.size + 1, 14, none⟩ (.string y.f1)).setCell ⟨w.heap.size + 1, 15, none⟩ (.string y.f2)).setCell ⟨w.heap.size + 1, 16, none⟩ (.slice A3 m3 c3)).setCell ⟨w.heap.size + 1, 17, none⟩ (.int .i64 y.f4)).setCell ⟨w.heap.size + 1, 18, none⟩ (.int .i64 y.f5)).setCell ⟨w.heap.size + 1, 19, none⟩ (.bool y.f6)) = W := ⟨_, rfl⟩
  obtain ⟨V, hV⟩ : ∃ V, ((((((((rowK 3).setIfInBounds 13 (.string y.f0)).setIfInBounds 14 (.string y.f1)).setIfInBounds 15 (.string y.f2)).setIfInBounds 16 (.slice A3 m3 c3)).setIfInBounds 17 (.int .i64 y.f4)).setIfInBounds 18 (.int .i64 y.f5)).setIfInBounds 19 (.bool y.f6)) = V := ⟨_, rfl⟩
  rw [hW6] at q hmod ⊢
  rw [hV] at q
  have hVs : V.size = 46 := by rw [← hV]; simp only [Array.size_setIfInBounds]; exact rowK_size 3
  have HQ := hid q
  have HMO := hid hmod
  have HVV := hid hV
  have hg6 : ErrorType W6 := hmod.cell HG5.out (show ¬ (0 = w.heap.size + 1) by have := HGL.out; omega)
  have hb6 : Below w.heap.size w W6 := HB5.out.trans (hmod.below (by have := HB5.out.size; omega) (fun x e => by omega))
  have hz6 : AtB W6 w.heap.size 41 rowZ := hmod.heap HA0'.out (by omega)
  have HG6 := hid hg6
  have HZ6 := hid hz6
  have HB6 := hid hb6
  clear hg6 hz6 hb6 hmod hV hW6
  have LT : 0 < V.toList.length := by rw [Array.length_toList]; omega
  have hi : (Tryd.prog.info? 41).map (·.size) = some V.toList.length := by rw [Array.length_toList, hVs]; exact rowInfo
  have hrA : W6.drew.rangeAt (w.heap.size + 1) 0 V.toList := (World.rangeAt_drew _ _ _ _).2 (range_of_atB q)
  refine wp_region_held_drew (S := fun W => Below w.heap.size w W ∧ W.rangeAt (w.heap.size + 1) 0 V.toList) (by kernel_rfl) ⟨Below.drew HB6.out, hrA⟩ (fun hHeld => ?_)
  refine wpAnyH_take (i := 0) (v := _) rfl (by kernel_rfl) (by kernel_rfl) (by kernel_rfl) (fun _ _ _ h => h) (yieldsIf_load_mid (by rfl) _ _ rfl (w.heap.size + 1) 0 rfl V.toList _ (fun W hW => hW.2) Tryd.underlying41 rfl hi) hHeld ?_
  try simp only [Act.put, List.setIfInBounds_toArray, Array.toArray_toList]
  refine wpAnyH_take (i := 1) (v := ev) rfl (by kernel_rfl) (by kernel_rfl) (by kernel_rfl) (fun _ _ _ h => h) (Or.inl ⟨by rfl, fun W hW => by go_simp⟩) hHeld ?_
  try simp only [Act.put]
  refine wpAnyH_ready (rs := [2]) (by kernel_rfl) (by simp) ?_
  refine AllReadyH.cons rfl (fun K hK => ?_) AllReadyH.nil
  go_simp
  have hN : Calls Tryd.prog 20 #[ev] W6.drew fun e w' => e = .returned (.int .i64 nn) ∧ Below W6.drew.heap.size W6.drew w' := by rw [← HEV.out, ← HNN.out]; exact num_errV W6.drew HG6.out oks
  refine hN.mono ?_
  clear hN
  rintro e w7 ⟨rfl, hb7⟩
  have hB7 := hHeld.1.trans (hb7.mono hHeld.1.size)
  have hR7 := range_of_below hb7 hHeld.2 LT
  have hz7 : AtB w7 w.heap.size 41 rowZ := (hb7.block w.heap.size (lt_of_heap HZ6.out)).trans HZ6.out
  have hm7 : Mod (fun k => k = w.heap.size + 1 ∨ k = w.heap.size) w5 w7 := (HMO.out.mono (fun _ _ e => .inl e)).trans (Mod.new (show Below W6.heap.size W6 w7 from ⟨hb7.os, hb7.tape, hb7.output, hb7.size, hb7.block⟩) (fun _ => False)) (fun _ e => e.elim)
  have HM7 := hid hm7
  have HZ7 := hid hz7
  clear hHeld hm7 hz7 hb7
  refine hK.out _ _ ⟨hB7, hR7⟩ (fun hHeld => ?_)
  clear hK K hB7
  try simp only [Act.put, List.setIfInBounds_toArray, List.set_cons_zero, List.set_cons_succ]
  refine wpAnyH_ready (rs := [3]) (by kernel_rfl) (by simp) ?_
  refine AllReadyH.cons rfl (fun K hK => ?_) AllReadyH.nil
  rw [if_pos (by rfl)]
  refine wp_store_row 41 (.tmp 4) (.tmp 78) rfl w.heap.size V rfl rfl 41 rowZ HZ7.out (by rw [hVs]; exact rowInfo) (by rw [hVs]; rfl) (by rw [← HVV.out]; kernel_rfl) ?_
  have hm8 : Mod (fun k => k = w.heap.size + 1 ∨ k = w.heap.size) w5 (w7.setRow w.heap.size V) := HM7.out.trans (mod_setRow w7 w.heap.size V) (fun _ e => .inl (.inr e))
  have hB8 : Below w.heap.size w (w7.setRow w.heap.size V) := hHeld.1.trans ((mod_setRow w7 w.heap.size V).below hHeld.1.size (fun x e => by omega))
  have hR8 : (w7.setRow w.heap.size V).rangeAt (w.heap.size + 1) 0 V.toList := fun j v hv => (mod_setRow w7 w.heap.size V).cell (hHeld.2 j v hv) (show ¬ (w.heap.size + 1 = w.heap.size) by omega)
  have hz8 : AtB (w7.setRow w.heap.size V) w.heap.size 41 V := at_setRow HZ7.out V
  generalize w7.setRow w.heap.size V = w8 at hm8 hB8 hR8 hz8 ⊢
  clear hHeld
  refine hK.out _ _ ⟨hB8, hR8⟩ (fun hHeld => ?_)
  clear hK K
  try simp only [Act.put, List.setIfInBounds_toArray]
  refine wpAnyH_ready (rs := [4]) (by kernel_rfl) (by simp) ?_
  refine AllReadyH.cons rfl (fun K hK => ?_) AllReadyH.nil
  go_simp
  refine hK.out _ _ hHeld (fun hHeld => ?_)
  clear hK K
  try simp only [Act.put, List.setIfInBounds_toArray, List.set_cons_zero, List.set_cons_succ]
  refine wpAnyH_done (by kernel_rfl) ?_ _
  have HBE := hid hB8
  have HZE := hid hz8
  have HME := hid hm8
  clear hHeld hB8 hR8 hz8 hm8 hrA
  go_wp2_with fail
  refine bodyPost_ret (results_ct rfl _ _ w.heap.size 41 V (0, 0) _ rfl HZE.out Tryd.underlying41 rfl (by rw [hVs]; exact rowInfo)) rfl ?_
  refine ⟨V.toList, by rw [Array.toArray_toList, HOK.out, HNN.out]; rfl, ?_, HBE.out⟩
  have hm9 : k29.M w8 w.heap.size (fun _ => True) y _ := up_mem HM.out (fun q hq e => by have := hq.2.1; have := HLE.out; omega) (by have := HLE.out; omega) HME.out
  obtain ⟨x3, e9, r3⟩ := k29_openM hm9
  cases e9
  have hfin := k41_mkM w8 w.heap.size (fun _ => True) (rowFamily y) (Kd.R_nil _ _ _ _ _) (Kd.R_nil _ _ _ _ _) r3 (Kd.R_nil _ _ _ _ _) (Kd.R_nil _ _ _ _ _) (Kd.R_nil _ _ _ _ _) (Kd.R_nil _ _ _ _ _) (Kd.R_nil _ _ _ _ _)
  have key : ∀ c c', c = c' → k41.M w8 w.heap.size (fun _ => True) (rowFamily y) c → k41.M w8 w.heap.size (fun _ => True) (rowFamily y) c' := fun _ _ e h => e ▸ h
  rw [← HVV.out, hy]
  exact key _ _ (by kernel_rfl) hfin
end Go.Proofs.YtcgjacffemjehaaDoor

namespace Go.Proofs.YtcgjacffemjehaaDoor
open Go.RowKit
open Go.Proofs.YtcgjacffemjehaaDoorW.PrintWords (Kd rdOf results_ct)
open Go.Proofs.YtcgjacffemjehaaDoor.PRowReads
set_option linter.unusedVariables false
set_option maxHeartbeats 8000000 in
set_option maxRecDepth 100000 in
theorem readRefresh (w : World) (hg : ErrorType w) (s : ByteArray) (hs : s.size ≤ 1099511627776) :
    Calls Tryd.prog 6 #[.int .i64 4, .string s] w (ReadPost (rowRefresh ((unR (refreshR s.data.toList false)).getD z31)) (unR (refreshR s.data.toList false)).isSome w) := by
  have kc := fun (w : World) => Lib.run_convert_string_bytes (P := Tryd.prog) w 9 49 5 s Tryd.underlying9 Tryd.underlying49 Tryd.underlying5
  have hb2 : Below w.heap.size w ((w.alloc (.cells rowZ 41)).alloc (.cells (rowK 4) 41)) := ((Below.refl w.heap.size w).alloc (Nat.le_refl _) _).alloc (by simp) _
  have hs2 : ((w.alloc (.cells rowZ 41)).alloc (.cells (rowK 4) 41)).heap.size = w.heap.size + 1 + 1 := by simp
  have ha0 : AtB ((w.alloc (.cells rowZ 41)).alloc (.cells (rowK 4) 41)) w.heap.size 41 rowZ := (at_make rfl).alloc _
  have ha1 : AtB ((w.alloc (.cells rowZ 41)).alloc (.cells (rowK 4) 41)) (w.heap.size + 1) 41 (rowK 4) := at_make (by simp)
  obtain ⟨o, ho⟩ : ∃ o, unR (refreshR s.data.toList false) = o := ⟨_, rfl⟩
  have hrw := reads_world ((w.alloc (.cells rowZ 41)).alloc (.cells (rowK 4) 41)) 5 s
  rw [str_len, hs2] at hrw
  have hb3 := below_bytes ((w.alloc (.cells rowZ 41)).alloc (.cells (rowK 4) 41)) 5 s
  have hc := toRefresh_any _ _ _ hrw (by rw [str_len]; exact hs)
  rw [ho] at hc ⊢
  have HC := hid hc
  have HB3 := hid (below_then hb2 hb3)
  have HA0 := hid ((hb3.block _ (lt_of_heap ha0)).trans ha0 : AtB _ w.heap.size 41 rowZ)
  have HA1 := hid ((hb3.block _ (lt_of_heap ha1)).trans ha1 : AtB _ (w.heap.size + 1) 41 (rowK 4))
  have HG := hid hg
  have HGL := hid hg.lt
  clear hb2 hs2 ha0 ha1 hrw hb3 hc hg ho
  go_enter Tryd.func6, Tryd.ntmps6
  go_wp2_with (first | (refine wpList_allocTo rfl (some 4) rfl _ _ (run_allocRow _ _ rfl _) ?_) | (refine wpList_allocTo rfl (some 6) rfl _ _ (run_allocRow _ _ rfl _) ?_) | (refine wpList_buildTo rfl 41 _ rfl (some 10) rfl (rowK 4) (by kernel_rfl) ?_) | (refine wpList_store_new rfl 41 (.tmp 6) (.tmp 10) rfl rfl (w.alloc (.cells rowZ 41)) 41 rowZ (rowK 4) rfl (by simp only [World.size_alloc]; rfl) rfl (by kernel_rfl) (by kernel_rfl) (by kernel_rfl) ?_))
  go_at_call 12
  refine HC.out.mono ?_
  clear HC
  intro e w5 hq
  obtain ⟨cs3, rfl, hM, hb⟩ := hq
  obtain ⟨y, hy⟩ : ∃ y, o.getD z31 = y := ⟨_, rfl⟩
  rw [hy] at hM ⊢
  obtain rfl := k31_openM hM
  have HM := hid (k31.M_bound hM)
  obtain ⟨oks, hoks⟩ : ∃ b, o.isSome = b := ⟨_, rfl⟩
  obtain ⟨nn, hnn⟩ : ∃ n : Int, (if oks = true then 0 else 170) = n := ⟨_, rfl⟩
  have HNN := hid hnn
  have HOK := hid hoks
  rw [hoks]
  obtain ⟨ev, hev⟩ : ∃ ev, errV oks = ev := ⟨_, rfl⟩
  rw [hev]
  have HEV := hid hev
  have hle : w.heap.size + 1 + 1 ≤ (Lib.bytesWorld ((w.alloc (.cells rowZ 41)).alloc (.cells (rowK 4) 41)) 5 s).heap.size := by have := HB3.out.size; rw [Lib.bytesWorld_size]; simp
  have HLE := hid hle
  have HA0' := hid ((hb.block _ (lt_of_heap HA0.out)).trans HA0.out : AtB w5 w.heap.size 41 rowZ)
  have hA1 : AtB w5 (w.heap.size + 1) 41 (rowK 4) := (hb.block _ (lt_of_heap HA1.out)).trans HA1.out
  have HB5 := hid (below_then HB3.out hb)
  have HG5 := hid (HG.out.below HB5.out HG.out.lt)
  have hc20 : ∃ u, w5.cell? ⟨w.heap.size + 1, 20, none⟩ = some u := ⟨_, (hA1.cell 20).trans rfl⟩
  obtain ⟨u20, hu20⟩ := hc20
  have hf20 := hA1.free 20
  have hc21 : ∃ u, w5.cell? ⟨w.heap.size + 1, 21, none⟩ = some u := ⟨_, (hA1.cell 21).trans rfl⟩
  obtain ⟨u21, hu21⟩ := hc21
  have hf21 := hA1.free 21
  have hc22 : ∃ u, w5.cell? ⟨w.heap.size + 1, 22, none⟩ = some u := ⟨_, (hA1.cell 22).trans rfl⟩
  obtain ⟨u22, hu22⟩ := hc22
  have hf22 := hA1.free 22
  have HA1' := hid hA1
  clear hb hM hev hoks hnn hA1 HA0 HA1 HB3 HG hle 
  go_wp2_with fail
  have q : AtB (((w5.setCell ⟨w.heap.size + 1, 20, none⟩ (.string y.f0)).setCell ⟨w.heap.size + 1, 21, none⟩ (.string y.f1)).setCell ⟨w.heap.size + 1, 22, none⟩ (.int .i64 y.f2)) (w.heap.size + 1) 41 ((((rowK 4).setIfInBounds 20 (.string y.f0)).setIfInBounds 21 (.string y.f1)).setIfInBounds 22 (.int .i64 y.f2)) := ((((HA1'.out).set 20 (.string y.f0)).set 21 (.string y.f1)).set 22 (.int .i64 y.f2))
  have hmod : Mod (fun k => k = w.heap.size + 1) w5 (((w5.setCell ⟨w.heap.size + 1, 20, none⟩ (.string y.f0)).setCell ⟨w.heap.size + 1, 21, none⟩ (.string y.f1)).setCell ⟨w.heap.size + 1, 22, none⟩ (.int .i64 y.f2)) := (((Mod.refl (fun k => k = w.heap.size + 1) w5).setCell ⟨w.heap.size + 1, 20, none⟩ (.string y.f0) (.inl rfl)).setCell ⟨w.heap.size + 1, 21, none⟩ (.string y.f1) (.inl rfl)).setCell ⟨w.heap.size + 1, 22, none⟩ (.int .i64 y.f2) (.inl rfl)
  obtain ⟨W6, hW6⟩ : ∃ W, (((w5.setCell ⟨w.heap.size + 1, 20, none⟩ (.string y.f0)).setCell ⟨w.heap.size + 1, 21, none⟩ (.string y.f1)).setCell ⟨w.heap.size + 1, 22, none⟩ (.int .i64 y.f2)) = W := ⟨_, rfl⟩
  obtain ⟨V, hV⟩ : ∃ V, ((((rowK 4).setIfInBounds 20 (.string y.f0)).setIfInBounds 21 (.string y.f1)).setIfInBounds 22 (.int .i64 y.f2)) = V := ⟨_, rfl⟩
  rw [hW6] at q hmod ⊢
  rw [hV] at q
  have hVs : V.size = 46 := by rw [← hV]; simp only [Array.size_setIfInBounds]; exact rowK_size 4
  have HQ := hid q
  have HMO := hid hmod
  have HVV := hid hV
  have hg6 : ErrorType W6 := hmod.cell HG5.out (show ¬ (0 = w.heap.size + 1) by have := HGL.out; omega)
  have hb6 : Below w.heap.size w W6 := HB5.out.trans (hmod.below (by have := HB5.out.size; omega) (fun x e => by omega))
  have hz6 : AtB W6 w.heap.size 41 rowZ := hmod.heap HA0'.out (by omega)
  have HG6 := hid hg6
  have HZ6 := hid hz6
  have HB6 := hid hb6
  clear hg6 hz6 hb6 hmod hV hW6
  have LT : 0 < V.toList.length := by rw [Array.length_toList]; omega
  have hi : (Tryd.prog.info? 41).map (·.size) = some V.toList.length := by rw [Array.length_toList, hVs]; exact rowInfo
  have hrA : W6.drew.rangeAt (w.heap.size + 1) 0 V.toList := (World.rangeAt_drew _ _ _ _).2 (range_of_atB q)
  refine wp_region_held_drew (S := fun W => Below w.heap.size w W ∧ W.rangeAt (w.heap.size + 1) 0 V.toList) (by kernel_rfl) ⟨Below.drew HB6.out, hrA⟩ (fun hHeld => ?_)
  refine wpAnyH_take (i := 0) (v := _) rfl (by kernel_rfl) (by kernel_rfl) (by kernel_rfl) (fun _ _ _ h => h) (yieldsIf_load_mid (by rfl) _ _ rfl (w.heap.size + 1) 0 rfl V.toList _ (fun W hW => hW.2) Tryd.underlying41 rfl hi) hHeld ?_
  try simp only [Act.put, List.setIfInBounds_toArray, Array.toArray_toList]
  refine wpAnyH_take (i := 1) (v := ev) rfl (by kernel_rfl) (by kernel_rfl) (by kernel_rfl) (fun _ _ _ h => h) (Or.inl ⟨by rfl, fun W hW => by go_simp⟩) hHeld ?_
  try simp only [Act.put]
  refine wpAnyH_ready (rs := [2]) (by kernel_rfl) (by simp) ?_
  refine AllReadyH.cons rfl (fun K hK => ?_) AllReadyH.nil
  go_simp
  have hN : Calls Tryd.prog 20 #[ev] W6.drew fun e w' => e = .returned (.int .i64 nn) ∧ Below W6.drew.heap.size W6.drew w' := by rw [← HEV.out, ← HNN.out]; exact num_errV W6.drew HG6.out oks
  refine hN.mono ?_
  clear hN
  rintro e w7 ⟨rfl, hb7⟩
  have hB7 := hHeld.1.trans (hb7.mono hHeld.1.size)
  have hR7 := range_of_below hb7 hHeld.2 LT
  have hz7 : AtB w7 w.heap.size 41 rowZ := (hb7.block w.heap.size (lt_of_heap HZ6.out)).trans HZ6.out
  have hm7 : Mod (fun k => k = w.heap.size + 1 ∨ k = w.heap.size) w5 w7 := (HMO.out.mono (fun _ _ e => .inl e)).trans (Mod.new (show Below W6.heap.size W6 w7 from ⟨hb7.os, hb7.tape, hb7.output, hb7.size, hb7.block⟩) (fun _ => False)) (fun _ e => e.elim)
  have HM7 := hid hm7
  have HZ7 := hid hz7
  clear hHeld hm7 hz7 hb7
  refine hK.out _ _ ⟨hB7, hR7⟩ (fun hHeld => ?_)
  clear hK K hB7
  try simp only [Act.put, List.setIfInBounds_toArray, List.set_cons_zero, List.set_cons_succ]
  refine wpAnyH_ready (rs := [3]) (by kernel_rfl) (by simp) ?_
  refine AllReadyH.cons rfl (fun K hK => ?_) AllReadyH.nil
  rw [if_pos (by rfl)]
  refine wp_store_row 41 (.tmp 4) (.tmp 78) rfl w.heap.size V rfl rfl 41 rowZ HZ7.out (by rw [hVs]; exact rowInfo) (by rw [hVs]; rfl) (by rw [← HVV.out]; kernel_rfl) ?_
  have hm8 : Mod (fun k => k = w.heap.size + 1 ∨ k = w.heap.size) w5 (w7.setRow w.heap.size V) := HM7.out.trans (mod_setRow w7 w.heap.size V) (fun _ e => .inl (.inr e))
  have hB8 : Below w.heap.size w (w7.setRow w.heap.size V) := hHeld.1.trans ((mod_setRow w7 w.heap.size V).below hHeld.1.size (fun x e => by omega))
  have hR8 : (w7.setRow w.heap.size V).rangeAt (w.heap.size + 1) 0 V.toList := fun j v hv => (mod_setRow w7 w.heap.size V).cell (hHeld.2 j v hv) (show ¬ (w.heap.size + 1 = w.heap.size) by omega)
  have hz8 : AtB (w7.setRow w.heap.size V) w.heap.size 41 V := at_setRow HZ7.out V
  generalize w7.setRow w.heap.size V = w8 at hm8 hB8 hR8 hz8 ⊢
  clear hHeld
  refine hK.out _ _ ⟨hB8, hR8⟩ (fun hHeld => ?_)
  clear hK K
  try simp only [Act.put, List.setIfInBounds_toArray]
  refine wpAnyH_ready (rs := [4]) (by kernel_rfl) (by simp) ?_
  refine AllReadyH.cons rfl (fun K hK => ?_) AllReadyH.nil
  go_simp
  refine hK.out _ _ hHeld (fun hHeld => ?_)
  clear hK K
  try simp only [Act.put, List.setIfInBounds_toArray, List.set_cons_zero, List.set_cons_succ]
  refine wpAnyH_done (by kernel_rfl) ?_ _
  have HBE := hid hB8
  have HZE := hid hz8
  have HME := hid hm8
  clear hHeld hB8 hR8 hz8 hm8 hrA
  go_wp2_with fail
  refine bodyPost_ret (results_ct rfl _ _ w.heap.size 41 V (0, 0) _ rfl HZE.out Tryd.underlying41 rfl (by rw [hVs]; exact rowInfo)) rfl ?_
  refine ⟨V.toList, by rw [Array.toArray_toList, HOK.out, HNN.out]; rfl, ?_, HBE.out⟩
  have hm9 : k31.M w8 w.heap.size (fun _ => True) y _ := up_mem HM.out (fun q hq e => by have := hq.2.1; have := HLE.out; omega) (by have := HLE.out; omega) HME.out
  have hfin := k41_mkM w8 w.heap.size (fun _ => True) (rowRefresh y) (Kd.R_nil _ _ _ _ _) (Kd.R_nil _ _ _ _ _) (Kd.R_nil _ _ _ _ _) (Kd.R_nil _ _ _ _ _) (Kd.R_nil _ _ _ _ _) (Kd.R_nil _ _ _ _ _) (Kd.R_nil _ _ _ _ _) (Kd.R_nil _ _ _ _ _)
  have key : ∀ c c', c = c' → k41.M w8 w.heap.size (fun _ => True) (rowRefresh y) c → k41.M w8 w.heap.size (fun _ => True) (rowRefresh y) c' := fun _ _ e h => e ▸ h
  rw [← HVV.out, hy]
  exact key _ _ (by kernel_rfl) hfin
end Go.Proofs.YtcgjacffemjehaaDoor

namespace Go.Proofs.YtcgjacffemjehaaDoor
open Go.RowKit
open Go.Proofs.YtcgjacffemjehaaDoorW.PrintWords (Kd rdOf results_ct)
open Go.Proofs.YtcgjacffemjehaaDoor.PRowReads
set_option linter.unusedVariables false
set_option maxHeartbeats 8000000 in
set_option maxRecDepth 100000 in
theorem readAccess (w : World) (hg : ErrorType w) (s : ByteArray) (hs : s.size ≤ 1099511627776) :
    Calls Tryd.prog 6 #[.int .i64 5, .string s] w (ReadPost (rowAccess ((unR (accessR s.data.toList false)).getD z34)) (unR (accessR s.data.toList false)).isSome w) := by
  have kc := fun (w : World) => Lib.run_convert_string_bytes (P := Tryd.prog) w 9 49 5 s Tryd.underlying9 Tryd.underlying49 Tryd.underlying5
  have hb2 : Below w.heap.size w ((w.alloc (.cells rowZ 41)).alloc (.cells (rowK 5) 41)) := ((Below.refl w.heap.size w).alloc (Nat.le_refl _) _).alloc (by simp) _
  have hs2 : ((w.alloc (.cells rowZ 41)).alloc (.cells (rowK 5) 41)).heap.size = w.heap.size + 1 + 1 := by simp
  have ha0 : AtB ((w.alloc (.cells rowZ 41)).alloc (.cells (rowK 5) 41)) w.heap.size 41 rowZ := (at_make rfl).alloc _
  have ha1 : AtB ((w.alloc (.cells rowZ 41)).alloc (.cells (rowK 5) 41)) (w.heap.size + 1) 41 (rowK 5) := at_make (by simp)
  obtain ⟨o, ho⟩ : ∃ o, unR (accessR s.data.toList false) = o := ⟨_, rfl⟩
  have hrw := reads_world ((w.alloc (.cells rowZ 41)).alloc (.cells (rowK 5) 41)) 5 s
  rw [str_len, hs2] at hrw
  have hb3 := below_bytes ((w.alloc (.cells rowZ 41)).alloc (.cells (rowK 5) 41)) 5 s
  have hc := toAccess_any _ _ _ hrw (by rw [str_len]; exact hs)
  rw [ho] at hc ⊢
  have HC := hid hc
  have HB3 := hid (below_then hb2 hb3)
  have HA0 := hid ((hb3.block _ (lt_of_heap ha0)).trans ha0 : AtB _ w.heap.size 41 rowZ)
  have HA1 := hid ((hb3.block _ (lt_of_heap ha1)).trans ha1 : AtB _ (w.heap.size + 1) 41 (rowK 5))
  have HG := hid hg
  have HGL := hid hg.lt
  clear hb2 hs2 ha0 ha1 hrw hb3 hc hg ho
  go_enter Tryd.func6, Tryd.ntmps6
  go_wp2_with (first | (refine wpList_allocTo rfl (some 4) rfl _ _ (run_allocRow _ _ rfl _) ?_) | (refine wpList_allocTo rfl (some 6) rfl _ _ (run_allocRow _ _ rfl _) ?_) | (refine wpList_buildTo rfl 41 _ rfl (some 10) rfl (rowK 5) (by kernel_rfl) ?_) | (refine wpList_store_new rfl 41 (.tmp 6) (.tmp 10) rfl rfl (w.alloc (.cells rowZ 41)) 41 rowZ (rowK 5) rfl (by simp only [World.size_alloc]; rfl) rfl (by kernel_rfl) (by kernel_rfl) (by kernel_rfl) ?_))
  go_at_call 16
  refine HC.out.mono ?_
  clear HC
  intro e w5 hq
  obtain ⟨cs3, rfl, hM, hb⟩ := hq
  obtain ⟨y, hy⟩ : ∃ y, o.getD z34 = y := ⟨_, rfl⟩
  rw [hy] at hM ⊢
  obtain ⟨v5, v6, rfl, g5, g6⟩ := k34_openM hM
  obtain ⟨A5, m5, c5, rfl⟩ := r_form g5
  obtain ⟨A6, m6, c6, rfl⟩ := r_form g6
  have HM := hid (k34.M_bound hM)
  obtain ⟨oks, hoks⟩ : ∃ b, o.isSome = b := ⟨_, rfl⟩
  obtain ⟨nn, hnn⟩ : ∃ n : Int, (if oks = true then 0 else 170) = n := ⟨_, rfl⟩
  have HNN := hid hnn
  have HOK := hid hoks
  rw [hoks]
  obtain ⟨ev, hev⟩ : ∃ ev, errV oks = ev := ⟨_, rfl⟩
  rw [hev]
  have HEV := hid hev
  have hle : w.heap.size + 1 + 1 ≤ (Lib.bytesWorld ((w.alloc (.cells rowZ 41)).alloc (.cells (rowK 5) 41)) 5 s).heap.size := by have := HB3.out.size; rw [Lib.bytesWorld_size]; simp
  have HLE := hid hle
  have HA0' := hid ((hb.block _ (lt_of_heap HA0.out)).trans HA0.out : AtB w5 w.heap.size 41 rowZ)
  have hA1 : AtB w5 (w.heap.size + 1) 41 (rowK 5) := (hb.block _ (lt_of_heap HA1.out)).trans HA1.out
  have HB5 := hid (below_then HB3.out hb)
  have HG5 := hid (HG.out.below HB5.out HG.out.lt)
  have hc23 : ∃ u, w5.cell? ⟨w.heap.size + 1, 23, none⟩ = some u := ⟨_, (hA1.cell 23).trans rfl⟩
  obtain ⟨u23, hu23⟩ := hc23
  have hf23 := hA1.free 23
  have hc24 : ∃ u, w5.cell? ⟨w.heap.size + 1, 24, none⟩ = some u := ⟨_, (hA1.cell 24).trans rfl⟩
  obtain ⟨u24, hu24⟩ := hc24
  have hf24 := hA1.free 24
  have hc25 : ∃ u, w5.cell? ⟨w.heap.size + 1, 25, none⟩ = some u := ⟨_, (hA1.cell 25).trans rfl⟩
  obtain ⟨u25, hu25⟩ := hc25
  have hf25 := hA1.free 25
  have hc26 : ∃ u, w5.cell? ⟨w.heap.size + 1, 26, none⟩ = some u := ⟨_, (hA1.cell 26).trans rfl⟩
  obtain ⟨u26, hu26⟩ := hc26
  have hf26 := hA1.free 26
  have hc27 : ∃ u, w5.cell? ⟨w.heap.size + 1, 27, none⟩ = some u := ⟨_, (hA1.cell 27).trans rfl⟩
  obtain ⟨u27, hu27⟩ := hc27
  have hf27 := hA1.free 27
  have hc28 : ∃ u, w5.cell? ⟨w.heap.size + 1, 28, none⟩ = some u := ⟨_, (hA1.cell 28).trans rfl⟩
  obtain ⟨u28, hu28⟩ := hc28
  have hf28 := hA1.free 28
  have hc29 : ∃ u, w5.cell? ⟨w.heap.size + 1, 29, none⟩ = some u := ⟨_, (hA1.cell 29).trans rfl⟩
  obtain ⟨u29, hu29⟩ := hc29
  have hf29 := hA1.free 29
  have hc30 : ∃ u, w5.cell? ⟨w.heap.size + 1, 30, none⟩ = some u := ⟨_, (hA1.cell 30).trans rfl⟩
  obtain ⟨u30, hu30⟩ := hc30
  have hf30 := hA1.free 30
  have hc31 : ∃ u, w5.cell? ⟨w.heap.size + 1, 31, none⟩ = some u := ⟨_, (hA1.cell 31).trans rfl⟩
  obtain ⟨u31, hu31⟩ := hc31
  have hf31 := hA1.free 31
  have hc32 : ∃ u, w5.cell? ⟨w.heap.size + 1, 32, none⟩ = some u := ⟨_, (hA1.cell 32).trans rfl⟩
  obtain ⟨u32, hu32⟩ := hc32
  have hf32 := hA1.free 32
  have HA1' := hid hA1
  clear hb hM hev hoks hnn hA1 HA0 HA1 HB3 HG hle g5 g6
  go_wp2_with fail
  have q : AtB ((((((((((w5.setCell ⟨w.heap.size + 1, 23, none⟩ (.string y.f0)).setCell ⟨w.heap.size + 1, 24, none⟩ (.string y.f1)).setCell ⟨w.heap.size + 1, 25, none⟩ (.string y.f2)).setCell ⟨w.heap.size + 1, 26, none⟩ (.string y.f3)).setCell ⟨w.heap.size + 1, 27, none⟩ (.string y.f4)).setCell ⟨w.heap.size + 1, 28, none⟩ (.slice A5 m5 c5)).setCell ⟨w.heap.size + 1, 29, none⟩ (.slice A6 m6 c6)).setCell ⟨w.heap.size + 1, 30, none⟩ (.int .i64 y.f7)).setCell ⟨w.heap.size + 1, 31, none⟩ (.int .i64 y.f8)).setCell ⟨w.heap.size + 1, 32, none⟩ (.bool y.f9)) (w.heap.size + 1) 41 (((((((((((rowK 5).setIfInBounds 23 (.string y.f0)).setIfInBounds 24 (.string y.f1)).setIfInBounds 25 (.string y.f2)).setIfInBounds 26 (.string y.f3)).setIfInBounds 27 (.string y.f4)).setIfInBounds 28 (.slice A5 m5 c5)).setIfInBounds 29 (.slice A6 m6 c6)).setIfInBounds 30 (.int .i64 y.f7)).setIfInBounds 31 (.int .i64 y.f8)).setIfInBounds 32 (.bool y.f9)) := (((((((((((HA1'.out).set 23 (.string y.f0)).set 24 (.string y.f1)).set 25 (.string y.f2)).set 26 (.string y.f3)).set 27 (.string y.f4)).set 28 (.slice A5 m5 c5)).set 29 (.slice A6 m6 c6)).set 30 (.int .i64 y.f7)).set 31 (.int .i64 y.f8)).set 32 (.bool y.f9))
  have hmod : Mod (fun k => k = w.heap.size + 1) w5 ((((((((((w5.setCell ⟨w.heap.size + 1, 23, none⟩ (.string y.f0)).setCell ⟨w.heap.size + 1, 24, none⟩ (.string y.f1)).setCell ⟨w.heap.size + 1, 25, none⟩ (.string y.f2)).setCell ⟨w.heap.size + 1, 26, none⟩ (.string y.f3)).setCell ⟨w.heap.size + 1, 27, none⟩ (.string y.f4)).setCell ⟨w.heap.size + 1, 28, none⟩ (.slice A5 m5 c5)).setCell ⟨w.heap.size + 1, 29, none⟩ (.slice A6 m6 c6)).setCell ⟨w.heap.size + 1, 30, none⟩ (.int .i64 y.f7)).setCell ⟨w.heap.size + 1, 31, none⟩ (.int .i64 y.f8)).setCell ⟨w.heap.size + 1, 32, none⟩ (.bool y.f9)) := ((((((((((Mod.refl (fun k => k = w.heap.size + 1) w5).setCell ⟨w.heap.size + 1, 23, none⟩ (.string y.f0) (.inl rfl)).setCell ⟨w.heap.size + 1, 24, none⟩ (.string y.f1) (.inl rfl)).setCell ⟨w.heap.size + 1, 25, none⟩ (.string y.f2) (.inl rfl)).setCell ⟨w.heap.size + 1, 26, none⟩ (.string y.f3) (.inl rfl)).setCell ⟨w.heap.size + 1, 27, none⟩ (.string y.f4) (.inl rfl)).setCell ⟨w.heap.size + 1, 28, none⟩ (.slice A5 m5 c5) (.inl rfl)).setCell ⟨w.heap.size + 1, 29, none⟩ (.slice A6 m6 c6) (.inl rfl)).setCell ⟨w.heap.size + 1, 30, none⟩ (.int .i64 y.f7) (.inl rfl)).setCell ⟨w.heap.size + 1, 31, none⟩ (.int .i64 y.f8) (.inl rfl)).setCell ⟨w.heap.size + 1, 32, none⟩ (.bool y.f9) (.inl rfl)
  obtain ⟨W6, hW6⟩ : ∃ W, ((((((((((w5.setCell ⟨w.heap.size + 1, 23, none⟩ (.string y.f0)).setCell ⟨w.heap.size + 1, 24, none⟩ (.string y.f1)).setCell ⟨w.heap.size + 1, 25, none⟩ (.string y.f2)).setCell ⟨w.heap.size + 1, 26, none⟩ (.string y.f3)).setCell ⟨w.heap.size + 1, 27, none⟩ (.string y.f4)).setCell ⟨w.heap.size + 1, 28, none⟩ (.slice A5 m5 c5)).setCell ⟨w.heap.size + 1, 29, none⟩ (.slice A6 m6 c6)).setCell ⟨w.heap.size + 1, 30, none⟩ (.int .i64 y.f7)).setCell ⟨w.heap.size + 1, 31, none⟩ (.int .i64 y.f8)).setCell ⟨w.heap.size + 1, 32, none⟩ (.bool y.f9)) = W := ⟨_, rfl⟩
  obtain ⟨V, hV⟩ : ∃ V, (((((((((((rowK 5).setIfInBounds 23 (.string y.f0)).setIfInBounds 24 (.string y.f1)).setIfInBounds 25 (.string y.f2)).setIfInBounds 26 (.string y.f3)).setIfInBounds 27 (.string y.f4)).setIfInBounds 28 (.slice A5 m5 c5)).setIfInBounds 29 (.slice A6 m6 c6)).setIfInBounds 30 (.int .i64 y.f7)).setIfInBounds 31 (.int .i64 y.f8)).setIfInBounds 32 (.bool y.f9)) = V := ⟨_, rfl⟩
  rw [hW6] at q hmod ⊢
  rw [hV] at q
  have hVs : V.size = 46 := by rw [← hV]; simp only [Array.size_setIfInBounds]; exact rowK_size 5
  have HQ := hid q
  have HMO := hid hmod
  have HVV := hid hV
  have hg6 : ErrorType W6 := hmod.cell HG5.out (show ¬ (0 = w.heap.size + 1) by have := HGL.out; omega)
  have hb6 : Below w.heap.size w W6 := HB5.out.trans (hmod.below (by have := HB5.out.size; omega) (fun x e => by omega))
  have hz6 : AtB W6 w.heap.size 41 rowZ := hmod.heap HA0'.out (by omega)
  have HG6 := hid hg6
  have HZ6 := hid hz6
  have HB6 := hid hb6
  clear hg6 hz6 hb6 hmod hV hW6
  have LT : 0 < V.toList.length := by rw [Array.length_toList]; omega
  have hi : (Tryd.prog.info? 41).map (·.size) = some V.toList.length := by rw [Array.length_toList, hVs]; exact rowInfo
  have hrA : W6.drew.rangeAt (w.heap.size + 1) 0 V.toList := (World.rangeAt_drew _ _ _ _).2 (range_of_atB q)
  refine wp_region_held_drew (S := fun W => Below w.heap.size w W ∧ W.rangeAt (w.heap.size + 1) 0 V.toList) (by kernel_rfl) ⟨Below.drew HB6.out, hrA⟩ (fun hHeld => ?_)
  refine wpAnyH_take (i := 0) (v := _) rfl (by kernel_rfl) (by kernel_rfl) (by kernel_rfl) (fun _ _ _ h => h) (yieldsIf_load_mid (by rfl) _ _ rfl (w.heap.size + 1) 0 rfl V.toList _ (fun W hW => hW.2) Tryd.underlying41 rfl hi) hHeld ?_
  try simp only [Act.put, List.setIfInBounds_toArray, Array.toArray_toList]
  refine wpAnyH_take (i := 1) (v := ev) rfl (by kernel_rfl) (by kernel_rfl) (by kernel_rfl) (fun _ _ _ h => h) (Or.inl ⟨by rfl, fun W hW => by go_simp⟩) hHeld ?_
  try simp only [Act.put]
  refine wpAnyH_ready (rs := [2]) (by kernel_rfl) (by simp) ?_
  refine AllReadyH.cons rfl (fun K hK => ?_) AllReadyH.nil
  go_simp
  have hN : Calls Tryd.prog 20 #[ev] W6.drew fun e w' => e = .returned (.int .i64 nn) ∧ Below W6.drew.heap.size W6.drew w' := by rw [← HEV.out, ← HNN.out]; exact num_errV W6.drew HG6.out oks
  refine hN.mono ?_
  clear hN
  rintro e w7 ⟨rfl, hb7⟩
  have hB7 := hHeld.1.trans (hb7.mono hHeld.1.size)
  have hR7 := range_of_below hb7 hHeld.2 LT
  have hz7 : AtB w7 w.heap.size 41 rowZ := (hb7.block w.heap.size (lt_of_heap HZ6.out)).trans HZ6.out
  have hm7 : Mod (fun k => k = w.heap.size + 1 ∨ k = w.heap.size) w5 w7 := (HMO.out.mono (fun _ _ e => .inl e)).trans (Mod.new (show Below W6.heap.size W6 w7 from ⟨hb7.os, hb7.tape, hb7.output, hb7.size, hb7.block⟩) (fun _ => False)) (fun _ e => e.elim)
  have HM7 := hid hm7
  have HZ7 := hid hz7
  clear hHeld hm7 hz7 hb7
  refine hK.out _ _ ⟨hB7, hR7⟩ (fun hHeld => ?_)
  clear hK K hB7
  try simp only [Act.put, List.setIfInBounds_toArray, List.set_cons_zero, List.set_cons_succ]
  refine wpAnyH_ready (rs := [3]) (by kernel_rfl) (by simp) ?_
  refine AllReadyH.cons rfl (fun K hK => ?_) AllReadyH.nil
  rw [if_pos (by rfl)]
  refine wp_store_row 41 (.tmp 4) (.tmp 78) rfl w.heap.size V rfl rfl 41 rowZ HZ7.out (by rw [hVs]; exact rowInfo) (by rw [hVs]; rfl) (by rw [← HVV.out]; kernel_rfl) ?_
  have hm8 : Mod (fun k => k = w.heap.size + 1 ∨ k = w.heap.size) w5 (w7.setRow w.heap.size V) := HM7.out.trans (mod_setRow w7 w.heap.size V) (fun _ e => .inl (.inr e))
  have hB8 : Below w.heap.size w (w7.setRow w.heap.size V) := hHeld.1.trans ((mod_setRow w7 w.heap.size V).below hHeld.1.size (fun x e => by omega))
  have hR8 : (w7.setRow w.heap.size V).rangeAt (w.heap.size + 1) 0 V.toList := fun j v hv => (mod_setRow w7 w.heap.size V).cell (hHeld.2 j v hv) (show ¬ (w.heap.size + 1 = w.heap.size) by omega)
  have hz8 : AtB (w7.setRow w.heap.size V) w.heap.size 41 V := at_setRow HZ7.out V
  generalize w7.setRow w.heap.size V = w8 at hm8 hB8 hR8 hz8 ⊢
  clear hHeld
  refine hK.out _ _ ⟨hB8, hR8⟩ (fun hHeld => ?_)
  clear hK K
  try simp only [Act.put, List.setIfInBounds_toArray]
  refine wpAnyH_ready (rs := [4]) (by kernel_rfl) (by simp) ?_
  refine AllReadyH.cons rfl (fun K hK => ?_) AllReadyH.nil
  go_simp
  refine hK.out _ _ hHeld (fun hHeld => ?_)
  clear hK K
  try simp only [Act.put, List.setIfInBounds_toArray, List.set_cons_zero, List.set_cons_succ]
  refine wpAnyH_done (by kernel_rfl) ?_ _
  have HBE := hid hB8
  have HZE := hid hz8
  have HME := hid hm8
  clear hHeld hB8 hR8 hz8 hm8 hrA
  go_wp2_with fail
  refine bodyPost_ret (results_ct rfl _ _ w.heap.size 41 V (0, 0) _ rfl HZE.out Tryd.underlying41 rfl (by rw [hVs]; exact rowInfo)) rfl ?_
  refine ⟨V.toList, by rw [Array.toArray_toList, HOK.out, HNN.out]; rfl, ?_, HBE.out⟩
  have hm9 : k34.M w8 w.heap.size (fun _ => True) y _ := up_mem HM.out (fun q hq e => by have := hq.2.1; have := HLE.out; omega) (by have := HLE.out; omega) HME.out
  obtain ⟨x5, x6, e9, r5, r6⟩ := k34_openM hm9
  cases e9
  have hfin := k41_mkM w8 w.heap.size (fun _ => True) (rowAccess y) (Kd.R_nil _ _ _ _ _) (Kd.R_nil _ _ _ _ _) (Kd.R_nil _ _ _ _ _) r5 r6 (Kd.R_nil _ _ _ _ _) (Kd.R_nil _ _ _ _ _) (Kd.R_nil _ _ _ _ _)
  have key : ∀ c c', c = c' → k41.M w8 w.heap.size (fun _ => True) (rowAccess y) c → k41.M w8 w.heap.size (fun _ => True) (rowAccess y) c' := fun _ _ e h => e ▸ h
  rw [← HVV.out, hy]
  exact key _ _ (by kernel_rfl) hfin
end Go.Proofs.YtcgjacffemjehaaDoor

namespace Go.Proofs.YtcgjacffemjehaaDoor
open Go.RowKit
open Go.Proofs.YtcgjacffemjehaaDoorW.PrintWords (Kd rdOf results_ct)
open Go.Proofs.YtcgjacffemjehaaDoor.PRowReads
set_option linter.unusedVariables false
set_option maxHeartbeats 8000000 in
set_option maxRecDepth 100000 in
theorem readResource (w : World) (hg : ErrorType w) (s : ByteArray) (hs : s.size ≤ 1099511627776) :
    Calls Tryd.prog 6 #[.int .i64 6, .string s] w (ReadPost (rowResource ((unR (resourceR s.data.toList false)).getD z36)) (unR (resourceR s.data.toList false)).isSome w) := by
  have kc := fun (w : World) => Lib.run_convert_string_bytes (P := Tryd.prog) w 9 49 5 s Tryd.underlying9 Tryd.underlying49 Tryd.underlying5
  have hb2 : Below w.heap.size w ((w.alloc (.cells rowZ 41)).alloc (.cells (rowK 6) 41)) := ((Below.refl w.heap.size w).alloc (Nat.le_refl _) _).alloc (by simp) _
  have hs2 : ((w.alloc (.cells rowZ 41)).alloc (.cells (rowK 6) 41)).heap.size = w.heap.size + 1 + 1 := by simp
  have ha0 : AtB ((w.alloc (.cells rowZ 41)).alloc (.cells (rowK 6) 41)) w.heap.size 41 rowZ := (at_make rfl).alloc _
  have ha1 : AtB ((w.alloc (.cells rowZ 41)).alloc (.cells (rowK 6) 41)) (w.heap.size + 1) 41 (rowK 6) := at_make (by simp)
  obtain ⟨o, ho⟩ : ∃ o, unR (resourceR s.data.toList false) = o := ⟨_, rfl⟩
  have hrw := reads_world ((w.alloc (.cells rowZ 41)).alloc (.cells (rowK 6) 41)) 5 s
  rw [str_len, hs2] at hrw
  have hb3 := below_bytes ((w.alloc (.cells rowZ 41)).alloc (.cells (rowK 6) 41)) 5 s
  have hc := toResource_any _ _ _ hrw (by rw [str_len]; exact hs)
  rw [ho] at hc ⊢
  have HC := hid hc
  have HB3 := hid (below_then hb2 hb3)
  have HA0 := hid ((hb3.block _ (lt_of_heap ha0)).trans ha0 : AtB _ w.heap.size 41 rowZ)
  have HA1 := hid ((hb3.block _ (lt_of_heap ha1)).trans ha1 : AtB _ (w.heap.size + 1) 41 (rowK 6))
  have HG := hid hg
  have HGL := hid hg.lt
  clear hb2 hs2 ha0 ha1 hrw hb3 hc hg ho
  go_enter Tryd.func6, Tryd.ntmps6
  go_wp2_with (first | (refine wpList_allocTo rfl (some 4) rfl _ _ (run_allocRow _ _ rfl _) ?_) | (refine wpList_allocTo rfl (some 6) rfl _ _ (run_allocRow _ _ rfl _) ?_) | (refine wpList_buildTo rfl 41 _ rfl (some 10) rfl (rowK 6) (by kernel_rfl) ?_) | (refine wpList_store_new rfl 41 (.tmp 6) (.tmp 10) rfl rfl (w.alloc (.cells rowZ 41)) 41 rowZ (rowK 6) rfl (by simp only [World.size_alloc]; rfl) rfl (by kernel_rfl) (by kernel_rfl) (by kernel_rfl) ?_))
  go_at_call 17
  refine HC.out.mono ?_
  clear HC
  intro e w5 hq
  obtain ⟨cs3, rfl, hM, hb⟩ := hq
  obtain ⟨y, hy⟩ : ∃ y, o.getD z36 = y := ⟨_, rfl⟩
  rw [hy] at hM ⊢
  obtain ⟨v4, rfl, g4⟩ := k36_openM hM
  obtain ⟨A4, m4, c4, rfl⟩ := r_form g4
  have HM := hid (k36.M_bound hM)
  obtain ⟨oks, hoks⟩ : ∃ b, o.isSome = b := ⟨_, rfl⟩
  obtain ⟨nn, hnn⟩ : ∃ n : Int, (if oks = true then 0 else 170) = n := ⟨_, rfl⟩
  have HNN := hid hnn
  have HOK := hid hoks
  rw [hoks]
  obtain ⟨ev, hev⟩ : ∃ ev, errV oks = ev := ⟨_, rfl⟩
  rw [hev]
  have HEV := hid hev
  have hle : w.heap.size + 1 + 1 ≤ (Lib.bytesWorld ((w.alloc (.cells rowZ 41)).alloc (.cells (rowK 6) 41)) 5 s).heap.size := by have := HB3.out.size; rw [Lib.bytesWorld_size]; simp
  have HLE := hid hle
  have HA0' := hid ((hb.block _ (lt_of_heap HA0.out)).trans HA0.out : AtB w5 w.heap.size 41 rowZ)
  have hA1 : AtB w5 (w.heap.size + 1) 41 (rowK 6) := (hb.block _ (lt_of_heap HA1.out)).trans HA1.out
  have HB5 := hid (below_then HB3.out hb)
  have HG5 := hid (HG.out.below HB5.out HG.out.lt)
  have hc33 : ∃ u, w5.cell? ⟨w.heap.size + 1, 33, none⟩ = some u := ⟨_, (hA1.cell 33).trans rfl⟩
  obtain ⟨u33, hu33⟩ := hc33
  have hf33 := hA1.free 33
  have hc34 : ∃ u, w5.cell? ⟨w.heap.size + 1, 34, none⟩ = some u := ⟨_, (hA1.cell 34).trans rfl⟩
  obtain ⟨u34, hu34⟩ := hc34
  have hf34 := hA1.free 34
  have hc35 : ∃ u, w5.cell? ⟨w.heap.size + 1, 35, none⟩ = some u := ⟨_, (hA1.cell 35).trans rfl⟩
  obtain ⟨u35, hu35⟩ := hc35
  have hf35 := hA1.free 35
  have hc36 : ∃ u, w5.cell? ⟨w.heap.size + 1, 36, none⟩ = some u := ⟨_, (hA1.cell 36).trans rfl⟩
  obtain ⟨u36, hu36⟩ := hc36
  have hf36 := hA1.free 36
  have hc37 : ∃ u, w5.cell? ⟨w.heap.size + 1, 37, none⟩ = some u := ⟨_, (hA1.cell 37).trans rfl⟩
  obtain ⟨u37, hu37⟩ := hc37
  have hf37 := hA1.free 37
  have hc38 : ∃ u, w5.cell? ⟨w.heap.size + 1, 38, none⟩ = some u := ⟨_, (hA1.cell 38).trans rfl⟩
  obtain ⟨u38, hu38⟩ := hc38
  have hf38 := hA1.free 38
  have HA1' := hid hA1
  clear hb hM hev hoks hnn hA1 HA0 HA1 HB3 HG hle g4
  go_wp2_with fail
  have q : AtB ((((((w5.setCell ⟨w.heap.size + 1, 33, none⟩ (.string y.f0)).setCell ⟨w.heap.size + 1, 34, none⟩ (.string y.f1)).setCell ⟨w.heap.size + 1, 35, none⟩ (.string y.f2)).setCell ⟨w.heap.size + 1, 36, none⟩ (.string y.f3)).setCell ⟨w.heap.size + 1, 37, none⟩ (.slice A4 m4 c4)).setCell ⟨w.heap.size + 1, 38, none⟩ (.string y.f5)) (w.heap.size + 1) 41 (((((((rowK 6).setIfInBounds 33 (.string y.f0)).setIfInBounds 34 (.string y.f1)).setIfInBounds 35 (.string y.f2)).setIfInBounds 36 (.string y.f3)).setIfInBounds 37 (.slice A4 m4 c4)).setIfInBounds 38 (.string y.f5)) := (((((((HA1'.out).set 33 (.string y.f0)).set 34 (.string y.f1)).set 35 (.string y.f2)).set 36 (.string y.f3)).set 37 (.slice A4 m4 c4)).set 38 (.string y.f5))
  have hmod : Mod (fun k => k = w.heap.size + 1) w5 ((((((w5.setCell ⟨w.heap.size + 1, 33, none⟩ (.string y.f0)).setCell ⟨w.heap.size + 1, 34, none⟩ (.string y.f1)).setCell ⟨w.heap.size + 1, 35, none⟩ (.string y.f2)).setCell ⟨w.heap.size + 1, 36, none⟩ (.string y.f3)).setCell ⟨w.heap.size + 1, 37, none⟩ (.slice A4 m4 c4)).setCell ⟨w.heap.size + 1, 38, none⟩ (.string y.f5)) := ((((((Mod.refl (fun k => k = w.heap.size + 1) w5).setCell ⟨w.heap.size + 1, 33, none⟩ (.string y.f0) (.inl rfl)).setCell ⟨w.heap.size + 1, 34, none⟩ (.string y.f1) (.inl rfl)).setCell ⟨w.heap.size + 1, 35, none⟩ (.string y.f2) (.inl rfl)).setCell ⟨w.heap.size + 1, 36, none⟩ (.string y.f3) (.inl rfl)).setCell ⟨w.heap.size + 1, 37, none⟩ (.slice A4 m4 c4) (.inl rfl)).setCell ⟨w.heap.size + 1, 38, none⟩ (.string y.f5) (.inl rfl)
  obtain ⟨W6, hW6⟩ : ∃ W, ((((((w5.setCell ⟨w.heap.size + 1, 33, none⟩ (.string y.f0)).setCell ⟨w.heap.size + 1, 34, none⟩ (.string y.f1)).setCell ⟨w.heap.size + 1, 35, none⟩ (.string y.f2)).setCell ⟨w.heap.size + 1, 36, none⟩ (.string y.f3)).setCell ⟨w.heap.size + 1, 37, none⟩ (.slice A4 m4 c4)).setCell ⟨w.heap.size + 1, 38, none⟩ (.string y.f5)) = W := ⟨_, rfl⟩
  obtain ⟨V, hV⟩ : ∃ V, (((((((rowK 6).setIfInBounds 33 (.string y.f0)).setIfInBounds 34 (.string y.f1)).setIfInBounds 35 (.string y.f2)).setIfInBounds 36 (.string y.f3)).setIfInBounds 37 (.slice A4 m4 c4)).setIfInBounds 38 (.string y.f5)) = V := ⟨_, rfl⟩
  rw [hW6] at q hmod ⊢
  rw [hV] at q
  have hVs : V.size = 46 := by rw [← hV]; simp only [Array.size_setIfInBounds]; exact rowK_size 6
  have HQ := hid q
  have HMO := hid hmod
  have HVV := hid hV
  have hg6 : ErrorType W6 := hmod.cell HG5.out (show ¬ (0 = w.heap.size + 1) by have := HGL.out; omega)
  have hb6 : Below w.heap.size w W6 := HB5.out.trans (hmod.below (by have := HB5.out.size; omega) (fun x e => by omega))
  have hz6 : AtB W6 w.heap.size 41 rowZ := hmod.heap HA0'.out (by omega)
  have HG6 := hid hg6
  have HZ6 := hid hz6
  have HB6 := hid hb6
  clear hg6 hz6 hb6 hmod hV hW6
  have LT : 0 < V.toList.length := by rw [Array.length_toList]; omega
  have hi : (Tryd.prog.info? 41).map (·.size) = some V.toList.length := by rw [Array.length_toList, hVs]; exact rowInfo
  have hrA : W6.drew.rangeAt (w.heap.size + 1) 0 V.toList := (World.rangeAt_drew _ _ _ _).2 (range_of_atB q)
  refine wp_region_held_drew (S := fun W => Below w.heap.size w W ∧ W.rangeAt (w.heap.size + 1) 0 V.toList) (by kernel_rfl) ⟨Below.drew HB6.out, hrA⟩ (fun hHeld => ?_)
  refine wpAnyH_take (i := 0) (v := _) rfl (by kernel_rfl) (by kernel_rfl) (by kernel_rfl) (fun _ _ _ h => h) (yieldsIf_load_mid (by rfl) _ _ rfl (w.heap.size + 1) 0 rfl V.toList _ (fun W hW => hW.2) Tryd.underlying41 rfl hi) hHeld ?_
  try simp only [Act.put, List.setIfInBounds_toArray, Array.toArray_toList]
  refine wpAnyH_take (i := 1) (v := ev) rfl (by kernel_rfl) (by kernel_rfl) (by kernel_rfl) (fun _ _ _ h => h) (Or.inl ⟨by rfl, fun W hW => by go_simp⟩) hHeld ?_
  try simp only [Act.put]
  refine wpAnyH_ready (rs := [2]) (by kernel_rfl) (by simp) ?_
  refine AllReadyH.cons rfl (fun K hK => ?_) AllReadyH.nil
  go_simp
  have hN : Calls Tryd.prog 20 #[ev] W6.drew fun e w' => e = .returned (.int .i64 nn) ∧ Below W6.drew.heap.size W6.drew w' := by rw [← HEV.out, ← HNN.out]; exact num_errV W6.drew HG6.out oks
  refine hN.mono ?_
  clear hN
  rintro e w7 ⟨rfl, hb7⟩
  have hB7 := hHeld.1.trans (hb7.mono hHeld.1.size)
  have hR7 := range_of_below hb7 hHeld.2 LT
  have hz7 : AtB w7 w.heap.size 41 rowZ := (hb7.block w.heap.size (lt_of_heap HZ6.out)).trans HZ6.out
  have hm7 : Mod (fun k => k = w.heap.size + 1 ∨ k = w.heap.size) w5 w7 := (HMO.out.mono (fun _ _ e => .inl e)).trans (Mod.new (show Below W6.heap.size W6 w7 from ⟨hb7.os, hb7.tape, hb7.output, hb7.size, hb7.block⟩) (fun _ => False)) (fun _ e => e.elim)
  have HM7 := hid hm7
  have HZ7 := hid hz7
  clear hHeld hm7 hz7 hb7
  refine hK.out _ _ ⟨hB7, hR7⟩ (fun hHeld => ?_)
  clear hK K hB7
  try simp only [Act.put, List.setIfInBounds_toArray, List.set_cons_zero, List.set_cons_succ]
  refine wpAnyH_ready (rs := [3]) (by kernel_rfl) (by simp) ?_
  refine AllReadyH.cons rfl (fun K hK => ?_) AllReadyH.nil
  rw [if_pos (by rfl)]
  refine wp_store_row 41 (.tmp 4) (.tmp 78) rfl w.heap.size V rfl rfl 41 rowZ HZ7.out (by rw [hVs]; exact rowInfo) (by rw [hVs]; rfl) (by rw [← HVV.out]; kernel_rfl) ?_
  have hm8 : Mod (fun k => k = w.heap.size + 1 ∨ k = w.heap.size) w5 (w7.setRow w.heap.size V) := HM7.out.trans (mod_setRow w7 w.heap.size V) (fun _ e => .inl (.inr e))
  have hB8 : Below w.heap.size w (w7.setRow w.heap.size V) := hHeld.1.trans ((mod_setRow w7 w.heap.size V).below hHeld.1.size (fun x e => by omega))
  have hR8 : (w7.setRow w.heap.size V).rangeAt (w.heap.size + 1) 0 V.toList := fun j v hv => (mod_setRow w7 w.heap.size V).cell (hHeld.2 j v hv) (show ¬ (w.heap.size + 1 = w.heap.size) by omega)
  have hz8 : AtB (w7.setRow w.heap.size V) w.heap.size 41 V := at_setRow HZ7.out V
  generalize w7.setRow w.heap.size V = w8 at hm8 hB8 hR8 hz8 ⊢
  clear hHeld
  refine hK.out _ _ ⟨hB8, hR8⟩ (fun hHeld => ?_)
  clear hK K
  try simp only [Act.put, List.setIfInBounds_toArray]
  refine wpAnyH_ready (rs := [4]) (by kernel_rfl) (by simp) ?_
  refine AllReadyH.cons rfl (fun K hK => ?_) AllReadyH.nil
  go_simp
  refine hK.out _ _ hHeld (fun hHeld => ?_)
  clear hK K
  try simp only [Act.put, List.setIfInBounds_toArray, List.set_cons_zero, List.set_cons_succ]
  refine wpAnyH_done (by kernel_rfl) ?_ _
  have HBE := hid hB8
  have HZE := hid hz8
  have HME := hid hm8
  clear hHeld hB8 hR8 hz8 hm8 hrA
  go_wp2_with fail
  refine bodyPost_ret (results_ct rfl _ _ w.heap.size 41 V (0, 0) _ rfl HZE.out Tryd.underlying41 rfl (by rw [hVs]; exact rowInfo)) rfl ?_
  refine ⟨V.toList, by rw [Array.toArray_toList, HOK.out, HNN.out]; rfl, ?_, HBE.out⟩
  have hm9 : k36.M w8 w.heap.size (fun _ => True) y _ := up_mem HM.out (fun q hq e => by have := hq.2.1; have := HLE.out; omega) (by have := HLE.out; omega) HME.out
  obtain ⟨x4, e9, r4⟩ := k36_openM hm9
  cases e9
  have hfin := k41_mkM w8 w.heap.size (fun _ => True) (rowResource y) (Kd.R_nil _ _ _ _ _) (Kd.R_nil _ _ _ _ _) (Kd.R_nil _ _ _ _ _) (Kd.R_nil _ _ _ _ _) (Kd.R_nil _ _ _ _ _) r4 (Kd.R_nil _ _ _ _ _) (Kd.R_nil _ _ _ _ _)
  have key : ∀ c c', c = c' → k41.M w8 w.heap.size (fun _ => True) (rowResource y) c → k41.M w8 w.heap.size (fun _ => True) (rowResource y) c' := fun _ _ e h => e ▸ h
  rw [← HVV.out, hy]
  exact key _ _ (by kernel_rfl) hfin
end Go.Proofs.YtcgjacffemjehaaDoor

namespace Go.Proofs.YtcgjacffemjehaaDoor
open Go.RowKit
open Go.Proofs.YtcgjacffemjehaaDoorW.PrintWords (Kd rdOf results_ct)
open Go.Proofs.YtcgjacffemjehaaDoor.PRowReads
set_option linter.unusedVariables false
set_option maxHeartbeats 8000000 in
set_option maxRecDepth 100000 in
theorem readTicket (w : World) (hg : ErrorType w) (s : ByteArray) (hs : s.size ≤ 1099511627776) :
    Calls Tryd.prog 6 #[.int .i64 7, .string s] w (ReadPost (rowTicket ((unR (ticketR s.data.toList false)).getD z38)) (unR (ticketR s.data.toList false)).isSome w) := by
  have kc := fun (w : World) => Lib.run_convert_string_bytes (P := Tryd.prog) w 9 49 5 s Tryd.underlying9 Tryd.underlying49 Tryd.underlying5
  have hb2 : Below w.heap.size w ((w.alloc (.cells rowZ 41)).alloc (.cells (rowK 7) 41)) := ((Below.refl w.heap.size w).alloc (Nat.le_refl _) _).alloc (by simp) _
  have hs2 : ((w.alloc (.cells rowZ 41)).alloc (.cells (rowK 7) 41)).heap.size = w.heap.size + 1 + 1 := by simp
  have ha0 : AtB ((w.alloc (.cells rowZ 41)).alloc (.cells (rowK 7) 41)) w.heap.size 41 rowZ := (at_make rfl).alloc _
  have ha1 : AtB ((w.alloc (.cells rowZ 41)).alloc (.cells (rowK 7) 41)) (w.heap.size + 1) 41 (rowK 7) := at_make (by simp)
  obtain ⟨o, ho⟩ : ∃ o, unR (ticketR s.data.toList false) = o := ⟨_, rfl⟩
  have hrw := reads_world ((w.alloc (.cells rowZ 41)).alloc (.cells (rowK 7) 41)) 5 s
  rw [str_len, hs2] at hrw
  have hb3 := below_bytes ((w.alloc (.cells rowZ 41)).alloc (.cells (rowK 7) 41)) 5 s
  have hc := toTicket_any _ _ _ hrw (by rw [str_len]; exact hs)
  rw [ho] at hc ⊢
  have HC := hid hc
  have HB3 := hid (below_then hb2 hb3)
  have HA0 := hid ((hb3.block _ (lt_of_heap ha0)).trans ha0 : AtB _ w.heap.size 41 rowZ)
  have HA1 := hid ((hb3.block _ (lt_of_heap ha1)).trans ha1 : AtB _ (w.heap.size + 1) 41 (rowK 7))
  have HG := hid hg
  have HGL := hid hg.lt
  clear hb2 hs2 ha0 ha1 hrw hb3 hc hg ho
  go_enter Tryd.func6, Tryd.ntmps6
  go_wp2_with (first | (refine wpList_allocTo rfl (some 4) rfl _ _ (run_allocRow _ _ rfl _) ?_) | (refine wpList_allocTo rfl (some 6) rfl _ _ (run_allocRow _ _ rfl _) ?_) | (refine wpList_buildTo rfl 41 _ rfl (some 10) rfl (rowK 7) (by kernel_rfl) ?_) | (refine wpList_store_new rfl 41 (.tmp 6) (.tmp 10) rfl rfl (w.alloc (.cells rowZ 41)) 41 rowZ (rowK 7) rfl (by simp only [World.size_alloc]; rfl) rfl (by kernel_rfl) (by kernel_rfl) (by kernel_rfl) ?_))
  go_at_call 18
  refine HC.out.mono ?_
  clear HC
  intro e w5 hq
  obtain ⟨cs3, rfl, hM, hb⟩ := hq
  obtain ⟨y, hy⟩ : ∃ y, o.getD z38 = y := ⟨_, rfl⟩
  rw [hy] at hM ⊢
  obtain ⟨v2, rfl, g2⟩ := k38_openM hM
  obtain ⟨A2, m2, c2, rfl⟩ := r_form g2
  have HM := hid (k38.M_bound hM)
  obtain ⟨oks, hoks⟩ : ∃ b, o.isSome = b := ⟨_, rfl⟩
  obtain ⟨nn, hnn⟩ : ∃ n : Int, (if oks = true then 0 else 170) = n := ⟨_, rfl⟩
  have HNN := hid hnn
  have HOK := hid hoks
  rw [hoks]
  obtain ⟨ev, hev⟩ : ∃ ev, errV oks = ev := ⟨_, rfl⟩
  rw [hev]
  have HEV := hid hev
  have hle : w.heap.size + 1 + 1 ≤ (Lib.bytesWorld ((w.alloc (.cells rowZ 41)).alloc (.cells (rowK 7) 41)) 5 s).heap.size := by have := HB3.out.size; rw [Lib.bytesWorld_size]; simp
  have HLE := hid hle
  have HA0' := hid ((hb.block _ (lt_of_heap HA0.out)).trans HA0.out : AtB w5 w.heap.size 41 rowZ)
  have hA1 : AtB w5 (w.heap.size + 1) 41 (rowK 7) := (hb.block _ (lt_of_heap HA1.out)).trans HA1.out
  have HB5 := hid (below_then HB3.out hb)
  have HG5 := hid (HG.out.below HB5.out HG.out.lt)
  have hc39 : ∃ u, w5.cell? ⟨w.heap.size + 1, 39, none⟩ = some u := ⟨_, (hA1.cell 39).trans rfl⟩
  obtain ⟨u39, hu39⟩ := hc39
  have hf39 := hA1.free 39
  have hc40 : ∃ u, w5.cell? ⟨w.heap.size + 1, 40, none⟩ = some u := ⟨_, (hA1.cell 40).trans rfl⟩
  obtain ⟨u40, hu40⟩ := hc40
  have hf40 := hA1.free 40
  have hc41 : ∃ u, w5.cell? ⟨w.heap.size + 1, 41, none⟩ = some u := ⟨_, (hA1.cell 41).trans rfl⟩
  obtain ⟨u41, hu41⟩ := hc41
  have hf41 := hA1.free 41
  have hc42 : ∃ u, w5.cell? ⟨w.heap.size + 1, 42, none⟩ = some u := ⟨_, (hA1.cell 42).trans rfl⟩
  obtain ⟨u42, hu42⟩ := hc42
  have hf42 := hA1.free 42
  have hc43 : ∃ u, w5.cell? ⟨w.heap.size + 1, 43, none⟩ = some u := ⟨_, (hA1.cell 43).trans rfl⟩
  obtain ⟨u43, hu43⟩ := hc43
  have hf43 := hA1.free 43
  have hc44 : ∃ u, w5.cell? ⟨w.heap.size + 1, 44, none⟩ = some u := ⟨_, (hA1.cell 44).trans rfl⟩
  obtain ⟨u44, hu44⟩ := hc44
  have hf44 := hA1.free 44
  have HA1' := hid hA1
  clear hb hM hev hoks hnn hA1 HA0 HA1 HB3 HG hle g2
  go_wp2_with fail
  have q : AtB ((((((w5.setCell ⟨w.heap.size + 1, 39, none⟩ (.string y.f0)).setCell ⟨w.heap.size + 1, 40, none⟩ (.string y.f1)).setCell ⟨w.heap.size + 1, 41, none⟩ (.slice A2 m2 c2)).setCell ⟨w.heap.size + 1, 42, none⟩ (.string y.f3)).setCell ⟨w.heap.size + 1, 43, none⟩ (.int .i64 y.f4)).setCell ⟨w.heap.size + 1, 44, none⟩ (.bool y.f5)) (w.heap.size + 1) 41 (((((((rowK 7).setIfInBounds 39 (.string y.f0)).setIfInBounds 40 (.string y.f1)).setIfInBounds 41 (.slice A2 m2 c2)).setIfInBounds 42 (.string y.f3)).setIfInBounds 43 (.int .i64 y.f4)).setIfInBounds 44 (.bool y.f5)) := (((((((HA1'.out).set 39 (.string y.f0)).set 40 (.string y.f1)).set 41 (.slice A2 m2 c2)).set 42 (.string y.f3)).set 43 (.int .i64 y.f4)).set 44 (.bool y.f5))
  have hmod : Mod (fun k => k = w.heap.size + 1) w5 ((((((w5.setCell ⟨w.heap.size + 1, 39, none⟩ (.string y.f0)).setCell ⟨w.heap.size + 1, 40, none⟩ (.string y.f1)).setCell ⟨w.heap.size + 1, 41, none⟩ (.slice A2 m2 c2)).setCell ⟨w.heap.size + 1, 42, none⟩ (.string y.f3)).setCell ⟨w.heap.size + 1, 43, none⟩ (.int .i64 y.f4)).setCell ⟨w.heap.size + 1, 44, none⟩ (.bool y.f5)) := ((((((Mod.refl (fun k => k = w.heap.size + 1) w5).setCell ⟨w.heap.size + 1, 39, none⟩ (.string y.f0) (.inl rfl)).setCell ⟨w.heap.size + 1, 40, none⟩ (.string y.f1) (.inl rfl)).setCell ⟨w.heap.size + 1, 41, none⟩ (.slice A2 m2 c2) (.inl rfl)).setCell ⟨w.heap.size + 1, 42, none⟩ (.string y.f3) (.inl rfl)).setCell ⟨w.heap.size + 1, 43, none⟩ (.int .i64 y.f4) (.inl rfl)).setCell ⟨w.heap.size + 1, 44, none⟩ (.bool y.f5) (.inl rfl)
  obtain ⟨W6, hW6⟩ : ∃ W, ((((((w5.setCell ⟨w.heap.size + 1, 39, none⟩ (.string y.f0)).setCell ⟨w.heap.size + 1, 40, none⟩ (.string y.f1)).setCell ⟨w.heap.size + 1, 41, none⟩ (.slice A2 m2 c2)).setCell ⟨w.heap.size + 1, 42, none⟩ (.string y.f3)).setCell ⟨w.heap.size + 1, 43, none⟩ (.int .i64 y.f4)).setCell ⟨w.heap.size + 1, 44, none⟩ (.bool y.f5)) = W := ⟨_, rfl⟩
  obtain ⟨V, hV⟩ : ∃ V, (((((((rowK 7).setIfInBounds 39 (.string y.f0)).setIfInBounds 40 (.string y.f1)).setIfInBounds 41 (.slice A2 m2 c2)).setIfInBounds 42 (.string y.f3)).setIfInBounds 43 (.int .i64 y.f4)).setIfInBounds 44 (.bool y.f5)) = V := ⟨_, rfl⟩
  rw [hW6] at q hmod ⊢
  rw [hV] at q
  have hVs : V.size = 46 := by rw [← hV]; simp only [Array.size_setIfInBounds]; exact rowK_size 7
  have HQ := hid q
  have HMO := hid hmod
  have HVV := hid hV
  have hg6 : ErrorType W6 := hmod.cell HG5.out (show ¬ (0 = w.heap.size + 1) by have := HGL.out; omega)
  have hb6 : Below w.heap.size w W6 := HB5.out.trans (hmod.below (by have := HB5.out.size; omega) (fun x e => by omega))
  have hz6 : AtB W6 w.heap.size 41 rowZ := hmod.heap HA0'.out (by omega)
  have HG6 := hid hg6
  have HZ6 := hid hz6
  have HB6 := hid hb6
  clear hg6 hz6 hb6 hmod hV hW6
  have LT : 0 < V.toList.length := by rw [Array.length_toList]; omega
  have hi : (Tryd.prog.info? 41).map (·.size) = some V.toList.length := by rw [Array.length_toList, hVs]; exact rowInfo
  have hrA : W6.drew.rangeAt (w.heap.size + 1) 0 V.toList := (World.rangeAt_drew _ _ _ _).2 (range_of_atB q)
  refine wp_region_held_drew (S := fun W => Below w.heap.size w W ∧ W.rangeAt (w.heap.size + 1) 0 V.toList) (by kernel_rfl) ⟨Below.drew HB6.out, hrA⟩ (fun hHeld => ?_)
  refine wpAnyH_take (i := 0) (v := _) rfl (by kernel_rfl) (by kernel_rfl) (by kernel_rfl) (fun _ _ _ h => h) (yieldsIf_load_mid (by rfl) _ _ rfl (w.heap.size + 1) 0 rfl V.toList _ (fun W hW => hW.2) Tryd.underlying41 rfl hi) hHeld ?_
  try simp only [Act.put, List.setIfInBounds_toArray, Array.toArray_toList]
  refine wpAnyH_take (i := 1) (v := ev) rfl (by kernel_rfl) (by kernel_rfl) (by kernel_rfl) (fun _ _ _ h => h) (Or.inl ⟨by rfl, fun W hW => by go_simp⟩) hHeld ?_
  try simp only [Act.put]
  refine wpAnyH_ready (rs := [2]) (by kernel_rfl) (by simp) ?_
  refine AllReadyH.cons rfl (fun K hK => ?_) AllReadyH.nil
  go_simp
  have hN : Calls Tryd.prog 20 #[ev] W6.drew fun e w' => e = .returned (.int .i64 nn) ∧ Below W6.drew.heap.size W6.drew w' := by rw [← HEV.out, ← HNN.out]; exact num_errV W6.drew HG6.out oks
  refine hN.mono ?_
  clear hN
  rintro e w7 ⟨rfl, hb7⟩
  have hB7 := hHeld.1.trans (hb7.mono hHeld.1.size)
  have hR7 := range_of_below hb7 hHeld.2 LT
  have hz7 : AtB w7 w.heap.size 41 rowZ := (hb7.block w.heap.size (lt_of_heap HZ6.out)).trans HZ6.out
  have hm7 : Mod (fun k => k = w.heap.size + 1 ∨ k = w.heap.size) w5 w7 := (HMO.out.mono (fun _ _ e => .inl e)).trans (Mod.new (show Below W6.heap.size W6 w7 from ⟨hb7.os, hb7.tape, hb7.output, hb7.size, hb7.block⟩) (fun _ => False)) (fun _ e => e.elim)
  have HM7 := hid hm7
  have HZ7 := hid hz7
  clear hHeld hm7 hz7 hb7
  refine hK.out _ _ ⟨hB7, hR7⟩ (fun hHeld => ?_)
  clear hK K hB7
  try simp only [Act.put, List.setIfInBounds_toArray, List.set_cons_zero, List.set_cons_succ]
  refine wpAnyH_ready (rs := [3]) (by kernel_rfl) (by simp) ?_
  refine AllReadyH.cons rfl (fun K hK => ?_) AllReadyH.nil
  rw [if_pos (by rfl)]
  refine wp_store_row 41 (.tmp 4) (.tmp 78) rfl w.heap.size V rfl rfl 41 rowZ HZ7.out (by rw [hVs]; exact rowInfo) (by rw [hVs]; rfl) (by rw [← HVV.out]; kernel_rfl) ?_
  have hm8 : Mod (fun k => k = w.heap.size + 1 ∨ k = w.heap.size) w5 (w7.setRow w.heap.size V) := HM7.out.trans (mod_setRow w7 w.heap.size V) (fun _ e => .inl (.inr e))
  have hB8 : Below w.heap.size w (w7.setRow w.heap.size V) := hHeld.1.trans ((mod_setRow w7 w.heap.size V).below hHeld.1.size (fun x e => by omega))
  have hR8 : (w7.setRow w.heap.size V).rangeAt (w.heap.size + 1) 0 V.toList := fun j v hv => (mod_setRow w7 w.heap.size V).cell (hHeld.2 j v hv) (show ¬ (w.heap.size + 1 = w.heap.size) by omega)
  have hz8 : AtB (w7.setRow w.heap.size V) w.heap.size 41 V := at_setRow HZ7.out V
  generalize w7.setRow w.heap.size V = w8 at hm8 hB8 hR8 hz8 ⊢
  clear hHeld
  refine hK.out _ _ ⟨hB8, hR8⟩ (fun hHeld => ?_)
  clear hK K
  try simp only [Act.put, List.setIfInBounds_toArray]
  refine wpAnyH_ready (rs := [4]) (by kernel_rfl) (by simp) ?_
  refine AllReadyH.cons rfl (fun K hK => ?_) AllReadyH.nil
  go_simp
  refine hK.out _ _ hHeld (fun hHeld => ?_)
  clear hK K
  try simp only [Act.put, List.setIfInBounds_toArray, List.set_cons_zero, List.set_cons_succ]
  refine wpAnyH_done (by kernel_rfl) ?_ _
  have HBE := hid hB8
  have HZE := hid hz8
  have HME := hid hm8
  clear hHeld hB8 hR8 hz8 hm8 hrA
  go_wp2_with fail
  refine bodyPost_ret (results_ct rfl _ _ w.heap.size 41 V (0, 0) _ rfl HZE.out Tryd.underlying41 rfl (by rw [hVs]; exact rowInfo)) rfl ?_
  refine ⟨V.toList, by rw [Array.toArray_toList, HOK.out, HNN.out]; rfl, ?_, HBE.out⟩
  have hm9 : k38.M w8 w.heap.size (fun _ => True) y _ := up_mem HM.out (fun q hq e => by have := hq.2.1; have := HLE.out; omega) (by have := HLE.out; omega) HME.out
  obtain ⟨x2, e9, r2⟩ := k38_openM hm9
  cases e9
  have hfin := k41_mkM w8 w.heap.size (fun _ => True) (rowTicket y) (Kd.R_nil _ _ _ _ _) (Kd.R_nil _ _ _ _ _) (Kd.R_nil _ _ _ _ _) (Kd.R_nil _ _ _ _ _) (Kd.R_nil _ _ _ _ _) (Kd.R_nil _ _ _ _ _) r2 (Kd.R_nil _ _ _ _ _)
  have key : ∀ c c', c = c' → k41.M w8 w.heap.size (fun _ => True) (rowTicket y) c → k41.M w8 w.heap.size (fun _ => True) (rowTicket y) c' := fun _ _ e h => e ▸ h
  rw [← HVV.out, hy]
  exact key _ _ (by kernel_rfl) hfin
end Go.Proofs.YtcgjacffemjehaaDoor

namespace Go.Proofs.YtcgjacffemjehaaDoor
open Go.RowKit
open Go.Proofs.YtcgjacffemjehaaDoorW.PrintWords (Kd rdOf results_ct)
open Go.Proofs.YtcgjacffemjehaaDoor.PRowReads
set_option linter.unusedVariables false
set_option maxHeartbeats 8000000 in
set_option maxRecDepth 100000 in
theorem readKeys (w : World) (hg : ErrorType w) (s : ByteArray) (hs : s.size ≤ 1099511627776) :
    Calls Tryd.prog 6 #[.int .i64 8, .string s] w (ReadPost (rowKeysR ((unR (listR keyR s.data.toList false)).getD [])) (unR (listR keyR s.data.toList false)).isSome w) := by
  have kc := fun (w : World) => Lib.run_convert_string_bytes (P := Tryd.prog) w 9 49 5 s Tryd.underlying9 Tryd.underlying49 Tryd.underlying5
  have hb2 : Below w.heap.size w ((w.alloc (.cells rowZ 41)).alloc (.cells (rowK 8) 41)) := ((Below.refl w.heap.size w).alloc (Nat.le_refl _) _).alloc (by simp) _
  have hs2 : ((w.alloc (.cells rowZ 41)).alloc (.cells (rowK 8) 41)).heap.size = w.heap.size + 1 + 1 := by simp
  have ha0 : AtB ((w.alloc (.cells rowZ 41)).alloc (.cells (rowK 8) 41)) w.heap.size 41 rowZ := (at_make rfl).alloc _
  have ha1 : AtB ((w.alloc (.cells rowZ 41)).alloc (.cells (rowK 8) 41)) (w.heap.size + 1) 41 (rowK 8) := at_make (by simp)
  obtain ⟨o, ho⟩ : ∃ o, unR (listR keyR s.data.toList false) = o := ⟨_, rfl⟩
  have hrw := reads_world ((w.alloc (.cells rowZ 41)).alloc (.cells (rowK 8) 41)) 5 s
  rw [str_len, hs2] at hrw
  have hb3 := below_bytes ((w.alloc (.cells rowZ 41)).alloc (.cells (rowK 8) 41)) 5 s
  have hc := toKeys_any _ _ _ hrw (by rw [str_len]; exact hs)
  rw [ho] at hc ⊢
  have HC := hid hc
  have HB3 := hid (below_then hb2 hb3)
  have HA0 := hid ((hb3.block _ (lt_of_heap ha0)).trans ha0 : AtB _ w.heap.size 41 rowZ)
  have HA1 := hid ((hb3.block _ (lt_of_heap ha1)).trans ha1 : AtB _ (w.heap.size + 1) 41 (rowK 8))
  have HG := hid hg
  have HGL := hid hg.lt
  clear hb2 hs2 ha0 ha1 hrw hb3 hc hg ho
  go_enter Tryd.func6, Tryd.ntmps6
  go_wp2_with (first | (refine wpList_allocTo rfl (some 4) rfl _ _ (run_allocRow _ _ rfl _) ?_) | (refine wpList_allocTo rfl (some 6) rfl _ _ (run_allocRow _ _ rfl _) ?_) | (refine wpList_buildTo rfl 41 _ rfl (some 10) rfl (rowK 8) (by kernel_rfl) ?_) | (refine wpList_store_new rfl 41 (.tmp 6) (.tmp 10) rfl rfl (w.alloc (.cells rowZ 41)) 41 rowZ (rowK 8) rfl (by simp only [World.size_alloc]; rfl) rfl (by kernel_rfl) (by kernel_rfl) (by kernel_rfl) ?_))
  go_at_call 19
  refine HC.out.mono ?_
  clear HC
  intro e w5 hq
  obtain ⟨v0, rfl, hR, hb⟩ := hq
  obtain ⟨y, hy⟩ : ∃ y, o.getD [] = y := ⟨_, rfl⟩
  rw [hy] at hR ⊢
  obtain ⟨A0, m0, c0, rfl⟩ := r_form hR
  have HM := hid (Kd.R_bound hR)
  obtain ⟨oks, hoks⟩ : ∃ b, o.isSome = b := ⟨_, rfl⟩
  obtain ⟨nn, hnn⟩ : ∃ n : Int, (if oks = true then 0 else 170) = n := ⟨_, rfl⟩
  have HNN := hid hnn
  have HOK := hid hoks
  rw [hoks]
  obtain ⟨ev, hev⟩ : ∃ ev, errV oks = ev := ⟨_, rfl⟩
  rw [hev]
  have HEV := hid hev
  have hle : w.heap.size + 1 + 1 ≤ (Lib.bytesWorld ((w.alloc (.cells rowZ 41)).alloc (.cells (rowK 8) 41)) 5 s).heap.size := by have := HB3.out.size; rw [Lib.bytesWorld_size]; simp
  have HLE := hid hle
  have HA0' := hid ((hb.block _ (lt_of_heap HA0.out)).trans HA0.out : AtB w5 w.heap.size 41 rowZ)
  have hA1 : AtB w5 (w.heap.size + 1) 41 (rowK 8) := (hb.block _ (lt_of_heap HA1.out)).trans HA1.out
  have HB5 := hid (below_then HB3.out hb)
  have HG5 := hid (HG.out.below HB5.out HG.out.lt)
  have hc45 : ∃ u, w5.cell? ⟨w.heap.size + 1, 45, none⟩ = some u := ⟨_, (hA1.cell 45).trans rfl⟩
  obtain ⟨u45, hu45⟩ := hc45
  have hf45 := hA1.free 45
  have HA1' := hid hA1
  clear hb hR hev hoks hnn hA1 HA0 HA1 HB3 HG hle 
  go_wp2_with fail
  have q : AtB (w5.setCell ⟨w.heap.size + 1, 45, none⟩ (.slice A0 m0 c0)) (w.heap.size + 1) 41 ((rowK 8).setIfInBounds 45 (.slice A0 m0 c0)) := ((HA1'.out).set 45 (.slice A0 m0 c0))
  have hmod : Mod (fun k => k = w.heap.size + 1) w5 (w5.setCell ⟨w.heap.size + 1, 45, none⟩ (.slice A0 m0 c0)) := (Mod.refl (fun k => k = w.heap.size + 1) w5).setCell ⟨w.heap.size + 1, 45, none⟩ (.slice A0 m0 c0) (.inl rfl)
  obtain ⟨W6, hW6⟩ : ∃ W, (w5.setCell ⟨w.heap.size + 1, 45, none⟩ (.slice A0 m0 c0)) = W := ⟨_, rfl⟩
  obtain ⟨V, hV⟩ : ∃ V, ((rowK 8).setIfInBounds 45 (.slice A0 m0 c0)) = V := ⟨_, rfl⟩
  rw [hW6] at q hmod ⊢
  rw [hV] at q
  have hVs : V.size = 46 := by rw [← hV]; simp only [Array.size_setIfInBounds]; exact rowK_size 8
  have HQ := hid q
  have HMO := hid hmod
  have HVV := hid hV
  have hg6 : ErrorType W6 := hmod.cell HG5.out (show ¬ (0 = w.heap.size + 1) by have := HGL.out; omega)
  have hb6 : Below w.heap.size w W6 := HB5.out.trans (hmod.below (by have := HB5.out.size; omega) (fun x e => by omega))
  have hz6 : AtB W6 w.heap.size 41 rowZ := hmod.heap HA0'.out (by omega)
  have HG6 := hid hg6
  have HZ6 := hid hz6
  have HB6 := hid hb6
  clear hg6 hz6 hb6 hmod hV hW6
  have LT : 0 < V.toList.length := by rw [Array.length_toList]; omega
  have hi : (Tryd.prog.info? 41).map (·.size) = some V.toList.length := by rw [Array.length_toList, hVs]; exact rowInfo
  have hrA : W6.drew.rangeAt (w.heap.size + 1) 0 V.toList := (World.rangeAt_drew _ _ _ _).2 (range_of_atB q)
  refine wp_region_held_drew (S := fun W => Below w.heap.size w W ∧ W.rangeAt (w.heap.size + 1) 0 V.toList) (by kernel_rfl) ⟨Below.drew HB6.out, hrA⟩ (fun hHeld => ?_)
  refine wpAnyH_take (i := 0) (v := _) rfl (by kernel_rfl) (by kernel_rfl) (by kernel_rfl) (fun _ _ _ h => h) (yieldsIf_load_mid (by rfl) _ _ rfl (w.heap.size + 1) 0 rfl V.toList _ (fun W hW => hW.2) Tryd.underlying41 rfl hi) hHeld ?_
  try simp only [Act.put, List.setIfInBounds_toArray, Array.toArray_toList]
  refine wpAnyH_take (i := 1) (v := ev) rfl (by kernel_rfl) (by kernel_rfl) (by kernel_rfl) (fun _ _ _ h => h) (Or.inl ⟨by rfl, fun W hW => by go_simp⟩) hHeld ?_
  try simp only [Act.put]
  refine wpAnyH_ready (rs := [2]) (by kernel_rfl) (by simp) ?_
  refine AllReadyH.cons rfl (fun K hK => ?_) AllReadyH.nil
  go_simp
  have hN : Calls Tryd.prog 20 #[ev] W6.drew fun e w' => e = .returned (.int .i64 nn) ∧ Below W6.drew.heap.size W6.drew w' := by rw [← HEV.out, ← HNN.out]; exact num_errV W6.drew HG6.out oks
  refine hN.mono ?_
  clear hN
  rintro e w7 ⟨rfl, hb7⟩
  have hB7 := hHeld.1.trans (hb7.mono hHeld.1.size)
  have hR7 := range_of_below hb7 hHeld.2 LT
  have hz7 : AtB w7 w.heap.size 41 rowZ := (hb7.block w.heap.size (lt_of_heap HZ6.out)).trans HZ6.out
  have hm7 : Mod (fun k => k = w.heap.size + 1 ∨ k = w.heap.size) w5 w7 := (HMO.out.mono (fun _ _ e => .inl e)).trans (Mod.new (show Below W6.heap.size W6 w7 from ⟨hb7.os, hb7.tape, hb7.output, hb7.size, hb7.block⟩) (fun _ => False)) (fun _ e => e.elim)
  have HM7 := hid hm7
  have HZ7 := hid hz7
  clear hHeld hm7 hz7 hb7
  refine hK.out _ _ ⟨hB7, hR7⟩ (fun hHeld => ?_)
  clear hK K hB7
  try simp only [Act.put, List.setIfInBounds_toArray, List.set_cons_zero, List.set_cons_succ]
  refine wpAnyH_ready (rs := [3]) (by kernel_rfl) (by simp) ?_
  refine AllReadyH.cons rfl (fun K hK => ?_) AllReadyH.nil
  rw [if_pos (by rfl)]
  refine wp_store_row 41 (.tmp 4) (.tmp 78) rfl w.heap.size V rfl rfl 41 rowZ HZ7.out (by rw [hVs]; exact rowInfo) (by rw [hVs]; rfl) (by rw [← HVV.out]; kernel_rfl) ?_
  have hm8 : Mod (fun k => k = w.heap.size + 1 ∨ k = w.heap.size) w5 (w7.setRow w.heap.size V) := HM7.out.trans (mod_setRow w7 w.heap.size V) (fun _ e => .inl (.inr e))
  have hB8 : Below w.heap.size w (w7.setRow w.heap.size V) := hHeld.1.trans ((mod_setRow w7 w.heap.size V).below hHeld.1.size (fun x e => by omega))
  have hR8 : (w7.setRow w.heap.size V).rangeAt (w.heap.size + 1) 0 V.toList := fun j v hv => (mod_setRow w7 w.heap.size V).cell (hHeld.2 j v hv) (show ¬ (w.heap.size + 1 = w.heap.size) by omega)
  have hz8 : AtB (w7.setRow w.heap.size V) w.heap.size 41 V := at_setRow HZ7.out V
  generalize w7.setRow w.heap.size V = w8 at hm8 hB8 hR8 hz8 ⊢
  clear hHeld
  refine hK.out _ _ ⟨hB8, hR8⟩ (fun hHeld => ?_)
  clear hK K
  try simp only [Act.put, List.setIfInBounds_toArray]
  refine wpAnyH_ready (rs := [4]) (by kernel_rfl) (by simp) ?_
  refine AllReadyH.cons rfl (fun K hK => ?_) AllReadyH.nil
  go_simp
  refine hK.out _ _ hHeld (fun hHeld => ?_)
  clear hK K
  try simp only [Act.put, List.setIfInBounds_toArray, List.set_cons_zero, List.set_cons_succ]
  refine wpAnyH_done (by kernel_rfl) ?_ _
  have HBE := hid hB8
  have HZE := hid hz8
  have HME := hid hm8
  clear hHeld hB8 hR8 hz8 hm8 hrA
  go_wp2_with fail
  refine bodyPost_ret (results_ct rfl _ _ w.heap.size 41 V (0, 0) _ rfl HZE.out Tryd.underlying41 rfl (by rw [hVs]; exact rowInfo)) rfl ?_
  refine ⟨V.toList, by rw [Array.toArray_toList, HOK.out, HNN.out]; rfl, ?_, HBE.out⟩
  have hm9 := Kd.R_lower (base' := w.heap.size) (hb := by have := HLE.out; omega) (h := Kd.R_mono (Kd.R_step HM.out (fun k hk hlt => HME.out.block k hlt (fun e => by have := hk.2.1; have := HLE.out; omega))) (fun _ _ => trivial))
  have hfin := k41_mkM w8 w.heap.size (fun _ => True) (rowKeysR y) (Kd.R_nil _ _ _ _ _) (Kd.R_nil _ _ _ _ _) (Kd.R_nil _ _ _ _ _) (Kd.R_nil _ _ _ _ _) (Kd.R_nil _ _ _ _ _) (Kd.R_nil _ _ _ _ _) (Kd.R_nil _ _ _ _ _) hm9
  have key : ∀ c c', c = c' → k41.M w8 w.heap.size (fun _ => True) (rowKeysR y) c → k41.M w8 w.heap.size (fun _ => True) (rowKeysR y) c' := fun _ _ e h => e ▸ h
  rw [← HVV.out, hy]
  exact key _ _ (by kernel_rfl) hfin
end Go.Proofs.YtcgjacffemjehaaDoor

/-
  RowReadAccess, RowReadResource, RowReadTicket, RowReadKeys, RowAt, RowDConsent: this proof's parts in one text.
-/
import Derived.Test.YtcgjacffemjehaaDoorMRowReadsRowc
import Derived.Test.YtcgjacffemjehaaDoorMRowReadsRowd
import Derived.Test.YtcgjacffemjehaaDoorMRowReadsRowg
import Derived.Test.YtcgjacffemjehaaDoorMRowReadsRowh
namespace Go.Proofs.YtcgjacffemjehaaDoor
open Go.RowKit
open Go.Proofs.YtcgjacffemjehaaDoorW.PrintWords (Kd rdOf results_ct)
open Go.Proofs.YtcgjacffemjehaaDoor.PRowReads
set_option linter.unusedVariables false
set_option maxHeartbeats 8000000 in
set_option maxRecDepth 100000 in
theorem readAccess (w : World) (hg : ErrorType w) (s : ByteArray) (hs : s.size ≤ 1099511627776) :
    Calls Tryd.prog 6 #[.int .i64 5, .string s] w (ReadPost (rowAccess ((unR (accessR s.data.toList false)).getD z34)) (unR (accessR s.data.toList false)).isSome w) := by
  have kc := fun (w : World) => Lib.run_convert_string_bytes (P := Tryd.prog) w 9 49 5 s Tryd.underlying9 Tryd.underlying49 Tryd.underlying5
  have hb2 : Below w.heap.size w ((w.alloc (.cells rowZ 41)).alloc (.cells (rowK 5) 41)) := ((Below.refl w.heap.size w).alloc (Nat.le_refl _) _).alloc (by simp) _
  have hs2 : ((w.alloc (.cells rowZ 41)).alloc (.cells (rowK 5) 41)).heap.size = w.heap.size + 1 + 1 := by simp
  have ha0 : AtB ((w.alloc (.cells rowZ 41)).alloc (.cells (rowK 5) 41)) w.heap.size 41 rowZ := (at_make rfl).alloc _
  have ha1 : AtB ((w.alloc (.cells rowZ 41)).alloc (.cells (rowK 5) 41)) (w.heap.size + 1) 41 (rowK 5) := at_make (by simp)
  obtain ⟨o, ho⟩ : ∃ o, unR (accessR s.data.toList false) = o := ⟨_, rfl⟩
  have hrw := reads_world ((w.alloc (.cells rowZ 41)).alloc (.cells (rowK 5) 41)) 5 s
  rw [str_len, hs2] at hrw
  have hb3 := below_bytes ((w.alloc (.cells rowZ 41)).alloc (.cells (rowK 5) 41)) 5 s
  have hc := toAccess_any _ _ _ hrw (by rw [str_len]; exact hs)
  rw [ho] at hc ⊢
  have HC := hid hc
  have HB3 := hid (below_then hb2 hb3)
  have HA0 := hid ((hb3.block _ (lt_of_heap ha0)).trans ha0 : AtB _ w.heap.size 41 rowZ)
  have HA1 := hid ((hb3.block _ (lt_of_heap ha1)).trans ha1 : AtB _ (w.heap.size + 1) 41 (rowK 5))
  have HG := hid hg
  have HGL := hid hg.lt
  clear hb2 hs2 ha0 ha1 hrw hb3 hc hg ho
  go_enter Tryd.func6, Tryd.ntmps6
  go_wp2_with (first | (refine wpList_allocTo rfl (some 4) rfl _ _ (run_allocRow _ _ rfl _) ?_) | (refine wpList_allocTo rfl (some 6) rfl _ _ (run_allocRow _ _ rfl _) ?_) | (refine wpList_buildTo rfl 41 _ rfl (some 10) rfl (rowK 5) (by kernel_rfl) ?_) | (refine wpList_store_new rfl 41 (.tmp 6) (.tmp 10) rfl rfl (w.alloc (.cells rowZ 41)) 41 rowZ (rowK 5) rfl (by simp only [World.size_alloc]; rfl) rfl (by kernel_rfl) (by kernel_rfl) (by kernel_rfl) ?_))
  go_at_call 16
  refine HC.out.mono ?_
  clear HC
  intro e w5 hq
  obtain ⟨cs3, rfl, hM, hb⟩ := hq
  obtain ⟨y, hy⟩ : ∃ y, o.getD z34 = y := ⟨_, rfl⟩
  rw [hy] at hM ⊢
  obtain ⟨v5, v6, rfl, g5, g6⟩ := k34_openM hM
  obtain ⟨A5, m5, c5, rfl⟩ := r_form g5
  obtain ⟨A6, m6, c6, rfl⟩ := r_form g6
  have HM := hid (k34.M_bound hM)
  obtain ⟨oks, hoks⟩ : ∃ b, o.isSome = b := ⟨_, rfl⟩
  obtain ⟨nn, hnn⟩ : ∃ n : Int, (if oks = true then 0 else 170) = n := ⟨_, rfl⟩
  have HNN := hid hnn
  have HOK := hid hoks
  rw [hoks]
  obtain ⟨ev, hev⟩ : ∃ ev, errV oks = ev := ⟨_, rfl⟩
  rw [hev]
  have HEV := hid hev
  have hle : w.heap.size + 1 + 1 ≤ (Lib.bytesWorld ((w.alloc (.cells rowZ 41)).alloc (.cells (rowK 5) 41)) 5 s).heap.size := by have := HB3.out.size; rw [Lib.bytesWorld_size]; simp
  have HLE := hid hle
  have HA0' := hid ((hb.block _ (lt_of_heap HA0.out)).trans HA0.out : AtB w5 w.heap.size 41 rowZ)
  have hA1 : AtB w5 (w.heap.size + 1) 41 (rowK 5) := (hb.block _ (lt_of_heap HA1.out)).trans HA1.out
  have HB5 := hid (below_then HB3.out hb)
  have HG5 := hid (HG.out.below HB5.out HG.out.lt)
  have hc23 : ∃ u, w5.cell? ⟨w.heap.size + 1, 23, none⟩ = some u := ⟨_, (hA1.cell 23).trans rfl⟩
  obtain ⟨u23, hu23⟩ := hc23
  have hf23 := hA1.free 23
  have hc24 : ∃ u, w5.cell? ⟨w.heap.size + 1, 24, none⟩ = some u := ⟨_, (hA1.cell 24).trans rfl⟩
  obtain ⟨u24, hu24⟩ := hc24
  have hf24 := hA1.free 24
  have hc25 : ∃ u, w5.cell? ⟨w.heap.size + 1, 25, none⟩ = some u := ⟨_, (hA1.cell 25).trans rfl⟩
  obtain ⟨u25, hu25⟩ := hc25
  have hf25 := hA1.free 25
  have hc26 : ∃ u, w5.cell? ⟨w.heap.size + 1, 26, none⟩ = some u := ⟨_, (hA1.cell 26).trans rfl⟩
  obtain ⟨u26, hu26⟩ := hc26
  have hf26 := hA1.free 26
  have hc27 : ∃ u, w5.cell? ⟨w.heap.size + 1, 27, none⟩ = some u := ⟨_, (hA1.cell 27).trans rfl⟩
  obtain ⟨u27, hu27⟩ := hc27
  have hf27 := hA1.free 27
  have hc28 : ∃ u, w5.cell? ⟨w.heap.size + 1, 28, none⟩ = some u := ⟨_, (hA1.cell 28).trans rfl⟩
  obtain ⟨u28, hu28⟩ := hc28
  have hf28 := hA1.free 28
  have hc29 : ∃ u, w5.cell? ⟨w.heap.size + 1, 29, none⟩ = some u := ⟨_, (hA1.cell 29).trans rfl⟩
  obtain ⟨u29, hu29⟩ := hc29
  have hf29 := hA1.free 29
  have hc30 : ∃ u, w5.cell? ⟨w.heap.size + 1, 30, none⟩ = some u := ⟨_, (hA1.cell 30).trans rfl⟩
  obtain ⟨u30, hu30⟩ := hc30
  have hf30 := hA1.free 30
  have hc31 : ∃ u, w5.cell? ⟨w.heap.size + 1, 31, none⟩ = some u := ⟨_, (hA1.cell 31).trans rfl⟩
  obtain ⟨u31, hu31⟩ := hc31
  have hf31 := hA1.free 31
  have hc32 : ∃ u, w5.cell? ⟨w.heap.size + 1, 32, none⟩ = some u := ⟨_, (hA1.cell 32).trans rfl⟩
  obtain ⟨u32, hu32⟩ := hc32
  have hf32 := hA1.free 32
  have HA1' := hid hA1
  clear hb hM hev hoks hnn hA1 HA0 HA1 HB3 HG hle g5 g6
  go_wp2_with fail
  have q : AtB ((((((((((w5.setCell ⟨w.heap.size + 1, 23, none⟩ (.string y.f0)).setCell ⟨w.heap.size + 1, 24, none⟩ (.string y.f1)).setCell ⟨w.heap.size + 1, 25, none⟩ (.string y.f2)).setCell ⟨w.heap.size + 1, 26, none⟩ (.string y.f3)).setCell ⟨w.heap.size + 1, 27, none⟩ (.string y.f4)).setCell ⟨w.heap.size + 1, 28, none⟩ (.slice A5 m5 c5)).setCell ⟨w.heap.size + 1, 29, none⟩ (.slice A6 m6 c6)).setCell ⟨w.heap.size + 1, 30, none⟩ (.int .i64 y.f7)).setCell ⟨w.heap.size + 1, 31, none⟩ (.int .i64 y.f8)).setCell ⟨w.heap.size + 1, 32, none⟩ (.bool y.f9)) (w.heap.size + 1) 41 (((((((((((rowK 5).setIfInBounds 23 (.string y.f0)).setIfInBounds 24 (.string y.f1)).setIfInBounds 25 (.string y.f2)).setIfInBounds 26 (.string y.f3)).setIfInBounds 27 (.string y.f4)).setIfInBounds 28 (.slice A5 m5 c5)).setIfInBounds 29 (.slice A6 m6 c6)).setIfInBounds 30 (.int .i64 y.f7)).setIfInBounds 31 (.int .i64 y.f8)).setIfInBounds 32 (.bool y.f9)) := (((((((((((HA1'.out).set 23 (.string y.f0)).set 24 (.string y.f1)).set 25 (.string y.f2)).set 26 (.string y.f3)).set 27 (.string y.f4)).set 28 (.slice A5 m5 c5)).set 29 (.slice A6 m6 c6)).set 30 (.int .i64 y.f7)).set 31 (.int .i64 y.f8)).set 32 (.bool y.f9))
  have hmod : Mod (fun k => k = w.heap.size + 1) w5 ((((((((((w5.setCell ⟨w.heap.size + 1, 23, none⟩ (.string y.f0)).setCell ⟨w.heap.size + 1, 24, none⟩ (.string y.f1)).setCell ⟨w.heap.size + 1, 25, none⟩ (.string y.f2)).setCell ⟨w.heap.size + 1, 26, none⟩ (.string y.f3)).setCell ⟨w.heap.size + 1, 27, none⟩ (.string y.f4)).setCell ⟨w.heap.size + 1, 28, none⟩ (.slice A5 m5 c5)).setCell ⟨w.heap.size + 1, 29, none⟩ (.slice A6 m6 c6)).setCell ⟨w.heap.size + 1, 30, none⟩ (.int .i64 y.f7)).setCell ⟨w.heap.size + 1, 31, none⟩ (.int .i64 y.f8)).setCell ⟨w.heap.size + 1, 32, none⟩ (.bool y.f9)) := ((((((((((Mod.refl (fun k => k = w.heap.size + 1) w5).setCell ⟨w.heap.size + 1, 23, none⟩ (.string y.f0) (.inl rfl)).setCell ⟨w.heap.size + 1, 24, none⟩ (.string y.f1) (.inl rfl)).setCell ⟨w.heap.size + 1, 25, none⟩ (.string y.f2) (.inl rfl)).setCell ⟨w.heap.size + 1, 26, none⟩ (.string y.f3) (.inl rfl)).setCell ⟨w.heap.size + 1, 27, none⟩ (.string y.f4) (.inl rfl)).setCell ⟨w.heap.size + 1, 28, none⟩ (.slice A5 m5 c5) (.inl rfl)).setCell ⟨w.heap.size + 1, 29, none⟩ (.slice A6 m6 c6) (.inl rfl)).setCell ⟨w.heap.size + 1, 30, none⟩ (.int .i64 y.f7) (.inl rfl)).setCell ⟨w.heap.size + 1, 31, none⟩ (.int .i64 y.f8) (.inl rfl)).setCell ⟨w.heap.size + 1, 32, none⟩ (.bool y.f9) (.inl rfl)
  obtain ⟨W6, hW6⟩ : ∃ W, ((((((((((w5.setCell ⟨w.heap.size + 1, 23, none⟩ (.string y.f0)).setCell ⟨w.heap.size + 1, 24, none⟩ (.string y.f1)).setCell ⟨w.heap.size + 1, 25, none⟩ (.string y.f2)).setCell ⟨w.heap.size + 1, 26, none⟩ (.string y.f3)).setCell ⟨w.heap.size + 1, 27, none⟩ (.string y.f4)).setCell ⟨w.heap.size + 1, 28, none⟩ (.slice A5 m5 c5)).setCell ⟨w.heap.size + 1, 29, none⟩ (.slice A6 m6 c6)).setCell ⟨w.heap.size + 1, 30, none⟩ (.int .i64 y.f7)).setCell ⟨w.heap.size + 1, 31, none⟩ (.int .i64 y.f8)).setCell ⟨w.heap.size + 1, 32, none⟩ (.bool y.f9)) = W := ⟨_, rfl⟩
  obtain ⟨V, hV⟩ : ∃ V, (((((((((((rowK 5).setIfInBounds 23 (.string y.f0)).setIfInBounds 24 (.string y.f1)).setIfInBounds 25 (.string y.f2)).setIfInBounds 26 (.string y.f3)).setIfInBounds 27 (.string y.f4)).setIfInBounds 28 (.slice A5 m5 c5)).setIfInBounds 29 (.slice A6 m6 c6)).setIfInBounds 30 (.int .i64 y.f7)).setIfInBounds 31 (.int .i64 y.f8)).setIfInBounds 32 (.bool y.f9)) = V := ⟨_, rfl⟩
  rw [hW6] at q hmod ⊢
  rw [hV] at q
  have hVs : V.size = 46 := by rw [← hV]; simp only [Array.size_setIfInBounds]; exact rowK_size 5
  have HQ := hid q
  have HMO := hid hmod
  have HVV := hid hV
  have hg6 : ErrorType W6 := hmod.cell HG5.out (show ¬ (0 = w.heap.size + 1) by have := HGL.out; omega)
  have hb6 : Below w.heap.size w W6 := HB5.out.trans (hmod.below (by have := HB5.out.size; omega) (fun x e => by omega))
  have hz6 : AtB W6 w.heap.size 41 rowZ := hmod.heap HA0'.out (by omega)
  have HG6 := hid hg6
  have HZ6 := hid hz6
  have HB6 := hid hb6
  clear hg6 hz6 hb6 hmod hV hW6
  have LT : 0 < V.toList.length := by rw [Array.length_toList]; omega
  have hi : (Tryd.prog.info? 41).map (·.size) = some V.toList.length := by rw [Array.length_toList, hVs]; exact rowInfo
  have hrA : W6.drew.rangeAt (w.heap.size + 1) 0 V.toList := (World.rangeAt_drew _ _ _ _).2 (range_of_atB q)
  refine wp_region_held_drew (S := fun W => Below w.heap.size w W ∧ W.rangeAt (w.heap.size + 1) 0 V.toList) (by kernel_rfl) ⟨Below.drew HB6.out, hrA⟩ (fun hHeld => ?_)
  refine wpAnyH_take (i := 0) (v := _) rfl (by kernel_rfl) (by kernel_rfl) (by kernel_rfl) (fun _ _ _ h => h) (yieldsIf_load_mid (by rfl) _ _ rfl (w.heap.size + 1) 0 rfl V.toList _ (fun W hW => hW.2) Tryd.underlying41 rfl hi) hHeld ?_
  try simp only [Act.put, List.setIfInBounds_toArray, Array.toArray_toList]
  refine wpAnyH_take (i := 1) (v := ev) rfl (by kernel_rfl) (by kernel_rfl) (by kernel_rfl) (fun _ _ _ h => h) (Or.inl ⟨by rfl, fun W hW => by go_simp⟩) hHeld ?_
  try simp only [Act.put]
  refine wpAnyH_ready (rs := [2]) (by kernel_rfl) (by simp) ?_
  refine AllReadyH.cons rfl (fun K hK => ?_) AllReadyH.nil
  go_simp
  have hN : Calls Tryd.prog 20 #[ev] W6.drew fun e w' => e = .returned (.int .i64 nn) ∧ Below W6.drew.heap.size W6.drew w' := by rw [← HEV.out, ← HNN.out]; exact num_errV W6.drew HG6.out oks
  refine hN.mono ?_
  clear hN
  rintro e w7 ⟨rfl, hb7⟩
  have hB7 := hHeld.1.trans (hb7.mono hHeld.1.size)
  have hR7 := range_of_below hb7 hHeld.2 LT
  have hz7 : AtB w7 w.heap.size 41 rowZ := (hb7.block w.heap.size (lt_of_heap HZ6.out)).trans HZ6.out
  have hm7 : Mod (fun k => k = w.heap.size + 1 ∨ k = w.heap.size) w5 w7 := (HMO.out.mono (fun _ _ e => .inl e)).trans (Mod.new (show Below W6.heap.size W6 w7 from ⟨hb7.os, hb7.tape, hb7.output, hb7.size, hb7.block⟩) (fun _ => False)) (fun _ e => e.elim)
  have HM7 := hid hm7
  have HZ7 := hid hz7
  clear hHeld hm7 hz7 hb7
  refine hK.out _ _ ⟨hB7, hR7⟩ (fun hHeld => ?_)
  clear hK K hB7
  try simp only [Act.put, List.setIfInBounds_toArray, List.set_cons_zero, List.set_cons_succ]
  refine wpAnyH_ready (rs := [3]) (by kernel_rfl) (by simp) ?_
  refine AllReadyH.cons rfl (fun K hK => ?_) AllReadyH.nil
  rw [if_pos (by rfl)]
  refine wp_store_row 41 (.tmp 4) (.tmp 78) rfl w.heap.size V rfl rfl 41 rowZ HZ7.out (by rw [hVs]; exact rowInfo) (by rw [hVs]; rfl) (by rw [← HVV.out]; kernel_rfl) ?_
  have hm8 : Mod (fun k => k = w.heap.size + 1 ∨ k = w.heap.size) w5 (w7.setRow w.heap.size V) := HM7.out.trans (mod_setRow w7 w.heap.size V) (fun _ e => .inl (.inr e))
  have hB8 : Below w.heap.size w (w7.setRow w.heap.size V) := hHeld.1.trans ((mod_setRow w7 w.heap.size V).below hHeld.1.size (fun x e => by omega))
  have hR8 : (w7.setRow w.heap.size V).rangeAt (w.heap.size + 1) 0 V.toList := fun j v hv => (mod_setRow w7 w.heap.size V).cell (hHeld.2 j v hv) (show ¬ (w.heap.size + 1 = w.heap.size) by omega)
  have hz8 : AtB (w7.setRow w.heap.size V) w.heap.size 41 V := at_setRow HZ7.out V
  generalize w7.setRow w.heap.size V = w8 at hm8 hB8 hR8 hz8 ⊢
  clear hHeld
  refine hK.out _ _ ⟨hB8, hR8⟩ (fun hHeld => ?_)
  clear hK K
  try simp only [Act.put, List.setIfInBounds_toArray]
  refine wpAnyH_ready (rs := [4]) (by kernel_rfl) (by simp) ?_
  refine AllReadyH.cons rfl (fun K hK => ?_) AllReadyH.nil
  go_simp
  refine hK.out _ _ hHeld (fun hHeld => ?_)
  clear hK K
  try simp only [Act.put, List.setIfInBounds_toArray, List.set_cons_zero, List.set_cons_succ]
  refine wpAnyH_done (by kernel_rfl) ?_ _
  have HBE := hid hB8
  have HZE := hid hz8
  have HME := hid hm8
  clear hHeld hB8 hR8 hz8 hm8 hrA
  go_wp2_with fail
  refine bodyPost_ret (results_ct rfl _ _ w.heap.size 41 V (0, 0) _ rfl HZE.out Tryd.underlying41 rfl (by rw [hVs]; exact rowInfo)) rfl ?_
  refine ⟨V.toList, by rw [Array.toArray_toList, HOK.out, HNN.out]; rfl, ?_, HBE.out⟩
  have hm9 : k34.M w8 w.heap.size (fun _ => True) y _ := up_mem HM.out (fun q hq e => by have := hq.2.1; have := HLE.out; omega) (by have := HLE.out; omega) HME.out
  obtain ⟨x5, x6, e9, r5, r6⟩ := k34_openM hm9
  cases e9
  have hfin := k41_mkM w8 w.heap.size (fun _ => True) (rowAccess y) (Kd.R_nil _ _ _ _ _) (Kd.R_nil _ _ _ _ _) (Kd.R_nil _ _ _ _ _) r5 r6 (Kd.R_nil _ _ _ _ _) (Kd.R_nil _ _ _ _ _) (Kd.R_nil _ _ _ _ _)
  have key : ∀ c c', c = c' → k41.M w8 w.heap.size (fun _ => True) (rowAccess y) c → k41.M w8 w.heap.size (fun _ => True) (rowAccess y) c' := fun _ _ e h => e ▸ h
  rw [← HVV.out, hy]
  exact key _ _ (by kernel_rfl) hfin
end Go.Proofs.YtcgjacffemjehaaDoor

namespace Go.Proofs.YtcgjacffemjehaaDoor
open Go.RowKit
open Go.Proofs.YtcgjacffemjehaaDoorW.PrintWords (Kd rdOf results_ct)
open Go.Proofs.YtcgjacffemjehaaDoor.PRowReads
set_option linter.unusedVariables false
set_option maxHeartbeats 8000000 in
set_option maxRecDepth 100000 in
theorem readResource (w : World) (hg : ErrorType w) (s : ByteArray) (hs : s.size ≤ 1099511627776) :
    Calls Tryd.prog 6 #[.int .i64 6, .string s] w (ReadPost (rowResource ((unR (resourceR s.data.toList false)).getD z36)) (unR (resourceR s.data.toList false)).isSome w) := by
  have kc := fun (w : World) => Lib.run_convert_string_bytes (P := Tryd.prog) w 9 49 5 s Tryd.underlying9 Tryd.underlying49 Tryd.underlying5
  have hb2 : Below w.heap.size w ((w.alloc (.cells rowZ 41)).alloc (.cells (rowK 6) 41)) := ((Below.refl w.heap.size w).alloc (Nat.le_refl _) _).alloc (by simp) _
  have hs2 : ((w.alloc (.cells rowZ 41)).alloc (.cells (rowK 6) 41)).heap.size = w.heap.size + 1 + 1 := by simp
  have ha0 : AtB ((w.alloc (.cells rowZ 41)).alloc (.cells (rowK 6) 41)) w.heap.size 41 rowZ := (at_make rfl).alloc _
  have ha1 : AtB ((w.alloc (.cells rowZ 41)).alloc (.cells (rowK 6) 41)) (w.heap.size + 1) 41 (rowK 6) := at_make (by simp)
  obtain ⟨o, ho⟩ : ∃ o, unR (resourceR s.data.toList false) = o := ⟨_, rfl⟩
  have hrw := reads_world ((w.alloc (.cells rowZ 41)).alloc (.cells (rowK 6) 41)) 5 s
  rw [str_len, hs2] at hrw
  have hb3 := below_bytes ((w.alloc (.cells rowZ 41)).alloc (.cells (rowK 6) 41)) 5 s
  have hc := toResource_any _ _ _ hrw (by rw [str_len]; exact hs)
  rw [ho] at hc ⊢
  have HC := hid hc
  have HB3 := hid (below_then hb2 hb3)
  have HA0 := hid ((hb3.block _ (lt_of_heap ha0)).trans ha0 : AtB _ w.heap.size 41 rowZ)
  have HA1 := hid ((hb3.block _ (lt_of_heap ha1)).trans ha1 : AtB _ (w.heap.size + 1) 41 (rowK 6))
  have HG := hid hg
  have HGL := hid hg.lt
  clear hb2 hs2 ha0 ha1 hrw hb3 hc hg ho
  go_enter Tryd.func6, Tryd.ntmps6
  go_wp2_with (first | (refine wpList_allocTo rfl (some 4) rfl _ _ (run_allocRow _ _ rfl _) ?_) | (refine wpList_allocTo rfl (some 6) rfl _ _ (run_allocRow _ _ rfl _) ?_) | (refine wpList_buildTo rfl 41 _ rfl (some 10) rfl (rowK 6) (by kernel_rfl) ?_) | (refine wpList_store_new rfl 41 (.tmp 6) (.tmp 10) rfl rfl (w.alloc (.cells rowZ 41)) 41 rowZ (rowK 6) rfl (by simp only [World.size_alloc]; rfl) rfl (by kernel_rfl) (by kernel_rfl) (by kernel_rfl) ?_))
  go_at_call 17
  refine HC.out.mono ?_
  clear HC
  intro e w5 hq
  obtain ⟨cs3, rfl, hM, hb⟩ := hq
  obtain ⟨y, hy⟩ : ∃ y, o.getD z36 = y := ⟨_, rfl⟩
  rw [hy] at hM ⊢
  obtain ⟨v4, rfl, g4⟩ := k36_openM hM
  obtain ⟨A4, m4, c4, rfl⟩ := r_form g4
  have HM := hid (k36.M_bound hM)
  obtain ⟨oks, hoks⟩ : ∃ b, o.isSome = b := ⟨_, rfl⟩
  obtain ⟨nn, hnn⟩ : ∃ n : Int, (if oks = true then 0 else 170) = n := ⟨_, rfl⟩
  have HNN := hid hnn
  have HOK := hid hoks
  rw [hoks]
  obtain ⟨ev, hev⟩ : ∃ ev, errV oks = ev := ⟨_, rfl⟩
  rw [hev]
  have HEV := hid hev
  have hle : w.heap.size + 1 + 1 ≤ (Lib.bytesWorld ((w.alloc (.cells rowZ 41)).alloc (.cells (rowK 6) 41)) 5 s).heap.size := by have := HB3.out.size; rw [Lib.bytesWorld_size]; simp
  have HLE := hid hle
  have HA0' := hid ((hb.block _ (lt_of_heap HA0.out)).trans HA0.out : AtB w5 w.heap.size 41 rowZ)
  have hA1 : AtB w5 (w.heap.size + 1) 41 (rowK 6) := (hb.block _ (lt_of_heap HA1.out)).trans HA1.out
  have HB5 := hid (below_then HB3.out hb)
  have HG5 := hid (HG.out.below HB5.out HG.out.lt)
  have hc33 : ∃ u, w5.cell? ⟨w.heap.size + 1, 33, none⟩ = some u := ⟨_, (hA1.cell 33).trans rfl⟩
  obtain ⟨u33, hu33⟩ := hc33
  have hf33 := hA1.free 33
  have hc34 : ∃ u, w5.cell? ⟨w.heap.size + 1, 34, none⟩ = some u := ⟨_, (hA1.cell 34).trans rfl⟩
  obtain ⟨u34, hu34⟩ := hc34
  have hf34 := hA1.free 34
  have hc35 : ∃ u, w5.cell? ⟨w.heap.size + 1, 35, none⟩ = some u := ⟨_, (hA1.cell 35).trans rfl⟩
  obtain ⟨u35, hu35⟩ := hc35
  have hf35 := hA1.free 35
  have hc36 : ∃ u, w5.cell? ⟨w.heap.size + 1, 36, none⟩ = some u := ⟨_, (hA1.cell 36).trans rfl⟩
  obtain ⟨u36, hu36⟩ := hc36
  have hf36 := hA1.free 36
  have hc37 : ∃ u, w5.cell? ⟨w.heap.size + 1, 37, none⟩ = some u := ⟨_, (hA1.cell 37).trans rfl⟩
  obtain ⟨u37, hu37⟩ := hc37
  have hf37 := hA1.free 37
  have hc38 : ∃ u, w5.cell? ⟨w.heap.size + 1, 38, none⟩ = some u := ⟨_, (hA1.cell 38).trans rfl⟩
  obtain ⟨u38, hu38⟩ := hc38
  have hf38 := hA1.free 38
  have HA1' := hid hA1
  clear hb hM hev hoks hnn hA1 HA0 HA1 HB3 HG hle g4
  go_wp2_with fail
  have q : AtB ((((((w5.setCell ⟨w.heap.size + 1, 33, none⟩ (.string y.f0)).setCell ⟨w.heap.size + 1, 34, none⟩ (.string y.f1)).setCell ⟨w.heap.size + 1, 35, none⟩ (.string y.f2)).setCell ⟨w.heap.size + 1, 36, none⟩ (.string y.f3)).setCell ⟨w.heap.size + 1, 37, none⟩ (.slice A4 m4 c4)).setCell ⟨w.heap.size + 1, 38, none⟩ (.string y.f5)) (w.heap.size + 1) 41 (((((((rowK 6).setIfInBounds 33 (.string y.f0)).setIfInBounds 34 (.string y.f1)).setIfInBounds 35 (.string y.f2)).setIfInBounds 36 (.string y.f3)).setIfInBounds 37 (.slice A4 m4 c4)).setIfInBounds 38 (.string y.f5)) := (((((((HA1'.out).set 33 (.string y.f0)).set 34 (.string y.f1)).set 35 (.string y.f2)).set 36 (.string y.f3)).set 37 (.slice A4 m4 c4)).set 38 (.string y.f5))
  have hmod : Mod (fun k => k = w.heap.size + 1) w5 ((((((w5.setCell ⟨w.heap.size + 1, 33, none⟩ (.string y.f0)).setCell ⟨w.heap.size + 1, 34, none⟩ (.string y.f1)).setCell ⟨w.heap.size + 1, 35, none⟩ (.string y.f2)).setCell ⟨w.heap.size + 1, 36, none⟩ (.string y.f3)).setCell ⟨w.heap.size + 1, 37, none⟩ (.slice A4 m4 c4)).setCell ⟨w.heap.size + 1, 38, none⟩ (.string y.f5)) := ((((((Mod.refl (fun k => k = w.heap.size + 1) w5).setCell ⟨w.heap.size + 1, 33, none⟩ (.string y.f0) (.inl rfl)).setCell ⟨w.heap.size + 1, 34, none⟩ (.string y.f1) (.inl rfl)).setCell ⟨w.heap.size + 1, 35, none⟩ (.string y.f2) (.inl rfl)).setCell ⟨w.heap.size + 1, 36, none⟩ (.string y.f3) (.inl rfl)).setCell ⟨w.heap.size + 1, 37, none⟩ (.slice A4 m4 c4) (.inl rfl)).setCell ⟨w.heap.size + 1, 38, none⟩ (.string y.f5) (.inl rfl)
  obtain ⟨W6, hW6⟩ : ∃ W, ((((((w5.setCell ⟨w.heap.size + 1, 33, none⟩ (.string y.f0)).setCell ⟨w.heap.size + 1, 34, none⟩ (.string y.f1)).setCell ⟨w.heap.size + 1, 35, none⟩ (.string y.f2)).setCell ⟨w.heap.size + 1, 36, none⟩ (.string y.f3)).setCell ⟨w.heap.size + 1, 37, none⟩ (.slice A4 m4 c4)).setCell ⟨w.heap.size + 1, 38, none⟩ (.string y.f5)) = W := ⟨_, rfl⟩
  obtain ⟨V, hV⟩ : ∃ V, (((((((rowK 6).setIfInBounds 33 (.string y.f0)).setIfInBounds 34 (.string y.f1)).setIfInBounds 35 (.string y.f2)).setIfInBounds 36 (.string y.f3)).setIfInBounds 37 (.slice A4 m4 c4)).setIfInBounds 38 (.string y.f5)) = V := ⟨_, rfl⟩
  rw [hW6] at q hmod ⊢
  rw [hV] at q
  have hVs : V.size = 46 := by rw [← hV]; simp only [Array.size_setIfInBounds]; exact rowK_size 6
  have HQ := hid q
  have HMO := hid hmod
  have HVV := hid hV
  have hg6 : ErrorType W6 := hmod.cell HG5.out (show ¬ (0 = w.heap.size + 1) by have := HGL.out; omega)
  have hb6 : Below w.heap.size w W6 := HB5.out.trans (hmod.below (by have := HB5.out.size; omega) (fun x e => by omega))
  have hz6 : AtB W6 w.heap.size 41 rowZ := hmod.heap HA0'.out (by omega)
  have HG6 := hid hg6
  have HZ6 := hid hz6
  have HB6 := hid hb6
  clear hg6 hz6 hb6 hmod hV hW6
  have LT : 0 < V.toList.length := by rw [Array.length_toList]; omega
  have hi : (Tryd.prog.info? 41).map (·.size) = some V.toList.length := by rw [Array.length_toList, hVs]; exact rowInfo
  have hrA : W6.drew.rangeAt (w.heap.size + 1) 0 V.toList := (World.rangeAt_drew _ _ _ _).2 (range_of_atB q)
  refine wp_region_held_drew (S := fun W => Below w.heap.size w W ∧ W.rangeAt (w.heap.size + 1) 0 V.toList) (by kernel_rfl) ⟨Below.drew HB6.out, hrA⟩ (fun hHeld => ?_)
  refine wpAnyH_take (i := 0) (v := _) rfl (by kernel_rfl) (by kernel_rfl) (by kernel_rfl) (fun _ _ _ h => h) (yieldsIf_load_mid (by rfl) _ _ rfl (w.heap.size + 1) 0 rfl V.toList _ (fun W hW => hW.2) Tryd.underlying41 rfl hi) hHeld ?_
  try simp only [Act.put, List.setIfInBounds_toArray, Array.toArray_toList]
  refine wpAnyH_take (i := 1) (v := ev) rfl (by kernel_rfl) (by kernel_rfl) (by kernel_rfl) (fun _ _ _ h => h) (Or.inl ⟨by rfl, fun W hW => by go_simp⟩) hHeld ?_
  try simp only [Act.put]
  refine wpAnyH_ready (rs := [2]) (by kernel_rfl) (by simp) ?_
  refine AllReadyH.cons rfl (fun K hK => ?_) AllReadyH.nil
  go_simp
  have hN : Calls Tryd.prog 20 #[ev] W6.drew fun e w' => e = .returned (.int .i64 nn) ∧ Below W6.drew.heap.size W6.drew w' := by rw [← HEV.out, ← HNN.out]; exact num_errV W6.drew HG6.out oks
  refine hN.mono ?_
  clear hN
  rintro e w7 ⟨rfl, hb7⟩
  have hB7 := hHeld.1.trans (hb7.mono hHeld.1.size)
  have hR7 := range_of_below hb7 hHeld.2 LT
  have hz7 : AtB w7 w.heap.size 41 rowZ := (hb7.block w.heap.size (lt_of_heap HZ6.out)).trans HZ6.out
  have hm7 : Mod (fun k => k = w.heap.size + 1 ∨ k = w.heap.size) w5 w7 := (HMO.out.mono (fun _ _ e => .inl e)).trans (Mod.new (show Below W6.heap.size W6 w7 from ⟨hb7.os, hb7.tape, hb7.output, hb7.size, hb7.block⟩) (fun _ => False)) (fun _ e => e.elim)
  have HM7 := hid hm7
  have HZ7 := hid hz7
  clear hHeld hm7 hz7 hb7
  refine hK.out _ _ ⟨hB7, hR7⟩ (fun hHeld => ?_)
  clear hK K hB7
  try simp only [Act.put, List.setIfInBounds_toArray, List.set_cons_zero, List.set_cons_succ]
  refine wpAnyH_ready (rs := [3]) (by kernel_rfl) (by simp) ?_
  refine AllReadyH.cons rfl (fun K hK => ?_) AllReadyH.nil
  rw [if_pos (by rfl)]
  refine wp_store_row 41 (.tmp 4) (.tmp 78) rfl w.heap.size V rfl rfl 41 rowZ HZ7.out (by rw [hVs]; exact rowInfo) (by rw [hVs]; rfl) (by rw [← HVV.out]; kernel_rfl) ?_
  have hm8 : Mod (fun k => k = w.heap.size + 1 ∨ k = w.heap.size) w5 (w7.setRow w.heap.size V) := HM7.out.trans (mod_setRow w7 w.heap.size V) (fun _ e => .inl (.inr e))
  have hB8 : Below w.heap.size w (w7.setRow w.heap.size V) := hHeld.1.trans ((mod_setRow w7 w.heap.size V).below hHeld.1.size (fun x e => by omega))
  have hR8 : (w7.setRow w.heap.size V).rangeAt (w.heap.size + 1) 0 V.toList := fun j v hv => (mod_setRow w7 w.heap.size V).cell (hHeld.2 j v hv) (show ¬ (w.heap.size + 1 = w.heap.size) by omega)
  have hz8 : AtB (w7.setRow w.heap.size V) w.heap.size 41 V := at_setRow HZ7.out V
  generalize w7.setRow w.heap.size V = w8 at hm8 hB8 hR8 hz8 ⊢
  clear hHeld
  refine hK.out _ _ ⟨hB8, hR8⟩ (fun hHeld => ?_)
  clear hK K
  try simp only [Act.put, List.setIfInBounds_toArray]
  refine wpAnyH_ready (rs := [4]) (by kernel_rfl) (by simp) ?_
  refine AllReadyH.cons rfl (fun K hK => ?_) AllReadyH.nil
  go_simp
  refine hK.out _ _ hHeld (fun hHeld => ?_)
  clear hK K
  try simp only [Act.put, List.setIfInBounds_toArray, List.set_cons_zero, List.set_cons_succ]
  refine wpAnyH_done (by kernel_rfl) ?_ _
  have HBE := hid hB8
  have HZE := hid hz8
  have HME := hid hm8
  clear hHeld hB8 hR8 hz8 hm8 hrA
  go_wp2_with fail
  refine bodyPost_ret (results_ct rfl _ _ w.heap.size 41 V (0, 0) _ rfl HZE.out Tryd.underlying41 rfl (by rw [hVs]; exact rowInfo)) rfl ?_
  refine ⟨V.toList, by rw [Array.toArray_toList, HOK.out, HNN.out]; rfl, ?_, HBE.out⟩
  have hm9 : k36.M w8 w.heap.size (fun _ => True) y _ := up_mem HM.out (fun q hq e => by have := hq.2.1; have := HLE.out; omega) (by have := HLE.out; omega) HME.out
  obtain ⟨x4, e9, r4⟩ := k36_openM hm9
  cases e9
  have hfin := k41_mkM w8 w.heap.size (fun _ => True) (rowResource y) (Kd.R_nil _ _ _ _ _) (Kd.R_nil _ _ _ _ _) (Kd.R_nil _ _ _ _ _) (Kd.R_nil _ _ _ _ _) (Kd.R_nil _ _ _ _ _) r4 (Kd.R_nil _ _ _ _ _) (Kd.R_nil _ _ _ _ _)
  have key : ∀ c c', c = c' → k41.M w8 w.heap.size (fun _ => True) (rowResource y) c → k41.M w8 w.heap.size (fun _ => True) (rowResource y) c' := fun _ _ e h => e ▸ h
  rw [← HVV.out, hy]
  exact key _ _ (by kernel_rfl) hfin
end Go.Proofs.YtcgjacffemjehaaDoor

namespace Go.Proofs.YtcgjacffemjehaaDoor
open Go.RowKit
open Go.Proofs.YtcgjacffemjehaaDoorW.PrintWords (Kd rdOf results_ct)
open Go.Proofs.YtcgjacffemjehaaDoor.PRowReads
set_option linter.unusedVariables false
set_option maxHeartbeats 8000000 in
set_option maxRecDepth 100000 in
theorem readTicket (w : World) (hg : ErrorType w) (s : ByteArray) (hs : s.size ≤ 1099511627776) :
    Calls Tryd.prog 6 #[.int .i64 7, .string s] w (ReadPost (rowTicket ((unR (ticketR s.data.toList false)).getD z38)) (unR (ticketR s.data.toList false)).isSome w) := by
  have kc := fun (w : World) => Lib.run_convert_string_bytes (P := Tryd.prog) w 9 49 5 s Tryd.underlying9 Tryd.underlying49 Tryd.underlying5
  have hb2 : Below w.heap.size w ((w.alloc (.cells rowZ 41)).alloc (.cells (rowK 7) 41)) := ((Below.refl w.heap.size w).alloc (Nat.le_refl _) _).alloc (by simp) _
  have hs2 : ((w.alloc (.cells rowZ 41)).alloc (.cells (rowK 7) 41)).heap.size = w.heap.size + 1 + 1 := by simp
  have ha0 : AtB ((w.alloc (.cells rowZ 41)).alloc (.cells (rowK 7) 41)) w.heap.size 41 rowZ := (at_make rfl).alloc _
  have ha1 : AtB ((w.alloc (.cells rowZ 41)).alloc (.cells (rowK 7) 41)) (w.heap.size + 1) 41 (rowK 7) := at_make (by simp)
  obtain ⟨o, ho⟩ : ∃ o, unR (ticketR s.data.toList false) = o := ⟨_, rfl⟩
  have hrw := reads_world ((w.alloc (.cells rowZ 41)).alloc (.cells (rowK 7) 41)) 5 s
  rw [str_len, hs2] at hrw
  have hb3 := below_bytes ((w.alloc (.cells rowZ 41)).alloc (.cells (rowK 7) 41)) 5 s
  have hc := toTicket_any _ _ _ hrw (by rw [str_len]; exact hs)
  rw [ho] at hc ⊢
  have HC := hid hc
  have HB3 := hid (below_then hb2 hb3)
  have HA0 := hid ((hb3.block _ (lt_of_heap ha0)).trans ha0 : AtB _ w.heap.size 41 rowZ)
  have HA1 := hid ((hb3.block _ (lt_of_heap ha1)).trans ha1 : AtB _ (w.heap.size + 1) 41 (rowK 7))
  have HG := hid hg
  have HGL := hid hg.lt
  clear hb2 hs2 ha0 ha1 hrw hb3 hc hg ho
  go_enter Tryd.func6, Tryd.ntmps6
  go_wp2_with (first | (refine wpList_allocTo rfl (some 4) rfl _ _ (run_allocRow _ _ rfl _) ?_) | (refine wpList_allocTo rfl (some 6) rfl _ _ (run_allocRow _ _ rfl _) ?_) | (refine wpList_buildTo rfl 41 _ rfl (some 10) rfl (rowK 7) (by kernel_rfl) ?_) | (refine wpList_store_new rfl 41 (.tmp 6) (.tmp 10) rfl rfl (w.alloc (.cells rowZ 41)) 41 rowZ (rowK 7) rfl (by simp only [World.size_alloc]; rfl) rfl (by kernel_rfl) (by kernel_rfl) (by kernel_rfl) ?_))
  go_at_call 18
  refine HC.out.mono ?_
  clear HC
  intro e w5 hq
  obtain ⟨cs3, rfl, hM, hb⟩ := hq
  obtain ⟨y, hy⟩ : ∃ y, o.getD z38 = y := ⟨_, rfl⟩
  rw [hy] at hM ⊢
  obtain ⟨v2, rfl, g2⟩ := k38_openM hM
  obtain ⟨A2, m2, c2, rfl⟩ := r_form g2
  have HM := hid (k38.M_bound hM)
  obtain ⟨oks, hoks⟩ : ∃ b, o.isSome = b := ⟨_, rfl⟩
  obtain ⟨nn, hnn⟩ : ∃ n : Int, (if oks = true then 0 else 170) = n := ⟨_, rfl⟩
  have HNN := hid hnn
  have HOK := hid hoks
  rw [hoks]
  obtain ⟨ev, hev⟩ : ∃ ev, errV oks = ev := ⟨_, rfl⟩
  rw [hev]
  have HEV := hid hev
  have hle : w.heap.size + 1 + 1 ≤ (Lib.bytesWorld ((w.alloc (.cells rowZ 41)).alloc (.cells (rowK 7) 41)) 5 s).heap.size := by have := HB3.out.size; rw [Lib.bytesWorld_size]; simp
  have HLE := hid hle
  have HA0' := hid ((hb.block _ (lt_of_heap HA0.out)).trans HA0.out : AtB w5 w.heap.size 41 rowZ)
  have hA1 : AtB w5 (w.heap.size + 1) 41 (rowK 7) := (hb.block _ (lt_of_heap HA1.out)).trans HA1.out
  have HB5 := hid (below_then HB3.out hb)
  have HG5 := hid (HG.out.below HB5.out HG.out.lt)
  have hc39 : ∃ u, w5.cell? ⟨w.heap.size + 1, 39, none⟩ = some u := ⟨_, (hA1.cell 39).trans rfl⟩
  obtain ⟨u39, hu39⟩ := hc39
  have hf39 := hA1.free 39
  have hc40 : ∃ u, w5.cell? ⟨w.heap.size + 1, 40, none⟩ = some u := ⟨_, (hA1.cell 40).trans rfl⟩
  obtain ⟨u40, hu40⟩ := hc40
  have hf40 := hA1.free 40
  have hc41 : ∃ u, w5.cell? ⟨w.heap.size + 1, 41, none⟩ = some u := ⟨_, (hA1.cell 41).trans rfl⟩
  obtain ⟨u41, hu41⟩ := hc41
  have hf41 := hA1.free 41
  have hc42 : ∃ u, w5.cell? ⟨w.heap.size + 1, 42, none⟩ = some u := ⟨_, (hA1.cell 42).trans rfl⟩
  obtain ⟨u42, hu42⟩ := hc42
  have hf42 := hA1.free 42
  have hc43 : ∃ u, w5.cell? ⟨w.heap.size + 1, 43, none⟩ = some u := ⟨_, (hA1.cell 43).trans rfl⟩
  obtain ⟨u43, hu43⟩ := hc43
  have hf43 := hA1.free 43
  have hc44 : ∃ u, w5.cell? ⟨w.heap.size + 1, 44, none⟩ = some u := ⟨_, (hA1.cell 44).trans rfl⟩
  obtain ⟨u44, hu44⟩ := hc44
  have hf44 := hA1.free 44
  have HA1' := hid hA1
  clear hb hM hev hoks hnn hA1 HA0 HA1 HB3 HG hle g2
  go_wp2_with fail
  have q : AtB ((((((w5.setCell ⟨w.heap.size + 1, 39, none⟩ (.string y.f0)).setCell ⟨w.heap.size + 1, 40, none⟩ (.string y.f1)).setCell ⟨w.heap.size + 1, 41, none⟩ (.slice A2 m2 c2)).setCell ⟨w.heap.size + 1, 42, none⟩ (.string y.f3)).setCell ⟨w.heap.size + 1, 43, none⟩ (.int .i64 y.f4)).setCell ⟨w.heap.size + 1, 44, none⟩ (.bool y.f5)) (w.heap.size + 1) 41 (((((((rowK 7).setIfInBounds 39 (.string y.f0)).setIfInBounds 40 (.string y.f1)).setIfInBounds 41 (.slice A2 m2 c2)).setIfInBounds 42 (.string y.f3)).setIfInBounds 43 (.int .i64 y.f4)).setIfInBounds 44 (.bool y.f5)) := (((((((HA1'.out).set 39 (.string y.f0)).set 40 (.string y.f1)).set 41 (.slice A2 m2 c2)).set 42 (.string y.f3)).set 43 (.int .i64 y.f4)).set 44 (.bool y.f5))
  have hmod : Mod (fun k => k = w.heap.size + 1) w5 ((((((w5.setCell ⟨w.heap.size + 1, 39, none⟩ (.string y.f0)).setCell ⟨w.heap.size + 1, 40, none⟩ (.string y.f1)).setCell ⟨w.heap.size + 1, 41, none⟩ (.slice A2 m2 c2)).setCell ⟨w.heap.size + 1, 42, none⟩ (.string y.f3)).setCell ⟨w.heap.size + 1, 43, none⟩ (.int .i64 y.f4)).setCell ⟨w.heap.size + 1, 44, none⟩ (.bool y.f5)) := ((((((Mod.refl (fun k => k = w.heap.size + 1) w5).setCell ⟨w.heap.size + 1, 39, none⟩ (.string y.f0) (.inl rfl)).setCell ⟨w.heap.size + 1, 40, none⟩ (.string y.f1) (.inl rfl)).setCell ⟨w.heap.size + 1, 41, none⟩ (.slice A2 m2 c2) (.inl rfl)).setCell ⟨w.heap.size + 1, 42, none⟩ (.string y.f3) (.inl rfl)).setCell ⟨w.heap.size + 1, 43, none⟩ (.int .i64 y.f4) (.inl rfl)).setCell ⟨w.heap.size + 1, 44, none⟩ (.bool y.f5) (.inl rfl)
  obtain ⟨W6, hW6⟩ : ∃ W, ((((((w5.setCell ⟨w.heap.size + 1, 39, none⟩ (.string y.f0)).setCell ⟨w.heap.size + 1, 40, none⟩ (.string y.f1)).setCell ⟨w.heap.size + 1, 41, none⟩ (.slice A2 m2 c2)).setCell ⟨w.heap.size + 1, 42, none⟩ (.string y.f3)).setCell ⟨w.heap.size + 1, 43, none⟩ (.int .i64 y.f4)).setCell ⟨w.heap.size + 1, 44, none⟩ (.bool y.f5)) = W := ⟨_, rfl⟩
  obtain ⟨V, hV⟩ : ∃ V, (((((((rowK 7).setIfInBounds 39 (.string y.f0)).setIfInBounds 40 (.string y.f1)).setIfInBounds 41 (.slice A2 m2 c2)).setIfInBounds 42 (.string y.f3)).setIfInBounds 43 (.int .i64 y.f4)).setIfInBounds 44 (.bool y.f5)) = V := ⟨_, rfl⟩
  rw [hW6] at q hmod ⊢
  rw [hV] at q
  have hVs : V.size = 46 := by rw [← hV]; simp only [Array.size_setIfInBounds]; exact rowK_size 7
  have HQ := hid q
  have HMO := hid hmod
  have HVV := hid hV
  have hg6 : ErrorType W6 := hmod.cell HG5.out (show ¬ (0 = w.heap.size + 1) by have := HGL.out; omega)
  have hb6 : Below w.heap.size w W6 := HB5.out.trans (hmod.below (by have := HB5.out.size; omega) (fun x e => by omega))
  have hz6 : AtB W6 w.heap.size 41 rowZ := hmod.heap HA0'.out (by omega)
  have HG6 := hid hg6
  have HZ6 := hid hz6
  have HB6 := hid hb6
  clear hg6 hz6 hb6 hmod hV hW6
  have LT : 0 < V.toList.length := by rw [Array.length_toList]; omega
  have hi : (Tryd.prog.info? 41).map (·.size) = some V.toList.length := by rw [Array.length_toList, hVs]; exact rowInfo
  have hrA : W6.drew.rangeAt (w.heap.size + 1) 0 V.toList := (World.rangeAt_drew _ _ _ _).2 (range_of_atB q)
  refine wp_region_held_drew (S := fun W => Below w.heap.size w W ∧ W.rangeAt (w.heap.size + 1) 0 V.toList) (by kernel_rfl) ⟨Below.drew HB6.out, hrA⟩ (fun hHeld => ?_)
  refine wpAnyH_take (i := 0) (v := _) rfl (by kernel_rfl) (by kernel_rfl) (by kernel_rfl) (fun _ _ _ h => h) (yieldsIf_load_mid (by rfl) _ _ rfl (w.heap.size + 1) 0 rfl V.toList _ (fun W hW => hW.2) Tryd.underlying41 rfl hi) hHeld ?_
  try simp only [Act.put, List.setIfInBounds_toArray, Array.toArray_toList]
  refine wpAnyH_take (i := 1) (v := ev) rfl (by kernel_rfl) (by kernel_rfl) (by kernel_rfl) (fun _ _ _ h => h) (Or.inl ⟨by rfl, fun W hW => by go_simp⟩) hHeld ?_
  try simp only [Act.put]
  refine wpAnyH_ready (rs := [2]) (by kernel_rfl) (by simp) ?_
  refine AllReadyH.cons rfl (fun K hK => ?_) AllReadyH.nil
  go_simp
  have hN : Calls Tryd.prog 20 #[ev] W6.drew fun e w' => e = .returned (.int .i64 nn) ∧ Below W6.drew.heap.size W6.drew w' := by rw [← HEV.out, ← HNN.out]; exact num_errV W6.drew HG6.out oks
  refine hN.mono ?_
  clear hN
  rintro e w7 ⟨rfl, hb7⟩
  have hB7 := hHeld.1.trans (hb7.mono hHeld.1.size)
  have hR7 := range_of_below hb7 hHeld.2 LT
  have hz7 : AtB w7 w.heap.size 41 rowZ := (hb7.block w.heap.size (lt_of_heap HZ6.out)).trans HZ6.out
  have hm7 : Mod (fun k => k = w.heap.size + 1 ∨ k = w.heap.size) w5 w7 := (HMO.out.mono (fun _ _ e => .inl e)).trans (Mod.new (show Below W6.heap.size W6 w7 from ⟨hb7.os, hb7.tape, hb7.output, hb7.size, hb7.block⟩) (fun _ => False)) (fun _ e => e.elim)
  have HM7 := hid hm7
  have HZ7 := hid hz7
  clear hHeld hm7 hz7 hb7
  refine hK.out _ _ ⟨hB7, hR7⟩ (fun hHeld => ?_)
  clear hK K hB7
  try simp only [Act.put, List.setIfInBounds_toArray, List.set_cons_zero, List.set_cons_succ]
  refine wpAnyH_ready (rs := [3]) (by kernel_rfl) (by simp) ?_
  refine AllReadyH.cons rfl (fun K hK => ?_) AllReadyH.nil
  rw [if_pos (by rfl)]
  refine wp_store_row 41 (.tmp 4) (.tmp 78) rfl w.heap.size V rfl rfl 41 rowZ HZ7.out (by rw [hVs]; exact rowInfo) (by rw [hVs]; rfl) (by rw [← HVV.out]; kernel_rfl) ?_
  have hm8 : Mod (fun k => k = w.heap.size + 1 ∨ k = w.heap.size) w5 (w7.setRow w.heap.size V) := HM7.out.trans (mod_setRow w7 w.heap.size V) (fun _ e => .inl (.inr e))
  have hB8 : Below w.heap.size w (w7.setRow w.heap.size V) := hHeld.1.trans ((mod_setRow w7 w.heap.size V).below hHeld.1.size (fun x e => by omega))
  have hR8 : (w7.setRow w.heap.size V).rangeAt (w.heap.size + 1) 0 V.toList := fun j v hv => (mod_setRow w7 w.heap.size V).cell (hHeld.2 j v hv) (show ¬ (w.heap.size + 1 = w.heap.size) by omega)
  have hz8 : AtB (w7.setRow w.heap.size V) w.heap.size 41 V := at_setRow HZ7.out V
  generalize w7.setRow w.heap.size V = w8 at hm8 hB8 hR8 hz8 ⊢
  clear hHeld
  refine hK.out _ _ ⟨hB8, hR8⟩ (fun hHeld => ?_)
  clear hK K
  try simp only [Act.put, List.setIfInBounds_toArray]
  refine wpAnyH_ready (rs := [4]) (by kernel_rfl) (by simp) ?_
  refine AllReadyH.cons rfl (fun K hK => ?_) AllReadyH.nil
  go_simp
  refine hK.out _ _ hHeld (fun hHeld => ?_)
  clear hK K
  try simp only [Act.put, List.setIfInBounds_toArray, List.set_cons_zero, List.set_cons_succ]
  refine wpAnyH_done (by kernel_rfl) ?_ _
  have HBE := hid hB8
  have HZE := hid hz8
  have HME := hid hm8
  clear hHeld hB8 hR8 hz8 hm8 hrA
  go_wp2_with fail
  refine bodyPost_ret (results_ct rfl _ _ w.heap.size 41 V (0, 0) _ rfl HZE.out Tryd.underlying41 rfl (by rw [hVs]; exact rowInfo)) rfl ?_
  refine ⟨V.toList, by rw [Array.toArray_toList, HOK.out, HNN.out]; rfl, ?_, HBE.out⟩
  have hm9 : k38.M w8 w.heap.size (fun _ => True) y _ := up_mem HM.out (fun q hq e => by have := hq.2.1; have := HLE.out; omega) (by have := HLE.out; omega) HME.out
  obtain ⟨x2, e9, r2⟩ := k38_openM hm9
  cases e9
  have hfin := k41_mkM w8 w.heap.size (fun _ => True) (rowTicket y) (Kd.R_nil _ _ _ _ _) (Kd.R_nil _ _ _ _ _) (Kd.R_nil _ _ _ _ _) (Kd.R_nil _ _ _ _ _) (Kd.R_nil _ _ _ _ _) (Kd.R_nil _ _ _ _ _) r2 (Kd.R_nil _ _ _ _ _)
  have key : ∀ c c', c = c' → k41.M w8 w.heap.size (fun _ => True) (rowTicket y) c → k41.M w8 w.heap.size (fun _ => True) (rowTicket y) c' := fun _ _ e h => e ▸ h
  rw [← HVV.out, hy]
  exact key _ _ (by kernel_rfl) hfin
end Go.Proofs.YtcgjacffemjehaaDoor

namespace Go.Proofs.YtcgjacffemjehaaDoor
open Go.RowKit
open Go.Proofs.YtcgjacffemjehaaDoorW.PrintWords (Kd rdOf results_ct)
open Go.Proofs.YtcgjacffemjehaaDoor.PRowReads
set_option linter.unusedVariables false
set_option maxHeartbeats 8000000 in
set_option maxRecDepth 100000 in
theorem readKeys (w : World) (hg : ErrorType w) (s : ByteArray) (hs : s.size ≤ 1099511627776) :
    Calls Tryd.prog 6 #[.int .i64 8, .string s] w (ReadPost (rowKeysR ((unR (listR keyR s.data.toList false)).getD [])) (unR (listR keyR s.data.toList false)).isSome w) := by
  have kc := fun (w : World) => Lib.run_convert_string_bytes (P := Tryd.prog) w 9 49 5 s Tryd.underlying9 Tryd.underlying49 Tryd.underlying5
  have hb2 : Below w.heap.size w ((w.alloc (.cells rowZ 41)).alloc (.cells (rowK 8) 41)) := ((Below.refl w.heap.size w).alloc (Nat.le_refl _) _).alloc (by simp) _
  have hs2 : ((w.alloc (.cells rowZ 41)).alloc (.cells (rowK 8) 41)).heap.size = w.heap.size + 1 + 1 := by simp
  have ha0 : AtB ((w.alloc (.cells rowZ 41)).alloc (.cells (rowK 8) 41)) w.heap.size 41 rowZ := (at_make rfl).alloc _
  have ha1 : AtB ((w.alloc (.cells rowZ 41)).alloc (.cells (rowK 8) 41)) (w.heap.size + 1) 41 (rowK 8) := at_make (by simp)
  obtain ⟨o, ho⟩ : ∃ o, unR (listR keyR s.data.toList false) = o := ⟨_, rfl⟩
  have hrw := reads_world ((w.alloc (.cells rowZ 41)).alloc (.cells (rowK 8) 41)) 5 s
  rw [str_len, hs2] at hrw
  have hb3 := below_bytes ((w.alloc (.cells rowZ 41)).alloc (.cells (rowK 8) 41)) 5 s
  have hc := toKeys_any _ _ _ hrw (by rw [str_len]; exact hs)
  rw [ho] at hc ⊢
  have HC := hid hc
  have HB3 := hid (below_then hb2 hb3)
  have HA0 := hid ((hb3.block _ (lt_of_heap ha0)).trans ha0 : AtB _ w.heap.size 41 rowZ)
  have HA1 := hid ((hb3.block _ (lt_of_heap ha1)).trans ha1 : AtB _ (w.heap.size + 1) 41 (rowK 8))
  have HG := hid hg
  have HGL := hid hg.lt
  clear hb2 hs2 ha0 ha1 hrw hb3 hc hg ho
  go_enter Tryd.func6, Tryd.ntmps6
  go_wp2_with (first | (refine wpList_allocTo rfl (some 4) rfl _ _ (run_allocRow _ _ rfl _) ?_) | (refine wpList_allocTo rfl (some 6) rfl _ _ (run_allocRow _ _ rfl _) ?_) | (refine wpList_buildTo rfl 41 _ rfl (some 10) rfl (rowK 8) (by kernel_rfl) ?_) | (refine wpList_store_new rfl 41 (.tmp 6) (.tmp 10) rfl rfl (w.alloc (.cells rowZ 41)) 41 rowZ (rowK 8) rfl (by simp only [World.size_alloc]; rfl) rfl (by kernel_rfl) (by kernel_rfl) (by kernel_rfl) ?_))
  go_at_call 19
  refine HC.out.mono ?_
  clear HC
  intro e w5 hq
  obtain ⟨v0, rfl, hR, hb⟩ := hq
  obtain ⟨y, hy⟩ : ∃ y, o.getD [] = y := ⟨_, rfl⟩
  rw [hy] at hR ⊢
  obtain ⟨A0, m0, c0, rfl⟩ := r_form hR
  have HM := hid (Kd.R_bound hR)
  obtain ⟨oks, hoks⟩ : ∃ b, o.isSome = b := ⟨_, rfl⟩
  obtain ⟨nn, hnn⟩ : ∃ n : Int, (if oks = true then 0 else 170) = n := ⟨_, rfl⟩
  have HNN := hid hnn
  have HOK := hid hoks
  rw [hoks]
  obtain ⟨ev, hev⟩ : ∃ ev, errV oks = ev := ⟨_, rfl⟩
  rw [hev]
  have HEV := hid hev
  have hle : w.heap.size + 1 + 1 ≤ (Lib.bytesWorld ((w.alloc (.cells rowZ 41)).alloc (.cells (rowK 8) 41)) 5 s).heap.size := by have := HB3.out.size; rw [Lib.bytesWorld_size]; simp
  have HLE := hid hle
  have HA0' := hid ((hb.block _ (lt_of_heap HA0.out)).trans HA0.out : AtB w5 w.heap.size 41 rowZ)
  have hA1 : AtB w5 (w.heap.size + 1) 41 (rowK 8) := (hb.block _ (lt_of_heap HA1.out)).trans HA1.out
  have HB5 := hid (below_then HB3.out hb)
  have HG5 := hid (HG.out.below HB5.out HG.out.lt)
  have hc45 : ∃ u, w5.cell? ⟨w.heap.size + 1, 45, none⟩ = some u := ⟨_, (hA1.cell 45).trans rfl⟩
  obtain ⟨u45, hu45⟩ := hc45
  have hf45 := hA1.free 45
  have HA1' := hid hA1
  clear hb hR hev hoks hnn hA1 HA0 HA1 HB3 HG hle 
  go_wp2_with fail
  have q : AtB (w5.setCell ⟨w.heap.size + 1, 45, none⟩ (.slice A0 m0 c0)) (w.heap.size + 1) 41 ((rowK 8).setIfInBounds 45 (.slice A0 m0 c0)) := ((HA1'.out).set 45 (.slice A0 m0 c0))
  have hmod : Mod (fun k => k = w.heap.size + 1) w5 (w5.setCell ⟨w.heap.size + 1, 45, none⟩ (.slice A0 m0 c0)) := (Mod.refl (fun k => k = w.heap.size + 1) w5).setCell ⟨w.heap.size + 1, 45, none⟩ (.slice A0 m0 c0) (.inl rfl)
  obtain ⟨W6, hW6⟩ : ∃ W, (w5.setCell ⟨w.heap.size + 1, 45, none⟩ (.slice A0 m0 c0)) = W := ⟨_, rfl⟩
  obtain ⟨V, hV⟩ : ∃ V, ((rowK 8).setIfInBounds 45 (.slice A0 m0 c0)) = V := ⟨_, rfl⟩
  rw [hW6] at q hmod ⊢
  rw [hV] at q
  have hVs : V.size = 46 := by rw [← hV]; simp only [Array.size_setIfInBounds]; exact rowK_size 8
  have HQ := hid q
  have HMO := hid hmod
  have HVV := hid hV
  have hg6 : ErrorType W6 := hmod.cell HG5.out (show ¬ (0 = w.heap.size + 1) by have := HGL.out; omega)
  have hb6 : Below w.heap.size w W6 := HB5.out.trans (hmod.below (by have := HB5.out.size; omega) (fun x e => by omega))
  have hz6 : AtB W6 w.heap.size 41 rowZ := hmod.heap HA0'.out (by omega)
  have HG6 := hid hg6
  have HZ6 := hid hz6
  have HB6 := hid hb6
  clear hg6 hz6 hb6 hmod hV hW6
  have LT : 0 < V.toList.length := by rw [Array.length_toList]; omega
  have hi : (Tryd.prog.info? 41).map (·.size) = some V.toList.length := by rw [Array.length_toList, hVs]; exact rowInfo
  have hrA : W6.drew.rangeAt (w.heap.size + 1) 0 V.toList := (World.rangeAt_drew _ _ _ _).2 (range_of_atB q)
  refine wp_region_held_drew (S := fun W => Below w.heap.size w W ∧ W.rangeAt (w.heap.size + 1) 0 V.toList) (by kernel_rfl) ⟨Below.drew HB6.out, hrA⟩ (fun hHeld => ?_)
  refine wpAnyH_take (i := 0) (v := _) rfl (by kernel_rfl) (by kernel_rfl) (by kernel_rfl) (fun _ _ _ h => h) (yieldsIf_load_mid (by rfl) _ _ rfl (w.heap.size + 1) 0 rfl V.toList _ (fun W hW => hW.2) Tryd.underlying41 rfl hi) hHeld ?_
  try simp only [Act.put, List.setIfInBounds_toArray, Array.toArray_toList]
  refine wpAnyH_take (i := 1) (v := ev) rfl (by kernel_rfl) (by kernel_rfl) (by kernel_rfl) (fun _ _ _ h => h) (Or.inl ⟨by rfl, fun W hW => by go_simp⟩) hHeld ?_
  try simp only [Act.put]
  refine wpAnyH_ready (rs := [2]) (by kernel_rfl) (by simp) ?_
  refine AllReadyH.cons rfl (fun K hK => ?_) AllReadyH.nil
  go_simp
  have hN : Calls Tryd.prog 20 #[ev] W6.drew fun e w' => e = .returned (.int .i64 nn) ∧ Below W6.drew.heap.size W6.drew w' := by rw [← HEV.out, ← HNN.out]; exact num_errV W6.drew HG6.out oks
  refine hN.mono ?_
  clear hN
  rintro e w7 ⟨rfl, hb7⟩
  have hB7 := hHeld.1.trans (hb7.mono hHeld.1.size)
  have hR7 := range_of_below hb7 hHeld.2 LT
  have hz7 : AtB w7 w.heap.size 41 rowZ := (hb7.block w.heap.size (lt_of_heap HZ6.out)).trans HZ6.out
  have hm7 : Mod (fun k => k = w.heap.size + 1 ∨ k = w.heap.size) w5 w7 := (HMO.out.mono (fun _ _ e => .inl e)).trans (Mod.new (show Below W6.heap.size W6 w7 from ⟨hb7.os, hb7.tape, hb7.output, hb7.size, hb7.block⟩) (fun _ => False)) (fun _ e => e.elim)
  have HM7 := hid hm7
  have HZ7 := hid hz7
  clear hHeld hm7 hz7 hb7
  refine hK.out _ _ ⟨hB7, hR7⟩ (fun hHeld => ?_)
  clear hK K hB7
  try simp only [Act.put, List.setIfInBounds_toArray, List.set_cons_zero, List.set_cons_succ]
  refine wpAnyH_ready (rs := [3]) (by kernel_rfl) (by simp) ?_
  refine AllReadyH.cons rfl (fun K hK => ?_) AllReadyH.nil
  rw [if_pos (by rfl)]
  refine wp_store_row 41 (.tmp 4) (.tmp 78) rfl w.heap.size V rfl rfl 41 rowZ HZ7.out (by rw [hVs]; exact rowInfo) (by rw [hVs]; rfl) (by rw [← HVV.out]; kernel_rfl) ?_
  have hm8 : Mod (fun k => k = w.heap.size + 1 ∨ k = w.heap.size) w5 (w7.setRow w.heap.size V) := HM7.out.trans (mod_setRow w7 w.heap.size V) (fun _ e => .inl (.inr e))
  have hB8 : Below w.heap.size w (w7.setRow w.heap.size V) := hHeld.1.trans ((mod_setRow w7 w.heap.size V).below hHeld.1.size (fun x e => by omega))
  have hR8 : (w7.setRow w.heap.size V).rangeAt (w.heap.size + 1) 0 V.toList := fun j v hv => (mod_setRow w7 w.heap.size V).cell (hHeld.2 j v hv) (show ¬ (w.heap.size + 1 = w.heap.size) by omega)
  have hz8 : AtB (w7.setRow w.heap.size V) w.heap.size 41 V := at_setRow HZ7.out V
  generalize w7.setRow w.heap.size V = w8 at hm8 hB8 hR8 hz8 ⊢
  clear hHeld
  refine hK.out _ _ ⟨hB8, hR8⟩ (fun hHeld => ?_)
  clear hK K
  try simp only [Act.put, List.setIfInBounds_toArray]
  refine wpAnyH_ready (rs := [4]) (by kernel_rfl) (by simp) ?_
  refine AllReadyH.cons rfl (fun K hK => ?_) AllReadyH.nil
  go_simp
  refine hK.out _ _ hHeld (fun hHeld => ?_)
  clear hK K
  try simp only [Act.put, List.setIfInBounds_toArray, List.set_cons_zero, List.set_cons_succ]
  refine wpAnyH_done (by kernel_rfl) ?_ _
  have HBE := hid hB8
  have HZE := hid hz8
  have HME := hid hm8
  clear hHeld hB8 hR8 hz8 hm8 hrA
  go_wp2_with fail
  refine bodyPost_ret (results_ct rfl _ _ w.heap.size 41 V (0, 0) _ rfl HZE.out Tryd.underlying41 rfl (by rw [hVs]; exact rowInfo)) rfl ?_
  refine ⟨V.toList, by rw [Array.toArray_toList, HOK.out, HNN.out]; rfl, ?_, HBE.out⟩
  have hm9 := Kd.R_lower (base' := w.heap.size) (hb := by have := HLE.out; omega) (h := Kd.R_mono (Kd.R_step HM.out (fun k hk hlt => HME.out.block k hlt (fun e => by have := hk.2.1; have := HLE.out; omega))) (fun _ _ => trivial))
  have hfin := k41_mkM w8 w.heap.size (fun _ => True) (rowKeysR y) (Kd.R_nil _ _ _ _ _) (Kd.R_nil _ _ _ _ _) (Kd.R_nil _ _ _ _ _) (Kd.R_nil _ _ _ _ _) (Kd.R_nil _ _ _ _ _) (Kd.R_nil _ _ _ _ _) (Kd.R_nil _ _ _ _ _) hm9
  have key : ∀ c c', c = c' → k41.M w8 w.heap.size (fun _ => True) (rowKeysR y) c → k41.M w8 w.heap.size (fun _ => True) (rowKeysR y) c' := fun _ _ e h => e ▸ h
  rw [← HVV.out, hy]
  exact key _ _ (by kernel_rfl) hfin
end Go.Proofs.YtcgjacffemjehaaDoor

namespace Go.Proofs.YtcgjacffemjehaaDoor
open Go.RowKit
open Go.Proofs.YtcgjacffemjehaaDoorW.PrintWords (Kd rdOf results_ct)
open Go.Proofs.YtcgjacffemjehaaDoor.PRowReads
set_option linter.unusedVariables false
theorem refBytes_at (w : World) (vs : Array Value) (x : S41) (hK : k41.K w x vs.toList) (hs : Small x) (hf : Fits x) :
    Calls Tryd.prog 8 #[.agg vs] w (TextPost (rowB x) w) := by
  obtain ⟨A3, c3, A8, c8, A16, c16, A28, c28, A29, c29, A37, c37, A41, c41, A45, c45, e, l3, g3, l8, g8, l16, g16, l28, g28, l29, g29, l37, g37, l41, g41, l45, g45⟩ := k41_open hK
  cases vs with
  | mk l =>
    simp only at e
    subst e
    exact refBytes_any w x l3 g3 l8 g8 l16 g16 l28 g28 l29 g29 l37 g37 l41 g41 l45 g45 hs hf
theorem kind_at (w : World) (vs : Array Value) (x : S41) (hK : k41.K w x vs.toList) : vs[0]? = some (.int .i64 x.f0) ∧ vs.size = 46 ∧ vs.all (·.oneCell') = true := by
  have h1 := k41.K_len hK
  have h2 := k41.K_one hK
  obtain ⟨A3, c3, A8, c8, A16, c16, A28, c28, A29, c29, A37, c37, A41, c41, A45, c45, e, l3, g3, l8, g8, l16, g16, l28, g28, l29, g29, l37, g37, l41, g41, l45, g45⟩ := k41_open hK
  refine ⟨?_, by rw [← Array.length_toList]; exact h1, ?_⟩
  · rw [← Array.getElem?_toList, e]; rfl
  · rw [← Array.all_toList]; exact List.all_eq_true.2 h2
theorem read_at (w : World) (hg : ErrorType w) (k : Int) (h1 : 1 ≤ k) (h8 : k ≤ 8) (s : ByteArray) (hs : s.size ≤ 1099511627776) :
    Calls Tryd.prog 6 #[.int .i64 k, .string s] w (ReadPost (readRow k s.data.toList).1 (readRow k s.data.toList).2 w) := by
  have hk : k = 1 ∨ k = 2 ∨ k = 3 ∨ k = 4 ∨ k = 5 ∨ k = 6 ∨ k = 7 ∨ k = 8 := by omega
  rcases hk with rfl | rfl | rfl | rfl | rfl | rfl | rfl | rfl
  · exact readConsent w hg s hs
  · exact readCode w hg s hs
  · exact readFamily w hg s hs
  · exact readRefresh w hg s hs
  · exact readAccess w hg s hs
  · exact readResource w hg s hs
  · exact readTicket w hg s hs
  · exact readKeys w hg s hs
end Go.Proofs.YtcgjacffemjehaaDoor

namespace Go.Proofs.YtcgjacffemjehaaDoor
open Go.RowKit
open Go.Proofs.YtcgjacffemjehaaDoorW.PrintWords (Kd rdOf results_ct)
open Go.Proofs.YtcgjacffemjehaaDoor.PRowReads
set_option linter.unusedVariables false
set_option linter.unusedSimpArgs false
set_option maxHeartbeats 8000000 in
set_option maxRecDepth 100000 in
theorem docConsent (w : World) (s : ByteArray) (hs : s.size ≤ 1048576) :
    Calls Tryd.prog 7 #[.int .i64 1, .string s] w (DocPost (rowConsent ((unR (consentR s.data.toList false)).getD z25)) (unR (consentR s.data.toList false)).isSome w) := by
  rw [consentCod.same dConsentCod]
  have hsl := str_len s
  obtain ⟨o, ho⟩ : ∃ o, unR (dConsent s.data.toList false) = o := ⟨_, rfl⟩
  rw [ho]
  have HO := hid ho
  clear ho
  have hbw0 : Below w.heap.size w (((w.alloc (.cells rowZ 41)).alloc (.cells #[.string s, .bool true] 73)).alloc (.cells (rowK 1) 41)) := (((Below.refl w.heap.size w).alloc (Nat.le_refl _) _).alloc (by simp) _).alloc (by simp; omega) _
  have ha0 : AtB (((w.alloc (.cells rowZ 41)).alloc (.cells #[.string s, .bool true] 73)).alloc (.cells (rowK 1) 41)) w.heap.size 41 rowZ := ((at_make rfl).alloc _).alloc _
  have hi0 : InAt (((w.alloc (.cells rowZ 41)).alloc (.cells #[.string s, .bool true] 73)).alloc (.cells (rowK 1) 41)) (w.heap.size + 1) s.data.toList false := ⟨s, rfl, (at_make (by simp)).alloc _⟩
  have hx0 : AtB (((w.alloc (.cells rowZ 41)).alloc (.cells #[.string s, .bool true] 73)).alloc (.cells (rowK 1) 41)) (w.heap.size + 1 + 1) 41 (rowK 1) := at_make (by simp)
  have hz0 : (((w.alloc (.cells rowZ 41)).alloc (.cells #[.string s, .bool true] 73)).alloc (.cells (rowK 1) 41)).heap.size = w.heap.size + 1 + 1 + 1 := by simp
  obtain ⟨y0, l1, b1, e0⟩ := trip (dText s.data.toList false)
  obtain ⟨y1, l2, b2, e1⟩ := trip (dText l1 b1)
  obtain ⟨y2, l3, b3, e2⟩ := trip (dList dText l2 b2)
  have hd : dConsent s.data.toList false = ((⟨y0, y1, y2⟩, l3, b3) : S25 × List UInt8 × Bool) := by unfold dConsent; simp only [andR, e0, e1, e2]
  have HD := hid hd
  have HE0 := hid e0
  have HE1 := hid e1
  have HE2 := hid e2
  have hc := text_in hi0
  rw [e0] at hc
  have HC := hid hc
  have HBW := hid hbw0
  have HA := hid ha0
  have HX := hid hx0
  clear hd hc hbw0 ha0 hx0 hi0 e0 e1 e2
  obtain ⟨W0, hW0⟩ : ∃ W, (((w.alloc (.cells rowZ 41)).alloc (.cells #[.string s, .bool true] 73)).alloc (.cells (rowK 1) 41)) = W := ⟨_, rfl⟩
  have HW0 := hid hW0
  rw [hW0] at HC HBW HA HX hz0
  go_enter Tryd.func7, Tryd.ntmps7
  go_wp2_with (first | (refine wpList_allocTo rfl (some 4) rfl _ _ (run_allocRow _ _ rfl _) ?_) | (refine wpList_allocTo rfl (some 7) rfl _ _ (run_allocRow _ _ rfl _) ?_) | (refine wpList_buildTo rfl 41 _ rfl (some 12) rfl (rowK 1) (by kernel_rfl) ?_) | (refine wpList_store_new rfl 41 (.tmp 7) (.tmp 12) rfl rfl ((w.alloc (.cells rowZ 41)).alloc (.cells #[.string s, .bool true] 73)) 41 rowZ (rowK 1) rfl (by simp only [World.size_alloc]; rfl) rfl (by kernel_rfl) (by kernel_rfl) (by kernel_rfl) ?_))
  clear hW0 HW0
  go_at_call 21
  refine HC.out.mono ?_
  clear HC
  rintro e u0 ⟨rfl, hi0, hm0⟩
  have hxu0 : AtB u0 (w.heap.size + 1 + 1) 41 (rowK 1) := hm0.heap HX.out (show ¬ ((w.heap.size + 1 + 1) = (w.heap.size + 1)) by omega)
  have hvs0 : ((rowK 1)).size = 46 := by exact rowK_size 1
  obtain ⟨q0, hq0⟩ := hxu0.some 1 (by rw [hvs0]; omega)
  have hf0 := hxu0.free 1
  have hxn : AtB (u0.setCell ⟨(w.heap.size + 1 + 1), 1, none⟩ (.string y0)) (w.heap.size + 1 + 1) 41 (((rowK 1)).setIfInBounds 1 (.string y0)) := hxu0.set 1 (.string y0)
  have hmn : Mod (fun k => k = (w.heap.size + 1 + 1) ∨ k = (w.heap.size + 1)) W0 (u0.setCell ⟨(w.heap.size + 1 + 1), 1, none⟩ (.string y0)) := (hm0.mono (fun _ _ e => .inr e)).setCell ⟨(w.heap.size + 1 + 1), 1, none⟩ (.string y0) (.inl (.inl rfl))
  have hin : InAt (u0.setCell ⟨(w.heap.size + 1 + 1), 1, none⟩ (.string y0)) (w.heap.size + 1) l1 b1 := hi0.mod (mod_set u0 (w.heap.size + 1 + 1) 1 (.string y0)) (show ¬ ((w.heap.size + 1) = (w.heap.size + 1 + 1)) by omega)
  have hzn : w.heap.size + 1 + 1 + 1 ≤ (u0.setCell ⟨(w.heap.size + 1 + 1), 1, none⟩ (.string y0)).heap.size := by have := hmn.size; omega
  have hc := text_in hin
  rw [HE1.out] at hc
  go_wp2_with fail
  generalize u0.setCell ⟨(w.heap.size + 1 + 1), 1, none⟩ (.string y0) = W1 at hxn hmn hin hzn hc ⊢
  have HBW := hid (HBW.out.trans (hmn.below (by omega) (fun x e => by omega)))
  have HA := hid (hmn.heap HA.out (show ¬ (w.heap.size = (w.heap.size + 1 + 1) ∨ w.heap.size = (w.heap.size + 1)) by omega))
  have HX := hid hxn
  have HI := hid hin
  have HC := hid hc
  clear hxn hmn hin hc hxu0 hvs0 hq0 hf0 hi0 hm0
  have hz1 := hzn
  clear hzn
  go_at_call 21
  refine HC.out.mono ?_
  clear HC
  rintro e u1 ⟨rfl, hi1, hm1⟩
  have hxu1 : AtB u1 (w.heap.size + 1 + 1) 41 ((rowK 1).setIfInBounds 1 (.string y0)) := hm1.heap HX.out (show ¬ ((w.heap.size + 1 + 1) = (w.heap.size + 1)) by omega)
  have hvs1 : (((rowK 1).setIfInBounds 1 (.string y0))).size = 46 := by simp only [Array.size_setIfInBounds]; exact rowK_size 1
  obtain ⟨q1, hq1⟩ := hxu1.some 2 (by rw [hvs1]; omega)
  have hf1 := hxu1.free 2
  have hxn : AtB (u1.setCell ⟨(w.heap.size + 1 + 1), 2, none⟩ (.string y1)) (w.heap.size + 1 + 1) 41 ((((rowK 1).setIfInBounds 1 (.string y0))).setIfInBounds 2 (.string y1)) := hxu1.set 2 (.string y1)
  have hmn : Mod (fun k => k = (w.heap.size + 1 + 1) ∨ k = (w.heap.size + 1)) W1 (u1.setCell ⟨(w.heap.size + 1 + 1), 2, none⟩ (.string y1)) := (hm1.mono (fun _ _ e => .inr e)).setCell ⟨(w.heap.size + 1 + 1), 2, none⟩ (.string y1) (.inl (.inl rfl))
  have hin : InAt (u1.setCell ⟨(w.heap.size + 1 + 1), 2, none⟩ (.string y1)) (w.heap.size + 1) l2 b2 := hi1.mod (mod_set u1 (w.heap.size + 1 + 1) 2 (.string y1)) (show ¬ ((w.heap.size + 1) = (w.heap.size + 1 + 1)) by omega)
  have hzn : w.heap.size + 1 + 1 + 1 ≤ (u1.setCell ⟨(w.heap.size + 1 + 1), 2, none⟩ (.string y1)).heap.size := by have := hmn.size; omega
  have hc := texts_in hin
  rw [HE2.out] at hc
  go_wp2_with fail
  generalize u1.setCell ⟨(w.heap.size + 1 + 1), 2, none⟩ (.string y1) = W2 at hxn hmn hin hzn hc ⊢
  have HBW := hid (HBW.out.trans (hmn.below (by omega) (fun x e => by omega)))
  have HA := hid (hmn.heap HA.out (show ¬ (w.heap.size = (w.heap.size + 1 + 1) ∨ w.heap.size = (w.heap.size + 1)) by omega))
  have HX := hid hxn
  have HI := hid hin
  have HC := hid hc
  clear hxn hmn hin hc hxu1 hvs1 hq1 hf1 hi1 hm1
  have hz2 := hzn
  clear hzn
  go_at_call 22
  refine HC.out.mono ?_
  clear HC
  rintro e u2 ⟨v2, rfl, hr2, hi2, hm2⟩
  obtain ⟨A2, m2, c2, rfl⟩ := r_form hr2
  have hxu2 : AtB u2 (w.heap.size + 1 + 1) 41 (((rowK 1).setIfInBounds 1 (.string y0)).setIfInBounds 2 (.string y1)) := hm2.heap HX.out (show ¬ ((w.heap.size + 1 + 1) = (w.heap.size + 1)) by omega)
  have hvs2 : ((((rowK 1).setIfInBounds 1 (.string y0)).setIfInBounds 2 (.string y1))).size = 46 := by simp only [Array.size_setIfInBounds]; exact rowK_size 1
  obtain ⟨q2, hq2⟩ := hxu2.some 3 (by rw [hvs2]; omega)
  have hf2 := hxu2.free 3
  have hxn : AtB (u2.setCell ⟨(w.heap.size + 1 + 1), 3, none⟩ (.slice A2 m2 c2)) (w.heap.size + 1 + 1) 41 (((((rowK 1).setIfInBounds 1 (.string y0)).setIfInBounds 2 (.string y1))).setIfInBounds 3 (.slice A2 m2 c2)) := hxu2.set 3 (.slice A2 m2 c2)
  have hmn : Mod (fun k => k = (w.heap.size + 1 + 1) ∨ k = (w.heap.size + 1)) W2 (u2.setCell ⟨(w.heap.size + 1 + 1), 3, none⟩ (.slice A2 m2 c2)) := (hm2.mono (fun _ _ e => .inr e)).setCell ⟨(w.heap.size + 1 + 1), 3, none⟩ (.slice A2 m2 c2) (.inl (.inl rfl))
  have hin : InAt (u2.setCell ⟨(w.heap.size + 1 + 1), 3, none⟩ (.slice A2 m2 c2)) (w.heap.size + 1) l3 b3 := hi2.mod (mod_set u2 (w.heap.size + 1 + 1) 3 (.slice A2 m2 c2)) (show ¬ ((w.heap.size + 1) = (w.heap.size + 1 + 1)) by omega)
  have hzn : w.heap.size + 1 + 1 + 1 ≤ (u2.setCell ⟨(w.heap.size + 1 + 1), 3, none⟩ (.slice A2 m2 c2)).heap.size := by have := hmn.size; omega
  have hrn2 : Kd.string.R 9 (u2.setCell ⟨(w.heap.size + 1 + 1), 3, none⟩ (.slice A2 m2 c2)) (w.heap.size + 1 + 1 + 1) (fun _ => True) (.slice A2 m2 c2) y2 := Kd.R_lower (r_mod hr2 (mod_set u2 (w.heap.size + 1 + 1) 3 (.slice A2 m2 c2)) (fun k e => .inl (by have e2 : k = (w.heap.size + 1 + 1) := e; omega))) (by omega)
  go_wp2_with (refine wpList_stop (some 212) rfl ?_)
  generalize u2.setCell ⟨(w.heap.size + 1 + 1), 3, none⟩ (.slice A2 m2 c2) = W3 at hxn hmn hin hzn hrn2 ⊢
  have HBW := hid (HBW.out.trans (hmn.below (by omega) (fun x e => by omega)))
  have HA := hid (hmn.heap HA.out (show ¬ (w.heap.size = (w.heap.size + 1 + 1) ∨ w.heap.size = (w.heap.size + 1)) by omega))
  have HX := hid hxn
  have HI := hid hin
  have HR2 := hid hrn2
  clear hxn hmn hin hrn2 hxu2 hvs2 hq2 hf2 hi2 hm2 hr2
  have hz3 := hzn
  clear hzn
  obtain ⟨S, hS, hsa⟩ := HI.out
  have cS : W3.cell? ⟨(w.heap.size + 1), 0, none⟩ = some (.string S) := hsa.cell 0
  have cB : W3.cell? ⟨(w.heap.size + 1), 1, none⟩ = some (.bool (!b3)) := hsa.cell 1
  clear hsa
  obtain ⟨V, hV⟩ : ∃ V, ((((rowK 1).setIfInBounds 1 (.string y0)).setIfInBounds 2 (.string y1)).setIfInBounds 3 (.slice A2 m2 c2)) = V := ⟨_, rfl⟩
  rw [hV] at HX
  have HV := hid hV
  have hVs : V.size = 46 := by rw [← hV]; simp only [Array.size_setIfInBounds]; exact rowK_size 1
  have hV1 : V.all (·.oneCell') = true := by rw [← hV]; kernel_rfl
  have hVi : (Tryd.prog.info? 41).map (·.size) = some V.size := by rw [hVs]; exact rowInfo
  clear hV
  have HUN := hid (show unR (dConsent s.data.toList false) = unR ((⟨y0, y1, y2⟩, l3, b3) : S25 × List UInt8 × Bool) by rw [HD.out])
  cases b3 with
  | true =>
    have cB : W3.cell? ⟨(w.heap.size + 1), 1, none⟩ = some (.bool false) := cB
    have hon : o = none := by rw [← HO.out, HUN.out]; exact if_pos (.inl rfl)
    refine Stood.mk ?_
    go_wp2_with (first | (refine wpList_buildTo rfl 41 _ rfl (some 227) rfl rowZ rowZ_built ?_) | (refine wpList_store_at rfl 41 (.tmp 4) (.tmp 227) rfl rfl w.heap.size 41 rowZ rowZ HA.out rfl rfl rowZ_info rfl rowZ_one ?_))
    have hzr := at_setRow HA.out rowZ
    have hbr : Below w.heap.size w (W3.setRow w.heap.size rowZ) := HBW.out.trans ((mod_setRow W3 w.heap.size rowZ).below HBW.out.size (fun x e => by omega))
    refine bodyPost_ret (results_ct rfl _ _ w.heap.size 41 rowZ (0, 0) _ rfl hzr Tryd.underlying41 rfl rowZ_info) rfl ?_
    refine ⟨rowZ, ?_, rowZ_size, rowZ_one, ?_, hbr⟩
    · rw [hon]; rfl
    · rw [hon]; intro h; cases h
  | false =>
    have cB : W3.cell? ⟨(w.heap.size + 1), 1, none⟩ = some (.bool true) := cB
    by_cases hS0 : S.size = 0
    · have hSe : S = ⟨#[]⟩ := by
        apply ByteArray.ext
        exact Array.eq_empty_of_size_eq_zero hS0
      subst hSe
      have hl0 : l3 = [] := by rw [← hS]
      have hon : o = some (⟨y0, y1, y2⟩) := by rw [← HO.out, HUN.out]; exact if_neg (by simp [hl0])
      obtain ⟨hb, hcc⟩ := dConsentCod.un_bwd (HO.out.trans hon)
      have hsm := smallConsent (by rw [← hb, str_len]; exact hs) hcc
      have hfin := k41_mkM W3 (w.heap.size + 1 + 1 + 1) (fun _ => True) (rowConsent (⟨y0, y1, y2⟩)) HR2.out (Kd.R_nil _ _ _ _ _) (Kd.R_nil _ _ _ _ _) (Kd.R_nil _ _ _ _ _) (Kd.R_nil _ _ _ _ _) (Kd.R_nil _ _ _ _ _) (Kd.R_nil _ _ _ _ _) (Kd.R_nil _ _ _ _ _)
      have key : ∀ c c', c = c' → k41.M W3 (w.heap.size + 1 + 1 + 1) (fun _ => True) (rowConsent (⟨y0, y1, y2⟩)) c → k41.M W3 (w.heap.size + 1 + 1 + 1) (fun _ => True) (rowConsent (⟨y0, y1, y2⟩)) c' := fun _ _ e h => e ▸ h
      have hVM : k41.M W3 (w.heap.size + 1 + 1 + 1) (fun _ => True) (rowConsent (⟨y0, y1, y2⟩)) V.toList := by
        rw [← HV.out]
        exact key _ _ (by kernel_rfl) hfin
      have HVM := hid hVM
      have hK : k41.K W3 (rowConsent (⟨y0, y1, y2⟩)) V.toList := by
        exact k41.K_of_M hVM
      have hby := refBytes_at W3 V _ hK hsm.1 hsm.2
      have hbs : rowB (rowConsent (⟨y0, y1, y2⟩)) = s.data.toList := by rw [hb]; unfold rowB rowConsent; simp
      rw [hbs] at hby
      have HBY := hid hby
      have HK := hid hK
      clear hfin key hVM hK hby hbs hcc hb hsm hl0 hS hS0
      refine Stood.mk ?_
      go_wp2_with (first | (refine wpList_load_rowH (by rfl) 41 (.tmp 7) rfl (w.heap.size + 1 + 1) rfl 41 V (0, 0) _ HX.out Tryd.underlying41 rfl hVi ?_))
      refine HBY.out.mono ?_
      clear HBY
      rintro e u9 ⟨rfl, hb9⟩
      have hx9 : AtB u9 (w.heap.size + 1 + 1) 41 V := (hb9.block _ (lt_of_heap HX.out)).trans HX.out
      have ha9 : AtB u9 w.heap.size 41 rowZ := (hb9.block _ (lt_of_heap HA.out)).trans HA.out
      have HX9 := hid hx9
      have HA9 := hid ha9
      have HB9 := hid (below_then HBW.out hb9)
      have HK9 := hid (k41.M_bound (k41.M_below HVM.out hb9))
      clear hx9 ha9 hb9
      go_wp2_with (first | (refine wpList_load_row rfl 41 (.tmp 7) rfl (w.heap.size + 1 + 1) rfl 41 V (0, 0) _ HX9.out Tryd.underlying41 rfl hVi ?_) | (refine wpList_store_at rfl 41 (.tmp 4) (.tmp 228) rfl rfl w.heap.size 41 rowZ V HA9.out rfl rfl hVi (by rw [hVs]; rfl) hV1 ?_))
      have hzr := at_setRow HA9.out V
      have hbr : Below w.heap.size w (u9.setRow w.heap.size V) := HB9.out.trans ((mod_setRow u9 w.heap.size V).below HB9.out.size (fun x e => by omega))
      refine bodyPost_ret (results_ct rfl _ _ w.heap.size 41 V (0, 0) _ rfl hzr Tryd.underlying41 rfl hVi) rfl ?_
      have hK9 := k41.K_of_M (k41.M_step HK9.out (fun k hk hlt => (mod_setRow u9 w.heap.size V).block k hlt (show ¬ (k = w.heap.size) by have := hk.2.1; omega)))
      refine ⟨V, by rw [hon]; rfl, hVs, hV1, fun _ => by rw [hon]; exact hK9, hbr⟩
    · have hon : o = none := by
        rw [← HO.out, HUN.out]
        exact if_pos (.inr (by show 0 < l3.length; rw [← hS, str_len]; omega))
      have n1 := str_ne_empty S (by omega)
      have n2 := str_not_empty S (by omega)
      refine Stood.mk ?_
      go_wp2_with (first | (refine wpList_buildTo rfl 41 _ rfl (some 227) rfl rowZ rowZ_built ?_) | (refine wpList_store_at rfl 41 (.tmp 4) (.tmp 227) rfl rfl w.heap.size 41 rowZ rowZ HA.out rfl rfl rowZ_info rfl rowZ_one ?_))
      have hzr := at_setRow HA.out rowZ
      have hbr : Below w.heap.size w (W3.setRow w.heap.size rowZ) := HBW.out.trans ((mod_setRow W3 w.heap.size rowZ).below HBW.out.size (fun x e => by omega))
      refine bodyPost_ret (results_ct rfl _ _ w.heap.size 41 rowZ (0, 0) _ rfl hzr Tryd.underlying41 rfl rowZ_info) rfl ?_
      refine ⟨rowZ, ?_, rowZ_size, rowZ_one, ?_, hbr⟩
      · rw [hon]; rfl
      · rw [hon]; intro h; cases h
end Go.Proofs.YtcgjacffemjehaaDoor

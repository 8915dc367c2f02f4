/-
  The document's disk, by contract: Fused, Read, Turn, Crash.
-/
import Derived.Test.YtdchpabcaoghpaaDoorDiskRefC
namespace Go.Proofs.YtdchpabcaoghpaaDoor
open Go.RowKit
set_option linter.unusedVariables false
theorem rfuse_neg {w : World} {r : Nat} {B0 B1 : ByteArray} {s : DS} (h : RefIs w r B0 B1 s) (n : Int) (hn : n < 0) : Calls Tryd.prog 28 #[.pointer (some ⟨r, 0, none⟩), .int .i64 n] w (RPost r (1, s) w) := by
  have H := hid h
  clear h
  go_enter Tryd.func28, Tryd.ntmps28
  go_wp2
  go_ret
  exact RPost.mk rfl rfl H.out (Mod.refl _ _)
theorem rfuse_any {w : World} {r : Nat} {B0 B1 : ByteArray} {s : DS} (h : RefIs w r B0 B1 s) (n : Int) (hn : 0 ≤ n) (hn1 : n ≤ 9223372036854775807) : Calls Tryd.prog 28 #[.pointer (some ⟨r, 0, none⟩), .int .i64 n] w (RPost r (0, { s with fuse := n }) w) := by
  have H := hid h
  obtain ⟨T, hT⟩ := h.heap
  have HT := hid hT
  have h5 := h.cells.1.2.2.2.2.2.1
  have hfz := h.cells.2
  clear h hT
  go_enter Tryd.func28, Tryd.ntmps28
  go_wp2
  go_ret
  exact RPost.mk rfl rfl (H.out.setFO n s.off (by omega) ⟨T, heap_setCell_same _ _ _ _ _ _ HT.out⟩) ((Mod.refl (fun k => k = r) w).setCell ⟨r, 5, none⟩ _ (.inl rfl))
theorem rread_off {w : World} {r : Nat} {B0 B1 : ByteArray} {s : DS} (h : RefIs w r B0 B1 s) (n : Int) (hn : n = 0 ∨ n = 1) (hoff : s.off = true) : Calls Tryd.prog 32 #[.pointer (some ⟨r, 0, none⟩), .int .i64 n] w fun e w' => e = .returned (.tuple #[.string ⟨#[]⟩, .int .i64 150]) ∧ w = w' := by
  have H := hid h
  clear h
  go_enter Tryd.func32, Tryd.ntmps32
  go_wp2_with (go_at_call 45; refine (rbad_off H.out n hn hoff).mono ?_; rintro e w' ⟨rfl, rfl⟩)
  go_ret2
  exact ⟨rfl, rfl⟩
theorem rread_any {w : World} {r : Nat} {B0 B1 : ByteArray} {s : DS} (h : RefIs w r B0 B1 s) (n : Int) (hn : n = 0 ∨ n = 1) (hoff : s.off = false) : Calls Tryd.prog 32 #[.pointer (some ⟨r, 0, none⟩), .int .i64 n] w fun e w' => e = .returned (.tuple #[.string (if n = 0 then B0 else B1), .int .i64 0]) ∧ w = w' := by
  have H := hid h
  obtain ⟨⟨hb0, hb1, _⟩, _⟩ := h.cells
  clear h
  rcases hn with rfl | rfl
  all_goals
    go_enter Tryd.func32, Tryd.ntmps32
    go_wp2_with (go_at_call 45; refine (rbad_any H.out _ (by omega) hoff).mono ?_; rintro e w' ⟨rfl, rfl⟩)
    go_ret2
    exact ⟨rfl, rfl⟩
theorem rturn_none (r : Nat) (n i : Int) (v : Value) (hn : ¬ (n = 0 ∨ n = 1)) (w : World) : Calls Tryd.prog 30 #[.pointer (some ⟨r, 0, none⟩), .int .i64 n, .int .i64 i, v] w fun e w' => e = .returned (.int .i64 1) ∧ w = w' := by
  have t0 : (n != 0) = true := by rw [bne_iff_ne]; omega
  have t1 : (n != 1) = true := by rw [bne_iff_ne]; omega
  go_enter Tryd.func30, Tryd.ntmps30
  go_wp2
  go_ret
  exact ⟨rfl, rfl⟩
theorem str_set (B : ByteArray) (l : List UInt8) (h : B.data.toList = l) (i : Nat) (hi : i < l.length) (x : UInt8) : ((B.extract 0 i ++ ⟨#[x]⟩) ++ B.extract (i + 1) B.size).data.toList = l.set i x := by
  have hs : B.data.size = l.length := by rw [← h]; simp
  have hb : B.size = l.length := hs
  simp only [ByteArray.data_append, ByteArray.data_extract, Array.toList_append, Array.toList_extract, hb]
  rw [List.set_eq_take_append_cons_drop, if_pos hi]
  simp
  rw [h, List.take_of_length_le (l := l.drop (i + 1)) (by rw [List.length_drop]; omega)]
set_option maxHeartbeats 2000000 in
theorem rturn_0 {w : World} {r : Nat} {B0 B1 : ByteArray} {s : DS} (h : RefIs w r B0 B1 s) (i : Int) (x : UInt8) :
    Calls Tryd.prog 30 #[.pointer (some ⟨r, 0, none⟩), .int .i64 0, .int .i64 i, .int .u8 (x.toNat : Int)] w (RPost r (s.turn 0 i x) w) := by
  have H := hid h
  obtain ⟨⟨hb0, hb1, _⟩, hfz⟩ := h.cells
  have hsz := h.size0.1
  have hsf := h.ok.safe0
  have hrm := h.ok.room0
  have hrm1 := h.ok.room1
  by_cases hbad : i < 0 ∨ (s.b0.length : Int) ≤ i
  · have HS : Hid (s.turn 0 i x = (1, s)) := hid (by unfold DS.turn; rw [if_pos (by simpa [DS.bytes] using hbad)])
    have hways : decide (i < 0) = true ∨ (decide (i < 0) = false ∧ decide ((B0.size : Int) ≤ i) = true) := by
      by_cases h1 : i < 0
      · exact .inl (decide_eq_true h1)
      · exact .inr ⟨decide_eq_false h1, decide_eq_true (by omega)⟩
    clear h hbad hsz
    rcases hways with t1 | ⟨t1, t2⟩
    all_goals
      go_enter Tryd.func30, Tryd.ntmps30
      go_wp2
      go_ret
      exact RPost.mk HS.out rfl H.out (Mod.refl _ _)
  · obtain ⟨i, rfl⟩ := Int.eq_ofNat_of_zero_le (show 0 ≤ i by omega)
    have hi : i < B0.size := by omega
    have t1 : decide ((i : Int) < 0) = false := decide_eq_false (by omega)
    have t2 : decide (B0.size ≤ i) = false := decide_eq_false (by omega)
    have hget := str_get B0 i hi
    have hx := xor_u8 (B0[i]) x
    have hy : B0[i] = s.b0.getD i 0 := by rw [hget, h.b0]
    have HS : Hid (s.turn 0 (i : Int) x = (0, { s with b0 := s.b0.set i (B0[i] ^^^ x) })) := hid (by rw [hy]; unfold DS.turn; rw [if_neg (by simpa [DS.bytes] using hbad)]; rfl)
    have HX : Hid (((B0.extract 0 i ++ ⟨#[B0[i] ^^^ x]⟩) ++ B0.extract (i + 1) B0.size).data.toList = s.b0.set i (B0[i] ^^^ x)) := hid (str_set B0 _ h.b0 i (by omega) _)
    obtain ⟨y, hyy⟩ : ∃ y, B0[i] ^^^ x = y := ⟨_, rfl⟩
    rw [hyy] at hx HS HX
    have hone := fun (w' : World) => run_string_of_one (P := Tryd.prog) (w := w') (src := 41) (e := 5) (dst := 9) Tryd.underlying41 Tryd.underlying5 Tryd.underlying9 (.int .u8 (y.toNat : Int)) y rfl
    have hone2 := fun (w' : World) => run_string_of_cells (P := Tryd.prog) (w := (w'.alloc (.cells #[.int .u8 (y.toNat : Int)] 5)).drew) (src := 41) (e := 5) (dst := 9) Tryd.underlying41 Tryd.underlying5 Tryd.underlying9 w'.heap.size 0 1 1 [y] rfl (fun i hi => by obtain rfl : i = 0 := (by omega); simp [cellOf])
    unfold strV at hone2
    have hrl := h.lt
    have hca : ∀ o, (w.alloc o).cell? ⟨r, 0, none⟩ = some (.string B0) := fun o => by rw [World.cell?_alloc_lt _ _ ⟨r, 0, none⟩ hrl]; exact hb0
    have hfa : ∀ o k, (w.alloc o).frozen? ⟨r, k, none⟩ = false := fun o k => by rw [World.frozen?_alloc_old _ _ ⟨r, k, none⟩ (Nat.ne_of_lt hrl)]; exact hfz k
    have hsx : (⟨#[y]⟩ : ByteArray).size = 1 := rfl
    have hadd1 := fun w' => run_string_add_sum (P := Tryd.prog) (w := w') (B0.extract 0 i) ⟨#[y]⟩ (by rw [ByteArray.size_extract, hsx]; omega)
    have hadd2 := fun w' => run_string_add_sum (P := Tryd.prog) (w := w') (B0.extract 0 i ++ ⟨#[y]⟩) (B0.extract (i + 1) B0.size) (by rw [ByteArray.size_append, ByteArray.size_extract, ByteArray.size_extract, hsx]; omega)
    have w1 : IntKind.i64.wrap ((i : Int) + 1) = (i : Int) + 1 := IntWalk.i64_in _ (by omega)
    clear h hbad hsz hget hy hyy hsx
    go_enter Tryd.func30, Tryd.ntmps30
    go_wp2
    go_region
    all_goals go_wp2
    all_goals
      go_ret
      have hput := H.out.put0 _ HX.out (by rw [List.length_set]; exact H.out.ok.safe0) (by rw [List.length_set]; have := H.out.ok.room0; omega)
      exact RPost.mk HS.out rfl (hput.1.new (below_alloc1 _ _)).drew ((hput.2.alloc _).drew)
set_option maxHeartbeats 2000000 in
theorem rturn_1 {w : World} {r : Nat} {B0 B1 : ByteArray} {s : DS} (h : RefIs w r B0 B1 s) (i : Int) (x : UInt8) :
    Calls Tryd.prog 30 #[.pointer (some ⟨r, 0, none⟩), .int .i64 1, .int .i64 i, .int .u8 (x.toNat : Int)] w (RPost r (s.turn 1 i x) w) := by
  have H := hid h
  obtain ⟨⟨hb0, hb1, _⟩, hfz⟩ := h.cells
  have hsz := h.size0.2
  have hsf := h.ok.safe1
  have hrm := h.ok.room0
  have hrm1 := h.ok.room1
  by_cases hbad : i < 0 ∨ (s.b1.length : Int) ≤ i
  · have HS : Hid (s.turn 1 i x = (1, s)) := hid (by unfold DS.turn; rw [if_pos (by simpa [DS.bytes] using hbad)])
    have hways : decide (i < 0) = true ∨ (decide (i < 0) = false ∧ decide ((B1.size : Int) ≤ i) = true) := by
      by_cases h1 : i < 0
      · exact .inl (decide_eq_true h1)
      · exact .inr ⟨decide_eq_false h1, decide_eq_true (by omega)⟩
    clear h hbad hsz
    rcases hways with t1 | ⟨t1, t2⟩
    all_goals
      go_enter Tryd.func30, Tryd.ntmps30
      go_wp2
      go_ret
      exact RPost.mk HS.out rfl H.out (Mod.refl _ _)
  · obtain ⟨i, rfl⟩ := Int.eq_ofNat_of_zero_le (show 0 ≤ i by omega)
    have hi : i < B1.size := by omega
    have t1 : decide ((i : Int) < 0) = false := decide_eq_false (by omega)
    have t2 : decide (B1.size ≤ i) = false := decide_eq_false (by omega)
    have hget := str_get B1 i hi
    have hx := xor_u8 (B1[i]) x
    have hy : B1[i] = s.b1.getD i 0 := by rw [hget, h.b1]
    have HS : Hid (s.turn 1 (i : Int) x = (0, { s with b1 := s.b1.set i (B1[i] ^^^ x) })) := hid (by rw [hy]; unfold DS.turn; rw [if_neg (by simpa [DS.bytes] using hbad)]; rfl)
    have HX : Hid (((B1.extract 0 i ++ ⟨#[B1[i] ^^^ x]⟩) ++ B1.extract (i + 1) B1.size).data.toList = s.b1.set i (B1[i] ^^^ x)) := hid (str_set B1 _ h.b1 i (by omega) _)
    obtain ⟨y, hyy⟩ : ∃ y, B1[i] ^^^ x = y := ⟨_, rfl⟩
    rw [hyy] at hx HS HX
    have hone := fun (w' : World) => run_string_of_one (P := Tryd.prog) (w := w') (src := 41) (e := 5) (dst := 9) Tryd.underlying41 Tryd.underlying5 Tryd.underlying9 (.int .u8 (y.toNat : Int)) y rfl
    have hone2 := fun (w' : World) => run_string_of_cells (P := Tryd.prog) (w := (w'.alloc (.cells #[.int .u8 (y.toNat : Int)] 5)).drew) (src := 41) (e := 5) (dst := 9) Tryd.underlying41 Tryd.underlying5 Tryd.underlying9 w'.heap.size 0 1 1 [y] rfl (fun i hi => by obtain rfl : i = 0 := (by omega); simp [cellOf])
    unfold strV at hone2
    have hrl := h.lt
    have hca : ∀ o, (w.alloc o).cell? ⟨r, 1, none⟩ = some (.string B1) := fun o => by rw [World.cell?_alloc_lt _ _ ⟨r, 1, none⟩ hrl]; exact hb1
    have hfa : ∀ o k, (w.alloc o).frozen? ⟨r, k, none⟩ = false := fun o k => by rw [World.frozen?_alloc_old _ _ ⟨r, k, none⟩ (Nat.ne_of_lt hrl)]; exact hfz k
    have hsx : (⟨#[y]⟩ : ByteArray).size = 1 := rfl
    have hadd1 := fun w' => run_string_add_sum (P := Tryd.prog) (w := w') (B1.extract 0 i) ⟨#[y]⟩ (by rw [ByteArray.size_extract, hsx]; omega)
    have hadd2 := fun w' => run_string_add_sum (P := Tryd.prog) (w := w') (B1.extract 0 i ++ ⟨#[y]⟩) (B1.extract (i + 1) B1.size) (by rw [ByteArray.size_append, ByteArray.size_extract, ByteArray.size_extract, hsx]; omega)
    have w1 : IntKind.i64.wrap ((i : Int) + 1) = (i : Int) + 1 := IntWalk.i64_in _ (by omega)
    clear h hbad hsz hget hy hyy hsx
    go_enter Tryd.func30, Tryd.ntmps30
    go_wp2
    go_region
    all_goals go_wp2
    all_goals
      go_ret
      have hput := H.out.put1 _ HX.out (by rw [List.length_set]; exact H.out.ok.safe1) (by rw [List.length_set]; have := H.out.ok.room0; omega)
      exact RPost.mk HS.out rfl (hput.1.new (below_alloc1 _ _)).drew ((hput.2.alloc _).drew)
theorem crashTo_end (s : DS) (keep : List Int) : s.crash keep = { (s.crashTo keep 2) with fuse := -1, off := false } := rfl
def RCrashRel (r : Nat) (s : DS) (keep : List Int) (kv : Value) (w0 : World) (i : Value) (w : World) : Prop :=
  ∃ k : Nat, k ≤ 2 ∧ i = .int .i64 k ∧ ∃ B0 B1, RefIs w r B0 B1 (s.crashTo keep k) ∧ Mod (fun k => k = r) w0 w ∧ ReadsI w kv keep
set_option maxRecDepth 100000 in
set_option maxHeartbeats 2000000 in
theorem rcrash_any {w : World} {r : Nat} {B0 B1 : ByteArray} {s : DS} (h : RefIs w r B0 B1 s) (kv : Value) (keep : List Int) (hk : ReadsI w kv keep) (ha : Away kv r keep) (hkl : keep.length ≤ 1099511627776) :
    Calls Tryd.prog 29 #[.pointer (some ⟨r, 0, none⟩), kv] w fun e w' => e = .returned (.tuple #[]) ∧ ∃ B0 B1, RefIs w' r B0 B1 (s.crash keep) ∧ Mod (fun k => k = r) w w' := by
  have H := hid h
  have HK := hid hk
  have HA := hid ha
  obtain ⟨ka, kc, rfl⟩ := hk.len
  clear h hk ha
  go_enter Tryd.func29, Tryd.ntmps29
  go_wp2
  go_loopw [4] (fun i wr => RCrashRel r s keep (.slice ka keep.length kc) w i wr) (fun i _ => 2 - (intOf i).toNat)
  case atStart => exact ⟨0, by omega, rfl, _, _, H.out, Mod.refl _ _, HK.out⟩
  case round =>
    obtain ⟨k, hk2, rfl, B0, B1, hd, hm, hr⟩ := hrel
    rcases (by omega : k = 0 ∨ k = 1 ∨ k = 2) with rfl | rfl | rfl
    · -- file 0
      have hct : s.crashTo keep 0 = s := rfl
      rw [hct] at hd
      have HD := hid hd
      have HM := hid hm
      have HR := hid hr
      have hsz := hd.size0.1
      have hok := hd.ok
      obtain ⟨⟨h0, h1, h2, h3, h4, h5, h6⟩, hfz⟩ := hd.cells
      have hs0 := hok.safe0
      have hr0 := hok.room0
      have hr1 := hok.room1
      clear hd hm hr hct hok
      rw [show ((0 : Nat) : Int) = 0 from rfl]
      obtain ⟨K, hK⟩ : ∃ K, keepN keep 0 (s.b0.length - s.s0) = K := ⟨_, rfl⟩
      have hKle := keepN_le keep 0 (s.b0.length - s.s0)
      rw [hK] at hKle
      have HKK := hid hK
      clear hK
      have hsB : s.s0 + K ≤ B0.size := by omega
      have hszB : B0.size ≤ 16777216 := by omega
      have HSZ := hid hsz
      have hsS : s.s0 ≤ B0.size := by omega
      have HSB : Hid ((B0.extract 0 (s.s0 + K)).size = s.s0 + K) := hid (by rw [ByteArray.size_extract]; omega)
      have hsbb := HSB.out
      have e3 : IntKind.i64.wrap ((s.s0 : Int) + (K : Int)) = (s.s0 : Int) + (K : Int) := IntWalk.i64_in _ (by omega)
      clear hsz hs0 hr0 hKle
      by_cases hi : 0 < keep.length
      · obtain ⟨b, o, cap, hkv, hc⟩ := HR.out.at_ 0 hi
        cases hkv
        try simp only [Nat.add_zero] at hc
        obtain ⟨x, hx⟩ : ∃ x, keep.getD 0 0 = x := ⟨_, rfl⟩
        rw [hx] at hc
        have e1 : IntKind.i64.wrap ((B0.size : Int) - s.s0) = (B0.size : Int) - s.s0 := IntWalk.i64_in _ (by omega)
        have e2 : IntKind.i64.wrap ((B0.size : Int) - s.s0 + 1) = (B0.size : Int) - s.s0 + 1 := IntWalk.i64_in _ (by omega)
        have hkk : wrap64 ((IntKind.u64.wrap x).tmod ((B0.size : Int) - s.s0 + 1)) = (K : Int) := by
          have := HKK.out
          have hsz := HSZ.out
          unfold keepN at this
          rw [if_pos hi, hx, ← hsz] at this
          have hnn : 0 ≤ IntKind.u64.wrap x := by simp [IntKind.wrap, IntKind.bits, IntKind.signed]; omega
          rw [Int.tmod_eq_emod_of_nonneg hnn]
          obtain ⟨y, hy⟩ := Int.eq_ofNat_of_zero_le hnn
          rw [hy] at this ⊢
          rw [Int.toNat_natCast] at this
          have e : ((y : Int) % ((B0.size : Int) - s.s0 + 1)) = ((y % (B0.size - s.s0 + 1) : Nat) : Int) := by
            rw [Int.natCast_emod]; congr 1; omega
          rw [e, this]; unfold wrap64; omega
        clear hx
        go_wp2
        go_quiet (fail)
        go_wp2
        go_region
        all_goals go_wp2
        all_goals go_region
        all_goals go_wp2
        have hRef := HD.out.drewN nq
        have hzz := HSZ.out
        obtain ⟨T, hT⟩ := hRef.heap
        have hX := str_cut B0 _ hRef.b0 (s.s0 + K)
        have hok := hRef.ok
        have hr := hok.room0
        have hs := hok.safe0
        have hm2 : Mod (fun x => x = r) (wr.drewN nq) (((wr.drewN nq).setCell ⟨r, 0, none⟩ (.string (B0.extract 0 (s.s0 + K)))).setCell ⟨r, 2, none⟩ (.int .i64 ((s.s0 + K : Nat) : Int))) := ((Mod.refl (fun x => x = r) (wr.drewN nq)).setCell ⟨r, 0, none⟩ _ (.inl rfl)).setCell ⟨r, 2, none⟩ _ (.inl rfl)
        have hh2 : (((wr.drewN nq).setCell ⟨r, 0, none⟩ (.string (B0.extract 0 (s.s0 + K)))).setCell ⟨r, 2, none⟩ (.int .i64 ((s.s0 + K : Nat) : Int))).heap[r]? = some _ := heap_setCell_same _ _ _ _ _ _ (heap_setCell_same _ _ _ _ _ _ hT)
        have hend : RefIs (((wr.drewN nq).setCell ⟨r, 0, none⟩ (.string (B0.extract 0 (s.s0 + K)))).setCell ⟨r, 2, none⟩ (.int .i64 ((s.s0 + K : Nat) : Int))) r (B0.extract 0 (s.s0 + K)) B1 { s with b0 := s.b0.take (s.s0 + K), s0 := s.s0 + K } :=
          ⟨⟨T, by simpa using hh2⟩, hX, hRef.b1, ⟨by simp; omega, hok.safe1, by simp; omega, hok.room1, hok.fuse0, hok.fuse1⟩⟩
        exact ⟨⟨1, by omega, rfl, _, _, by rw [crash0_eq s keep K (by exact HKK.out)]; exact hend.drew.drew, (((HM.out.drewN nq).trans hm2 (fun _ e => .inl e)).drew).drew, ((((HR.out.mod ((Mod.refl (fun k => k = r) wr).drewN nq) HA.out).mod hm2 HA.out).mod (Mod.drew (Mod.refl (fun k => k = r) _)) HA.out).mod (Mod.drew (Mod.refl (fun k => k = r) _)) HA.out)⟩, by simp [intOf]⟩
      · have hk0 : K = 0 := by have := HKK.out; unfold keepN at this; rw [if_neg hi] at this; exact this.symm
        subst hk0
        go_wp2
        go_region
        all_goals go_wp2
        all_goals go_region
        all_goals go_wp2
        have hRef := HD.out
        have hzz := HSZ.out
        obtain ⟨T, hT⟩ := hRef.heap
        have hX := str_cut B0 _ hRef.b0 (s.s0 + 0)
        have hok := hRef.ok
        have hr := hok.room0
        have hs := hok.safe0
        have hm2 : Mod (fun x => x = r) wr (((wr).setCell ⟨r, 0, none⟩ (.string (B0.extract 0 (s.s0 + 0)))).setCell ⟨r, 2, none⟩ (.int .i64 ((s.s0 + 0 : Nat) : Int))) := ((Mod.refl (fun x => x = r) wr).setCell ⟨r, 0, none⟩ _ (.inl rfl)).setCell ⟨r, 2, none⟩ _ (.inl rfl)
        have hh2 : (((wr).setCell ⟨r, 0, none⟩ (.string (B0.extract 0 (s.s0 + 0)))).setCell ⟨r, 2, none⟩ (.int .i64 ((s.s0 + 0 : Nat) : Int))).heap[r]? = some _ := heap_setCell_same _ _ _ _ _ _ (heap_setCell_same _ _ _ _ _ _ hT)
        have hend : RefIs (((wr).setCell ⟨r, 0, none⟩ (.string (B0.extract 0 (s.s0 + 0)))).setCell ⟨r, 2, none⟩ (.int .i64 ((s.s0 + 0 : Nat) : Int))) r (B0.extract 0 (s.s0 + 0)) B1 { s with b0 := s.b0.take (s.s0 + 0), s0 := s.s0 + 0 } :=
          ⟨⟨T, by simpa using hh2⟩, hX, hRef.b1, ⟨by simp; omega, hok.safe1, by simp; omega, hok.room1, hok.fuse0, hok.fuse1⟩⟩
        exact ⟨⟨1, by omega, rfl, _, _, by rw [crash0_eq s keep 0 (by exact HKK.out)]; exact hend.drew.drew, (((HM.out).trans hm2 (fun _ e => .inl e)).drew).drew, (((HR.out.mod hm2 HA.out).mod (Mod.drew (Mod.refl (fun k => k = r) _)) HA.out).mod (Mod.drew (Mod.refl (fun k => k = r) _)) HA.out)⟩, by simp [intOf]⟩
    · -- file 1
      obtain ⟨t, hct⟩ : ∃ t, s.crashTo keep 1 = t := ⟨_, rfl⟩
      rw [hct] at hd
      have HCT := hid hct
      have HD := hid hd
      have HM := hid hm
      have HR := hid hr
      have hsz := hd.size0.2
      have hok := hd.ok
      obtain ⟨⟨h0, h1, h2, h3, h4, h5, h6⟩, hfz⟩ := hd.cells
      have hs0 := hok.safe1
      have hr0 := hok.room0
      have hr1 := hok.room1
      clear hd hm hr hct hok
      rw [show ((1 : Nat) : Int) = 1 from rfl]
      obtain ⟨K, hK⟩ : ∃ K, keepN keep 1 (t.b1.length - t.s1) = K := ⟨_, rfl⟩
      have hKle := keepN_le keep 1 (t.b1.length - t.s1)
      rw [hK] at hKle
      have HKK := hid hK
      clear hK
      have hsB : t.s1 + K ≤ B1.size := by omega
      have hszB : B1.size ≤ 16777216 := by omega
      have HSZ := hid hsz
      have hsS : t.s1 ≤ B1.size := by omega
      have HSB : Hid ((B1.extract 0 (t.s1 + K)).size = t.s1 + K) := hid (by rw [ByteArray.size_extract]; omega)
      have hsbb := HSB.out
      have e3 : IntKind.i64.wrap ((t.s1 : Int) + (K : Int)) = (t.s1 : Int) + (K : Int) := IntWalk.i64_in _ (by omega)
      clear hsz hs0 hr0 hKle
      by_cases hi : 1 < keep.length
      · obtain ⟨b, o, cap, hkv, hc⟩ := HR.out.at_ 1 hi
        cases hkv
        try simp only [Nat.add_zero] at hc
        obtain ⟨x, hx⟩ : ∃ x, keep.getD 1 0 = x := ⟨_, rfl⟩
        rw [hx] at hc
        have e1 : IntKind.i64.wrap ((B1.size : Int) - t.s1) = (B1.size : Int) - t.s1 := IntWalk.i64_in _ (by omega)
        have e2 : IntKind.i64.wrap ((B1.size : Int) - t.s1 + 1) = (B1.size : Int) - t.s1 + 1 := IntWalk.i64_in _ (by omega)
        have hkk : wrap64 ((IntKind.u64.wrap x).tmod ((B1.size : Int) - t.s1 + 1)) = (K : Int) := by
          have := HKK.out
          have hsz := HSZ.out
          unfold keepN at this
          rw [if_pos hi, hx, ← hsz] at this
          have hnn : 0 ≤ IntKind.u64.wrap x := by simp [IntKind.wrap, IntKind.bits, IntKind.signed]; omega
          rw [Int.tmod_eq_emod_of_nonneg hnn]
          obtain ⟨y, hy⟩ := Int.eq_ofNat_of_zero_le hnn
          rw [hy] at this ⊢
          rw [Int.toNat_natCast] at this
          have e : ((y : Int) % ((B1.size : Int) - t.s1 + 1)) = ((y % (B1.size - t.s1 + 1) : Nat) : Int) := by
            rw [Int.natCast_emod]; congr 1; omega
          rw [e, this]; unfold wrap64; omega
        clear hx
        go_wp2
        go_quiet (fail)
        go_wp2
        go_region
        all_goals go_wp2
        all_goals go_region
        all_goals go_wp2
        have hRef := HD.out.drewN nq
        have hzz := HSZ.out
        obtain ⟨T, hT⟩ := hRef.heap
        have hX := str_cut B1 _ hRef.b1 (t.s1 + K)
        have hok := hRef.ok
        have hr := hok.room0
        have hs := hok.safe1
        have hm2 : Mod (fun x => x = r) (wr.drewN nq) (((wr.drewN nq).setCell ⟨r, 1, none⟩ (.string (B1.extract 0 (t.s1 + K)))).setCell ⟨r, 3, none⟩ (.int .i64 ((t.s1 + K : Nat) : Int))) := ((Mod.refl (fun x => x = r) (wr.drewN nq)).setCell ⟨r, 1, none⟩ _ (.inl rfl)).setCell ⟨r, 3, none⟩ _ (.inl rfl)
        have hh2 : (((wr.drewN nq).setCell ⟨r, 1, none⟩ (.string (B1.extract 0 (t.s1 + K)))).setCell ⟨r, 3, none⟩ (.int .i64 ((t.s1 + K : Nat) : Int))).heap[r]? = some _ := heap_setCell_same _ _ _ _ _ _ (heap_setCell_same _ _ _ _ _ _ hT)
        have hend : RefIs (((wr.drewN nq).setCell ⟨r, 1, none⟩ (.string (B1.extract 0 (t.s1 + K)))).setCell ⟨r, 3, none⟩ (.int .i64 ((t.s1 + K : Nat) : Int))) r B0 (B1.extract 0 (t.s1 + K)) { t with b1 := t.b1.take (t.s1 + K), s1 := t.s1 + K } :=
          ⟨⟨T, by simpa using hh2⟩, hRef.b0, hX, ⟨hok.safe0, by simp; omega, by simp; omega, hok.room1, hok.fuse0, hok.fuse1⟩⟩
        exact ⟨⟨2, by omega, rfl, _, _, by rw [crash1_eq s t keep K HCT.out (by exact HKK.out)]; exact hend.drew.drew, (((HM.out.drewN nq).trans hm2 (fun _ e => .inl e)).drew).drew, ((((HR.out.mod ((Mod.refl (fun k => k = r) wr).drewN nq) HA.out).mod hm2 HA.out).mod (Mod.drew (Mod.refl (fun k => k = r) _)) HA.out).mod (Mod.drew (Mod.refl (fun k => k = r) _)) HA.out)⟩, by simp [intOf]⟩
      · have hk0 : K = 0 := by have := HKK.out; unfold keepN at this; rw [if_neg hi] at this; exact this.symm
        subst hk0
        go_wp2
        go_region
        all_goals go_wp2
        all_goals go_region
        all_goals go_wp2
        have hRef := HD.out
        have hzz := HSZ.out
        obtain ⟨T, hT⟩ := hRef.heap
        have hX := str_cut B1 _ hRef.b1 (t.s1 + 0)
        have hok := hRef.ok
        have hr := hok.room0
        have hs := hok.safe1
        have hm2 : Mod (fun x => x = r) wr (((wr).setCell ⟨r, 1, none⟩ (.string (B1.extract 0 (t.s1 + 0)))).setCell ⟨r, 3, none⟩ (.int .i64 ((t.s1 + 0 : Nat) : Int))) := ((Mod.refl (fun x => x = r) wr).setCell ⟨r, 1, none⟩ _ (.inl rfl)).setCell ⟨r, 3, none⟩ _ (.inl rfl)
        have hh2 : (((wr).setCell ⟨r, 1, none⟩ (.string (B1.extract 0 (t.s1 + 0)))).setCell ⟨r, 3, none⟩ (.int .i64 ((t.s1 + 0 : Nat) : Int))).heap[r]? = some _ := heap_setCell_same _ _ _ _ _ _ (heap_setCell_same _ _ _ _ _ _ hT)
        have hend : RefIs (((wr).setCell ⟨r, 1, none⟩ (.string (B1.extract 0 (t.s1 + 0)))).setCell ⟨r, 3, none⟩ (.int .i64 ((t.s1 + 0 : Nat) : Int))) r B0 (B1.extract 0 (t.s1 + 0)) { t with b1 := t.b1.take (t.s1 + 0), s1 := t.s1 + 0 } :=
          ⟨⟨T, by simpa using hh2⟩, hRef.b0, hX, ⟨hok.safe0, by simp; omega, by simp; omega, hok.room1, hok.fuse0, hok.fuse1⟩⟩
        exact ⟨⟨2, by omega, rfl, _, _, by rw [crash1_eq s t keep 0 HCT.out (by exact HKK.out)]; exact hend.drew.drew, (((HM.out).trans hm2 (fun _ e => .inl e)).drew).drew, (((HR.out.mod hm2 HA.out).mod (Mod.drew (Mod.refl (fun k => k = r) _)) HA.out).mod (Mod.drew (Mod.refl (fun k => k = r) _)) HA.out)⟩, by simp [intOf]⟩
    · have HD := hid hd
      have HM := hid hm
      obtain ⟨⟨h0, h1, h2, h3, h4, h5, h6⟩, hfz⟩ := hd.cells
      clear hd hm hr
      rw [show ((2 : Nat) : Int) = 2 from rfl]
      go_wp2
      go_end0
      obtain ⟨T, hT⟩ := HD.out.heap
      have hm2 : Mod (fun k => k = r) wr ((wr.setCell ⟨r, 5, none⟩ (.int .i64 (-1))).setCell ⟨r, 6, none⟩ (.bool false)) := ((Mod.refl (fun k => k = r) wr).setCell ⟨r, 5, none⟩ _ (.inl rfl)).setCell ⟨r, 6, none⟩ _ (.inl rfl)
      exact ⟨rfl, B0, B1, HD.out.setFO (-1) false (by omega) ⟨T, heap_setCell_same _ _ _ _ _ _ (heap_setCell_same _ _ _ _ _ _ hT)⟩, HM.out.trans hm2 (fun _ e => .inl e)⟩
end Go.Proofs.YtdchpabcaoghpaaDoor

/-
  Crash by contract; Write in every case.
-/
import Derived.Test.YtdchpabcaoghpaaDoorDiskStep
import Derived.Deep.QuietTactic
import Derived.BigQuiet
import Derived.IntWalk
namespace Go.Proofs.YtdchpabcaoghpaaDoor
open Go.RowKit
set_option linter.unusedVariables false

theorem write_any {w : World} {d : Nat} {va vb : Value} {s : DS} (h : DiskIs w d va vb s) (n : Int) (hn : n = 0 ∨ n = 1) (b o cap : Nat) (m : List UInt8) (hm : ReadsB w (.slice (some ⟨b, o, none⟩) m.length cap) m) (hcap : m.length ≤ cap) (hlen : m.length ≤ 1099511627776) :
    Calls Tryd.prog 14 #[.pointer (some ⟨d, 0, none⟩), .int .i64 n, .slice (some ⟨b, o, none⟩) m.length cap] w (WritePost d va vb s n m w) := by
  by_cases hoff : s.off = true
  · exact write_off h hoff n hn m _
  · have hoff' : s.off = false := by simpa using hoff
    by_cases hroom : s.room - s.used < m.length
    · exact write_room h hoff' n hn _ _ m hlen hroom
    · rcases hn with rfl | rfl
      · exact write_0 h hoff' b o cap m hm hcap hlen hroom
      · exact write_1 h hoff' b o cap m hm hcap hlen hroom

/-- A slice of whole numbers that reads. -/
def ReadsI (w : World) (v : Value) (l : List Int) : Prop :=
  (∃ a c, v = .slice a 0 c ∧ l = []) ∨ ∃ b o cap, v = .slice (some ⟨b, o, none⟩) l.length cap ∧ ∀ i, i < l.length → w.cell? ⟨b, o + i, none⟩ = some (.int .i64 (l.getD i 0))
def Away (v : Value) (d : Nat) (l : List Int) : Prop := v.ownBlock ≠ some d ∨ l = []
theorem ReadsI.mod {w w' : World} {v : Value} {l : List Int} {d : Nat} (h : ReadsI w v l) (hm : Mod (fun k => k = d) w w') (ha : Away v d l) : ReadsI w' v l := by
  rcases h with h | ⟨b, o, cap, rfl, hc⟩
  · exact .inl h
  · refine .inr ⟨b, o, cap, rfl, fun i hi => hm.cell (hc i hi) (fun e => ?_)⟩
    rcases ha with ha | rfl
    · exact ha (by simp only at e; subst e; rfl)
    · simp at hi
theorem ReadsI.below {w w' : World} {v : Value} {l : List Int} (h : ReadsI w v l) (hb : Below w.heap.size w w') : ReadsI w' v l := by
  rcases h with h | ⟨b, o, cap, rfl, hc⟩
  · exact .inl h
  · exact .inr ⟨b, o, cap, rfl, fun i hi => by rw [hb.cell (p := ⟨b, o + i, none⟩) (lt_of_cell (hc i hi))]; exact hc i hi⟩
theorem ReadsI.len {w : World} {v : Value} {l : List Int} (h : ReadsI w v l) : ∃ a c, v = .slice a l.length c := by
  rcases h with ⟨a, c, rfl, rfl⟩ | ⟨b, o, cap, rfl, hc⟩
  · exact ⟨a, c, rfl⟩
  · exact ⟨_, _, rfl⟩
theorem ReadsI.at_ {w : World} {v : Value} {l : List Int} (h : ReadsI w v l) (i : Nat) (hi : i < l.length) : ∃ b o cap, v = .slice (some ⟨b, o, none⟩) l.length cap ∧ w.cell? ⟨b, o + i, none⟩ = some (.int .i64 (l.getD i 0)) := by
  rcases h with ⟨a, c, rfl, rfl⟩ | ⟨b, o, cap, rfl, hc⟩
  · simp at hi
  · exact ⟨b, o, cap, rfl, hc i hi⟩

theorem OwnB.cut {w : World} {base : Nat} {e : TypeId} {a : Option Addr} {n c : Nat} {l : List UInt8} (h : OwnB w base e (.slice a n c) l) (k : Nat) (hk : k ≤ l.length) : OwnB w base e (.slice a k c) (l.take k) := by
  obtain ⟨h1, h2⟩ := h
  refine ⟨by simp, ?_⟩
  rcases h2 with ⟨hv, h0⟩ | ⟨g, cap, cur, hv, hb, hg, hn, hm, hs, ht⟩
  · cases hv
    obtain rfl : k = 0 := by omega
    exact .inl ⟨rfl, by simp⟩
  · cases hv
    refine .inr ⟨g, c, cur, by rw [List.length_take, Nat.min_eq_left hk], hb, hg, by rw [List.length_take]; omega, hm, hs, ?_⟩
    rw [List.length_take, Nat.min_eq_left hk]
    rw [List.map_take, ← ht, List.take_take]
    congr 1; omega
/-- How many bytes more are kept. -/
def keepN (keep : List Int) (i : Nat) (free : Nat) : Nat := if i < keep.length then (IntKind.u64.wrap (keep.getD i 0)).toNat % (free + 1) else 0
def DS.crash0 (s : DS) (keep : List Int) : DS := { s with b0 := s.b0.take (s.s0 + keepN keep 0 (s.b0.length - s.s0)), s0 := s.s0 + keepN keep 0 (s.b0.length - s.s0) }
def DS.crash1 (s : DS) (keep : List Int) : DS := { s with b1 := s.b1.take (s.s1 + keepN keep 1 (s.b1.length - s.s1)), s1 := s.s1 + keepN keep 1 (s.b1.length - s.s1) }
def DS.crash (s : DS) (keep : List Int) : DS := { (s.crash0 keep).crash1 keep with fuse := -1, off := false }
theorem keepN_le (keep : List Int) (i free : Nat) : keepN keep i free ≤ free := by
  unfold keepN; split
  · have := Nat.mod_lt (IntKind.u64.wrap (keep.getD i 0)).toNat (show 0 < free + 1 by omega); omega
  · omega
theorem DiskIs.cut0 {w : World} {d : Nat} {a : Option Addr} {n c : Nat} {vb : Value} {s : DS} (h : DiskIs w d (.slice a n c) vb s) (k : Nat) (h1 : s.s0 ≤ k) (h2 : k ≤ s.b0.length) :
    DiskIs ((w.setCell ⟨d, 1, none⟩ (.int .i64 k)).setCell ⟨d, 0, none⟩ (.slice a k c)) d (.slice a k c) vb { s with b0 := s.b0.take k, s0 := k } ∧ Mod (fun k => k = d) w ((w.setCell ⟨d, 1, none⟩ (.int .i64 k)).setCell ⟨d, 0, none⟩ (.slice a k c)) := by
  obtain ⟨T, hh⟩ := h.heap
  have hm : Mod (fun k => k = d) w ((w.setCell ⟨d, 1, none⟩ (.int .i64 k)).setCell ⟨d, 0, none⟩ (.slice a k c)) := ((Mod.refl (fun k => k = d) w).setCell ⟨d, 1, none⟩ _ (.inl rfl)).setCell ⟨d, 0, none⟩ _ (.inl rfl)
  have hob : (Value.slice a k c).ownBlock = (Value.slice a n c).ownBlock := by cases a with | none => rfl | some x => (cases x; rfl)
  refine ⟨⟨⟨T, ?_⟩, ?_, ?_, ?_, h.ne1, ?_, ?_⟩, hm⟩
  · have : ((w.setCell ⟨d, 1, none⟩ (.int .i64 k)).setCell ⟨d, 0, none⟩ (.slice a k c)).heap[d]? = some _ := heap_setCell_same _ _ _ _ _ _ (heap_setCell_same _ _ _ _ _ _ hh)
    simpa using this
  · exact (h.own0.cut k h2).mod hm (fun k hk e => h.ne0 (by subst e; rw [← hk, hob]))
  · exact h.own1.mod hm (fun k hk e => h.ne1 (e ▸ hk))
  · rw [hob]; exact h.ne0
  · rw [hob]; exact h.ne
  · refine ⟨by simp; omega, h.ok.safe1, ?_, h.ok.room1, h.ok.fuse0, h.ok.fuse1⟩
    have := h.ok.room0; simp; omega
theorem DiskIs.cut1 {w : World} {d : Nat} {a : Option Addr} {n c : Nat} {va : Value} {s : DS} (h : DiskIs w d va (.slice a n c) s) (k : Nat) (h1 : s.s1 ≤ k) (h2 : k ≤ s.b1.length) :
    DiskIs ((w.setCell ⟨d, 3, none⟩ (.int .i64 k)).setCell ⟨d, 2, none⟩ (.slice a k c)) d va (.slice a k c) { s with b1 := s.b1.take k, s1 := k } ∧ Mod (fun k => k = d) w ((w.setCell ⟨d, 3, none⟩ (.int .i64 k)).setCell ⟨d, 2, none⟩ (.slice a k c)) := by
  obtain ⟨T, hh⟩ := h.heap
  have hm : Mod (fun k => k = d) w ((w.setCell ⟨d, 3, none⟩ (.int .i64 k)).setCell ⟨d, 2, none⟩ (.slice a k c)) := ((Mod.refl (fun k => k = d) w).setCell ⟨d, 3, none⟩ _ (.inl rfl)).setCell ⟨d, 2, none⟩ _ (.inl rfl)
  have hob : (Value.slice a k c).ownBlock = (Value.slice a n c).ownBlock := by cases a with | none => rfl | some x => (cases x; rfl)
  refine ⟨⟨⟨T, ?_⟩, ?_, ?_, h.ne0, ?_, ?_, ?_⟩, hm⟩
  · have : ((w.setCell ⟨d, 3, none⟩ (.int .i64 k)).setCell ⟨d, 2, none⟩ (.slice a k c)).heap[d]? = some _ := heap_setCell_same _ _ _ _ _ _ (heap_setCell_same _ _ _ _ _ _ hh)
    simpa using this
  · exact h.own0.mod hm (fun k hk e => h.ne0 (e ▸ hk))
  · exact (h.own1.cut k h2).mod hm (fun k hk e => h.ne1 (by subst e; rw [← hk, hob]))
  · rw [hob]; exact h.ne1
  · intro x hx; rw [hob]; exact h.ne x hx
  · refine ⟨h.ok.safe0, by simp; omega, ?_, h.ok.room1, h.ok.fuse0, h.ok.fuse1⟩
    have := h.ok.room0; simp; omega

theorem DiskIs.drewN {w : World} {d : Nat} {va vb : Value} {s : DS} (h : DiskIs w d va vb s) (n : Nat) : DiskIs (w.drewN n) d va vb s := ⟨h.heap, h.own0, h.own1, h.ne0, h.ne1, h.ne, h.ok⟩
theorem Mod.drewN {S : Nat → Prop} {a b : World} (h : Mod S a b) (n : Nat) : Mod S a (b.drewN n) := ⟨h.os, h.tape, h.output, h.size, h.block⟩
theorem own_slice (a : Option Addr) (n m c c' : Nat) : (Value.slice a n c).ownBlock = (Value.slice a m c').ownBlock := by cases a with | none => rfl | some x => (cases x; rfl)
/-- The disk in a round of Crash. -/
def DS.crashTo (s : DS) (keep : List Int) (i : Nat) : DS := if i = 0 then s else if i = 1 then s.crash0 keep else (s.crash0 keep).crash1 keep
theorem crash0_eq (s : DS) (keep : List Int) (K : Nat) (h : keepN keep 0 (s.b0.length - s.s0) = K) : s.crashTo keep 1 = { s with b0 := s.b0.take (s.s0 + K), s0 := s.s0 + K } := by unfold DS.crashTo DS.crash0; rw [if_neg (by omega), if_pos rfl, h]
theorem crash1_eq (s t : DS) (keep : List Int) (K : Nat) (ht : s.crashTo keep 1 = t) (h : keepN keep 1 (t.b1.length - t.s1) = K) : s.crashTo keep 2 = { t with b1 := t.b1.take (t.s1 + K), s1 := t.s1 + K } := by
  unfold DS.crashTo at *; rw [if_neg (by omega), if_pos rfl] at ht; rw [if_neg (by omega), if_neg (by omega), ht]; unfold DS.crash1; rw [h]
def CrashRel (d : Nat) (va vb : Value) (s : DS) (keep : List Int) (kv : Value) (w0 : World) (i : Value) (w : World) : Prop :=
  ∃ k : Nat, k ≤ 2 ∧ i = .int .i64 k ∧ ∃ va' vb', DiskIs w d va' vb' (s.crashTo keep k) ∧ va'.ownBlock = va.ownBlock ∧ vb'.ownBlock = vb.ownBlock ∧ Mod (fun k => k = d) w0 w ∧ ReadsI w kv keep
set_option maxRecDepth 100000 in
set_option maxHeartbeats 1000000 in
theorem crash_any {w : World} {d : Nat} {va vb : Value} {s : DS} (h : DiskIs w d va vb s) (kv : Value) (keep : List Int) (hk : ReadsI w kv keep) (ha : Away kv d keep) (hkl : keep.length ≤ 1099511627776) :
    Calls Tryd.prog 19 #[.pointer (some ⟨d, 0, none⟩), kv] w (ActPost d va vb (0, s.crash keep) w) := by
  have H := hid h
  have HK := hid hk
  have HA := hid ha
  obtain ⟨ka, kc, rfl⟩ := hk.len
  clear h hk ha
  go_enter Tryd.func19, Tryd.ntmps19
  go_wp2
  go_loopw [11] (fun i wr => CrashRel d va vb s keep (.slice ka keep.length kc) w i wr) (fun i _ => 2 - (intOf i).toNat)
  case atStart => exact ⟨0, by omega, rfl, va, vb, H.out, rfl, rfl, Mod.refl _ _, HK.out⟩
  case round =>
    obtain ⟨k, hk2, rfl, va', vb', hd, hva, hvb, hm, hr⟩ := hrel
    rcases (by omega : k = 0 ∨ k = 1 ∨ k = 2) with rfl | rfl | rfl
    · -- file 0
      have hct : s.crashTo keep 0 = s := rfl
      rw [hct] at hd
      have HD := hid hd
      have HM := hid hm
      have HR := hid hr
      have HVA := hid hva
      have HVB := hid hvb
      have hok := hd.ok
      have hcs := hd.cells.1
      have hfz := hd.cells.2
      obtain ⟨a0, c0, rfl, hlc0⟩ := reads_slice hd.own0.reads
      obtain ⟨a1, c1, rfl, hlc1⟩ := reads_slice hd.own1.reads
      obtain ⟨h0, h1, h2, h3, h4, h5, h6⟩ := hcs
      clear hd hm hr hva hvb hct
      have hs0 := hok.safe0
      have hr0 := hok.room0
      have hr1 := hok.room1
      rw [show ((0 : Nat) : Int) = 0 from rfl]
      obtain ⟨K, hK⟩ : ∃ K, keepN keep 0 (s.b0.length - s.s0) = K := ⟨_, rfl⟩
      have hKle := keepN_le keep 0 (s.b0.length - s.s0)
      rw [hK] at hKle
      have HKK := hid hK
      clear hK
      obtain ⟨L, hL⟩ : ∃ L, s.b0.length = L := ⟨_, rfl⟩
      rw [hL] at h0 hs0 hr0 hKle HKK hlc0 HD HVA
      have HL := hid hL
      clear hL hok
      by_cases hi : 0 < keep.length
      · obtain ⟨b, o, cap, hkv, hc⟩ := HR.out.at_ 0 hi
        cases hkv
        try simp only [Nat.add_zero] at hc
        obtain ⟨x, hx⟩ : ∃ x, keep.getD 0 0 = x := ⟨_, rfl⟩
        rw [hx] at hc
        have e1 : IntKind.i64.wrap ((L : Int) - s.s0) = (L : Int) - s.s0 := IntWalk.i64_in _ (by omega)
        have e2 : IntKind.i64.wrap ((L : Int) - s.s0 + 1) = (L : Int) - s.s0 + 1 := IntWalk.i64_in _ (by omega)
        have hkk : wrap64 ((IntKind.u64.wrap x).tmod ((L : Int) - s.s0 + 1)) = (K : Int) := by
          have := HKK.out
          unfold keepN at this
          rw [if_pos hi, hx] at this
          have hnn : 0 ≤ IntKind.u64.wrap x := by simp [IntKind.wrap, IntKind.bits, IntKind.signed]; omega
          rw [Int.tmod_eq_emod_of_nonneg hnn]
          obtain ⟨y, hy⟩ := Int.eq_ofNat_of_zero_le hnn
          rw [hy] at this ⊢
          rw [Int.toNat_natCast] at this
          have e : ((y : Int) % ((L : Int) - s.s0 + 1)) = ((y % (L - s.s0 + 1) : Nat) : Int) := by
            rw [Int.natCast_emod]; congr 1; omega
          rw [e, this]; unfold wrap64; omega
        clear hx
        go_wp2
        go_quiet (fail)
        go_wp2
        go_region
        all_goals go_wp2
        have hcut := ((HD.out.drewN nq).cut0 (s.s0 + K) (by omega) (by have := HL.out; omega))
        rw [show ((s.s0 + K : Nat) : Int) = (s.s0 : Int) + K by omega] at hcut
        refine ⟨⟨1, by omega, rfl, _, _, by rw [crash0_eq s keep K (by rw [HL.out]; exact HKK.out)]; exact hcut.1.drew, by rw [own_slice a0 _ L c0 c0]; exact HVA.out, HVB.out, ((HM.out.drewN nq).trans hcut.2 (fun _ e => .inl e)).drew, ?_⟩, by simp [intOf]⟩
        exact ((HR.out.mod ((Mod.refl (fun k => k = d) wr).drewN nq) HA.out).mod hcut.2 HA.out).mod (Mod.drew (Mod.refl (fun k => k = d) _)) HA.out
      · have hk0 : K = 0 := by have := HKK.out; unfold keepN at this; rw [if_neg hi] at this; exact this.symm
        have HK0 := hid hk0
        clear hk0
        go_wp2
        go_region
        all_goals go_wp2
        have hcut := (HD.out.cut0 (s.s0) (by omega) (by have := HL.out; omega))
        refine ⟨⟨1, by omega, rfl, _, _, by rw [crash0_eq s keep 0 (by rw [HL.out]; rw [HKK.out]; exact HK0.out), Nat.add_zero]; exact hcut.1.drew, by rw [own_slice a0 _ L c0 c0]; exact HVA.out, HVB.out, (HM.out.trans hcut.2 (fun _ e => .inl e)).drew, ?_⟩, by simp [intOf]⟩
        exact (HR.out.mod hcut.2 HA.out).mod (Mod.drew (Mod.refl (fun k => k = d) _)) HA.out
    · -- file 1
      obtain ⟨t, hct⟩ : ∃ t, s.crashTo keep 1 = t := ⟨_, rfl⟩
      rw [hct] at hd
      have HCT := hid hct
      have HD := hid hd
      have HM := hid hm
      have HR := hid hr
      have HVA := hid hva
      have HVB := hid hvb
      have hok := hd.ok
      have hcs := hd.cells.1
      have hfz := hd.cells.2
      obtain ⟨a0, c0, rfl, hlc0⟩ := reads_slice hd.own0.reads
      obtain ⟨a1, c1, rfl, hlc1⟩ := reads_slice hd.own1.reads
      obtain ⟨h0, h1, h2, h3, h4, h5, h6⟩ := hcs
      clear hd hm hr hva hvb hct
      have hs0 := hok.safe1
      have hr0 := hok.room0
      have hr1 := hok.room1
      rw [show ((1 : Nat) : Int) = 1 from rfl]
      obtain ⟨K, hK⟩ : ∃ K, keepN keep 1 (t.b1.length - t.s1) = K := ⟨_, rfl⟩
      have hKle := keepN_le keep 1 (t.b1.length - t.s1)
      rw [hK] at hKle
      have HKK := hid hK
      clear hK
      obtain ⟨L, hL⟩ : ∃ L, t.b1.length = L := ⟨_, rfl⟩
      rw [hL] at h2 hs0 hr0 hKle HKK hlc1 HD HVB
      have HL := hid hL
      clear hL hok
      by_cases hi : 1 < keep.length
      · obtain ⟨b, o, cap, hkv, hc⟩ := HR.out.at_ 1 hi
        cases hkv
        try simp only [Nat.add_zero] at hc
        obtain ⟨x, hx⟩ : ∃ x, keep.getD 1 0 = x := ⟨_, rfl⟩
        rw [hx] at hc
        have e1 : IntKind.i64.wrap ((L : Int) - t.s1) = (L : Int) - t.s1 := IntWalk.i64_in _ (by omega)
        have e2 : IntKind.i64.wrap ((L : Int) - t.s1 + 1) = (L : Int) - t.s1 + 1 := IntWalk.i64_in _ (by omega)
        have hkk : wrap64 ((IntKind.u64.wrap x).tmod ((L : Int) - t.s1 + 1)) = (K : Int) := by
          have := HKK.out
          unfold keepN at this
          rw [if_pos hi, hx] at this
          have hnn : 0 ≤ IntKind.u64.wrap x := by simp [IntKind.wrap, IntKind.bits, IntKind.signed]; omega
          rw [Int.tmod_eq_emod_of_nonneg hnn]
          obtain ⟨y, hy⟩ := Int.eq_ofNat_of_zero_le hnn
          rw [hy] at this ⊢
          rw [Int.toNat_natCast] at this
          have e : ((y : Int) % ((L : Int) - t.s1 + 1)) = ((y % (L - t.s1 + 1) : Nat) : Int) := by
            rw [Int.natCast_emod]; congr 1; omega
          rw [e, this]; unfold wrap64; omega
        clear hx
        go_wp2
        go_quiet (fail)
        go_wp2
        go_region
        all_goals go_wp2
        have hcut := ((HD.out.drewN nq).cut1 (t.s1 + K) (by omega) (by have := HL.out; omega))
        rw [show ((t.s1 + K : Nat) : Int) = (t.s1 : Int) + K by omega] at hcut
        refine ⟨⟨2, by omega, rfl, _, _, by rw [crash1_eq s t keep K HCT.out (by rw [HL.out]; exact HKK.out)]; exact hcut.1.drew, HVA.out, by rw [own_slice a1 _ L c1 c1]; exact HVB.out, ((HM.out.drewN nq).trans hcut.2 (fun _ e => .inl e)).drew, ?_⟩, by simp [intOf]⟩
        exact ((HR.out.mod ((Mod.refl (fun k => k = d) wr).drewN nq) HA.out).mod hcut.2 HA.out).mod (Mod.drew (Mod.refl (fun k => k = d) _)) HA.out
      · have hk0 : K = 0 := by have := HKK.out; unfold keepN at this; rw [if_neg hi] at this; exact this.symm
        have HK0 := hid hk0
        clear hk0
        go_wp2
        go_region
        all_goals go_wp2
        have hcut := (HD.out.cut1 (t.s1) (by omega) (by have := HL.out; omega))
        refine ⟨⟨2, by omega, rfl, _, _, by rw [crash1_eq s t keep 0 HCT.out (by rw [HL.out]; rw [HKK.out]; exact HK0.out), Nat.add_zero]; exact hcut.1.drew, HVA.out, by rw [own_slice a1 _ L c1 c1]; exact HVB.out, (HM.out.trans hcut.2 (fun _ e => .inl e)).drew, ?_⟩, by simp [intOf]⟩
        exact (HR.out.mod hcut.2 HA.out).mod (Mod.drew (Mod.refl (fun k => k = d) _)) HA.out
    · -- behind the loop
      have hct : s.crashTo keep 2 = (s.crash0 keep).crash1 keep := rfl
      rw [hct] at hd
      have HD := hid hd
      have HM := hid hm
      have HVA := hid hva
      have HVB := hid hvb
      have hcs := hd.cells.1
      have hfz := hd.cells.2
      obtain ⟨h0, h1, h2, h3, h4, h5, h6⟩ := hcs
      clear hd hm hr hva hvb hct
      rw [show ((2 : Nat) : Int) = 2 from rfl]
      go_wp2
      go_ret
      obtain ⟨T, hT⟩ := HD.out.heap
      have hm2 : Mod (fun k => k = d) wr ((wr.setCell ⟨d, 5, none⟩ (.int .i64 (-1))).setCell ⟨d, 6, none⟩ (.bool false)) := ((Mod.refl (fun k => k = d) wr).setCell ⟨d, 5, none⟩ _ (.inl rfl)).setCell ⟨d, 6, none⟩ _ (.inl rfl)
      have hend := HD.out.setFO (-1) false (by omega) ⟨T, heap_setCell_same _ _ _ _ _ _ (heap_setCell_same _ _ _ _ _ _ hT)⟩ hm2
      refine ActPost.mk rfl rfl hend ⟨(HM.out.trans hm2 (fun _ e => .inl e)).mono (fun x _ e => .inl e), ?_⟩
      intro x hx
      unfold dfoot at hx ⊢
      rw [HVA.out, HVB.out] at hx
      exact .inl hx
end Go.Proofs.YtdchpabcaoghpaaDoor

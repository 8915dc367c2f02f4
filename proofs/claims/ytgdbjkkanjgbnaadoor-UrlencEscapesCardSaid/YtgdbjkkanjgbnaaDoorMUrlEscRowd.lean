/-
  UrlRefEsc, UrlEscLaw, UrlRowKit: this proof's parts in one text.
-/
import Derived.Test.YtgdbjkkanjgbnaaDoorMUrlEscRowa
import Derived.Deep.RegionLaw
import Derived.Test.YtgdbjkkanjgbnaaDoorMUrlEscRowc
import Derived.Test.YtgdbjkkanjgbnaaDoorMUrlEscRowb
import Derived.Lib.LaidTab
import Derived.Test.YtgdbjkkanjgbnaaDoorRows
import Derived.ProofKit
import Derived.OpenShut
import Derived.ChangeVars
import Derived.LaidLaws
import Derived.LaidHandle
import Derived.Stop.LaidErr
namespace Go.Proofs.YtgdbjkkanjgbnaaDoor.Url
open Go.RowKit Go.Proofs.YtgdbjkkanjgbnaaDoor
set_option linter.unusedVariables false
set_option linter.unusedSimpArgs false
theorem byteT : ByteT Tryd.prog 59 5 := ⟨Tryd.underlying59, Tryd.underlying5, by kernel_rfl⟩
set_option maxHeartbeats 2000000 in
theorem has_any (s : ByteArray) (c : UInt8) (w : World) (hs : s.size ≤ 1048576) : Calls Tryd.prog 34 #[.string s, .int .u8 (c.toNat : Int)] w (BoolPost (decide (c ∈ s.data.toList)) w) := by
  have hln := str_len s
  obtain ⟨r, hr⟩ : ∃ r, decide (c ∈ s.data.toList) = r := ⟨_, rfl⟩
  rw [hr]
  have HR := hid hr
  clear hr
  go_enter Tryd.func34, Tryd.ntmps34
  go_wp2
  go_loopw [5] (fun vi wr => ∃ i : Nat, vi = .int .i64 i ∧ i ≤ s.size ∧ wr = w ∧ Hid (∀ q, q < i → s.data.toList[q]? ≠ some c)) (fun vi _ => s.size - (intOf vi).toNat)
  case atStart => exact ⟨0, rfl, Nat.zero_le _, rfl, hid (fun q h => absurd h (by omega))⟩
  case round =>
    obtain ⟨i, rfl, hi, rfl, hno⟩ := hrel
    by_cases hlt : i < s.size
    · have t0 : decide ((i : Int) < (s.size : Int)) = true := decide_eq_true (by omega)
      have p0 : (0 : Int) ≤ (i : Int) := by omega
      have hget : s.data.toList[i]? = some s[i] := by
        rw [str_get s i hlt, List.getD_eq_getElem?_getD, List.getElem?_eq_getElem (by rw [hln]; exact hlt)]; rfl
      by_cases hc : s[i] = c
      · have q0 : ((s[i].toNat : Int) == (c.toNat : Int)) = true := by rw [hc]; simp
        have HT : Hid (r = true) := hid (by rw [← HR.out, decide_eq_true_eq]; rw [hc] at hget; exact List.mem_of_getElem? hget)
        clear hget hc
        go_wp2_with fail
        go_ret
        exact BoolPost.mk HT.out
      · have q0 : ((s[i].toNat : Int) == (c.toNat : Int)) = false := by
          rw [beq_eq_false_iff_ne]; intro e; exact hc (UInt8.toNat_inj.1 (by omega))
        have HG := hid hget
        have HC := hid hc
        clear hget hc
        go_wp2_with fail
        refine ⟨⟨i + 1, by congr 1, by omega, by first | rfl | trivial, hid (fun q hq => ?_)⟩, by simp [intOf] <;> omega⟩
        rcases Nat.lt_or_ge q i with h9 | h9
        · exact hno.out q h9
        · obtain rfl : q = i := by omega
          rw [HG.out]
          intro e
          exact HC.out (Option.some.inj e)
    · obtain rfl : i = s.size := by omega
      have t0 : decide ((s.size : Int) < (s.size : Int)) = false := decide_eq_false (by omega)
      have HT : Hid (r = false) := hid (by
        rw [← HR.out, decide_eq_false_iff_not]
        intro hm
        obtain ⟨q, hq⟩ := List.mem_iff_getElem?.1 hm
        exact hno.out q (by rw [← hln]; exact (List.getElem?_eq_some_iff.1 hq).1) hq)
      go_wp2_with fail
      go_ret
      exact BoolPost.mk HT.out
theorem pl_has : ∀ n : Fin 256, plB (UInt8.ofNat n.val) = decide (UInt8.ofNat n.val ∈ ([65, 66, 67, 68, 69, 70, 71, 72, 73, 74, 75, 76, 77, 78, 79, 80, 81, 82, 83, 84, 85, 86, 87, 88, 89, 90, 97, 98, 99, 100, 101, 102, 103, 104, 105, 106, 107, 108, 109, 110, 111, 112, 113, 114, 115, 116, 117, 118, 119, 120, 121, 122, 48, 49, 50, 51, 52, 53, 54, 55, 56, 57, 42, 45, 46, 95] : List UInt8)) := by decide +kernel
theorem own_form2 {w : World} {base : Nat} {e : TypeId} {v : Value} {l : List UInt8} (h : OwnB w base e v l) : ∃ a c, v = .slice a l.length c := by
  rcases h.2 with ⟨rfl, e⟩ | ⟨g, cap, cur, rfl, _⟩
  · exact ⟨none, 0, by rw [e]⟩
  · exact ⟨_, _, rfl⟩
def RefRel (l : List UInt8) (B : Nat) (w : World) (out i : Value) (wr : World) : Prop := ∃ (k : Nat) (a : Option Addr) (c : Nat), k ≤ l.length ∧ i = .int .i64 k ∧ out = .slice a (escS (l.take k)).length c ∧ OwnB wr B 5 out (escS (l.take k)) ∧ Below B w wr ∧ B ≤ wr.heap.size
set_option maxHeartbeats 4000000 in
set_option maxRecDepth 20000 in
theorem refescape_any (s : ByteArray) (w : World) (hs : s.size ≤ 1048576) : Calls Tryd.prog 21 #[.string s] w (TextPost (escS s.data.toList) w) := by
  have hln : s.data.toList.length = s.size := str_len s
  have HLN := hid hln
  obtain ⟨l, hl⟩ : ∃ l, s.data.toList = l := ⟨_, rfl⟩
  rw [hl] at HLN ⊢
  have HL := hid hl
  clear hln hl
  go_enter Tryd.func21, Tryd.ntmps21
  go_wp2_with fail
  go_loopw [3, 4] (fun out i wr => RefRel l w.heap.size w out i wr) (fun _ i _ => s.size - (intOf i).toNat)
  case atStart => exact ⟨0, _, _, Nat.zero_le _, rfl, rfl, OwnB.new w w.heap.size _ #[] [] 0 rfl rfl (Nat.le_refl _) (by decide), (Below.refl _ w).alloc (Nat.le_refl _) _, by simp⟩
  case round =>
    obtain ⟨k, av, cv, hk, rfl, rfl, ho, hbw, hsz⟩ := hrel
    have HO := hid ho
    have HBW := hid hbw
    have hk' : k ≤ s.size := by have := HLN.out; omega
    have HLE := hid (escS_le (l.take k))
    obtain ⟨bo, hbo⟩ : ∃ bo, (Value.slice av (escS (l.take k)).length cv).ownBlock = bo := ⟨_, rfl⟩
    clear ho hbw hk hbo
    by_cases hlt : k < s.size
    · have hget := str_get s k hlt
      rw [HL.out] at hget
      have hsn := escS_snoc l k (by rw [HLN.out]; exact hlt)
      rw [← hget] at hsn
      obtain ⟨c, hc⟩ : ∃ c, s[k] = c := ⟨_, rfl⟩
      have t0 : decide ((k : Int) < (s.size : Int)) = true := decide_eq_true (by omega)
      rw [hc] at hsn
      have HSN := hid hsn
      have HC := hid hc
      have p0 : (0 : Int) ≤ (k : Int) := by omega
      have hlen : (escS (l.take k)).length + 3 ≤ 1099511627776 := by have := HLE.out; rw [List.length_take] at this; omega
      have hcl := c.toNat_lt
      have hpl := pl_has ⟨c.toNat, hcl⟩
      simp only [UInt8.ofNat_toNat] at hpl
      have HPL := hid hpl
      clear hget hsn hc hpl
      by_cases hp : plB c = true
      · have HE : Hid (escB c = [c]) := hid (by unfold escB; rw [if_pos hp])
        have HPT : Hid (decide (c ∈ ([65, 66, 67, 68, 69, 70, 71, 72, 73, 74, 75, 76, 77, 78, 79, 80, 81, 82, 83, 84, 85, 86, 87, 88, 89, 90, 97, 98, 99, 100, 101, 102, 103, 104, 105, 106, 107, 108, 109, 110, 111, 112, 113, 114, 115, 116, 117, 118, 119, 120, 121, 122, 48, 49, 50, 51, 52, 53, 54, 55, 56, 57, 42, 45, 46, 95] : List UInt8)) = true) := hid (HPL.out.symm.trans hp)
        go_wp2_with fail
        rw [HC.out]
        refine (has_any _ c _ (by decide)).mono ?_
        rintro e w1 ⟨rfl, rfl⟩
        rw [show decide (c ∈ (⟨#[65, 66, 67, 68, 69, 70, 71, 72, 73, 74, 75, 76, 77, 78, 79, 80, 81, 82, 83, 84, 85, 86, 87, 88, 89, 90, 97, 98, 99, 100, 101, 102, 103, 104, 105, 106, 107, 108, 109, 110, 111, 112, 113, 114, 115, 116, 117, 118, 119, 120, 121, 122, 48, 49, 50, 51, 52, 53, 54, 55, 56, 57, 42, 45, 46, 95]⟩ : ByteArray).data.toList) = true from HPT.out]
        go_wp2_with (at_builtin; refine wpList_append_b byteT rfl (.tmp 28) (.tmp 30) rfl w.heap.size (escS (l.take k)) [c] (.slice av (escS (l.take k)).length cv) (.slice (some ⟨wr.heap.size, 0, none⟩) 1 1) rfl rfl (HO.out.alloc _) (OwnB.new wr wr.heap.size _ _ [c] 1 rfl rfl (Nat.le_refl _) (by decide)).reads (by simp; omega) (by simp; omega) ?_; intro v2 w2 ho hg _ _; have HO2 := hid ho; have HBL2 := hid ((HBW.out.alloc hsz _).trans (below_grown (HO.out.alloc _) hg (Nat.le_refl _) (by simp; omega))); obtain ⟨A2, C2, rfl⟩ := own_form2 ho; clear ho hg)
        exact ⟨⟨k + 1, A2, C2, by have := HLN.out; omega, by congr 1, by rw [HSN.out, HE.out, List.length_append]; rfl, by rw [HSN.out, HE.out]; have h9 := HO2.out; rw [List.length_append] at h9; exact h9, HBL2.out, HBL2.out.size⟩, by simp [intOf] <;> omega⟩
      · have hpf : plB c = false := by simpa using hp
        have HPT : Hid (decide (c ∈ ([65, 66, 67, 68, 69, 70, 71, 72, 73, 74, 75, 76, 77, 78, 79, 80, 81, 82, 83, 84, 85, 86, 87, 88, 89, 90, 97, 98, 99, 100, 101, 102, 103, 104, 105, 106, 107, 108, 109, 110, 111, 112, 113, 114, 115, 116, 117, 118, 119, 120, 121, 122, 48, 49, 50, 51, 52, 53, 54, 55, 56, 57, 42, 45, 46, 95] : List UInt8)) = false) := hid (HPL.out.symm.trans hpf)
        by_cases h32 : c.toNat = 32
        · have HE : Hid (escB c = [43]) := hid (by unfold escB; rw [if_neg hp, if_pos h32])
          have t1 : ((c.toNat : Int) == 32) = true := by simp; omega
          go_wp2_with fail
          rw [HC.out]
          refine (has_any _ c _ (by decide)).mono ?_
          rintro e w1 ⟨rfl, rfl⟩
          rw [show decide (c ∈ (⟨#[65, 66, 67, 68, 69, 70, 71, 72, 73, 74, 75, 76, 77, 78, 79, 80, 81, 82, 83, 84, 85, 86, 87, 88, 89, 90, 97, 98, 99, 100, 101, 102, 103, 104, 105, 106, 107, 108, 109, 110, 111, 112, 113, 114, 115, 116, 117, 118, 119, 120, 121, 122, 48, 49, 50, 51, 52, 53, 54, 55, 56, 57, 42, 45, 46, 95]⟩ : ByteArray).data.toList) = false from HPT.out]
          rw [HC.out] at *
          go_wp2_with (at_builtin; refine wpList_append_b byteT rfl (.tmp 35) (.tmp 36) rfl w.heap.size (escS (l.take k)) [43] (.slice av (escS (l.take k)).length cv) (.slice (some ⟨wr.heap.size, 0, none⟩) 1 1) rfl rfl (HO.out.alloc _) (OwnB.new wr wr.heap.size _ _ [43] 1 rfl rfl (Nat.le_refl _) (by decide)).reads (by simp; omega) (by simp; omega) ?_; intro v2 w2 ho hg _ _; have HO2 := hid ho; have HBL2 := hid ((HBW.out.alloc hsz _).trans (below_grown (HO.out.alloc _) hg (Nat.le_refl _) (by simp; omega))); obtain ⟨A2, C2, rfl⟩ := own_form2 ho; clear ho hg)
          exact ⟨⟨k + 1, A2, C2, by have := HLN.out; omega, by congr 1, by rw [HSN.out, HE.out, List.length_append]; rfl, by rw [HSN.out, HE.out]; have h9 := HO2.out; rw [List.length_append] at h9; exact h9, HBL2.out, HBL2.out.size⟩, by simp [intOf] <;> omega⟩
        · have HE : Hid (escB c = [37, hexU (c.toNat / 16), hexU (c.toNat % 16)]) := hid (by unfold escB; rw [if_neg hp, if_neg h32])
          have t1 : ((c.toNat : Int) == 32) = false := by simp; omega
          go_wp2_with fail
          rw [HC.out]
          refine (has_any _ c _ (by decide)).mono ?_
          rintro e w1 ⟨rfl, rfl⟩
          rw [show decide (c ∈ (⟨#[65, 66, 67, 68, 69, 70, 71, 72, 73, 74, 75, 76, 77, 78, 79, 80, 81, 82, 83, 84, 85, 86, 87, 88, 89, 90, 97, 98, 99, 100, 101, 102, 103, 104, 105, 106, 107, 108, 109, 110, 111, 112, 113, 114, 115, 116, 117, 118, 119, 120, 121, 122, 48, 49, 50, 51, 52, 53, 54, 55, 56, 57, 42, 45, 46, 95]⟩ : ByteArray).data.toList) = false from HPT.out]
          go_wp2_with fail
          obtain ⟨q, hq⟩ : ∃ q, c.toNat / 16 = q := ⟨_, rfl⟩
          obtain ⟨m, hm⟩ : ∃ m, c.toNat % 16 = m := ⟨_, rfl⟩
          rw [hq, hm] at HE
          have n0 : q < 16 := by omega
          have n1 : m < 16 := by omega
          have n2 : IntKind.u8.wrap ((c.toNat : Int) / 16) = (q : Int) := by simp [IntKind.wrap, IntKind.bits, IntKind.signed]; omega
          have n3 : IntKind.u8.wrap ((c.toNat : Int) % 16) = (m : Int) := by simp [IntKind.wrap, IntKind.bits, IntKind.signed]; omega
          have n4 : (q : Int) < 16 := by omega
          have n5 : (m : Int) < 16 := by omega
          have n6 : (c.toNat : Int) % 16 = (m : Int) := by omega
          have n7 : Int.tmod (c.toNat : Int) 16 = (m : Int) := by rw [Int.tmod_eq_emod_of_nonneg (by omega)]; omega
          have n8 : ∀ h, ((⟨#[48, 49, 50, 51, 52, 53, 54, 55, 56, 57, 65, 66, 67, 68, 69, 70]⟩ : ByteArray)[q]'h).toNat = (hexU q).toNat := fun h => by rw [hex_get]
          have n9 : ∀ h, ((⟨#[48, 49, 50, 51, 52, 53, 54, 55, 56, 57, 65, 66, 67, 68, 69, 70]⟩ : ByteArray)[m]'h).toNat = (hexU m).toNat := fun h => by rw [hex_get]
          clear hq hm
          have HOA : Hid (OwnB (wr.drew.alloc (.cells #[.int .u8 37, .int .u8 ((hexU q).toNat : Nat), .int .u8 ((hexU m).toNat : Nat)] 5)) w.heap.size 5 (.slice av (escS (l.take k)).length cv) (escS (l.take k))) := hid (OwnB.alloc (w := wr.drew) HO.out _)
          have HRA : Hid (ReadsB (wr.drew.alloc (.cells #[.int .u8 37, .int .u8 ((hexU q).toNat : Nat), .int .u8 ((hexU m).toNat : Nat)] 5)) (.slice (some ⟨wr.heap.size, 0, none⟩) 3 3) [37, hexU q, hexU m]) := hid (OwnB.new wr.drew wr.heap.size _ _ [37, hexU q, hexU m] 3 rfl rfl (Nat.le_refl _) (by decide)).reads
          have hl3 : (escS (l.take k)).length + [37, hexU q, hexU m].length ≤ 1099511627776 := by simp; omega
          have hb3 : w.heap.size ≤ (wr.drew.alloc (.cells #[.int .u8 37, .int .u8 ((hexU q).toNat : Nat), .int .u8 ((hexU m).toNat : Nat)] 5)).heap.size := by simp; omega
          go_region_law (refine step_append_b byteT rfl (.tmp 16) (.tmp 23) rfl w.heap.size (escS (l.take k)) [37, hexU q, hexU m] (.slice av (escS (l.take k)).length cv) (.slice (some ⟨wr.heap.size, 0, none⟩) 3 3) ?_ ?_ HOA.out HRA.out hl3 hb3 ?_; go_simp; go_simp; intro v2 w2 ho hg _ _; have HO2 := hid ho; have HBL2 := hid ((HBW.out.drew.alloc hsz _).trans (below_grown HOA.out hg (Nat.le_refl _) hb3)); obtain ⟨A2, C2, rfl⟩ := own_form2 ho; clear ho hg)
          all_goals
            go_wp2
            exact ⟨⟨k + 1, A2, C2, by have := HLN.out; omega, by congr 1, by rw [HSN.out, HE.out, List.length_append]; rfl, by rw [HSN.out, HE.out]; have h9 := HO2.out; rw [List.length_append] at h9; exact h9, HBL2.out, HBL2.out.size⟩, by simp [intOf] <;> omega⟩
    · obtain rfl : k = s.size := by omega
      have HK : Hid (l.take s.size = l) := hid (by rw [← HLN.out, List.take_length])
      have t0 : decide ((s.size : Int) < (s.size : Int)) = false := decide_eq_false (by omega)
      have hcv := fun (w' : World) (h : ReadsB w' (.slice av (escS (l.take s.size)).length cv) (escS (l.take s.size))) => run_string_of_reads (dst := 9) byteT Tryd.underlying9 h
      have hcv2 := hcv wr HO.out.reads
      rw [HK.out] at hcv2
      rw [HK.out]
      clear hcv
      go_wp2_with fail
      go_ret
      exact ⟨rfl, HBW.out⟩
end Go.Proofs.YtgdbjkkanjgbnaaDoor.Url

namespace Go.Proofs.YtgdbjkkanjgbnaaDoor.Url
open Go.RowKit Go.Proofs.YtgdbjkkanjgbnaaDoor
set_option linter.unusedVariables false
set_option linter.unusedSimpArgs false
set_option maxHeartbeats 4000000 in
set_option maxRecDepth 20000 in
theorem escapes_walk (s : ByteArray) (w : World) (hs : s.size ≤ maxLen) (hg : ErrorType w) (hL : LeastAt w) : Calls Tryd.prog 5 #[.string s] w (TruePost w) := by
  have HG := hid hg
  have HL := hid hL
  have hgl := hg.lt
  have hll := LeastAt.lt hL
  have HA := hid (alive_any w hg hL)
  clear hg hL
  by_cases hbig : 5000 < s.size
  · have t0 : decide ((5000 : Int) < (s.size : Int)) = true := decide_eq_true (by omega)
    go_enter Tryd.func5, Tryd.ntmps5
    go_wp2_with (go_at_call 7; refine HA.out.mono ?_; rintro e w1 ⟨rfl, hb⟩; have HB := hid hb; clear hb)
    go_ret
    exact TruePost.mk rfl HB.out
  · have t0 : decide ((5000 : Int) < (s.size : Int)) = false := decide_eq_false (by omega)
    obtain ⟨u, hu⟩ : ∃ u : ByteArray, strV (unS s.data.toList).1 = .string u := ⟨_, rfl⟩
    obtain ⟨x, hx⟩ : ∃ x : ByteArray, strV (escS s.data.toList) = .string x := ⟨_, rfl⟩
    obtain ⟨p, hp⟩ : ∃ p, (unS s.data.toList).2 = p := ⟨_, rfl⟩
    have hpos := unS_pos s.data.toList
    rw [hp] at hpos
    have HU := hid hu
    have HX := hid hx
    have HP := hid hp
    have U1 : Hid (∀ w, Calls Tryd.prog 18 #[.string s] w fun e w' => ∃ v, e = .returned (.tuple #[.string u, v]) ∧ IsErr w' (errU p) v ∧ Below w.heap.size w w') := hid (fun w => (unescape_any s w (by omega)).mono (fun e w' hq => by
      obtain ⟨v, h1, h2, h3⟩ := hq
      rw [HU.out] at h1
      rw [HP.out] at h2
      exact ⟨v, h1, h2, h3⟩))
    have U2 : Hid (∀ w, Calls Tryd.prog 19 #[.string s] w fun e w' => e = .returned (.tuple #[.string u, .int .i64 p]) ∧ Below w.heap.size w w') := hid (fun w => (refun_any s w (by omega)).mono (fun e w' hq => by
      obtain ⟨h1, h2⟩ := hq
      rw [HU.out, HP.out] at h1
      exact ⟨h1, h2⟩))
    have X1 : Hid (∀ w, Calls Tryd.prog 20 #[.string s] w fun e w' => e = .returned (.string x) ∧ Below w.heap.size w w') := hid (fun w => (escape_any s w (by omega)).mono (fun e w' hq => by
      obtain ⟨h1, h2⟩ := hq
      rw [HX.out] at h1
      exact ⟨h1, h2⟩))
    have X2 : Hid (∀ w, Calls Tryd.prog 21 #[.string s] w fun e w' => e = .returned (.string x) ∧ Below w.heap.size w w') := hid (fun w => (refescape_any s w (by omega)).mono (fun e w' hq => by
      obtain ⟨h1, h2⟩ := hq
      rw [HX.out] at h1
      exact ⟨h1, h2⟩))
    clear hu hx hp
    go_enter Tryd.func5, Tryd.ntmps5
    go_wp2_with (go_at_call 7; refine HA.out.mono ?_; rintro e w1 ⟨rfl, hb⟩; have HB := hid hb; clear hb)
    refine (U1.out _).mono ?_
    rintro e w2 ⟨v, rfl, he, hb2⟩
    have HB2 := hid (below_then HB.out hb2)
    have HE2 := hid he
    clear he hb2
    go_wp2_with fail
    refine (U2.out _).mono ?_
    rintro e w3 ⟨rfl, hb3⟩
    have HB3 := hid (below_then HB2.out hb3)
    have HE3 := hid (HE2.out.below hb3)
    clear hb3
    go_wp2_with fail
    refine (X1.out _).mono ?_
    rintro e w4 ⟨rfl, hb4⟩
    have HB4 := hid (below_then HB3.out hb4)
    have HE4 := hid (HE3.out.below hb4)
    clear hb4
    go_wp2_with fail
    refine (X2.out _).mono ?_
    rintro e w5 ⟨rfl, hb5⟩
    have HB5 := hid (below_then HB4.out hb5)
    have he5 := HE4.out.below hb5
    clear hb5
    by_cases hneg : p < 0
    · have t1 : decide (p < 0) = true := decide_eq_true hneg
      have hE : errU p = .nil := by unfold errU; rw [if_pos hneg]
      rw [hE] at he5
      obtain rfl : v = .nilIface := he5
      clear hE
      go_wp2_with fail
      go_ret
      exact TruePost.mk (by simp) HB5.out
    · have t1 : decide (p < 0) = false := decide_eq_false hneg
      have hE : errU p = .at_ p 60 := by unfold errU; rw [if_neg hneg]
      rw [hE] at he5
      have HE5 := hid he5
      clear hE he5
      go_wp2_with fail
      refine (num_any (.at_ p 60) _ w5 (HG.out.below HB5.out hgl) HE5.out).mono ?_
      rintro e w6 ⟨rfl, hb6⟩
      have HB6 := hid (below_then HB5.out hb6)
      have HE6 := hid (HE5.out.below hb6)
      clear hb6
      go_wp2_with fail
      refine (pos_any (.at_ p 60) _ w6 (HG.out.below HB6.out hgl) HE6.out).mono ?_
      rintro e w7 ⟨rfl, hb7⟩
      have HB7 := hid (below_then HB6.out hb7)
      clear hb7
      go_wp2_with fail
      go_ret
      exact TruePost.mk (by simp) HB7.out
end Go.Proofs.YtgdbjkkanjgbnaaDoor.Url

namespace Go.Proofs.YtgdbjkkanjgbnaaDoor
open Go.ChangeShapes Go.WideShapes Go.RowKit
set_option linter.unusedVariables false

theorem A.et : Tryd.prog.globalNamed "errors.errorType" = some 0 := by kernel_rfl
theorem A.rt : (Tryd.prog.cutTypes.find? (·.1 == "internal/reflectlite.rtype")).map (·.2) = some 98 := by kernel_rfl
theorem A.oneRow : ((List.range 151).filter fun t => Tryd.prog.rowNamed t [101, 114, 114, 111, 114]) = [25] := by kernel_rfl
theorem A.ntypes : Tryd.prog.types.size = 151 := by kernel_rfl

theorem A.gTab : Tryd.prog.globalNamed "warrant/utf.least" = some 1 := by kernel_rfl
theorem A.gTabType : (Tryd.prog.globals[1]?).map (·.type) = some 111 := by kernel_rfl
theorem A.cellsTab : Tryd.prog.cellsOf 111 = 5 := by kernel_rfl
theorem A.cellsInt : Tryd.prog.cellsOf 3 = 1 := by kernel_rfl
/-- What the row's list gives: both variables' cells. -/
theorem handle_of_laid {W : World} (l : List (String × DataW Unit)) (hl : l = [("unicode/utf8.acceptRanges", Rows.laid_unicode_utf8_acceptRanges), ("errors.errorType", Rows.laid_errors_errorType), ("warrant/utf.least", Rows.laid_warrant_utf_least), ("unicode/utf8.first", Rows.laid_unicode_utf8_first)]) (h : laidMetH Tryd.prog l W) : ErrorType W ∧ LeastAt W := by
  subst hl
  have h' : laidMet Tryd.prog [("unicode/utf8.acceptRanges", Rows.laid_unicode_utf8_acceptRanges), ("warrant/utf.least", Rows.laid_warrant_utf_least), ("unicode/utf8.first", Rows.laid_unicode_utf8_first)] W ∧ handlesMet Tryd.prog [("errors.errorType", Rows.laid_errors_errorType)] W := h
  constructor
  · obtain ⟨name, u, ty, e1, e2, e3, e4, e5⟩ := h'.2 _ (List.mem_singleton.2 rfl)
    have en : name = [101, 114, 114, 111, 114] := (Option.some.inj e1).symm
    subst en
    obtain rfl := Option.some.inj (A.rt.symm.trans e2)
    have hm : ty ∈ (List.range 151).filter fun t => Tryd.prog.rowNamed t [101, 114, 114, 111, 114] := List.mem_filter.2 ⟨List.mem_range.2 (by rw [← A.ntypes]; exact e3), e4⟩
    rw [A.oneRow] at hm
    obtain rfl := List.mem_singleton.1 hm
    have hh : typeHandle Tryd.prog 25 = .pointer (some ⟨5, 25, none⟩) := by kernel_rfl
    rw [hh] at e5
    simpa [ErrorType] using World.var?_cell A.et e5 0
  · have ht : Lib.TabIs Tryd.prog W "warrant/utf.least" .i64 [0, 0, 128, 2048, 65536] := Lib.tabIs_of_head (rest := [("unicode/utf8.first", Rows.laid_unicode_utf8_first)]) A.gTab A.gTabType Tryd.underlying111 Tryd.underlying3 A.cellsInt A.cellsTab (laidMet.tail h'.1)
    exact ⟨ht.cell A.gTab 2 (by decide), ht.cell A.gTab 3 (by decide), ht.cell A.gTab 4 (by decide)⟩

/-- A reading's cells. -/
def dCells : Nat → DataW Unit → List Value
  | 0, _ => []
  | f + 1, .agg l => l.flatMap (dCells f)
  | f + 1, .lit (.int k n) => [.int k n]
  | _, _ => []
/-- A world that meets the list: the settled one, the variables' cells laid. -/
noncomputable def laidWorld (os : Os) : World :=
  let w0 := World.holding Tryd.prog os ⟨#[], #[], []⟩
  { w0 with heap := (((w0.heap.modify 0 fun
      | .cells _ t frozen => .cells #[.iface 98 (.agg #[.pointer (some ⟨5, 25, none⟩)])] t frozen
      | o => o).modify 1 fun
      | .cells _ t frozen => .cells #[.int .i64 0, .int .i64 0, .int .i64 128, .int .i64 2048, .int .i64 65536] t frozen
      | o => o).modify 4 fun
      | .cells _ t frozen => .cells (dCells 4 Rows.laid_unicode_utf8_acceptRanges).toArray t frozen
      | o => o).modify 3 fun
      | .cells _ t frozen => .cells (dCells 4 Rows.laid_unicode_utf8_first).toArray t frozen
      | o => o }
end Go.Proofs.YtgdbjkkanjgbnaaDoor

/-
  table: where a key stands.
-/
import Derived.Test.YtcjmlfmpajcjjaaDoorTabCmp
namespace Go.Proofs.YtcjmlfmpajcjjaaDoor
open Go.RowKit
open Go.Proofs.YtcjmlfmpajcjjaaDoorW.PrintWords (Kd rdOf)
open Go.Proofs.YtcjmlfmpajcjjaaDoor.PTableLast
set_option linter.unusedVariables false
abbrev Ent := S58
/-- Rows that rise by their keys. -/
def Rising (xs : List Ent) : Prop := ∀ (p q : Nat) (x y : Ent), p < q → xs[p]? = some x → xs[q]? = some y → x.f0.toList < y.f0.toList
/-- Where a key stands, or would. -/
def IsLb (xs : List Ent) (key : ByteArray) (i : Nat) : Prop := i ≤ xs.length ∧ (∀ q x, q < i → xs[q]? = some x → x.f0.toList < key.toList) ∧ (∀ q x, i ≤ q → xs[q]? = some x → ¬ x.f0.toList < key.toList)
def hit (xs : List Ent) (key : ByteArray) (i : Nat) : Bool := match xs[i]? with | some x => decide (x.f0 = key) | none => false
def FindPost (xs : List Ent) (key : ByteArray) (w : World) (e : Ending) (w' : World) : Prop := ∃ i, IsLb xs key i ∧ e = .returned (.tuple #[.int .i64 (i : Nat), .bool (hit xs key i)]) ∧ Below w.heap.size w w'
set_option maxHeartbeats 4000000 in
set_option maxRecDepth 20000 in
theorem bsf_any (w : World) (A : Option Addr) (c : Nat) (xs : List Ent) (key : ByteArray) (hC : k58.C w A xs.length xs) (hc : xs.length ≤ c) (hn : xs.length ≤ 1048576) (hs : Rising xs) :
    Calls Tryd.prog 28 #[.slice A xs.length c, .string key, .func (.func 29) #[] #[]] w (FindPost xs key w) := by
  have HC := hid hC
  have HS := hid hs
  clear hC hs
  go_enter Tryd.func28, Tryd.ntmps28
  go_wp2
  go_loopw [9, 10] (fun vi vj wr => ∃ i j : Nat, vi = .int .i64 i ∧ vj = .int .i64 j ∧ i ≤ j ∧ j ≤ xs.length ∧ Hid (∀ q x, q < i → xs[q]? = some x → x.f0.toList < key.toList) ∧ Hid (∀ q x, j ≤ q → xs[q]? = some x → ¬ x.f0.toList < key.toList) ∧ Below w.heap.size w wr) (fun vi vj _ => (intOf vj - intOf vi).toNat)
  case atStart => exact ⟨0, xs.length, rfl, rfl, by omega, by omega, hid (fun q x h => absurd h (by omega)), hid (fun q x h h2 => by rw [List.getElem?_eq_none h] at h2; cases h2), Below.refl _ _⟩
  case round =>
    obtain ⟨i, j, rfl, rfl, hij, hj, hlo, hhi, hb⟩ := hrel
    have HB := hid hb
    have hC2 := Kd.C_below HC.out hb
    have HC2 := hid hC2
    clear hb
    by_cases hlt : i < j
    · have t0 : decide (i < j) = true := decide_eq_true hlt
      obtain ⟨h, hh⟩ : ∃ h, (i + j) / 2 = h := ⟨_, rfl⟩
      have hb1 : i ≤ h := by omega
      have hb2 : h < j := by omega
      obtain ⟨x, hx⟩ : ∃ x, xs[h]? = some x := ⟨xs[h]'(by omega), by simp⟩
      have hI : ((i : Int) + (j : Int)) / 2 = ((h : Nat) : Int) := by omega
      obtain ⟨ad, rfl, e0, e1⟩ := at_T58 hC2 (h : Int) (by omega) (by omega)
      simp only [Int.toNat_natCast] at e0 e1
      have hrd : rd_T58 xs (h : Int) = x := by unfold rd_T58; rw [Int.toNat_natCast, List.getD_eq_getElem?_getD, hx]; rfl
      rw [hrd] at e0 e1
      have p0 : (0 : Int) ≤ (h : Int) := by omega
      have p1 : (h : Int) < (xs.length : Int) := by omega
      clear hC2 hrd
      go_wp2_with fail
      refine (find1_any x key wr).mono ?_
      rintro e w3 ⟨rfl, hb3⟩
      have HB3 := hid (below_then HB.out hb3)
      clear hb3 e0 e1
      obtain ⟨r, hr⟩ : ∃ r, cmpI x.f0 key = r := ⟨_, rfl⟩
      rw [hr]
      have hlt3 := cmpI_lt x.f0 key
      rw [hr] at hlt3
      have HLT := hid hlt3
      clear hr hlt3
      by_cases hr0 : r < 0
      · have t1 : decide (r < 0) = true := decide_eq_true hr0
        have hk := hid (HLT.out.1 hr0)
        go_wp2
        go_roundw
        case rel =>
          refine ⟨h + 1, j, by go_num, rfl, by omega, hj, hid (fun q y hq hy => ?_), hhi, HB3.out⟩
          by_cases e : q = h
          · subst e; rw [hx] at hy; cases hy; exact hk.out
          · exact List.lt_trans (HS.out q h y x (by omega) hy hx) hk.out
        case measure => simp [intOf]; omega
      · have t1 : decide (r < 0) = false := decide_eq_false hr0
        have hk := hid (fun e => hr0 (HLT.out.2 e))
        go_wp2
        go_roundw
        case rel =>
          refine ⟨i, h, rfl, by go_num, by omega, by omega, hlo, hid (fun q y hq hy => ?_), HB3.out⟩
          by_cases e : q = h
          · subst e; rw [hx] at hy; cases hy; exact hk.out
          · intro hlt2
            exact hk.out (List.lt_trans (HS.out h q x y (by omega) hx hy) hlt2)
        case measure => simp [intOf]; omega
    · have t0 : decide (i < j) = false := decide_eq_false hlt
      obtain rfl : i = j := by omega
      by_cases hin : i < xs.length
      · have t1 : decide (i < xs.length) = true := decide_eq_true hin
        have t2 : decide ((i : Int) < (xs.length : Int)) = true := decide_eq_true (by omega)
        obtain ⟨x, hx⟩ : ∃ x, xs[i]? = some x := ⟨xs[i]'hin, by simp⟩
        obtain ⟨ad, rfl, e0, e1⟩ := at_T58 hC2 (i : Int) (by omega) (by omega)
        simp only [Int.toNat_natCast] at e0 e1
        have hrd : rd_T58 xs (i : Int) = x := by unfold rd_T58; rw [Int.toNat_natCast, List.getD_eq_getElem?_getD, hx]; rfl
        rw [hrd] at e0 e1
        have p0 : (0 : Int) ≤ (i : Int) := by omega
        have p1 : (i : Int) < (xs.length : Int) := by omega
        clear hC2 hrd
        go_wp2_with fail
        refine (find1_any x key wr).mono ?_
        rintro e w3 ⟨rfl, hb3⟩
        have HB3 := hid (below_then HB.out hb3)
        clear hb3 e0 e1
        obtain ⟨r, hr⟩ : ∃ r, cmpI x.f0 key = r := ⟨_, rfl⟩
        rw [hr]
        have heq := cmpI_eq x.f0 key
        rw [hr] at heq
        have hh : (r == 0) = hit xs key i := by
          unfold hit
          rw [hx]
          by_cases h0 : r = 0
          · simp [h0, heq.1 h0]
          · exact (beq_eq_false_iff_ne.2 h0).trans (decide_eq_false (fun e => h0 (heq.2 e))).symm
        have HH := hid hh
        clear hr heq hh
        go_wp2
        go_ret2
        exact ⟨i, ⟨hj, hlo.out, hhi.out⟩, by rw [← HH.out]; rfl, HB3.out⟩
      · have t1 : decide (i < xs.length) = false := decide_eq_false hin
        have t2 : decide ((i : Int) < (xs.length : Int)) = false := decide_eq_false (by omega)
        have hh : hit xs key i = false := by unfold hit; rw [List.getElem?_eq_none (by omega)]
        have HH := hid hh
        clear hh hC2
        go_wp2
        go_ret2
        exact ⟨i, ⟨hj, hlo.out, hhi.out⟩, by rw [HH.out]; rfl, HB.out⟩
/-- find, at a table whose rows lie in memory. -/
theorem find_any (w : World) (b : Nat) (most : Int) (A : Option Addr) (c : Nat) (xs : List Ent) (key : ByteArray) (h0 : w.cell? ⟨b, 0, none⟩ = some (.slice A xs.length c)) (hC : k58.C w A xs.length xs) (hc : xs.length ≤ c) (hn : xs.length ≤ 1048576) (hs : Rising xs) :
    Calls Tryd.prog 21 #[.pointer (some ⟨b, 0, none⟩), .string key] w (FindPost xs key w) := by
  have HF := hid (bsf_any w A c xs key hC hc hn hs)
  clear hC hs
  go_enter Tryd.func21, Tryd.ntmps21
  go_wp2_with fail
  refine HF.out.mono ?_
  clear HF
  rintro e w1 ⟨i, hi, rfl, hb⟩
  have HI := hid hi
  have HB := hid hb
  clear hi hb
  go_wp2
  go_ret2
  exact ⟨i, HI.out, rfl, HB.out⟩
theorem find_nil (w : World) (key : ByteArray) : Calls Tryd.prog 21 #[.pointer none, .string key] w fun e w' => e = .returned (.tuple #[.int .i64 0, .bool false]) ∧ w' = w := by
  go_enter Tryd.func21, Tryd.ntmps21
  go_wp2
  go_ret2
  exact ⟨rfl, rfl⟩
end Go.Proofs.YtcjmlfmpajcjjaaDoor

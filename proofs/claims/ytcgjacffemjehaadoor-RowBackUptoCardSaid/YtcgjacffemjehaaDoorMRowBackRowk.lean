/-
  RowFar, RowJoin, RowCods, RowReadConsent, RowReadCode: this proof's parts in one text.
-/
import Derived.Test.YtcgjacffemjehaaDoorMRowBackRowf
import Derived.Test.YtcgjacffemjehaaDoorMRowBackRowa
import Derived.Test.YtcgjacffemjehaaDoorMRowBackRowh
import Derived.Test.YtcgjacffemjehaaDoorMRowBackRowg
import Derived.Test.YtcgjacffemjehaaDoorMRowBackRowi
import Derived.Test.YtcgjacffemjehaaDoorMRowBackRowj
import Derived.Test.YtcgjacffemjehaaDoorMRowBackRowd
namespace Go.Proofs.YtcgjacffemjehaaDoor
open Go.RowKit
open Go.Proofs.YtcgjacffemjehaaDoorW.PrintWords (Kd rdOf)
open Go.Proofs.YtcgjacffemjehaaDoor.PRowReads
set_option linter.unusedVariables false
/-- A row's lists are short. -/
def Near (x : S41) : Prop := x.f1.f2.length + x.f2.f4.length ≤ 500 ∧ x.f3.f3.length ≤ 500 ∧ x.f5.f5.length ≤ 500 ∧ x.f5.f6.length ≤ 50 ∧ x.f6.f4.length ≤ 500 ∧ x.f7.f2.length ≤ 50 ∧ x.f8.length ≤ 500 ∧
  (∀ j, j < x.f5.f6.length → ((x.f5.f6.getD j z86).f1).length ≤ 100) ∧ ∀ j, j < x.f7.f2.length → ((x.f7.f2.getD j z86).f1).length ≤ 100
def FarPost (x : S41) (w : World) (e : Ending) (w' : World) : Prop := ∃ b, e = .returned (.bool b) ∧ Below w.heap.size w w' ∧ (b = false → Near x)
set_option maxHeartbeats 16000000 in
set_option maxRecDepth 100000 in
theorem far_any (w : World) (x : S41) {A3 : Option Addr} {c3 : Nat} {A8 : Option Addr} {c8 : Nat} {A16 : Option Addr} {c16 : Nat} {A28 : Option Addr} {c28 : Nat} {A29 : Option Addr} {c29 : Nat} {A37 : Option Addr} {c37 : Nat} {A41 : Option Addr} {c41 : Nat} {A45 : Option Addr} {c45 : Nat} (l3 : x.f1.f2.length ≤ c3) (g3 : Kd.string.C w A3 x.f1.f2.length x.f1.f2) (l8 : x.f2.f4.length ≤ c8) (g8 : Kd.string.C w A8 x.f2.f4.length x.f2.f4) (l16 : x.f3.f3.length ≤ c16) (g16 : Kd.string.C w A16 x.f3.f3.length x.f3.f3) (l28 : x.f5.f5.length ≤ c28) (g28 : Kd.string.C w A28 x.f5.f5.length x.f5.f5) (l29 : x.f5.f6.length ≤ c29) (g29 : k86.C w A29 x.f5.f6.length x.f5.f6) (l37 : x.f6.f4.length ≤ c37) (g37 : Kd.string.C w A37 x.f6.f4.length x.f6.f4) (l41 : x.f7.f2.length ≤ c41) (g41 : k86.C w A41 x.f7.f2.length x.f7.f2) (l45 : x.f8.length ≤ c45) (g45 : k117.C w A45 x.f8.length x.f8) (hsz : x.f1.f2.length ≤ 1048576 ∧ x.f2.f4.length ≤ 1048576 ∧ x.f3.f3.length ≤ 1048576 ∧ x.f5.f5.length ≤ 1048576 ∧ x.f5.f6.length ≤ 1048576 ∧ x.f6.f4.length ≤ 1048576 ∧ x.f7.f2.length ≤ 1048576 ∧ x.f8.length ≤ 1048576) :
    Calls Tryd.prog 9 #[.agg #[.int .i64 x.f0, .string x.f1.f0, .string x.f1.f1, .slice A3 x.f1.f2.length c3, .string x.f2.f0, .string x.f2.f1, .string x.f2.f2, .string x.f2.f3, .slice A8 x.f2.f4.length c8, .string x.f2.f5, .bool x.f2.f6, .bool x.f2.f7, .int .i64 x.f2.f8, .string x.f3.f0, .string x.f3.f1, .string x.f3.f2, .slice A16 x.f3.f3.length c16, .int .i64 x.f3.f4, .int .i64 x.f3.f5, .bool x.f3.f6, .string x.f4.f0, .string x.f4.f1, .int .i64 x.f4.f2, .string x.f5.f0, .string x.f5.f1, .string x.f5.f2, .string x.f5.f3, .string x.f5.f4, .slice A28 x.f5.f5.length c28, .slice A29 x.f5.f6.length c29, .int .i64 x.f5.f7, .int .i64 x.f5.f8, .bool x.f5.f9, .string x.f6.f0, .string x.f6.f1, .string x.f6.f2, .string x.f6.f3, .slice A37 x.f6.f4.length c37, .string x.f6.f5, .string x.f7.f0, .string x.f7.f1, .slice A41 x.f7.f2.length c41, .string x.f7.f3, .int .i64 x.f7.f4, .bool x.f7.f5, .slice A45 x.f8.length c45]] w (FarPost x w) := by
  have hW : Below w.heap.size w (w.alloc (.cells #[.int .i64 x.f0, .string x.f1.f0, .string x.f1.f1, .slice A3 x.f1.f2.length c3, .string x.f2.f0, .string x.f2.f1, .string x.f2.f2, .string x.f2.f3, .slice A8 x.f2.f4.length c8, .string x.f2.f5, .bool x.f2.f6, .bool x.f2.f7, .int .i64 x.f2.f8, .string x.f3.f0, .string x.f3.f1, .string x.f3.f2, .slice A16 x.f3.f3.length c16, .int .i64 x.f3.f4, .int .i64 x.f3.f5, .bool x.f3.f6, .string x.f4.f0, .string x.f4.f1, .int .i64 x.f4.f2, .string x.f5.f0, .string x.f5.f1, .string x.f5.f2, .string x.f5.f3, .string x.f5.f4, .slice A28 x.f5.f5.length c28, .slice A29 x.f5.f6.length c29, .int .i64 x.f5.f7, .int .i64 x.f5.f8, .bool x.f5.f9, .string x.f6.f0, .string x.f6.f1, .string x.f6.f2, .string x.f6.f3, .slice A37 x.f6.f4.length c37, .string x.f6.f5, .string x.f7.f0, .string x.f7.f1, .slice A41 x.f7.f2.length c41, .string x.f7.f3, .int .i64 x.f7.f4, .bool x.f7.f5, .slice A45 x.f8.length c45] 41)) := (Below.refl _ w).alloc (Nat.le_refl _) _
  have HG29 := hid (Kd.C_below g29 hW)
  have HG41 := hid (Kd.C_below g41 hW)
  have HW := hid hW
  obtain ⟨s3, s8, s16, s28, s29, s37, s41, s45⟩ := hsz
  clear hW g3 l3 g8 l8 g16 l16 g28 l28 g29 l29 g37 l37 g41 l41 g45 l45
  by_cases e0 : (500 : Int) < (x.f1.f2.length : Int) + (x.f2.f4.length : Int)
  · have u0 : decide ((500 : Int) < (x.f1.f2.length : Int) + (x.f2.f4.length : Int)) = true := decide_eq_true (by omega)
    go_enter Tryd.func9, Tryd.ntmps9
    go_wp2
    go_ret
    exact ⟨true, rfl, HW.out, fun e => by cases e⟩
  · have u0 : decide ((500 : Int) < (x.f1.f2.length : Int) + (x.f2.f4.length : Int)) = false := decide_eq_false (by omega)
    by_cases e1 : (500 : Int) < (x.f3.f3.length : Int)
    · have u1 : decide ((500 : Int) < (x.f3.f3.length : Int)) = true := decide_eq_true (by omega)
      have w1 : decide (500 < x.f3.f3.length) = true := decide_eq_true (by omega)
      go_enter Tryd.func9, Tryd.ntmps9
      go_wp2
      go_ret
      exact ⟨true, rfl, HW.out, fun e => by cases e⟩
    · have u1 : decide ((500 : Int) < (x.f3.f3.length : Int)) = false := decide_eq_false (by omega)
      have w1 : decide (500 < x.f3.f3.length) = false := decide_eq_false (by omega)
      by_cases e2 : (500 : Int) < (x.f5.f5.length : Int)
      · have u2 : decide ((500 : Int) < (x.f5.f5.length : Int)) = true := decide_eq_true (by omega)
        have w2 : decide (500 < x.f5.f5.length) = true := decide_eq_true (by omega)
        go_enter Tryd.func9, Tryd.ntmps9
        go_wp2
        go_ret
        exact ⟨true, rfl, HW.out, fun e => by cases e⟩
      · have u2 : decide ((500 : Int) < (x.f5.f5.length : Int)) = false := decide_eq_false (by omega)
        have w2 : decide (500 < x.f5.f5.length) = false := decide_eq_false (by omega)
        by_cases e3 : (50 : Int) < (x.f5.f6.length : Int)
        · have u3 : decide ((50 : Int) < (x.f5.f6.length : Int)) = true := decide_eq_true (by omega)
          have w3 : decide (50 < x.f5.f6.length) = true := decide_eq_true (by omega)
          go_enter Tryd.func9, Tryd.ntmps9
          go_wp2
          go_ret
          exact ⟨true, rfl, HW.out, fun e => by cases e⟩
        · have u3 : decide ((50 : Int) < (x.f5.f6.length : Int)) = false := decide_eq_false (by omega)
          have w3 : decide (50 < x.f5.f6.length) = false := decide_eq_false (by omega)
          by_cases e4 : (500 : Int) < (x.f6.f4.length : Int)
          · have u4 : decide ((500 : Int) < (x.f6.f4.length : Int)) = true := decide_eq_true (by omega)
            have w4 : decide (500 < x.f6.f4.length) = true := decide_eq_true (by omega)
            go_enter Tryd.func9, Tryd.ntmps9
            go_wp2
            go_ret
            exact ⟨true, rfl, HW.out, fun e => by cases e⟩
          · have u4 : decide ((500 : Int) < (x.f6.f4.length : Int)) = false := decide_eq_false (by omega)
            have w4 : decide (500 < x.f6.f4.length) = false := decide_eq_false (by omega)
            by_cases e5 : (50 : Int) < (x.f7.f2.length : Int)
            · have u5 : decide ((50 : Int) < (x.f7.f2.length : Int)) = true := decide_eq_true (by omega)
              have w5 : decide (50 < x.f7.f2.length) = true := decide_eq_true (by omega)
              go_enter Tryd.func9, Tryd.ntmps9
              go_wp2
              go_ret
              exact ⟨true, rfl, HW.out, fun e => by cases e⟩
            · have u5 : decide ((50 : Int) < (x.f7.f2.length : Int)) = false := decide_eq_false (by omega)
              have w5 : decide (50 < x.f7.f2.length) = false := decide_eq_false (by omega)
              by_cases e6 : (500 : Int) < (x.f8.length : Int)
              · have u6 : decide ((500 : Int) < (x.f8.length : Int)) = true := decide_eq_true (by omega)
                have w6 : decide (500 < x.f8.length) = true := decide_eq_true (by omega)
                go_enter Tryd.func9, Tryd.ntmps9
                go_wp2
                go_ret
                exact ⟨true, rfl, HW.out, fun e => by cases e⟩
              · have u6 : decide ((500 : Int) < (x.f8.length : Int)) = false := decide_eq_false (by omega)
                have w6 : decide (500 < x.f8.length) = false := decide_eq_false (by omega)
                go_enter Tryd.func9, Tryd.ntmps9
                go_wp2
                go_loop [4] (fun i => ∃ k : Nat, k ≤ x.f5.f6.length ∧ i = .int .i64 k ∧ Hid (∀ j, j < k → ((x.f5.f6.getD j z86).f1).length ≤ 100)) (fun i => x.f5.f6.length - (intOf i).toNat)
                case atStart => exact ⟨0, by omega, rfl, hid (fun jj hj => by omega)⟩
                case round =>
                  obtain ⟨k, hkk, rfl, hallk⟩ := hrel
                  by_cases ck : k < x.f5.f6.length
                  · have tk : decide (k < x.f5.f6.length) = true := decide_eq_true ck
                    obtain ⟨ad, A1, c1, hA, hx0, hx1, hl1, hC1⟩ := at_T86 HG29.out (k : Int) (by omega) (by omega)
                    subst hA
                    rw [Int.toNat_natCast] at hx1
                    obtain ⟨y, hy⟩ : ∃ y, x.f5.f6.getD k z86 = y := ⟨_, rfl⟩
                    have hrd : rd_T86 x.f5.f6 (k : Int) = y := by unfold rd_T86; rw [Int.toNat_natCast, hy]
                    rw [hrd] at hx1
                    have HYY := hid hy
                    clear hx0 hl1 hC1 hrd hy
                    by_cases dk : 100 < y.f1.length
                    · have v1 : decide ((100 : Int) < (y.f1.length : Int)) = true := decide_eq_true (by omega)
                      have v2 : decide (100 < y.f1.length) = true := decide_eq_true dk
                      go_wp2
                      go_ret
                      exact ⟨true, rfl, HW.out, fun e => by cases e⟩
                    · have v1 : decide ((100 : Int) < (y.f1.length : Int)) = false := decide_eq_false (by omega)
                      have v2 : decide (100 < y.f1.length) = false := decide_eq_false dk
                      go_wp2
                      go_round
                      case rel => exact ⟨k + 1, by omega, by go_num, hid (fun jj hj => by
                        by_cases e : jj = k
                        · rw [e, HYY.out]; omega
                        · exact hallk.out jj (by omega))⟩
                      case measure => simp [intOf]; omega
                  · have tk : decide (k < x.f5.f6.length) = false := decide_eq_false ck
                    obtain rfl : k = x.f5.f6.length := by omega
                    go_wp2
                    go_loop [5] (fun i => ∃ k : Nat, k ≤ x.f7.f2.length ∧ i = .int .i64 k ∧ Hid (∀ j, j < k → ((x.f7.f2.getD j z86).f1).length ≤ 100)) (fun i => x.f7.f2.length - (intOf i).toNat)
                    case atStart => exact ⟨0, by omega, rfl, hid (fun jj hj => by omega)⟩
                    case round =>
                      obtain ⟨j, hkj, rfl, hallj⟩ := hrel
                      by_cases cj : j < x.f7.f2.length
                      · have tj : decide (j < x.f7.f2.length) = true := decide_eq_true cj
                        obtain ⟨ad, A1, c1, hA, hx0, hx1, hl1, hC1⟩ := at_T86 HG41.out (j : Int) (by omega) (by omega)
                        subst hA
                        rw [Int.toNat_natCast] at hx1
                        obtain ⟨y, hy⟩ : ∃ y, x.f7.f2.getD j z86 = y := ⟨_, rfl⟩
                        have hrd : rd_T86 x.f7.f2 (j : Int) = y := by unfold rd_T86; rw [Int.toNat_natCast, hy]
                        rw [hrd] at hx1
                        have HYY := hid hy
                        clear hx0 hl1 hC1 hrd hy
                        by_cases dj : 100 < y.f1.length
                        · have v1 : decide ((100 : Int) < (y.f1.length : Int)) = true := decide_eq_true (by omega)
                          have v2 : decide (100 < y.f1.length) = true := decide_eq_true dj
                          go_wp2
                          go_ret
                          exact ⟨true, rfl, HW.out, fun e => by cases e⟩
                        · have v1 : decide ((100 : Int) < (y.f1.length : Int)) = false := decide_eq_false (by omega)
                          have v2 : decide (100 < y.f1.length) = false := decide_eq_false dj
                          go_wp2
                          go_round
                          case rel => exact ⟨j + 1, by omega, by go_num, hid (fun jj hj => by
                            by_cases e : jj = j
                            · rw [e, HYY.out]; omega
                            · exact hallj.out jj (by omega))⟩
                          case measure => simp [intOf]; omega
                      · have tj : decide (j < x.f7.f2.length) = false := decide_eq_false cj
                        obtain rfl : j = x.f7.f2.length := by omega
                        go_wp2
                        go_ret
                        exact ⟨false, rfl, HW.out, fun _ => ⟨by omega, by omega, by omega, by omega, by omega, by omega, by omega, hallk.out, hallj.out⟩⟩
end Go.Proofs.YtcgjacffemjehaaDoor

namespace Go.Proofs.YtcgjacffemjehaaDoor
open Go.RowKit
open Go.Proofs.YtcgjacffemjehaaDoorW.PrintWords (Kd rdOf)
open Go.Proofs.YtcgjacffemjehaaDoor.PRowReads
set_option linter.unusedVariables false
def rowB (x : S41) : List UInt8 := if x.f0 = 1 then consentB x.f1 else if x.f0 = 2 then codeB x.f2 else if x.f0 = 3 then familyB x.f3 else if x.f0 = 4 then refreshB x.f4 else if x.f0 = 5 then accessB x.f5 else if x.f0 = 6 then resourceB x.f6 else if x.f0 = 7 then ticketB x.f7 else if x.f0 = 8 then keysB x.f8 else []
def Small (x : S41) : Prop := OkConsent x.f1 ∧ OkCode x.f2 ∧ OkFamily x.f3 ∧ OkRefresh x.f4 ∧ OkAccess x.f5 ∧ OkResource x.f6 ∧ OkTicket x.f7 ∧ SzK x.f8
def Fits (x : S41) : Prop := (consentB x.f1).length ≤ 549755813888 ∧ (codeB x.f2).length ≤ 549755813888 ∧ (familyB x.f3).length ≤ 549755813888 ∧ (refreshB x.f4).length ≤ 549755813888 ∧ (accessB x.f5).length ≤ 549755813888 ∧ (resourceB x.f6).length ≤ 549755813888 ∧ (ticketB x.f7).length ≤ 549755813888 ∧ (keysB x.f8).length ≤ 549755813888
theorem refBytes_any (w : World) (x : S41) {A3 : Option Addr} {c3 : Nat} {A8 : Option Addr} {c8 : Nat} {A16 : Option Addr} {c16 : Nat} {A28 : Option Addr} {c28 : Nat} {A29 : Option Addr} {c29 : Nat} {A37 : Option Addr} {c37 : Nat} {A41 : Option Addr} {c41 : Nat} {A45 : Option Addr} {c45 : Nat} (l3 : x.f1.f2.length ≤ c3) (g3 : Kd.string.C w A3 x.f1.f2.length x.f1.f2) (l8 : x.f2.f4.length ≤ c8) (g8 : Kd.string.C w A8 x.f2.f4.length x.f2.f4) (l16 : x.f3.f3.length ≤ c16) (g16 : Kd.string.C w A16 x.f3.f3.length x.f3.f3) (l28 : x.f5.f5.length ≤ c28) (g28 : Kd.string.C w A28 x.f5.f5.length x.f5.f5) (l29 : x.f5.f6.length ≤ c29) (g29 : k86.C w A29 x.f5.f6.length x.f5.f6) (l37 : x.f6.f4.length ≤ c37) (g37 : Kd.string.C w A37 x.f6.f4.length x.f6.f4) (l41 : x.f7.f2.length ≤ c41) (g41 : k86.C w A41 x.f7.f2.length x.f7.f2) (l45 : x.f8.length ≤ c45) (g45 : k117.C w A45 x.f8.length x.f8) (hs : Small x) (hf : Fits x) :
    Calls Tryd.prog 8 #[.agg #[.int .i64 x.f0, .string x.f1.f0, .string x.f1.f1, .slice A3 x.f1.f2.length c3, .string x.f2.f0, .string x.f2.f1, .string x.f2.f2, .string x.f2.f3, .slice A8 x.f2.f4.length c8, .string x.f2.f5, .bool x.f2.f6, .bool x.f2.f7, .int .i64 x.f2.f8, .string x.f3.f0, .string x.f3.f1, .string x.f3.f2, .slice A16 x.f3.f3.length c16, .int .i64 x.f3.f4, .int .i64 x.f3.f5, .bool x.f3.f6, .string x.f4.f0, .string x.f4.f1, .int .i64 x.f4.f2, .string x.f5.f0, .string x.f5.f1, .string x.f5.f2, .string x.f5.f3, .string x.f5.f4, .slice A28 x.f5.f5.length c28, .slice A29 x.f5.f6.length c29, .int .i64 x.f5.f7, .int .i64 x.f5.f8, .bool x.f5.f9, .string x.f6.f0, .string x.f6.f1, .string x.f6.f2, .string x.f6.f3, .slice A37 x.f6.f4.length c37, .string x.f6.f5, .string x.f7.f0, .string x.f7.f1, .slice A41 x.f7.f2.length c41, .string x.f7.f3, .int .i64 x.f7.f4, .bool x.f7.f5, .slice A45 x.f8.length c45]] w (TextPost (rowB x) w) := by
  obtain ⟨s1, s2, s3, s4, s5, s6, s7, s8⟩ := hs
  obtain ⟨f1, f2, f3, f4, f5, f6, f7, f8⟩ := hf
  unfold rowB
  by_cases k1 : x.f0 = 1
  · rw [if_pos k1, k1]
    exact refConsent w x l3 g3 l8 g8 l16 g16 l28 g28 l29 g29 l37 g37 l41 g41 l45 g45 s1 f1
  rw [if_neg k1]
  by_cases k2 : x.f0 = 2
  · rw [if_pos k2, k2]
    exact refCode w x l3 g3 l8 g8 l16 g16 l28 g28 l29 g29 l37 g37 l41 g41 l45 g45 s2 f2
  rw [if_neg k2]
  by_cases k3 : x.f0 = 3
  · rw [if_pos k3, k3]
    exact refFamily w x l3 g3 l8 g8 l16 g16 l28 g28 l29 g29 l37 g37 l41 g41 l45 g45 s3 f3
  rw [if_neg k3]
  by_cases k4 : x.f0 = 4
  · rw [if_pos k4, k4]
    exact refRefresh w x l3 g3 l8 g8 l16 g16 l28 g28 l29 g29 l37 g37 l41 g41 l45 g45 s4 f4
  rw [if_neg k4]
  by_cases k5 : x.f0 = 5
  · rw [if_pos k5, k5]
    exact refAccess w x l3 g3 l8 g8 l16 g16 l28 g28 l29 g29 l37 g37 l41 g41 l45 g45 s5 f5
  rw [if_neg k5]
  by_cases k6 : x.f0 = 6
  · rw [if_pos k6, k6]
    exact refResource w x l3 g3 l8 g8 l16 g16 l28 g28 l29 g29 l37 g37 l41 g41 l45 g45 s6 f6
  rw [if_neg k6]
  by_cases k7 : x.f0 = 7
  · rw [if_pos k7, k7]
    exact refTicket w x l3 g3 l8 g8 l16 g16 l28 g28 l29 g29 l37 g37 l41 g41 l45 g45 s7 f7
  rw [if_neg k7]
  by_cases k8 : x.f0 = 8
  · rw [if_pos k8, k8]
    exact refKeysRow w x l3 g3 l8 g8 l16 g16 l28 g28 l29 g29 l37 g37 l41 g41 l45 g45 s8 f8
  rw [if_neg k8]
  exact refNone w x l3 g3 l8 g8 l16 g16 l28 g28 l29 g29 l37 g37 l41 g41 l45 g45 (by omega)
theorem lawBytes_any (w : World) (x : S41) {A3 : Option Addr} {c3 : Nat} {A8 : Option Addr} {c8 : Nat} {A16 : Option Addr} {c16 : Nat} {A28 : Option Addr} {c28 : Nat} {A29 : Option Addr} {c29 : Nat} {A37 : Option Addr} {c37 : Nat} {A41 : Option Addr} {c41 : Nat} {A45 : Option Addr} {c45 : Nat} (l3 : x.f1.f2.length ≤ c3) (g3 : Kd.string.C w A3 x.f1.f2.length x.f1.f2) (l8 : x.f2.f4.length ≤ c8) (g8 : Kd.string.C w A8 x.f2.f4.length x.f2.f4) (l16 : x.f3.f3.length ≤ c16) (g16 : Kd.string.C w A16 x.f3.f3.length x.f3.f3) (l28 : x.f5.f5.length ≤ c28) (g28 : Kd.string.C w A28 x.f5.f5.length x.f5.f5) (l29 : x.f5.f6.length ≤ c29) (g29 : k86.C w A29 x.f5.f6.length x.f5.f6) (l37 : x.f6.f4.length ≤ c37) (g37 : Kd.string.C w A37 x.f6.f4.length x.f6.f4) (l41 : x.f7.f2.length ≤ c41) (g41 : k86.C w A41 x.f7.f2.length x.f7.f2) (l45 : x.f8.length ≤ c45) (g45 : k117.C w A45 x.f8.length x.f8) (hs : Small x) (hf : Fits x) :
    Calls Tryd.prog 10 #[.agg #[.int .i64 x.f0, .string x.f1.f0, .string x.f1.f1, .slice A3 x.f1.f2.length c3, .string x.f2.f0, .string x.f2.f1, .string x.f2.f2, .string x.f2.f3, .slice A8 x.f2.f4.length c8, .string x.f2.f5, .bool x.f2.f6, .bool x.f2.f7, .int .i64 x.f2.f8, .string x.f3.f0, .string x.f3.f1, .string x.f3.f2, .slice A16 x.f3.f3.length c16, .int .i64 x.f3.f4, .int .i64 x.f3.f5, .bool x.f3.f6, .string x.f4.f0, .string x.f4.f1, .int .i64 x.f4.f2, .string x.f5.f0, .string x.f5.f1, .string x.f5.f2, .string x.f5.f3, .string x.f5.f4, .slice A28 x.f5.f5.length c28, .slice A29 x.f5.f6.length c29, .int .i64 x.f5.f7, .int .i64 x.f5.f8, .bool x.f5.f9, .string x.f6.f0, .string x.f6.f1, .string x.f6.f2, .string x.f6.f3, .slice A37 x.f6.f4.length c37, .string x.f6.f5, .string x.f7.f0, .string x.f7.f1, .slice A41 x.f7.f2.length c41, .string x.f7.f3, .int .i64 x.f7.f4, .bool x.f7.f5, .slice A45 x.f8.length c45]] w (TextPost (rowB x) w) := by
  obtain ⟨s1, s2, s3, s4, s5, s6, s7, s8⟩ := hs
  obtain ⟨f1, f2, f3, f4, f5, f6, f7, f8⟩ := hf
  unfold rowB
  by_cases k1 : x.f0 = 1
  · rw [if_pos k1, k1]
    exact lawConsent w x l3 g3 l8 g8 l16 g16 l28 g28 l29 g29 l37 g37 l41 g41 l45 g45 s1 f1
  rw [if_neg k1]
  by_cases k2 : x.f0 = 2
  · rw [if_pos k2, k2]
    exact lawCode w x l3 g3 l8 g8 l16 g16 l28 g28 l29 g29 l37 g37 l41 g41 l45 g45 s2 f2
  rw [if_neg k2]
  by_cases k3 : x.f0 = 3
  · rw [if_pos k3, k3]
    exact lawFamily w x l3 g3 l8 g8 l16 g16 l28 g28 l29 g29 l37 g37 l41 g41 l45 g45 s3 f3
  rw [if_neg k3]
  by_cases k4 : x.f0 = 4
  · rw [if_pos k4, k4]
    exact lawRefresh w x l3 g3 l8 g8 l16 g16 l28 g28 l29 g29 l37 g37 l41 g41 l45 g45 s4 f4
  rw [if_neg k4]
  by_cases k5 : x.f0 = 5
  · rw [if_pos k5, k5]
    exact lawAccess w x l3 g3 l8 g8 l16 g16 l28 g28 l29 g29 l37 g37 l41 g41 l45 g45 s5 f5
  rw [if_neg k5]
  by_cases k6 : x.f0 = 6
  · rw [if_pos k6, k6]
    exact lawResource w x l3 g3 l8 g8 l16 g16 l28 g28 l29 g29 l37 g37 l41 g41 l45 g45 s6 f6
  rw [if_neg k6]
  by_cases k7 : x.f0 = 7
  · rw [if_pos k7, k7]
    exact lawTicket w x l3 g3 l8 g8 l16 g16 l28 g28 l29 g29 l37 g37 l41 g41 l45 g45 s7 f7
  rw [if_neg k7]
  by_cases k8 : x.f0 = 8
  · rw [if_pos k8, k8]
    exact lawKeysRow w x l3 g3 l8 g8 l16 g16 l28 g28 l29 g29 l37 g37 l41 g41 l45 g45 s8 f8
  rw [if_neg k8]
  exact lawNone w x l3 g3 l8 g8 l16 g16 l28 g28 l29 g29 l37 g37 l41 g41 l45 g45 (by omega)
theorem flat_le {α : Type} (f : α → List UInt8) (B : Nat) (l : List α) (h : ∀ x ∈ l, (f x).length ≤ B) : (l.flatMap f).length ≤ l.length * B := by
  induction l with
  | nil => simp
  | cons x l ih =>
    rw [List.flatMap_cons, List.length_append, List.length_cons, Nat.add_mul]
    have h1 := h x List.mem_cons_self
    have h2 := ih (fun y hy => h y (List.mem_cons_of_mem _ hy))
    omega
theorem textB_le {s : ByteArray} (h : Sz s) : (textB s).length ≤ 1048580 := by
  have h' : s.size ≤ 1048576 := h
  rw [textB, List.length_append, four_len, str_len]
  omega
theorem textsB_le {l : List ByteArray} (h : SzL l) (n : Nat) (hn : l.length ≤ n) : (textsB l).length ≤ 4 + n * 1048580 := by
  rw [textsB, List.length_append, four_len]
  have h1 := flat_le textB 1048580 l (fun x hx => textB_le (h.2 x hx))
  have h2 := Nat.mul_le_mul_right 1048580 hn
  omega
theorem permsB_le {l : List S86} (h : SzP l) (hn : l.length ≤ 50) (hs : ∀ j, j < l.length → ((l.getD j z86).f1).length ≤ 100) : (permsB l).length ≤ 6000000000 := by
  rw [permsB, List.length_append, four_len]
  have h1 := flat_le permB 105906584 l (fun x hx => by
    obtain ⟨j, hj, rfl⟩ := List.getElem_of_mem hx
    have h2 := hs j hj
    rw [List.getD_eq_getElem?_getD, List.getElem?_eq_getElem hj, Option.getD_some] at h2
    have h3 := textB_le (h.2 _ hx).1
    have h4 := textsB_le (h.2 _ hx).2 100 h2
    rw [permB, List.length_append]
    omega)
  have h2 := Nat.mul_le_mul_right 105906584 hn
  omega
theorem keysB_le {l : List S117} (h : SzK l) (hn : l.length ≤ 500) : (keysB l).length ≤ 2000000000 := by
  rw [keysB, List.length_append, four_len]
  have h1 := flat_le keyB 2097160 l (fun x hx => by
    have h3 := textB_le (h.2 _ hx).1
    have h4 := textB_le (h.2 _ hx).2
    rw [keyB, List.length_append]
    omega)
  have h2 := Nat.mul_le_mul_right 2097160 hn
  omega
theorem eight_len (n : Int) : (eight n).length = 8 := rfl
theorem truth_len (b : Bool) : (truthB b).length = 1 := rfl
theorem fits (x : S41) (hs : Small x) (hn : Near x) : Fits x := by
  obtain ⟨s1, s2, s3, s4, s5, s6, s7, s8⟩ := hs
  obtain ⟨n1, n2, n3, n4, n5, n6, n7, n8, n9⟩ := hn
  refine ⟨?_, ?_, ?_, ?_, ?_, ?_, ?_, ?_⟩
  · have e0 := textB_le s1.1
    have e1 := textB_le s1.2.1
    have e2 := textsB_le s1.2.2 500 (by omega)
    simp only [consentB, List.length_append]
    omega
  · have e0 := textB_le s2.1
    have e1 := textB_le s2.2.1
    have e2 := textB_le s2.2.2.1
    have e3 := textB_le s2.2.2.2.1
    have e4 := textsB_le s2.2.2.2.2.1 500 (by omega)
    have e5 := textB_le s2.2.2.2.2.2.1
    have e6 := truth_len x.f2.f6
    have e7 := truth_len x.f2.f7
    have e8 := eight_len x.f2.f8
    simp only [codeB, List.length_append]
    omega
  · have e0 := textB_le s3.1
    have e1 := textB_le s3.2.1
    have e2 := textB_le s3.2.2.1
    have e3 := textsB_le s3.2.2.2.1 500 (by omega)
    have e4 := eight_len x.f3.f4
    have e5 := eight_len x.f3.f5
    have e6 := truth_len x.f3.f6
    simp only [familyB, List.length_append]
    omega
  · have e0 := textB_le s4.1
    have e1 := textB_le s4.2.1
    have e2 := eight_len x.f4.f2
    simp only [refreshB, List.length_append]
    omega
  · have e0 := textB_le s5.1
    have e1 := textB_le s5.2.1
    have e2 := textB_le s5.2.2.1
    have e3 := textB_le s5.2.2.2.1
    have e4 := textB_le s5.2.2.2.2.1
    have e5 := textsB_le s5.2.2.2.2.2.1 500 (by omega)
    have e6 := permsB_le s5.2.2.2.2.2.2.1 n4 n8
    have e7 := eight_len x.f5.f7
    have e8 := eight_len x.f5.f8
    have e9 := truth_len x.f5.f9
    simp only [accessB, List.length_append]
    omega
  · have e0 := textB_le s6.1
    have e1 := textB_le s6.2.1
    have e2 := textB_le s6.2.2.1
    have e3 := textB_le s6.2.2.2.1
    have e4 := textsB_le s6.2.2.2.2.1 500 (by omega)
    have e5 := textB_le s6.2.2.2.2.2
    simp only [resourceB, List.length_append]
    omega
  · have e0 := textB_le s7.1
    have e1 := textB_le s7.2.1
    have e2 := permsB_le s7.2.2.1 n6 n9
    have e3 := textB_le s7.2.2.2.1
    have e4 := eight_len x.f7.f4
    have e5 := truth_len x.f7.f5
    simp only [ticketB, List.length_append]
    omega
  · have := keysB_le s8 n7
    omega
theorem lens (x : S41) (hs : Small x) : x.f1.f2.length ≤ 1048576 ∧ x.f2.f4.length ≤ 1048576 ∧ x.f3.f3.length ≤ 1048576 ∧ x.f5.f5.length ≤ 1048576 ∧ x.f5.f6.length ≤ 1048576 ∧ x.f6.f4.length ≤ 1048576 ∧ x.f7.f2.length ≤ 1048576 ∧ x.f8.length ≤ 1048576 := by
  obtain ⟨s1, s2, s3, s4, s5, s6, s7, s8⟩ := hs
  exact ⟨(s1.2.2).1, (s2.2.2.2.2.1).1, (s3.2.2.2.1).1, (s5.2.2.2.2.2.1).1, (s5.2.2.2.2.2.2.1).1, (s6.2.2.2.2.1).1, (s7.2.2.1).1, s8.1⟩
end Go.Proofs.YtcgjacffemjehaaDoor

namespace Go.Proofs.YtcgjacffemjehaaDoor
open Go.RowKit
open Go.Proofs.YtcgjacffemjehaaDoorW.PrintWords (Kd rdOf results_ct)
open Go.Proofs.YtcgjacffemjehaaDoor.PRowReads
set_option linter.unusedVariables false
def CPerm (x : S86) : Prop := OkT x.f0 ∧ OkL OkT x.f1
set_option maxHeartbeats 4000000 in
theorem permCod : Cod permB permR CPerm :=
  Cod.map (textCod.both textsCod) (fun p => ⟨p.1, p.2⟩) (fun y => (y.f0, y.f1)) (fun _ => rfl) (fun _ => rfl) (fun y => show permB y = textB y.f0 ++ (textsB y.f1) by simp only [permB]) (fun _ _ => rfl) (fun _ => Iff.rfl)
def CKey (x : S117) : Prop := OkT x.f0 ∧ OkT x.f1
set_option maxHeartbeats 4000000 in
theorem keyCod : Cod keyB keyR CKey :=
  Cod.map (textCod.both textCod) (fun p => ⟨p.1, p.2⟩) (fun y => (y.f0, y.f1)) (fun _ => rfl) (fun _ => rfl) (fun y => show keyB y = textB y.f0 ++ (textB y.f1) by simp only [keyB]) (fun _ _ => rfl) (fun _ => Iff.rfl)
theorem permB_ge (x : S86) : 1 ≤ (permB x).length := by rw [permB, List.length_append]; have := textB_ge x.f0; omega
theorem keyB_ge (x : S117) : 1 ≤ (keyB x).length := by rw [keyB, List.length_append]; have := textB_ge x.f0; omega
theorem permsCod : Cod permsB (listR permR) (OkL CPerm) := listCod permCod permB_ge
theorem keysCod : Cod keysB (listR keyR) (OkL CKey) := listCod keyCod keyB_ge
def CConsent (x : S25) : Prop := OkT x.f0 ∧ OkT x.f1 ∧ OkL OkT x.f2
set_option maxHeartbeats 4000000 in
theorem consentCod : Cod consentB consentR CConsent :=
  Cod.map (textCod.both (textCod.both textsCod)) (fun p => ⟨p.1, p.2.1, p.2.2⟩) (fun y => (y.f0, (y.f1, y.f2))) (fun _ => rfl) (fun _ => rfl) (fun y => show consentB y = textB y.f0 ++ (textB y.f1 ++ (textsB y.f2)) by simp only [consentB, List.append_assoc]) (fun _ _ => rfl) (fun _ => Iff.rfl)
def CCode (x : S27) : Prop := OkT x.f0 ∧ OkT x.f1 ∧ OkT x.f2 ∧ OkT x.f3 ∧ OkL OkT x.f4 ∧ OkT x.f5 ∧ True ∧ True ∧ I64 x.f8
set_option maxHeartbeats 4000000 in
theorem codeCod : Cod codeB codeR CCode :=
  Cod.map (textCod.both (textCod.both (textCod.both (textCod.both (textsCod.both (textCod.both (truthCod.both (truthCod.both numCod)))))))) (fun p => ⟨p.1, p.2.1, p.2.2.1, p.2.2.2.1, p.2.2.2.2.1, p.2.2.2.2.2.1, p.2.2.2.2.2.2.1, p.2.2.2.2.2.2.2.1, p.2.2.2.2.2.2.2.2⟩) (fun y => (y.f0, (y.f1, (y.f2, (y.f3, (y.f4, (y.f5, (y.f6, (y.f7, y.f8))))))))) (fun _ => rfl) (fun _ => rfl) (fun y => show codeB y = textB y.f0 ++ (textB y.f1 ++ (textB y.f2 ++ (textB y.f3 ++ (textsB y.f4 ++ (textB y.f5 ++ (truthB y.f6 ++ (truthB y.f7 ++ (eight y.f8)))))))) by simp only [codeB, List.append_assoc]) (fun _ _ => rfl) (fun _ => Iff.rfl)
def CFamily (x : S29) : Prop := OkT x.f0 ∧ OkT x.f1 ∧ OkT x.f2 ∧ OkL OkT x.f3 ∧ I64 x.f4 ∧ I64 x.f5 ∧ True
set_option maxHeartbeats 4000000 in
theorem familyCod : Cod familyB familyR CFamily :=
  Cod.map (textCod.both (textCod.both (textCod.both (textsCod.both (numCod.both (numCod.both truthCod)))))) (fun p => ⟨p.1, p.2.1, p.2.2.1, p.2.2.2.1, p.2.2.2.2.1, p.2.2.2.2.2.1, p.2.2.2.2.2.2⟩) (fun y => (y.f0, (y.f1, (y.f2, (y.f3, (y.f4, (y.f5, y.f6))))))) (fun _ => rfl) (fun _ => rfl) (fun y => show familyB y = textB y.f0 ++ (textB y.f1 ++ (textB y.f2 ++ (textsB y.f3 ++ (eight y.f4 ++ (eight y.f5 ++ (truthB y.f6)))))) by simp only [familyB, List.append_assoc]) (fun _ _ => rfl) (fun _ => Iff.rfl)
def CRefresh (x : S31) : Prop := OkT x.f0 ∧ OkT x.f1 ∧ I64 x.f2
set_option maxHeartbeats 4000000 in
theorem refreshCod : Cod refreshB refreshR CRefresh :=
  Cod.map (textCod.both (textCod.both numCod)) (fun p => ⟨p.1, p.2.1, p.2.2⟩) (fun y => (y.f0, (y.f1, y.f2))) (fun _ => rfl) (fun _ => rfl) (fun y => show refreshB y = textB y.f0 ++ (textB y.f1 ++ (eight y.f2)) by simp only [refreshB, List.append_assoc]) (fun _ _ => rfl) (fun _ => Iff.rfl)
def CAccess (x : S34) : Prop := OkT x.f0 ∧ OkT x.f1 ∧ OkT x.f2 ∧ OkT x.f3 ∧ OkT x.f4 ∧ OkL OkT x.f5 ∧ OkL CPerm x.f6 ∧ I64 x.f7 ∧ I64 x.f8 ∧ True
set_option maxHeartbeats 4000000 in
theorem accessCod : Cod accessB accessR CAccess :=
  Cod.map (textCod.both (textCod.both (textCod.both (textCod.both (textCod.both (textsCod.both (permsCod.both (numCod.both (numCod.both truthCod))))))))) (fun p => ⟨p.1, p.2.1, p.2.2.1, p.2.2.2.1, p.2.2.2.2.1, p.2.2.2.2.2.1, p.2.2.2.2.2.2.1, p.2.2.2.2.2.2.2.1, p.2.2.2.2.2.2.2.2.1, p.2.2.2.2.2.2.2.2.2⟩) (fun y => (y.f0, (y.f1, (y.f2, (y.f3, (y.f4, (y.f5, (y.f6, (y.f7, (y.f8, y.f9)))))))))) (fun _ => rfl) (fun _ => rfl) (fun y => show accessB y = textB y.f0 ++ (textB y.f1 ++ (textB y.f2 ++ (textB y.f3 ++ (textB y.f4 ++ (textsB y.f5 ++ (permsB y.f6 ++ (eight y.f7 ++ (eight y.f8 ++ (truthB y.f9))))))))) by simp only [accessB, List.append_assoc]) (fun _ _ => rfl) (fun _ => Iff.rfl)
def CResource (x : S36) : Prop := OkT x.f0 ∧ OkT x.f1 ∧ OkT x.f2 ∧ OkT x.f3 ∧ OkL OkT x.f4 ∧ OkT x.f5
set_option maxHeartbeats 4000000 in
theorem resourceCod : Cod resourceB resourceR CResource :=
  Cod.map (textCod.both (textCod.both (textCod.both (textCod.both (textsCod.both textCod))))) (fun p => ⟨p.1, p.2.1, p.2.2.1, p.2.2.2.1, p.2.2.2.2.1, p.2.2.2.2.2⟩) (fun y => (y.f0, (y.f1, (y.f2, (y.f3, (y.f4, y.f5)))))) (fun _ => rfl) (fun _ => rfl) (fun y => show resourceB y = textB y.f0 ++ (textB y.f1 ++ (textB y.f2 ++ (textB y.f3 ++ (textsB y.f4 ++ (textB y.f5))))) by simp only [resourceB, List.append_assoc]) (fun _ _ => rfl) (fun _ => Iff.rfl)
def CTicket (x : S38) : Prop := OkT x.f0 ∧ OkT x.f1 ∧ OkL CPerm x.f2 ∧ OkT x.f3 ∧ I64 x.f4 ∧ True
set_option maxHeartbeats 4000000 in
theorem ticketCod : Cod ticketB ticketR CTicket :=
  Cod.map (textCod.both (textCod.both (permsCod.both (textCod.both (numCod.both truthCod))))) (fun p => ⟨p.1, p.2.1, p.2.2.1, p.2.2.2.1, p.2.2.2.2.1, p.2.2.2.2.2⟩) (fun y => (y.f0, (y.f1, (y.f2, (y.f3, (y.f4, y.f5)))))) (fun _ => rfl) (fun _ => rfl) (fun y => show ticketB y = textB y.f0 ++ (textB y.f1 ++ (permsB y.f2 ++ (textB y.f3 ++ (eight y.f4 ++ (truthB y.f5))))) by simp only [ticketB, List.append_assoc]) (fun _ _ => rfl) (fun _ => Iff.rfl)
theorem Cod.self {α : Type} {B : α → List UInt8} {R : List UInt8 → Bool → α × List UInt8 × Bool} {ok : α → Prop} (h : Cod B R ok) {x : α} (ho : ok x) : unR (R (B x) false) = some x := by
  have h1 := h.fwd x [] ho
  rw [List.append_nil] at h1
  rw [h1]
  exact if_neg (by simp)
theorem Cod.more {α : Type} {B : α → List UInt8} {R : List UInt8 → Bool → α × List UInt8 × Bool} {ok : α → Prop} (h : Cod B R ok) {x : α} (ho : ok x) (m : UInt8) : unR (R (B x ++ [m]) false) = none := by
  rw [h.fwd x [m] ho]
  exact if_pos (.inr (by simp))
theorem un_some {α : Type} {r : α × List UInt8 × Bool} {y : α} (h : unR r = some y) : r = (y, [], false) := by
  obtain ⟨a, l, b, rfl⟩ := trip r
  unfold unR at h
  split at h
  · cases h
  · rename_i h1
    simp only [not_or, Bool.not_eq_true, Nat.not_lt, Nat.le_zero_eq] at h1
    have h2 := List.eq_nil_of_length_eq_zero h1.2
    have h3 := h1.1
    simp only [Option.some.injEq] at h
    rw [h2, h3, h]
theorem Cod.less {α : Type} {B : α → List UInt8} {R : List UInt8 → Bool → α × List UInt8 × Bool} {ok : α → Prop} (h : Cod B R ok) {x : α} (ho : ok x) (i : Nat) (hi : i < (B x).length) : unR (R ((B x).take i) false) = none := by
  cases e : unR (R ((B x).take i) false) with
  | none => rfl
  | some y =>
    have h1 := h.ext (un_some e) ((B x).drop i)
    rw [List.take_append_drop] at h1
    have h2 := h.fwd x [] ho
    rw [List.append_nil, h1] at h2
    have h3 := congrArg List.length (Prod.mk.inj (Prod.mk.inj h2).2).1
    simp at h3
    omega
/-- What is read is what was written. -/
theorem Cod.un_bwd {α : Type} {B : α → List UInt8} {R : List UInt8 → Bool → α × List UInt8 × Bool} {ok : α → Prop} (h : Cod B R ok) {l : List UInt8} {y : α} (e : unR (R l false) = some y) : l = B y ∧ ok y := by
  have := h.bwd _ _ _ (un_some e)
  rwa [List.append_nil] at this
/-- What the law's read of a kind tells of bytes: the row, and whether it is one. -/
def readRow (k : Int) (l : List UInt8) : S41 × Bool := if k = 1 then (rowConsent ((unR (consentR l false)).getD z25), (unR (consentR l false)).isSome) else if k = 2 then (rowCode ((unR (codeR l false)).getD z27), (unR (codeR l false)).isSome) else if k = 3 then (rowFamily ((unR (familyR l false)).getD z29), (unR (familyR l false)).isSome) else if k = 4 then (rowRefresh ((unR (refreshR l false)).getD z31), (unR (refreshR l false)).isSome) else if k = 5 then (rowAccess ((unR (accessR l false)).getD z34), (unR (accessR l false)).isSome) else if k = 6 then (rowResource ((unR (resourceR l false)).getD z36), (unR (resourceR l false)).isSome) else if k = 7 then (rowTicket ((unR (ticketR l false)).getD z38), (unR (ticketR l false)).isSome) else if k = 8 then (rowKeysR ((unR (listR keyR l false)).getD []), (unR (listR keyR l false)).isSome) else (⟨k, z25, z27, z29, z31, z34, z36, z38, []⟩, true)
theorem okT_of {s : ByteArray} (h : Sz s) : OkT s := by have h' : s.size ≤ 1048576 := h; unfold OkT; omega
theorem okL_of {l : List ByteArray} (h : SzL l) : OkL OkT l := ⟨by have := h.1; omega, fun x hx => okT_of (h.2 x hx)⟩
theorem okP_of {l : List S86} (h : SzP l) : OkL CPerm l := ⟨by have := h.1; omega, fun x hx => ⟨okT_of (h.2 x hx).1, okL_of (h.2 x hx).2⟩⟩
theorem okK_of {l : List S117} (h : SzK l) : OkL CKey l := ⟨by have := h.1; omega, fun x hx => ⟨okT_of (h.2 x hx).1, okT_of (h.2 x hx).2⟩⟩
theorem cConsent_of {x : S25} (h : OkConsent x) : CConsent x := ⟨okT_of h.1, okT_of h.2.1, okL_of h.2.2⟩
theorem cCode_of {x : S27} (h : OkCode x) : CCode x := ⟨okT_of h.1, okT_of h.2.1, okT_of h.2.2.1, okT_of h.2.2.2.1, okL_of h.2.2.2.2.1, okT_of h.2.2.2.2.2.1, trivial, trivial, h.2.2.2.2.2.2⟩
theorem cFamily_of {x : S29} (h : OkFamily x) : CFamily x := ⟨okT_of h.1, okT_of h.2.1, okT_of h.2.2.1, okL_of h.2.2.2.1, h.2.2.2.2.1, h.2.2.2.2.2, trivial⟩
theorem cRefresh_of {x : S31} (h : OkRefresh x) : CRefresh x := ⟨okT_of h.1, okT_of h.2.1, h.2.2⟩
theorem cAccess_of {x : S34} (h : OkAccess x) : CAccess x := ⟨okT_of h.1, okT_of h.2.1, okT_of h.2.2.1, okT_of h.2.2.2.1, okT_of h.2.2.2.2.1, okL_of h.2.2.2.2.2.1, okP_of h.2.2.2.2.2.2.1, h.2.2.2.2.2.2.2.1, h.2.2.2.2.2.2.2.2, trivial⟩
theorem cResource_of {x : S36} (h : OkResource x) : CResource x := ⟨okT_of h.1, okT_of h.2.1, okT_of h.2.2.1, okT_of h.2.2.2.1, okL_of h.2.2.2.2.1, okT_of h.2.2.2.2.2⟩
theorem cTicket_of {x : S38} (h : OkTicket x) : CTicket x := ⟨okT_of h.1, okT_of h.2.1, okP_of h.2.2.1, okT_of h.2.2.2.1, h.2.2.2.2, trivial⟩
theorem row_self (x : S41) (hs : Small x) (h1 : 1 ≤ x.f0) (h8 : x.f0 ≤ 8) : (readRow x.f0 (rowB x)).2 = true ∧ rowB (readRow x.f0 (rowB x)).1 = rowB x ∧ (∀ m, (readRow x.f0 (rowB x ++ [m])).2 = false) ∧ (∀ i, i < (rowB x).length → (readRow x.f0 ((rowB x).take i)).2 = false) := by
  obtain ⟨s1, s2, s3, s4, s5, s6, s7, s8⟩ := hs
  have hk : x.f0 = 1 ∨ x.f0 = 2 ∨ x.f0 = 3 ∨ x.f0 = 4 ∨ x.f0 = 5 ∨ x.f0 = 6 ∨ x.f0 = 7 ∨ x.f0 = 8 := by omega
  rcases hk with h | h | h | h | h | h | h | h
  · have hb : rowB x = consentB x.f1 := by unfold rowB; simp [h]
    have hr : ∀ l, readRow x.f0 l = (rowConsent ((unR (consentR l false)).getD z25), (unR (consentR l false)).isSome) := fun l => by unfold readRow; simp [h]
    have ho := cConsent_of s1
    simp only [hb, hr]
    refine ⟨by rw [consentCod.self ho]; rfl, ?_, fun m => by rw [consentCod.more ho]; rfl, fun i hi => by rw [consentCod.less ho i hi]; rfl⟩
    rw [consentCod.self ho, Option.getD_some]
    show rowB (rowConsent x.f1) = _
    unfold rowB rowConsent
    simp
  · have hb : rowB x = codeB x.f2 := by unfold rowB; simp [h]
    have hr : ∀ l, readRow x.f0 l = (rowCode ((unR (codeR l false)).getD z27), (unR (codeR l false)).isSome) := fun l => by unfold readRow; simp [h]
    have ho := cCode_of s2
    simp only [hb, hr]
    refine ⟨by rw [codeCod.self ho]; rfl, ?_, fun m => by rw [codeCod.more ho]; rfl, fun i hi => by rw [codeCod.less ho i hi]; rfl⟩
    rw [codeCod.self ho, Option.getD_some]
    show rowB (rowCode x.f2) = _
    unfold rowB rowCode
    simp
  · have hb : rowB x = familyB x.f3 := by unfold rowB; simp [h]
    have hr : ∀ l, readRow x.f0 l = (rowFamily ((unR (familyR l false)).getD z29), (unR (familyR l false)).isSome) := fun l => by unfold readRow; simp [h]
    have ho := cFamily_of s3
    simp only [hb, hr]
    refine ⟨by rw [familyCod.self ho]; rfl, ?_, fun m => by rw [familyCod.more ho]; rfl, fun i hi => by rw [familyCod.less ho i hi]; rfl⟩
    rw [familyCod.self ho, Option.getD_some]
    show rowB (rowFamily x.f3) = _
    unfold rowB rowFamily
    simp
  · have hb : rowB x = refreshB x.f4 := by unfold rowB; simp [h]
    have hr : ∀ l, readRow x.f0 l = (rowRefresh ((unR (refreshR l false)).getD z31), (unR (refreshR l false)).isSome) := fun l => by unfold readRow; simp [h]
    have ho := cRefresh_of s4
    simp only [hb, hr]
    refine ⟨by rw [refreshCod.self ho]; rfl, ?_, fun m => by rw [refreshCod.more ho]; rfl, fun i hi => by rw [refreshCod.less ho i hi]; rfl⟩
    rw [refreshCod.self ho, Option.getD_some]
    show rowB (rowRefresh x.f4) = _
    unfold rowB rowRefresh
    simp
  · have hb : rowB x = accessB x.f5 := by unfold rowB; simp [h]
    have hr : ∀ l, readRow x.f0 l = (rowAccess ((unR (accessR l false)).getD z34), (unR (accessR l false)).isSome) := fun l => by unfold readRow; simp [h]
    have ho := cAccess_of s5
    simp only [hb, hr]
    refine ⟨by rw [accessCod.self ho]; rfl, ?_, fun m => by rw [accessCod.more ho]; rfl, fun i hi => by rw [accessCod.less ho i hi]; rfl⟩
    rw [accessCod.self ho, Option.getD_some]
    show rowB (rowAccess x.f5) = _
    unfold rowB rowAccess
    simp
  · have hb : rowB x = resourceB x.f6 := by unfold rowB; simp [h]
    have hr : ∀ l, readRow x.f0 l = (rowResource ((unR (resourceR l false)).getD z36), (unR (resourceR l false)).isSome) := fun l => by unfold readRow; simp [h]
    have ho := cResource_of s6
    simp only [hb, hr]
    refine ⟨by rw [resourceCod.self ho]; rfl, ?_, fun m => by rw [resourceCod.more ho]; rfl, fun i hi => by rw [resourceCod.less ho i hi]; rfl⟩
    rw [resourceCod.self ho, Option.getD_some]
    show rowB (rowResource x.f6) = _
    unfold rowB rowResource
    simp
  · have hb : rowB x = ticketB x.f7 := by unfold rowB; simp [h]
    have hr : ∀ l, readRow x.f0 l = (rowTicket ((unR (ticketR l false)).getD z38), (unR (ticketR l false)).isSome) := fun l => by unfold readRow; simp [h]
    have ho := cTicket_of s7
    simp only [hb, hr]
    refine ⟨by rw [ticketCod.self ho]; rfl, ?_, fun m => by rw [ticketCod.more ho]; rfl, fun i hi => by rw [ticketCod.less ho i hi]; rfl⟩
    rw [ticketCod.self ho, Option.getD_some]
    show rowB (rowTicket x.f7) = _
    unfold rowB rowTicket
    simp
  · have hb : rowB x = keysB x.f8 := by unfold rowB; simp [h]
    have hr : ∀ l, readRow x.f0 l = (rowKeysR ((unR (listR keyR l false)).getD []), (unR (listR keyR l false)).isSome) := fun l => by unfold readRow; simp [h]
    have ho := okK_of s8
    simp only [hb, hr]
    refine ⟨by rw [keysCod.self ho]; rfl, ?_, fun m => by rw [keysCod.more ho]; rfl, fun i hi => by rw [keysCod.less ho i hi]; rfl⟩
    rw [keysCod.self ho, Option.getD_some]
    show rowB (rowKeysR x.f8) = _
    unfold rowB rowKeysR
    simp
end Go.Proofs.YtcgjacffemjehaaDoor

namespace Go.Proofs.YtcgjacffemjehaaDoor
open Go.RowKit
open Go.Proofs.YtcgjacffemjehaaDoorW.PrintWords (Kd rdOf results_ct)
open Go.Proofs.YtcgjacffemjehaaDoor.PRowReads
set_option linter.unusedVariables false
set_option maxHeartbeats 8000000 in
set_option maxRecDepth 100000 in
theorem readConsent (w : World) (hg : ErrorType w) (s : ByteArray) (hs : s.size ≤ 1099511627776) :
    Calls Tryd.prog 6 #[.int .i64 1, .string s] w (ReadPost (rowConsent ((unR (consentR s.data.toList false)).getD z25)) (unR (consentR s.data.toList false)).isSome w) := by
  have kc := fun (w : World) => Lib.run_convert_string_bytes (P := Tryd.prog) w 9 49 5 s Tryd.underlying9 Tryd.underlying49 Tryd.underlying5
  have hb2 : Below w.heap.size w ((w.alloc (.cells rowZ 41)).alloc (.cells (rowK 1) 41)) := ((Below.refl w.heap.size w).alloc (Nat.le_refl _) _).alloc (by simp) _
  have hs2 : ((w.alloc (.cells rowZ 41)).alloc (.cells (rowK 1) 41)).heap.size = w.heap.size + 1 + 1 := by simp
  have ha0 : AtB ((w.alloc (.cells rowZ 41)).alloc (.cells (rowK 1) 41)) w.heap.size 41 rowZ := (at_make rfl).alloc _
  have ha1 : AtB ((w.alloc (.cells rowZ 41)).alloc (.cells (rowK 1) 41)) (w.heap.size + 1) 41 (rowK 1) := at_make (by simp)
  obtain ⟨o, ho⟩ : ∃ o, unR (consentR s.data.toList false) = o := ⟨_, rfl⟩
  have hrw := reads_world ((w.alloc (.cells rowZ 41)).alloc (.cells (rowK 1) 41)) 5 s
  rw [str_len, hs2] at hrw
  have hb3 := below_bytes ((w.alloc (.cells rowZ 41)).alloc (.cells (rowK 1) 41)) 5 s
  have hc := toConsent_any _ _ _ hrw (by rw [str_len]; exact hs)
  rw [ho] at hc ⊢
  have HC := hid hc
  have HB3 := hid (below_then hb2 hb3)
  have HA0 := hid ((hb3.block _ (lt_of_heap ha0)).trans ha0 : AtB _ w.heap.size 41 rowZ)
  have HA1 := hid ((hb3.block _ (lt_of_heap ha1)).trans ha1 : AtB _ (w.heap.size + 1) 41 (rowK 1))
  have HG := hid hg
  have HGL := hid hg.lt
  clear hb2 hs2 ha0 ha1 hrw hb3 hc hg ho
  go_enter Tryd.func6, Tryd.ntmps6
  go_wp2_with (first | (refine wpList_allocTo rfl (some 4) rfl _ _ (run_allocRow _ _ rfl _) ?_) | (refine wpList_allocTo rfl (some 6) rfl _ _ (run_allocRow _ _ rfl _) ?_) | (refine wpList_buildTo rfl 41 _ rfl (some 10) rfl (rowK 1) (by kernel_rfl) ?_) | (refine wpList_store_new rfl 41 (.tmp 6) (.tmp 10) rfl rfl (w.alloc (.cells rowZ 41)) 41 rowZ (rowK 1) rfl (by simp only [World.size_alloc]; rfl) rfl (by kernel_rfl) (by kernel_rfl) (by kernel_rfl) ?_))
  go_at_call 13
  refine HC.out.mono ?_
  clear HC
  intro e w5 hq
  obtain ⟨cs3, rfl, hM, hb⟩ := hq
  obtain ⟨y, hy⟩ : ∃ y, o.getD z25 = y := ⟨_, rfl⟩
  rw [hy] at hM ⊢
  obtain ⟨v2, rfl, g2⟩ := k25_openM hM
  obtain ⟨A2, m2, c2, rfl⟩ := r_form g2
  have HM := hid (k25.M_bound hM)
  obtain ⟨oks, hoks⟩ : ∃ b, o.isSome = b := ⟨_, rfl⟩
  obtain ⟨nn, hnn⟩ : ∃ n : Int, (if oks = true then 0 else 170) = n := ⟨_, rfl⟩
  have HNN := hid hnn
  have HOK := hid hoks
  rw [hoks]
  obtain ⟨ev, hev⟩ : ∃ ev, errV oks = ev := ⟨_, rfl⟩
  rw [hev]
  have HEV := hid hev
  have hle : w.heap.size + 1 + 1 ≤ (Lib.bytesWorld ((w.alloc (.cells rowZ 41)).alloc (.cells (rowK 1) 41)) 5 s).heap.size := by have := HB3.out.size; rw [Lib.bytesWorld_size]; simp
  have HLE := hid hle
  have HA0' := hid ((hb.block _ (lt_of_heap HA0.out)).trans HA0.out : AtB w5 w.heap.size 41 rowZ)
  have hA1 : AtB w5 (w.heap.size + 1) 41 (rowK 1) := (hb.block _ (lt_of_heap HA1.out)).trans HA1.out
  have HB5 := hid (below_then HB3.out hb)
  have HG5 := hid (HG.out.below HB5.out HG.out.lt)
  have hc1 : ∃ u, w5.cell? ⟨w.heap.size + 1, 1, none⟩ = some u := ⟨_, (hA1.cell 1).trans rfl⟩
  obtain ⟨u1, hu1⟩ := hc1
  have hf1 := hA1.free 1
  have hc2 : ∃ u, w5.cell? ⟨w.heap.size + 1, 2, none⟩ = some u := ⟨_, (hA1.cell 2).trans rfl⟩
  obtain ⟨u2, hu2⟩ := hc2
  have hf2 := hA1.free 2
  have hc3 : ∃ u, w5.cell? ⟨w.heap.size + 1, 3, none⟩ = some u := ⟨_, (hA1.cell 3).trans rfl⟩
  obtain ⟨u3, hu3⟩ := hc3
  have hf3 := hA1.free 3
  have HA1' := hid hA1
  clear hb hM hev hoks hnn hA1 HA0 HA1 HB3 HG hle g2
  go_wp2_with fail
  have q : AtB (((w5.setCell ⟨w.heap.size + 1, 1, none⟩ (.string y.f0)).setCell ⟨w.heap.size + 1, 2, none⟩ (.string y.f1)).setCell ⟨w.heap.size + 1, 3, none⟩ (.slice A2 m2 c2)) (w.heap.size + 1) 41 ((((rowK 1).setIfInBounds 1 (.string y.f0)).setIfInBounds 2 (.string y.f1)).setIfInBounds 3 (.slice A2 m2 c2)) := ((((HA1'.out).set 1 (.string y.f0)).set 2 (.string y.f1)).set 3 (.slice A2 m2 c2))
  have hmod : Mod (fun k => k = w.heap.size + 1) w5 (((w5.setCell ⟨w.heap.size + 1, 1, none⟩ (.string y.f0)).setCell ⟨w.heap.size + 1, 2, none⟩ (.string y.f1)).setCell ⟨w.heap.size + 1, 3, none⟩ (.slice A2 m2 c2)) := (((Mod.refl (fun k => k = w.heap.size + 1) w5).setCell ⟨w.heap.size + 1, 1, none⟩ (.string y.f0) (.inl rfl)).setCell ⟨w.heap.size + 1, 2, none⟩ (.string y.f1) (.inl rfl)).setCell ⟨w.heap.size + 1, 3, none⟩ (.slice A2 m2 c2) (.inl rfl)
  obtain ⟨W6, hW6⟩ : ∃ W, (((w5.setCell ⟨w.heap.size + 1, 1, none⟩ (.string y.f0)).setCell ⟨w.heap.size + 1, 2, none⟩ (.string y.f1)).setCell ⟨w.heap.size + 1, 3, none⟩ (.slice A2 m2 c2)) = W := ⟨_, rfl⟩
  obtain ⟨V, hV⟩ : ∃ V, ((((rowK 1).setIfInBounds 1 (.string y.f0)).setIfInBounds 2 (.string y.f1)).setIfInBounds 3 (.slice A2 m2 c2)) = V := ⟨_, rfl⟩
  rw [hW6] at q hmod ⊢
  rw [hV] at q
  have hVs : V.size = 46 := by rw [← hV]; simp only [Array.size_setIfInBounds]; exact rowK_size 1
  have HQ := hid q
  have HMO := hid hmod
  have HVV := hid hV
  have hg6 : ErrorType W6 := hmod.cell HG5.out (show ¬ (0 = w.heap.size + 1) by have := HGL.out; omega)
  have hb6 : Below w.heap.size w W6 := HB5.out.trans (hmod.below (by have := HB5.out.size; omega) (fun x e => by omega))
  have hz6 : AtB W6 w.heap.size 41 rowZ := hmod.heap HA0'.out (by omega)
  have HG6 := hid hg6
  have HZ6 := hid hz6
  have HB6 := hid hb6
  clear hg6 hz6 hb6 hmod hV hW6
  have LT : 0 < V.toList.length := by rw [Array.length_toList]; omega
  have hi : (Tryd.prog.info? 41).map (·.size) = some V.toList.length := by rw [Array.length_toList, hVs]; exact rowInfo
  have hrA : W6.drew.rangeAt (w.heap.size + 1) 0 V.toList := (World.rangeAt_drew _ _ _ _).2 (range_of_atB q)
  refine wp_region_held_drew (S := fun W => Below w.heap.size w W ∧ W.rangeAt (w.heap.size + 1) 0 V.toList) (by kernel_rfl) ⟨Below.drew HB6.out, hrA⟩ (fun hHeld => ?_)
  refine wpAnyH_take (i := 0) (v := _) rfl (by kernel_rfl) (by kernel_rfl) (by kernel_rfl) (fun _ _ _ h => h) (yieldsIf_load_mid (by rfl) _ _ rfl (w.heap.size + 1) 0 rfl V.toList _ (fun W hW => hW.2) Tryd.underlying41 rfl hi) hHeld ?_
  try simp only [Act.put, List.setIfInBounds_toArray, Array.toArray_toList]
  refine wpAnyH_take (i := 1) (v := ev) rfl (by kernel_rfl) (by kernel_rfl) (by kernel_rfl) (fun _ _ _ h => h) (Or.inl ⟨by rfl, fun W hW => by go_simp⟩) hHeld ?_
  try simp only [Act.put]
  refine wpAnyH_ready (rs := [2]) (by kernel_rfl) (by simp) ?_
  refine AllReadyH.cons rfl (fun K hK => ?_) AllReadyH.nil
  go_simp
  have hN : Calls Tryd.prog 20 #[ev] W6.drew fun e w' => e = .returned (.int .i64 nn) ∧ Below W6.drew.heap.size W6.drew w' := by rw [← HEV.out, ← HNN.out]; exact num_errV W6.drew HG6.out oks
  refine hN.mono ?_
  clear hN
  rintro e w7 ⟨rfl, hb7⟩
  have hB7 := hHeld.1.trans (hb7.mono hHeld.1.size)
  have hR7 := range_of_below hb7 hHeld.2 LT
  have hz7 : AtB w7 w.heap.size 41 rowZ := (hb7.block w.heap.size (lt_of_heap HZ6.out)).trans HZ6.out
  have hm7 : Mod (fun k => k = w.heap.size + 1 ∨ k = w.heap.size) w5 w7 := (HMO.out.mono (fun _ _ e => .inl e)).trans (Mod.new (show Below W6.heap.size W6 w7 from ⟨hb7.os, hb7.tape, hb7.output, hb7.size, hb7.block⟩) (fun _ => False)) (fun _ e => e.elim)
  have HM7 := hid hm7
  have HZ7 := hid hz7
  clear hHeld hm7 hz7 hb7
  refine hK.out _ _ ⟨hB7, hR7⟩ (fun hHeld => ?_)
  clear hK K hB7
  try simp only [Act.put, List.setIfInBounds_toArray, List.set_cons_zero, List.set_cons_succ]
  refine wpAnyH_ready (rs := [3]) (by kernel_rfl) (by simp) ?_
  refine AllReadyH.cons rfl (fun K hK => ?_) AllReadyH.nil
  rw [if_pos (by rfl)]
  refine wp_store_row 41 (.tmp 4) (.tmp 78) rfl w.heap.size V rfl rfl 41 rowZ HZ7.out (by rw [hVs]; exact rowInfo) (by rw [hVs]; rfl) (by rw [← HVV.out]; kernel_rfl) ?_
  have hm8 : Mod (fun k => k = w.heap.size + 1 ∨ k = w.heap.size) w5 (w7.setRow w.heap.size V) := HM7.out.trans (mod_setRow w7 w.heap.size V) (fun _ e => .inl (.inr e))
  have hB8 : Below w.heap.size w (w7.setRow w.heap.size V) := hHeld.1.trans ((mod_setRow w7 w.heap.size V).below hHeld.1.size (fun x e => by omega))
  have hR8 : (w7.setRow w.heap.size V).rangeAt (w.heap.size + 1) 0 V.toList := fun j v hv => (mod_setRow w7 w.heap.size V).cell (hHeld.2 j v hv) (show ¬ (w.heap.size + 1 = w.heap.size) by omega)
  have hz8 : AtB (w7.setRow w.heap.size V) w.heap.size 41 V := at_setRow HZ7.out V
  generalize w7.setRow w.heap.size V = w8 at hm8 hB8 hR8 hz8 ⊢
  clear hHeld
  refine hK.out _ _ ⟨hB8, hR8⟩ (fun hHeld => ?_)
  clear hK K
  try simp only [Act.put, List.setIfInBounds_toArray]
  refine wpAnyH_ready (rs := [4]) (by kernel_rfl) (by simp) ?_
  refine AllReadyH.cons rfl (fun K hK => ?_) AllReadyH.nil
  go_simp
  refine hK.out _ _ hHeld (fun hHeld => ?_)
  clear hK K
  try simp only [Act.put, List.setIfInBounds_toArray, List.set_cons_zero, List.set_cons_succ]
  refine wpAnyH_done (by kernel_rfl) ?_ _
  have HBE := hid hB8
  have HZE := hid hz8
  have HME := hid hm8
  clear hHeld hB8 hR8 hz8 hm8 hrA
  go_wp2_with fail
  refine bodyPost_ret (results_ct rfl _ _ w.heap.size 41 V (0, 0) _ rfl HZE.out Tryd.underlying41 rfl (by rw [hVs]; exact rowInfo)) rfl ?_
  refine ⟨V.toList, by rw [Array.toArray_toList, HOK.out, HNN.out]; rfl, ?_, HBE.out⟩
  have hm9 : k25.M w8 w.heap.size (fun _ => True) y _ := up_mem HM.out (fun q hq e => by have := hq.2.1; have := HLE.out; omega) (by have := HLE.out; omega) HME.out
  obtain ⟨x2, e9, r2⟩ := k25_openM hm9
  cases e9
  have hfin := k41_mkM w8 w.heap.size (fun _ => True) (rowConsent y) r2 (Kd.R_nil _ _ _ _ _) (Kd.R_nil _ _ _ _ _) (Kd.R_nil _ _ _ _ _) (Kd.R_nil _ _ _ _ _) (Kd.R_nil _ _ _ _ _) (Kd.R_nil _ _ _ _ _) (Kd.R_nil _ _ _ _ _)
  have key : ∀ c c', c = c' → k41.M w8 w.heap.size (fun _ => True) (rowConsent y) c → k41.M w8 w.heap.size (fun _ => True) (rowConsent y) c' := fun _ _ e h => e ▸ h
  rw [← HVV.out, hy]
  exact key _ _ (by kernel_rfl) hfin
end Go.Proofs.YtcgjacffemjehaaDoor

namespace Go.Proofs.YtcgjacffemjehaaDoor
open Go.RowKit
open Go.Proofs.YtcgjacffemjehaaDoorW.PrintWords (Kd rdOf results_ct)
open Go.Proofs.YtcgjacffemjehaaDoor.PRowReads
set_option linter.unusedVariables false
set_option maxHeartbeats 8000000 in
set_option maxRecDepth 100000 in
theorem readCode (w : World) (hg : ErrorType w) (s : ByteArray) (hs : s.size ≤ 1099511627776) :
    Calls Tryd.prog 6 #[.int .i64 2, .string s] w (ReadPost (rowCode ((unR (codeR s.data.toList false)).getD z27)) (unR (codeR s.data.toList false)).isSome w) := by
  have kc := fun (w : World) => Lib.run_convert_string_bytes (P := Tryd.prog) w 9 49 5 s Tryd.underlying9 Tryd.underlying49 Tryd.underlying5
  have hb2 : Below w.heap.size w ((w.alloc (.cells rowZ 41)).alloc (.cells (rowK 2) 41)) := ((Below.refl w.heap.size w).alloc (Nat.le_refl _) _).alloc (by simp) _
  have hs2 : ((w.alloc (.cells rowZ 41)).alloc (.cells (rowK 2) 41)).heap.size = w.heap.size + 1 + 1 := by simp
  have ha0 : AtB ((w.alloc (.cells rowZ 41)).alloc (.cells (rowK 2) 41)) w.heap.size 41 rowZ := (at_make rfl).alloc _
  have ha1 : AtB ((w.alloc (.cells rowZ 41)).alloc (.cells (rowK 2) 41)) (w.heap.size + 1) 41 (rowK 2) := at_make (by simp)
  obtain ⟨o, ho⟩ : ∃ o, unR (codeR s.data.toList false) = o := ⟨_, rfl⟩
  have hrw := reads_world ((w.alloc (.cells rowZ 41)).alloc (.cells (rowK 2) 41)) 5 s
  rw [str_len, hs2] at hrw
  have hb3 := below_bytes ((w.alloc (.cells rowZ 41)).alloc (.cells (rowK 2) 41)) 5 s
  have hc := toCode_any _ _ _ hrw (by rw [str_len]; exact hs)
  rw [ho] at hc ⊢
  have HC := hid hc
  have HB3 := hid (below_then hb2 hb3)
  have HA0 := hid ((hb3.block _ (lt_of_heap ha0)).trans ha0 : AtB _ w.heap.size 41 rowZ)
  have HA1 := hid ((hb3.block _ (lt_of_heap ha1)).trans ha1 : AtB _ (w.heap.size + 1) 41 (rowK 2))
  have HG := hid hg
  have HGL := hid hg.lt
  clear hb2 hs2 ha0 ha1 hrw hb3 hc hg ho
  go_enter Tryd.func6, Tryd.ntmps6
  go_wp2_with (first | (refine wpList_allocTo rfl (some 4) rfl _ _ (run_allocRow _ _ rfl _) ?_) | (refine wpList_allocTo rfl (some 6) rfl _ _ (run_allocRow _ _ rfl _) ?_) | (refine wpList_buildTo rfl 41 _ rfl (some 10) rfl (rowK 2) (by kernel_rfl) ?_) | (refine wpList_store_new rfl 41 (.tmp 6) (.tmp 10) rfl rfl (w.alloc (.cells rowZ 41)) 41 rowZ (rowK 2) rfl (by simp only [World.size_alloc]; rfl) rfl (by kernel_rfl) (by kernel_rfl) (by kernel_rfl) ?_))
  go_at_call 14
  refine HC.out.mono ?_
  clear HC
  intro e w5 hq
  obtain ⟨cs3, rfl, hM, hb⟩ := hq
  obtain ⟨y, hy⟩ : ∃ y, o.getD z27 = y := ⟨_, rfl⟩
  rw [hy] at hM ⊢
  obtain ⟨v4, rfl, g4⟩ := k27_openM hM
  obtain ⟨A4, m4, c4, rfl⟩ := r_form g4
  have HM := hid (k27.M_bound hM)
  obtain ⟨oks, hoks⟩ : ∃ b, o.isSome = b := ⟨_, rfl⟩
  obtain ⟨nn, hnn⟩ : ∃ n : Int, (if oks = true then 0 else 170) = n := ⟨_, rfl⟩
  have HNN := hid hnn
  have HOK := hid hoks
  rw [hoks]
  obtain ⟨ev, hev⟩ : ∃ ev, errV oks = ev := ⟨_, rfl⟩
  rw [hev]
  have HEV := hid hev
  have hle : w.heap.size + 1 + 1 ≤ (Lib.bytesWorld ((w.alloc (.cells rowZ 41)).alloc (.cells (rowK 2) 41)) 5 s).heap.size := by have := HB3.out.size; rw [Lib.bytesWorld_size]; simp
  have HLE := hid hle
  have HA0' := hid ((hb.block _ (lt_of_heap HA0.out)).trans HA0.out : AtB w5 w.heap.size 41 rowZ)
  have hA1 : AtB w5 (w.heap.size + 1) 41 (rowK 2) := (hb.block _ (lt_of_heap HA1.out)).trans HA1.out
  have HB5 := hid (below_then HB3.out hb)
  have HG5 := hid (HG.out.below HB5.out HG.out.lt)
  have hc4 : ∃ u, w5.cell? ⟨w.heap.size + 1, 4, none⟩ = some u := ⟨_, (hA1.cell 4).trans rfl⟩
  obtain ⟨u4, hu4⟩ := hc4
  have hf4 := hA1.free 4
  have hc5 : ∃ u, w5.cell? ⟨w.heap.size + 1, 5, none⟩ = some u := ⟨_, (hA1.cell 5).trans rfl⟩
  obtain ⟨u5, hu5⟩ := hc5
  have hf5 := hA1.free 5
  have hc6 : ∃ u, w5.cell? ⟨w.heap.size + 1, 6, none⟩ = some u := ⟨_, (hA1.cell 6).trans rfl⟩
  obtain ⟨u6, hu6⟩ := hc6
  have hf6 := hA1.free 6
  have hc7 : ∃ u, w5.cell? ⟨w.heap.size + 1, 7, none⟩ = some u := ⟨_, (hA1.cell 7).trans rfl⟩
  obtain ⟨u7, hu7⟩ := hc7
  have hf7 := hA1.free 7
  have hc8 : ∃ u, w5.cell? ⟨w.heap.size + 1, 8, none⟩ = some u := ⟨_, (hA1.cell 8).trans rfl⟩
  obtain ⟨u8, hu8⟩ := hc8
  have hf8 := hA1.free 8
  have hc9 : ∃ u, w5.cell? ⟨w.heap.size + 1, 9, none⟩ = some u := ⟨_, (hA1.cell 9).trans rfl⟩
  obtain ⟨u9, hu9⟩ := hc9
  have hf9 := hA1.free 9
  have hc10 : ∃ u, w5.cell? ⟨w.heap.size + 1, 10, none⟩ = some u := ⟨_, (hA1.cell 10).trans rfl⟩
  obtain ⟨u10, hu10⟩ := hc10
  have hf10 := hA1.free 10
  have hc11 : ∃ u, w5.cell? ⟨w.heap.size + 1, 11, none⟩ = some u := ⟨_, (hA1.cell 11).trans rfl⟩
  obtain ⟨u11, hu11⟩ := hc11
  have hf11 := hA1.free 11
  have hc12 : ∃ u, w5.cell? ⟨w.heap.size + 1, 12, none⟩ = some u := ⟨_, (hA1.cell 12).trans rfl⟩
  obtain ⟨u12, hu12⟩ := hc12
  have hf12 := hA1.free 12
  have HA1' := hid hA1
  clear hb hM hev hoks hnn hA1 HA0 HA1 HB3 HG hle g4
  go_wp2_with fail
  have q : AtB (((((((((w5.setCell ⟨w.heap.size + 1, 4, none⟩ (.string y.f0)).setCell ⟨w.heap.size + 1, 5, none⟩ (.string y.f1)).setCell ⟨w.heap.size + 1, 6, none⟩ (.string y.f2)).setCell ⟨w.heap.size + 1, 7, none⟩ (.string y.f3)).setCell ⟨w.heap.size + 1, 8, none⟩ (.slice A4 m4 c4)).setCell ⟨w.heap.size + 1, 9, none⟩ (.string y.f5)).setCell ⟨w.heap.size + 1, 10, none⟩ (.bool y.f6)).setCell ⟨w.heap.size + 1, 11, none⟩ (.bool y.f7)).setCell ⟨w.heap.size + 1, 12, none⟩ (.int .i64 y.f8)) (w.heap.size + 1) 41 ((((((((((rowK 2).setIfInBounds 4 (.string y.f0)).setIfInBounds 5 (.string y.f1)).setIfInBounds 6 (.string y.f2)).setIfInBounds 7 (.string y.f3)).setIfInBounds 8 (.slice A4 m4 c4)).setIfInBounds 9 (.string y.f5)).setIfInBounds 10 (.bool y.f6)).setIfInBounds 11 (.bool y.f7)).setIfInBounds 12 (.int .i64 y.f8)) := ((((((((((HA1'.out).set 4 (.string y.f0)).set 5 (.string y.f1)).set 6 (.string y.f2)).set 7 (.string y.f3)).set 8 (.slice A4 m4 c4)).set 9 (.string y.f5)).set 10 (.bool y.f6)).set 11 (.bool y.f7)).set 12 (.int .i64 y.f8))
  have hmod : Mod (fun k => k = w.heap.size + 1) w5 (((((((((w5.setCell ⟨w.heap.size + 1, 4, none⟩ (.string y.f0)).setCell ⟨w.heap.size + 1, 5, none⟩ (.string y.f1)).setCell ⟨w.heap.size + 1, 6, none⟩ (.string y.f2)).setCell ⟨w.heap.size + 1, 7, none⟩ (.string y.f3)).setCell ⟨w.heap.size + 1, 8, none⟩ (.slice A4 m4 c4)).setCell ⟨w.heap.size + 1, 9, none⟩ (.string y.f5)).setCell ⟨w.heap.size + 1, 10, none⟩ (.bool y.f6)).setCell ⟨w.heap.size + 1, 11, none⟩ (.bool y.f7)).setCell ⟨w.heap.size + 1, 12, none⟩ (.int .i64 y.f8)) := (((((((((Mod.refl (fun k => k = w.heap.size + 1) w5).setCell ⟨w.heap.size + 1, 4, none⟩ (.string y.f0) (.inl rfl)).setCell ⟨w.heap.size + 1, 5, none⟩ (.string y.f1) (.inl rfl)).setCell ⟨w.heap.size + 1, 6, none⟩ (.string y.f2) (.inl rfl)).setCell ⟨w.heap.size + 1, 7, none⟩ (.string y.f3) (.inl rfl)).setCell ⟨w.heap.size + 1, 8, none⟩ (.slice A4 m4 c4) (.inl rfl)).setCell ⟨w.heap.size + 1, 9, none⟩ (.string y.f5) (.inl rfl)).setCell ⟨w.heap.size + 1, 10, none⟩ (.bool y.f6) (.inl rfl)).setCell ⟨w.heap.size + 1, 11, none⟩ (.bool y.f7) (.inl rfl)).setCell ⟨w.heap.size + 1, 12, none⟩ (.int .i64 y.f8) (.inl rfl)
  obtain ⟨W6, hW6⟩ : ∃ W, (((((((((w5.setCell ⟨w.heap.size + 1, 4, none⟩ (.string y.f0)).setCell ⟨w.heap.size + 1, 5, none⟩ (.string y.f1)).setCell ⟨w.heap.size + 1, 6, none⟩ (.string y.f2)).setCell ⟨w.heap.size + 1, 7, none⟩ (.string y.f3)).setCell ⟨w.heap.size + 1, 8, none⟩ (.slice A4 m4 c4)).setCell ⟨w.heap.size + 1, 9, none⟩ (.string y.f5)).setCell ⟨w.heap.size + 1, 10, none⟩ (.bool y.f6)).setCell ⟨w.heap.size + 1, 11, none⟩ (.bool y.f7)).setCell ⟨w.heap.size + 1, 12, none⟩ (.int .i64 y.f8)) = W := ⟨_, rfl⟩
  obtain ⟨V, hV⟩ : ∃ V, ((((((((((rowK 2).setIfInBounds 4 (.string y.f0)).setIfInBounds 5 (.string y.f1)).setIfInBounds 6 (.string y.f2)).setIfInBounds 7 (.string y.f3)).setIfInBounds 8 (.slice A4 m4 c4)).setIfInBounds 9 (.string y.f5)).setIfInBounds 10 (.bool y.f6)).setIfInBounds 11 (.bool y.f7)).setIfInBounds 12 (.int .i64 y.f8)) = V := ⟨_, rfl⟩
  rw [hW6] at q hmod ⊢
  rw [hV] at q
  have hVs : V.size = 46 := by rw [← hV]; simp only [Array.size_setIfInBounds]; exact rowK_size 2
  have HQ := hid q
  have HMO := hid hmod
  have HVV := hid hV
  have hg6 : ErrorType W6 := hmod.cell HG5.out (show ¬ (0 = w.heap.size + 1) by have := HGL.out; omega)
  have hb6 : Below w.heap.size w W6 := HB5.out.trans (hmod.below (by have := HB5.out.size; omega) (fun x e => by omega))
  have hz6 : AtB W6 w.heap.size 41 rowZ := hmod.heap HA0'.out (by omega)
  have HG6 := hid hg6
  have HZ6 := hid hz6
  have HB6 := hid hb6
  clear hg6 hz6 hb6 hmod hV hW6
  have LT : 0 < V.toList.length := by rw [Array.length_toList]; omega
  have hi : (Tryd.prog.info? 41).map (·.size) = some V.toList.length := by rw [Array.length_toList, hVs]; exact rowInfo
  have hrA : W6.drew.rangeAt (w.heap.size + 1) 0 V.toList := (World.rangeAt_drew _ _ _ _).2 (range_of_atB q)
  refine wp_region_held_drew (S := fun W => Below w.heap.size w W ∧ W.rangeAt (w.heap.size + 1) 0 V.toList) (by kernel_rfl) ⟨Below.drew HB6.out, hrA⟩ (fun hHeld => ?_)
  refine wpAnyH_take (i := 0) (v := _) rfl (by kernel_rfl) (by kernel_rfl) (by kernel_rfl) (fun _ _ _ h => h) (yieldsIf_load_mid (by rfl) _ _ rfl (w.heap.size + 1) 0 rfl V.toList _ (fun W hW => hW.2) Tryd.underlying41 rfl hi) hHeld ?_
  try simp only [Act.put, List.setIfInBounds_toArray, Array.toArray_toList]
  refine wpAnyH_take (i := 1) (v := ev) rfl (by kernel_rfl) (by kernel_rfl) (by kernel_rfl) (fun _ _ _ h => h) (Or.inl ⟨by rfl, fun W hW => by go_simp⟩) hHeld ?_
  try simp only [Act.put]
  refine wpAnyH_ready (rs := [2]) (by kernel_rfl) (by simp) ?_
  refine AllReadyH.cons rfl (fun K hK => ?_) AllReadyH.nil
  go_simp
  have hN : Calls Tryd.prog 20 #[ev] W6.drew fun e w' => e = .returned (.int .i64 nn) ∧ Below W6.drew.heap.size W6.drew w' := by rw [← HEV.out, ← HNN.out]; exact num_errV W6.drew HG6.out oks
  refine hN.mono ?_
  clear hN
  rintro e w7 ⟨rfl, hb7⟩
  have hB7 := hHeld.1.trans (hb7.mono hHeld.1.size)
  have hR7 := range_of_below hb7 hHeld.2 LT
  have hz7 : AtB w7 w.heap.size 41 rowZ := (hb7.block w.heap.size (lt_of_heap HZ6.out)).trans HZ6.out
  have hm7 : Mod (fun k => k = w.heap.size + 1 ∨ k = w.heap.size) w5 w7 := (HMO.out.mono (fun _ _ e => .inl e)).trans (Mod.new (show Below W6.heap.size W6 w7 from ⟨hb7.os, hb7.tape, hb7.output, hb7.size, hb7.block⟩) (fun _ => False)) (fun _ e => e.elim)
  have HM7 := hid hm7
  have HZ7 := hid hz7
  clear hHeld hm7 hz7 hb7
  refine hK.out _ _ ⟨hB7, hR7⟩ (fun hHeld => ?_)
  clear hK K hB7
  try simp only [Act.put, List.setIfInBounds_toArray, List.set_cons_zero, List.set_cons_succ]
  refine wpAnyH_ready (rs := [3]) (by kernel_rfl) (by simp) ?_
  refine AllReadyH.cons rfl (fun K hK => ?_) AllReadyH.nil
  rw [if_pos (by rfl)]
  refine wp_store_row 41 (.tmp 4) (.tmp 78) rfl w.heap.size V rfl rfl 41 rowZ HZ7.out (by rw [hVs]; exact rowInfo) (by rw [hVs]; rfl) (by rw [← HVV.out]; kernel_rfl) ?_
  have hm8 : Mod (fun k => k = w.heap.size + 1 ∨ k = w.heap.size) w5 (w7.setRow w.heap.size V) := HM7.out.trans (mod_setRow w7 w.heap.size V) (fun _ e => .inl (.inr e))
  have hB8 : Below w.heap.size w (w7.setRow w.heap.size V) := hHeld.1.trans ((mod_setRow w7 w.heap.size V).below hHeld.1.size (fun x e => by omega))
  have hR8 : (w7.setRow w.heap.size V).rangeAt (w.heap.size + 1) 0 V.toList := fun j v hv => (mod_setRow w7 w.heap.size V).cell (hHeld.2 j v hv) (show ¬ (w.heap.size + 1 = w.heap.size) by omega)
  have hz8 : AtB (w7.setRow w.heap.size V) w.heap.size 41 V := at_setRow HZ7.out V
  generalize w7.setRow w.heap.size V = w8 at hm8 hB8 hR8 hz8 ⊢
  clear hHeld
  refine hK.out _ _ ⟨hB8, hR8⟩ (fun hHeld => ?_)
  clear hK K
  try simp only [Act.put, List.setIfInBounds_toArray]
  refine wpAnyH_ready (rs := [4]) (by kernel_rfl) (by simp) ?_
  refine AllReadyH.cons rfl (fun K hK => ?_) AllReadyH.nil
  go_simp
  refine hK.out _ _ hHeld (fun hHeld => ?_)
  clear hK K
  try simp only [Act.put, List.setIfInBounds_toArray, List.set_cons_zero, List.set_cons_succ]
  refine wpAnyH_done (by kernel_rfl) ?_ _
  have HBE := hid hB8
  have HZE := hid hz8
  have HME := hid hm8
  clear hHeld hB8 hR8 hz8 hm8 hrA
  go_wp2_with fail
  refine bodyPost_ret (results_ct rfl _ _ w.heap.size 41 V (0, 0) _ rfl HZE.out Tryd.underlying41 rfl (by rw [hVs]; exact rowInfo)) rfl ?_
  refine ⟨V.toList, by rw [Array.toArray_toList, HOK.out, HNN.out]; rfl, ?_, HBE.out⟩
  have hm9 : k27.M w8 w.heap.size (fun _ => True) y _ := up_mem HM.out (fun q hq e => by have := hq.2.1; have := HLE.out; omega) (by have := HLE.out; omega) HME.out
  obtain ⟨x4, e9, r4⟩ := k27_openM hm9
  cases e9
  have hfin := k41_mkM w8 w.heap.size (fun _ => True) (rowCode y) (Kd.R_nil _ _ _ _ _) r4 (Kd.R_nil _ _ _ _ _) (Kd.R_nil _ _ _ _ _) (Kd.R_nil _ _ _ _ _) (Kd.R_nil _ _ _ _ _) (Kd.R_nil _ _ _ _ _) (Kd.R_nil _ _ _ _ _)
  have key : ∀ c c', c = c' → k41.M w8 w.heap.size (fun _ => True) (rowCode y) c → k41.M w8 w.heap.size (fun _ => True) (rowCode y) c' := fun _ _ e h => e ▸ h
  rw [← HVV.out, hy]
  exact key _ _ (by kernel_rfl) hfin
end Go.Proofs.YtcgjacffemjehaaDoor

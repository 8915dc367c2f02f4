-- PRINTED BY print.sh 35421559b90ae4d0a3588c463048766b98c2df88dd9212a6774a882060cdf62d: not written by this session
import Derived.Test.YtgdbjkkanjgbnaaDoorPUrlencParsesx0
import Derived.Test.YtgdbjkkanjgbnaaDoorPUrlencParsesx3
import Derived.Test.YtgdbjkkanjgbnaaDoorPUrlencParsesx4
import Derived.Test.YtgdbjkkanjgbnaaDoorPUrlencParsesx5
namespace Go.Proofs.YtgdbjkkanjgbnaaDoor.PUrlencParses
open Go.RowKit Go.Proofs.YtgdbjkkanjgbnaaDoorW.PrintWords Go.Proofs.YtgdbjkkanjgbnaaDoorW.PrintLast Go.Proofs.YtgdbjkkanjgbnaaDoorW.PrintMore
attribute [local go_sem] max2_int min2_int max_two min_two max_three min_three max_four min_four   -- for this text's walks alone
set_option linter.unusedVariables false
set_option linter.unusedSimpArgs false

/-! ### warrantref06_Parse: function 9 -/
mutual
def warrantref06_Parse.l0 : Nat → ByteArray → List (S45) → Int → Option ((List (S45)) × Int × Int)
  | 0, _, _, _ => none
  | k + 1, x0, x5, x6 => if x6 ≤ (x0.size : Int) then (warrantref06_Parse.l1 k x0 x5 x6 x6) else (some (x5, 0, (-1)))
def warrantref06_Parse.j2 : Nat → ByteArray → List (S45) → Int → Int → Option ((List (S45)) × Int × Int)
  | 0, _, _, _, _ => none
  | k + 1, x0, x5, x6, x7 => if x7 > x6 then (warrantref06_Parse.l2 k x0 x5 x6 x7 x6) else (warrantref06_Parse.l0 k x0 x5 (wrap64 (x7 + 1)))
def warrantref06_Parse.j4 : Nat → ByteArray → List (S45) → Int → Int → Int → Option ((List (S45)) × Int × Int)
  | 0, _, _, _, _, _ => none
  | k + 1, x0, x5, x6, x7, x8 => if 0 ≤ x6 then (if x6 ≤ x8 then (if x8 ≤ (x0.size : Int) then ((warrantref06_Unescape.f k (x0.extract (x6 : Int).toNat (x8 : Int).toNat)).bind fun bt142 => (if bt142.2 ≥ 0 then (some (([] : List (S45)), 60, wrap64 (x6 + bt142.2))) else (if x8 < x7 then (if 0 ≤ (wrap64 (x8 + 1)) then (if (wrap64 (x8 + 1)) ≤ x7 then (if x7 ≤ (x0.size : Int) then ((warrantref06_Unescape.f k (x0.extract ((wrap64 (x8 + 1)) : Int).toNat (x7 : Int).toNat)).bind fun bt144 => (if bt144.2 ≥ 0 then (some (([] : List (S45)), 60, wrap64 ((wrap64 (x8 + 1)) + bt144.2))) else (warrantref06_Parse.j5 k x0 x5 x6 x7 bt142.1 bt144.1))) else (none)) else (none)) else (none)) else (warrantref06_Parse.j5 k x0 x5 x6 x7 bt142.1 (⟨#[]⟩ : ByteArray))))) else (none)) else (none)) else (none)
def warrantref06_Parse.j5 : Nat → ByteArray → List (S45) → Int → Int → ByteArray → ByteArray → Option ((List (S45)) × Int × Int)
  | 0, _, _, _, _, _, _ => none
  | k + 1, x0, x5, x6, x7, x9, x11 => if x9.toList = ([] : List UInt8) then (warrantref06_Parse.j6 k x0 x5 x6 x7 x9 x11 true) else ((warrantref03_Bad.f k x9).bind fun t146 => (if t146 ≥ 0 then (warrantref06_Parse.j6 k x0 x5 x6 x7 x9 x11 true) else ((warrantref03_Bad.f k x11).bind fun t147 => (warrantref06_Parse.j6 k x0 x5 x6 x7 x9 x11 (decide (t147 ≥ 0))))))
def warrantref06_Parse.j6 : Nat → ByteArray → List (S45) → Int → Int → ByteArray → ByteArray → Bool → Option ((List (S45)) × Int × Int)
  | 0, _, _, _, _, _, _, _ => none
  | k + 1, x0, x5, x6, x7, x9, x11, x91 => if x91 = true then (some (([] : List (S45)), 60, x6)) else ((warrantref06_Get.f k x5 x9).bind fun bt148 => (if bt148.2 = true then (some (([] : List (S45)), 52, x6)) else (if (x5.length : Int) = 32 then (some (([] : List (S45)), 53, (-1))) else (if x5.length < 4398046511104 then (warrantref06_Parse.l0 k x0 (x5 ++ [(⟨x9, x11⟩ : S45)]) (wrap64 (x7 + 1))) else (none)))))
def warrantref06_Parse.l2 : Nat → ByteArray → List (S45) → Int → Int → Int → Option ((List (S45)) × Int × Int)
  | 0, _, _, _, _, _ => none
  | k + 1, x0, x5, x6, x7, x8 => if x8 < x7 then (if 0 ≤ x8 then (if x8 < (x0.size : Int) then (if (bt x0 x8) = 61 then (warrantref06_Parse.j4 k x0 x5 x6 x7 x8) else (warrantref06_Parse.l2 k x0 x5 x6 x7 (wrap64 (x8 + 1)))) else (none)) else (none)) else (warrantref06_Parse.j4 k x0 x5 x6 x7 x8)
def warrantref06_Parse.l1 : Nat → ByteArray → List (S45) → Int → Int → Option ((List (S45)) × Int × Int)
  | 0, _, _, _, _ => none
  | k + 1, x0, x5, x6, x7 => if x7 < (x0.size : Int) then (if 0 ≤ x7 then (if (bt x0 x7) = 38 then (warrantref06_Parse.j2 k x0 x5 x6 x7) else (warrantref06_Parse.l1 k x0 x5 x6 (wrap64 (x7 + 1)))) else (none)) else (warrantref06_Parse.j2 k x0 x5 x6 x7)
end
def warrantref06_Parse.f (k : Nat) (a0 : ByteArray) : Option ((List (S45)) × Int × Int) := if (a0.size : Int) > 4096 then (some (([] : List (S45)), 2, (-1))) else (warrantref06_Parse.l0 k a0 ([] : List (S45)) 0)
theorem warrantref06_Parse.mono_l : ∀ k, (∀ y0 y1 y2, LeO (warrantref06_Parse.l0 k y0 y1 y2) (warrantref06_Parse.l0 (k + 1) y0 y1 y2)) ∧ (∀ y0 y1 y2 y3, LeO (warrantref06_Parse.j2 k y0 y1 y2 y3) (warrantref06_Parse.j2 (k + 1) y0 y1 y2 y3)) ∧ (∀ y0 y1 y2 y3 y4, LeO (warrantref06_Parse.j4 k y0 y1 y2 y3 y4) (warrantref06_Parse.j4 (k + 1) y0 y1 y2 y3 y4)) ∧ (∀ y0 y1 y2 y3 y4 y5, LeO (warrantref06_Parse.j5 k y0 y1 y2 y3 y4 y5) (warrantref06_Parse.j5 (k + 1) y0 y1 y2 y3 y4 y5)) ∧ (∀ y0 y1 y2 y3 y4 y5 y6, LeO (warrantref06_Parse.j6 k y0 y1 y2 y3 y4 y5 y6) (warrantref06_Parse.j6 (k + 1) y0 y1 y2 y3 y4 y5 y6)) ∧ (∀ y0 y1 y2 y3 y4, LeO (warrantref06_Parse.l2 k y0 y1 y2 y3 y4) (warrantref06_Parse.l2 (k + 1) y0 y1 y2 y3 y4)) ∧ (∀ y0 y1 y2 y3, LeO (warrantref06_Parse.l1 k y0 y1 y2 y3) (warrantref06_Parse.l1 (k + 1) y0 y1 y2 y3))
  | 0 => ⟨fun _ _ _ r h => by simp [warrantref06_Parse.l0] at h, fun _ _ _ _ r h => by simp [warrantref06_Parse.j2] at h, fun _ _ _ _ _ r h => by simp [warrantref06_Parse.j4] at h, fun _ _ _ _ _ _ r h => by simp [warrantref06_Parse.j5] at h, fun _ _ _ _ _ _ _ r h => by simp [warrantref06_Parse.j6] at h, fun _ _ _ _ _ r h => by simp [warrantref06_Parse.l2] at h, fun _ _ _ _ r h => by simp [warrantref06_Parse.l1] at h⟩
  | k + 1 => by
    obtain ⟨ih0, ih1, ih2, ih3, ih4, ih5, ih6⟩ := warrantref06_Parse.mono_l k
    refine ⟨?_, ?_, ?_, ?_, ?_, ?_, ?_⟩
    · intro y0 y1 y2
      unfold warrantref06_Parse.l0
      repeat' first
      | (with_reducible exact ih0 _ _ _)
      | (with_reducible exact ih1 _ _ _ _)
      | (with_reducible exact ih2 _ _ _ _ _)
      | (with_reducible exact ih3 _ _ _ _ _ _)
      | (with_reducible exact ih4 _ _ _ _ _ _ _)
      | (with_reducible exact ih5 _ _ _ _ _)
      | (with_reducible exact ih6 _ _ _ _)
      | (with_reducible exact warrantref03_Bad.mono _ _)
      | (with_reducible exact warrantref06_Get.mono _ _ _)
      | (with_reducible exact warrantref06_Unescape.mono _ _)
      | (with_reducible exact LeO.refl _)
      | (with_reducible exact LeO.none _)
      | (with_reducible refine LeO.ite ?_ ?_)
      | (with_reducible refine LeO.bind ?_ (fun _ => ?_))
      | exact ih0 _ _ _
      | exact ih1 _ _ _ _
      | exact ih2 _ _ _ _ _
      | exact ih3 _ _ _ _ _ _
      | exact ih4 _ _ _ _ _ _ _
      | exact ih5 _ _ _ _ _
      | exact ih6 _ _ _ _
      | exact warrantref03_Bad.mono _ _
      | exact warrantref06_Get.mono _ _ _
      | exact warrantref06_Unescape.mono _ _
      | exact LeO.none _
      | refine LeO.ite ?_ ?_
      | refine LeO.bind ?_ (fun _ => ?_)
    · intro y0 y1 y2 y3
      unfold warrantref06_Parse.j2
      repeat' first
      | (with_reducible exact ih0 _ _ _)
      | (with_reducible exact ih1 _ _ _ _)
      | (with_reducible exact ih2 _ _ _ _ _)
      | (with_reducible exact ih3 _ _ _ _ _ _)
      | (with_reducible exact ih4 _ _ _ _ _ _ _)
      | (with_reducible exact ih5 _ _ _ _ _)
      | (with_reducible exact ih6 _ _ _ _)
      | (with_reducible exact warrantref03_Bad.mono _ _)
      | (with_reducible exact warrantref06_Get.mono _ _ _)
      | (with_reducible exact warrantref06_Unescape.mono _ _)
      | (with_reducible exact LeO.refl _)
      | (with_reducible exact LeO.none _)
      | (with_reducible refine LeO.ite ?_ ?_)
      | (with_reducible refine LeO.bind ?_ (fun _ => ?_))
      | exact ih0 _ _ _
      | exact ih1 _ _ _ _
      | exact ih2 _ _ _ _ _
      | exact ih3 _ _ _ _ _ _
      | exact ih4 _ _ _ _ _ _ _
      | exact ih5 _ _ _ _ _
      | exact ih6 _ _ _ _
      | exact warrantref03_Bad.mono _ _
      | exact warrantref06_Get.mono _ _ _
      | exact warrantref06_Unescape.mono _ _
      | exact LeO.none _
      | refine LeO.ite ?_ ?_
      | refine LeO.bind ?_ (fun _ => ?_)
    · intro y0 y1 y2 y3 y4
      unfold warrantref06_Parse.j4
      repeat' first
      | (with_reducible exact ih0 _ _ _)
      | (with_reducible exact ih1 _ _ _ _)
      | (with_reducible exact ih2 _ _ _ _ _)
      | (with_reducible exact ih3 _ _ _ _ _ _)
      | (with_reducible exact ih4 _ _ _ _ _ _ _)
      | (with_reducible exact ih5 _ _ _ _ _)
      | (with_reducible exact ih6 _ _ _ _)
      | (with_reducible exact warrantref03_Bad.mono _ _)
      | (with_reducible exact warrantref06_Get.mono _ _ _)
      | (with_reducible exact warrantref06_Unescape.mono _ _)
      | (with_reducible exact LeO.refl _)
      | (with_reducible exact LeO.none _)
      | (with_reducible refine LeO.ite ?_ ?_)
      | (with_reducible refine LeO.bind ?_ (fun _ => ?_))
      | exact ih0 _ _ _
      | exact ih1 _ _ _ _
      | exact ih2 _ _ _ _ _
      | exact ih3 _ _ _ _ _ _
      | exact ih4 _ _ _ _ _ _ _
      | exact ih5 _ _ _ _ _
      | exact ih6 _ _ _ _
      | exact warrantref03_Bad.mono _ _
      | exact warrantref06_Get.mono _ _ _
      | exact warrantref06_Unescape.mono _ _
      | exact LeO.none _
      | refine LeO.ite ?_ ?_
      | refine LeO.bind ?_ (fun _ => ?_)
    · intro y0 y1 y2 y3 y4 y5
      unfold warrantref06_Parse.j5
      repeat' first
      | (with_reducible exact ih0 _ _ _)
      | (with_reducible exact ih1 _ _ _ _)
      | (with_reducible exact ih2 _ _ _ _ _)
      | (with_reducible exact ih3 _ _ _ _ _ _)
      | (with_reducible exact ih4 _ _ _ _ _ _ _)
      | (with_reducible exact ih5 _ _ _ _ _)
      | (with_reducible exact ih6 _ _ _ _)
      | (with_reducible exact warrantref03_Bad.mono _ _)
      | (with_reducible exact warrantref06_Get.mono _ _ _)
      | (with_reducible exact warrantref06_Unescape.mono _ _)
      | (with_reducible exact LeO.refl _)
      | (with_reducible exact LeO.none _)
      | (with_reducible refine LeO.ite ?_ ?_)
      | (with_reducible refine LeO.bind ?_ (fun _ => ?_))
      | exact ih0 _ _ _
      | exact ih1 _ _ _ _
      | exact ih2 _ _ _ _ _
      | exact ih3 _ _ _ _ _ _
      | exact ih4 _ _ _ _ _ _ _
      | exact ih5 _ _ _ _ _
      | exact ih6 _ _ _ _
      | exact warrantref03_Bad.mono _ _
      | exact warrantref06_Get.mono _ _ _
      | exact warrantref06_Unescape.mono _ _
      | exact LeO.none _
      | refine LeO.ite ?_ ?_
      | refine LeO.bind ?_ (fun _ => ?_)
    · intro y0 y1 y2 y3 y4 y5 y6
      unfold warrantref06_Parse.j6
      repeat' first
      | (with_reducible exact ih0 _ _ _)
      | (with_reducible exact ih1 _ _ _ _)
      | (with_reducible exact ih2 _ _ _ _ _)
      | (with_reducible exact ih3 _ _ _ _ _ _)
      | (with_reducible exact ih4 _ _ _ _ _ _ _)
      | (with_reducible exact ih5 _ _ _ _ _)
      | (with_reducible exact ih6 _ _ _ _)
      | (with_reducible exact warrantref03_Bad.mono _ _)
      | (with_reducible exact warrantref06_Get.mono _ _ _)
      | (with_reducible exact warrantref06_Unescape.mono _ _)
      | (with_reducible exact LeO.refl _)
      | (with_reducible exact LeO.none _)
      | (with_reducible refine LeO.ite ?_ ?_)
      | (with_reducible refine LeO.bind ?_ (fun _ => ?_))
      | exact ih0 _ _ _
      | exact ih1 _ _ _ _
      | exact ih2 _ _ _ _ _
      | exact ih3 _ _ _ _ _ _
      | exact ih4 _ _ _ _ _ _ _
      | exact ih5 _ _ _ _ _
      | exact ih6 _ _ _ _
      | exact warrantref03_Bad.mono _ _
      | exact warrantref06_Get.mono _ _ _
      | exact warrantref06_Unescape.mono _ _
      | exact LeO.none _
      | refine LeO.ite ?_ ?_
      | refine LeO.bind ?_ (fun _ => ?_)
    · intro y0 y1 y2 y3 y4
      unfold warrantref06_Parse.l2
      repeat' first
      | (with_reducible exact ih0 _ _ _)
      | (with_reducible exact ih1 _ _ _ _)
      | (with_reducible exact ih2 _ _ _ _ _)
      | (with_reducible exact ih3 _ _ _ _ _ _)
      | (with_reducible exact ih4 _ _ _ _ _ _ _)
      | (with_reducible exact ih5 _ _ _ _ _)
      | (with_reducible exact ih6 _ _ _ _)
      | (with_reducible exact warrantref03_Bad.mono _ _)
      | (with_reducible exact warrantref06_Get.mono _ _ _)
      | (with_reducible exact warrantref06_Unescape.mono _ _)
      | (with_reducible exact LeO.refl _)
      | (with_reducible exact LeO.none _)
      | (with_reducible refine LeO.ite ?_ ?_)
      | (with_reducible refine LeO.bind ?_ (fun _ => ?_))
      | exact ih0 _ _ _
      | exact ih1 _ _ _ _
      | exact ih2 _ _ _ _ _
      | exact ih3 _ _ _ _ _ _
      | exact ih4 _ _ _ _ _ _ _
      | exact ih5 _ _ _ _ _
      | exact ih6 _ _ _ _
      | exact warrantref03_Bad.mono _ _
      | exact warrantref06_Get.mono _ _ _
      | exact warrantref06_Unescape.mono _ _
      | exact LeO.none _
      | refine LeO.ite ?_ ?_
      | refine LeO.bind ?_ (fun _ => ?_)
    · intro y0 y1 y2 y3
      unfold warrantref06_Parse.l1
      repeat' first
      | (with_reducible exact ih0 _ _ _)
      | (with_reducible exact ih1 _ _ _ _)
      | (with_reducible exact ih2 _ _ _ _ _)
      | (with_reducible exact ih3 _ _ _ _ _ _)
      | (with_reducible exact ih4 _ _ _ _ _ _ _)
      | (with_reducible exact ih5 _ _ _ _ _)
      | (with_reducible exact ih6 _ _ _ _)
      | (with_reducible exact warrantref03_Bad.mono _ _)
      | (with_reducible exact warrantref06_Get.mono _ _ _)
      | (with_reducible exact warrantref06_Unescape.mono _ _)
      | (with_reducible exact LeO.refl _)
      | (with_reducible exact LeO.none _)
      | (with_reducible refine LeO.ite ?_ ?_)
      | (with_reducible refine LeO.bind ?_ (fun _ => ?_))
      | exact ih0 _ _ _
      | exact ih1 _ _ _ _
      | exact ih2 _ _ _ _ _
      | exact ih3 _ _ _ _ _ _
      | exact ih4 _ _ _ _ _ _ _
      | exact ih5 _ _ _ _ _
      | exact ih6 _ _ _ _
      | exact warrantref03_Bad.mono _ _
      | exact warrantref06_Get.mono _ _ _
      | exact warrantref06_Unescape.mono _ _
      | exact LeO.none _
      | refine LeO.ite ?_ ?_
      | refine LeO.bind ?_ (fun _ => ?_)
theorem warrantref06_Parse.mono : ∀ a0 k, LeO (warrantref06_Parse.f k a0) (warrantref06_Parse.f (k + 1) a0) := by
  intro a0 k
  obtain ⟨ih0, ih1, ih2, ih3, ih4, ih5, ih6⟩ := warrantref06_Parse.mono_l k
  unfold warrantref06_Parse.f
  repeat' first
      | (with_reducible exact ih0 _ _ _)
      | (with_reducible exact ih1 _ _ _ _)
      | (with_reducible exact ih2 _ _ _ _ _)
      | (with_reducible exact ih3 _ _ _ _ _ _)
      | (with_reducible exact ih4 _ _ _ _ _ _ _)
      | (with_reducible exact ih5 _ _ _ _ _)
      | (with_reducible exact ih6 _ _ _ _)
      | (with_reducible exact warrantref03_Bad.mono _ _)
      | (with_reducible exact warrantref06_Get.mono _ _ _)
      | (with_reducible exact warrantref06_Unescape.mono _ _)
      | (with_reducible exact LeO.refl _)
      | (with_reducible exact LeO.none _)
      | (with_reducible refine LeO.ite ?_ ?_)
      | (with_reducible refine LeO.bind ?_ (fun _ => ?_))
      | exact ih0 _ _ _
      | exact ih1 _ _ _ _
      | exact ih2 _ _ _ _ _
      | exact ih3 _ _ _ _ _ _
      | exact ih4 _ _ _ _ _ _ _
      | exact ih5 _ _ _ _ _
      | exact ih6 _ _ _ _
      | exact warrantref03_Bad.mono _ _
      | exact warrantref06_Get.mono _ _ _
      | exact warrantref06_Unescape.mono _ _
      | exact LeO.none _
      | refine LeO.ite ?_ ?_
      | refine LeO.bind ?_ (fun _ => ?_)
set_option maxHeartbeats 8000000 in
set_option maxRecDepth 100000 in
theorem warrantref06_Parse.calls (k : Nat) (a0 : ByteArray) (r1 : List (S45)) (r2 : Int) (r3 : Int) (w : World) (h : warrantref06_Parse.f k a0 = some (r1, r2, r3)) :
    Calls Tryd.prog 9 #[.string a0] w fun e w' => ∃ v0_ : Value, e = .returned (.tuple #[v0_, .int .i64 r2, .int .i64 r3]) ∧ Kd.R k45 45 w' w.heap.size (fun _ => True) v0_ r1 ∧ Below w.heap.size w w' := by
  have hu45 := Tryd.underlying45
  have HB := Aside0.mk (Below.refl w.heap.size w)
  have H : (if (a0.size : Int) > 4096 then (some (([] : List (S45)), 2, (-1))) else (warrantref06_Parse.l0 k a0 ([] : List (S45)) 0)) = some (r1, r2, r3) := h
  clear h
  by_cases c2 : (a0.size : Int) > 4096
  · rw [if_pos c2] at H
    have c2b0 : decide (4096 < (a0.size : Int)) = true := decide_eq_true c2
    have c2b1 : decide (4096 < a0.size) = true := decide_eq_true (by omega)
    clear c2
    simp only [Option.some.injEq, Prod.mk.injEq] at H
    obtain ⟨rfl, rfl, rfl⟩ := H
    go_enter Tryd.func9, Tryd.ntmps9
    go_wp2
    go_ret3
    exact ⟨_, by first | rfl | (simp [errW_none, errW_some] <;> rfl) | (simp [*, errW_none, errW_some] <;> rfl), by first | exact Kd.R_nil _ _ _ _ _ | exact Kd.N_nil _ _ _ _ _ | exact Kd.V_nil _ _ _ _ _ | exact Kd.Q_nil _ _ _ _ _ | exact Kd.S_nil _ _ _ _ _, by repeat (first | (with_reducible first | exact HB.out | apply below_alloc | apply pw_below_drewN | apply below_drew1) | exact HB.out)⟩
  · rw [if_neg c2] at H
    have c2b0 : decide (4096 < (a0.size : Int)) = false := decide_eq_false c2
    have c2b1 : decide (4096 < a0.size) = false := decide_eq_false (by omega)
    clear c2
    have H' := Aside0.mk H
    clear H
    go_enter Tryd.func9, Tryd.ntmps9
    go_wp2
    go_loopg [5, 6] k (fun kq v5 v6 w' => ∃ (x5_1 : List (S45)) (x6_1 : Int), v6 = .int .i64 x6_1 ∧ Aside0 (warrantref06_Parse.l0 kq a0 x5_1 x6_1 = some (r1, r2, r3)) ∧ Aside0 (kq ≤ k) ∧ Aside0 (Kd.R k45 45 w' w.heap.size (fun _ => True) v5 x5_1) ∧ Aside0 (Below w.heap.size w w'))
    case atStart => exact ⟨(([] : List (S45))), (0), (by first | rfl | (simp; done) | (simp [*]; done)), H', ⟨Nat.le_refl _⟩, ⟨by first | exact Kd.R_nil _ _ _ _ _ | exact Kd.N_nil _ _ _ _ _ | exact Kd.V_nil _ _ _ _ _ | exact Kd.Q_nil _ _ _ _ _ | exact Kd.S_nil _ _ _ _ _⟩, ⟨by repeat (first | (with_reducible first | exact HB.out | apply below_alloc | apply pw_below_drewN | apply below_drew1) | exact HB.out)⟩⟩
    case round =>
      clear H'
      try clear c2
      try clear c2b0
      try clear c2b1
      try clear p2
      obtain ⟨x5_1, x6_1, rfl, HA, HK1, HO_5, HB⟩ := hrel
      cases gk with
      | zero => exact absurd HA.out (by simp [warrantref06_Parse.l0])
      | succ k1 =>
        have H := HA.out
        clear HA
        simp only [warrantref06_Parse.l0] at H
        by_cases c3 : x6_1 ≤ (a0.size : Int)
        · rw [if_pos c3] at H
          have c3b0 : decide (x6_1 ≤ (a0.size : Int)) = true := decide_eq_true c3
          clear c3
          have HC4 := Aside0.mk H
          clear H
          go_upto_block 2 with (fail)
          go_cut [7] (fun v7 wc => ∃ (kq : Nat) (x7_3 : Int), v7 = .int .i64 x7_3 ∧ Aside0 (warrantref06_Parse.j2 kq a0 x5_1 x6_1 x7_3 = some (r1, r2, r3)) ∧ Aside0 (kq ≤ k1) ∧ Aside0 (Kd.R k45 45 wc w.heap.size (fun _ => True) u5 x5_1) ∧ Aside0 (Below w.heap.size w wc))
          case first =>
            have H := HC4.out
            clear HC4
            have H' := Aside0.mk H
            clear H
            go_wp2
            go_loopg [7] k1 (fun kq v7 w' => ∃ (x7_2 : Int), v7 = .int .i64 x7_2 ∧ Aside0 (warrantref06_Parse.l1 kq a0 x5_1 x6_1 x7_2 = some (r1, r2, r3)) ∧ Aside0 (kq ≤ k1) ∧ Aside0 (Kd.R k45 45 w' w.heap.size (fun _ => True) u5 x5_1) ∧ Aside0 (Below w.heap.size w w'))
            case atStart => exact ⟨(x6_1), (by first | rfl | (simp; done) | (simp [*]; done)), H', ⟨Nat.le_refl _⟩, ⟨by (with_reducible repeat (first | apply Kd.R_alloc | apply Kd.R_drewN | apply Kd.R_drew)); exact HO_5.out⟩, ⟨by repeat (first | (with_reducible first | exact HB.out | apply below_alloc | apply pw_below_drewN | apply below_drew1) | exact HB.out)⟩⟩
            case round =>
              clear H'
              try clear c2
              try clear c2b0
              try clear c2b1
              try clear p2
              try clear c3
              try clear c3b0
              try clear p2
              obtain ⟨x7_2, rfl, HA, HK2, HO_5, HB⟩ := hrel
              cases gk with
              | zero => exact absurd HA.out (by simp [warrantref06_Parse.l1])
              | succ k2 =>
                have H := HA.out
                clear HA
                simp only [warrantref06_Parse.l1] at H
                by_cases c5 : x7_2 < (a0.size : Int)
                · rw [if_pos c5] at H
                  have c5b0 : decide (x7_2 < (a0.size : Int)) = true := decide_eq_true c5
                  clear c5
                  (first | rw [c5b0] | (simp only [i64_w, i32_w]; rw [c5b0]) | skip)
                  by_cases c6 : 0 ≤ x7_2
                  · rw [if_pos c6] at H
                    have c6b0 : decide (0 ≤ x7_2) = true := decide_eq_true c6
                    clear c6
                    by_cases c8 : (bt a0 x7_2) = 38
                    · rw [if_pos c8] at H
                      have c8b0 : ((bt a0 x7_2) == 38) = true := beq_iff_eq.mpr c8
                      have c8b1 : ((bt a0 x7_2) != 38) = false := bne_eq_false_iff_eq.mpr c8
                      clear c8
                      have H' := Aside0.mk H
                      clear H
                      have p7 : 0 ≤ (x7_2 : Int) := of_decide_eq_true (by first | (with_reducible assumption) | assumption)
                      have q7 : x7_2 < (a0.size : Int) := of_decide_eq_true (by first | (with_reducible assumption) | assumption)
                      have hx7 := bt_at a0 x7_2
                      replace p7 := eq_true p7
                      replace q7 := eq_true q7
                      go_wp2
                      go_meet
                      case rel => exact ⟨_, (x7_2), (by first | rfl | (simp; done) | (simp [*]; done)), H', ⟨by have := HK1.out; have := HK2.out; first | omega | exact Nat.le_refl _⟩, ⟨by (with_reducible repeat (first | apply Kd.R_alloc | apply Kd.R_drewN | apply Kd.R_drew)); exact HO_5.out⟩, ⟨by repeat (first | (with_reducible first | exact HB.out | apply below_alloc | apply pw_below_drewN | apply below_drew1) | exact HB.out)⟩⟩
                    · rw [if_neg c8] at H
                      have c8b0 : ((bt a0 x7_2) == 38) = false := beq_eq_false_iff_ne.mpr c8
                      have c8b1 : ((bt a0 x7_2) != 38) = true := bne_iff_ne.mpr c8
                      have H' := Aside0.mk H
                      clear H
                      have p7 : 0 ≤ (x7_2 : Int) := of_decide_eq_true (by first | (with_reducible assumption) | assumption)
                      have q7 : x7_2 < (a0.size : Int) := of_decide_eq_true (by first | (with_reducible assumption) | assumption)
                      have hx7 := bt_at a0 x7_2
                      replace p7 := eq_true p7
                      replace q7 := eq_true q7
                      go_wp2
                      go_roundg k2
                      case measure => have := HK1.out; have := HK2.out; omega
                      case rel => exact ⟨(wrap64 (x7_2 + 1)), (by first | rfl | (simp; done) | (simp [*]; done)), H', ⟨by have := HK1.out; have := HK2.out; omega⟩, ⟨by (with_reducible repeat (first | apply Kd.R_alloc | apply Kd.R_drewN | apply Kd.R_drew)); exact HO_5.out⟩, ⟨by repeat (first | (with_reducible first | exact HB.out | apply below_alloc | apply pw_below_drewN | apply below_drew1) | exact HB.out)⟩⟩
                  · rw [if_neg c6] at H
                    exact absurd H (by simp)
                · rw [if_neg c5] at H
                  have c5b0 : decide (x7_2 < (a0.size : Int)) = false := decide_eq_false c5
                  clear c5
                  (first | rw [c5b0] | (simp only [i64_w, i32_w]; rw [c5b0]) | skip)
                  have H' := Aside0.mk H
                  clear H
                  go_wp2
                  go_meet
                  case rel => exact ⟨_, (x7_2), (by first | rfl | (simp; done) | (simp [*]; done)), H', ⟨by have := HK1.out; have := HK2.out; first | omega | exact Nat.le_refl _⟩, ⟨by (with_reducible repeat (first | apply Kd.R_alloc | apply Kd.R_drewN | apply Kd.R_drew)); exact HO_5.out⟩, ⟨by repeat (first | (with_reducible first | exact HB.out | apply below_alloc | apply pw_below_drewN | apply below_drew1) | exact HB.out)⟩⟩
          case rest =>
            clear HC4
            try clear c2
            try clear c2b0
            try clear c2b1
            try clear p2
            try clear c3
            try clear c3b0
            try clear c5
            try clear c5b0
            try clear c6
            try clear c6b0
            try clear p6
            try clear p7
            try clear q7
            try clear hx7
            try clear c8
            try clear c8b0
            try clear c8b1
            try clear p2
            try clear p7
            try clear q7
            obtain ⟨kq, x7_3, rfl, HA, HJ3, HO_5, HB⟩ := hcut
            cases kq with
            | zero => exact absurd HA.out (by simp [warrantref06_Parse.j2])
            | succ kj3 =>
              have H := HA.out
              clear HA
              simp only [warrantref06_Parse.j2] at H
              by_cases c9 : x7_3 > x6_1
              · rw [if_pos c9] at H
                have c9b0 : decide (x6_1 < x7_3) = true := decide_eq_true c9
                clear c9
                have HC10 := Aside0.mk H
                clear H
                go_upto_block 4 with (fail)
                go_cut [8] (fun v8 wc => ∃ (kq : Nat) (x8_9 : Int), v8 = .int .i64 x8_9 ∧ Aside0 (warrantref06_Parse.j4 kq a0 x5_1 x6_1 x7_3 x8_9 = some (r1, r2, r3)) ∧ Aside0 (kq ≤ kj3) ∧ Aside0 (Kd.R k45 45 wc w.heap.size (fun _ => True) u5 x5_1) ∧ Aside0 (Below w.heap.size w wc))
                case first =>
                  have H := HC10.out
                  clear HC10
                  have H' := Aside0.mk H
                  clear H
                  go_wp2
                  go_loopg [8] kj3 (fun kq v8 w' => ∃ (x8_3 : Int), v8 = .int .i64 x8_3 ∧ Aside0 (warrantref06_Parse.l2 kq a0 x5_1 x6_1 x7_3 x8_3 = some (r1, r2, r3)) ∧ Aside0 (kq ≤ kj3) ∧ Aside0 (Kd.R k45 45 w' w.heap.size (fun _ => True) u5 x5_1) ∧ Aside0 (Below w.heap.size w w'))
                  case atStart => exact ⟨(x6_1), (by first | rfl | (simp; done) | (simp [*]; done)), H', ⟨Nat.le_refl _⟩, ⟨by (with_reducible repeat (first | apply Kd.R_alloc | apply Kd.R_drewN | apply Kd.R_drew)); exact HO_5.out⟩, ⟨by repeat (first | (with_reducible first | exact HB.out | apply below_alloc | apply pw_below_drewN | apply below_drew1) | exact HB.out)⟩⟩
                  case round =>
                    clear H'
                    try clear c2
                    try clear c2b0
                    try clear c2b1
                    try clear p2
                    try clear c3
                    try clear c3b0
                    try clear c5
                    try clear c5b0
                    try clear c6
                    try clear c6b0
                    try clear p6
                    try clear p7
                    try clear q7
                    try clear hx7
                    try clear c8
                    try clear c8b0
                    try clear c8b1
                    try clear c9
                    try clear c9b0
                    try clear p2
                    try clear p6
                    try clear p7
                    try clear q7
                    obtain ⟨x8_3, rfl, HA, HK3, HO_5, HB⟩ := hrel
                    cases gk with
                    | zero => exact absurd HA.out (by simp [warrantref06_Parse.l2])
                    | succ k3 =>
                      have H := HA.out
                      clear HA
                      simp only [warrantref06_Parse.l2] at H
                      by_cases c11 : x8_3 < x7_3
                      · rw [if_pos c11] at H
                        have c11b0 : decide (x8_3 < x7_3) = true := decide_eq_true c11
                        clear c11
                        (first | rw [c11b0] | (simp only [i64_w, i32_w]; rw [c11b0]) | skip)
                        by_cases c12 : 0 ≤ x8_3
                        · rw [if_pos c12] at H
                          have c12b0 : decide (0 ≤ x8_3) = true := decide_eq_true c12
                          clear c12
                          by_cases c13 : x8_3 < (a0.size : Int)
                          · rw [if_pos c13] at H
                            have c13b0 : decide (x8_3 < (a0.size : Int)) = true := decide_eq_true c13
                            clear c13
                            by_cases c15 : (bt a0 x8_3) = 61
                            · rw [if_pos c15] at H
                              have c15b0 : ((bt a0 x8_3) == 61) = true := beq_iff_eq.mpr c15
                              have c15b1 : ((bt a0 x8_3) != 61) = false := bne_eq_false_iff_eq.mpr c15
                              clear c15
                              have H' := Aside0.mk H
                              clear H
                              have p14 : 0 ≤ (x8_3 : Int) := of_decide_eq_true (by first | (with_reducible assumption) | assumption)
                              have q14 : x8_3 < (a0.size : Int) := of_decide_eq_true (by first | (with_reducible assumption) | assumption)
                              have hx14 := bt_at a0 x8_3
                              replace p14 := eq_true p14
                              replace q14 := eq_true q14
                              go_wp2
                              go_meet
                              case rel => exact ⟨_, (x8_3), (by first | rfl | (simp; done) | (simp [*]; done)), H', ⟨by have := HK1.out; have := HJ3.out; have := HK3.out; first | omega | exact Nat.le_refl _⟩, ⟨by (with_reducible repeat (first | apply Kd.R_alloc | apply Kd.R_drewN | apply Kd.R_drew)); exact HO_5.out⟩, ⟨by repeat (first | (with_reducible first | exact HB.out | apply below_alloc | apply pw_below_drewN | apply below_drew1) | exact HB.out)⟩⟩
                            · rw [if_neg c15] at H
                              have c15b0 : ((bt a0 x8_3) == 61) = false := beq_eq_false_iff_ne.mpr c15
                              have c15b1 : ((bt a0 x8_3) != 61) = true := bne_iff_ne.mpr c15
                              have H' := Aside0.mk H
                              clear H
                              have p14 : 0 ≤ (x8_3 : Int) := of_decide_eq_true (by first | (with_reducible assumption) | assumption)
                              have q14 : x8_3 < (a0.size : Int) := of_decide_eq_true (by first | (with_reducible assumption) | assumption)
                              have hx14 := bt_at a0 x8_3
                              replace p14 := eq_true p14
                              replace q14 := eq_true q14
                              go_wp2
                              go_roundg k3
                              case measure => have := HK1.out; have := HJ3.out; have := HK3.out; omega
                              case rel => exact ⟨(wrap64 (x8_3 + 1)), (by first | rfl | (simp; done) | (simp [*]; done)), H', ⟨by have := HK1.out; have := HJ3.out; have := HK3.out; omega⟩, ⟨by (with_reducible repeat (first | apply Kd.R_alloc | apply Kd.R_drewN | apply Kd.R_drew)); exact HO_5.out⟩, ⟨by repeat (first | (with_reducible first | exact HB.out | apply below_alloc | apply pw_below_drewN | apply below_drew1) | exact HB.out)⟩⟩
                          · rw [if_neg c13] at H
                            exact absurd H (by simp)
                        · rw [if_neg c12] at H
                          exact absurd H (by simp)
                      · rw [if_neg c11] at H
                        have c11b0 : decide (x8_3 < x7_3) = false := decide_eq_false c11
                        clear c11
                        (first | rw [c11b0] | (simp only [i64_w, i32_w]; rw [c11b0]) | skip)
                        have H' := Aside0.mk H
                        clear H
                        go_wp2
                        go_meet
                        case rel => exact ⟨_, (x8_3), (by first | rfl | (simp; done) | (simp [*]; done)), H', ⟨by have := HK1.out; have := HJ3.out; have := HK3.out; first | omega | exact Nat.le_refl _⟩, ⟨by (with_reducible repeat (first | apply Kd.R_alloc | apply Kd.R_drewN | apply Kd.R_drew)); exact HO_5.out⟩, ⟨by repeat (first | (with_reducible first | exact HB.out | apply below_alloc | apply pw_below_drewN | apply below_drew1) | exact HB.out)⟩⟩
                case rest =>
                  clear HC10
                  try clear c1
                  try clear p1
                  try clear q1
                  try clear hx1
                  try clear c2
                  try clear c2b0
                  try clear c2b1
                  try clear p2
                  try clear c3
                  try clear c3b0
                  try clear c5
                  try clear c5b0
                  try clear c6
                  try clear c6b0
                  try clear p6
                  try clear p7
                  try clear q7
                  try clear hx7
                  try clear c8
                  try clear c8b0
                  try clear c8b1
                  try clear c9
                  try clear c9b0
                  try clear c11
                  try clear c11b0
                  try clear c12
                  try clear c12b0
                  try clear c13
                  try clear c13b0
                  try clear p14
                  try clear q14
                  try clear hx14
                  try clear c15
                  try clear c15b0
                  try clear c15b1
                  try clear p14
                  try clear p2
                  try clear p6
                  try clear p7
                  try clear q14
                  try clear q7
                  obtain ⟨kq, x8_9, rfl, HA, HJ9, HO_5, HB⟩ := hcut
                  cases kq with
                  | zero => exact absurd HA.out (by simp [warrantref06_Parse.j4])
                  | succ kj9 =>
                    have H := HA.out
                    clear HA
                    simp only [warrantref06_Parse.j4] at H
                    by_cases c16 : 0 ≤ x6_1
                    · rw [if_pos c16] at H
                      have c16b0 := eq_true c16
                      have c16b1 : decide (0 ≤ x6_1) = true := decide_eq_true c16
                      clear c16
                      by_cases c17 : x6_1 ≤ x8_9
                      · rw [if_pos c17] at H
                        have c17b0 := eq_true c17
                        have c17b1 : decide (x6_1 ≤ x8_9) = true := decide_eq_true c17
                        clear c17
                        by_cases c18 : x8_9 ≤ (a0.size : Int)
                        · rw [if_pos c18] at H
                          have c18b0 := eq_true c18
                          have c18b1 : decide (x8_9 ≤ (a0.size : Int)) = true := decide_eq_true c18
                          clear c18
                          replace H := Option.bind_eq_some_iff.mp H
                          obtain ⟨⟨t142, t143⟩, A190, H⟩ := H
                          replace H : (if t143 ≥ 0 then (some (([] : List (S45)), 60, wrap64 (x6_1 + t143))) else (if x8_9 < x7_3 then (if 0 ≤ (wrap64 (x8_9 + 1)) then (if (wrap64 (x8_9 + 1)) ≤ x7_3 then (if x7_3 ≤ (a0.size : Int) then ((warrantref06_Unescape.f kj9 (a0.extract ((wrap64 (x8_9 + 1)) : Int).toNat (x7_3 : Int).toNat)).bind fun bt144 => (if bt144.2 ≥ 0 then (some (([] : List (S45)), 60, wrap64 ((wrap64 (x8_9 + 1)) + bt144.2))) else (warrantref06_Parse.j5 kj9 a0 x5_1 x6_1 x7_3 t142 bt144.1))) else (none)) else (none)) else (none)) else (warrantref06_Parse.j5 kj9 a0 x5_1 x6_1 x7_3 t142 (⟨#[]⟩ : ByteArray)))) = some (r1, r2, r3) := H
                          have A19 := Aside0.mk A190
                          clear A190
                          by_cases c20 : t143 ≥ 0
                          · rw [if_pos c20] at H
                            have c20b0 : decide (0 ≤ t143) = true := decide_eq_true c20
                            clear c20
                            simp only [Option.some.injEq, Prod.mk.injEq] at H
                            obtain ⟨rfl, rfl, rfl⟩ := H
                            go_wp2_with (first | ((with_reducible refine gate_callee (f := 19) rfl ?_); refine goesL_ (some 54) rfl rfl Tryd.func19 (by kernel_rfl) rfl #[.string (a0.extract (x6_1 : Int).toNat (x8_9 : Int).toNat)] rfl (by (try simp only [List.map_toArray, List.map_cons, List.map_nil]); first | done | rfl | (simp only [List.length_drop, List.length_take]; rfl)) ?_; (with_reducible refine (warrantref06_Unescape.calls kj9 (a0.extract (x6_1 : Int).toNat (x8_9 : Int).toNat) t142 t143 _ A19.out).mono ?_); rintro e w21 ⟨rfl, hb⟩; refine ⟨_, rfl, ?_⟩; have n0_ := Aside0.mk (Kd.R_below (by (with_reducible repeat (first | apply Kd.R_alloc | apply Kd.R_drewN | apply Kd.R_drew)); exact HO_5.out) hb); have n1_ := Aside0.mk (below_step (by repeat (first | (with_reducible first | exact HB.out | apply below_alloc | apply pw_below_drewN | apply below_drew1) | exact HB.out)) hb); clear HO_5; clear HB; have HO_5 := n0_; have HB := n1_; clear n0_ n1_; (try clear hb); (try clear hb2); (try clear hk); (try clear hi)))
                            go_ret3
                            exact ⟨_, by first | rfl | (simp [errW_none, errW_some] <;> rfl) | (simp [*, errW_none, errW_some] <;> rfl), by first | exact Kd.R_nil _ _ _ _ _ | exact Kd.N_nil _ _ _ _ _ | exact Kd.V_nil _ _ _ _ _ | exact Kd.Q_nil _ _ _ _ _ | exact Kd.S_nil _ _ _ _ _, by repeat (first | (with_reducible first | exact HB.out | apply below_alloc | apply pw_below_drewN | apply below_drew1) | exact HB.out)⟩
                          · rw [if_neg c20] at H
                            have c20b0 : decide (0 ≤ t143) = false := decide_eq_false c20
                            clear c20
                            have HC22 := Aside0.mk H
                            clear H
                            go_upto_if 64 with (first | ((with_reducible refine gate_callee (f := 19) rfl ?_); refine goesL_ (some 54) rfl rfl Tryd.func19 (by kernel_rfl) rfl #[.string (a0.extract (x6_1 : Int).toNat (x8_9 : Int).toNat)] rfl (by (try simp only [List.map_toArray, List.map_cons, List.map_nil]); first | done | rfl | (simp only [List.length_drop, List.length_take]; rfl)) ?_; (with_reducible refine (warrantref06_Unescape.calls kj9 (a0.extract (x6_1 : Int).toNat (x8_9 : Int).toNat) t142 t143 _ A19.out).mono ?_); rintro e w23 ⟨rfl, hb⟩; refine ⟨_, rfl, ?_⟩; have n0_ := Aside0.mk (Kd.R_below (by (with_reducible repeat (first | apply Kd.R_alloc | apply Kd.R_drewN | apply Kd.R_drew)); exact HO_5.out) hb); have n1_ := Aside0.mk (below_step (by repeat (first | (with_reducible first | exact HB.out | apply below_alloc | apply pw_below_drewN | apply below_drew1) | exact HB.out)) hb); clear HO_5; clear HB; have HO_5 := n0_; have HB := n1_; clear n0_ n1_; (try clear hb); (try clear hb2); (try clear hk); (try clear hi)))
                            (try simp only [Act.put, List.setIfInBounds_toArray, List.set_cons_zero, List.set_cons_succ])
                            go_cut [11] (fun v11 wc => ∃ (kq : Nat) (x11_21 : ByteArray), v11 = .string x11_21 ∧ Aside0 (warrantref06_Parse.j5 kq a0 x5_1 x6_1 x7_3 t142 x11_21 = some (r1, r2, r3)) ∧ Aside0 (kq ≤ kj9) ∧ Aside0 (Kd.R k45 45 wc w.heap.size (fun _ => True) u5 x5_1) ∧ Aside0 (Below w.heap.size w wc))
                            case first =>
                              have H := HC22.out
                              clear HC22
                              by_cases c24 : x8_9 < x7_3
                              · rw [if_pos c24] at H
                                have c24b0 : decide (x8_9 < x7_3) = true := decide_eq_true c24
                                clear c24
                                (first | rw [c24b0] | (simp only [i64_w, i32_w]; rw [c24b0]) | skip)
                                obtain ⟨ji25, hji25⟩ : ∃ j_ : Int, (wrap64 (x8_9 + 1)) = j_ := ⟨_, rfl⟩
                                replace H : (if 0 ≤ (ji25) then (if (ji25) ≤ x7_3 then (if x7_3 ≤ (a0.size : Int) then ((warrantref06_Unescape.f kj9 (a0.extract ((ji25) : Int).toNat (x7_3 : Int).toNat)).bind fun bt144 => (if bt144.2 ≥ 0 then (some (([] : List (S45)), 60, wrap64 ((ji25) + bt144.2))) else (warrantref06_Parse.j5 kj9 a0 x5_1 x6_1 x7_3 t142 bt144.1))) else (none)) else (none)) else (none)) = some (r1, r2, r3) := by first | (rw [hji25] at H; exact H) | (simp only [hji25] at H ⊢; exact H)
                                have hji25w : (IntKind.i64.wrap (x8_9 + 1)) = ji25 := (i64_w _).trans hji25
                                by_cases c26 : 0 ≤ (ji25)
                                · rw [if_pos c26] at H
                                  have c26b0 := eq_true c26
                                  have c26b1 : decide (0 ≤ (ji25)) = true := decide_eq_true c26
                                  clear c26
                                  by_cases c27 : (ji25) ≤ x7_3
                                  · rw [if_pos c27] at H
                                    have c27b0 := eq_true c27
                                    have c27b1 : decide ((ji25) ≤ x7_3) = true := decide_eq_true c27
                                    clear c27
                                    by_cases c28 : x7_3 ≤ (a0.size : Int)
                                    · rw [if_pos c28] at H
                                      have c28b0 := eq_true c28
                                      have c28b1 : decide (x7_3 ≤ (a0.size : Int)) = true := decide_eq_true c28
                                      clear c28
                                      replace H := Option.bind_eq_some_iff.mp H
                                      obtain ⟨⟨t144, t145⟩, A290, H⟩ := H
                                      replace H : (if t145 ≥ 0 then (some (([] : List (S45)), 60, wrap64 ((ji25) + t145))) else (warrantref06_Parse.j5 kj9 a0 x5_1 x6_1 x7_3 t142 t144)) = some (r1, r2, r3) := H
                                      have A29 := Aside0.mk A290
                                      clear A290
                                      by_cases c30 : t145 ≥ 0
                                      · rw [if_pos c30] at H
                                        have c30b0 : decide (0 ≤ t145) = true := decide_eq_true c30
                                        clear c30
                                        simp only [Option.some.injEq, Prod.mk.injEq] at H
                                        obtain ⟨rfl, rfl, rfl⟩ := H
                                        go_wp2_with (first | ((with_reducible refine gate_callee (f := 19) rfl ?_); refine goesL_ (some 71) rfl rfl Tryd.func19 (by kernel_rfl) rfl #[.string (a0.extract ((ji25) : Int).toNat (x7_3 : Int).toNat)] rfl (by (try simp only [List.map_toArray, List.map_cons, List.map_nil]); first | done | (simp only [hji25]; rfl) | rfl | (simp only [List.length_drop, List.length_take]; rfl)) ?_; (with_reducible refine (warrantref06_Unescape.calls kj9 (a0.extract ((ji25) : Int).toNat (x7_3 : Int).toNat) t144 t145 _ A29.out).mono ?_); rintro e w31 ⟨rfl, hb⟩; refine ⟨_, rfl, ?_⟩; have n0_ := Aside0.mk (Kd.R_below (by (with_reducible repeat (first | apply Kd.R_alloc | apply Kd.R_drewN | apply Kd.R_drew)); exact HO_5.out) hb); have n1_ := Aside0.mk (below_step (by repeat (first | (with_reducible first | exact HB.out | apply below_alloc | apply pw_below_drewN | apply below_drew1) | exact HB.out)) hb); clear HO_5; clear HB; have HO_5 := n0_; have HB := n1_; clear n0_ n1_; (try clear hb); (try clear hb2); (try clear hk); (try clear hi)))
                                        go_ret3
                                        exact ⟨_, by first | rfl | (simp [errW_none, errW_some] <;> rfl) | (simp only [← hji25]; first | rfl | (simp [errW_none, errW_some] <;> rfl)) | (simp [*, errW_none, errW_some] <;> rfl), by first | exact Kd.R_nil _ _ _ _ _ | exact Kd.N_nil _ _ _ _ _ | exact Kd.V_nil _ _ _ _ _ | exact Kd.Q_nil _ _ _ _ _ | exact Kd.S_nil _ _ _ _ _, by repeat (first | (with_reducible first | exact HB.out | apply below_alloc | apply pw_below_drewN | apply below_drew1) | exact HB.out)⟩
                                      · rw [if_neg c30] at H
                                        have c30b0 : decide (0 ≤ t145) = false := decide_eq_false c30
                                        clear c30
                                        have H' := Aside0.mk H
                                        clear H
                                        go_wp2_with (first | ((with_reducible refine gate_callee (f := 19) rfl ?_); refine goesL_ (some 71) rfl rfl Tryd.func19 (by kernel_rfl) rfl #[.string (a0.extract ((ji25) : Int).toNat (x7_3 : Int).toNat)] rfl (by (try simp only [List.map_toArray, List.map_cons, List.map_nil]); first | done | (simp only [hji25]; rfl) | rfl | (simp only [List.length_drop, List.length_take]; rfl)) ?_; (with_reducible refine (warrantref06_Unescape.calls kj9 (a0.extract ((ji25) : Int).toNat (x7_3 : Int).toNat) t144 t145 _ A29.out).mono ?_); rintro e w32 ⟨rfl, hb⟩; refine ⟨_, rfl, ?_⟩; have n0_ := Aside0.mk (Kd.R_below (by (with_reducible repeat (first | apply Kd.R_alloc | apply Kd.R_drewN | apply Kd.R_drew)); exact HO_5.out) hb); have n1_ := Aside0.mk (below_step (by repeat (first | (with_reducible first | exact HB.out | apply below_alloc | apply pw_below_drewN | apply below_drew1) | exact HB.out)) hb); clear HO_5; clear HB; have HO_5 := n0_; have HB := n1_; clear n0_ n1_; (try clear hb); (try clear hb2); (try clear hk); (try clear hi)))
                                        go_meet
                                        case rel => exact ⟨_, (t144), (by first | rfl | (simp; done) | (simp [*]; done)), H', ⟨by have := HK1.out; have := HJ3.out; have := HJ9.out; first | omega | exact Nat.le_refl _⟩, ⟨by (with_reducible repeat (first | apply Kd.R_alloc | apply Kd.R_drewN | apply Kd.R_drew)); exact HO_5.out⟩, ⟨by repeat (first | (with_reducible first | exact HB.out | apply below_alloc | apply pw_below_drewN | apply below_drew1) | exact HB.out)⟩⟩
                                    · rw [if_neg c28] at H
                                      exact absurd H (by simp)
                                  · rw [if_neg c27] at H
                                    exact absurd H (by simp)
                                · rw [if_neg c26] at H
                                  exact absurd H (by simp)
                              · rw [if_neg c24] at H
                                have c24b0 : decide (x8_9 < x7_3) = false := decide_eq_false c24
                                clear c24
                                (first | rw [c24b0] | (simp only [i64_w, i32_w]; rw [c24b0]) | skip)
                                have H' := Aside0.mk H
                                clear H
                                go_wp2
                                go_meet
                                case rel => exact ⟨_, ((⟨#[]⟩ : ByteArray)), (by first | rfl | (simp; done) | (simp [*]; done)), H', ⟨by have := HK1.out; have := HJ3.out; have := HJ9.out; first | omega | exact Nat.le_refl _⟩, ⟨by (with_reducible repeat (first | apply Kd.R_alloc | apply Kd.R_drewN | apply Kd.R_drew)); exact HO_5.out⟩, ⟨by repeat (first | (with_reducible first | exact HB.out | apply below_alloc | apply pw_below_drewN | apply below_drew1) | exact HB.out)⟩⟩
                            case rest =>
                              clear HC22
                              try clear c1
                              try clear p1
                              try clear q1
                              try clear hx1
                              try clear c2
                              try clear c2b0
                              try clear c2b1
                              try clear p2
                              try clear c3
                              try clear c3b0
                              try clear c5
                              try clear c5b0
                              try clear c6
                              try clear c6b0
                              try clear p6
                              try clear p7
                              try clear q7
                              try clear hx7
                              try clear c8
                              try clear c8b0
                              try clear c8b1
                              try clear c9
                              try clear c9b0
                              try clear c11
                              try clear c11b0
                              try clear c12
                              try clear c12b0
                              try clear c13
                              try clear c13b0
                              try clear p14
                              try clear q14
                              try clear hx14
                              try clear c15
                              try clear c15b0
                              try clear c15b1
                              try clear c16
                              try clear c16b0
                              try clear c16b1
                              try clear c17
                              try clear c17b0
                              try clear c17b1
                              try clear c18
                              try clear c18b0
                              try clear c18b1
                              try clear c19
                              try clear c20
                              try clear c20b0
                              try clear c24
                              try clear c24b0
                              try clear c26
                              try clear c26b0
                              try clear c26b1
                              try clear c27
                              try clear c27b0
                              try clear c27b1
                              try clear c28
                              try clear c28b0
                              try clear c28b1
                              try clear c30
                              try clear c30b0
                              try clear p1
                              try clear p14
                              try clear p2
                              try clear p6
                              try clear p7
                              try clear q1
                              try clear q14
                              try clear q7
                              obtain ⟨kq, x11_21, rfl, HA, HJ21, HO_5, HB⟩ := hcut
                              cases kq with
                              | zero => exact absurd HA.out (by simp [warrantref06_Parse.j5])
                              | succ kj21 =>
                                have H := HA.out
                                clear HA
                                simp only [warrantref06_Parse.j5] at H
                                have HC33 := Aside0.mk H
                                clear H
                                go_upto_region 21 with (fail)
                                go_cut [91] (fun v91 wc => ∃ (kq : Nat) (x91_32 : Bool), v91 = .bool x91_32 ∧ Aside0 (warrantref06_Parse.j6 kq a0 x5_1 x6_1 x7_3 t142 x11_21 x91_32 = some (r1, r2, r3)) ∧ Aside0 (kq ≤ kj21) ∧ Aside0 (Kd.R k45 45 wc w.heap.size (fun _ => True) u5 x5_1) ∧ Aside0 (Below w.heap.size w wc))
                                case first =>
                                  have H := HC33.out
                                  clear HC33
                                  by_cases c34 : t142.toList = ([] : List UInt8)
                                  · rw [if_pos c34] at H
                                    have c34b0 : (t142.toList == ([] : List UInt8)) = true := beq_iff_eq.mpr c34
                                    have c34b1 : (t142.toList != ([] : List UInt8)) = false := bne_eq_false_iff_eq.mpr c34
                                    clear c34
                                    (first | rw [c34b0] | (simp only [i64_w, i32_w]; rw [c34b0]) | skip)
                                    have H' := Aside0.mk H
                                    clear H
                                    go_wp2
                                    go_meet
                                    case rel => exact ⟨_, (true), (by first | rfl | (simp; done) | (simp [*]; done)), H', ⟨by have := HK1.out; have := HJ3.out; have := HJ9.out; have := HJ21.out; first | omega | exact Nat.le_refl _⟩, ⟨by (with_reducible repeat (first | apply Kd.R_alloc | apply Kd.R_drewN | apply Kd.R_drew)); exact HO_5.out⟩, ⟨by repeat (first | (with_reducible first | exact HB.out | apply below_alloc | apply pw_below_drewN | apply below_drew1) | exact HB.out)⟩⟩
                                  · rw [if_neg c34] at H
                                    have c34b0 : (t142.toList == ([] : List UInt8)) = false := beq_eq_false_iff_ne.mpr c34
                                    have c34b1 : (t142.toList != ([] : List UInt8)) = true := bne_iff_ne.mpr c34
                                    (first | rw [c34b0] | (simp only [i64_w, i32_w]; rw [c34b0]) | skip)
                                    replace H := Option.bind_eq_some_iff.mp H
                                    obtain ⟨t146, A350, H⟩ := H
                                    replace H : (if t146 ≥ 0 then (warrantref06_Parse.j6 kj21 a0 x5_1 x6_1 x7_3 t142 x11_21 true) else ((warrantref03_Bad.f kj21 x11_21).bind fun t147 => (warrantref06_Parse.j6 kj21 a0 x5_1 x6_1 x7_3 t142 x11_21 (decide (t147 ≥ 0))))) = some (r1, r2, r3) := H
                                    have A35 := Aside0.mk A350
                                    clear A350
                                    by_cases c36 : t146 ≥ 0
                                    · rw [if_pos c36] at H
                                      have c36b0 : decide (0 ≤ t146) = true := decide_eq_true c36
                                      clear c36
                                      have H' := Aside0.mk H
                                      clear H
                                      go_wp2_with (first | (go_at_call 24; (with_reducible refine (warrantref03_Bad.calls kj21 t142 t146 _ A35.out).mono ?_); rintro e w37 ⟨rfl, hb⟩; have n0_ := Aside0.mk (Kd.R_below (by (with_reducible repeat (first | apply Kd.R_alloc | apply Kd.R_drewN | apply Kd.R_drew)); exact HO_5.out) hb); have n1_ := Aside0.mk (below_step (by repeat (first | (with_reducible first | exact HB.out | apply below_alloc | apply pw_below_drewN | apply below_drew1) | exact HB.out)) hb); clear HO_5; clear HB; have HO_5 := n0_; have HB := n1_; clear n0_ n1_; (try clear hb); (try clear hb2); (try clear hk); (try clear hi)))
                                      go_meet
                                      case rel => exact ⟨_, (true), (by first | rfl | (simp; done) | (simp [*]; done)), H', ⟨by have := HK1.out; have := HJ3.out; have := HJ9.out; have := HJ21.out; first | omega | exact Nat.le_refl _⟩, ⟨by (with_reducible repeat (first | apply Kd.R_alloc | apply Kd.R_drewN | apply Kd.R_drew)); exact HO_5.out⟩, ⟨by repeat (first | (with_reducible first | exact HB.out | apply below_alloc | apply pw_below_drewN | apply below_drew1) | exact HB.out)⟩⟩
                                    · rw [if_neg c36] at H
                                      have c36b0 : decide (0 ≤ t146) = false := decide_eq_false c36
                                      clear c36
                                      replace H := Option.bind_eq_some_iff.mp H
                                      obtain ⟨t147, A380, H⟩ := H
                                      replace H : (warrantref06_Parse.j6 kj21 a0 x5_1 x6_1 x7_3 t142 x11_21 (decide (t147 ≥ 0))) = some (r1, r2, r3) := H
                                      have A38 := Aside0.mk A380
                                      clear A380
                                      have H' := Aside0.mk H
                                      clear H
                                      go_wp2_with (first | (go_at_call 24; (with_reducible refine (warrantref03_Bad.calls kj21 t142 t146 _ A35.out).mono ?_); rintro e w39 ⟨rfl, hb⟩; have n0_ := Aside0.mk (Kd.R_below (by (with_reducible repeat (first | apply Kd.R_alloc | apply Kd.R_drewN | apply Kd.R_drew)); exact HO_5.out) hb); have n1_ := Aside0.mk (below_step (by repeat (first | (with_reducible first | exact HB.out | apply below_alloc | apply pw_below_drewN | apply below_drew1) | exact HB.out)) hb); clear HO_5; clear HB; have HO_5 := n0_; have HB := n1_; clear n0_ n1_; (try clear hb); (try clear hb2); (try clear hk); (try clear hi)) | (go_at_call 24; (with_reducible refine (warrantref03_Bad.calls kj21 x11_21 t147 _ A38.out).mono ?_); rintro e w40 ⟨rfl, hb⟩; have n0_ := Aside0.mk (Kd.R_below (by (with_reducible repeat (first | apply Kd.R_alloc | apply Kd.R_drewN | apply Kd.R_drew)); exact HO_5.out) hb); have n1_ := Aside0.mk (below_step (by repeat (first | (with_reducible first | exact HB.out | apply below_alloc | apply pw_below_drewN | apply below_drew1) | exact HB.out)) hb); clear HO_5; clear HB; have HO_5 := n0_; have HB := n1_; clear n0_ n1_; (try clear hb); (try clear hb2); (try clear hk); (try clear hi)))
                                      go_meet
                                      case rel => exact ⟨_, (decide (t147 ≥ 0)), (by first | rfl | (simp; done) | (simp [*]; done)), H', ⟨by have := HK1.out; have := HJ3.out; have := HJ9.out; have := HJ21.out; first | omega | exact Nat.le_refl _⟩, ⟨by (with_reducible repeat (first | apply Kd.R_alloc | apply Kd.R_drewN | apply Kd.R_drew)); exact HO_5.out⟩, ⟨by repeat (first | (with_reducible first | exact HB.out | apply below_alloc | apply pw_below_drewN | apply below_drew1) | exact HB.out)⟩⟩
                                case rest =>
                                  clear HC33
                                  try clear c1
                                  try clear p1
                                  try clear q1
                                  try clear hx1
                                  try clear c2
                                  try clear c2b0
                                  try clear c2b1
                                  try clear p2
                                  try clear c3
                                  try clear c3b0
                                  try clear c5
                                  try clear c5b0
                                  try clear c6
                                  try clear c6b0
                                  try clear p6
                                  try clear p7
                                  try clear q7
                                  try clear hx7
                                  try clear c8
                                  try clear c8b0
                                  try clear c8b1
                                  try clear c9
                                  try clear c9b0
                                  try clear c11
                                  try clear c11b0
                                  try clear c12
                                  try clear c12b0
                                  try clear c13
                                  try clear c13b0
                                  try clear p14
                                  try clear q14
                                  try clear hx14
                                  try clear c15
                                  try clear c15b0
                                  try clear c15b1
                                  try clear c16
                                  try clear c16b0
                                  try clear c16b1
                                  try clear c17
                                  try clear c17b0
                                  try clear c17b1
                                  try clear c18
                                  try clear c18b0
                                  try clear c18b1
                                  try clear c19
                                  try clear c20
                                  try clear c20b0
                                  try clear c24
                                  try clear c24b0
                                  try clear c26
                                  try clear c26b0
                                  try clear c26b1
                                  try clear c27
                                  try clear c27b0
                                  try clear c27b1
                                  try clear c28
                                  try clear c28b0
                                  try clear c28b1
                                  try clear c30
                                  try clear c30b0
                                  try clear c34
                                  try clear c34b0
                                  try clear c34b1
                                  try clear c36
                                  try clear c36b0
                                  try clear p1
                                  try clear p14
                                  try clear p2
                                  try clear p6
                                  try clear p7
                                  try clear q1
                                  try clear q14
                                  try clear q7
                                  obtain ⟨kq, x91_32, rfl, HA, HJ32, HO_5, HB⟩ := hcut
                                  cases kq with
                                  | zero => exact absurd HA.out (by simp [warrantref06_Parse.j6])
                                  | succ kj32 =>
                                    have H := HA.out
                                    clear HA
                                    simp only [warrantref06_Parse.j6] at H
                                    by_cases c41 : x91_32 = true
                                    · subst c41
                                      have H1 : (some (([] : List (S45)), 60, x6_1)) = some (r1, r2, r3) := by rw [if_pos rfl] at H; exact H
                                      clear H
                                      have H := H1
                                      clear H1
                                      simp only [Option.some.injEq, Prod.mk.injEq] at H
                                      obtain ⟨rfl, rfl, rfl⟩ := H
                                      go_wp2
                                      go_ret3
                                      exact ⟨_, by first | rfl | (simp [errW_none, errW_some] <;> rfl) | (simp [*, errW_none, errW_some] <;> rfl), by first | exact Kd.R_nil _ _ _ _ _ | exact Kd.N_nil _ _ _ _ _ | exact Kd.V_nil _ _ _ _ _ | exact Kd.Q_nil _ _ _ _ _ | exact Kd.S_nil _ _ _ _ _, by repeat (first | (with_reducible first | exact HB.out | apply below_alloc | apply pw_below_drewN | apply below_drew1) | exact HB.out)⟩
                                    · replace c41 := Bool.eq_false_iff.mpr c41
                                      subst c41
                                      have H1 : ((warrantref06_Get.f kj32 x5_1 t142).bind fun bt148 => (if bt148.2 = true then (some (([] : List (S45)), 52, x6_1)) else (if (x5_1.length : Int) = 32 then (some (([] : List (S45)), 53, (-1))) else (if x5_1.length < 4398046511104 then (warrantref06_Parse.l0 kj32 a0 (x5_1 ++ [(⟨t142, x11_21⟩ : S45)]) (wrap64 (x7_3 + 1))) else (none))))) = some (r1, r2, r3) := by rw [if_neg (show ¬ (false = true) by decide)] at H; exact H
                                      clear H
                                      have H := H1
                                      clear H1
                                      replace H := Option.bind_eq_some_iff.mp H
                                      obtain ⟨⟨t148, t149⟩, A420, H⟩ := H
                                      replace H : (if t149 = true then (some (([] : List (S45)), 52, x6_1)) else (if (x5_1.length : Int) = 32 then (some (([] : List (S45)), 53, (-1))) else (if x5_1.length < 4398046511104 then (warrantref06_Parse.l0 kj32 a0 (x5_1 ++ [(⟨t142, x11_21⟩ : S45)]) (wrap64 (x7_3 + 1))) else (none)))) = some (r1, r2, r3) := H
                                      have A42 := Aside0.mk A420
                                      clear A420
                                      by_cases c43 : t149 = true
                                      · subst c43
                                        have H1 : (some (([] : List (S45)), 52, x6_1)) = some (r1, r2, r3) := by rw [if_pos rfl] at H; exact H
                                        clear H
                                        have H := H1
                                        clear H1
                                        simp only [Option.some.injEq, Prod.mk.injEq] at H
                                        obtain ⟨rfl, rfl, rfl⟩ := H
                                        obtain ⟨Ao44, co44, eo44⟩ := Kd.R_slice HO_5.out
                                        subst eo44
                                        go_wp2_with (first | ((with_reducible refine gate_callee (f := 17) rfl ?_); refine goesL_ (some 96) rfl rfl Tryd.func17 (by kernel_rfl) rfl #[.slice Ao44 x5_1.length co44, .string t142] rfl (by (try simp only [List.map_toArray, List.map_cons, List.map_nil]); first | done | rfl | (simp only [List.length_drop, List.length_take]; rfl)) ?_; (with_reducible refine (warrantref06_Get.calls kj32 _ _ x5_1 t142 t148 true _ ?side1 ?side2 A42.out).mono ?_); (case side1 => repeat (first | exact (Kd.R_reads' HO_5.out).2.2 | (with_reducible refine Kd.C_alloc ?_ _) | (with_reducible refine Kd.C_drewN ?_ _) | (with_reducible refine Kd.C_drew ?_))); (case side2 => exact (Kd.R_reads' HO_5.out).2.1); rintro e w' ⟨rfl, ⟨nd, rfl⟩⟩; refine ⟨_, rfl, ?_⟩))
                                        go_ret3
                                        exact ⟨_, by first | rfl | (simp [errW_none, errW_some] <;> rfl) | (simp [*, errW_none, errW_some] <;> rfl), by first | exact Kd.R_nil _ _ _ _ _ | exact Kd.N_nil _ _ _ _ _ | exact Kd.V_nil _ _ _ _ _ | exact Kd.Q_nil _ _ _ _ _ | exact Kd.S_nil _ _ _ _ _, by repeat (first | (with_reducible first | exact HB.out | apply below_alloc | apply pw_below_drewN | apply below_drew1) | exact HB.out)⟩
                                      · replace c43 := Bool.eq_false_iff.mpr c43
                                        subst c43
                                        have H1 : (if (x5_1.length : Int) = 32 then (some (([] : List (S45)), 53, (-1))) else (if x5_1.length < 4398046511104 then (warrantref06_Parse.l0 kj32 a0 (x5_1 ++ [(⟨t142, x11_21⟩ : S45)]) (wrap64 (x7_3 + 1))) else (none))) = some (r1, r2, r3) := by rw [if_neg (show ¬ (false = true) by decide)] at H; exact H
                                        clear H
                                        have H := H1
                                        clear H1
                                        by_cases c45 : (x5_1.length : Int) = 32
                                        · rw [if_pos c45] at H
                                          have c45b0 : ((x5_1.length : Int) == 32) = true := beq_iff_eq.mpr c45
                                          have c45b1 : ((x5_1.length : Int) != 32) = false := bne_eq_false_iff_eq.mpr c45
                                          clear c45
                                          simp only [Option.some.injEq, Prod.mk.injEq] at H
                                          obtain ⟨rfl, rfl, rfl⟩ := H
                                          obtain ⟨Ao46, co46, eo46⟩ := Kd.R_slice HO_5.out
                                          subst eo46
                                          go_wp2_with (first | ((with_reducible refine gate_callee (f := 17) rfl ?_); refine goesL_ (some 96) rfl rfl Tryd.func17 (by kernel_rfl) rfl #[.slice Ao46 x5_1.length co46, .string t142] rfl (by (try simp only [List.map_toArray, List.map_cons, List.map_nil]); first | done | rfl | (simp only [List.length_drop, List.length_take]; rfl)) ?_; (with_reducible refine (warrantref06_Get.calls kj32 _ _ x5_1 t142 t148 false _ ?side1 ?side2 A42.out).mono ?_); (case side1 => repeat (first | exact (Kd.R_reads' HO_5.out).2.2 | (with_reducible refine Kd.C_alloc ?_ _) | (with_reducible refine Kd.C_drewN ?_ _) | (with_reducible refine Kd.C_drew ?_))); (case side2 => exact (Kd.R_reads' HO_5.out).2.1); rintro e w' ⟨rfl, ⟨nd, rfl⟩⟩; refine ⟨_, rfl, ?_⟩))
                                          go_ret3
                                          exact ⟨_, by first | rfl | (simp [errW_none, errW_some] <;> rfl) | (simp [*, errW_none, errW_some] <;> rfl), by first | exact Kd.R_nil _ _ _ _ _ | exact Kd.N_nil _ _ _ _ _ | exact Kd.V_nil _ _ _ _ _ | exact Kd.Q_nil _ _ _ _ _ | exact Kd.S_nil _ _ _ _ _, by repeat (first | (with_reducible first | exact HB.out | apply below_alloc | apply pw_below_drewN | apply below_drew1) | exact HB.out)⟩
                                        · rw [if_neg c45] at H
                                          have c45b0 : ((x5_1.length : Int) == 32) = false := beq_eq_false_iff_ne.mpr c45
                                          have c45b1 : ((x5_1.length : Int) != 32) = true := bne_iff_ne.mpr c45
                                          by_cases c47 : x5_1.length < 4398046511104
                                          · rw [if_pos c47] at H
                                            have LMc47 := Aside0.mk c47
                                            clear c47
                                            obtain ⟨y150, hy150⟩ : ∃ y_ : List (S45), y_ = (x5_1 ++ [(⟨t142, x11_21⟩ : S45)]) := ⟨_, rfl⟩
                                            replace H : (warrantref06_Parse.l0 kj32 a0 y150 (wrap64 (x7_3 + 1))) = some (r1, r2, r3) := by first | (rw [hy150]; with_reducible exact H) | (have H2_ := (Option.bind_some _ _).symm.trans H; rw [hy150]; with_reducible exact H2_) | (have H2_ := (Option.bind_some _ _).symm.trans H; with_reducible exact H2_) | with_reducible exact H | (rw [hy150]; exact H) | exact H
                                            have Ny150 := Aside0.mk hy150
                                            clear hy150
                                            have H' := Aside0.mk H
                                            clear H
                                            obtain ⟨Ao48, co48, eo48⟩ := Kd.R_slice HO_5.out
                                            subst eo48
                                            go_wp2_with (first | ((with_reducible refine gate_callee (f := 17) rfl ?_); refine goesL_ (some 96) rfl rfl Tryd.func17 (by kernel_rfl) rfl #[.slice Ao48 x5_1.length co48, .string t142] rfl (by (try simp only [List.map_toArray, List.map_cons, List.map_nil]); first | done | rfl | (simp only [List.length_drop, List.length_take]; rfl)) ?_; (with_reducible refine (warrantref06_Get.calls kj32 _ _ x5_1 t142 t148 false _ ?side1 ?side2 A42.out).mono ?_); (case side1 => repeat (first | exact (Kd.R_reads' HO_5.out).2.2 | (with_reducible refine Kd.C_alloc ?_ _) | (with_reducible refine Kd.C_drewN ?_ _) | (with_reducible refine Kd.C_drew ?_))); (case side2 => exact (Kd.R_reads' HO_5.out).2.1); rintro e w' ⟨rfl, ⟨nd, rfl⟩⟩; refine ⟨_, rfl, ?_⟩) | ((with_reducible refine gate_builtin (b := .append) (xs := #[.tmp 104, .tmp 108]) rfl ?_); at_builtin; refine Kd.R_append k45 (w0 := w) w.heap.size rfl (.tmp 104) (.tmp 108) 23 45 (.agg #[(.string ⟨#[]⟩), (.string ⟨#[]⟩)]) 32 rfl Tryd.underlying23 info45 rfl (by decide) (by omega) (.slice Ao48 x5_1.length co48) x5_1 (⟨t142, x11_21⟩ : S45) [.string t142, .string x11_21] (fun _ => True) (fun _ => False) rfl rfl ?aP (fun _ hk => hk.elim) ?aF ?aO ?aB ?aS ?aL ?_; (case aP => exact k45_mkM _ _ _ (⟨t142, x11_21⟩ : S45)); (case aB => exact (by repeat (first | (with_reducible first | exact HB.out | apply below_alloc | apply pw_below_drewN | apply below_drew1) | exact HB.out))); (case aF => exact (fun _ _ => trivial)); (case aO => exact (by (with_reducible repeat (first | apply Kd.R_alloc | apply Kd.R_drewN | apply Kd.R_drew)); exact HO_5.out)); (case aS => exact (below_size (by repeat (first | (with_reducible first | exact HB.out | apply below_alloc | apply pw_below_drewN | apply below_drew1) | exact HB.out)))); (case aL => have := LMc47.out; omega); intro v151 w49 ho hb hg hat; rw [← Ny150.out] at ho; have n0_ := Aside0.mk (hb); have n1_ := Aside0.mk (ho); clear HB; clear HO_5; have HB := n0_; have HO152 := n1_; clear n0_ n1_; clear ho hb hg hat))
                                            go_roundg kj32
                                            case measure => have := HK1.out; have := HJ3.out; have := HJ9.out; have := HJ21.out; have := HJ32.out; omega
                                            case rel => exact ⟨(y150), (wrap64 (x7_3 + 1)), (by first | rfl | (simp; done) | (simp [*]; done)), H', ⟨by have := HK1.out; have := HJ3.out; have := HJ9.out; have := HJ21.out; have := HJ32.out; omega⟩, ⟨by (with_reducible repeat (first | apply Kd.R_alloc | apply Kd.R_drewN | apply Kd.R_drew)); exact HO152.out⟩, ⟨by repeat (first | (with_reducible first | exact HB.out | apply below_alloc | apply pw_below_drewN | apply below_drew1) | exact HB.out)⟩⟩
                                          · rw [if_neg c47] at H
                                            exact absurd H (by simp)
                        · rw [if_neg c18] at H
                          exact absurd H (by simp)
                      · rw [if_neg c17] at H
                        exact absurd H (by simp)
                    · rw [if_neg c16] at H
                      exact absurd H (by simp)
              · rw [if_neg c9] at H
                have c9b0 : decide (x6_1 < x7_3) = false := decide_eq_false c9
                clear c9
                have H' := Aside0.mk H
                clear H
                go_wp2
                go_roundg kj3
                case measure => have := HK1.out; have := HJ3.out; omega
                case rel => exact ⟨(x5_1), (wrap64 (x7_3 + 1)), (by first | rfl | (simp; done) | (simp [*]; done)), H', ⟨by have := HK1.out; have := HJ3.out; omega⟩, ⟨by (with_reducible repeat (first | apply Kd.R_alloc | apply Kd.R_drewN | apply Kd.R_drew)); exact HO_5.out⟩, ⟨by repeat (first | (with_reducible first | exact HB.out | apply below_alloc | apply pw_below_drewN | apply below_drew1) | exact HB.out)⟩⟩
        · rw [if_neg c3] at H
          have c3b0 : decide (x6_1 ≤ (a0.size : Int)) = false := decide_eq_false c3
          clear c3
          simp only [Option.some.injEq, Prod.mk.injEq] at H
          obtain ⟨rfl, rfl, rfl⟩ := H
          go_wp2
          go_ret3
          exact ⟨_, by first | rfl | (simp [errW_none, errW_some] <;> rfl) | (simp [*, errW_none, errW_some] <;> rfl), by (with_reducible repeat (first | apply Kd.R_alloc | apply Kd.R_drewN | apply Kd.R_drew)); exact HO_5.out, by repeat (first | (with_reducible first | exact HB.out | apply below_alloc | apply pw_below_drewN | apply below_drew1) | exact HB.out)⟩

end Go.Proofs.YtgdbjkkanjgbnaaDoor.PUrlencParses

/-
  RowYTicket, RowFar, RowJoin, Foot: this proof's parts in one text.
-/
import Derived.Test.YtcgjacffemjehaaMRowPacksRowc
import Derived.Test.YtcgjacffemjehaaMRowPacksRowa
import Derived.Test.YtcgjacffemjehaaMRowPacksRowb
import Derived.Test.YtcgjacffemjehaaMRowPacksRowe
import Derived.Test.YtcgjacffemjehaaMRowPacksRowf
import Derived.Test.YtcgjacffemjehaaMRowPacksRowg
import Derived.OneCell
namespace Go.Proofs.Ytcgjacffemjehaa
open Go.RowKit
open Go.Proofs.YtcgjacffemjehaaW.PrintWords (Kd rdOf)
open Go.Proofs.Ytcgjacffemjehaa.PRowPacks
set_option linter.unusedVariables false
set_option maxHeartbeats 8000000 in
set_option maxRecDepth 100000 in
theorem refTicket (w : World) (x : S40) {A3 : Option Addr} {c3 : Nat} {A8 : Option Addr} {c8 : Nat} {A16 : Option Addr} {c16 : Nat} {A28 : Option Addr} {c28 : Nat} {A29 : Option Addr} {c29 : Nat} {A37 : Option Addr} {c37 : Nat} {A41 : Option Addr} {c41 : Nat} {A45 : Option Addr} {c45 : Nat} (l3 : x.f1.f2.length ≤ c3) (g3 : Kd.string.C w A3 x.f1.f2.length x.f1.f2) (l8 : x.f2.f4.length ≤ c8) (g8 : Kd.string.C w A8 x.f2.f4.length x.f2.f4) (l16 : x.f3.f3.length ≤ c16) (g16 : Kd.string.C w A16 x.f3.f3.length x.f3.f3) (l28 : x.f5.f5.length ≤ c28) (g28 : Kd.string.C w A28 x.f5.f5.length x.f5.f5) (l29 : x.f5.f6.length ≤ c29) (g29 : k51.C w A29 x.f5.f6.length x.f5.f6) (l37 : x.f6.f4.length ≤ c37) (g37 : Kd.string.C w A37 x.f6.f4.length x.f6.f4) (l41 : x.f7.f2.length ≤ c41) (g41 : k51.C w A41 x.f7.f2.length x.f7.f2) (l45 : x.f8.length ≤ c45) (g45 : k85.C w A45 x.f8.length x.f8) (hx : OkTicket x.f7) (hl : (ticketB x.f7).length ≤ 549755813888) :
    Calls Try.prog 7 #[.agg #[.int .i64 7, .string x.f1.f0, .string x.f1.f1, .slice A3 x.f1.f2.length c3, .string x.f2.f0, .string x.f2.f1, .string x.f2.f2, .string x.f2.f3, .slice A8 x.f2.f4.length c8, .string x.f2.f5, .bool x.f2.f6, .bool x.f2.f7, .int .i64 x.f2.f8, .string x.f3.f0, .string x.f3.f1, .string x.f3.f2, .slice A16 x.f3.f3.length c16, .int .i64 x.f3.f4, .int .i64 x.f3.f5, .bool x.f3.f6, .string x.f4.f0, .string x.f4.f1, .int .i64 x.f4.f2, .string x.f5.f0, .string x.f5.f1, .string x.f5.f2, .string x.f5.f3, .string x.f5.f4, .slice A28 x.f5.f5.length c28, .slice A29 x.f5.f6.length c29, .int .i64 x.f5.f7, .int .i64 x.f5.f8, .bool x.f5.f9, .string x.f6.f0, .string x.f6.f1, .string x.f6.f2, .string x.f6.f3, .slice A37 x.f6.f4.length c37, .string x.f6.f5, .string x.f7.f0, .string x.f7.f1, .slice A41 x.f7.f2.length c41, .string x.f7.f3, .int .i64 x.f7.f4, .bool x.f7.f5, .slice A45 x.f8.length c45]] w (TextPost (ticketB x.f7) w) := by
  have hW : Below w.heap.size w ((w.alloc (.cells #[.int .i64 7, .string x.f1.f0, .string x.f1.f1, .slice A3 x.f1.f2.length c3, .string x.f2.f0, .string x.f2.f1, .string x.f2.f2, .string x.f2.f3, .slice A8 x.f2.f4.length c8, .string x.f2.f5, .bool x.f2.f6, .bool x.f2.f7, .int .i64 x.f2.f8, .string x.f3.f0, .string x.f3.f1, .string x.f3.f2, .slice A16 x.f3.f3.length c16, .int .i64 x.f3.f4, .int .i64 x.f3.f5, .bool x.f3.f6, .string x.f4.f0, .string x.f4.f1, .int .i64 x.f4.f2, .string x.f5.f0, .string x.f5.f1, .string x.f5.f2, .string x.f5.f3, .string x.f5.f4, .slice A28 x.f5.f5.length c28, .slice A29 x.f5.f6.length c29, .int .i64 x.f5.f7, .int .i64 x.f5.f8, .bool x.f5.f9, .string x.f6.f0, .string x.f6.f1, .string x.f6.f2, .string x.f6.f3, .slice A37 x.f6.f4.length c37, .string x.f6.f5, .string x.f7.f0, .string x.f7.f1, .slice A41 x.f7.f2.length c41, .string x.f7.f3, .int .i64 x.f7.f4, .bool x.f7.f5, .slice A45 x.f8.length c45] 40)).alloc (.cells #[.string x.f7.f0, .string x.f7.f1, .slice A41 x.f7.f2.length c41, .string x.f7.f3, .int .i64 x.f7.f4, .bool x.f7.f5] 37)) := ((Below.refl _ w).alloc (Nat.le_refl _) _).alloc (by simp) _
  have HG41 := hid (Kd.C_below g41 hW)
  have HL41 := hid l41
  have hs : ∀ z, Below ((w.alloc (.cells #[.int .i64 7, .string x.f1.f0, .string x.f1.f1, .slice A3 x.f1.f2.length c3, .string x.f2.f0, .string x.f2.f1, .string x.f2.f2, .string x.f2.f3, .slice A8 x.f2.f4.length c8, .string x.f2.f5, .bool x.f2.f6, .bool x.f2.f7, .int .i64 x.f2.f8, .string x.f3.f0, .string x.f3.f1, .string x.f3.f2, .slice A16 x.f3.f3.length c16, .int .i64 x.f3.f4, .int .i64 x.f3.f5, .bool x.f3.f6, .string x.f4.f0, .string x.f4.f1, .int .i64 x.f4.f2, .string x.f5.f0, .string x.f5.f1, .string x.f5.f2, .string x.f5.f3, .string x.f5.f4, .slice A28 x.f5.f5.length c28, .slice A29 x.f5.f6.length c29, .int .i64 x.f5.f7, .int .i64 x.f5.f8, .bool x.f5.f9, .string x.f6.f0, .string x.f6.f1, .string x.f6.f2, .string x.f6.f3, .slice A37 x.f6.f4.length c37, .string x.f6.f5, .string x.f7.f0, .string x.f7.f1, .slice A41 x.f7.f2.length c41, .string x.f7.f3, .int .i64 x.f7.f4, .bool x.f7.f5, .slice A45 x.f8.length c45] 40)).alloc (.cells #[.string x.f7.f0, .string x.f7.f1, .slice A41 x.f7.f2.length c41, .string x.f7.f3, .int .i64 x.f7.f4, .bool x.f7.f5] 37)).heap.size ((w.alloc (.cells #[.int .i64 7, .string x.f1.f0, .string x.f1.f1, .slice A3 x.f1.f2.length c3, .string x.f2.f0, .string x.f2.f1, .string x.f2.f2, .string x.f2.f3, .slice A8 x.f2.f4.length c8, .string x.f2.f5, .bool x.f2.f6, .bool x.f2.f7, .int .i64 x.f2.f8, .string x.f3.f0, .string x.f3.f1, .string x.f3.f2, .slice A16 x.f3.f3.length c16, .int .i64 x.f3.f4, .int .i64 x.f3.f5, .bool x.f3.f6, .string x.f4.f0, .string x.f4.f1, .int .i64 x.f4.f2, .string x.f5.f0, .string x.f5.f1, .string x.f5.f2, .string x.f5.f3, .string x.f5.f4, .slice A28 x.f5.f5.length c28, .slice A29 x.f5.f6.length c29, .int .i64 x.f5.f7, .int .i64 x.f5.f8, .bool x.f5.f9, .string x.f6.f0, .string x.f6.f1, .string x.f6.f2, .string x.f6.f3, .slice A37 x.f6.f4.length c37, .string x.f6.f5, .string x.f7.f0, .string x.f7.f1, .slice A41 x.f7.f2.length c41, .string x.f7.f3, .int .i64 x.f7.f4, .bool x.f7.f5, .slice A45 x.f8.length c45] 40)).alloc (.cells #[.string x.f7.f0, .string x.f7.f1, .slice A41 x.f7.f2.length c41, .string x.f7.f3, .int .i64 x.f7.f4, .bool x.f7.f5] 37)) z → (fun z => z.cell? ⟨w.heap.size + 1, 0, none⟩ = some (.string x.f7.f0) ∧ z.cell? ⟨w.heap.size + 1, 1, none⟩ = some (.string x.f7.f1) ∧ z.cell? ⟨w.heap.size + 1, 2, none⟩ = some (.slice A41 x.f7.f2.length c41) ∧ z.cell? ⟨w.heap.size + 1, 3, none⟩ = some (.string x.f7.f3) ∧ z.cell? ⟨w.heap.size + 1, 4, none⟩ = some (.int .i64 x.f7.f4) ∧ z.cell? ⟨w.heap.size + 1, 5, none⟩ = some (.bool x.f7.f5)) z := fun z hz =>
    ⟨(hz.cell (p := ⟨w.heap.size + 1, 0, none⟩) (by simp)).trans (by rw [World.cell?_alloc_at _ _ _ _ (by simp)]; rfl), (hz.cell (p := ⟨w.heap.size + 1, 1, none⟩) (by simp)).trans (by rw [World.cell?_alloc_at _ _ _ _ (by simp)]; rfl), (hz.cell (p := ⟨w.heap.size + 1, 2, none⟩) (by simp)).trans (by rw [World.cell?_alloc_at _ _ _ _ (by simp)]; rfl), (hz.cell (p := ⟨w.heap.size + 1, 3, none⟩) (by simp)).trans (by rw [World.cell?_alloc_at _ _ _ _ (by simp)]; rfl), (hz.cell (p := ⟨w.heap.size + 1, 4, none⟩) (by simp)).trans (by rw [World.cell?_alloc_at _ _ _ _ (by simp)]; rfl), (hz.cell (p := ⟨w.heap.size + 1, 5, none⟩) (by simp)).trans (by rw [World.cell?_alloc_at _ _ _ _ (by simp)]; rfl)⟩
  have HS := hid hs
  have HW := hid hW
  have HX := hid hx
  have hl2 := hl
  have HB := hid (Below.refl ((w.alloc (.cells #[.int .i64 7, .string x.f1.f0, .string x.f1.f1, .slice A3 x.f1.f2.length c3, .string x.f2.f0, .string x.f2.f1, .string x.f2.f2, .string x.f2.f3, .slice A8 x.f2.f4.length c8, .string x.f2.f5, .bool x.f2.f6, .bool x.f2.f7, .int .i64 x.f2.f8, .string x.f3.f0, .string x.f3.f1, .string x.f3.f2, .slice A16 x.f3.f3.length c16, .int .i64 x.f3.f4, .int .i64 x.f3.f5, .bool x.f3.f6, .string x.f4.f0, .string x.f4.f1, .int .i64 x.f4.f2, .string x.f5.f0, .string x.f5.f1, .string x.f5.f2, .string x.f5.f3, .string x.f5.f4, .slice A28 x.f5.f5.length c28, .slice A29 x.f5.f6.length c29, .int .i64 x.f5.f7, .int .i64 x.f5.f8, .bool x.f5.f9, .string x.f6.f0, .string x.f6.f1, .string x.f6.f2, .string x.f6.f3, .slice A37 x.f6.f4.length c37, .string x.f6.f5, .string x.f7.f0, .string x.f7.f1, .slice A41 x.f7.f2.length c41, .string x.f7.f3, .int .i64 x.f7.f4, .bool x.f7.f5, .slice A45 x.f8.length c45] 40)).alloc (.cells #[.string x.f7.f0, .string x.f7.f1, .slice A41 x.f7.f2.length c41, .string x.f7.f3, .int .i64 x.f7.f4, .bool x.f7.f5] 37)).heap.size ((w.alloc (.cells #[.int .i64 7, .string x.f1.f0, .string x.f1.f1, .slice A3 x.f1.f2.length c3, .string x.f2.f0, .string x.f2.f1, .string x.f2.f2, .string x.f2.f3, .slice A8 x.f2.f4.length c8, .string x.f2.f5, .bool x.f2.f6, .bool x.f2.f7, .int .i64 x.f2.f8, .string x.f3.f0, .string x.f3.f1, .string x.f3.f2, .slice A16 x.f3.f3.length c16, .int .i64 x.f3.f4, .int .i64 x.f3.f5, .bool x.f3.f6, .string x.f4.f0, .string x.f4.f1, .int .i64 x.f4.f2, .string x.f5.f0, .string x.f5.f1, .string x.f5.f2, .string x.f5.f3, .string x.f5.f4, .slice A28 x.f5.f5.length c28, .slice A29 x.f5.f6.length c29, .int .i64 x.f5.f7, .int .i64 x.f5.f8, .bool x.f5.f9, .string x.f6.f0, .string x.f6.f1, .string x.f6.f2, .string x.f6.f3, .slice A37 x.f6.f4.length c37, .string x.f6.f5, .string x.f7.f0, .string x.f7.f1, .slice A41 x.f7.f2.length c41, .string x.f7.f3, .int .i64 x.f7.f4, .bool x.f7.f5, .slice A45 x.f8.length c45] 40)).alloc (.cells #[.string x.f7.f0, .string x.f7.f1, .slice A41 x.f7.f2.length c41, .string x.f7.f3, .int .i64 x.f7.f4, .bool x.f7.f5] 37)))
  have z0 : Sz x.f7.f0 := HX.out.1
  have z1 : Sz x.f7.f1 := HX.out.2.1
  have z2 : SzP x.f7.f2 := HX.out.2.2.1
  have z3 : Sz x.f7.f3 := HX.out.2.2.2.1
  have z4 : I64 x.f7.f4 := HX.out.2.2.2.2
  clear hs hW hx hl g3 l3 g8 l8 g16 l16 g28 l28 g29 l29 g37 l37 g41 l41 g45 l45
  simp only [ticketB, List.length_append] at hl2
  go_enter Try.func7, Try.ntmps7
  obtain ⟨P1, hP1⟩ : ∃ P, bA ((textB x.f7.f0) ++ textB x.f7.f1) = P := ⟨_, rfl⟩
  have a1 := fun w' => add_bA (P := Try.prog) (w := w') (textB x.f7.f0) (textB x.f7.f1) (by (try simp only [List.length_append]); omega)
  rw [hP1] at a1
  obtain ⟨P2, hP2⟩ : ∃ P, bA (((textB x.f7.f0) ++ textB x.f7.f1) ++ permsB x.f7.f2) = P := ⟨_, rfl⟩
  have a2 := fun w' => add_bA (P := Try.prog) (w := w') ((textB x.f7.f0) ++ textB x.f7.f1) (permsB x.f7.f2) (by (try simp only [List.length_append]); omega)
  rw [hP2, hP1] at a2
  obtain ⟨P3, hP3⟩ : ∃ P, bA ((((textB x.f7.f0) ++ textB x.f7.f1) ++ permsB x.f7.f2) ++ textB x.f7.f3) = P := ⟨_, rfl⟩
  have a3 := fun w' => add_bA (P := Try.prog) (w := w') (((textB x.f7.f0) ++ textB x.f7.f1) ++ permsB x.f7.f2) (textB x.f7.f3) (by (try simp only [List.length_append]); omega)
  rw [hP3, hP2] at a3
  obtain ⟨P4, hP4⟩ : ∃ P, bA (((((textB x.f7.f0) ++ textB x.f7.f1) ++ permsB x.f7.f2) ++ textB x.f7.f3) ++ eight x.f7.f4) = P := ⟨_, rfl⟩
  have a4 := fun w' => add_bA (P := Try.prog) (w := w') ((((textB x.f7.f0) ++ textB x.f7.f1) ++ permsB x.f7.f2) ++ textB x.f7.f3) (eight x.f7.f4) (by (try simp only [List.length_append]); omega)
  rw [hP4, hP3] at a4
  obtain ⟨P5, hP5⟩ : ∃ P, bA ((((((textB x.f7.f0) ++ textB x.f7.f1) ++ permsB x.f7.f2) ++ textB x.f7.f3) ++ eight x.f7.f4) ++ truthB x.f7.f5) = P := ⟨_, rfl⟩
  have a5 := fun w' => add_bA (P := Try.prog) (w := w') (((((textB x.f7.f0) ++ textB x.f7.f1) ++ permsB x.f7.f2) ++ textB x.f7.f3) ++ eight x.f7.f4) (truthB x.f7.f5) (by (try simp only [List.length_append]); omega)
  rw [hP5, hP4] at a5
  have HP1 := hid hP1
  have HP2 := hid hP2
  have HP3 := hid hP3
  have HP4 := hid hP4
  have HP5 := hid hP5
  clear hP1 hP2 hP3 hP4 hP5
  go_wp2
  go_region_held3 (fun z => z.cell? ⟨w.heap.size + 1, 0, none⟩ = some (.string x.f7.f0) ∧ z.cell? ⟨w.heap.size + 1, 1, none⟩ = some (.string x.f7.f1) ∧ z.cell? ⟨w.heap.size + 1, 2, none⟩ = some (.slice A41 x.f7.f2.length c41) ∧ z.cell? ⟨w.heap.size + 1, 3, none⟩ = some (.string x.f7.f3) ∧ z.cell? ⟨w.heap.size + 1, 4, none⟩ = some (.int .i64 x.f7.f4) ∧ z.cell? ⟨w.heap.size + 1, 5, none⟩ = some (.bool x.f7.f5)) (first | exact HS.out _ HB.out | exact HS.out _ (Below.drew HB.out))
    (first | (go_at_call 17; refine (refText _ (by assumption) _).mono ?_; rintro e z ⟨rfl, hb⟩; have n0 := hid (by first | exact below_then HB.out hb | exact below_then (Below.drew HB.out) hb : Below ((w.alloc (.cells #[.int .i64 7, .string x.f1.f0, .string x.f1.f1, .slice A3 x.f1.f2.length c3, .string x.f2.f0, .string x.f2.f1, .string x.f2.f2, .string x.f2.f3, .slice A8 x.f2.f4.length c8, .string x.f2.f5, .bool x.f2.f6, .bool x.f2.f7, .int .i64 x.f2.f8, .string x.f3.f0, .string x.f3.f1, .string x.f3.f2, .slice A16 x.f3.f3.length c16, .int .i64 x.f3.f4, .int .i64 x.f3.f5, .bool x.f3.f6, .string x.f4.f0, .string x.f4.f1, .int .i64 x.f4.f2, .string x.f5.f0, .string x.f5.f1, .string x.f5.f2, .string x.f5.f3, .string x.f5.f4, .slice A28 x.f5.f5.length c28, .slice A29 x.f5.f6.length c29, .int .i64 x.f5.f7, .int .i64 x.f5.f8, .bool x.f5.f9, .string x.f6.f0, .string x.f6.f1, .string x.f6.f2, .string x.f6.f3, .slice A37 x.f6.f4.length c37, .string x.f6.f5, .string x.f7.f0, .string x.f7.f1, .slice A41 x.f7.f2.length c41, .string x.f7.f3, .int .i64 x.f7.f4, .bool x.f7.f5, .slice A45 x.f8.length c45] 40)).alloc (.cells #[.string x.f7.f0, .string x.f7.f1, .slice A41 x.f7.f2.length c41, .string x.f7.f3, .int .i64 x.f7.f4, .bool x.f7.f5] 37)).heap.size ((w.alloc (.cells #[.int .i64 7, .string x.f1.f0, .string x.f1.f1, .slice A3 x.f1.f2.length c3, .string x.f2.f0, .string x.f2.f1, .string x.f2.f2, .string x.f2.f3, .slice A8 x.f2.f4.length c8, .string x.f2.f5, .bool x.f2.f6, .bool x.f2.f7, .int .i64 x.f2.f8, .string x.f3.f0, .string x.f3.f1, .string x.f3.f2, .slice A16 x.f3.f3.length c16, .int .i64 x.f3.f4, .int .i64 x.f3.f5, .bool x.f3.f6, .string x.f4.f0, .string x.f4.f1, .int .i64 x.f4.f2, .string x.f5.f0, .string x.f5.f1, .string x.f5.f2, .string x.f5.f3, .string x.f5.f4, .slice A28 x.f5.f5.length c28, .slice A29 x.f5.f6.length c29, .int .i64 x.f5.f7, .int .i64 x.f5.f8, .bool x.f5.f9, .string x.f6.f0, .string x.f6.f1, .string x.f6.f2, .string x.f6.f3, .slice A37 x.f6.f4.length c37, .string x.f6.f5, .string x.f7.f0, .string x.f7.f1, .slice A41 x.f7.f2.length c41, .string x.f7.f3, .int .i64 x.f7.f4, .bool x.f7.f5, .slice A45 x.f8.length c45] 40)).alloc (.cells #[.string x.f7.f0, .string x.f7.f1, .slice A41 x.f7.f2.length c41, .string x.f7.f3, .int .i64 x.f7.f4, .bool x.f7.f5] 37)) z); clear HB hb; have HB := n0; clear n0) | (go_at_call 21; refine (refPerms _ _ _ _ (by first | exact Kd.C_below HG41.out HB.out | exact Kd.C_below HG41.out (Below.drew HB.out)) HL41.out z2 (by omega)).mono ?_; rintro e z ⟨rfl, hb⟩; have n0 := hid (by first | exact below_then HB.out hb | exact below_then (Below.drew HB.out) hb : Below ((w.alloc (.cells #[.int .i64 7, .string x.f1.f0, .string x.f1.f1, .slice A3 x.f1.f2.length c3, .string x.f2.f0, .string x.f2.f1, .string x.f2.f2, .string x.f2.f3, .slice A8 x.f2.f4.length c8, .string x.f2.f5, .bool x.f2.f6, .bool x.f2.f7, .int .i64 x.f2.f8, .string x.f3.f0, .string x.f3.f1, .string x.f3.f2, .slice A16 x.f3.f3.length c16, .int .i64 x.f3.f4, .int .i64 x.f3.f5, .bool x.f3.f6, .string x.f4.f0, .string x.f4.f1, .int .i64 x.f4.f2, .string x.f5.f0, .string x.f5.f1, .string x.f5.f2, .string x.f5.f3, .string x.f5.f4, .slice A28 x.f5.f5.length c28, .slice A29 x.f5.f6.length c29, .int .i64 x.f5.f7, .int .i64 x.f5.f8, .bool x.f5.f9, .string x.f6.f0, .string x.f6.f1, .string x.f6.f2, .string x.f6.f3, .slice A37 x.f6.f4.length c37, .string x.f6.f5, .string x.f7.f0, .string x.f7.f1, .slice A41 x.f7.f2.length c41, .string x.f7.f3, .int .i64 x.f7.f4, .bool x.f7.f5, .slice A45 x.f8.length c45] 40)).alloc (.cells #[.string x.f7.f0, .string x.f7.f1, .slice A41 x.f7.f2.length c41, .string x.f7.f3, .int .i64 x.f7.f4, .bool x.f7.f5] 37)).heap.size ((w.alloc (.cells #[.int .i64 7, .string x.f1.f0, .string x.f1.f1, .slice A3 x.f1.f2.length c3, .string x.f2.f0, .string x.f2.f1, .string x.f2.f2, .string x.f2.f3, .slice A8 x.f2.f4.length c8, .string x.f2.f5, .bool x.f2.f6, .bool x.f2.f7, .int .i64 x.f2.f8, .string x.f3.f0, .string x.f3.f1, .string x.f3.f2, .slice A16 x.f3.f3.length c16, .int .i64 x.f3.f4, .int .i64 x.f3.f5, .bool x.f3.f6, .string x.f4.f0, .string x.f4.f1, .int .i64 x.f4.f2, .string x.f5.f0, .string x.f5.f1, .string x.f5.f2, .string x.f5.f3, .string x.f5.f4, .slice A28 x.f5.f5.length c28, .slice A29 x.f5.f6.length c29, .int .i64 x.f5.f7, .int .i64 x.f5.f8, .bool x.f5.f9, .string x.f6.f0, .string x.f6.f1, .string x.f6.f2, .string x.f6.f3, .slice A37 x.f6.f4.length c37, .string x.f6.f5, .string x.f7.f0, .string x.f7.f1, .slice A41 x.f7.f2.length c41, .string x.f7.f3, .int .i64 x.f7.f4, .bool x.f7.f5, .slice A45 x.f8.length c45] 40)).alloc (.cells #[.string x.f7.f0, .string x.f7.f1, .slice A41 x.f7.f2.length c41, .string x.f7.f3, .int .i64 x.f7.f4, .bool x.f7.f5] 37)) z); clear HB hb; have HB := n0; clear n0) | (go_at_call 19; refine (refTruth _ _).mono ?_; rintro e z ⟨rfl, hb⟩; have n0 := hid (by first | exact below_then HB.out hb | exact below_then (Below.drew HB.out) hb : Below ((w.alloc (.cells #[.int .i64 7, .string x.f1.f0, .string x.f1.f1, .slice A3 x.f1.f2.length c3, .string x.f2.f0, .string x.f2.f1, .string x.f2.f2, .string x.f2.f3, .slice A8 x.f2.f4.length c8, .string x.f2.f5, .bool x.f2.f6, .bool x.f2.f7, .int .i64 x.f2.f8, .string x.f3.f0, .string x.f3.f1, .string x.f3.f2, .slice A16 x.f3.f3.length c16, .int .i64 x.f3.f4, .int .i64 x.f3.f5, .bool x.f3.f6, .string x.f4.f0, .string x.f4.f1, .int .i64 x.f4.f2, .string x.f5.f0, .string x.f5.f1, .string x.f5.f2, .string x.f5.f3, .string x.f5.f4, .slice A28 x.f5.f5.length c28, .slice A29 x.f5.f6.length c29, .int .i64 x.f5.f7, .int .i64 x.f5.f8, .bool x.f5.f9, .string x.f6.f0, .string x.f6.f1, .string x.f6.f2, .string x.f6.f3, .slice A37 x.f6.f4.length c37, .string x.f6.f5, .string x.f7.f0, .string x.f7.f1, .slice A41 x.f7.f2.length c41, .string x.f7.f3, .int .i64 x.f7.f4, .bool x.f7.f5, .slice A45 x.f8.length c45] 40)).alloc (.cells #[.string x.f7.f0, .string x.f7.f1, .slice A41 x.f7.f2.length c41, .string x.f7.f3, .int .i64 x.f7.f4, .bool x.f7.f5] 37)).heap.size ((w.alloc (.cells #[.int .i64 7, .string x.f1.f0, .string x.f1.f1, .slice A3 x.f1.f2.length c3, .string x.f2.f0, .string x.f2.f1, .string x.f2.f2, .string x.f2.f3, .slice A8 x.f2.f4.length c8, .string x.f2.f5, .bool x.f2.f6, .bool x.f2.f7, .int .i64 x.f2.f8, .string x.f3.f0, .string x.f3.f1, .string x.f3.f2, .slice A16 x.f3.f3.length c16, .int .i64 x.f3.f4, .int .i64 x.f3.f5, .bool x.f3.f6, .string x.f4.f0, .string x.f4.f1, .int .i64 x.f4.f2, .string x.f5.f0, .string x.f5.f1, .string x.f5.f2, .string x.f5.f3, .string x.f5.f4, .slice A28 x.f5.f5.length c28, .slice A29 x.f5.f6.length c29, .int .i64 x.f5.f7, .int .i64 x.f5.f8, .bool x.f5.f9, .string x.f6.f0, .string x.f6.f1, .string x.f6.f2, .string x.f6.f3, .slice A37 x.f6.f4.length c37, .string x.f6.f5, .string x.f7.f0, .string x.f7.f1, .slice A41 x.f7.f2.length c41, .string x.f7.f3, .int .i64 x.f7.f4, .bool x.f7.f5, .slice A45 x.f8.length c45] 40)).alloc (.cells #[.string x.f7.f0, .string x.f7.f1, .slice A41 x.f7.f2.length c41, .string x.f7.f3, .int .i64 x.f7.f4, .bool x.f7.f5] 37)) z); clear HB hb; have HB := n0; clear n0) | (go_at_call 20; refine (refNum _ _ (by assumption)).mono ?_; rintro e z ⟨rfl, hb⟩; have n0 := hid (by first | exact below_then HB.out hb | exact below_then (Below.drew HB.out) hb : Below ((w.alloc (.cells #[.int .i64 7, .string x.f1.f0, .string x.f1.f1, .slice A3 x.f1.f2.length c3, .string x.f2.f0, .string x.f2.f1, .string x.f2.f2, .string x.f2.f3, .slice A8 x.f2.f4.length c8, .string x.f2.f5, .bool x.f2.f6, .bool x.f2.f7, .int .i64 x.f2.f8, .string x.f3.f0, .string x.f3.f1, .string x.f3.f2, .slice A16 x.f3.f3.length c16, .int .i64 x.f3.f4, .int .i64 x.f3.f5, .bool x.f3.f6, .string x.f4.f0, .string x.f4.f1, .int .i64 x.f4.f2, .string x.f5.f0, .string x.f5.f1, .string x.f5.f2, .string x.f5.f3, .string x.f5.f4, .slice A28 x.f5.f5.length c28, .slice A29 x.f5.f6.length c29, .int .i64 x.f5.f7, .int .i64 x.f5.f8, .bool x.f5.f9, .string x.f6.f0, .string x.f6.f1, .string x.f6.f2, .string x.f6.f3, .slice A37 x.f6.f4.length c37, .string x.f6.f5, .string x.f7.f0, .string x.f7.f1, .slice A41 x.f7.f2.length c41, .string x.f7.f3, .int .i64 x.f7.f4, .bool x.f7.f5, .slice A45 x.f8.length c45] 40)).alloc (.cells #[.string x.f7.f0, .string x.f7.f1, .slice A41 x.f7.f2.length c41, .string x.f7.f3, .int .i64 x.f7.f4, .bool x.f7.f5] 37)).heap.size ((w.alloc (.cells #[.int .i64 7, .string x.f1.f0, .string x.f1.f1, .slice A3 x.f1.f2.length c3, .string x.f2.f0, .string x.f2.f1, .string x.f2.f2, .string x.f2.f3, .slice A8 x.f2.f4.length c8, .string x.f2.f5, .bool x.f2.f6, .bool x.f2.f7, .int .i64 x.f2.f8, .string x.f3.f0, .string x.f3.f1, .string x.f3.f2, .slice A16 x.f3.f3.length c16, .int .i64 x.f3.f4, .int .i64 x.f3.f5, .bool x.f3.f6, .string x.f4.f0, .string x.f4.f1, .int .i64 x.f4.f2, .string x.f5.f0, .string x.f5.f1, .string x.f5.f2, .string x.f5.f3, .string x.f5.f4, .slice A28 x.f5.f5.length c28, .slice A29 x.f5.f6.length c29, .int .i64 x.f5.f7, .int .i64 x.f5.f8, .bool x.f5.f9, .string x.f6.f0, .string x.f6.f1, .string x.f6.f2, .string x.f6.f3, .slice A37 x.f6.f4.length c37, .string x.f6.f5, .string x.f7.f0, .string x.f7.f1, .slice A41 x.f7.f2.length c41, .string x.f7.f3, .int .i64 x.f7.f4, .bool x.f7.f5, .slice A45 x.f8.length c45] 40)).alloc (.cells #[.string x.f7.f0, .string x.f7.f1, .slice A41 x.f7.f2.length c41, .string x.f7.f3, .int .i64 x.f7.f4, .bool x.f7.f5] 37)) z); clear HB hb; have HB := n0; clear n0))
  all_goals
    go_wp2
    go_ret
    exact TextPost.mk (congrArg Value.string HP5.out.symm) (HW.out.trans (HB.out.mono (by simp; omega)))
end Go.Proofs.Ytcgjacffemjehaa

namespace Go.Proofs.Ytcgjacffemjehaa
open Go.RowKit
open Go.Proofs.YtcgjacffemjehaaW.PrintWords (Kd rdOf)
open Go.Proofs.Ytcgjacffemjehaa.PRowPacks
set_option linter.unusedVariables false
/-- A row's lists are short. -/
def Near (x : S40) : Prop := x.f1.f2.length + x.f2.f4.length ≤ 500 ∧ x.f3.f3.length ≤ 500 ∧ x.f5.f5.length ≤ 500 ∧ x.f5.f6.length ≤ 50 ∧ x.f6.f4.length ≤ 500 ∧ x.f7.f2.length ≤ 50 ∧ x.f8.length ≤ 500 ∧
  (∀ j, j < x.f5.f6.length → ((x.f5.f6.getD j z51).f1).length ≤ 100) ∧ ∀ j, j < x.f7.f2.length → ((x.f7.f2.getD j z51).f1).length ≤ 100
def FarPost (x : S40) (w : World) (e : Ending) (w' : World) : Prop := ∃ b, e = .returned (.bool b) ∧ Below w.heap.size w w' ∧ (b = false → Near x)
set_option maxHeartbeats 16000000 in
set_option maxRecDepth 100000 in
theorem far_any (w : World) (x : S40) {A3 : Option Addr} {c3 : Nat} {A8 : Option Addr} {c8 : Nat} {A16 : Option Addr} {c16 : Nat} {A28 : Option Addr} {c28 : Nat} {A29 : Option Addr} {c29 : Nat} {A37 : Option Addr} {c37 : Nat} {A41 : Option Addr} {c41 : Nat} {A45 : Option Addr} {c45 : Nat} (l3 : x.f1.f2.length ≤ c3) (g3 : Kd.string.C w A3 x.f1.f2.length x.f1.f2) (l8 : x.f2.f4.length ≤ c8) (g8 : Kd.string.C w A8 x.f2.f4.length x.f2.f4) (l16 : x.f3.f3.length ≤ c16) (g16 : Kd.string.C w A16 x.f3.f3.length x.f3.f3) (l28 : x.f5.f5.length ≤ c28) (g28 : Kd.string.C w A28 x.f5.f5.length x.f5.f5) (l29 : x.f5.f6.length ≤ c29) (g29 : k51.C w A29 x.f5.f6.length x.f5.f6) (l37 : x.f6.f4.length ≤ c37) (g37 : Kd.string.C w A37 x.f6.f4.length x.f6.f4) (l41 : x.f7.f2.length ≤ c41) (g41 : k51.C w A41 x.f7.f2.length x.f7.f2) (l45 : x.f8.length ≤ c45) (g45 : k85.C w A45 x.f8.length x.f8) (hsz : x.f1.f2.length ≤ 1048576 ∧ x.f2.f4.length ≤ 1048576 ∧ x.f3.f3.length ≤ 1048576 ∧ x.f5.f5.length ≤ 1048576 ∧ x.f5.f6.length ≤ 1048576 ∧ x.f6.f4.length ≤ 1048576 ∧ x.f7.f2.length ≤ 1048576 ∧ x.f8.length ≤ 1048576) :
    Calls Try.prog 5 #[.agg #[.int .i64 x.f0, .string x.f1.f0, .string x.f1.f1, .slice A3 x.f1.f2.length c3, .string x.f2.f0, .string x.f2.f1, .string x.f2.f2, .string x.f2.f3, .slice A8 x.f2.f4.length c8, .string x.f2.f5, .bool x.f2.f6, .bool x.f2.f7, .int .i64 x.f2.f8, .string x.f3.f0, .string x.f3.f1, .string x.f3.f2, .slice A16 x.f3.f3.length c16, .int .i64 x.f3.f4, .int .i64 x.f3.f5, .bool x.f3.f6, .string x.f4.f0, .string x.f4.f1, .int .i64 x.f4.f2, .string x.f5.f0, .string x.f5.f1, .string x.f5.f2, .string x.f5.f3, .string x.f5.f4, .slice A28 x.f5.f5.length c28, .slice A29 x.f5.f6.length c29, .int .i64 x.f5.f7, .int .i64 x.f5.f8, .bool x.f5.f9, .string x.f6.f0, .string x.f6.f1, .string x.f6.f2, .string x.f6.f3, .slice A37 x.f6.f4.length c37, .string x.f6.f5, .string x.f7.f0, .string x.f7.f1, .slice A41 x.f7.f2.length c41, .string x.f7.f3, .int .i64 x.f7.f4, .bool x.f7.f5, .slice A45 x.f8.length c45]] w (FarPost x w) := by
  have hW : Below w.heap.size w (w.alloc (.cells #[.int .i64 x.f0, .string x.f1.f0, .string x.f1.f1, .slice A3 x.f1.f2.length c3, .string x.f2.f0, .string x.f2.f1, .string x.f2.f2, .string x.f2.f3, .slice A8 x.f2.f4.length c8, .string x.f2.f5, .bool x.f2.f6, .bool x.f2.f7, .int .i64 x.f2.f8, .string x.f3.f0, .string x.f3.f1, .string x.f3.f2, .slice A16 x.f3.f3.length c16, .int .i64 x.f3.f4, .int .i64 x.f3.f5, .bool x.f3.f6, .string x.f4.f0, .string x.f4.f1, .int .i64 x.f4.f2, .string x.f5.f0, .string x.f5.f1, .string x.f5.f2, .string x.f5.f3, .string x.f5.f4, .slice A28 x.f5.f5.length c28, .slice A29 x.f5.f6.length c29, .int .i64 x.f5.f7, .int .i64 x.f5.f8, .bool x.f5.f9, .string x.f6.f0, .string x.f6.f1, .string x.f6.f2, .string x.f6.f3, .slice A37 x.f6.f4.length c37, .string x.f6.f5, .string x.f7.f0, .string x.f7.f1, .slice A41 x.f7.f2.length c41, .string x.f7.f3, .int .i64 x.f7.f4, .bool x.f7.f5, .slice A45 x.f8.length c45] 40)) := (Below.refl _ w).alloc (Nat.le_refl _) _
  have HG29 := hid (Kd.C_below g29 hW)
  have HG41 := hid (Kd.C_below g41 hW)
  have HW := hid hW
  obtain ⟨s3, s8, s16, s28, s29, s37, s41, s45⟩ := hsz
  clear hW g3 l3 g8 l8 g16 l16 g28 l28 g29 l29 g37 l37 g41 l41 g45 l45
  by_cases e0 : (500 : Int) < (x.f1.f2.length : Int) + (x.f2.f4.length : Int)
  · have u0 : decide ((500 : Int) < (x.f1.f2.length : Int) + (x.f2.f4.length : Int)) = true := decide_eq_true (by omega)
    go_enter Try.func5, Try.ntmps5
    go_wp2
    go_ret
    exact ⟨true, rfl, HW.out, fun e => by cases e⟩
  · have u0 : decide ((500 : Int) < (x.f1.f2.length : Int) + (x.f2.f4.length : Int)) = false := decide_eq_false (by omega)
    by_cases e1 : (500 : Int) < (x.f3.f3.length : Int)
    · have u1 : decide ((500 : Int) < (x.f3.f3.length : Int)) = true := decide_eq_true (by omega)
      have w1 : decide (500 < x.f3.f3.length) = true := decide_eq_true (by omega)
      go_enter Try.func5, Try.ntmps5
      go_wp2
      go_ret
      exact ⟨true, rfl, HW.out, fun e => by cases e⟩
    · have u1 : decide ((500 : Int) < (x.f3.f3.length : Int)) = false := decide_eq_false (by omega)
      have w1 : decide (500 < x.f3.f3.length) = false := decide_eq_false (by omega)
      by_cases e2 : (500 : Int) < (x.f5.f5.length : Int)
      · have u2 : decide ((500 : Int) < (x.f5.f5.length : Int)) = true := decide_eq_true (by omega)
        have w2 : decide (500 < x.f5.f5.length) = true := decide_eq_true (by omega)
        go_enter Try.func5, Try.ntmps5
        go_wp2
        go_ret
        exact ⟨true, rfl, HW.out, fun e => by cases e⟩
      · have u2 : decide ((500 : Int) < (x.f5.f5.length : Int)) = false := decide_eq_false (by omega)
        have w2 : decide (500 < x.f5.f5.length) = false := decide_eq_false (by omega)
        by_cases e3 : (50 : Int) < (x.f5.f6.length : Int)
        · have u3 : decide ((50 : Int) < (x.f5.f6.length : Int)) = true := decide_eq_true (by omega)
          have w3 : decide (50 < x.f5.f6.length) = true := decide_eq_true (by omega)
          go_enter Try.func5, Try.ntmps5
          go_wp2
          go_ret
          exact ⟨true, rfl, HW.out, fun e => by cases e⟩
        · have u3 : decide ((50 : Int) < (x.f5.f6.length : Int)) = false := decide_eq_false (by omega)
          have w3 : decide (50 < x.f5.f6.length) = false := decide_eq_false (by omega)
          by_cases e4 : (500 : Int) < (x.f6.f4.length : Int)
          · have u4 : decide ((500 : Int) < (x.f6.f4.length : Int)) = true := decide_eq_true (by omega)
            have w4 : decide (500 < x.f6.f4.length) = true := decide_eq_true (by omega)
            go_enter Try.func5, Try.ntmps5
            go_wp2
            go_ret
            exact ⟨true, rfl, HW.out, fun e => by cases e⟩
          · have u4 : decide ((500 : Int) < (x.f6.f4.length : Int)) = false := decide_eq_false (by omega)
            have w4 : decide (500 < x.f6.f4.length) = false := decide_eq_false (by omega)
            by_cases e5 : (50 : Int) < (x.f7.f2.length : Int)
            · have u5 : decide ((50 : Int) < (x.f7.f2.length : Int)) = true := decide_eq_true (by omega)
              have w5 : decide (50 < x.f7.f2.length) = true := decide_eq_true (by omega)
              go_enter Try.func5, Try.ntmps5
              go_wp2
              go_ret
              exact ⟨true, rfl, HW.out, fun e => by cases e⟩
            · have u5 : decide ((50 : Int) < (x.f7.f2.length : Int)) = false := decide_eq_false (by omega)
              have w5 : decide (50 < x.f7.f2.length) = false := decide_eq_false (by omega)
              by_cases e6 : (500 : Int) < (x.f8.length : Int)
              · have u6 : decide ((500 : Int) < (x.f8.length : Int)) = true := decide_eq_true (by omega)
                have w6 : decide (500 < x.f8.length) = true := decide_eq_true (by omega)
                go_enter Try.func5, Try.ntmps5
                go_wp2
                go_ret
                exact ⟨true, rfl, HW.out, fun e => by cases e⟩
              · have u6 : decide ((500 : Int) < (x.f8.length : Int)) = false := decide_eq_false (by omega)
                have w6 : decide (500 < x.f8.length) = false := decide_eq_false (by omega)
                go_enter Try.func5, Try.ntmps5
                go_wp2
                go_loop [4] (fun i => ∃ k : Nat, k ≤ x.f5.f6.length ∧ i = .int .i64 k ∧ Hid (∀ j, j < k → ((x.f5.f6.getD j z51).f1).length ≤ 100)) (fun i => x.f5.f6.length - (intOf i).toNat)
                case atStart => exact ⟨0, by omega, rfl, hid (fun jj hj => by omega)⟩
                case round =>
                  obtain ⟨k, hkk, rfl, hallk⟩ := hrel
                  by_cases ck : k < x.f5.f6.length
                  · have tk : decide (k < x.f5.f6.length) = true := decide_eq_true ck
                    obtain ⟨ad, A1, c1, hA, hx0, hx1, hl1, hC1⟩ := at_T51 HG29.out (k : Int) (by omega) (by omega)
                    subst hA
                    rw [Int.toNat_natCast] at hx1
                    obtain ⟨y, hy⟩ : ∃ y, x.f5.f6.getD k z51 = y := ⟨_, rfl⟩
                    have hrd : rd_T51 x.f5.f6 (k : Int) = y := by unfold rd_T51; rw [Int.toNat_natCast, hy]
                    rw [hrd] at hx1
                    have HYY := hid hy
                    clear hx0 hl1 hC1 hrd hy
                    by_cases dk : 100 < y.f1.length
                    · have v1 : decide ((100 : Int) < (y.f1.length : Int)) = true := decide_eq_true (by omega)
                      have v2 : decide (100 < y.f1.length) = true := decide_eq_true dk
                      go_wp2
                      go_ret
                      exact ⟨true, rfl, HW.out, fun e => by cases e⟩
                    · have v1 : decide ((100 : Int) < (y.f1.length : Int)) = false := decide_eq_false (by omega)
                      have v2 : decide (100 < y.f1.length) = false := decide_eq_false dk
                      go_wp2
                      go_round
                      case rel => exact ⟨k + 1, by omega, by go_num, hid (fun jj hj => by
                        by_cases e : jj = k
                        · rw [e, HYY.out]; omega
                        · exact hallk.out jj (by omega))⟩
                      case measure => simp [intOf]; omega
                  · have tk : decide (k < x.f5.f6.length) = false := decide_eq_false ck
                    obtain rfl : k = x.f5.f6.length := by omega
                    go_wp2
                    go_loop [5] (fun i => ∃ k : Nat, k ≤ x.f7.f2.length ∧ i = .int .i64 k ∧ Hid (∀ j, j < k → ((x.f7.f2.getD j z51).f1).length ≤ 100)) (fun i => x.f7.f2.length - (intOf i).toNat)
                    case atStart => exact ⟨0, by omega, rfl, hid (fun jj hj => by omega)⟩
                    case round =>
                      obtain ⟨j, hkj, rfl, hallj⟩ := hrel
                      by_cases cj : j < x.f7.f2.length
                      · have tj : decide (j < x.f7.f2.length) = true := decide_eq_true cj
                        obtain ⟨ad, A1, c1, hA, hx0, hx1, hl1, hC1⟩ := at_T51 HG41.out (j : Int) (by omega) (by omega)
                        subst hA
                        rw [Int.toNat_natCast] at hx1
                        obtain ⟨y, hy⟩ : ∃ y, x.f7.f2.getD j z51 = y := ⟨_, rfl⟩
                        have hrd : rd_T51 x.f7.f2 (j : Int) = y := by unfold rd_T51; rw [Int.toNat_natCast, hy]
                        rw [hrd] at hx1
                        have HYY := hid hy
                        clear hx0 hl1 hC1 hrd hy
                        by_cases dj : 100 < y.f1.length
                        · have v1 : decide ((100 : Int) < (y.f1.length : Int)) = true := decide_eq_true (by omega)
                          have v2 : decide (100 < y.f1.length) = true := decide_eq_true dj
                          go_wp2
                          go_ret
                          exact ⟨true, rfl, HW.out, fun e => by cases e⟩
                        · have v1 : decide ((100 : Int) < (y.f1.length : Int)) = false := decide_eq_false (by omega)
                          have v2 : decide (100 < y.f1.length) = false := decide_eq_false dj
                          go_wp2
                          go_round
                          case rel => exact ⟨j + 1, by omega, by go_num, hid (fun jj hj => by
                            by_cases e : jj = j
                            · rw [e, HYY.out]; omega
                            · exact hallj.out jj (by omega))⟩
                          case measure => simp [intOf]; omega
                      · have tj : decide (j < x.f7.f2.length) = false := decide_eq_false cj
                        obtain rfl : j = x.f7.f2.length := by omega
                        go_wp2
                        go_ret
                        exact ⟨false, rfl, HW.out, fun _ => ⟨by omega, by omega, by omega, by omega, by omega, by omega, by omega, hallk.out, hallj.out⟩⟩
end Go.Proofs.Ytcgjacffemjehaa

namespace Go.Proofs.Ytcgjacffemjehaa
open Go.RowKit
open Go.Proofs.YtcgjacffemjehaaW.PrintWords (Kd rdOf)
open Go.Proofs.Ytcgjacffemjehaa.PRowPacks
set_option linter.unusedVariables false
def rowB (x : S40) : List UInt8 := if x.f0 = 1 then consentB x.f1 else if x.f0 = 2 then codeB x.f2 else if x.f0 = 3 then familyB x.f3 else if x.f0 = 4 then refreshB x.f4 else if x.f0 = 5 then accessB x.f5 else if x.f0 = 6 then resourceB x.f6 else if x.f0 = 7 then ticketB x.f7 else if x.f0 = 8 then keysB x.f8 else []
def Small (x : S40) : Prop := OkConsent x.f1 ∧ OkCode x.f2 ∧ OkFamily x.f3 ∧ OkRefresh x.f4 ∧ OkAccess x.f5 ∧ OkResource x.f6 ∧ OkTicket x.f7 ∧ SzK x.f8
def Fits (x : S40) : Prop := (consentB x.f1).length ≤ 549755813888 ∧ (codeB x.f2).length ≤ 549755813888 ∧ (familyB x.f3).length ≤ 549755813888 ∧ (refreshB x.f4).length ≤ 549755813888 ∧ (accessB x.f5).length ≤ 549755813888 ∧ (resourceB x.f6).length ≤ 549755813888 ∧ (ticketB x.f7).length ≤ 549755813888 ∧ (keysB x.f8).length ≤ 549755813888
theorem refBytes_any (w : World) (x : S40) {A3 : Option Addr} {c3 : Nat} {A8 : Option Addr} {c8 : Nat} {A16 : Option Addr} {c16 : Nat} {A28 : Option Addr} {c28 : Nat} {A29 : Option Addr} {c29 : Nat} {A37 : Option Addr} {c37 : Nat} {A41 : Option Addr} {c41 : Nat} {A45 : Option Addr} {c45 : Nat} (l3 : x.f1.f2.length ≤ c3) (g3 : Kd.string.C w A3 x.f1.f2.length x.f1.f2) (l8 : x.f2.f4.length ≤ c8) (g8 : Kd.string.C w A8 x.f2.f4.length x.f2.f4) (l16 : x.f3.f3.length ≤ c16) (g16 : Kd.string.C w A16 x.f3.f3.length x.f3.f3) (l28 : x.f5.f5.length ≤ c28) (g28 : Kd.string.C w A28 x.f5.f5.length x.f5.f5) (l29 : x.f5.f6.length ≤ c29) (g29 : k51.C w A29 x.f5.f6.length x.f5.f6) (l37 : x.f6.f4.length ≤ c37) (g37 : Kd.string.C w A37 x.f6.f4.length x.f6.f4) (l41 : x.f7.f2.length ≤ c41) (g41 : k51.C w A41 x.f7.f2.length x.f7.f2) (l45 : x.f8.length ≤ c45) (g45 : k85.C w A45 x.f8.length x.f8) (hs : Small x) (hf : Fits x) :
    Calls Try.prog 7 #[.agg #[.int .i64 x.f0, .string x.f1.f0, .string x.f1.f1, .slice A3 x.f1.f2.length c3, .string x.f2.f0, .string x.f2.f1, .string x.f2.f2, .string x.f2.f3, .slice A8 x.f2.f4.length c8, .string x.f2.f5, .bool x.f2.f6, .bool x.f2.f7, .int .i64 x.f2.f8, .string x.f3.f0, .string x.f3.f1, .string x.f3.f2, .slice A16 x.f3.f3.length c16, .int .i64 x.f3.f4, .int .i64 x.f3.f5, .bool x.f3.f6, .string x.f4.f0, .string x.f4.f1, .int .i64 x.f4.f2, .string x.f5.f0, .string x.f5.f1, .string x.f5.f2, .string x.f5.f3, .string x.f5.f4, .slice A28 x.f5.f5.length c28, .slice A29 x.f5.f6.length c29, .int .i64 x.f5.f7, .int .i64 x.f5.f8, .bool x.f5.f9, .string x.f6.f0, .string x.f6.f1, .string x.f6.f2, .string x.f6.f3, .slice A37 x.f6.f4.length c37, .string x.f6.f5, .string x.f7.f0, .string x.f7.f1, .slice A41 x.f7.f2.length c41, .string x.f7.f3, .int .i64 x.f7.f4, .bool x.f7.f5, .slice A45 x.f8.length c45]] w (TextPost (rowB x) w) := by
  obtain ⟨s1, s2, s3, s4, s5, s6, s7, s8⟩ := hs
  obtain ⟨f1, f2, f3, f4, f5, f6, f7, f8⟩ := hf
  unfold rowB
  by_cases k1 : x.f0 = 1
  · rw [if_pos k1, k1]
    exact refConsent w x l3 g3 l8 g8 l16 g16 l28 g28 l29 g29 l37 g37 l41 g41 l45 g45 s1 f1
  rw [if_neg k1]
  by_cases k2 : x.f0 = 2
  · rw [if_pos k2, k2]
    exact refCode w x l3 g3 l8 g8 l16 g16 l28 g28 l29 g29 l37 g37 l41 g41 l45 g45 s2 f2
  rw [if_neg k2]
  by_cases k3 : x.f0 = 3
  · rw [if_pos k3, k3]
    exact refFamily w x l3 g3 l8 g8 l16 g16 l28 g28 l29 g29 l37 g37 l41 g41 l45 g45 s3 f3
  rw [if_neg k3]
  by_cases k4 : x.f0 = 4
  · rw [if_pos k4, k4]
    exact refRefresh w x l3 g3 l8 g8 l16 g16 l28 g28 l29 g29 l37 g37 l41 g41 l45 g45 s4 f4
  rw [if_neg k4]
  by_cases k5 : x.f0 = 5
  · rw [if_pos k5, k5]
    exact refAccess w x l3 g3 l8 g8 l16 g16 l28 g28 l29 g29 l37 g37 l41 g41 l45 g45 s5 f5
  rw [if_neg k5]
  by_cases k6 : x.f0 = 6
  · rw [if_pos k6, k6]
    exact refResource w x l3 g3 l8 g8 l16 g16 l28 g28 l29 g29 l37 g37 l41 g41 l45 g45 s6 f6
  rw [if_neg k6]
  by_cases k7 : x.f0 = 7
  · rw [if_pos k7, k7]
    exact refTicket w x l3 g3 l8 g8 l16 g16 l28 g28 l29 g29 l37 g37 l41 g41 l45 g45 s7 f7
  rw [if_neg k7]
  by_cases k8 : x.f0 = 8
  · rw [if_pos k8, k8]
    exact refKeysRow w x l3 g3 l8 g8 l16 g16 l28 g28 l29 g29 l37 g37 l41 g41 l45 g45 s8 f8
  rw [if_neg k8]
  exact refNone w x l3 g3 l8 g8 l16 g16 l28 g28 l29 g29 l37 g37 l41 g41 l45 g45 (by omega)
theorem lawBytes_any (w : World) (x : S40) {A3 : Option Addr} {c3 : Nat} {A8 : Option Addr} {c8 : Nat} {A16 : Option Addr} {c16 : Nat} {A28 : Option Addr} {c28 : Nat} {A29 : Option Addr} {c29 : Nat} {A37 : Option Addr} {c37 : Nat} {A41 : Option Addr} {c41 : Nat} {A45 : Option Addr} {c45 : Nat} (l3 : x.f1.f2.length ≤ c3) (g3 : Kd.string.C w A3 x.f1.f2.length x.f1.f2) (l8 : x.f2.f4.length ≤ c8) (g8 : Kd.string.C w A8 x.f2.f4.length x.f2.f4) (l16 : x.f3.f3.length ≤ c16) (g16 : Kd.string.C w A16 x.f3.f3.length x.f3.f3) (l28 : x.f5.f5.length ≤ c28) (g28 : Kd.string.C w A28 x.f5.f5.length x.f5.f5) (l29 : x.f5.f6.length ≤ c29) (g29 : k51.C w A29 x.f5.f6.length x.f5.f6) (l37 : x.f6.f4.length ≤ c37) (g37 : Kd.string.C w A37 x.f6.f4.length x.f6.f4) (l41 : x.f7.f2.length ≤ c41) (g41 : k51.C w A41 x.f7.f2.length x.f7.f2) (l45 : x.f8.length ≤ c45) (g45 : k85.C w A45 x.f8.length x.f8) (hs : Small x) (hf : Fits x) :
    Calls Try.prog 6 #[.agg #[.int .i64 x.f0, .string x.f1.f0, .string x.f1.f1, .slice A3 x.f1.f2.length c3, .string x.f2.f0, .string x.f2.f1, .string x.f2.f2, .string x.f2.f3, .slice A8 x.f2.f4.length c8, .string x.f2.f5, .bool x.f2.f6, .bool x.f2.f7, .int .i64 x.f2.f8, .string x.f3.f0, .string x.f3.f1, .string x.f3.f2, .slice A16 x.f3.f3.length c16, .int .i64 x.f3.f4, .int .i64 x.f3.f5, .bool x.f3.f6, .string x.f4.f0, .string x.f4.f1, .int .i64 x.f4.f2, .string x.f5.f0, .string x.f5.f1, .string x.f5.f2, .string x.f5.f3, .string x.f5.f4, .slice A28 x.f5.f5.length c28, .slice A29 x.f5.f6.length c29, .int .i64 x.f5.f7, .int .i64 x.f5.f8, .bool x.f5.f9, .string x.f6.f0, .string x.f6.f1, .string x.f6.f2, .string x.f6.f3, .slice A37 x.f6.f4.length c37, .string x.f6.f5, .string x.f7.f0, .string x.f7.f1, .slice A41 x.f7.f2.length c41, .string x.f7.f3, .int .i64 x.f7.f4, .bool x.f7.f5, .slice A45 x.f8.length c45]] w (TextPost (rowB x) w) := by
  obtain ⟨s1, s2, s3, s4, s5, s6, s7, s8⟩ := hs
  obtain ⟨f1, f2, f3, f4, f5, f6, f7, f8⟩ := hf
  unfold rowB
  by_cases k1 : x.f0 = 1
  · rw [if_pos k1, k1]
    exact lawConsent w x l3 g3 l8 g8 l16 g16 l28 g28 l29 g29 l37 g37 l41 g41 l45 g45 s1 f1
  rw [if_neg k1]
  by_cases k2 : x.f0 = 2
  · rw [if_pos k2, k2]
    exact lawCode w x l3 g3 l8 g8 l16 g16 l28 g28 l29 g29 l37 g37 l41 g41 l45 g45 s2 f2
  rw [if_neg k2]
  by_cases k3 : x.f0 = 3
  · rw [if_pos k3, k3]
    exact lawFamily w x l3 g3 l8 g8 l16 g16 l28 g28 l29 g29 l37 g37 l41 g41 l45 g45 s3 f3
  rw [if_neg k3]
  by_cases k4 : x.f0 = 4
  · rw [if_pos k4, k4]
    exact lawRefresh w x l3 g3 l8 g8 l16 g16 l28 g28 l29 g29 l37 g37 l41 g41 l45 g45 s4 f4
  rw [if_neg k4]
  by_cases k5 : x.f0 = 5
  · rw [if_pos k5, k5]
    exact lawAccess w x l3 g3 l8 g8 l16 g16 l28 g28 l29 g29 l37 g37 l41 g41 l45 g45 s5 f5
  rw [if_neg k5]
  by_cases k6 : x.f0 = 6
  · rw [if_pos k6, k6]
    exact lawResource w x l3 g3 l8 g8 l16 g16 l28 g28 l29 g29 l37 g37 l41 g41 l45 g45 s6 f6
  rw [if_neg k6]
  by_cases k7 : x.f0 = 7
  · rw [if_pos k7, k7]
    exact lawTicket w x l3 g3 l8 g8 l16 g16 l28 g28 l29 g29 l37 g37 l41 g41 l45 g45 s7 f7
  rw [if_neg k7]
  by_cases k8 : x.f0 = 8
  · rw [if_pos k8, k8]
    exact lawKeysRow w x l3 g3 l8 g8 l16 g16 l28 g28 l29 g29 l37 g37 l41 g41 l45 g45 s8 f8
  rw [if_neg k8]
  exact lawNone w x l3 g3 l8 g8 l16 g16 l28 g28 l29 g29 l37 g37 l41 g41 l45 g45 (by omega)
theorem flat_le {α : Type} (f : α → List UInt8) (B : Nat) (l : List α) (h : ∀ x ∈ l, (f x).length ≤ B) : (l.flatMap f).length ≤ l.length * B := by
  induction l with
  | nil => simp
  | cons x l ih =>
    rw [List.flatMap_cons, List.length_append, List.length_cons, Nat.add_mul]
    have h1 := h x List.mem_cons_self
    have h2 := ih (fun y hy => h y (List.mem_cons_of_mem _ hy))
    omega
theorem textB_le {s : ByteArray} (h : Sz s) : (textB s).length ≤ 1048580 := by
  have h' : s.size ≤ 1048576 := h
  rw [textB, List.length_append, four_len, str_len]
  omega
theorem textsB_le {l : List ByteArray} (h : SzL l) (n : Nat) (hn : l.length ≤ n) : (textsB l).length ≤ 4 + n * 1048580 := by
  rw [textsB, List.length_append, four_len]
  have h1 := flat_le textB 1048580 l (fun x hx => textB_le (h.2 x hx))
  have h2 := Nat.mul_le_mul_right 1048580 hn
  omega
theorem permsB_le {l : List S51} (h : SzP l) (hn : l.length ≤ 50) (hs : ∀ j, j < l.length → ((l.getD j z51).f1).length ≤ 100) : (permsB l).length ≤ 6000000000 := by
  rw [permsB, List.length_append, four_len]
  have h1 := flat_le permB 105906584 l (fun x hx => by
    obtain ⟨j, hj, rfl⟩ := List.getElem_of_mem hx
    have h2 := hs j hj
    rw [List.getD_eq_getElem?_getD, List.getElem?_eq_getElem hj, Option.getD_some] at h2
    have h3 := textB_le (h.2 _ hx).1
    have h4 := textsB_le (h.2 _ hx).2 100 h2
    rw [permB, List.length_append]
    omega)
  have h2 := Nat.mul_le_mul_right 105906584 hn
  omega
theorem keysB_le {l : List S85} (h : SzK l) (hn : l.length ≤ 500) : (keysB l).length ≤ 2000000000 := by
  rw [keysB, List.length_append, four_len]
  have h1 := flat_le keyB 2097160 l (fun x hx => by
    have h3 := textB_le (h.2 _ hx).1
    have h4 := textB_le (h.2 _ hx).2
    rw [keyB, List.length_append]
    omega)
  have h2 := Nat.mul_le_mul_right 2097160 hn
  omega
theorem eight_len (n : Int) : (eight n).length = 8 := rfl
theorem truth_len (b : Bool) : (truthB b).length = 1 := rfl
theorem fits (x : S40) (hs : Small x) (hn : Near x) : Fits x := by
  obtain ⟨s1, s2, s3, s4, s5, s6, s7, s8⟩ := hs
  obtain ⟨n1, n2, n3, n4, n5, n6, n7, n8, n9⟩ := hn
  refine ⟨?_, ?_, ?_, ?_, ?_, ?_, ?_, ?_⟩
  · have e0 := textB_le s1.1
    have e1 := textB_le s1.2.1
    have e2 := textsB_le s1.2.2 500 (by omega)
    simp only [consentB, List.length_append]
    omega
  · have e0 := textB_le s2.1
    have e1 := textB_le s2.2.1
    have e2 := textB_le s2.2.2.1
    have e3 := textB_le s2.2.2.2.1
    have e4 := textsB_le s2.2.2.2.2.1 500 (by omega)
    have e5 := textB_le s2.2.2.2.2.2.1
    have e6 := truth_len x.f2.f6
    have e7 := truth_len x.f2.f7
    have e8 := eight_len x.f2.f8
    simp only [codeB, List.length_append]
    omega
  · have e0 := textB_le s3.1
    have e1 := textB_le s3.2.1
    have e2 := textB_le s3.2.2.1
    have e3 := textsB_le s3.2.2.2.1 500 (by omega)
    have e4 := eight_len x.f3.f4
    have e5 := eight_len x.f3.f5
    have e6 := truth_len x.f3.f6
    simp only [familyB, List.length_append]
    omega
  · have e0 := textB_le s4.1
    have e1 := textB_le s4.2.1
    have e2 := eight_len x.f4.f2
    simp only [refreshB, List.length_append]
    omega
  · have e0 := textB_le s5.1
    have e1 := textB_le s5.2.1
    have e2 := textB_le s5.2.2.1
    have e3 := textB_le s5.2.2.2.1
    have e4 := textB_le s5.2.2.2.2.1
    have e5 := textsB_le s5.2.2.2.2.2.1 500 (by omega)
    have e6 := permsB_le s5.2.2.2.2.2.2.1 n4 n8
    have e7 := eight_len x.f5.f7
    have e8 := eight_len x.f5.f8
    have e9 := truth_len x.f5.f9
    simp only [accessB, List.length_append]
    omega
  · have e0 := textB_le s6.1
    have e1 := textB_le s6.2.1
    have e2 := textB_le s6.2.2.1
    have e3 := textB_le s6.2.2.2.1
    have e4 := textsB_le s6.2.2.2.2.1 500 (by omega)
    have e5 := textB_le s6.2.2.2.2.2
    simp only [resourceB, List.length_append]
    omega
  · have e0 := textB_le s7.1
    have e1 := textB_le s7.2.1
    have e2 := permsB_le s7.2.2.1 n6 n9
    have e3 := textB_le s7.2.2.2.1
    have e4 := eight_len x.f7.f4
    have e5 := truth_len x.f7.f5
    simp only [ticketB, List.length_append]
    omega
  · have := keysB_le s8 n7
    omega
theorem lens (x : S40) (hs : Small x) : x.f1.f2.length ≤ 1048576 ∧ x.f2.f4.length ≤ 1048576 ∧ x.f3.f3.length ≤ 1048576 ∧ x.f5.f5.length ≤ 1048576 ∧ x.f5.f6.length ≤ 1048576 ∧ x.f6.f4.length ≤ 1048576 ∧ x.f7.f2.length ≤ 1048576 ∧ x.f8.length ≤ 1048576 := by
  obtain ⟨s1, s2, s3, s4, s5, s6, s7, s8⟩ := hs
  exact ⟨(s1.2.2).1, (s2.2.2.2.2.1).1, (s3.2.2.2.1).1, (s5.2.2.2.2.2.1).1, (s5.2.2.2.2.2.2.1).1, (s6.2.2.2.2.1).1, (s7.2.2.1).1, s8.1⟩
end Go.Proofs.Ytcgjacffemjehaa

namespace Go.Proofs.Ytcgjacffemjehaa
open Go.RowKit
set_option linter.unusedVariables false

structure Mod (S : Nat → Prop) (w w' : World) : Prop where
  os : w'.os = w.os
  tape : w'.tape = w.tape
  output : w'.output = w.output
  size : w.heap.size ≤ w'.heap.size
  block : ∀ k, k < w.heap.size → ¬ S k → w'.heap[k]? = w.heap[k]?

theorem Mod.refl (S : Nat → Prop) (w : World) : Mod S w w := ⟨rfl, rfl, rfl, Nat.le_refl _, fun _ _ _ => rfl⟩
theorem Mod.trans {S S' : Nat → Prop} {a b c : World} (h : Mod S a b) (k : Mod S' b c) (hS : ∀ x, S' x → S x ∨ a.heap.size ≤ x) : Mod S a c :=
  ⟨k.os.trans h.os, k.tape.trans h.tape, k.output.trans h.output, Nat.le_trans h.size k.size, fun i hi hn =>
    (k.block i (Nat.lt_of_lt_of_le hi h.size) (fun e => by rcases hS i e with e | e; exact hn e; omega)).trans (h.block i hi hn)⟩
theorem Mod.mono {S S' : Nat → Prop} {a b : World} (h : Mod S a b) (hS : ∀ x, x < a.heap.size → S x → S' x) : Mod S' a b := ⟨h.os, h.tape, h.output, h.size, fun k hk hn => h.block k hk (fun e => hn (hS k hk e))⟩
theorem Mod.drew {S : Nat → Prop} {a b : World} (h : Mod S a b) : Mod S a b.drew := ⟨h.os, h.tape, h.output, h.size, h.block⟩
theorem Mod.alloc {S : Nat → Prop} {a b : World} (h : Mod S a b) (o : Obj) : Mod S a (b.alloc o) :=
  ⟨h.os, h.tape, h.output, by have := h.size; simp; omega, fun k hk hn => by rw [Below.heap_alloc _ _ _ (by have := h.size; omega)]; exact h.block k hk hn⟩
theorem Mod.setCell {S : Nat → Prop} {a b : World} (h : Mod S a b) (p : Addr) (v : Value) (hp : S p.block ∨ a.heap.size ≤ p.block) : Mod S a (b.setCell p v) :=
  ⟨h.os, h.tape, h.output, by have := h.size; simp [World.setCell]; exact this, fun k hk hn => by
    rw [Below.heap_setCell _ _ _ _ (fun e => by subst e; rcases hp with hp | hp; exact hn hp; omega)]; exact h.block k hk hn⟩
theorem Mod.below {S : Nat → Prop} {w w' : World} (h : Mod S w w') {B : Nat} (hB : B ≤ w.heap.size) (hS : ∀ x, S x → B ≤ x) : Below B w w' :=
  ⟨h.os, h.tape, h.output, h.size, fun k hk => h.block k (by omega) (fun e => by have := hS k e; omega)⟩
theorem Mod.of_below {B : Nat} {w w' : World} (h : Below B w w') {S : Nat → Prop} (hS : ∀ x, x < w.heap.size → B ≤ x → S x) : Mod S w w' :=
  ⟨h.os, h.tape, h.output, h.size, fun k hk hn => h.block k (by rcases Nat.lt_or_ge k B with e | e; exact e; exact absurd (hS k hk e) hn)⟩
theorem Mod.new {w w' : World} (h : Below w.heap.size w w') (S : Nat → Prop) : Mod S w w' := Mod.of_below h (fun x h1 h2 => by omega)
theorem Mod.grown {S : Nat → Prop} {a b c : World} {row : Option Nat} (h : Mod S a b) (hg : b.grownBy c row) (hr : ∀ k, row = some k → S k ∨ a.heap.size ≤ k) : Mod S a c :=
  ⟨hg.os.trans h.os, hg.tape.trans h.tape, hg.output.trans h.output, Nat.le_trans h.size hg.size, fun k hk hn =>
    (hg.block k (Nat.lt_of_lt_of_le hk h.size) (fun e => by rcases hr k e.symm with e | e; exact hn e; omega)).trans (h.block k hk hn)⟩
theorem Mod.cell {S : Nat → Prop} {w w' : World} (h : Mod S w w') {p : Addr} {v : Value} (hc : w.cell? p = some v) (hn : ¬ S p.block) : w'.cell? p = some v :=
  (World.cell?_of_block (w := w) (h.block p.block (lt_of_cell hc) hn)).trans hc
theorem lt_of_heap {w : World} {k : Nat} {o : Obj} (h : w.heap[k]? = some o) : k < w.heap.size := (Array.getElem?_eq_some_iff.1 h).1
theorem Mod.heap {S : Nat → Prop} {w w' : World} (h : Mod S w w') {k : Nat} {o : Obj} (hc : w.heap[k]? = some o) (hn : ¬ S k) : w'.heap[k]? = some o :=
  (h.block k (lt_of_heap hc) hn).trans hc

/-- A thing that lay in F lies in F'; nothing else that was there was written. -/
structure Step (F : Nat → Prop) (w w' : World) (F' : Nat → Prop) : Prop where
  mod : Mod F w w'
  foot : ∀ k, F' k → F k ∨ w.heap.size ≤ k
theorem Step.refl (F : Nat → Prop) (w : World) : Step F w w F := ⟨Mod.refl _ _, fun _ h => .inl h⟩
theorem Step.trans {F G H : Nat → Prop} {a b c : World} (h : Step F a b G) (k : Step G b c H) : Step F a c H :=
  ⟨h.mod.trans k.mod h.foot, fun x hx => by
    rcases k.foot x hx with e | e
    · exact h.foot x e
    · exact .inr (Nat.le_trans h.mod.size e)⟩
/-- Beside a call that writes nothing that was there. -/
theorem Step.then_new {F G : Nat → Prop} {a b c : World} (h : Step F a b G) (k : Below b.heap.size b c) : Step F a c G :=
  h.trans ⟨Mod.new k _, fun _ e => .inl e⟩
theorem Step.new_then {F G : Nat → Prop} {a b c : World} (h : Below a.heap.size a b) (k : Step F b c G) : Step F a c G :=
  Step.trans ⟨Mod.new h _, fun _ e => .inl e⟩ k
theorem Step.below {F F' : Nat → Prop} {w w' : World} (h : Step F w w' F') {B : Nat} (hB : B ≤ w.heap.size) (hF : ∀ x, F x → B ≤ x) : Below B w w' ∧ ∀ x, F' x → B ≤ x :=
  ⟨h.mod.below hB hF, fun x hx => by rcases h.foot x hx with e | e; exact hF x e; omega⟩
end Go.Proofs.Ytcgjacffemjehaa

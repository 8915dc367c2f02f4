/-
  RowS: this proof's parts in one text.
-/
import Derived.Test.YtcgjacffemjehaaMRowPacksRowc
namespace Go.Proofs.Ytcgjacffemjehaa
open Go.RowKit
open Go.Proofs.YtcgjacffemjehaaW.PrintWords (Kd rdOf)
open Go.Proofs.Ytcgjacffemjehaa.PRowPacks
set_option linter.unusedVariables false
/-- A new coder. -/
theorem WS.new (w0 : World) : WS w0 w0.heap.size (.slice none 0 0) [] (w0.alloc (.cells #[.slice none 0 0, .bool false, .bool false] 88)) :=
  ⟨(Below.refl _ _).alloc (Nat.le_refl _) _, Nat.le_refl _, heap_alloc_new w0 _, OwnB.nil _ _ _⟩
/-- The bytes that a call has made. -/
def BytesPost (l : List UInt8) (w : World) (e : Ending) (w' : World) : Prop := ∃ v, e = .returned v ∧ ReadsB w' v l ∧ Below w.heap.size w w'
theorem cells_of_alloc (w : World) (cs : Array Value) (T : TypeId) : ∀ i u, cs.toList[i]? = some u → (w.alloc (.cells cs T)).cell? ⟨w.heap.size, i, none⟩ = some u := by
  intro i u h
  rw [World.cell?_alloc_new]
  simpa using h
set_option maxHeartbeats 4000000 in
set_option maxRecDepth 100000 in
theorem consent_w {w0 w : World} {g : Nat} {v : Value} {l : List UInt8} (h : WS w0 g v l w) (b : Nat) (x : S24) {A2 : Option Addr} {c2 : Nat} (hb : ∀ i u, [.string x.f0, .string x.f1, .slice A2 x.f2.length c2][i]? = some u → w0.cell? ⟨b, i, none⟩ = some u) (g2 : Kd.string.C w0 A2 x.f2.length x.f2) (hx : OkConsent x) (hl : (l ++ consentB x).length ≤ 549755813888) :
    Calls Try.prog 27 #[.pointer (some ⟨g, 0, none⟩), .pointer (some ⟨b, 0, none⟩)] w (WPost w0 g (l ++ consentB x) (.returned (.tuple #[]))) := by
  have HBB := hid hb
  have HX := hid hx
  have H0 := hid h
  simp only [consentB, List.length_append] at hl
  clear h hb hx
  have HG2 := hid g2
  clear g2
  go_enter Try.func27, Try.ntmps27
  go_wp2_with fail
  refine (text_w H0.out ⟨b, 0, none⟩ x.f0 (HBB.out 0 _ rfl) (Nat.le_trans HX.out.1 (by omega)) (by (try simp only [List.length_append]); omega)).mono ?_
  intro e w1 hq
  obtain ⟨rfl, v1, h⟩ := hq
  have H1 := hid h
  clear h
  go_wp2_with fail
  refine (text_w H1.out ⟨b, 1, none⟩ x.f1 (HBB.out 1 _ rfl) (Nat.le_trans HX.out.2.1 (by omega)) (by (try simp only [List.length_append]); omega)).mono ?_
  intro e w2 hq
  obtain ⟨rfl, v2, h⟩ := hq
  have H2 := hid h
  clear h
  go_wp2_with fail
  refine (texts_w H2.out ⟨b, 2, none⟩ A2 c2 x.f2 (HBB.out 2 _ rfl) HG2.out HX.out.2.2 (by (try simp only [List.length_append]); omega)).mono ?_
  intro e w3 hq
  obtain ⟨rfl, v3, h⟩ := hq
  have H3 := hid h
  clear h
  go_wp2
  go_end0
  exact WPost.mk rfl (by simp [consentB]) H3.out
set_option maxHeartbeats 4000000 in
set_option maxRecDepth 100000 in
theorem packConsent_any (w : World) (x : S24) {A2 : Option Addr} {c2 : Nat} (g2 : Kd.string.C w A2 x.f2.length x.f2) (hx : OkConsent x) (hl : (consentB x).length ≤ 549755813888) :
    Calls Try.prog 26 #[.agg #[.string x.f0, .string x.f1, .slice A2 x.f2.length c2], .func (.func 27) #[] #[]] w (BytesPost (consentB x) w) := by
  have HX := hid hx
  have hw := WS.new (w.alloc (.cells #[.string x.f0, .string x.f1, .slice A2 x.f2.length c2] 24))
  rw [World.size_alloc] at hw
  have HW := hid hw
  have hcc := cells_of_alloc w #[.string x.f0, .string x.f1, .slice A2 x.f2.length c2] 24
  have HCC := hid hcc
  clear hx hw hcc
  have hb0 : Below w.heap.size w (w.alloc (.cells #[.string x.f0, .string x.f1, .slice A2 x.f2.length c2] 24)) := (Below.refl _ _).alloc (Nat.le_refl _) _
  have HB0 := hid hb0
  clear hb0
  have HG2 := hid (Kd.C_below g2 HB0.out)
  clear g2
  go_enter Try.func26, Try.ntmps26
  go_wp2_with fail
  refine (consent_w HW.out w.heap.size x HCC.out HG2.out HX.out (by simpa using hl)).mono ?_
  intro e w1 hq
  obtain ⟨rfl, v1, h1⟩ := hq
  obtain ⟨c0, c1, c2, f0⟩ := h1.cells
  have H1 := hid h1
  clear h1
  go_wp2
  go_ret
  exact ⟨v1, rfl, H1.out.own.reads, HB0.out.trans (H1.out.below.mono (by simp))⟩
set_option maxHeartbeats 4000000 in
set_option maxRecDepth 100000 in
theorem rowConsent_any (w : World) (x : S24) {A2 : Option Addr} {c2 : Nat} (g2 : Kd.string.C w A2 x.f2.length x.f2) (hx : OkConsent x) (hl : (consentB x).length ≤ 549755813888) :
    Calls Try.prog 10 #[.agg #[.string x.f0, .string x.f1, .slice A2 x.f2.length c2]] w (BytesPost (consentB x) w) := by
  have hb0 : Below w.heap.size w (w.alloc (.cells #[.string x.f0, .string x.f1, .slice A2 x.f2.length c2] 24)) := (Below.refl _ _).alloc (Nat.le_refl _) _
  have HB0 := hid hb0
  have HX := hid hx
  clear hb0 hx
  have HG2 := hid (Kd.C_below g2 HB0.out)
  clear g2
  go_enter Try.func10, Try.ntmps10
  go_wp2_with fail
  refine (packConsent_any _ x HG2.out HX.out hl).mono ?_
  intro e w1 hq
  obtain ⟨v1, rfl, hr, hb⟩ := hq
  go_wp2
  go_ret
  exact ⟨v1, rfl, hr, HB0.out.trans (hb.mono (by simp))⟩
set_option maxHeartbeats 4000000 in
set_option maxRecDepth 100000 in
theorem code_w {w0 w : World} {g : Nat} {v : Value} {l : List UInt8} (h : WS w0 g v l w) (b : Nat) (x : S26) {A4 : Option Addr} {c4 : Nat} (hb : ∀ i u, [.string x.f0, .string x.f1, .string x.f2, .string x.f3, .slice A4 x.f4.length c4, .string x.f5, .bool x.f6, .bool x.f7, .int .i64 x.f8][i]? = some u → w0.cell? ⟨b, i, none⟩ = some u) (g4 : Kd.string.C w0 A4 x.f4.length x.f4) (hx : OkCode x) (hl : (l ++ codeB x).length ≤ 549755813888) :
    Calls Try.prog 29 #[.pointer (some ⟨g, 0, none⟩), .pointer (some ⟨b, 0, none⟩)] w (WPost w0 g (l ++ codeB x) (.returned (.tuple #[]))) := by
  have HBB := hid hb
  have HX := hid hx
  have H0 := hid h
  simp only [codeB, List.length_append] at hl
  clear h hb hx
  have HG4 := hid g4
  clear g4
  go_enter Try.func29, Try.ntmps29
  go_wp2_with fail
  refine (text_w H0.out ⟨b, 0, none⟩ x.f0 (HBB.out 0 _ rfl) (Nat.le_trans HX.out.1 (by omega)) (by (try simp only [List.length_append]); omega)).mono ?_
  intro e w1 hq
  obtain ⟨rfl, v1, h⟩ := hq
  have H1 := hid h
  clear h
  go_wp2_with fail
  refine (text_w H1.out ⟨b, 1, none⟩ x.f1 (HBB.out 1 _ rfl) (Nat.le_trans HX.out.2.1 (by omega)) (by (try simp only [List.length_append]); omega)).mono ?_
  intro e w2 hq
  obtain ⟨rfl, v2, h⟩ := hq
  have H2 := hid h
  clear h
  go_wp2_with fail
  refine (text_w H2.out ⟨b, 2, none⟩ x.f2 (HBB.out 2 _ rfl) (Nat.le_trans HX.out.2.2.1 (by omega)) (by (try simp only [List.length_append]); omega)).mono ?_
  intro e w3 hq
  obtain ⟨rfl, v3, h⟩ := hq
  have H3 := hid h
  clear h
  go_wp2_with fail
  refine (text_w H3.out ⟨b, 3, none⟩ x.f3 (HBB.out 3 _ rfl) (Nat.le_trans HX.out.2.2.2.1 (by omega)) (by (try simp only [List.length_append]); omega)).mono ?_
  intro e w4 hq
  obtain ⟨rfl, v4, h⟩ := hq
  have H4 := hid h
  clear h
  go_wp2_with fail
  refine (texts_w H4.out ⟨b, 4, none⟩ A4 c4 x.f4 (HBB.out 4 _ rfl) HG4.out HX.out.2.2.2.2.1 (by (try simp only [List.length_append]); omega)).mono ?_
  intro e w5 hq
  obtain ⟨rfl, v5, h⟩ := hq
  have H5 := hid h
  clear h
  go_wp2_with fail
  refine (text_w H5.out ⟨b, 5, none⟩ x.f5 (HBB.out 5 _ rfl) (Nat.le_trans HX.out.2.2.2.2.2.1 (by omega)) (by (try simp only [List.length_append]); omega)).mono ?_
  intro e w6 hq
  obtain ⟨rfl, v6, h⟩ := hq
  have H6 := hid h
  clear h
  go_wp2_with fail
  refine (truth_w H6.out ⟨b, 6, none⟩ x.f6 (HBB.out 6 _ rfl) (by (try simp only [List.length_append]); omega)).mono ?_
  intro e w7 hq
  obtain ⟨rfl, v7, h⟩ := hq
  have H7 := hid h
  clear h
  go_wp2_with fail
  refine (truth_w H7.out ⟨b, 7, none⟩ x.f7 (HBB.out 7 _ rfl) (by (try simp only [List.length_append]); omega)).mono ?_
  intro e w8 hq
  obtain ⟨rfl, v8, h⟩ := hq
  have H8 := hid h
  clear h
  go_wp2_with fail
  refine (num_w H8.out ⟨b, 8, none⟩ x.f8 (HBB.out 8 _ rfl) HX.out.2.2.2.2.2.2 (by (try simp only [List.length_append]); omega)).mono ?_
  intro e w9 hq
  obtain ⟨rfl, v9, h⟩ := hq
  have H9 := hid h
  clear h
  go_wp2
  go_end0
  exact WPost.mk rfl (by simp [codeB]) H9.out
set_option maxHeartbeats 4000000 in
set_option maxRecDepth 100000 in
theorem packCode_any (w : World) (x : S26) {A4 : Option Addr} {c4 : Nat} (g4 : Kd.string.C w A4 x.f4.length x.f4) (hx : OkCode x) (hl : (codeB x).length ≤ 549755813888) :
    Calls Try.prog 28 #[.agg #[.string x.f0, .string x.f1, .string x.f2, .string x.f3, .slice A4 x.f4.length c4, .string x.f5, .bool x.f6, .bool x.f7, .int .i64 x.f8], .func (.func 29) #[] #[]] w (BytesPost (codeB x) w) := by
  have HX := hid hx
  have hw := WS.new (w.alloc (.cells #[.string x.f0, .string x.f1, .string x.f2, .string x.f3, .slice A4 x.f4.length c4, .string x.f5, .bool x.f6, .bool x.f7, .int .i64 x.f8] 26))
  rw [World.size_alloc] at hw
  have HW := hid hw
  have hcc := cells_of_alloc w #[.string x.f0, .string x.f1, .string x.f2, .string x.f3, .slice A4 x.f4.length c4, .string x.f5, .bool x.f6, .bool x.f7, .int .i64 x.f8] 26
  have HCC := hid hcc
  clear hx hw hcc
  have hb0 : Below w.heap.size w (w.alloc (.cells #[.string x.f0, .string x.f1, .string x.f2, .string x.f3, .slice A4 x.f4.length c4, .string x.f5, .bool x.f6, .bool x.f7, .int .i64 x.f8] 26)) := (Below.refl _ _).alloc (Nat.le_refl _) _
  have HB0 := hid hb0
  clear hb0
  have HG4 := hid (Kd.C_below g4 HB0.out)
  clear g4
  go_enter Try.func28, Try.ntmps28
  go_wp2_with fail
  refine (code_w HW.out w.heap.size x HCC.out HG4.out HX.out (by simpa using hl)).mono ?_
  intro e w1 hq
  obtain ⟨rfl, v1, h1⟩ := hq
  obtain ⟨c0, c1, c2, f0⟩ := h1.cells
  have H1 := hid h1
  clear h1
  go_wp2
  go_ret
  exact ⟨v1, rfl, H1.out.own.reads, HB0.out.trans (H1.out.below.mono (by simp))⟩
set_option maxHeartbeats 4000000 in
set_option maxRecDepth 100000 in
theorem rowCode_any (w : World) (x : S26) {A4 : Option Addr} {c4 : Nat} (g4 : Kd.string.C w A4 x.f4.length x.f4) (hx : OkCode x) (hl : (codeB x).length ≤ 549755813888) :
    Calls Try.prog 11 #[.agg #[.string x.f0, .string x.f1, .string x.f2, .string x.f3, .slice A4 x.f4.length c4, .string x.f5, .bool x.f6, .bool x.f7, .int .i64 x.f8]] w (BytesPost (codeB x) w) := by
  have hb0 : Below w.heap.size w (w.alloc (.cells #[.string x.f0, .string x.f1, .string x.f2, .string x.f3, .slice A4 x.f4.length c4, .string x.f5, .bool x.f6, .bool x.f7, .int .i64 x.f8] 26)) := (Below.refl _ _).alloc (Nat.le_refl _) _
  have HB0 := hid hb0
  have HX := hid hx
  clear hb0 hx
  have HG4 := hid (Kd.C_below g4 HB0.out)
  clear g4
  go_enter Try.func11, Try.ntmps11
  go_wp2_with fail
  refine (packCode_any _ x HG4.out HX.out hl).mono ?_
  intro e w1 hq
  obtain ⟨v1, rfl, hr, hb⟩ := hq
  go_wp2
  go_ret
  exact ⟨v1, rfl, hr, HB0.out.trans (hb.mono (by simp))⟩
set_option maxHeartbeats 4000000 in
set_option maxRecDepth 100000 in
theorem family_w {w0 w : World} {g : Nat} {v : Value} {l : List UInt8} (h : WS w0 g v l w) (b : Nat) (x : S28) {A3 : Option Addr} {c3 : Nat} (hb : ∀ i u, [.string x.f0, .string x.f1, .string x.f2, .slice A3 x.f3.length c3, .int .i64 x.f4, .int .i64 x.f5, .bool x.f6][i]? = some u → w0.cell? ⟨b, i, none⟩ = some u) (g3 : Kd.string.C w0 A3 x.f3.length x.f3) (hx : OkFamily x) (hl : (l ++ familyB x).length ≤ 549755813888) :
    Calls Try.prog 31 #[.pointer (some ⟨g, 0, none⟩), .pointer (some ⟨b, 0, none⟩)] w (WPost w0 g (l ++ familyB x) (.returned (.tuple #[]))) := by
  have HBB := hid hb
  have HX := hid hx
  have H0 := hid h
  simp only [familyB, List.length_append] at hl
  clear h hb hx
  have HG3 := hid g3
  clear g3
  go_enter Try.func31, Try.ntmps31
  go_wp2_with fail
  refine (text_w H0.out ⟨b, 0, none⟩ x.f0 (HBB.out 0 _ rfl) (Nat.le_trans HX.out.1 (by omega)) (by (try simp only [List.length_append]); omega)).mono ?_
  intro e w1 hq
  obtain ⟨rfl, v1, h⟩ := hq
  have H1 := hid h
  clear h
  go_wp2_with fail
  refine (text_w H1.out ⟨b, 1, none⟩ x.f1 (HBB.out 1 _ rfl) (Nat.le_trans HX.out.2.1 (by omega)) (by (try simp only [List.length_append]); omega)).mono ?_
  intro e w2 hq
  obtain ⟨rfl, v2, h⟩ := hq
  have H2 := hid h
  clear h
  go_wp2_with fail
  refine (text_w H2.out ⟨b, 2, none⟩ x.f2 (HBB.out 2 _ rfl) (Nat.le_trans HX.out.2.2.1 (by omega)) (by (try simp only [List.length_append]); omega)).mono ?_
  intro e w3 hq
  obtain ⟨rfl, v3, h⟩ := hq
  have H3 := hid h
  clear h
  go_wp2_with fail
  refine (texts_w H3.out ⟨b, 3, none⟩ A3 c3 x.f3 (HBB.out 3 _ rfl) HG3.out HX.out.2.2.2.1 (by (try simp only [List.length_append]); omega)).mono ?_
  intro e w4 hq
  obtain ⟨rfl, v4, h⟩ := hq
  have H4 := hid h
  clear h
  go_wp2_with fail
  refine (num_w H4.out ⟨b, 4, none⟩ x.f4 (HBB.out 4 _ rfl) HX.out.2.2.2.2.1 (by (try simp only [List.length_append]); omega)).mono ?_
  intro e w5 hq
  obtain ⟨rfl, v5, h⟩ := hq
  have H5 := hid h
  clear h
  go_wp2_with fail
  refine (num_w H5.out ⟨b, 5, none⟩ x.f5 (HBB.out 5 _ rfl) HX.out.2.2.2.2.2 (by (try simp only [List.length_append]); omega)).mono ?_
  intro e w6 hq
  obtain ⟨rfl, v6, h⟩ := hq
  have H6 := hid h
  clear h
  go_wp2_with fail
  refine (truth_w H6.out ⟨b, 6, none⟩ x.f6 (HBB.out 6 _ rfl) (by (try simp only [List.length_append]); omega)).mono ?_
  intro e w7 hq
  obtain ⟨rfl, v7, h⟩ := hq
  have H7 := hid h
  clear h
  go_wp2
  go_end0
  exact WPost.mk rfl (by simp [familyB]) H7.out
set_option maxHeartbeats 4000000 in
set_option maxRecDepth 100000 in
theorem packFamily_any (w : World) (x : S28) {A3 : Option Addr} {c3 : Nat} (g3 : Kd.string.C w A3 x.f3.length x.f3) (hx : OkFamily x) (hl : (familyB x).length ≤ 549755813888) :
    Calls Try.prog 30 #[.agg #[.string x.f0, .string x.f1, .string x.f2, .slice A3 x.f3.length c3, .int .i64 x.f4, .int .i64 x.f5, .bool x.f6], .func (.func 31) #[] #[]] w (BytesPost (familyB x) w) := by
  have HX := hid hx
  have hw := WS.new (w.alloc (.cells #[.string x.f0, .string x.f1, .string x.f2, .slice A3 x.f3.length c3, .int .i64 x.f4, .int .i64 x.f5, .bool x.f6] 28))
  rw [World.size_alloc] at hw
  have HW := hid hw
  have hcc := cells_of_alloc w #[.string x.f0, .string x.f1, .string x.f2, .slice A3 x.f3.length c3, .int .i64 x.f4, .int .i64 x.f5, .bool x.f6] 28
  have HCC := hid hcc
  clear hx hw hcc
  have hb0 : Below w.heap.size w (w.alloc (.cells #[.string x.f0, .string x.f1, .string x.f2, .slice A3 x.f3.length c3, .int .i64 x.f4, .int .i64 x.f5, .bool x.f6] 28)) := (Below.refl _ _).alloc (Nat.le_refl _) _
  have HB0 := hid hb0
  clear hb0
  have HG3 := hid (Kd.C_below g3 HB0.out)
  clear g3
  go_enter Try.func30, Try.ntmps30
  go_wp2_with fail
  refine (family_w HW.out w.heap.size x HCC.out HG3.out HX.out (by simpa using hl)).mono ?_
  intro e w1 hq
  obtain ⟨rfl, v1, h1⟩ := hq
  obtain ⟨c0, c1, c2, f0⟩ := h1.cells
  have H1 := hid h1
  clear h1
  go_wp2
  go_ret
  exact ⟨v1, rfl, H1.out.own.reads, HB0.out.trans (H1.out.below.mono (by simp))⟩
set_option maxHeartbeats 4000000 in
set_option maxRecDepth 100000 in
theorem rowFamily_any (w : World) (x : S28) {A3 : Option Addr} {c3 : Nat} (g3 : Kd.string.C w A3 x.f3.length x.f3) (hx : OkFamily x) (hl : (familyB x).length ≤ 549755813888) :
    Calls Try.prog 12 #[.agg #[.string x.f0, .string x.f1, .string x.f2, .slice A3 x.f3.length c3, .int .i64 x.f4, .int .i64 x.f5, .bool x.f6]] w (BytesPost (familyB x) w) := by
  have hb0 : Below w.heap.size w (w.alloc (.cells #[.string x.f0, .string x.f1, .string x.f2, .slice A3 x.f3.length c3, .int .i64 x.f4, .int .i64 x.f5, .bool x.f6] 28)) := (Below.refl _ _).alloc (Nat.le_refl _) _
  have HB0 := hid hb0
  have HX := hid hx
  clear hb0 hx
  have HG3 := hid (Kd.C_below g3 HB0.out)
  clear g3
  go_enter Try.func12, Try.ntmps12
  go_wp2_with fail
  refine (packFamily_any _ x HG3.out HX.out hl).mono ?_
  intro e w1 hq
  obtain ⟨v1, rfl, hr, hb⟩ := hq
  go_wp2
  go_ret
  exact ⟨v1, rfl, hr, HB0.out.trans (hb.mono (by simp))⟩
set_option maxHeartbeats 4000000 in
set_option maxRecDepth 100000 in
theorem refresh_w {w0 w : World} {g : Nat} {v : Value} {l : List UInt8} (h : WS w0 g v l w) (b : Nat) (x : S30)  (hb : ∀ i u, [.string x.f0, .string x.f1, .int .i64 x.f2][i]? = some u → w0.cell? ⟨b, i, none⟩ = some u)  (hx : OkRefresh x) (hl : (l ++ refreshB x).length ≤ 549755813888) :
    Calls Try.prog 24 #[.pointer (some ⟨g, 0, none⟩), .pointer (some ⟨b, 0, none⟩)] w (WPost w0 g (l ++ refreshB x) (.returned (.tuple #[]))) := by
  have HBB := hid hb
  have HX := hid hx
  have H0 := hid h
  simp only [refreshB, List.length_append] at hl
  clear h hb hx
  go_enter Try.func24, Try.ntmps24
  go_wp2_with fail
  refine (text_w H0.out ⟨b, 0, none⟩ x.f0 (HBB.out 0 _ rfl) (Nat.le_trans HX.out.1 (by omega)) (by (try simp only [List.length_append]); omega)).mono ?_
  intro e w1 hq
  obtain ⟨rfl, v1, h⟩ := hq
  have H1 := hid h
  clear h
  go_wp2_with fail
  refine (text_w H1.out ⟨b, 1, none⟩ x.f1 (HBB.out 1 _ rfl) (Nat.le_trans HX.out.2.1 (by omega)) (by (try simp only [List.length_append]); omega)).mono ?_
  intro e w2 hq
  obtain ⟨rfl, v2, h⟩ := hq
  have H2 := hid h
  clear h
  go_wp2_with fail
  refine (num_w H2.out ⟨b, 2, none⟩ x.f2 (HBB.out 2 _ rfl) HX.out.2.2 (by (try simp only [List.length_append]); omega)).mono ?_
  intro e w3 hq
  obtain ⟨rfl, v3, h⟩ := hq
  have H3 := hid h
  clear h
  go_wp2
  go_end0
  exact WPost.mk rfl (by simp [refreshB]) H3.out
set_option maxHeartbeats 4000000 in
set_option maxRecDepth 100000 in
theorem packRefresh_any (w : World) (x : S30)   (hx : OkRefresh x) (hl : (refreshB x).length ≤ 549755813888) :
    Calls Try.prog 23 #[.agg #[.string x.f0, .string x.f1, .int .i64 x.f2], .func (.func 24) #[] #[]] w (BytesPost (refreshB x) w) := by
  have HX := hid hx
  have hw := WS.new (w.alloc (.cells #[.string x.f0, .string x.f1, .int .i64 x.f2] 30))
  rw [World.size_alloc] at hw
  have HW := hid hw
  have hcc := cells_of_alloc w #[.string x.f0, .string x.f1, .int .i64 x.f2] 30
  have HCC := hid hcc
  clear hx hw hcc
  have hb0 : Below w.heap.size w (w.alloc (.cells #[.string x.f0, .string x.f1, .int .i64 x.f2] 30)) := (Below.refl _ _).alloc (Nat.le_refl _) _
  have HB0 := hid hb0
  clear hb0
  go_enter Try.func23, Try.ntmps23
  go_wp2_with fail
  refine (refresh_w HW.out w.heap.size x HCC.out  HX.out (by simpa using hl)).mono ?_
  intro e w1 hq
  obtain ⟨rfl, v1, h1⟩ := hq
  obtain ⟨c0, c1, c2, f0⟩ := h1.cells
  have H1 := hid h1
  clear h1
  go_wp2
  go_ret
  exact ⟨v1, rfl, H1.out.own.reads, HB0.out.trans (H1.out.below.mono (by simp))⟩
set_option maxHeartbeats 4000000 in
set_option maxRecDepth 100000 in
theorem rowRefresh_any (w : World) (x : S30)   (hx : OkRefresh x) (hl : (refreshB x).length ≤ 549755813888) :
    Calls Try.prog 8 #[.agg #[.string x.f0, .string x.f1, .int .i64 x.f2]] w (BytesPost (refreshB x) w) := by
  have hb0 : Below w.heap.size w (w.alloc (.cells #[.string x.f0, .string x.f1, .int .i64 x.f2] 30)) := (Below.refl _ _).alloc (Nat.le_refl _) _
  have HB0 := hid hb0
  have HX := hid hx
  clear hb0 hx
  go_enter Try.func8, Try.ntmps8
  go_wp2_with fail
  refine (packRefresh_any _ x  HX.out hl).mono ?_
  intro e w1 hq
  obtain ⟨v1, rfl, hr, hb⟩ := hq
  go_wp2
  go_ret
  exact ⟨v1, rfl, hr, HB0.out.trans (hb.mono (by simp))⟩
set_option maxHeartbeats 4000000 in
set_option maxRecDepth 100000 in
theorem access_w {w0 w : World} {g : Nat} {v : Value} {l : List UInt8} (h : WS w0 g v l w) (b : Nat) (x : S33) {A5 : Option Addr} {c5 : Nat} {A6 : Option Addr} {c6 : Nat} (hb : ∀ i u, [.string x.f0, .string x.f1, .string x.f2, .string x.f3, .string x.f4, .slice A5 x.f5.length c5, .slice A6 x.f6.length c6, .int .i64 x.f7, .int .i64 x.f8, .bool x.f9][i]? = some u → w0.cell? ⟨b, i, none⟩ = some u) (g5 : Kd.string.C w0 A5 x.f5.length x.f5) (g6 : k51.C w0 A6 x.f6.length x.f6) (hx : OkAccess x) (hl : (l ++ accessB x).length ≤ 549755813888) :
    Calls Try.prog 33 #[.pointer (some ⟨g, 0, none⟩), .pointer (some ⟨b, 0, none⟩)] w (WPost w0 g (l ++ accessB x) (.returned (.tuple #[]))) := by
  have HBB := hid hb
  have HX := hid hx
  have H0 := hid h
  simp only [accessB, List.length_append] at hl
  clear h hb hx
  have HG5 := hid g5
  clear g5
  have HG6 := hid g6
  clear g6
  go_enter Try.func33, Try.ntmps33
  go_wp2_with fail
  refine (text_w H0.out ⟨b, 0, none⟩ x.f0 (HBB.out 0 _ rfl) (Nat.le_trans HX.out.1 (by omega)) (by (try simp only [List.length_append]); omega)).mono ?_
  intro e w1 hq
  obtain ⟨rfl, v1, h⟩ := hq
  have H1 := hid h
  clear h
  go_wp2_with fail
  refine (text_w H1.out ⟨b, 1, none⟩ x.f1 (HBB.out 1 _ rfl) (Nat.le_trans HX.out.2.1 (by omega)) (by (try simp only [List.length_append]); omega)).mono ?_
  intro e w2 hq
  obtain ⟨rfl, v2, h⟩ := hq
  have H2 := hid h
  clear h
  go_wp2_with fail
  refine (text_w H2.out ⟨b, 2, none⟩ x.f2 (HBB.out 2 _ rfl) (Nat.le_trans HX.out.2.2.1 (by omega)) (by (try simp only [List.length_append]); omega)).mono ?_
  intro e w3 hq
  obtain ⟨rfl, v3, h⟩ := hq
  have H3 := hid h
  clear h
  go_wp2_with fail
  refine (text_w H3.out ⟨b, 3, none⟩ x.f3 (HBB.out 3 _ rfl) (Nat.le_trans HX.out.2.2.2.1 (by omega)) (by (try simp only [List.length_append]); omega)).mono ?_
  intro e w4 hq
  obtain ⟨rfl, v4, h⟩ := hq
  have H4 := hid h
  clear h
  go_wp2_with fail
  refine (text_w H4.out ⟨b, 4, none⟩ x.f4 (HBB.out 4 _ rfl) (Nat.le_trans HX.out.2.2.2.2.1 (by omega)) (by (try simp only [List.length_append]); omega)).mono ?_
  intro e w5 hq
  obtain ⟨rfl, v5, h⟩ := hq
  have H5 := hid h
  clear h
  go_wp2_with fail
  refine (texts_w H5.out ⟨b, 5, none⟩ A5 c5 x.f5 (HBB.out 5 _ rfl) HG5.out HX.out.2.2.2.2.2.1 (by (try simp only [List.length_append]); omega)).mono ?_
  intro e w6 hq
  obtain ⟨rfl, v6, h⟩ := hq
  have H6 := hid h
  clear h
  go_wp2_with fail
  refine (listP_w H6.out ⟨b, 6, none⟩ A6 c6 x.f6 (HBB.out 6 _ rfl) HG6.out HX.out.2.2.2.2.2.2.1 (by (try simp only [List.length_append]); omega)).mono ?_
  intro e w7 hq
  obtain ⟨rfl, v7, h⟩ := hq
  have H7 := hid h
  clear h
  go_wp2_with fail
  refine (num_w H7.out ⟨b, 7, none⟩ x.f7 (HBB.out 7 _ rfl) HX.out.2.2.2.2.2.2.2.1 (by (try simp only [List.length_append]); omega)).mono ?_
  intro e w8 hq
  obtain ⟨rfl, v8, h⟩ := hq
  have H8 := hid h
  clear h
  go_wp2_with fail
  refine (num_w H8.out ⟨b, 8, none⟩ x.f8 (HBB.out 8 _ rfl) HX.out.2.2.2.2.2.2.2.2 (by (try simp only [List.length_append]); omega)).mono ?_
  intro e w9 hq
  obtain ⟨rfl, v9, h⟩ := hq
  have H9 := hid h
  clear h
  go_wp2_with fail
  refine (truth_w H9.out ⟨b, 9, none⟩ x.f9 (HBB.out 9 _ rfl) (by (try simp only [List.length_append]); omega)).mono ?_
  intro e w10 hq
  obtain ⟨rfl, v10, h⟩ := hq
  have H10 := hid h
  clear h
  go_wp2
  go_end0
  exact WPost.mk rfl (by simp [accessB]) H10.out
set_option maxHeartbeats 4000000 in
set_option maxRecDepth 100000 in
theorem packAccess_any (w : World) (x : S33) {A5 : Option Addr} {c5 : Nat} {A6 : Option Addr} {c6 : Nat} (g5 : Kd.string.C w A5 x.f5.length x.f5) (g6 : k51.C w A6 x.f6.length x.f6) (hx : OkAccess x) (hl : (accessB x).length ≤ 549755813888) :
    Calls Try.prog 32 #[.agg #[.string x.f0, .string x.f1, .string x.f2, .string x.f3, .string x.f4, .slice A5 x.f5.length c5, .slice A6 x.f6.length c6, .int .i64 x.f7, .int .i64 x.f8, .bool x.f9], .func (.func 33) #[] #[]] w (BytesPost (accessB x) w) := by
  have HX := hid hx
  have hw := WS.new (w.alloc (.cells #[.string x.f0, .string x.f1, .string x.f2, .string x.f3, .string x.f4, .slice A5 x.f5.length c5, .slice A6 x.f6.length c6, .int .i64 x.f7, .int .i64 x.f8, .bool x.f9] 33))
  rw [World.size_alloc] at hw
  have HW := hid hw
  have hcc := cells_of_alloc w #[.string x.f0, .string x.f1, .string x.f2, .string x.f3, .string x.f4, .slice A5 x.f5.length c5, .slice A6 x.f6.length c6, .int .i64 x.f7, .int .i64 x.f8, .bool x.f9] 33
  have HCC := hid hcc
  clear hx hw hcc
  have hb0 : Below w.heap.size w (w.alloc (.cells #[.string x.f0, .string x.f1, .string x.f2, .string x.f3, .string x.f4, .slice A5 x.f5.length c5, .slice A6 x.f6.length c6, .int .i64 x.f7, .int .i64 x.f8, .bool x.f9] 33)) := (Below.refl _ _).alloc (Nat.le_refl _) _
  have HB0 := hid hb0
  clear hb0
  have HG5 := hid (Kd.C_below g5 HB0.out)
  clear g5
  have HG6 := hid (Kd.C_below g6 HB0.out)
  clear g6
  go_enter Try.func32, Try.ntmps32
  go_wp2_with fail
  refine (access_w HW.out w.heap.size x HCC.out HG5.out HG6.out HX.out (by simpa using hl)).mono ?_
  intro e w1 hq
  obtain ⟨rfl, v1, h1⟩ := hq
  obtain ⟨c0, c1, c2, f0⟩ := h1.cells
  have H1 := hid h1
  clear h1
  go_wp2
  go_ret
  exact ⟨v1, rfl, H1.out.own.reads, HB0.out.trans (H1.out.below.mono (by simp))⟩
set_option maxHeartbeats 4000000 in
set_option maxRecDepth 100000 in
theorem rowAccess_any (w : World) (x : S33) {A5 : Option Addr} {c5 : Nat} {A6 : Option Addr} {c6 : Nat} (g5 : Kd.string.C w A5 x.f5.length x.f5) (g6 : k51.C w A6 x.f6.length x.f6) (hx : OkAccess x) (hl : (accessB x).length ≤ 549755813888) :
    Calls Try.prog 13 #[.agg #[.string x.f0, .string x.f1, .string x.f2, .string x.f3, .string x.f4, .slice A5 x.f5.length c5, .slice A6 x.f6.length c6, .int .i64 x.f7, .int .i64 x.f8, .bool x.f9]] w (BytesPost (accessB x) w) := by
  have hb0 : Below w.heap.size w (w.alloc (.cells #[.string x.f0, .string x.f1, .string x.f2, .string x.f3, .string x.f4, .slice A5 x.f5.length c5, .slice A6 x.f6.length c6, .int .i64 x.f7, .int .i64 x.f8, .bool x.f9] 33)) := (Below.refl _ _).alloc (Nat.le_refl _) _
  have HB0 := hid hb0
  have HX := hid hx
  clear hb0 hx
  have HG5 := hid (Kd.C_below g5 HB0.out)
  clear g5
  have HG6 := hid (Kd.C_below g6 HB0.out)
  clear g6
  go_enter Try.func13, Try.ntmps13
  go_wp2_with fail
  refine (packAccess_any _ x HG5.out HG6.out HX.out hl).mono ?_
  intro e w1 hq
  obtain ⟨v1, rfl, hr, hb⟩ := hq
  go_wp2
  go_ret
  exact ⟨v1, rfl, hr, HB0.out.trans (hb.mono (by simp))⟩
set_option maxHeartbeats 4000000 in
set_option maxRecDepth 100000 in
theorem resource_w {w0 w : World} {g : Nat} {v : Value} {l : List UInt8} (h : WS w0 g v l w) (b : Nat) (x : S35) {A4 : Option Addr} {c4 : Nat} (hb : ∀ i u, [.string x.f0, .string x.f1, .string x.f2, .string x.f3, .slice A4 x.f4.length c4, .string x.f5][i]? = some u → w0.cell? ⟨b, i, none⟩ = some u) (g4 : Kd.string.C w0 A4 x.f4.length x.f4) (hx : OkResource x) (hl : (l ++ resourceB x).length ≤ 549755813888) :
    Calls Try.prog 35 #[.pointer (some ⟨g, 0, none⟩), .pointer (some ⟨b, 0, none⟩)] w (WPost w0 g (l ++ resourceB x) (.returned (.tuple #[]))) := by
  have HBB := hid hb
  have HX := hid hx
  have H0 := hid h
  simp only [resourceB, List.length_append] at hl
  clear h hb hx
  have HG4 := hid g4
  clear g4
  go_enter Try.func35, Try.ntmps35
  go_wp2_with fail
  refine (text_w H0.out ⟨b, 0, none⟩ x.f0 (HBB.out 0 _ rfl) (Nat.le_trans HX.out.1 (by omega)) (by (try simp only [List.length_append]); omega)).mono ?_
  intro e w1 hq
  obtain ⟨rfl, v1, h⟩ := hq
  have H1 := hid h
  clear h
  go_wp2_with fail
  refine (text_w H1.out ⟨b, 1, none⟩ x.f1 (HBB.out 1 _ rfl) (Nat.le_trans HX.out.2.1 (by omega)) (by (try simp only [List.length_append]); omega)).mono ?_
  intro e w2 hq
  obtain ⟨rfl, v2, h⟩ := hq
  have H2 := hid h
  clear h
  go_wp2_with fail
  refine (text_w H2.out ⟨b, 2, none⟩ x.f2 (HBB.out 2 _ rfl) (Nat.le_trans HX.out.2.2.1 (by omega)) (by (try simp only [List.length_append]); omega)).mono ?_
  intro e w3 hq
  obtain ⟨rfl, v3, h⟩ := hq
  have H3 := hid h
  clear h
  go_wp2_with fail
  refine (text_w H3.out ⟨b, 3, none⟩ x.f3 (HBB.out 3 _ rfl) (Nat.le_trans HX.out.2.2.2.1 (by omega)) (by (try simp only [List.length_append]); omega)).mono ?_
  intro e w4 hq
  obtain ⟨rfl, v4, h⟩ := hq
  have H4 := hid h
  clear h
  go_wp2_with fail
  refine (texts_w H4.out ⟨b, 4, none⟩ A4 c4 x.f4 (HBB.out 4 _ rfl) HG4.out HX.out.2.2.2.2.1 (by (try simp only [List.length_append]); omega)).mono ?_
  intro e w5 hq
  obtain ⟨rfl, v5, h⟩ := hq
  have H5 := hid h
  clear h
  go_wp2_with fail
  refine (text_w H5.out ⟨b, 5, none⟩ x.f5 (HBB.out 5 _ rfl) (Nat.le_trans HX.out.2.2.2.2.2 (by omega)) (by (try simp only [List.length_append]); omega)).mono ?_
  intro e w6 hq
  obtain ⟨rfl, v6, h⟩ := hq
  have H6 := hid h
  clear h
  go_wp2
  go_end0
  exact WPost.mk rfl (by simp [resourceB]) H6.out
set_option maxHeartbeats 4000000 in
set_option maxRecDepth 100000 in
theorem packResource_any (w : World) (x : S35) {A4 : Option Addr} {c4 : Nat} (g4 : Kd.string.C w A4 x.f4.length x.f4) (hx : OkResource x) (hl : (resourceB x).length ≤ 549755813888) :
    Calls Try.prog 34 #[.agg #[.string x.f0, .string x.f1, .string x.f2, .string x.f3, .slice A4 x.f4.length c4, .string x.f5], .func (.func 35) #[] #[]] w (BytesPost (resourceB x) w) := by
  have HX := hid hx
  have hw := WS.new (w.alloc (.cells #[.string x.f0, .string x.f1, .string x.f2, .string x.f3, .slice A4 x.f4.length c4, .string x.f5] 35))
  rw [World.size_alloc] at hw
  have HW := hid hw
  have hcc := cells_of_alloc w #[.string x.f0, .string x.f1, .string x.f2, .string x.f3, .slice A4 x.f4.length c4, .string x.f5] 35
  have HCC := hid hcc
  clear hx hw hcc
  have hb0 : Below w.heap.size w (w.alloc (.cells #[.string x.f0, .string x.f1, .string x.f2, .string x.f3, .slice A4 x.f4.length c4, .string x.f5] 35)) := (Below.refl _ _).alloc (Nat.le_refl _) _
  have HB0 := hid hb0
  clear hb0
  have HG4 := hid (Kd.C_below g4 HB0.out)
  clear g4
  go_enter Try.func34, Try.ntmps34
  go_wp2_with fail
  refine (resource_w HW.out w.heap.size x HCC.out HG4.out HX.out (by simpa using hl)).mono ?_
  intro e w1 hq
  obtain ⟨rfl, v1, h1⟩ := hq
  obtain ⟨c0, c1, c2, f0⟩ := h1.cells
  have H1 := hid h1
  clear h1
  go_wp2
  go_ret
  exact ⟨v1, rfl, H1.out.own.reads, HB0.out.trans (H1.out.below.mono (by simp))⟩
set_option maxHeartbeats 4000000 in
set_option maxRecDepth 100000 in
theorem rowResource_any (w : World) (x : S35) {A4 : Option Addr} {c4 : Nat} (g4 : Kd.string.C w A4 x.f4.length x.f4) (hx : OkResource x) (hl : (resourceB x).length ≤ 549755813888) :
    Calls Try.prog 14 #[.agg #[.string x.f0, .string x.f1, .string x.f2, .string x.f3, .slice A4 x.f4.length c4, .string x.f5]] w (BytesPost (resourceB x) w) := by
  have hb0 : Below w.heap.size w (w.alloc (.cells #[.string x.f0, .string x.f1, .string x.f2, .string x.f3, .slice A4 x.f4.length c4, .string x.f5] 35)) := (Below.refl _ _).alloc (Nat.le_refl _) _
  have HB0 := hid hb0
  have HX := hid hx
  clear hb0 hx
  have HG4 := hid (Kd.C_below g4 HB0.out)
  clear g4
  go_enter Try.func14, Try.ntmps14
  go_wp2_with fail
  refine (packResource_any _ x HG4.out HX.out hl).mono ?_
  intro e w1 hq
  obtain ⟨v1, rfl, hr, hb⟩ := hq
  go_wp2
  go_ret
  exact ⟨v1, rfl, hr, HB0.out.trans (hb.mono (by simp))⟩
set_option maxHeartbeats 4000000 in
set_option maxRecDepth 100000 in
theorem ticket_w {w0 w : World} {g : Nat} {v : Value} {l : List UInt8} (h : WS w0 g v l w) (b : Nat) (x : S37) {A2 : Option Addr} {c2 : Nat} (hb : ∀ i u, [.string x.f0, .string x.f1, .slice A2 x.f2.length c2, .string x.f3, .int .i64 x.f4, .bool x.f5][i]? = some u → w0.cell? ⟨b, i, none⟩ = some u) (g2 : k51.C w0 A2 x.f2.length x.f2) (hx : OkTicket x) (hl : (l ++ ticketB x).length ≤ 549755813888) :
    Calls Try.prog 37 #[.pointer (some ⟨g, 0, none⟩), .pointer (some ⟨b, 0, none⟩)] w (WPost w0 g (l ++ ticketB x) (.returned (.tuple #[]))) := by
  have HBB := hid hb
  have HX := hid hx
  have H0 := hid h
  simp only [ticketB, List.length_append] at hl
  clear h hb hx
  have HG2 := hid g2
  clear g2
  go_enter Try.func37, Try.ntmps37
  go_wp2_with fail
  refine (text_w H0.out ⟨b, 0, none⟩ x.f0 (HBB.out 0 _ rfl) (Nat.le_trans HX.out.1 (by omega)) (by (try simp only [List.length_append]); omega)).mono ?_
  intro e w1 hq
  obtain ⟨rfl, v1, h⟩ := hq
  have H1 := hid h
  clear h
  go_wp2_with fail
  refine (text_w H1.out ⟨b, 1, none⟩ x.f1 (HBB.out 1 _ rfl) (Nat.le_trans HX.out.2.1 (by omega)) (by (try simp only [List.length_append]); omega)).mono ?_
  intro e w2 hq
  obtain ⟨rfl, v2, h⟩ := hq
  have H2 := hid h
  clear h
  go_wp2_with fail
  refine (listP_w H2.out ⟨b, 2, none⟩ A2 c2 x.f2 (HBB.out 2 _ rfl) HG2.out HX.out.2.2.1 (by (try simp only [List.length_append]); omega)).mono ?_
  intro e w3 hq
  obtain ⟨rfl, v3, h⟩ := hq
  have H3 := hid h
  clear h
  go_wp2_with fail
  refine (text_w H3.out ⟨b, 3, none⟩ x.f3 (HBB.out 3 _ rfl) (Nat.le_trans HX.out.2.2.2.1 (by omega)) (by (try simp only [List.length_append]); omega)).mono ?_
  intro e w4 hq
  obtain ⟨rfl, v4, h⟩ := hq
  have H4 := hid h
  clear h
  go_wp2_with fail
  refine (num_w H4.out ⟨b, 4, none⟩ x.f4 (HBB.out 4 _ rfl) HX.out.2.2.2.2 (by (try simp only [List.length_append]); omega)).mono ?_
  intro e w5 hq
  obtain ⟨rfl, v5, h⟩ := hq
  have H5 := hid h
  clear h
  go_wp2_with fail
  refine (truth_w H5.out ⟨b, 5, none⟩ x.f5 (HBB.out 5 _ rfl) (by (try simp only [List.length_append]); omega)).mono ?_
  intro e w6 hq
  obtain ⟨rfl, v6, h⟩ := hq
  have H6 := hid h
  clear h
  go_wp2
  go_end0
  exact WPost.mk rfl (by simp [ticketB]) H6.out
set_option maxHeartbeats 4000000 in
set_option maxRecDepth 100000 in
theorem packTicket_any (w : World) (x : S37) {A2 : Option Addr} {c2 : Nat} (g2 : k51.C w A2 x.f2.length x.f2) (hx : OkTicket x) (hl : (ticketB x).length ≤ 549755813888) :
    Calls Try.prog 36 #[.agg #[.string x.f0, .string x.f1, .slice A2 x.f2.length c2, .string x.f3, .int .i64 x.f4, .bool x.f5], .func (.func 37) #[] #[]] w (BytesPost (ticketB x) w) := by
  have HX := hid hx
  have hw := WS.new (w.alloc (.cells #[.string x.f0, .string x.f1, .slice A2 x.f2.length c2, .string x.f3, .int .i64 x.f4, .bool x.f5] 37))
  rw [World.size_alloc] at hw
  have HW := hid hw
  have hcc := cells_of_alloc w #[.string x.f0, .string x.f1, .slice A2 x.f2.length c2, .string x.f3, .int .i64 x.f4, .bool x.f5] 37
  have HCC := hid hcc
  clear hx hw hcc
  have hb0 : Below w.heap.size w (w.alloc (.cells #[.string x.f0, .string x.f1, .slice A2 x.f2.length c2, .string x.f3, .int .i64 x.f4, .bool x.f5] 37)) := (Below.refl _ _).alloc (Nat.le_refl _) _
  have HB0 := hid hb0
  clear hb0
  have HG2 := hid (Kd.C_below g2 HB0.out)
  clear g2
  go_enter Try.func36, Try.ntmps36
  go_wp2_with fail
  refine (ticket_w HW.out w.heap.size x HCC.out HG2.out HX.out (by simpa using hl)).mono ?_
  intro e w1 hq
  obtain ⟨rfl, v1, h1⟩ := hq
  obtain ⟨c0, c1, c2, f0⟩ := h1.cells
  have H1 := hid h1
  clear h1
  go_wp2
  go_ret
  exact ⟨v1, rfl, H1.out.own.reads, HB0.out.trans (H1.out.below.mono (by simp))⟩
set_option maxHeartbeats 4000000 in
set_option maxRecDepth 100000 in
theorem rowTicket_any (w : World) (x : S37) {A2 : Option Addr} {c2 : Nat} (g2 : k51.C w A2 x.f2.length x.f2) (hx : OkTicket x) (hl : (ticketB x).length ≤ 549755813888) :
    Calls Try.prog 15 #[.agg #[.string x.f0, .string x.f1, .slice A2 x.f2.length c2, .string x.f3, .int .i64 x.f4, .bool x.f5]] w (BytesPost (ticketB x) w) := by
  have hb0 : Below w.heap.size w (w.alloc (.cells #[.string x.f0, .string x.f1, .slice A2 x.f2.length c2, .string x.f3, .int .i64 x.f4, .bool x.f5] 37)) := (Below.refl _ _).alloc (Nat.le_refl _) _
  have HB0 := hid hb0
  have HX := hid hx
  clear hb0 hx
  have HG2 := hid (Kd.C_below g2 HB0.out)
  clear g2
  go_enter Try.func15, Try.ntmps15
  go_wp2_with fail
  refine (packTicket_any _ x HG2.out HX.out hl).mono ?_
  intro e w1 hq
  obtain ⟨v1, rfl, hr, hb⟩ := hq
  go_wp2
  go_ret
  exact ⟨v1, rfl, hr, HB0.out.trans (hb.mono (by simp))⟩
set_option maxHeartbeats 4000000 in
set_option maxRecDepth 100000 in
theorem packKeys_any (w : World) (xs : List S85) {A : Option Addr} {c : Nat} (g0 : k85.C w A xs.length xs) (hx : SzK xs) (hl : (keysB xs).length ≤ 549755813888) :
    Calls Try.prog 38 #[.slice A xs.length c, .func (.func 39) #[] #[]] w (BytesPost (keysB xs) w) := by
  have HX := hid hx
  have hw := WS.new (w.alloc (.cells #[.slice A xs.length c] 38))
  rw [World.size_alloc] at hw
  have HW := hid hw
  have hcc := cells_of_alloc w #[.slice A xs.length c] 38
  have HCC := hid hcc
  clear hx hw hcc
  have hb0 : Below w.heap.size w (w.alloc (.cells #[.slice A xs.length c] 38)) := (Below.refl _ _).alloc (Nat.le_refl _) _
  have HB0 := hid hb0
  clear hb0
  have HG := hid (Kd.C_below g0 HB0.out)
  clear g0
  go_enter Try.func38, Try.ntmps38
  go_wp2_with fail
  refine (keys_w HW.out ⟨w.heap.size, 0, none⟩ A c xs (HCC.out 0 _ rfl) HG.out HX.out (by simpa using hl)).mono ?_
  intro e w1 hq
  obtain ⟨rfl, v1, h1⟩ := hq
  obtain ⟨c0, c1, c2, f0⟩ := h1.cells
  have H1 := hid h1
  clear h1
  go_wp2
  go_ret
  exact ⟨v1, rfl, H1.out.own.reads, HB0.out.trans (H1.out.below.mono (by simp))⟩
set_option maxHeartbeats 4000000 in
theorem rowKeys_any (w : World) (xs : List S85) {A : Option Addr} {c : Nat} (g0 : k85.C w A xs.length xs) (hx : SzK xs) (hl : (keysB xs).length ≤ 549755813888) :
    Calls Try.prog 16 #[.slice A xs.length c] w (BytesPost (keysB xs) w) := by
  have HX := hid hx
  have HG := hid g0
  clear hx g0
  go_enter Try.func16, Try.ntmps16
  go_wp2_with fail
  refine (packKeys_any _ xs HG.out HX.out hl).mono ?_
  intro e w1 hq
  obtain ⟨v1, rfl, hr, hb⟩ := hq
  go_wp2
  go_ret
  exact ⟨v1, rfl, hr, hb⟩
end Go.Proofs.Ytcgjacffemjehaa

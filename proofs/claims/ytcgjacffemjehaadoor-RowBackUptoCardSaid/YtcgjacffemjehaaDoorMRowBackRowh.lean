/-
  RowS, RowZ: this proof's parts in one text.
-/
import Derived.Test.YtcgjacffemjehaaDoorMRowBackRowg
namespace Go.Proofs.YtcgjacffemjehaaDoor
open Go.RowKit
open Go.Proofs.YtcgjacffemjehaaDoorW.PrintWords (Kd rdOf)
open Go.Proofs.YtcgjacffemjehaaDoor.PRowReads
set_option linter.unusedVariables false
/-- A new coder. -/
theorem WS.new (w0 : World) : WS w0 w0.heap.size (.slice none 0 0) [] (w0.alloc (.cells #[.slice none 0 0, .bool false, .bool false] 129)) :=
  ⟨(Below.refl _ _).alloc (Nat.le_refl _) _, Nat.le_refl _, heap_alloc_new w0 _, OwnB.nil _ _ _⟩
/-- The bytes that a call has made. -/
def BytesPost (l : List UInt8) (w : World) (e : Ending) (w' : World) : Prop := ∃ v, e = .returned v ∧ ReadsB w' v l ∧ Below w.heap.size w w'
theorem cells_of_alloc (w : World) (cs : Array Value) (T : TypeId) : ∀ i u, cs.toList[i]? = some u → (w.alloc (.cells cs T)).cell? ⟨w.heap.size, i, none⟩ = some u := by
  intro i u h
  rw [World.cell?_alloc_new]
  simpa using h
set_option maxHeartbeats 4000000 in
set_option maxRecDepth 100000 in
theorem consent_w {w0 w : World} {g : Nat} {v : Value} {l : List UInt8} (h : WS w0 g v l w) (b : Nat) (x : S25) {A2 : Option Addr} {c2 : Nat} (hb : ∀ i u, [.string x.f0, .string x.f1, .slice A2 x.f2.length c2][i]? = some u → w0.cell? ⟨b, i, none⟩ = some u) (g2 : Kd.string.C w0 A2 x.f2.length x.f2) (hx : OkConsent x) (hl : (l ++ consentB x).length ≤ 549755813888) :
    Calls Tryd.prog 44 #[.pointer (some ⟨g, 0, none⟩), .pointer (some ⟨b, 0, none⟩)] w (WPost w0 g (l ++ consentB x) (.returned (.tuple #[]))) := by
  have HBB := hid hb
  have HX := hid hx
  have H0 := hid h
  simp only [consentB, List.length_append] at hl
  clear h hb hx
  have HG2 := hid g2
  clear g2
  go_enter Tryd.func44, Tryd.ntmps44
  go_wp2_with fail
  refine (text_w H0.out ⟨b, 0, none⟩ x.f0 (HBB.out 0 _ rfl) (Nat.le_trans HX.out.1 (by omega)) (by (try simp only [List.length_append]); omega)).mono ?_
  intro e w1 hq
  obtain ⟨rfl, v1, h⟩ := hq
  have H1 := hid h
  clear h
  go_wp2_with fail
  refine (text_w H1.out ⟨b, 1, none⟩ x.f1 (HBB.out 1 _ rfl) (Nat.le_trans HX.out.2.1 (by omega)) (by (try simp only [List.length_append]); omega)).mono ?_
  intro e w2 hq
  obtain ⟨rfl, v2, h⟩ := hq
  have H2 := hid h
  clear h
  go_wp2_with fail
  refine (texts_w H2.out ⟨b, 2, none⟩ A2 c2 x.f2 (HBB.out 2 _ rfl) HG2.out HX.out.2.2 (by (try simp only [List.length_append]); omega)).mono ?_
  intro e w3 hq
  obtain ⟨rfl, v3, h⟩ := hq
  have H3 := hid h
  clear h
  go_wp2
  go_end0
  exact WPost.mk rfl (by simp [consentB]) H3.out
set_option maxHeartbeats 4000000 in
set_option maxRecDepth 100000 in
theorem packConsent_any (w : World) (x : S25) {A2 : Option Addr} {c2 : Nat} (g2 : Kd.string.C w A2 x.f2.length x.f2) (hx : OkConsent x) (hl : (consentB x).length ≤ 549755813888) :
    Calls Tryd.prog 60 #[.agg #[.string x.f0, .string x.f1, .slice A2 x.f2.length c2], .func (.func 44) #[] #[]] w (BytesPost (consentB x) w) := by
  have HX := hid hx
  have hw := WS.new (w.alloc (.cells #[.string x.f0, .string x.f1, .slice A2 x.f2.length c2] 25))
  rw [World.size_alloc] at hw
  have HW := hid hw
  have hcc := cells_of_alloc w #[.string x.f0, .string x.f1, .slice A2 x.f2.length c2] 25
  have HCC := hid hcc
  clear hx hw hcc
  have hb0 : Below w.heap.size w (w.alloc (.cells #[.string x.f0, .string x.f1, .slice A2 x.f2.length c2] 25)) := (Below.refl _ _).alloc (Nat.le_refl _) _
  have HB0 := hid hb0
  clear hb0
  have HG2 := hid (Kd.C_below g2 HB0.out)
  clear g2
  go_enter Tryd.func60, Tryd.ntmps60
  go_wp2_with fail
  refine (consent_w HW.out w.heap.size x HCC.out HG2.out HX.out (by simpa using hl)).mono ?_
  intro e w1 hq
  obtain ⟨rfl, v1, h1⟩ := hq
  obtain ⟨c0, c1, c2, f0⟩ := h1.cells
  have H1 := hid h1
  clear h1
  go_wp2
  go_ret
  exact ⟨v1, rfl, H1.out.own.reads, HB0.out.trans (H1.out.below.mono (by simp))⟩
set_option maxHeartbeats 4000000 in
set_option maxRecDepth 100000 in
theorem rowConsent_any (w : World) (x : S25) {A2 : Option Addr} {c2 : Nat} (g2 : Kd.string.C w A2 x.f2.length x.f2) (hx : OkConsent x) (hl : (consentB x).length ≤ 549755813888) :
    Calls Tryd.prog 33 #[.agg #[.string x.f0, .string x.f1, .slice A2 x.f2.length c2]] w (BytesPost (consentB x) w) := by
  have hb0 : Below w.heap.size w (w.alloc (.cells #[.string x.f0, .string x.f1, .slice A2 x.f2.length c2] 25)) := (Below.refl _ _).alloc (Nat.le_refl _) _
  have HB0 := hid hb0
  have HX := hid hx
  clear hb0 hx
  have HG2 := hid (Kd.C_below g2 HB0.out)
  clear g2
  go_enter Tryd.func33, Tryd.ntmps33
  go_wp2_with fail
  refine (packConsent_any _ x HG2.out HX.out hl).mono ?_
  intro e w1 hq
  obtain ⟨v1, rfl, hr, hb⟩ := hq
  go_wp2
  go_ret
  exact ⟨v1, rfl, hr, HB0.out.trans (hb.mono (by simp))⟩
set_option maxHeartbeats 4000000 in
set_option maxRecDepth 100000 in
theorem code_w {w0 w : World} {g : Nat} {v : Value} {l : List UInt8} (h : WS w0 g v l w) (b : Nat) (x : S27) {A4 : Option Addr} {c4 : Nat} (hb : ∀ i u, [.string x.f0, .string x.f1, .string x.f2, .string x.f3, .slice A4 x.f4.length c4, .string x.f5, .bool x.f6, .bool x.f7, .int .i64 x.f8][i]? = some u → w0.cell? ⟨b, i, none⟩ = some u) (g4 : Kd.string.C w0 A4 x.f4.length x.f4) (hx : OkCode x) (hl : (l ++ codeB x).length ≤ 549755813888) :
    Calls Tryd.prog 46 #[.pointer (some ⟨g, 0, none⟩), .pointer (some ⟨b, 0, none⟩)] w (WPost w0 g (l ++ codeB x) (.returned (.tuple #[]))) := by
  have HBB := hid hb
  have HX := hid hx
  have H0 := hid h
  simp only [codeB, List.length_append] at hl
  clear h hb hx
  have HG4 := hid g4
  clear g4
  go_enter Tryd.func46, Tryd.ntmps46
  go_wp2_with fail
  refine (text_w H0.out ⟨b, 0, none⟩ x.f0 (HBB.out 0 _ rfl) (Nat.le_trans HX.out.1 (by omega)) (by (try simp only [List.length_append]); omega)).mono ?_
  intro e w1 hq
  obtain ⟨rfl, v1, h⟩ := hq
  have H1 := hid h
  clear h
  go_wp2_with fail
  refine (text_w H1.out ⟨b, 1, none⟩ x.f1 (HBB.out 1 _ rfl) (Nat.le_trans HX.out.2.1 (by omega)) (by (try simp only [List.length_append]); omega)).mono ?_
  intro e w2 hq
  obtain ⟨rfl, v2, h⟩ := hq
  have H2 := hid h
  clear h
  go_wp2_with fail
  refine (text_w H2.out ⟨b, 2, none⟩ x.f2 (HBB.out 2 _ rfl) (Nat.le_trans HX.out.2.2.1 (by omega)) (by (try simp only [List.length_append]); omega)).mono ?_
  intro e w3 hq
  obtain ⟨rfl, v3, h⟩ := hq
  have H3 := hid h
  clear h
  go_wp2_with fail
  refine (text_w H3.out ⟨b, 3, none⟩ x.f3 (HBB.out 3 _ rfl) (Nat.le_trans HX.out.2.2.2.1 (by omega)) (by (try simp only [List.length_append]); omega)).mono ?_
  intro e w4 hq
  obtain ⟨rfl, v4, h⟩ := hq
  have H4 := hid h
  clear h
  go_wp2_with fail
  refine (texts_w H4.out ⟨b, 4, none⟩ A4 c4 x.f4 (HBB.out 4 _ rfl) HG4.out HX.out.2.2.2.2.1 (by (try simp only [List.length_append]); omega)).mono ?_
  intro e w5 hq
  obtain ⟨rfl, v5, h⟩ := hq
  have H5 := hid h
  clear h
  go_wp2_with fail
  refine (text_w H5.out ⟨b, 5, none⟩ x.f5 (HBB.out 5 _ rfl) (Nat.le_trans HX.out.2.2.2.2.2.1 (by omega)) (by (try simp only [List.length_append]); omega)).mono ?_
  intro e w6 hq
  obtain ⟨rfl, v6, h⟩ := hq
  have H6 := hid h
  clear h
  go_wp2_with fail
  refine (truth_w H6.out ⟨b, 6, none⟩ x.f6 (HBB.out 6 _ rfl) (by (try simp only [List.length_append]); omega)).mono ?_
  intro e w7 hq
  obtain ⟨rfl, v7, h⟩ := hq
  have H7 := hid h
  clear h
  go_wp2_with fail
  refine (truth_w H7.out ⟨b, 7, none⟩ x.f7 (HBB.out 7 _ rfl) (by (try simp only [List.length_append]); omega)).mono ?_
  intro e w8 hq
  obtain ⟨rfl, v8, h⟩ := hq
  have H8 := hid h
  clear h
  go_wp2_with fail
  refine (num_w H8.out ⟨b, 8, none⟩ x.f8 (HBB.out 8 _ rfl) HX.out.2.2.2.2.2.2 (by (try simp only [List.length_append]); omega)).mono ?_
  intro e w9 hq
  obtain ⟨rfl, v9, h⟩ := hq
  have H9 := hid h
  clear h
  go_wp2
  go_end0
  exact WPost.mk rfl (by simp [codeB]) H9.out
set_option maxHeartbeats 4000000 in
set_option maxRecDepth 100000 in
theorem packCode_any (w : World) (x : S27) {A4 : Option Addr} {c4 : Nat} (g4 : Kd.string.C w A4 x.f4.length x.f4) (hx : OkCode x) (hl : (codeB x).length ≤ 549755813888) :
    Calls Tryd.prog 61 #[.agg #[.string x.f0, .string x.f1, .string x.f2, .string x.f3, .slice A4 x.f4.length c4, .string x.f5, .bool x.f6, .bool x.f7, .int .i64 x.f8], .func (.func 46) #[] #[]] w (BytesPost (codeB x) w) := by
  have HX := hid hx
  have hw := WS.new (w.alloc (.cells #[.string x.f0, .string x.f1, .string x.f2, .string x.f3, .slice A4 x.f4.length c4, .string x.f5, .bool x.f6, .bool x.f7, .int .i64 x.f8] 27))
  rw [World.size_alloc] at hw
  have HW := hid hw
  have hcc := cells_of_alloc w #[.string x.f0, .string x.f1, .string x.f2, .string x.f3, .slice A4 x.f4.length c4, .string x.f5, .bool x.f6, .bool x.f7, .int .i64 x.f8] 27
  have HCC := hid hcc
  clear hx hw hcc
  have hb0 : Below w.heap.size w (w.alloc (.cells #[.string x.f0, .string x.f1, .string x.f2, .string x.f3, .slice A4 x.f4.length c4, .string x.f5, .bool x.f6, .bool x.f7, .int .i64 x.f8] 27)) := (Below.refl _ _).alloc (Nat.le_refl _) _
  have HB0 := hid hb0
  clear hb0
  have HG4 := hid (Kd.C_below g4 HB0.out)
  clear g4
  go_enter Tryd.func61, Tryd.ntmps61
  go_wp2_with fail
  refine (code_w HW.out w.heap.size x HCC.out HG4.out HX.out (by simpa using hl)).mono ?_
  intro e w1 hq
  obtain ⟨rfl, v1, h1⟩ := hq
  obtain ⟨c0, c1, c2, f0⟩ := h1.cells
  have H1 := hid h1
  clear h1
  go_wp2
  go_ret
  exact ⟨v1, rfl, H1.out.own.reads, HB0.out.trans (H1.out.below.mono (by simp))⟩
set_option maxHeartbeats 4000000 in
set_option maxRecDepth 100000 in
theorem rowCode_any (w : World) (x : S27) {A4 : Option Addr} {c4 : Nat} (g4 : Kd.string.C w A4 x.f4.length x.f4) (hx : OkCode x) (hl : (codeB x).length ≤ 549755813888) :
    Calls Tryd.prog 34 #[.agg #[.string x.f0, .string x.f1, .string x.f2, .string x.f3, .slice A4 x.f4.length c4, .string x.f5, .bool x.f6, .bool x.f7, .int .i64 x.f8]] w (BytesPost (codeB x) w) := by
  have hb0 : Below w.heap.size w (w.alloc (.cells #[.string x.f0, .string x.f1, .string x.f2, .string x.f3, .slice A4 x.f4.length c4, .string x.f5, .bool x.f6, .bool x.f7, .int .i64 x.f8] 27)) := (Below.refl _ _).alloc (Nat.le_refl _) _
  have HB0 := hid hb0
  have HX := hid hx
  clear hb0 hx
  have HG4 := hid (Kd.C_below g4 HB0.out)
  clear g4
  go_enter Tryd.func34, Tryd.ntmps34
  go_wp2_with fail
  refine (packCode_any _ x HG4.out HX.out hl).mono ?_
  intro e w1 hq
  obtain ⟨v1, rfl, hr, hb⟩ := hq
  go_wp2
  go_ret
  exact ⟨v1, rfl, hr, HB0.out.trans (hb.mono (by simp))⟩
set_option maxHeartbeats 4000000 in
set_option maxRecDepth 100000 in
theorem family_w {w0 w : World} {g : Nat} {v : Value} {l : List UInt8} (h : WS w0 g v l w) (b : Nat) (x : S29) {A3 : Option Addr} {c3 : Nat} (hb : ∀ i u, [.string x.f0, .string x.f1, .string x.f2, .slice A3 x.f3.length c3, .int .i64 x.f4, .int .i64 x.f5, .bool x.f6][i]? = some u → w0.cell? ⟨b, i, none⟩ = some u) (g3 : Kd.string.C w0 A3 x.f3.length x.f3) (hx : OkFamily x) (hl : (l ++ familyB x).length ≤ 549755813888) :
    Calls Tryd.prog 48 #[.pointer (some ⟨g, 0, none⟩), .pointer (some ⟨b, 0, none⟩)] w (WPost w0 g (l ++ familyB x) (.returned (.tuple #[]))) := by
  have HBB := hid hb
  have HX := hid hx
  have H0 := hid h
  simp only [familyB, List.length_append] at hl
  clear h hb hx
  have HG3 := hid g3
  clear g3
  go_enter Tryd.func48, Tryd.ntmps48
  go_wp2_with fail
  refine (text_w H0.out ⟨b, 0, none⟩ x.f0 (HBB.out 0 _ rfl) (Nat.le_trans HX.out.1 (by omega)) (by (try simp only [List.length_append]); omega)).mono ?_
  intro e w1 hq
  obtain ⟨rfl, v1, h⟩ := hq
  have H1 := hid h
  clear h
  go_wp2_with fail
  refine (text_w H1.out ⟨b, 1, none⟩ x.f1 (HBB.out 1 _ rfl) (Nat.le_trans HX.out.2.1 (by omega)) (by (try simp only [List.length_append]); omega)).mono ?_
  intro e w2 hq
  obtain ⟨rfl, v2, h⟩ := hq
  have H2 := hid h
  clear h
  go_wp2_with fail
  refine (text_w H2.out ⟨b, 2, none⟩ x.f2 (HBB.out 2 _ rfl) (Nat.le_trans HX.out.2.2.1 (by omega)) (by (try simp only [List.length_append]); omega)).mono ?_
  intro e w3 hq
  obtain ⟨rfl, v3, h⟩ := hq
  have H3 := hid h
  clear h
  go_wp2_with fail
  refine (texts_w H3.out ⟨b, 3, none⟩ A3 c3 x.f3 (HBB.out 3 _ rfl) HG3.out HX.out.2.2.2.1 (by (try simp only [List.length_append]); omega)).mono ?_
  intro e w4 hq
  obtain ⟨rfl, v4, h⟩ := hq
  have H4 := hid h
  clear h
  go_wp2_with fail
  refine (num_w H4.out ⟨b, 4, none⟩ x.f4 (HBB.out 4 _ rfl) HX.out.2.2.2.2.1 (by (try simp only [List.length_append]); omega)).mono ?_
  intro e w5 hq
  obtain ⟨rfl, v5, h⟩ := hq
  have H5 := hid h
  clear h
  go_wp2_with fail
  refine (num_w H5.out ⟨b, 5, none⟩ x.f5 (HBB.out 5 _ rfl) HX.out.2.2.2.2.2 (by (try simp only [List.length_append]); omega)).mono ?_
  intro e w6 hq
  obtain ⟨rfl, v6, h⟩ := hq
  have H6 := hid h
  clear h
  go_wp2_with fail
  refine (truth_w H6.out ⟨b, 6, none⟩ x.f6 (HBB.out 6 _ rfl) (by (try simp only [List.length_append]); omega)).mono ?_
  intro e w7 hq
  obtain ⟨rfl, v7, h⟩ := hq
  have H7 := hid h
  clear h
  go_wp2
  go_end0
  exact WPost.mk rfl (by simp [familyB]) H7.out
set_option maxHeartbeats 4000000 in
set_option maxRecDepth 100000 in
theorem packFamily_any (w : World) (x : S29) {A3 : Option Addr} {c3 : Nat} (g3 : Kd.string.C w A3 x.f3.length x.f3) (hx : OkFamily x) (hl : (familyB x).length ≤ 549755813888) :
    Calls Tryd.prog 62 #[.agg #[.string x.f0, .string x.f1, .string x.f2, .slice A3 x.f3.length c3, .int .i64 x.f4, .int .i64 x.f5, .bool x.f6], .func (.func 48) #[] #[]] w (BytesPost (familyB x) w) := by
  have HX := hid hx
  have hw := WS.new (w.alloc (.cells #[.string x.f0, .string x.f1, .string x.f2, .slice A3 x.f3.length c3, .int .i64 x.f4, .int .i64 x.f5, .bool x.f6] 29))
  rw [World.size_alloc] at hw
  have HW := hid hw
  have hcc := cells_of_alloc w #[.string x.f0, .string x.f1, .string x.f2, .slice A3 x.f3.length c3, .int .i64 x.f4, .int .i64 x.f5, .bool x.f6] 29
  have HCC := hid hcc
  clear hx hw hcc
  have hb0 : Below w.heap.size w (w.alloc (.cells #[.string x.f0, .string x.f1, .string x.f2, .slice A3 x.f3.length c3, .int .i64 x.f4, .int .i64 x.f5, .bool x.f6] 29)) := (Below.refl _ _).alloc (Nat.le_refl _) _
  have HB0 := hid hb0
  clear hb0
  have HG3 := hid (Kd.C_below g3 HB0.out)
  clear g3
  go_enter Tryd.func62, Tryd.ntmps62
  go_wp2_with fail
  refine (family_w HW.out w.heap.size x HCC.out HG3.out HX.out (by simpa using hl)).mono ?_
  intro e w1 hq
  obtain ⟨rfl, v1, h1⟩ := hq
  obtain ⟨c0, c1, c2, f0⟩ := h1.cells
  have H1 := hid h1
  clear h1
  go_wp2
  go_ret
  exact ⟨v1, rfl, H1.out.own.reads, HB0.out.trans (H1.out.below.mono (by simp))⟩
set_option maxHeartbeats 4000000 in
set_option maxRecDepth 100000 in
theorem rowFamily_any (w : World) (x : S29) {A3 : Option Addr} {c3 : Nat} (g3 : Kd.string.C w A3 x.f3.length x.f3) (hx : OkFamily x) (hl : (familyB x).length ≤ 549755813888) :
    Calls Tryd.prog 35 #[.agg #[.string x.f0, .string x.f1, .string x.f2, .slice A3 x.f3.length c3, .int .i64 x.f4, .int .i64 x.f5, .bool x.f6]] w (BytesPost (familyB x) w) := by
  have hb0 : Below w.heap.size w (w.alloc (.cells #[.string x.f0, .string x.f1, .string x.f2, .slice A3 x.f3.length c3, .int .i64 x.f4, .int .i64 x.f5, .bool x.f6] 29)) := (Below.refl _ _).alloc (Nat.le_refl _) _
  have HB0 := hid hb0
  have HX := hid hx
  clear hb0 hx
  have HG3 := hid (Kd.C_below g3 HB0.out)
  clear g3
  go_enter Tryd.func35, Tryd.ntmps35
  go_wp2_with fail
  refine (packFamily_any _ x HG3.out HX.out hl).mono ?_
  intro e w1 hq
  obtain ⟨v1, rfl, hr, hb⟩ := hq
  go_wp2
  go_ret
  exact ⟨v1, rfl, hr, HB0.out.trans (hb.mono (by simp))⟩
set_option maxHeartbeats 4000000 in
set_option maxRecDepth 100000 in
theorem refresh_w {w0 w : World} {g : Nat} {v : Value} {l : List UInt8} (h : WS w0 g v l w) (b : Nat) (x : S31)  (hb : ∀ i u, [.string x.f0, .string x.f1, .int .i64 x.f2][i]? = some u → w0.cell? ⟨b, i, none⟩ = some u)  (hx : OkRefresh x) (hl : (l ++ refreshB x).length ≤ 549755813888) :
    Calls Tryd.prog 41 #[.pointer (some ⟨g, 0, none⟩), .pointer (some ⟨b, 0, none⟩)] w (WPost w0 g (l ++ refreshB x) (.returned (.tuple #[]))) := by
  have HBB := hid hb
  have HX := hid hx
  have H0 := hid h
  simp only [refreshB, List.length_append] at hl
  clear h hb hx
  go_enter Tryd.func41, Tryd.ntmps41
  go_wp2_with fail
  refine (text_w H0.out ⟨b, 0, none⟩ x.f0 (HBB.out 0 _ rfl) (Nat.le_trans HX.out.1 (by omega)) (by (try simp only [List.length_append]); omega)).mono ?_
  intro e w1 hq
  obtain ⟨rfl, v1, h⟩ := hq
  have H1 := hid h
  clear h
  go_wp2_with fail
  refine (text_w H1.out ⟨b, 1, none⟩ x.f1 (HBB.out 1 _ rfl) (Nat.le_trans HX.out.2.1 (by omega)) (by (try simp only [List.length_append]); omega)).mono ?_
  intro e w2 hq
  obtain ⟨rfl, v2, h⟩ := hq
  have H2 := hid h
  clear h
  go_wp2_with fail
  refine (num_w H2.out ⟨b, 2, none⟩ x.f2 (HBB.out 2 _ rfl) HX.out.2.2 (by (try simp only [List.length_append]); omega)).mono ?_
  intro e w3 hq
  obtain ⟨rfl, v3, h⟩ := hq
  have H3 := hid h
  clear h
  go_wp2
  go_end0
  exact WPost.mk rfl (by simp [refreshB]) H3.out
set_option maxHeartbeats 4000000 in
set_option maxRecDepth 100000 in
theorem packRefresh_any (w : World) (x : S31)   (hx : OkRefresh x) (hl : (refreshB x).length ≤ 549755813888) :
    Calls Tryd.prog 40 #[.agg #[.string x.f0, .string x.f1, .int .i64 x.f2], .func (.func 41) #[] #[]] w (BytesPost (refreshB x) w) := by
  have HX := hid hx
  have hw := WS.new (w.alloc (.cells #[.string x.f0, .string x.f1, .int .i64 x.f2] 31))
  rw [World.size_alloc] at hw
  have HW := hid hw
  have hcc := cells_of_alloc w #[.string x.f0, .string x.f1, .int .i64 x.f2] 31
  have HCC := hid hcc
  clear hx hw hcc
  have hb0 : Below w.heap.size w (w.alloc (.cells #[.string x.f0, .string x.f1, .int .i64 x.f2] 31)) := (Below.refl _ _).alloc (Nat.le_refl _) _
  have HB0 := hid hb0
  clear hb0
  go_enter Tryd.func40, Tryd.ntmps40
  go_wp2_with fail
  refine (refresh_w HW.out w.heap.size x HCC.out  HX.out (by simpa using hl)).mono ?_
  intro e w1 hq
  obtain ⟨rfl, v1, h1⟩ := hq
  obtain ⟨c0, c1, c2, f0⟩ := h1.cells
  have H1 := hid h1
  clear h1
  go_wp2
  go_ret
  exact ⟨v1, rfl, H1.out.own.reads, HB0.out.trans (H1.out.below.mono (by simp))⟩
set_option maxHeartbeats 4000000 in
set_option maxRecDepth 100000 in
theorem rowRefresh_any (w : World) (x : S31)   (hx : OkRefresh x) (hl : (refreshB x).length ≤ 549755813888) :
    Calls Tryd.prog 11 #[.agg #[.string x.f0, .string x.f1, .int .i64 x.f2]] w (BytesPost (refreshB x) w) := by
  have hb0 : Below w.heap.size w (w.alloc (.cells #[.string x.f0, .string x.f1, .int .i64 x.f2] 31)) := (Below.refl _ _).alloc (Nat.le_refl _) _
  have HB0 := hid hb0
  have HX := hid hx
  clear hb0 hx
  go_enter Tryd.func11, Tryd.ntmps11
  go_wp2_with fail
  refine (packRefresh_any _ x  HX.out hl).mono ?_
  intro e w1 hq
  obtain ⟨v1, rfl, hr, hb⟩ := hq
  go_wp2
  go_ret
  exact ⟨v1, rfl, hr, HB0.out.trans (hb.mono (by simp))⟩
set_option maxHeartbeats 4000000 in
set_option maxRecDepth 100000 in
theorem access_w {w0 w : World} {g : Nat} {v : Value} {l : List UInt8} (h : WS w0 g v l w) (b : Nat) (x : S34) {A5 : Option Addr} {c5 : Nat} {A6 : Option Addr} {c6 : Nat} (hb : ∀ i u, [.string x.f0, .string x.f1, .string x.f2, .string x.f3, .string x.f4, .slice A5 x.f5.length c5, .slice A6 x.f6.length c6, .int .i64 x.f7, .int .i64 x.f8, .bool x.f9][i]? = some u → w0.cell? ⟨b, i, none⟩ = some u) (g5 : Kd.string.C w0 A5 x.f5.length x.f5) (g6 : k86.C w0 A6 x.f6.length x.f6) (hx : OkAccess x) (hl : (l ++ accessB x).length ≤ 549755813888) :
    Calls Tryd.prog 50 #[.pointer (some ⟨g, 0, none⟩), .pointer (some ⟨b, 0, none⟩)] w (WPost w0 g (l ++ accessB x) (.returned (.tuple #[]))) := by
  have HBB := hid hb
  have HX := hid hx
  have H0 := hid h
  simp only [accessB, List.length_append] at hl
  clear h hb hx
  have HG5 := hid g5
  clear g5
  have HG6 := hid g6
  clear g6
  go_enter Tryd.func50, Tryd.ntmps50
  go_wp2_with fail
  refine (text_w H0.out ⟨b, 0, none⟩ x.f0 (HBB.out 0 _ rfl) (Nat.le_trans HX.out.1 (by omega)) (by (try simp only [List.length_append]); omega)).mono ?_
  intro e w1 hq
  obtain ⟨rfl, v1, h⟩ := hq
  have H1 := hid h
  clear h
  go_wp2_with fail
  refine (text_w H1.out ⟨b, 1, none⟩ x.f1 (HBB.out 1 _ rfl) (Nat.le_trans HX.out.2.1 (by omega)) (by (try simp only [List.length_append]); omega)).mono ?_
  intro e w2 hq
  obtain ⟨rfl, v2, h⟩ := hq
  have H2 := hid h
  clear h
  go_wp2_with fail
  refine (text_w H2.out ⟨b, 2, none⟩ x.f2 (HBB.out 2 _ rfl) (Nat.le_trans HX.out.2.2.1 (by omega)) (by (try simp only [List.length_append]); omega)).mono ?_
  intro e w3 hq
  obtain ⟨rfl, v3, h⟩ := hq
  have H3 := hid h
  clear h
  go_wp2_with fail
  refine (text_w H3.out ⟨b, 3, none⟩ x.f3 (HBB.out 3 _ rfl) (Nat.le_trans HX.out.2.2.2.1 (by omega)) (by (try simp only [List.length_append]); omega)).mono ?_
  intro e w4 hq
  obtain ⟨rfl, v4, h⟩ := hq
  have H4 := hid h
  clear h
  go_wp2_with fail
  refine (text_w H4.out ⟨b, 4, none⟩ x.f4 (HBB.out 4 _ rfl) (Nat.le_trans HX.out.2.2.2.2.1 (by omega)) (by (try simp only [List.length_append]); omega)).mono ?_
  intro e w5 hq
  obtain ⟨rfl, v5, h⟩ := hq
  have H5 := hid h
  clear h
  go_wp2_with fail
  refine (texts_w H5.out ⟨b, 5, none⟩ A5 c5 x.f5 (HBB.out 5 _ rfl) HG5.out HX.out.2.2.2.2.2.1 (by (try simp only [List.length_append]); omega)).mono ?_
  intro e w6 hq
  obtain ⟨rfl, v6, h⟩ := hq
  have H6 := hid h
  clear h
  go_wp2_with fail
  refine (listP_w H6.out ⟨b, 6, none⟩ A6 c6 x.f6 (HBB.out 6 _ rfl) HG6.out HX.out.2.2.2.2.2.2.1 (by (try simp only [List.length_append]); omega)).mono ?_
  intro e w7 hq
  obtain ⟨rfl, v7, h⟩ := hq
  have H7 := hid h
  clear h
  go_wp2_with fail
  refine (num_w H7.out ⟨b, 7, none⟩ x.f7 (HBB.out 7 _ rfl) HX.out.2.2.2.2.2.2.2.1 (by (try simp only [List.length_append]); omega)).mono ?_
  intro e w8 hq
  obtain ⟨rfl, v8, h⟩ := hq
  have H8 := hid h
  clear h
  go_wp2_with fail
  refine (num_w H8.out ⟨b, 8, none⟩ x.f8 (HBB.out 8 _ rfl) HX.out.2.2.2.2.2.2.2.2 (by (try simp only [List.length_append]); omega)).mono ?_
  intro e w9 hq
  obtain ⟨rfl, v9, h⟩ := hq
  have H9 := hid h
  clear h
  go_wp2_with fail
  refine (truth_w H9.out ⟨b, 9, none⟩ x.f9 (HBB.out 9 _ rfl) (by (try simp only [List.length_append]); omega)).mono ?_
  intro e w10 hq
  obtain ⟨rfl, v10, h⟩ := hq
  have H10 := hid h
  clear h
  go_wp2
  go_end0
  exact WPost.mk rfl (by simp [accessB]) H10.out
set_option maxHeartbeats 4000000 in
set_option maxRecDepth 100000 in
theorem packAccess_any (w : World) (x : S34) {A5 : Option Addr} {c5 : Nat} {A6 : Option Addr} {c6 : Nat} (g5 : Kd.string.C w A5 x.f5.length x.f5) (g6 : k86.C w A6 x.f6.length x.f6) (hx : OkAccess x) (hl : (accessB x).length ≤ 549755813888) :
    Calls Tryd.prog 63 #[.agg #[.string x.f0, .string x.f1, .string x.f2, .string x.f3, .string x.f4, .slice A5 x.f5.length c5, .slice A6 x.f6.length c6, .int .i64 x.f7, .int .i64 x.f8, .bool x.f9], .func (.func 50) #[] #[]] w (BytesPost (accessB x) w) := by
  have HX := hid hx
  have hw := WS.new (w.alloc (.cells #[.string x.f0, .string x.f1, .string x.f2, .string x.f3, .string x.f4, .slice A5 x.f5.length c5, .slice A6 x.f6.length c6, .int .i64 x.f7, .int .i64 x.f8, .bool x.f9] 34))
  rw [World.size_alloc] at hw
  have HW := hid hw
  have hcc := cells_of_alloc w #[.string x.f0, .string x.f1, .string x.f2, .string x.f3, .string x.f4, .slice A5 x.f5.length c5, .slice A6 x.f6.length c6, .int .i64 x.f7, .int .i64 x.f8, .bool x.f9] 34
  have HCC := hid hcc
  clear hx hw hcc
  have hb0 : Below w.heap.size w (w.alloc (.cells #[.string x.f0, .string x.f1, .string x.f2, .string x.f3, .string x.f4, .slice A5 x.f5.length c5, .slice A6 x.f6.length c6, .int .i64 x.f7, .int .i64 x.f8, .bool x.f9] 34)) := (Below.refl _ _).alloc (Nat.le_refl _) _
  have HB0 := hid hb0
  clear hb0
  have HG5 := hid (Kd.C_below g5 HB0.out)
  clear g5
  have HG6 := hid (Kd.C_below g6 HB0.out)
  clear g6
  go_enter Tryd.func63, Tryd.ntmps63
  go_wp2_with fail
  refine (access_w HW.out w.heap.size x HCC.out HG5.out HG6.out HX.out (by simpa using hl)).mono ?_
  intro e w1 hq
  obtain ⟨rfl, v1, h1⟩ := hq
  obtain ⟨c0, c1, c2, f0⟩ := h1.cells
  have H1 := hid h1
  clear h1
  go_wp2
  go_ret
  exact ⟨v1, rfl, H1.out.own.reads, HB0.out.trans (H1.out.below.mono (by simp))⟩
set_option maxHeartbeats 4000000 in
set_option maxRecDepth 100000 in
theorem rowAccess_any (w : World) (x : S34) {A5 : Option Addr} {c5 : Nat} {A6 : Option Addr} {c6 : Nat} (g5 : Kd.string.C w A5 x.f5.length x.f5) (g6 : k86.C w A6 x.f6.length x.f6) (hx : OkAccess x) (hl : (accessB x).length ≤ 549755813888) :
    Calls Tryd.prog 36 #[.agg #[.string x.f0, .string x.f1, .string x.f2, .string x.f3, .string x.f4, .slice A5 x.f5.length c5, .slice A6 x.f6.length c6, .int .i64 x.f7, .int .i64 x.f8, .bool x.f9]] w (BytesPost (accessB x) w) := by
  have hb0 : Below w.heap.size w (w.alloc (.cells #[.string x.f0, .string x.f1, .string x.f2, .string x.f3, .string x.f4, .slice A5 x.f5.length c5, .slice A6 x.f6.length c6, .int .i64 x.f7, .int .i64 x.f8, .bool x.f9] 34)) := (Below.refl _ _).alloc (Nat.le_refl _) _
  have HB0 := hid hb0
  have HX := hid hx
  clear hb0 hx
  have HG5 := hid (Kd.C_below g5 HB0.out)
  clear g5
  have HG6 := hid (Kd.C_below g6 HB0.out)
  clear g6
  go_enter Tryd.func36, Tryd.ntmps36
  go_wp2_with fail
  refine (packAccess_any _ x HG5.out HG6.out HX.out hl).mono ?_
  intro e w1 hq
  obtain ⟨v1, rfl, hr, hb⟩ := hq
  go_wp2
  go_ret
  exact ⟨v1, rfl, hr, HB0.out.trans (hb.mono (by simp))⟩
set_option maxHeartbeats 4000000 in
set_option maxRecDepth 100000 in
theorem resource_w {w0 w : World} {g : Nat} {v : Value} {l : List UInt8} (h : WS w0 g v l w) (b : Nat) (x : S36) {A4 : Option Addr} {c4 : Nat} (hb : ∀ i u, [.string x.f0, .string x.f1, .string x.f2, .string x.f3, .slice A4 x.f4.length c4, .string x.f5][i]? = some u → w0.cell? ⟨b, i, none⟩ = some u) (g4 : Kd.string.C w0 A4 x.f4.length x.f4) (hx : OkResource x) (hl : (l ++ resourceB x).length ≤ 549755813888) :
    Calls Tryd.prog 52 #[.pointer (some ⟨g, 0, none⟩), .pointer (some ⟨b, 0, none⟩)] w (WPost w0 g (l ++ resourceB x) (.returned (.tuple #[]))) := by
  have HBB := hid hb
  have HX := hid hx
  have H0 := hid h
  simp only [resourceB, List.length_append] at hl
  clear h hb hx
  have HG4 := hid g4
  clear g4
  go_enter Tryd.func52, Tryd.ntmps52
  go_wp2_with fail
  refine (text_w H0.out ⟨b, 0, none⟩ x.f0 (HBB.out 0 _ rfl) (Nat.le_trans HX.out.1 (by omega)) (by (try simp only [List.length_append]); omega)).mono ?_
  intro e w1 hq
  obtain ⟨rfl, v1, h⟩ := hq
  have H1 := hid h
  clear h
  go_wp2_with fail
  refine (text_w H1.out ⟨b, 1, none⟩ x.f1 (HBB.out 1 _ rfl) (Nat.le_trans HX.out.2.1 (by omega)) (by (try simp only [List.length_append]); omega)).mono ?_
  intro e w2 hq
  obtain ⟨rfl, v2, h⟩ := hq
  have H2 := hid h
  clear h
  go_wp2_with fail
  refine (text_w H2.out ⟨b, 2, none⟩ x.f2 (HBB.out 2 _ rfl) (Nat.le_trans HX.out.2.2.1 (by omega)) (by (try simp only [List.length_append]); omega)).mono ?_
  intro e w3 hq
  obtain ⟨rfl, v3, h⟩ := hq
  have H3 := hid h
  clear h
  go_wp2_with fail
  refine (text_w H3.out ⟨b, 3, none⟩ x.f3 (HBB.out 3 _ rfl) (Nat.le_trans HX.out.2.2.2.1 (by omega)) (by (try simp only [List.length_append]); omega)).mono ?_
  intro e w4 hq
  obtain ⟨rfl, v4, h⟩ := hq
  have H4 := hid h
  clear h
  go_wp2_with fail
  refine (texts_w H4.out ⟨b, 4, none⟩ A4 c4 x.f4 (HBB.out 4 _ rfl) HG4.out HX.out.2.2.2.2.1 (by (try simp only [List.length_append]); omega)).mono ?_
  intro e w5 hq
  obtain ⟨rfl, v5, h⟩ := hq
  have H5 := hid h
  clear h
  go_wp2_with fail
  refine (text_w H5.out ⟨b, 5, none⟩ x.f5 (HBB.out 5 _ rfl) (Nat.le_trans HX.out.2.2.2.2.2 (by omega)) (by (try simp only [List.length_append]); omega)).mono ?_
  intro e w6 hq
  obtain ⟨rfl, v6, h⟩ := hq
  have H6 := hid h
  clear h
  go_wp2
  go_end0
  exact WPost.mk rfl (by simp [resourceB]) H6.out
set_option maxHeartbeats 4000000 in
set_option maxRecDepth 100000 in
theorem packResource_any (w : World) (x : S36) {A4 : Option Addr} {c4 : Nat} (g4 : Kd.string.C w A4 x.f4.length x.f4) (hx : OkResource x) (hl : (resourceB x).length ≤ 549755813888) :
    Calls Tryd.prog 64 #[.agg #[.string x.f0, .string x.f1, .string x.f2, .string x.f3, .slice A4 x.f4.length c4, .string x.f5], .func (.func 52) #[] #[]] w (BytesPost (resourceB x) w) := by
  have HX := hid hx
  have hw := WS.new (w.alloc (.cells #[.string x.f0, .string x.f1, .string x.f2, .string x.f3, .slice A4 x.f4.length c4, .string x.f5] 36))
  rw [World.size_alloc] at hw
  have HW := hid hw
  have hcc := cells_of_alloc w #[.string x.f0, .string x.f1, .string x.f2, .string x.f3, .slice A4 x.f4.length c4, .string x.f5] 36
  have HCC := hid hcc
  clear hx hw hcc
  have hb0 : Below w.heap.size w (w.alloc (.cells #[.string x.f0, .string x.f1, .string x.f2, .string x.f3, .slice A4 x.f4.length c4, .string x.f5] 36)) := (Below.refl _ _).alloc (Nat.le_refl _) _
  have HB0 := hid hb0
  clear hb0
  have HG4 := hid (Kd.C_below g4 HB0.out)
  clear g4
  go_enter Tryd.func64, Tryd.ntmps64
  go_wp2_with fail
  refine (resource_w HW.out w.heap.size x HCC.out HG4.out HX.out (by simpa using hl)).mono ?_
  intro e w1 hq
  obtain ⟨rfl, v1, h1⟩ := hq
  obtain ⟨c0, c1, c2, f0⟩ := h1.cells
  have H1 := hid h1
  clear h1
  go_wp2
  go_ret
  exact ⟨v1, rfl, H1.out.own.reads, HB0.out.trans (H1.out.below.mono (by simp))⟩
set_option maxHeartbeats 4000000 in
set_option maxRecDepth 100000 in
theorem rowResource_any (w : World) (x : S36) {A4 : Option Addr} {c4 : Nat} (g4 : Kd.string.C w A4 x.f4.length x.f4) (hx : OkResource x) (hl : (resourceB x).length ≤ 549755813888) :
    Calls Tryd.prog 37 #[.agg #[.string x.f0, .string x.f1, .string x.f2, .string x.f3, .slice A4 x.f4.length c4, .string x.f5]] w (BytesPost (resourceB x) w) := by
  have hb0 : Below w.heap.size w (w.alloc (.cells #[.string x.f0, .string x.f1, .string x.f2, .string x.f3, .slice A4 x.f4.length c4, .string x.f5] 36)) := (Below.refl _ _).alloc (Nat.le_refl _) _
  have HB0 := hid hb0
  have HX := hid hx
  clear hb0 hx
  have HG4 := hid (Kd.C_below g4 HB0.out)
  clear g4
  go_enter Tryd.func37, Tryd.ntmps37
  go_wp2_with fail
  refine (packResource_any _ x HG4.out HX.out hl).mono ?_
  intro e w1 hq
  obtain ⟨v1, rfl, hr, hb⟩ := hq
  go_wp2
  go_ret
  exact ⟨v1, rfl, hr, HB0.out.trans (hb.mono (by simp))⟩
set_option maxHeartbeats 4000000 in
set_option maxRecDepth 100000 in
theorem ticket_w {w0 w : World} {g : Nat} {v : Value} {l : List UInt8} (h : WS w0 g v l w) (b : Nat) (x : S38) {A2 : Option Addr} {c2 : Nat} (hb : ∀ i u, [.string x.f0, .string x.f1, .slice A2 x.f2.length c2, .string x.f3, .int .i64 x.f4, .bool x.f5][i]? = some u → w0.cell? ⟨b, i, none⟩ = some u) (g2 : k86.C w0 A2 x.f2.length x.f2) (hx : OkTicket x) (hl : (l ++ ticketB x).length ≤ 549755813888) :
    Calls Tryd.prog 54 #[.pointer (some ⟨g, 0, none⟩), .pointer (some ⟨b, 0, none⟩)] w (WPost w0 g (l ++ ticketB x) (.returned (.tuple #[]))) := by
  have HBB := hid hb
  have HX := hid hx
  have H0 := hid h
  simp only [ticketB, List.length_append] at hl
  clear h hb hx
  have HG2 := hid g2
  clear g2
  go_enter Tryd.func54, Tryd.ntmps54
  go_wp2_with fail
  refine (text_w H0.out ⟨b, 0, none⟩ x.f0 (HBB.out 0 _ rfl) (Nat.le_trans HX.out.1 (by omega)) (by (try simp only [List.length_append]); omega)).mono ?_
  intro e w1 hq
  obtain ⟨rfl, v1, h⟩ := hq
  have H1 := hid h
  clear h
  go_wp2_with fail
  refine (text_w H1.out ⟨b, 1, none⟩ x.f1 (HBB.out 1 _ rfl) (Nat.le_trans HX.out.2.1 (by omega)) (by (try simp only [List.length_append]); omega)).mono ?_
  intro e w2 hq
  obtain ⟨rfl, v2, h⟩ := hq
  have H2 := hid h
  clear h
  go_wp2_with fail
  refine (listP_w H2.out ⟨b, 2, none⟩ A2 c2 x.f2 (HBB.out 2 _ rfl) HG2.out HX.out.2.2.1 (by (try simp only [List.length_append]); omega)).mono ?_
  intro e w3 hq
  obtain ⟨rfl, v3, h⟩ := hq
  have H3 := hid h
  clear h
  go_wp2_with fail
  refine (text_w H3.out ⟨b, 3, none⟩ x.f3 (HBB.out 3 _ rfl) (Nat.le_trans HX.out.2.2.2.1 (by omega)) (by (try simp only [List.length_append]); omega)).mono ?_
  intro e w4 hq
  obtain ⟨rfl, v4, h⟩ := hq
  have H4 := hid h
  clear h
  go_wp2_with fail
  refine (num_w H4.out ⟨b, 4, none⟩ x.f4 (HBB.out 4 _ rfl) HX.out.2.2.2.2 (by (try simp only [List.length_append]); omega)).mono ?_
  intro e w5 hq
  obtain ⟨rfl, v5, h⟩ := hq
  have H5 := hid h
  clear h
  go_wp2_with fail
  refine (truth_w H5.out ⟨b, 5, none⟩ x.f5 (HBB.out 5 _ rfl) (by (try simp only [List.length_append]); omega)).mono ?_
  intro e w6 hq
  obtain ⟨rfl, v6, h⟩ := hq
  have H6 := hid h
  clear h
  go_wp2
  go_end0
  exact WPost.mk rfl (by simp [ticketB]) H6.out
set_option maxHeartbeats 4000000 in
set_option maxRecDepth 100000 in
theorem packTicket_any (w : World) (x : S38) {A2 : Option Addr} {c2 : Nat} (g2 : k86.C w A2 x.f2.length x.f2) (hx : OkTicket x) (hl : (ticketB x).length ≤ 549755813888) :
    Calls Tryd.prog 65 #[.agg #[.string x.f0, .string x.f1, .slice A2 x.f2.length c2, .string x.f3, .int .i64 x.f4, .bool x.f5], .func (.func 54) #[] #[]] w (BytesPost (ticketB x) w) := by
  have HX := hid hx
  have hw := WS.new (w.alloc (.cells #[.string x.f0, .string x.f1, .slice A2 x.f2.length c2, .string x.f3, .int .i64 x.f4, .bool x.f5] 38))
  rw [World.size_alloc] at hw
  have HW := hid hw
  have hcc := cells_of_alloc w #[.string x.f0, .string x.f1, .slice A2 x.f2.length c2, .string x.f3, .int .i64 x.f4, .bool x.f5] 38
  have HCC := hid hcc
  clear hx hw hcc
  have hb0 : Below w.heap.size w (w.alloc (.cells #[.string x.f0, .string x.f1, .slice A2 x.f2.length c2, .string x.f3, .int .i64 x.f4, .bool x.f5] 38)) := (Below.refl _ _).alloc (Nat.le_refl _) _
  have HB0 := hid hb0
  clear hb0
  have HG2 := hid (Kd.C_below g2 HB0.out)
  clear g2
  go_enter Tryd.func65, Tryd.ntmps65
  go_wp2_with fail
  refine (ticket_w HW.out w.heap.size x HCC.out HG2.out HX.out (by simpa using hl)).mono ?_
  intro e w1 hq
  obtain ⟨rfl, v1, h1⟩ := hq
  obtain ⟨c0, c1, c2, f0⟩ := h1.cells
  have H1 := hid h1
  clear h1
  go_wp2
  go_ret
  exact ⟨v1, rfl, H1.out.own.reads, HB0.out.trans (H1.out.below.mono (by simp))⟩
set_option maxHeartbeats 4000000 in
set_option maxRecDepth 100000 in
theorem rowTicket_any (w : World) (x : S38) {A2 : Option Addr} {c2 : Nat} (g2 : k86.C w A2 x.f2.length x.f2) (hx : OkTicket x) (hl : (ticketB x).length ≤ 549755813888) :
    Calls Tryd.prog 38 #[.agg #[.string x.f0, .string x.f1, .slice A2 x.f2.length c2, .string x.f3, .int .i64 x.f4, .bool x.f5]] w (BytesPost (ticketB x) w) := by
  have hb0 : Below w.heap.size w (w.alloc (.cells #[.string x.f0, .string x.f1, .slice A2 x.f2.length c2, .string x.f3, .int .i64 x.f4, .bool x.f5] 38)) := (Below.refl _ _).alloc (Nat.le_refl _) _
  have HB0 := hid hb0
  have HX := hid hx
  clear hb0 hx
  have HG2 := hid (Kd.C_below g2 HB0.out)
  clear g2
  go_enter Tryd.func38, Tryd.ntmps38
  go_wp2_with fail
  refine (packTicket_any _ x HG2.out HX.out hl).mono ?_
  intro e w1 hq
  obtain ⟨v1, rfl, hr, hb⟩ := hq
  go_wp2
  go_ret
  exact ⟨v1, rfl, hr, HB0.out.trans (hb.mono (by simp))⟩
set_option maxHeartbeats 4000000 in
set_option maxRecDepth 100000 in
theorem packKeys_any (w : World) (xs : List S117) {A : Option Addr} {c : Nat} (g0 : k117.C w A xs.length xs) (hx : SzK xs) (hl : (keysB xs).length ≤ 549755813888) :
    Calls Tryd.prog 66 #[.slice A xs.length c, .func (.func 56) #[] #[]] w (BytesPost (keysB xs) w) := by
  have HX := hid hx
  have hw := WS.new (w.alloc (.cells #[.slice A xs.length c] 39))
  rw [World.size_alloc] at hw
  have HW := hid hw
  have hcc := cells_of_alloc w #[.slice A xs.length c] 39
  have HCC := hid hcc
  clear hx hw hcc
  have hb0 : Below w.heap.size w (w.alloc (.cells #[.slice A xs.length c] 39)) := (Below.refl _ _).alloc (Nat.le_refl _) _
  have HB0 := hid hb0
  clear hb0
  have HG := hid (Kd.C_below g0 HB0.out)
  clear g0
  go_enter Tryd.func66, Tryd.ntmps66
  go_wp2_with fail
  refine (keys_w HW.out ⟨w.heap.size, 0, none⟩ A c xs (HCC.out 0 _ rfl) HG.out HX.out (by simpa using hl)).mono ?_
  intro e w1 hq
  obtain ⟨rfl, v1, h1⟩ := hq
  obtain ⟨c0, c1, c2, f0⟩ := h1.cells
  have H1 := hid h1
  clear h1
  go_wp2
  go_ret
  exact ⟨v1, rfl, H1.out.own.reads, HB0.out.trans (H1.out.below.mono (by simp))⟩
set_option maxHeartbeats 4000000 in
theorem rowKeys_any (w : World) (xs : List S117) {A : Option Addr} {c : Nat} (g0 : k117.C w A xs.length xs) (hx : SzK xs) (hl : (keysB xs).length ≤ 549755813888) :
    Calls Tryd.prog 39 #[.slice A xs.length c] w (BytesPost (keysB xs) w) := by
  have HX := hid hx
  have HG := hid g0
  clear hx g0
  go_enter Tryd.func39, Tryd.ntmps39
  go_wp2_with fail
  refine (packKeys_any _ xs HG.out HX.out hl).mono ?_
  intro e w1 hq
  obtain ⟨v1, rfl, hr, hb⟩ := hq
  go_wp2
  go_ret
  exact ⟨v1, rfl, hr, hb⟩
end Go.Proofs.YtcgjacffemjehaaDoor

namespace Go.Proofs.YtcgjacffemjehaaDoor
open Go.RowKit
open Go.Proofs.YtcgjacffemjehaaDoorW.PrintWords (Kd rdOf)
open Go.Proofs.YtcgjacffemjehaaDoor.PRowReads
set_option linter.unusedVariables false
set_option maxHeartbeats 8000000 in
set_option maxRecDepth 100000 in
theorem lawConsent (w : World) (x : S41) {A3 : Option Addr} {c3 : Nat} {A8 : Option Addr} {c8 : Nat} {A16 : Option Addr} {c16 : Nat} {A28 : Option Addr} {c28 : Nat} {A29 : Option Addr} {c29 : Nat} {A37 : Option Addr} {c37 : Nat} {A41 : Option Addr} {c41 : Nat} {A45 : Option Addr} {c45 : Nat} (l3 : x.f1.f2.length ≤ c3) (g3 : Kd.string.C w A3 x.f1.f2.length x.f1.f2) (l8 : x.f2.f4.length ≤ c8) (g8 : Kd.string.C w A8 x.f2.f4.length x.f2.f4) (l16 : x.f3.f3.length ≤ c16) (g16 : Kd.string.C w A16 x.f3.f3.length x.f3.f3) (l28 : x.f5.f5.length ≤ c28) (g28 : Kd.string.C w A28 x.f5.f5.length x.f5.f5) (l29 : x.f5.f6.length ≤ c29) (g29 : k86.C w A29 x.f5.f6.length x.f5.f6) (l37 : x.f6.f4.length ≤ c37) (g37 : Kd.string.C w A37 x.f6.f4.length x.f6.f4) (l41 : x.f7.f2.length ≤ c41) (g41 : k86.C w A41 x.f7.f2.length x.f7.f2) (l45 : x.f8.length ≤ c45) (g45 : k117.C w A45 x.f8.length x.f8) (hx : OkConsent x.f1) (hl : (consentB x.f1).length ≤ 549755813888) :
    Calls Tryd.prog 10 #[.agg #[.int .i64 1, .string x.f1.f0, .string x.f1.f1, .slice A3 x.f1.f2.length c3, .string x.f2.f0, .string x.f2.f1, .string x.f2.f2, .string x.f2.f3, .slice A8 x.f2.f4.length c8, .string x.f2.f5, .bool x.f2.f6, .bool x.f2.f7, .int .i64 x.f2.f8, .string x.f3.f0, .string x.f3.f1, .string x.f3.f2, .slice A16 x.f3.f3.length c16, .int .i64 x.f3.f4, .int .i64 x.f3.f5, .bool x.f3.f6, .string x.f4.f0, .string x.f4.f1, .int .i64 x.f4.f2, .string x.f5.f0, .string x.f5.f1, .string x.f5.f2, .string x.f5.f3, .string x.f5.f4, .slice A28 x.f5.f5.length c28, .slice A29 x.f5.f6.length c29, .int .i64 x.f5.f7, .int .i64 x.f5.f8, .bool x.f5.f9, .string x.f6.f0, .string x.f6.f1, .string x.f6.f2, .string x.f6.f3, .slice A37 x.f6.f4.length c37, .string x.f6.f5, .string x.f7.f0, .string x.f7.f1, .slice A41 x.f7.f2.length c41, .string x.f7.f3, .int .i64 x.f7.f4, .bool x.f7.f5, .slice A45 x.f8.length c45]] w (TextPost (consentB x.f1) w) := by
  have hW : Below w.heap.size w (w.alloc (.cells #[.int .i64 1, .string x.f1.f0, .string x.f1.f1, .slice A3 x.f1.f2.length c3, .string x.f2.f0, .string x.f2.f1, .string x.f2.f2, .string x.f2.f3, .slice A8 x.f2.f4.length c8, .string x.f2.f5, .bool x.f2.f6, .bool x.f2.f7, .int .i64 x.f2.f8, .string x.f3.f0, .string x.f3.f1, .string x.f3.f2, .slice A16 x.f3.f3.length c16, .int .i64 x.f3.f4, .int .i64 x.f3.f5, .bool x.f3.f6, .string x.f4.f0, .string x.f4.f1, .int .i64 x.f4.f2, .string x.f5.f0, .string x.f5.f1, .string x.f5.f2, .string x.f5.f3, .string x.f5.f4, .slice A28 x.f5.f5.length c28, .slice A29 x.f5.f6.length c29, .int .i64 x.f5.f7, .int .i64 x.f5.f8, .bool x.f5.f9, .string x.f6.f0, .string x.f6.f1, .string x.f6.f2, .string x.f6.f3, .slice A37 x.f6.f4.length c37, .string x.f6.f5, .string x.f7.f0, .string x.f7.f1, .slice A41 x.f7.f2.length c41, .string x.f7.f3, .int .i64 x.f7.f4, .bool x.f7.f5, .slice A45 x.f8.length c45] 41)) := (Below.refl _ w).alloc (Nat.le_refl _) _
  have HG3 := hid (Kd.C_below g3 hW)
  have HW := hid hW
  have HX := hid hx
  clear hW hx g3 l3 g8 l8 g16 l16 g28 l28 g29 l29 g37 l37 g41 l41 g45 l45
  go_enter Tryd.func10, Tryd.ntmps10
  go_wp2_with (go_at_call 33; refine (rowConsent_any _ x.f1 HG3.out HX.out hl).mono ?_; intro e w1 hq; obtain ⟨v1, rfl, hr, hb⟩ := hq; have kc := run_string_of_reads (P := Tryd.prog) byteT Tryd.underlying9 hr; have HB := hid hb; clear hr hb)
  go_ret
  exact TextPost.mk rfl (HW.out.trans (HB.out.mono (by simp)))
set_option maxHeartbeats 8000000 in
set_option maxRecDepth 100000 in
theorem lawCode (w : World) (x : S41) {A3 : Option Addr} {c3 : Nat} {A8 : Option Addr} {c8 : Nat} {A16 : Option Addr} {c16 : Nat} {A28 : Option Addr} {c28 : Nat} {A29 : Option Addr} {c29 : Nat} {A37 : Option Addr} {c37 : Nat} {A41 : Option Addr} {c41 : Nat} {A45 : Option Addr} {c45 : Nat} (l3 : x.f1.f2.length ≤ c3) (g3 : Kd.string.C w A3 x.f1.f2.length x.f1.f2) (l8 : x.f2.f4.length ≤ c8) (g8 : Kd.string.C w A8 x.f2.f4.length x.f2.f4) (l16 : x.f3.f3.length ≤ c16) (g16 : Kd.string.C w A16 x.f3.f3.length x.f3.f3) (l28 : x.f5.f5.length ≤ c28) (g28 : Kd.string.C w A28 x.f5.f5.length x.f5.f5) (l29 : x.f5.f6.length ≤ c29) (g29 : k86.C w A29 x.f5.f6.length x.f5.f6) (l37 : x.f6.f4.length ≤ c37) (g37 : Kd.string.C w A37 x.f6.f4.length x.f6.f4) (l41 : x.f7.f2.length ≤ c41) (g41 : k86.C w A41 x.f7.f2.length x.f7.f2) (l45 : x.f8.length ≤ c45) (g45 : k117.C w A45 x.f8.length x.f8) (hx : OkCode x.f2) (hl : (codeB x.f2).length ≤ 549755813888) :
    Calls Tryd.prog 10 #[.agg #[.int .i64 2, .string x.f1.f0, .string x.f1.f1, .slice A3 x.f1.f2.length c3, .string x.f2.f0, .string x.f2.f1, .string x.f2.f2, .string x.f2.f3, .slice A8 x.f2.f4.length c8, .string x.f2.f5, .bool x.f2.f6, .bool x.f2.f7, .int .i64 x.f2.f8, .string x.f3.f0, .string x.f3.f1, .string x.f3.f2, .slice A16 x.f3.f3.length c16, .int .i64 x.f3.f4, .int .i64 x.f3.f5, .bool x.f3.f6, .string x.f4.f0, .string x.f4.f1, .int .i64 x.f4.f2, .string x.f5.f0, .string x.f5.f1, .string x.f5.f2, .string x.f5.f3, .string x.f5.f4, .slice A28 x.f5.f5.length c28, .slice A29 x.f5.f6.length c29, .int .i64 x.f5.f7, .int .i64 x.f5.f8, .bool x.f5.f9, .string x.f6.f0, .string x.f6.f1, .string x.f6.f2, .string x.f6.f3, .slice A37 x.f6.f4.length c37, .string x.f6.f5, .string x.f7.f0, .string x.f7.f1, .slice A41 x.f7.f2.length c41, .string x.f7.f3, .int .i64 x.f7.f4, .bool x.f7.f5, .slice A45 x.f8.length c45]] w (TextPost (codeB x.f2) w) := by
  have hW : Below w.heap.size w (w.alloc (.cells #[.int .i64 2, .string x.f1.f0, .string x.f1.f1, .slice A3 x.f1.f2.length c3, .string x.f2.f0, .string x.f2.f1, .string x.f2.f2, .string x.f2.f3, .slice A8 x.f2.f4.length c8, .string x.f2.f5, .bool x.f2.f6, .bool x.f2.f7, .int .i64 x.f2.f8, .string x.f3.f0, .string x.f3.f1, .string x.f3.f2, .slice A16 x.f3.f3.length c16, .int .i64 x.f3.f4, .int .i64 x.f3.f5, .bool x.f3.f6, .string x.f4.f0, .string x.f4.f1, .int .i64 x.f4.f2, .string x.f5.f0, .string x.f5.f1, .string x.f5.f2, .string x.f5.f3, .string x.f5.f4, .slice A28 x.f5.f5.length c28, .slice A29 x.f5.f6.length c29, .int .i64 x.f5.f7, .int .i64 x.f5.f8, .bool x.f5.f9, .string x.f6.f0, .string x.f6.f1, .string x.f6.f2, .string x.f6.f3, .slice A37 x.f6.f4.length c37, .string x.f6.f5, .string x.f7.f0, .string x.f7.f1, .slice A41 x.f7.f2.length c41, .string x.f7.f3, .int .i64 x.f7.f4, .bool x.f7.f5, .slice A45 x.f8.length c45] 41)) := (Below.refl _ w).alloc (Nat.le_refl _) _
  have HG8 := hid (Kd.C_below g8 hW)
  have HW := hid hW
  have HX := hid hx
  clear hW hx g3 l3 g8 l8 g16 l16 g28 l28 g29 l29 g37 l37 g41 l41 g45 l45
  go_enter Tryd.func10, Tryd.ntmps10
  go_wp2_with (go_at_call 34; refine (rowCode_any _ x.f2 HG8.out HX.out hl).mono ?_; intro e w1 hq; obtain ⟨v1, rfl, hr, hb⟩ := hq; have kc := run_string_of_reads (P := Tryd.prog) byteT Tryd.underlying9 hr; have HB := hid hb; clear hr hb)
  go_ret
  exact TextPost.mk rfl (HW.out.trans (HB.out.mono (by simp)))
set_option maxHeartbeats 8000000 in
set_option maxRecDepth 100000 in
theorem lawFamily (w : World) (x : S41) {A3 : Option Addr} {c3 : Nat} {A8 : Option Addr} {c8 : Nat} {A16 : Option Addr} {c16 : Nat} {A28 : Option Addr} {c28 : Nat} {A29 : Option Addr} {c29 : Nat} {A37 : Option Addr} {c37 : Nat} {A41 : Option Addr} {c41 : Nat} {A45 : Option Addr} {c45 : Nat} (l3 : x.f1.f2.length ≤ c3) (g3 : Kd.string.C w A3 x.f1.f2.length x.f1.f2) (l8 : x.f2.f4.length ≤ c8) (g8 : Kd.string.C w A8 x.f2.f4.length x.f2.f4) (l16 : x.f3.f3.length ≤ c16) (g16 : Kd.string.C w A16 x.f3.f3.length x.f3.f3) (l28 : x.f5.f5.length ≤ c28) (g28 : Kd.string.C w A28 x.f5.f5.length x.f5.f5) (l29 : x.f5.f6.length ≤ c29) (g29 : k86.C w A29 x.f5.f6.length x.f5.f6) (l37 : x.f6.f4.length ≤ c37) (g37 : Kd.string.C w A37 x.f6.f4.length x.f6.f4) (l41 : x.f7.f2.length ≤ c41) (g41 : k86.C w A41 x.f7.f2.length x.f7.f2) (l45 : x.f8.length ≤ c45) (g45 : k117.C w A45 x.f8.length x.f8) (hx : OkFamily x.f3) (hl : (familyB x.f3).length ≤ 549755813888) :
    Calls Tryd.prog 10 #[.agg #[.int .i64 3, .string x.f1.f0, .string x.f1.f1, .slice A3 x.f1.f2.length c3, .string x.f2.f0, .string x.f2.f1, .string x.f2.f2, .string x.f2.f3, .slice A8 x.f2.f4.length c8, .string x.f2.f5, .bool x.f2.f6, .bool x.f2.f7, .int .i64 x.f2.f8, .string x.f3.f0, .string x.f3.f1, .string x.f3.f2, .slice A16 x.f3.f3.length c16, .int .i64 x.f3.f4, .int .i64 x.f3.f5, .bool x.f3.f6, .string x.f4.f0, .string x.f4.f1, .int .i64 x.f4.f2, .string x.f5.f0, .string x.f5.f1, .string x.f5.f2, .string x.f5.f3, .string x.f5.f4, .slice A28 x.f5.f5.length c28, .slice A29 x.f5.f6.length c29, .int .i64 x.f5.f7, .int .i64 x.f5.f8, .bool x.f5.f9, .string x.f6.f0, .string x.f6.f1, .string x.f6.f2, .string x.f6.f3, .slice A37 x.f6.f4.length c37, .string x.f6.f5, .string x.f7.f0, .string x.f7.f1, .slice A41 x.f7.f2.length c41, .string x.f7.f3, .int .i64 x.f7.f4, .bool x.f7.f5, .slice A45 x.f8.length c45]] w (TextPost (familyB x.f3) w) := by
  have hW : Below w.heap.size w (w.alloc (.cells #[.int .i64 3, .string x.f1.f0, .string x.f1.f1, .slice A3 x.f1.f2.length c3, .string x.f2.f0, .string x.f2.f1, .string x.f2.f2, .string x.f2.f3, .slice A8 x.f2.f4.length c8, .string x.f2.f5, .bool x.f2.f6, .bool x.f2.f7, .int .i64 x.f2.f8, .string x.f3.f0, .string x.f3.f1, .string x.f3.f2, .slice A16 x.f3.f3.length c16, .int .i64 x.f3.f4, .int .i64 x.f3.f5, .bool x.f3.f6, .string x.f4.f0, .string x.f4.f1, .int .i64 x.f4.f2, .string x.f5.f0, .string x.f5.f1, .string x.f5.f2, .string x.f5.f3, .string x.f5.f4, .slice A28 x.f5.f5.length c28, .slice A29 x.f5.f6.length c29, .int .i64 x.f5.f7, .int .i64 x.f5.f8, .bool x.f5.f9, .string x.f6.f0, .string x.f6.f1, .string x.f6.f2, .string x.f6.f3, .slice A37 x.f6.f4.length c37, .string x.f6.f5, .string x.f7.f0, .string x.f7.f1, .slice A41 x.f7.f2.length c41, .string x.f7.f3, .int .i64 x.f7.f4, .bool x.f7.f5, .slice A45 x.f8.length c45] 41)) := (Below.refl _ w).alloc (Nat.le_refl _) _
  have HG16 := hid (Kd.C_below g16 hW)
  have HW := hid hW
  have HX := hid hx
  clear hW hx g3 l3 g8 l8 g16 l16 g28 l28 g29 l29 g37 l37 g41 l41 g45 l45
  go_enter Tryd.func10, Tryd.ntmps10
  go_wp2_with (go_at_call 35; refine (rowFamily_any _ x.f3 HG16.out HX.out hl).mono ?_; intro e w1 hq; obtain ⟨v1, rfl, hr, hb⟩ := hq; have kc := run_string_of_reads (P := Tryd.prog) byteT Tryd.underlying9 hr; have HB := hid hb; clear hr hb)
  go_ret
  exact TextPost.mk rfl (HW.out.trans (HB.out.mono (by simp)))
set_option maxHeartbeats 8000000 in
set_option maxRecDepth 100000 in
theorem lawRefresh (w : World) (x : S41) {A3 : Option Addr} {c3 : Nat} {A8 : Option Addr} {c8 : Nat} {A16 : Option Addr} {c16 : Nat} {A28 : Option Addr} {c28 : Nat} {A29 : Option Addr} {c29 : Nat} {A37 : Option Addr} {c37 : Nat} {A41 : Option Addr} {c41 : Nat} {A45 : Option Addr} {c45 : Nat} (l3 : x.f1.f2.length ≤ c3) (g3 : Kd.string.C w A3 x.f1.f2.length x.f1.f2) (l8 : x.f2.f4.length ≤ c8) (g8 : Kd.string.C w A8 x.f2.f4.length x.f2.f4) (l16 : x.f3.f3.length ≤ c16) (g16 : Kd.string.C w A16 x.f3.f3.length x.f3.f3) (l28 : x.f5.f5.length ≤ c28) (g28 : Kd.string.C w A28 x.f5.f5.length x.f5.f5) (l29 : x.f5.f6.length ≤ c29) (g29 : k86.C w A29 x.f5.f6.length x.f5.f6) (l37 : x.f6.f4.length ≤ c37) (g37 : Kd.string.C w A37 x.f6.f4.length x.f6.f4) (l41 : x.f7.f2.length ≤ c41) (g41 : k86.C w A41 x.f7.f2.length x.f7.f2) (l45 : x.f8.length ≤ c45) (g45 : k117.C w A45 x.f8.length x.f8) (hx : OkRefresh x.f4) (hl : (refreshB x.f4).length ≤ 549755813888) :
    Calls Tryd.prog 10 #[.agg #[.int .i64 4, .string x.f1.f0, .string x.f1.f1, .slice A3 x.f1.f2.length c3, .string x.f2.f0, .string x.f2.f1, .string x.f2.f2, .string x.f2.f3, .slice A8 x.f2.f4.length c8, .string x.f2.f5, .bool x.f2.f6, .bool x.f2.f7, .int .i64 x.f2.f8, .string x.f3.f0, .string x.f3.f1, .string x.f3.f2, .slice A16 x.f3.f3.length c16, .int .i64 x.f3.f4, .int .i64 x.f3.f5, .bool x.f3.f6, .string x.f4.f0, .string x.f4.f1, .int .i64 x.f4.f2, .string x.f5.f0, .string x.f5.f1, .string x.f5.f2, .string x.f5.f3, .string x.f5.f4, .slice A28 x.f5.f5.length c28, .slice A29 x.f5.f6.length c29, .int .i64 x.f5.f7, .int .i64 x.f5.f8, .bool x.f5.f9, .string x.f6.f0, .string x.f6.f1, .string x.f6.f2, .string x.f6.f3, .slice A37 x.f6.f4.length c37, .string x.f6.f5, .string x.f7.f0, .string x.f7.f1, .slice A41 x.f7.f2.length c41, .string x.f7.f3, .int .i64 x.f7.f4, .bool x.f7.f5, .slice A45 x.f8.length c45]] w (TextPost (refreshB x.f4) w) := by
  have hW : Below w.heap.size w (w.alloc (.cells #[.int .i64 4, .string x.f1.f0, .string x.f1.f1, .slice A3 x.f1.f2.length c3, .string x.f2.f0, .string x.f2.f1, .string x.f2.f2, .string x.f2.f3, .slice A8 x.f2.f4.length c8, .string x.f2.f5, .bool x.f2.f6, .bool x.f2.f7, .int .i64 x.f2.f8, .string x.f3.f0, .string x.f3.f1, .string x.f3.f2, .slice A16 x.f3.f3.length c16, .int .i64 x.f3.f4, .int .i64 x.f3.f5, .bool x.f3.f6, .string x.f4.f0, .string x.f4.f1, .int .i64 x.f4.f2, .string x.f5.f0, .string x.f5.f1, .string x.f5.f2, .string x.f5.f3, .string x.f5.f4, .slice A28 x.f5.f5.length c28, .slice A29 x.f5.f6.length c29, .int .i64 x.f5.f7, .int .i64 x.f5.f8, .bool x.f5.f9, .string x.f6.f0, .string x.f6.f1, .string x.f6.f2, .string x.f6.f3, .slice A37 x.f6.f4.length c37, .string x.f6.f5, .string x.f7.f0, .string x.f7.f1, .slice A41 x.f7.f2.length c41, .string x.f7.f3, .int .i64 x.f7.f4, .bool x.f7.f5, .slice A45 x.f8.length c45] 41)) := (Below.refl _ w).alloc (Nat.le_refl _) _
  have HW := hid hW
  have HX := hid hx
  clear hW hx g3 l3 g8 l8 g16 l16 g28 l28 g29 l29 g37 l37 g41 l41 g45 l45
  go_enter Tryd.func10, Tryd.ntmps10
  go_wp2_with (go_at_call 11; refine (rowRefresh_any _ x.f4  HX.out hl).mono ?_; intro e w1 hq; obtain ⟨v1, rfl, hr, hb⟩ := hq; have kc := run_string_of_reads (P := Tryd.prog) byteT Tryd.underlying9 hr; have HB := hid hb; clear hr hb)
  go_ret
  exact TextPost.mk rfl (HW.out.trans (HB.out.mono (by simp)))
set_option maxHeartbeats 8000000 in
set_option maxRecDepth 100000 in
theorem lawAccess (w : World) (x : S41) {A3 : Option Addr} {c3 : Nat} {A8 : Option Addr} {c8 : Nat} {A16 : Option Addr} {c16 : Nat} {A28 : Option Addr} {c28 : Nat} {A29 : Option Addr} {c29 : Nat} {A37 : Option Addr} {c37 : Nat} {A41 : Option Addr} {c41 : Nat} {A45 : Option Addr} {c45 : Nat} (l3 : x.f1.f2.length ≤ c3) (g3 : Kd.string.C w A3 x.f1.f2.length x.f1.f2) (l8 : x.f2.f4.length ≤ c8) (g8 : Kd.string.C w A8 x.f2.f4.length x.f2.f4) (l16 : x.f3.f3.length ≤ c16) (g16 : Kd.string.C w A16 x.f3.f3.length x.f3.f3) (l28 : x.f5.f5.length ≤ c28) (g28 : Kd.string.C w A28 x.f5.f5.length x.f5.f5) (l29 : x.f5.f6.length ≤ c29) (g29 : k86.C w A29 x.f5.f6.length x.f5.f6) (l37 : x.f6.f4.length ≤ c37) (g37 : Kd.string.C w A37 x.f6.f4.length x.f6.f4) (l41 : x.f7.f2.length ≤ c41) (g41 : k86.C w A41 x.f7.f2.length x.f7.f2) (l45 : x.f8.length ≤ c45) (g45 : k117.C w A45 x.f8.length x.f8) (hx : OkAccess x.f5) (hl : (accessB x.f5).length ≤ 549755813888) :
    Calls Tryd.prog 10 #[.agg #[.int .i64 5, .string x.f1.f0, .string x.f1.f1, .slice A3 x.f1.f2.length c3, .string x.f2.f0, .string x.f2.f1, .string x.f2.f2, .string x.f2.f3, .slice A8 x.f2.f4.length c8, .string x.f2.f5, .bool x.f2.f6, .bool x.f2.f7, .int .i64 x.f2.f8, .string x.f3.f0, .string x.f3.f1, .string x.f3.f2, .slice A16 x.f3.f3.length c16, .int .i64 x.f3.f4, .int .i64 x.f3.f5, .bool x.f3.f6, .string x.f4.f0, .string x.f4.f1, .int .i64 x.f4.f2, .string x.f5.f0, .string x.f5.f1, .string x.f5.f2, .string x.f5.f3, .string x.f5.f4, .slice A28 x.f5.f5.length c28, .slice A29 x.f5.f6.length c29, .int .i64 x.f5.f7, .int .i64 x.f5.f8, .bool x.f5.f9, .string x.f6.f0, .string x.f6.f1, .string x.f6.f2, .string x.f6.f3, .slice A37 x.f6.f4.length c37, .string x.f6.f5, .string x.f7.f0, .string x.f7.f1, .slice A41 x.f7.f2.length c41, .string x.f7.f3, .int .i64 x.f7.f4, .bool x.f7.f5, .slice A45 x.f8.length c45]] w (TextPost (accessB x.f5) w) := by
  have hW : Below w.heap.size w (w.alloc (.cells #[.int .i64 5, .string x.f1.f0, .string x.f1.f1, .slice A3 x.f1.f2.length c3, .string x.f2.f0, .string x.f2.f1, .string x.f2.f2, .string x.f2.f3, .slice A8 x.f2.f4.length c8, .string x.f2.f5, .bool x.f2.f6, .bool x.f2.f7, .int .i64 x.f2.f8, .string x.f3.f0, .string x.f3.f1, .string x.f3.f2, .slice A16 x.f3.f3.length c16, .int .i64 x.f3.f4, .int .i64 x.f3.f5, .bool x.f3.f6, .string x.f4.f0, .string x.f4.f1, .int .i64 x.f4.f2, .string x.f5.f0, .string x.f5.f1, .string x.f5.f2, .string x.f5.f3, .string x.f5.f4, .slice A28 x.f5.f5.length c28, .slice A29 x.f5.f6.length c29, .int .i64 x.f5.f7, .int .i64 x.f5.f8, .bool x.f5.f9, .string x.f6.f0, .string x.f6.f1, .string x.f6.f2, .string x.f6.f3, .slice A37 x.f6.f4.length c37, .string x.f6.f5, .string x.f7.f0, .string x.f7.f1, .slice A41 x.f7.f2.length c41, .string x.f7.f3, .int .i64 x.f7.f4, .bool x.f7.f5, .slice A45 x.f8.length c45] 41)) := (Below.refl _ w).alloc (Nat.le_refl _) _
  have HG28 := hid (Kd.C_below g28 hW)
  have HG29 := hid (Kd.C_below g29 hW)
  have HW := hid hW
  have HX := hid hx
  clear hW hx g3 l3 g8 l8 g16 l16 g28 l28 g29 l29 g37 l37 g41 l41 g45 l45
  go_enter Tryd.func10, Tryd.ntmps10
  go_wp2_with (go_at_call 36; refine (rowAccess_any _ x.f5 HG28.out HG29.out HX.out hl).mono ?_; intro e w1 hq; obtain ⟨v1, rfl, hr, hb⟩ := hq; have kc := run_string_of_reads (P := Tryd.prog) byteT Tryd.underlying9 hr; have HB := hid hb; clear hr hb)
  go_ret
  exact TextPost.mk rfl (HW.out.trans (HB.out.mono (by simp)))
set_option maxHeartbeats 8000000 in
set_option maxRecDepth 100000 in
theorem lawResource (w : World) (x : S41) {A3 : Option Addr} {c3 : Nat} {A8 : Option Addr} {c8 : Nat} {A16 : Option Addr} {c16 : Nat} {A28 : Option Addr} {c28 : Nat} {A29 : Option Addr} {c29 : Nat} {A37 : Option Addr} {c37 : Nat} {A41 : Option Addr} {c41 : Nat} {A45 : Option Addr} {c45 : Nat} (l3 : x.f1.f2.length ≤ c3) (g3 : Kd.string.C w A3 x.f1.f2.length x.f1.f2) (l8 : x.f2.f4.length ≤ c8) (g8 : Kd.string.C w A8 x.f2.f4.length x.f2.f4) (l16 : x.f3.f3.length ≤ c16) (g16 : Kd.string.C w A16 x.f3.f3.length x.f3.f3) (l28 : x.f5.f5.length ≤ c28) (g28 : Kd.string.C w A28 x.f5.f5.length x.f5.f5) (l29 : x.f5.f6.length ≤ c29) (g29 : k86.C w A29 x.f5.f6.length x.f5.f6) (l37 : x.f6.f4.length ≤ c37) (g37 : Kd.string.C w A37 x.f6.f4.length x.f6.f4) (l41 : x.f7.f2.length ≤ c41) (g41 : k86.C w A41 x.f7.f2.length x.f7.f2) (l45 : x.f8.length ≤ c45) (g45 : k117.C w A45 x.f8.length x.f8) (hx : OkResource x.f6) (hl : (resourceB x.f6).length ≤ 549755813888) :
    Calls Tryd.prog 10 #[.agg #[.int .i64 6, .string x.f1.f0, .string x.f1.f1, .slice A3 x.f1.f2.length c3, .string x.f2.f0, .string x.f2.f1, .string x.f2.f2, .string x.f2.f3, .slice A8 x.f2.f4.length c8, .string x.f2.f5, .bool x.f2.f6, .bool x.f2.f7, .int .i64 x.f2.f8, .string x.f3.f0, .string x.f3.f1, .string x.f3.f2, .slice A16 x.f3.f3.length c16, .int .i64 x.f3.f4, .int .i64 x.f3.f5, .bool x.f3.f6, .string x.f4.f0, .string x.f4.f1, .int .i64 x.f4.f2, .string x.f5.f0, .string x.f5.f1, .string x.f5.f2, .string x.f5.f3, .string x.f5.f4, .slice A28 x.f5.f5.length c28, .slice A29 x.f5.f6.length c29, .int .i64 x.f5.f7, .int .i64 x.f5.f8, .bool x.f5.f9, .string x.f6.f0, .string x.f6.f1, .string x.f6.f2, .string x.f6.f3, .slice A37 x.f6.f4.length c37, .string x.f6.f5, .string x.f7.f0, .string x.f7.f1, .slice A41 x.f7.f2.length c41, .string x.f7.f3, .int .i64 x.f7.f4, .bool x.f7.f5, .slice A45 x.f8.length c45]] w (TextPost (resourceB x.f6) w) := by
  have hW : Below w.heap.size w (w.alloc (.cells #[.int .i64 6, .string x.f1.f0, .string x.f1.f1, .slice A3 x.f1.f2.length c3, .string x.f2.f0, .string x.f2.f1, .string x.f2.f2, .string x.f2.f3, .slice A8 x.f2.f4.length c8, .string x.f2.f5, .bool x.f2.f6, .bool x.f2.f7, .int .i64 x.f2.f8, .string x.f3.f0, .string x.f3.f1, .string x.f3.f2, .slice A16 x.f3.f3.length c16, .int .i64 x.f3.f4, .int .i64 x.f3.f5, .bool x.f3.f6, .string x.f4.f0, .string x.f4.f1, .int .i64 x.f4.f2, .string x.f5.f0, .string x.f5.f1, .string x.f5.f2, .string x.f5.f3, .string x.f5.f4, .slice A28 x.f5.f5.length c28, .slice A29 x.f5.f6.length c29, .int .i64 x.f5.f7, .int .i64 x.f5.f8, .bool x.f5.f9, .string x.f6.f0, .string x.f6.f1, .string x.f6.f2, .string x.f6.f3, .slice A37 x.f6.f4.length c37, .string x.f6.f5, .string x.f7.f0, .string x.f7.f1, .slice A41 x.f7.f2.length c41, .string x.f7.f3, .int .i64 x.f7.f4, .bool x.f7.f5, .slice A45 x.f8.length c45] 41)) := (Below.refl _ w).alloc (Nat.le_refl _) _
  have HG37 := hid (Kd.C_below g37 hW)
  have HW := hid hW
  have HX := hid hx
  clear hW hx g3 l3 g8 l8 g16 l16 g28 l28 g29 l29 g37 l37 g41 l41 g45 l45
  go_enter Tryd.func10, Tryd.ntmps10
  go_wp2_with (go_at_call 37; refine (rowResource_any _ x.f6 HG37.out HX.out hl).mono ?_; intro e w1 hq; obtain ⟨v1, rfl, hr, hb⟩ := hq; have kc := run_string_of_reads (P := Tryd.prog) byteT Tryd.underlying9 hr; have HB := hid hb; clear hr hb)
  go_ret
  exact TextPost.mk rfl (HW.out.trans (HB.out.mono (by simp)))
set_option maxHeartbeats 8000000 in
set_option maxRecDepth 100000 in
theorem lawTicket (w : World) (x : S41) {A3 : Option Addr} {c3 : Nat} {A8 : Option Addr} {c8 : Nat} {A16 : Option Addr} {c16 : Nat} {A28 : Option Addr} {c28 : Nat} {A29 : Option Addr} {c29 : Nat} {A37 : Option Addr} {c37 : Nat} {A41 : Option Addr} {c41 : Nat} {A45 : Option Addr} {c45 : Nat} (l3 : x.f1.f2.length ≤ c3) (g3 : Kd.string.C w A3 x.f1.f2.length x.f1.f2) (l8 : x.f2.f4.length ≤ c8) (g8 : Kd.string.C w A8 x.f2.f4.length x.f2.f4) (l16 : x.f3.f3.length ≤ c16) (g16 : Kd.string.C w A16 x.f3.f3.length x.f3.f3) (l28 : x.f5.f5.length ≤ c28) (g28 : Kd.string.C w A28 x.f5.f5.length x.f5.f5) (l29 : x.f5.f6.length ≤ c29) (g29 : k86.C w A29 x.f5.f6.length x.f5.f6) (l37 : x.f6.f4.length ≤ c37) (g37 : Kd.string.C w A37 x.f6.f4.length x.f6.f4) (l41 : x.f7.f2.length ≤ c41) (g41 : k86.C w A41 x.f7.f2.length x.f7.f2) (l45 : x.f8.length ≤ c45) (g45 : k117.C w A45 x.f8.length x.f8) (hx : OkTicket x.f7) (hl : (ticketB x.f7).length ≤ 549755813888) :
    Calls Tryd.prog 10 #[.agg #[.int .i64 7, .string x.f1.f0, .string x.f1.f1, .slice A3 x.f1.f2.length c3, .string x.f2.f0, .string x.f2.f1, .string x.f2.f2, .string x.f2.f3, .slice A8 x.f2.f4.length c8, .string x.f2.f5, .bool x.f2.f6, .bool x.f2.f7, .int .i64 x.f2.f8, .string x.f3.f0, .string x.f3.f1, .string x.f3.f2, .slice A16 x.f3.f3.length c16, .int .i64 x.f3.f4, .int .i64 x.f3.f5, .bool x.f3.f6, .string x.f4.f0, .string x.f4.f1, .int .i64 x.f4.f2, .string x.f5.f0, .string x.f5.f1, .string x.f5.f2, .string x.f5.f3, .string x.f5.f4, .slice A28 x.f5.f5.length c28, .slice A29 x.f5.f6.length c29, .int .i64 x.f5.f7, .int .i64 x.f5.f8, .bool x.f5.f9, .string x.f6.f0, .string x.f6.f1, .string x.f6.f2, .string x.f6.f3, .slice A37 x.f6.f4.length c37, .string x.f6.f5, .string x.f7.f0, .string x.f7.f1, .slice A41 x.f7.f2.length c41, .string x.f7.f3, .int .i64 x.f7.f4, .bool x.f7.f5, .slice A45 x.f8.length c45]] w (TextPost (ticketB x.f7) w) := by
  have hW : Below w.heap.size w (w.alloc (.cells #[.int .i64 7, .string x.f1.f0, .string x.f1.f1, .slice A3 x.f1.f2.length c3, .string x.f2.f0, .string x.f2.f1, .string x.f2.f2, .string x.f2.f3, .slice A8 x.f2.f4.length c8, .string x.f2.f5, .bool x.f2.f6, .bool x.f2.f7, .int .i64 x.f2.f8, .string x.f3.f0, .string x.f3.f1, .string x.f3.f2, .slice A16 x.f3.f3.length c16, .int .i64 x.f3.f4, .int .i64 x.f3.f5, .bool x.f3.f6, .string x.f4.f0, .string x.f4.f1, .int .i64 x.f4.f2, .string x.f5.f0, .string x.f5.f1, .string x.f5.f2, .string x.f5.f3, .string x.f5.f4, .slice A28 x.f5.f5.length c28, .slice A29 x.f5.f6.length c29, .int .i64 x.f5.f7, .int .i64 x.f5.f8, .bool x.f5.f9, .string x.f6.f0, .string x.f6.f1, .string x.f6.f2, .string x.f6.f3, .slice A37 x.f6.f4.length c37, .string x.f6.f5, .string x.f7.f0, .string x.f7.f1, .slice A41 x.f7.f2.length c41, .string x.f7.f3, .int .i64 x.f7.f4, .bool x.f7.f5, .slice A45 x.f8.length c45] 41)) := (Below.refl _ w).alloc (Nat.le_refl _) _
  have HG41 := hid (Kd.C_below g41 hW)
  have HW := hid hW
  have HX := hid hx
  clear hW hx g3 l3 g8 l8 g16 l16 g28 l28 g29 l29 g37 l37 g41 l41 g45 l45
  go_enter Tryd.func10, Tryd.ntmps10
  go_wp2_with (go_at_call 38; refine (rowTicket_any _ x.f7 HG41.out HX.out hl).mono ?_; intro e w1 hq; obtain ⟨v1, rfl, hr, hb⟩ := hq; have kc := run_string_of_reads (P := Tryd.prog) byteT Tryd.underlying9 hr; have HB := hid hb; clear hr hb)
  go_ret
  exact TextPost.mk rfl (HW.out.trans (HB.out.mono (by simp)))
set_option maxHeartbeats 8000000 in
set_option maxRecDepth 100000 in
theorem refKeysRow (w : World) (x : S41) {A3 : Option Addr} {c3 : Nat} {A8 : Option Addr} {c8 : Nat} {A16 : Option Addr} {c16 : Nat} {A28 : Option Addr} {c28 : Nat} {A29 : Option Addr} {c29 : Nat} {A37 : Option Addr} {c37 : Nat} {A41 : Option Addr} {c41 : Nat} {A45 : Option Addr} {c45 : Nat} (l3 : x.f1.f2.length ≤ c3) (g3 : Kd.string.C w A3 x.f1.f2.length x.f1.f2) (l8 : x.f2.f4.length ≤ c8) (g8 : Kd.string.C w A8 x.f2.f4.length x.f2.f4) (l16 : x.f3.f3.length ≤ c16) (g16 : Kd.string.C w A16 x.f3.f3.length x.f3.f3) (l28 : x.f5.f5.length ≤ c28) (g28 : Kd.string.C w A28 x.f5.f5.length x.f5.f5) (l29 : x.f5.f6.length ≤ c29) (g29 : k86.C w A29 x.f5.f6.length x.f5.f6) (l37 : x.f6.f4.length ≤ c37) (g37 : Kd.string.C w A37 x.f6.f4.length x.f6.f4) (l41 : x.f7.f2.length ≤ c41) (g41 : k86.C w A41 x.f7.f2.length x.f7.f2) (l45 : x.f8.length ≤ c45) (g45 : k117.C w A45 x.f8.length x.f8) (hx : SzK x.f8) (hl : (keysB x.f8).length ≤ 549755813888) :
    Calls Tryd.prog 8 #[.agg #[.int .i64 8, .string x.f1.f0, .string x.f1.f1, .slice A3 x.f1.f2.length c3, .string x.f2.f0, .string x.f2.f1, .string x.f2.f2, .string x.f2.f3, .slice A8 x.f2.f4.length c8, .string x.f2.f5, .bool x.f2.f6, .bool x.f2.f7, .int .i64 x.f2.f8, .string x.f3.f0, .string x.f3.f1, .string x.f3.f2, .slice A16 x.f3.f3.length c16, .int .i64 x.f3.f4, .int .i64 x.f3.f5, .bool x.f3.f6, .string x.f4.f0, .string x.f4.f1, .int .i64 x.f4.f2, .string x.f5.f0, .string x.f5.f1, .string x.f5.f2, .string x.f5.f3, .string x.f5.f4, .slice A28 x.f5.f5.length c28, .slice A29 x.f5.f6.length c29, .int .i64 x.f5.f7, .int .i64 x.f5.f8, .bool x.f5.f9, .string x.f6.f0, .string x.f6.f1, .string x.f6.f2, .string x.f6.f3, .slice A37 x.f6.f4.length c37, .string x.f6.f5, .string x.f7.f0, .string x.f7.f1, .slice A41 x.f7.f2.length c41, .string x.f7.f3, .int .i64 x.f7.f4, .bool x.f7.f5, .slice A45 x.f8.length c45]] w (TextPost (keysB x.f8) w) := by
  have hW : Below w.heap.size w (w.alloc (.cells #[.int .i64 8, .string x.f1.f0, .string x.f1.f1, .slice A3 x.f1.f2.length c3, .string x.f2.f0, .string x.f2.f1, .string x.f2.f2, .string x.f2.f3, .slice A8 x.f2.f4.length c8, .string x.f2.f5, .bool x.f2.f6, .bool x.f2.f7, .int .i64 x.f2.f8, .string x.f3.f0, .string x.f3.f1, .string x.f3.f2, .slice A16 x.f3.f3.length c16, .int .i64 x.f3.f4, .int .i64 x.f3.f5, .bool x.f3.f6, .string x.f4.f0, .string x.f4.f1, .int .i64 x.f4.f2, .string x.f5.f0, .string x.f5.f1, .string x.f5.f2, .string x.f5.f3, .string x.f5.f4, .slice A28 x.f5.f5.length c28, .slice A29 x.f5.f6.length c29, .int .i64 x.f5.f7, .int .i64 x.f5.f8, .bool x.f5.f9, .string x.f6.f0, .string x.f6.f1, .string x.f6.f2, .string x.f6.f3, .slice A37 x.f6.f4.length c37, .string x.f6.f5, .string x.f7.f0, .string x.f7.f1, .slice A41 x.f7.f2.length c41, .string x.f7.f3, .int .i64 x.f7.f4, .bool x.f7.f5, .slice A45 x.f8.length c45] 41)) := (Below.refl _ w).alloc (Nat.le_refl _) _
  have HG := hid (Kd.C_below g45 hW)
  have HL := hid l45
  have HW := hid hW
  have HX := hid hx
  clear hW hx g3 l3 g8 l8 g16 l16 g28 l28 g29 l29 g37 l37 g41 l41 g45 l45
  go_enter Tryd.func8, Tryd.ntmps8
  go_wp2_with (go_at_call 32; refine (refKeys _ _ x.f8 _ HG.out HL.out HX.out hl).mono ?_; rintro e w1 ⟨rfl, hb⟩; have HB := hid hb; clear hb)
  go_ret
  exact TextPost.mk rfl (HW.out.trans (HB.out.mono (by simp)))
set_option maxHeartbeats 8000000 in
set_option maxRecDepth 100000 in
theorem refNone (w : World) (x : S41) {A3 : Option Addr} {c3 : Nat} {A8 : Option Addr} {c8 : Nat} {A16 : Option Addr} {c16 : Nat} {A28 : Option Addr} {c28 : Nat} {A29 : Option Addr} {c29 : Nat} {A37 : Option Addr} {c37 : Nat} {A41 : Option Addr} {c41 : Nat} {A45 : Option Addr} {c45 : Nat} (l3 : x.f1.f2.length ≤ c3) (g3 : Kd.string.C w A3 x.f1.f2.length x.f1.f2) (l8 : x.f2.f4.length ≤ c8) (g8 : Kd.string.C w A8 x.f2.f4.length x.f2.f4) (l16 : x.f3.f3.length ≤ c16) (g16 : Kd.string.C w A16 x.f3.f3.length x.f3.f3) (l28 : x.f5.f5.length ≤ c28) (g28 : Kd.string.C w A28 x.f5.f5.length x.f5.f5) (l29 : x.f5.f6.length ≤ c29) (g29 : k86.C w A29 x.f5.f6.length x.f5.f6) (l37 : x.f6.f4.length ≤ c37) (g37 : Kd.string.C w A37 x.f6.f4.length x.f6.f4) (l41 : x.f7.f2.length ≤ c41) (g41 : k86.C w A41 x.f7.f2.length x.f7.f2) (l45 : x.f8.length ≤ c45) (g45 : k117.C w A45 x.f8.length x.f8) (hk : x.f0 < 1 ∨ 8 < x.f0) :
    Calls Tryd.prog 8 #[.agg #[.int .i64 x.f0, .string x.f1.f0, .string x.f1.f1, .slice A3 x.f1.f2.length c3, .string x.f2.f0, .string x.f2.f1, .string x.f2.f2, .string x.f2.f3, .slice A8 x.f2.f4.length c8, .string x.f2.f5, .bool x.f2.f6, .bool x.f2.f7, .int .i64 x.f2.f8, .string x.f3.f0, .string x.f3.f1, .string x.f3.f2, .slice A16 x.f3.f3.length c16, .int .i64 x.f3.f4, .int .i64 x.f3.f5, .bool x.f3.f6, .string x.f4.f0, .string x.f4.f1, .int .i64 x.f4.f2, .string x.f5.f0, .string x.f5.f1, .string x.f5.f2, .string x.f5.f3, .string x.f5.f4, .slice A28 x.f5.f5.length c28, .slice A29 x.f5.f6.length c29, .int .i64 x.f5.f7, .int .i64 x.f5.f8, .bool x.f5.f9, .string x.f6.f0, .string x.f6.f1, .string x.f6.f2, .string x.f6.f3, .slice A37 x.f6.f4.length c37, .string x.f6.f5, .string x.f7.f0, .string x.f7.f1, .slice A41 x.f7.f2.length c41, .string x.f7.f3, .int .i64 x.f7.f4, .bool x.f7.f5, .slice A45 x.f8.length c45]] w (TextPost [] w) := by
  have k1 : (x.f0 == 1) = false := int_beq_false (by omega)
  have k2 : (x.f0 == 2) = false := int_beq_false (by omega)
  have k3 : (x.f0 == 3) = false := int_beq_false (by omega)
  have k4 : (x.f0 == 4) = false := int_beq_false (by omega)
  have k5 : (x.f0 == 5) = false := int_beq_false (by omega)
  have k6 : (x.f0 == 6) = false := int_beq_false (by omega)
  have k7 : (x.f0 == 7) = false := int_beq_false (by omega)
  have k8 : (x.f0 == 8) = false := int_beq_false (by omega)
  clear hk g3 l3 g8 l8 g16 l16 g28 l28 g29 l29 g37 l37 g41 l41 g45 l45
  go_enter Tryd.func8, Tryd.ntmps8
  go_wp2
  go_ret
  exact TextPost.mk rfl ((Below.refl _ w).alloc (Nat.le_refl _) _)
set_option maxHeartbeats 8000000 in
set_option maxRecDepth 100000 in
theorem lawKeysRow (w : World) (x : S41) {A3 : Option Addr} {c3 : Nat} {A8 : Option Addr} {c8 : Nat} {A16 : Option Addr} {c16 : Nat} {A28 : Option Addr} {c28 : Nat} {A29 : Option Addr} {c29 : Nat} {A37 : Option Addr} {c37 : Nat} {A41 : Option Addr} {c41 : Nat} {A45 : Option Addr} {c45 : Nat} (l3 : x.f1.f2.length ≤ c3) (g3 : Kd.string.C w A3 x.f1.f2.length x.f1.f2) (l8 : x.f2.f4.length ≤ c8) (g8 : Kd.string.C w A8 x.f2.f4.length x.f2.f4) (l16 : x.f3.f3.length ≤ c16) (g16 : Kd.string.C w A16 x.f3.f3.length x.f3.f3) (l28 : x.f5.f5.length ≤ c28) (g28 : Kd.string.C w A28 x.f5.f5.length x.f5.f5) (l29 : x.f5.f6.length ≤ c29) (g29 : k86.C w A29 x.f5.f6.length x.f5.f6) (l37 : x.f6.f4.length ≤ c37) (g37 : Kd.string.C w A37 x.f6.f4.length x.f6.f4) (l41 : x.f7.f2.length ≤ c41) (g41 : k86.C w A41 x.f7.f2.length x.f7.f2) (l45 : x.f8.length ≤ c45) (g45 : k117.C w A45 x.f8.length x.f8) (hx : SzK x.f8) (hl : (keysB x.f8).length ≤ 549755813888) :
    Calls Tryd.prog 10 #[.agg #[.int .i64 8, .string x.f1.f0, .string x.f1.f1, .slice A3 x.f1.f2.length c3, .string x.f2.f0, .string x.f2.f1, .string x.f2.f2, .string x.f2.f3, .slice A8 x.f2.f4.length c8, .string x.f2.f5, .bool x.f2.f6, .bool x.f2.f7, .int .i64 x.f2.f8, .string x.f3.f0, .string x.f3.f1, .string x.f3.f2, .slice A16 x.f3.f3.length c16, .int .i64 x.f3.f4, .int .i64 x.f3.f5, .bool x.f3.f6, .string x.f4.f0, .string x.f4.f1, .int .i64 x.f4.f2, .string x.f5.f0, .string x.f5.f1, .string x.f5.f2, .string x.f5.f3, .string x.f5.f4, .slice A28 x.f5.f5.length c28, .slice A29 x.f5.f6.length c29, .int .i64 x.f5.f7, .int .i64 x.f5.f8, .bool x.f5.f9, .string x.f6.f0, .string x.f6.f1, .string x.f6.f2, .string x.f6.f3, .slice A37 x.f6.f4.length c37, .string x.f6.f5, .string x.f7.f0, .string x.f7.f1, .slice A41 x.f7.f2.length c41, .string x.f7.f3, .int .i64 x.f7.f4, .bool x.f7.f5, .slice A45 x.f8.length c45]] w (TextPost (keysB x.f8) w) := by
  have hW : Below w.heap.size w (w.alloc (.cells #[.int .i64 8, .string x.f1.f0, .string x.f1.f1, .slice A3 x.f1.f2.length c3, .string x.f2.f0, .string x.f2.f1, .string x.f2.f2, .string x.f2.f3, .slice A8 x.f2.f4.length c8, .string x.f2.f5, .bool x.f2.f6, .bool x.f2.f7, .int .i64 x.f2.f8, .string x.f3.f0, .string x.f3.f1, .string x.f3.f2, .slice A16 x.f3.f3.length c16, .int .i64 x.f3.f4, .int .i64 x.f3.f5, .bool x.f3.f6, .string x.f4.f0, .string x.f4.f1, .int .i64 x.f4.f2, .string x.f5.f0, .string x.f5.f1, .string x.f5.f2, .string x.f5.f3, .string x.f5.f4, .slice A28 x.f5.f5.length c28, .slice A29 x.f5.f6.length c29, .int .i64 x.f5.f7, .int .i64 x.f5.f8, .bool x.f5.f9, .string x.f6.f0, .string x.f6.f1, .string x.f6.f2, .string x.f6.f3, .slice A37 x.f6.f4.length c37, .string x.f6.f5, .string x.f7.f0, .string x.f7.f1, .slice A41 x.f7.f2.length c41, .string x.f7.f3, .int .i64 x.f7.f4, .bool x.f7.f5, .slice A45 x.f8.length c45] 41)) := (Below.refl _ w).alloc (Nat.le_refl _) _
  have HG := hid (Kd.C_below g45 hW)
  have HL := hid l45
  have HW := hid hW
  have HX := hid hx
  clear hW hx g3 l3 g8 l8 g16 l16 g28 l28 g29 l29 g37 l37 g41 l41 g45 l45
  go_enter Tryd.func10, Tryd.ntmps10
  go_wp2_with (go_at_call 39; refine (rowKeys_any _ x.f8 HG.out HX.out hl).mono ?_; intro e w1 hq; obtain ⟨v1, rfl, hr, hb⟩ := hq; have kc := run_string_of_reads (P := Tryd.prog) byteT Tryd.underlying9 hr; have HB := hid hb; clear hr hb)
  go_ret
  exact TextPost.mk rfl (HW.out.trans (HB.out.mono (by simp)))
set_option maxHeartbeats 8000000 in
set_option maxRecDepth 100000 in
theorem lawNone (w : World) (x : S41) {A3 : Option Addr} {c3 : Nat} {A8 : Option Addr} {c8 : Nat} {A16 : Option Addr} {c16 : Nat} {A28 : Option Addr} {c28 : Nat} {A29 : Option Addr} {c29 : Nat} {A37 : Option Addr} {c37 : Nat} {A41 : Option Addr} {c41 : Nat} {A45 : Option Addr} {c45 : Nat} (l3 : x.f1.f2.length ≤ c3) (g3 : Kd.string.C w A3 x.f1.f2.length x.f1.f2) (l8 : x.f2.f4.length ≤ c8) (g8 : Kd.string.C w A8 x.f2.f4.length x.f2.f4) (l16 : x.f3.f3.length ≤ c16) (g16 : Kd.string.C w A16 x.f3.f3.length x.f3.f3) (l28 : x.f5.f5.length ≤ c28) (g28 : Kd.string.C w A28 x.f5.f5.length x.f5.f5) (l29 : x.f5.f6.length ≤ c29) (g29 : k86.C w A29 x.f5.f6.length x.f5.f6) (l37 : x.f6.f4.length ≤ c37) (g37 : Kd.string.C w A37 x.f6.f4.length x.f6.f4) (l41 : x.f7.f2.length ≤ c41) (g41 : k86.C w A41 x.f7.f2.length x.f7.f2) (l45 : x.f8.length ≤ c45) (g45 : k117.C w A45 x.f8.length x.f8) (hk : x.f0 < 1 ∨ 8 < x.f0) :
    Calls Tryd.prog 10 #[.agg #[.int .i64 x.f0, .string x.f1.f0, .string x.f1.f1, .slice A3 x.f1.f2.length c3, .string x.f2.f0, .string x.f2.f1, .string x.f2.f2, .string x.f2.f3, .slice A8 x.f2.f4.length c8, .string x.f2.f5, .bool x.f2.f6, .bool x.f2.f7, .int .i64 x.f2.f8, .string x.f3.f0, .string x.f3.f1, .string x.f3.f2, .slice A16 x.f3.f3.length c16, .int .i64 x.f3.f4, .int .i64 x.f3.f5, .bool x.f3.f6, .string x.f4.f0, .string x.f4.f1, .int .i64 x.f4.f2, .string x.f5.f0, .string x.f5.f1, .string x.f5.f2, .string x.f5.f3, .string x.f5.f4, .slice A28 x.f5.f5.length c28, .slice A29 x.f5.f6.length c29, .int .i64 x.f5.f7, .int .i64 x.f5.f8, .bool x.f5.f9, .string x.f6.f0, .string x.f6.f1, .string x.f6.f2, .string x.f6.f3, .slice A37 x.f6.f4.length c37, .string x.f6.f5, .string x.f7.f0, .string x.f7.f1, .slice A41 x.f7.f2.length c41, .string x.f7.f3, .int .i64 x.f7.f4, .bool x.f7.f5, .slice A45 x.f8.length c45]] w (TextPost [] w) := by
  have k1 : (x.f0 == 1) = false := int_beq_false (by omega)
  have k2 : (x.f0 == 2) = false := int_beq_false (by omega)
  have k3 : (x.f0 == 3) = false := int_beq_false (by omega)
  have k4 : (x.f0 == 4) = false := int_beq_false (by omega)
  have k5 : (x.f0 == 5) = false := int_beq_false (by omega)
  have k6 : (x.f0 == 6) = false := int_beq_false (by omega)
  have k7 : (x.f0 == 7) = false := int_beq_false (by omega)
  have k8 : (x.f0 == 8) = false := int_beq_false (by omega)
  clear hk g3 l3 g8 l8 g16 l16 g28 l28 g29 l29 g37 l37 g41 l41 g45 l45
  go_enter Tryd.func10, Tryd.ntmps10
  go_wp2
  go_ret
  exact TextPost.mk rfl ((Below.refl _ w).alloc (Nat.le_refl _) _)
end Go.Proofs.YtcgjacffemjehaaDoor

/-
  RowRefC, RowYConsent, RowLs: this proof's parts in one text.
-/
import Derived.Test.YtcgjacffemjehaaDoorMRowBackRowf
import Derived.Test.YtcgjacffemjehaaDoorMRowBackRowb
import Derived.Test.YtcgjacffemjehaaDoorMRowBackRowa
import Derived.Deep.RegionHeld3
namespace Go.Proofs.YtcgjacffemjehaaDoor
open Go.RowKit
open Go.Proofs.YtcgjacffemjehaaDoorW.PrintWords (Kd rdOf)
open Go.Proofs.YtcgjacffemjehaaDoor.PRowReads
set_option linter.unusedVariables false
def bA (l : List UInt8) : ByteArray := ⟨l.toArray⟩
theorem bA_size (l : List UInt8) : (bA l).size = l.length := by simp [bA, ByteArray.size]
theorem bA_app (a b : List UInt8) : bA a ++ bA b = bA (a ++ b) := str_append a b
theorem bA_self (s : ByteArray) : bA s.data.toList = s := by simp [bA]
theorem four_len (n : Nat) : (four n).length = 4 := rfl
theorem add_bA {P : Program} {w : World} (a b : List UInt8) (h : a.length + b.length ≤ 1099511627776) : (Op.stringOp .add (bA a) (bA b)).run P w = .ok (.string (bA (a ++ b))) w := by
  rw [← bA_app]
  exact run_string_add_sum (P := P) (w := w) (bA a) (bA b) (by rw [bA_size, bA_size]; omega)
/-- A call that answers these bytes. -/
def BAP (l : List UInt8) (w : World) (e : Ending) (w' : World) : Prop := e = .returned (.string (bA l)) ∧ Below w.heap.size w w'
theorem BAP.mk {l m : List UInt8} {w w' : World} (h : m = l) (hb : Below w.heap.size w w') : BAP l w (.returned (.string (bA m))) w' := ⟨by rw [h], hb⟩
theorem refFour (n : Nat) (hn : n ≤ 1099511627776) (w : World) : Calls Tryd.prog 59 #[.int .i64 n] w (BAP (four n) w) := by
  have kc := run_string_of_new (P := Tryd.prog) (w := w) Tryd.underlying49 Tryd.underlying5 Tryd.underlying9 #[.int .u8 ((n : Int) / 16777216 % 256), .int .u8 ((n : Int) / 65536 % 256), .int .u8 ((n : Int) / 256 % 256), .int .u8 ((n : Int) % 256)] (four n) (four_cells n).symm 4 rfl 4
  go_enter Tryd.func59, Tryd.ntmps59
  go_wp2
  go_ret
  exact ⟨rfl, (Below.refl _ w).alloc (Nat.le_refl _) _⟩
theorem refText (s : ByteArray) (h : Sz s) (w : World) : Calls Tryd.prog 27 #[.string s] w (BAP (textB s) w) := by
  have h' : s.size ≤ 1048576 := h
  have a1 := fun w' => add_bA (P := Tryd.prog) (w := w') (four s.size) s.data.toList (by rw [four_len, str_len]; omega)
  rw [bA_self] at a1
  go_enter Tryd.func27, Tryd.ntmps27
  go_wp2_with (go_at_call 59; refine (refFour s.size (by omega) _).mono ?_; rintro e z ⟨rfl, hb⟩; have HB := hid hb; clear hb)
  go_ret
  exact ⟨rfl, HB.out⟩
theorem refTruth (t : Bool) (w : World) : Calls Tryd.prog 29 #[.bool t] w (BAP (truthB t) w) := by
  have kc := fun (z : Int) (hz : z % 256 = z) => run_string_of_new (P := Tryd.prog) (w := w) Tryd.underlying49 Tryd.underlying5 Tryd.underlying9 #[.int .u8 z] [byteI z] (one_cells z hz).symm 1 rfl 1
  have k0 := kc 0 rfl
  have k1 := kc 1 rfl
  clear kc
  cases t
  all_goals
    go_enter Tryd.func29, Tryd.ntmps29
    go_wp2
    go_ret
    exact ⟨rfl, (Below.refl _ w).alloc (Nat.le_refl _) _⟩
set_option maxHeartbeats 4000000 in
set_option maxRecDepth 100000 in
theorem refTexts (A : Option Addr) (c : Nat) (xs : List ByteArray) (w : World) (hC : Kd.string.C w A xs.length xs) (hc : xs.length ≤ c) (hx : SzL xs) (hl : (textsB xs).length ≤ 549755813888) : Calls Tryd.prog 28 #[.slice A xs.length c] w (BAP (textsB xs) w) := by
  have hx1 := hx.1
  have HX := hid hx
  have HC := hid hC
  simp only [textsB, List.length_append, four_len] at hl
  clear hx hC
  go_enter Tryd.func28, Tryd.ntmps28
  go_wp2_with (go_at_call 59; refine (refFour xs.length (by omega) _).mono ?_; rintro e z ⟨rfl, hb⟩; have HB := hid hb; clear hb)
  go_loopw [3, 4] (fun s i wr => ∃ k : Nat, k ≤ xs.length ∧ i = .int .i64 k ∧ s = .string (bA (four xs.length ++ (xs.take k).flatMap textB)) ∧ Below w.heap.size w wr) (fun _ i _ => xs.length - (intOf i).toNat)
  case atStart => exact ⟨0, by omega, rfl, by simp, HB.out⟩
  case round =>
    obtain ⟨k, hk, rfl, rfl, hb⟩ := hrel
    have HB := hid hb
    clear hb
    by_cases hk8 : k < xs.length
    · have t0 : decide (k < xs.length) = true := decide_eq_true hk8
      obtain ⟨ad, hA, hx0⟩ := Go.Proofs.YtcgjacffemjehaaDoorW.PrintWords.Kd.at_string HC.out (k : Int) (by omega) (by omega)
      subst hA
      rw [Int.toNat_natCast] at hx0
      have hx0 := (HB.out.cell (lt_of_cell hx0)).trans hx0
      have hf := flat_snoc textB xs ByteArray.empty k hk8
      have hle := flat_take_le textB xs (k + 1)
      rw [hf, List.length_append] at hle
      have hsx : Sz (xs.getD k ByteArray.empty) := HX.out.2 _ (by rw [List.getD_eq_getElem?_getD, List.getElem?_eq_getElem hk8]; simp)
      obtain ⟨y, hy⟩ : ∃ y, xs.getD k ByteArray.empty = y := ⟨_, rfl⟩
      rw [show rdOf ByteArray.empty xs (k : Int) = y by unfold rdOf; rw [Int.toNat_natCast, hy]] at hx0
      rw [hy] at hf hle hsx
      have a1 := fun w' => add_bA (P := Tryd.prog) (w := w') (four xs.length ++ (xs.take k).flatMap textB) (textB y) (by rw [List.length_append, four_len]; omega)
      obtain ⟨p, hp⟩ : ∃ p, bA (four xs.length ++ (xs.take k).flatMap textB) = p := ⟨_, rfl⟩
      obtain ⟨q, hq⟩ : ∃ q, bA (four xs.length ++ (xs.take k).flatMap textB ++ textB y) = q := ⟨_, rfl⟩
      rw [hp, hq] at a1
      rw [hp]
      have HF := hid hf
      have HQ := hid hq
      clear hf hq hy hle hp
      go_wp2_with (go_at_call 27; refine (refText _ hsx _).mono ?_; rintro e z ⟨rfl, hb⟩; have n0 := hid (below_then HB.out hb); clear HB hb; have HB := n0; clear n0)
      go_roundw
      case rel => exact ⟨k + 1, by omega, by go_num, by rw [HF.out, ← List.append_assoc, HQ.out], HB.out⟩
      case measure => simp [intOf]; omega
    · have t0 : decide (k < xs.length) = false := decide_eq_false hk8
      obtain rfl : k = xs.length := by omega
      go_wp2
      go_ret
      exact BAP.mk (by rw [List.take_length]; rfl) HB.out
set_option maxHeartbeats 4000000 in
set_option maxRecDepth 100000 in
theorem refNum (n : Int) (w : World) (hn : I64 n) : Calls Tryd.prog 30 #[.int .i64 n] w (BAP (eight n) w) := by
  have hn1 := hn.1
  have hn2 := hn.2
  have h0 := OwnB.new w w.heap.size 5 #[] [] 0 rfl rfl (Nat.le_refl _) (by decide)
  have H0 := hid h0
  clear h0 hn
  go_enter Tryd.func30, Tryd.ntmps30
  go_wp2
  go_loopw [3, 4] (fun v i wr => ∃ k : Nat, k ≤ 8 ∧ i = .int .i64 (7 - (k : Int)) ∧ OwnB wr w.heap.size 5 v ((eight n).take k) ∧ Below w.heap.size w wr) (fun _ i _ => (intOf i + 1).toNat)
  case atStart => exact ⟨0, by omega, by simp, H0.out, (Below.refl _ w).alloc (Nat.le_refl _) _⟩
  case round =>
    obtain ⟨k, hk, rfl, ho, hb⟩ := hrel
    have hsz := hb.size
    have HO := hid ho
    have HB := hid hb
    clear ho hb
    by_cases hk8 : k < 8
    · have t0 : decide ((0 : Int) ≤ 7 - (k : Int)) = true := decide_eq_true (by omega)
      have he := eight_step n k hk8
      rw [show (56 - 8 * (k : Int)).toNat = 8 * (7 - k) by omega] at he
      have HE := hid he
      clear he
      go_wp2_with (at_builtin; refine wpList_append_b byteT rfl (.tmp 10) (.tmp 17) rfl w.heap.size ((eight n).take k) [byteI _] _ _ rfl rfl (HO.out.alloc _) (OwnB.new wr 0 5 _ _ 1 rfl (one_wrap _).symm (Nat.zero_le _) (by decide)).reads (by rw [List.length_take]; simp [eight]; omega) (by simp; omega) ?_; intro v' w1 ho hg _ _; have HO1 := hid ho; have HB1 := hid ((HB.out.alloc hsz _).grown hg (by simp; omega) (fun j hj => (HO.out.lt hj).1)); clear ho hg)
      go_roundw
      case rel => exact ⟨k + 1, by omega, by congr 1; omega, by rw [HE.out]; exact HO1.out, HB1.out⟩
      case measure => simp [intOf]; omega
    · obtain rfl : k = 8 := by omega
      have t0 : decide ((0 : Int) ≤ 7 - ((8 : Nat) : Int)) = false := by decide
      have kc := run_string_of_reads (P := Tryd.prog) byteT Tryd.underlying9 HO.out.reads
      go_wp2
      go_ret
      exact ⟨rfl, HB.out⟩
set_option maxHeartbeats 8000000 in
set_option maxRecDepth 100000 in
theorem refPerms (A : Option Addr) (c : Nat) (xs : List S86) (w : World) (hC : k86.C w A xs.length xs) (hc : xs.length ≤ c) (hx : SzP xs) (hl : (permsB xs).length ≤ 549755813888) : Calls Tryd.prog 31 #[.slice A xs.length c] w (BAP (permsB xs) w) := by
  have hx1 := hx.1
  have HX := hid hx
  have HC := hid hC
  simp only [permsB, List.length_append, four_len] at hl
  clear hx hC
  go_enter Tryd.func31, Tryd.ntmps31
  go_wp2_with (go_at_call 59; refine (refFour xs.length (by omega) _).mono ?_; rintro e z ⟨rfl, hb⟩; have HB := hid hb; clear hb)
  go_loopw [3, 4] (fun s i wr => ∃ k : Nat, k ≤ xs.length ∧ i = .int .i64 k ∧ s = .string (bA (four xs.length ++ (xs.take k).flatMap permB)) ∧ Below w.heap.size w wr) (fun _ i _ => xs.length - (intOf i).toNat)
  case atStart => exact ⟨0, by omega, rfl, by simp, HB.out⟩
  case round =>
    obtain ⟨k, hk, rfl, rfl, hb⟩ := hrel
    have HB := hid hb
    clear hb
    by_cases hk8 : k < xs.length
    · have t0 : decide (k < xs.length) = true := decide_eq_true hk8
      obtain ⟨ad, A1, c1, hA, hx0, hx1, hl1, hC1⟩ := at_T86 HC.out (k : Int) (by omega) (by omega)
      subst hA
      rw [Int.toNat_natCast] at hx0 hx1
      have hf := flat_snoc permB xs z86 k hk8
      have hle := flat_take_le permB xs (k + 1)
      rw [hf, List.length_append] at hle
      have hsx : OkPerm (xs.getD k z86) := HX.out.2 _ (by rw [List.getD_eq_getElem?_getD, List.getElem?_eq_getElem hk8]; simp)
      obtain ⟨y, hy⟩ : ∃ y, xs.getD k z86 = y := ⟨_, rfl⟩
      have hrd : rd_T86 xs (k : Int) = y := by unfold rd_T86; rw [Int.toNat_natCast, hy]
      rw [hrd] at hx0 hx1 hC1 hl1
      rw [hy] at hf hle hsx
      have HY1 := hid hsx.1
      have HY2 := hid hsx.2
      have HC1 := hid hC1
      have HL1 := hid hl1
      have hln : (permB y).length = (textB y.f0).length + (textsB y.f1).length := by rw [permB, List.length_append]
      have hs : ∀ z, Below w.heap.size w z → z.cell? (ad.add (k * 2)) = some (.string y.f0) ∧ z.cell? ⟨(ad.add (k * 2)).block, (ad.add (k * 2)).off + 1, none⟩ = some (.slice A1 y.f1.length c1) := fun z hz => ⟨(hz.cell (lt_of_cell hx0)).trans hx0, (hz.cell (lt_of_cell hx1)).trans hx1⟩
      have HS := hid hs
      have a1 := fun w' => add_bA (P := Tryd.prog) (w := w') (four xs.length ++ (xs.take k).flatMap permB) (textB y.f0) (by rw [List.length_append, four_len]; omega)
      have a2 := fun w' => add_bA (P := Tryd.prog) (w := w') (four xs.length ++ (xs.take k).flatMap permB ++ textB y.f0) (textsB y.f1) (by rw [List.length_append, List.length_append, four_len]; omega)
      obtain ⟨p, hp⟩ : ∃ p, bA (four xs.length ++ (xs.take k).flatMap permB) = p := ⟨_, rfl⟩
      obtain ⟨q, hq⟩ : ∃ q, bA (four xs.length ++ (xs.take k).flatMap permB ++ textB y.f0) = q := ⟨_, rfl⟩
      obtain ⟨r, hr⟩ : ∃ r, bA (four xs.length ++ (xs.take k).flatMap permB ++ textB y.f0 ++ textsB y.f1) = r := ⟨_, rfl⟩
      rw [hp, hq] at a1
      rw [hq, hr] at a2
      rw [hp]
      have HF := hid hf
      have HR := hid hr
      clear hf hq hy hp hr hs hx0 hx1 hsx hrd hC1 hl1
      go_wp2
      go_region_held3 (fun z => z.cell? (ad.add (k * 2)) = some (.string y.f0) ∧ z.cell? ⟨(ad.add (k * 2)).block, (ad.add (k * 2)).off + 1, none⟩ = some (.slice A1 y.f1.length c1)) (first | exact HS.out _ HB.out | exact HS.out _ (Below.drew HB.out))
        (first | (go_at_call 27; refine (refText _ HY1.out _).mono ?_; rintro e z ⟨rfl, hb⟩; have n0 := hid (by first | exact below_then HB.out hb | exact below_then (Below.drew HB.out) hb : Below w.heap.size w z); clear HB hb; have HB := n0; clear n0) | (go_at_call 28; refine (refTexts _ _ _ _ (by first | exact Kd.C_below HC1.out HB.out | exact Kd.C_below HC1.out (Below.drew HB.out)) HL1.out HY2.out (by omega)).mono ?_; rintro e z ⟨rfl, hb⟩; have n0 := hid (by first | exact below_then HB.out hb | exact below_then (Below.drew HB.out) hb : Below w.heap.size w z); clear HB hb; have HB := n0; clear n0))
      all_goals
        go_wp2
        go_roundw
        case rel => exact ⟨k + 1, by omega, by go_num, by rw [HF.out, permB, ← List.append_assoc, ← List.append_assoc, HR.out], HB.out⟩
        case measure => simp [intOf]; omega
    · have t0 : decide (k < xs.length) = false := decide_eq_false hk8
      obtain rfl : k = xs.length := by omega
      go_wp2
      go_ret
      exact BAP.mk (by rw [List.take_length]; rfl) HB.out
set_option maxHeartbeats 8000000 in
set_option maxRecDepth 100000 in
theorem refKeys (A : Option Addr) (c : Nat) (xs : List S117) (w : World) (hC : k117.C w A xs.length xs) (hc : xs.length ≤ c) (hx : SzK xs) (hl : (keysB xs).length ≤ 549755813888) : Calls Tryd.prog 32 #[.slice A xs.length c] w (BAP (keysB xs) w) := by
  have hx1 := hx.1
  have HX := hid hx
  have HC := hid hC
  simp only [keysB, List.length_append, four_len] at hl
  clear hx hC
  go_enter Tryd.func32, Tryd.ntmps32
  go_wp2_with (go_at_call 59; refine (refFour xs.length (by omega) _).mono ?_; rintro e z ⟨rfl, hb⟩; have HB := hid hb; clear hb)
  go_loopw [3, 4] (fun s i wr => ∃ k : Nat, k ≤ xs.length ∧ i = .int .i64 k ∧ s = .string (bA (four xs.length ++ (xs.take k).flatMap keyB)) ∧ Below w.heap.size w wr) (fun _ i _ => xs.length - (intOf i).toNat)
  case atStart => exact ⟨0, by omega, rfl, by simp, HB.out⟩
  case round =>
    obtain ⟨k, hk, rfl, rfl, hb⟩ := hrel
    have HB := hid hb
    clear hb
    by_cases hk8 : k < xs.length
    · have t0 : decide (k < xs.length) = true := decide_eq_true hk8
      obtain ⟨ad, hA, hx0, hx1⟩ := at_T117 HC.out (k : Int) (by omega) (by omega)
      subst hA
      rw [Int.toNat_natCast] at hx0 hx1
      have hf := flat_snoc keyB xs z117 k hk8
      have hle := flat_take_le keyB xs (k + 1)
      rw [hf, List.length_append] at hle
      have hsx : OkKey (xs.getD k z117) := HX.out.2 _ (by rw [List.getD_eq_getElem?_getD, List.getElem?_eq_getElem hk8]; simp)
      obtain ⟨y, hy⟩ : ∃ y, xs.getD k z117 = y := ⟨_, rfl⟩
      have hrd : rd_T117 xs (k : Int) = y := by unfold rd_T117; rw [Int.toNat_natCast, hy]
      rw [hrd] at hx0 hx1
      rw [hy] at hf hle hsx
      have HY1 := hid hsx.1
      have HY2 := hid hsx.2
      have hln : (keyB y).length = (textB y.f0).length + (textB y.f1).length := by rw [keyB, List.length_append]
      have hs : ∀ z, Below w.heap.size w z → z.cell? (ad.add (k * 2)) = some (.string y.f0) ∧ z.cell? ⟨(ad.add (k * 2)).block, (ad.add (k * 2)).off + 1, none⟩ = some (.string y.f1) := fun z hz => ⟨(hz.cell (lt_of_cell hx0)).trans hx0, (hz.cell (lt_of_cell hx1)).trans hx1⟩
      have HS := hid hs
      have a1 := fun w' => add_bA (P := Tryd.prog) (w := w') (four xs.length ++ (xs.take k).flatMap keyB) (textB y.f0) (by rw [List.length_append, four_len]; omega)
      have a2 := fun w' => add_bA (P := Tryd.prog) (w := w') (four xs.length ++ (xs.take k).flatMap keyB ++ textB y.f0) (textB y.f1) (by rw [List.length_append, List.length_append, four_len]; omega)
      obtain ⟨p, hp⟩ : ∃ p, bA (four xs.length ++ (xs.take k).flatMap keyB) = p := ⟨_, rfl⟩
      obtain ⟨q, hq⟩ : ∃ q, bA (four xs.length ++ (xs.take k).flatMap keyB ++ textB y.f0) = q := ⟨_, rfl⟩
      obtain ⟨r, hr⟩ : ∃ r, bA (four xs.length ++ (xs.take k).flatMap keyB ++ textB y.f0 ++ textB y.f1) = r := ⟨_, rfl⟩
      rw [hp, hq] at a1
      rw [hq, hr] at a2
      rw [hp]
      have HF := hid hf
      have HR := hid hr
      clear hf hq hy hp hr hs hx0 hx1 hsx hrd
      go_wp2
      go_region_held3 (fun z => z.cell? (ad.add (k * 2)) = some (.string y.f0) ∧ z.cell? ⟨(ad.add (k * 2)).block, (ad.add (k * 2)).off + 1, none⟩ = some (.string y.f1)) (first | exact HS.out _ HB.out | exact HS.out _ (Below.drew HB.out))
        (first | (go_at_call 27; refine (refText _ (by first | exact HY1.out | exact HY2.out) _).mono ?_; rintro e z ⟨rfl, hb⟩; have n0 := hid (by first | exact below_then HB.out hb | exact below_then (Below.drew HB.out) hb : Below w.heap.size w z); clear HB hb; have HB := n0; clear n0))
      all_goals
        go_wp2
        go_roundw
        case rel => exact ⟨k + 1, by omega, by go_num, by rw [HF.out, keyB, ← List.append_assoc, ← List.append_assoc, HR.out], HB.out⟩
        case measure => simp [intOf]; omega
    · have t0 : decide (k < xs.length) = false := decide_eq_false hk8
      obtain rfl : k = xs.length := by omega
      go_wp2
      go_ret
      exact BAP.mk (by rw [List.take_length]; rfl) HB.out
end Go.Proofs.YtcgjacffemjehaaDoor

namespace Go.Proofs.YtcgjacffemjehaaDoor
open Go.RowKit
open Go.Proofs.YtcgjacffemjehaaDoorW.PrintWords (Kd rdOf)
open Go.Proofs.YtcgjacffemjehaaDoor.PRowReads
set_option linter.unusedVariables false
theorem ba_add (a b : List UInt8) : (⟨a.toArray⟩ : ByteArray) ++ ⟨b.toArray⟩ = ⟨(a ++ b).toArray⟩ := str_append a b
set_option maxHeartbeats 8000000 in
set_option maxRecDepth 100000 in
theorem refConsent (w : World) (x : S41) {A3 : Option Addr} {c3 : Nat} {A8 : Option Addr} {c8 : Nat} {A16 : Option Addr} {c16 : Nat} {A28 : Option Addr} {c28 : Nat} {A29 : Option Addr} {c29 : Nat} {A37 : Option Addr} {c37 : Nat} {A41 : Option Addr} {c41 : Nat} {A45 : Option Addr} {c45 : Nat} (l3 : x.f1.f2.length ≤ c3) (g3 : Kd.string.C w A3 x.f1.f2.length x.f1.f2) (l8 : x.f2.f4.length ≤ c8) (g8 : Kd.string.C w A8 x.f2.f4.length x.f2.f4) (l16 : x.f3.f3.length ≤ c16) (g16 : Kd.string.C w A16 x.f3.f3.length x.f3.f3) (l28 : x.f5.f5.length ≤ c28) (g28 : Kd.string.C w A28 x.f5.f5.length x.f5.f5) (l29 : x.f5.f6.length ≤ c29) (g29 : k86.C w A29 x.f5.f6.length x.f5.f6) (l37 : x.f6.f4.length ≤ c37) (g37 : Kd.string.C w A37 x.f6.f4.length x.f6.f4) (l41 : x.f7.f2.length ≤ c41) (g41 : k86.C w A41 x.f7.f2.length x.f7.f2) (l45 : x.f8.length ≤ c45) (g45 : k117.C w A45 x.f8.length x.f8) (hx : OkConsent x.f1) (hl : (consentB x.f1).length ≤ 549755813888) :
    Calls Tryd.prog 8 #[.agg #[.int .i64 1, .string x.f1.f0, .string x.f1.f1, .slice A3 x.f1.f2.length c3, .string x.f2.f0, .string x.f2.f1, .string x.f2.f2, .string x.f2.f3, .slice A8 x.f2.f4.length c8, .string x.f2.f5, .bool x.f2.f6, .bool x.f2.f7, .int .i64 x.f2.f8, .string x.f3.f0, .string x.f3.f1, .string x.f3.f2, .slice A16 x.f3.f3.length c16, .int .i64 x.f3.f4, .int .i64 x.f3.f5, .bool x.f3.f6, .string x.f4.f0, .string x.f4.f1, .int .i64 x.f4.f2, .string x.f5.f0, .string x.f5.f1, .string x.f5.f2, .string x.f5.f3, .string x.f5.f4, .slice A28 x.f5.f5.length c28, .slice A29 x.f5.f6.length c29, .int .i64 x.f5.f7, .int .i64 x.f5.f8, .bool x.f5.f9, .string x.f6.f0, .string x.f6.f1, .string x.f6.f2, .string x.f6.f3, .slice A37 x.f6.f4.length c37, .string x.f6.f5, .string x.f7.f0, .string x.f7.f1, .slice A41 x.f7.f2.length c41, .string x.f7.f3, .int .i64 x.f7.f4, .bool x.f7.f5, .slice A45 x.f8.length c45]] w (TextPost (consentB x.f1) w) := by
  have hW : Below w.heap.size w ((w.alloc (.cells #[.int .i64 1, .string x.f1.f0, .string x.f1.f1, .slice A3 x.f1.f2.length c3, .string x.f2.f0, .string x.f2.f1, .string x.f2.f2, .string x.f2.f3, .slice A8 x.f2.f4.length c8, .string x.f2.f5, .bool x.f2.f6, .bool x.f2.f7, .int .i64 x.f2.f8, .string x.f3.f0, .string x.f3.f1, .string x.f3.f2, .slice A16 x.f3.f3.length c16, .int .i64 x.f3.f4, .int .i64 x.f3.f5, .bool x.f3.f6, .string x.f4.f0, .string x.f4.f1, .int .i64 x.f4.f2, .string x.f5.f0, .string x.f5.f1, .string x.f5.f2, .string x.f5.f3, .string x.f5.f4, .slice A28 x.f5.f5.length c28, .slice A29 x.f5.f6.length c29, .int .i64 x.f5.f7, .int .i64 x.f5.f8, .bool x.f5.f9, .string x.f6.f0, .string x.f6.f1, .string x.f6.f2, .string x.f6.f3, .slice A37 x.f6.f4.length c37, .string x.f6.f5, .string x.f7.f0, .string x.f7.f1, .slice A41 x.f7.f2.length c41, .string x.f7.f3, .int .i64 x.f7.f4, .bool x.f7.f5, .slice A45 x.f8.length c45] 41)).alloc (.cells #[.string x.f1.f0, .string x.f1.f1, .slice A3 x.f1.f2.length c3] 25)) := ((Below.refl _ w).alloc (Nat.le_refl _) _).alloc (by simp) _
  have HG3 := hid (Kd.C_below g3 hW)
  have HL3 := hid l3
  have hs : ∀ z, Below ((w.alloc (.cells #[.int .i64 1, .string x.f1.f0, .string x.f1.f1, .slice A3 x.f1.f2.length c3, .string x.f2.f0, .string x.f2.f1, .string x.f2.f2, .string x.f2.f3, .slice A8 x.f2.f4.length c8, .string x.f2.f5, .bool x.f2.f6, .bool x.f2.f7, .int .i64 x.f2.f8, .string x.f3.f0, .string x.f3.f1, .string x.f3.f2, .slice A16 x.f3.f3.length c16, .int .i64 x.f3.f4, .int .i64 x.f3.f5, .bool x.f3.f6, .string x.f4.f0, .string x.f4.f1, .int .i64 x.f4.f2, .string x.f5.f0, .string x.f5.f1, .string x.f5.f2, .string x.f5.f3, .string x.f5.f4, .slice A28 x.f5.f5.length c28, .slice A29 x.f5.f6.length c29, .int .i64 x.f5.f7, .int .i64 x.f5.f8, .bool x.f5.f9, .string x.f6.f0, .string x.f6.f1, .string x.f6.f2, .string x.f6.f3, .slice A37 x.f6.f4.length c37, .string x.f6.f5, .string x.f7.f0, .string x.f7.f1, .slice A41 x.f7.f2.length c41, .string x.f7.f3, .int .i64 x.f7.f4, .bool x.f7.f5, .slice A45 x.f8.length c45] 41)).alloc (.cells #[.string x.f1.f0, .string x.f1.f1, .slice A3 x.f1.f2.length c3] 25)).heap.size ((w.alloc (.cells #[.int .i64 1, .string x.f1.f0, .string x.f1.f1, .slice A3 x.f1.f2.length c3, .string x.f2.f0, .string x.f2.f1, .string x.f2.f2, .string x.f2.f3, .slice A8 x.f2.f4.length c8, .string x.f2.f5, .bool x.f2.f6, .bool x.f2.f7, .int .i64 x.f2.f8, .string x.f3.f0, .string x.f3.f1, .string x.f3.f2, .slice A16 x.f3.f3.length c16, .int .i64 x.f3.f4, .int .i64 x.f3.f5, .bool x.f3.f6, .string x.f4.f0, .string x.f4.f1, .int .i64 x.f4.f2, .string x.f5.f0, .string x.f5.f1, .string x.f5.f2, .string x.f5.f3, .string x.f5.f4, .slice A28 x.f5.f5.length c28, .slice A29 x.f5.f6.length c29, .int .i64 x.f5.f7, .int .i64 x.f5.f8, .bool x.f5.f9, .string x.f6.f0, .string x.f6.f1, .string x.f6.f2, .string x.f6.f3, .slice A37 x.f6.f4.length c37, .string x.f6.f5, .string x.f7.f0, .string x.f7.f1, .slice A41 x.f7.f2.length c41, .string x.f7.f3, .int .i64 x.f7.f4, .bool x.f7.f5, .slice A45 x.f8.length c45] 41)).alloc (.cells #[.string x.f1.f0, .string x.f1.f1, .slice A3 x.f1.f2.length c3] 25)) z → (fun z => z.cell? ⟨w.heap.size + 1, 0, none⟩ = some (.string x.f1.f0) ∧ z.cell? ⟨w.heap.size + 1, 1, none⟩ = some (.string x.f1.f1) ∧ z.cell? ⟨w.heap.size + 1, 2, none⟩ = some (.slice A3 x.f1.f2.length c3)) z := fun z hz =>
    ⟨(hz.cell (p := ⟨w.heap.size + 1, 0, none⟩) (by simp)).trans (by rw [World.cell?_alloc_at _ _ _ _ (by simp)]; rfl), (hz.cell (p := ⟨w.heap.size + 1, 1, none⟩) (by simp)).trans (by rw [World.cell?_alloc_at _ _ _ _ (by simp)]; rfl), (hz.cell (p := ⟨w.heap.size + 1, 2, none⟩) (by simp)).trans (by rw [World.cell?_alloc_at _ _ _ _ (by simp)]; rfl)⟩
  have HS := hid hs
  have HW := hid hW
  have HX := hid hx
  have hl2 := hl
  have HB := hid (Below.refl ((w.alloc (.cells #[.int .i64 1, .string x.f1.f0, .string x.f1.f1, .slice A3 x.f1.f2.length c3, .string x.f2.f0, .string x.f2.f1, .string x.f2.f2, .string x.f2.f3, .slice A8 x.f2.f4.length c8, .string x.f2.f5, .bool x.f2.f6, .bool x.f2.f7, .int .i64 x.f2.f8, .string x.f3.f0, .string x.f3.f1, .string x.f3.f2, .slice A16 x.f3.f3.length c16, .int .i64 x.f3.f4, .int .i64 x.f3.f5, .bool x.f3.f6, .string x.f4.f0, .string x.f4.f1, .int .i64 x.f4.f2, .string x.f5.f0, .string x.f5.f1, .string x.f5.f2, .string x.f5.f3, .string x.f5.f4, .slice A28 x.f5.f5.length c28, .slice A29 x.f5.f6.length c29, .int .i64 x.f5.f7, .int .i64 x.f5.f8, .bool x.f5.f9, .string x.f6.f0, .string x.f6.f1, .string x.f6.f2, .string x.f6.f3, .slice A37 x.f6.f4.length c37, .string x.f6.f5, .string x.f7.f0, .string x.f7.f1, .slice A41 x.f7.f2.length c41, .string x.f7.f3, .int .i64 x.f7.f4, .bool x.f7.f5, .slice A45 x.f8.length c45] 41)).alloc (.cells #[.string x.f1.f0, .string x.f1.f1, .slice A3 x.f1.f2.length c3] 25)).heap.size ((w.alloc (.cells #[.int .i64 1, .string x.f1.f0, .string x.f1.f1, .slice A3 x.f1.f2.length c3, .string x.f2.f0, .string x.f2.f1, .string x.f2.f2, .string x.f2.f3, .slice A8 x.f2.f4.length c8, .string x.f2.f5, .bool x.f2.f6, .bool x.f2.f7, .int .i64 x.f2.f8, .string x.f3.f0, .string x.f3.f1, .string x.f3.f2, .slice A16 x.f3.f3.length c16, .int .i64 x.f3.f4, .int .i64 x.f3.f5, .bool x.f3.f6, .string x.f4.f0, .string x.f4.f1, .int .i64 x.f4.f2, .string x.f5.f0, .string x.f5.f1, .string x.f5.f2, .string x.f5.f3, .string x.f5.f4, .slice A28 x.f5.f5.length c28, .slice A29 x.f5.f6.length c29, .int .i64 x.f5.f7, .int .i64 x.f5.f8, .bool x.f5.f9, .string x.f6.f0, .string x.f6.f1, .string x.f6.f2, .string x.f6.f3, .slice A37 x.f6.f4.length c37, .string x.f6.f5, .string x.f7.f0, .string x.f7.f1, .slice A41 x.f7.f2.length c41, .string x.f7.f3, .int .i64 x.f7.f4, .bool x.f7.f5, .slice A45 x.f8.length c45] 41)).alloc (.cells #[.string x.f1.f0, .string x.f1.f1, .slice A3 x.f1.f2.length c3] 25)))
  have z0 : Sz x.f1.f0 := HX.out.1
  have z1 : Sz x.f1.f1 := HX.out.2.1
  have z2 : SzL x.f1.f2 := HX.out.2.2
  clear hs hW hx hl g3 l3 g8 l8 g16 l16 g28 l28 g29 l29 g37 l37 g41 l41 g45 l45
  simp only [consentB, List.length_append] at hl2
  go_enter Tryd.func8, Tryd.ntmps8
  obtain ⟨P1, hP1⟩ : ∃ P, bA ((textB x.f1.f0) ++ textB x.f1.f1) = P := ⟨_, rfl⟩
  have a1 := fun w' => add_bA (P := Tryd.prog) (w := w') (textB x.f1.f0) (textB x.f1.f1) (by (try simp only [List.length_append]); omega)
  rw [hP1] at a1
  obtain ⟨P2, hP2⟩ : ∃ P, bA (((textB x.f1.f0) ++ textB x.f1.f1) ++ textsB x.f1.f2) = P := ⟨_, rfl⟩
  have a2 := fun w' => add_bA (P := Tryd.prog) (w := w') ((textB x.f1.f0) ++ textB x.f1.f1) (textsB x.f1.f2) (by (try simp only [List.length_append]); omega)
  rw [hP2, hP1] at a2
  have HP1 := hid hP1
  have HP2 := hid hP2
  clear hP1 hP2
  go_wp2
  go_region_held3 (fun z => z.cell? ⟨w.heap.size + 1, 0, none⟩ = some (.string x.f1.f0) ∧ z.cell? ⟨w.heap.size + 1, 1, none⟩ = some (.string x.f1.f1) ∧ z.cell? ⟨w.heap.size + 1, 2, none⟩ = some (.slice A3 x.f1.f2.length c3)) (first | exact HS.out _ HB.out | exact HS.out _ (Below.drew HB.out))
    (first | (go_at_call 27; refine (refText _ (by assumption) _).mono ?_; rintro e z ⟨rfl, hb⟩; have n0 := hid (by first | exact below_then HB.out hb | exact below_then (Below.drew HB.out) hb : Below ((w.alloc (.cells #[.int .i64 1, .string x.f1.f0, .string x.f1.f1, .slice A3 x.f1.f2.length c3, .string x.f2.f0, .string x.f2.f1, .string x.f2.f2, .string x.f2.f3, .slice A8 x.f2.f4.length c8, .string x.f2.f5, .bool x.f2.f6, .bool x.f2.f7, .int .i64 x.f2.f8, .string x.f3.f0, .string x.f3.f1, .string x.f3.f2, .slice A16 x.f3.f3.length c16, .int .i64 x.f3.f4, .int .i64 x.f3.f5, .bool x.f3.f6, .string x.f4.f0, .string x.f4.f1, .int .i64 x.f4.f2, .string x.f5.f0, .string x.f5.f1, .string x.f5.f2, .string x.f5.f3, .string x.f5.f4, .slice A28 x.f5.f5.length c28, .slice A29 x.f5.f6.length c29, .int .i64 x.f5.f7, .int .i64 x.f5.f8, .bool x.f5.f9, .string x.f6.f0, .string x.f6.f1, .string x.f6.f2, .string x.f6.f3, .slice A37 x.f6.f4.length c37, .string x.f6.f5, .string x.f7.f0, .string x.f7.f1, .slice A41 x.f7.f2.length c41, .string x.f7.f3, .int .i64 x.f7.f4, .bool x.f7.f5, .slice A45 x.f8.length c45] 41)).alloc (.cells #[.string x.f1.f0, .string x.f1.f1, .slice A3 x.f1.f2.length c3] 25)).heap.size ((w.alloc (.cells #[.int .i64 1, .string x.f1.f0, .string x.f1.f1, .slice A3 x.f1.f2.length c3, .string x.f2.f0, .string x.f2.f1, .string x.f2.f2, .string x.f2.f3, .slice A8 x.f2.f4.length c8, .string x.f2.f5, .bool x.f2.f6, .bool x.f2.f7, .int .i64 x.f2.f8, .string x.f3.f0, .string x.f3.f1, .string x.f3.f2, .slice A16 x.f3.f3.length c16, .int .i64 x.f3.f4, .int .i64 x.f3.f5, .bool x.f3.f6, .string x.f4.f0, .string x.f4.f1, .int .i64 x.f4.f2, .string x.f5.f0, .string x.f5.f1, .string x.f5.f2, .string x.f5.f3, .string x.f5.f4, .slice A28 x.f5.f5.length c28, .slice A29 x.f5.f6.length c29, .int .i64 x.f5.f7, .int .i64 x.f5.f8, .bool x.f5.f9, .string x.f6.f0, .string x.f6.f1, .string x.f6.f2, .string x.f6.f3, .slice A37 x.f6.f4.length c37, .string x.f6.f5, .string x.f7.f0, .string x.f7.f1, .slice A41 x.f7.f2.length c41, .string x.f7.f3, .int .i64 x.f7.f4, .bool x.f7.f5, .slice A45 x.f8.length c45] 41)).alloc (.cells #[.string x.f1.f0, .string x.f1.f1, .slice A3 x.f1.f2.length c3] 25)) z); clear HB hb; have HB := n0; clear n0) | (go_at_call 28; refine (refTexts _ _ _ _ (by first | exact Kd.C_below HG3.out HB.out | exact Kd.C_below HG3.out (Below.drew HB.out)) HL3.out z2 (by omega)).mono ?_; rintro e z ⟨rfl, hb⟩; have n0 := hid (by first | exact below_then HB.out hb | exact below_then (Below.drew HB.out) hb : Below ((w.alloc (.cells #[.int .i64 1, .string x.f1.f0, .string x.f1.f1, .slice A3 x.f1.f2.length c3, .string x.f2.f0, .string x.f2.f1, .string x.f2.f2, .string x.f2.f3, .slice A8 x.f2.f4.length c8, .string x.f2.f5, .bool x.f2.f6, .bool x.f2.f7, .int .i64 x.f2.f8, .string x.f3.f0, .string x.f3.f1, .string x.f3.f2, .slice A16 x.f3.f3.length c16, .int .i64 x.f3.f4, .int .i64 x.f3.f5, .bool x.f3.f6, .string x.f4.f0, .string x.f4.f1, .int .i64 x.f4.f2, .string x.f5.f0, .string x.f5.f1, .string x.f5.f2, .string x.f5.f3, .string x.f5.f4, .slice A28 x.f5.f5.length c28, .slice A29 x.f5.f6.length c29, .int .i64 x.f5.f7, .int .i64 x.f5.f8, .bool x.f5.f9, .string x.f6.f0, .string x.f6.f1, .string x.f6.f2, .string x.f6.f3, .slice A37 x.f6.f4.length c37, .string x.f6.f5, .string x.f7.f0, .string x.f7.f1, .slice A41 x.f7.f2.length c41, .string x.f7.f3, .int .i64 x.f7.f4, .bool x.f7.f5, .slice A45 x.f8.length c45] 41)).alloc (.cells #[.string x.f1.f0, .string x.f1.f1, .slice A3 x.f1.f2.length c3] 25)).heap.size ((w.alloc (.cells #[.int .i64 1, .string x.f1.f0, .string x.f1.f1, .slice A3 x.f1.f2.length c3, .string x.f2.f0, .string x.f2.f1, .string x.f2.f2, .string x.f2.f3, .slice A8 x.f2.f4.length c8, .string x.f2.f5, .bool x.f2.f6, .bool x.f2.f7, .int .i64 x.f2.f8, .string x.f3.f0, .string x.f3.f1, .string x.f3.f2, .slice A16 x.f3.f3.length c16, .int .i64 x.f3.f4, .int .i64 x.f3.f5, .bool x.f3.f6, .string x.f4.f0, .string x.f4.f1, .int .i64 x.f4.f2, .string x.f5.f0, .string x.f5.f1, .string x.f5.f2, .string x.f5.f3, .string x.f5.f4, .slice A28 x.f5.f5.length c28, .slice A29 x.f5.f6.length c29, .int .i64 x.f5.f7, .int .i64 x.f5.f8, .bool x.f5.f9, .string x.f6.f0, .string x.f6.f1, .string x.f6.f2, .string x.f6.f3, .slice A37 x.f6.f4.length c37, .string x.f6.f5, .string x.f7.f0, .string x.f7.f1, .slice A41 x.f7.f2.length c41, .string x.f7.f3, .int .i64 x.f7.f4, .bool x.f7.f5, .slice A45 x.f8.length c45] 41)).alloc (.cells #[.string x.f1.f0, .string x.f1.f1, .slice A3 x.f1.f2.length c3] 25)) z); clear HB hb; have HB := n0; clear n0))
  all_goals
    go_wp2
    go_ret
    exact TextPost.mk (congrArg Value.string HP2.out.symm) (HW.out.trans (HB.out.mono (by simp; omega)))
end Go.Proofs.YtcgjacffemjehaaDoor

namespace Go.Proofs.YtcgjacffemjehaaDoor
open Go.RowKit
open Go.Proofs.YtcgjacffemjehaaDoorW.PrintWords (Kd rdOf)
open Go.Proofs.YtcgjacffemjehaaDoor.PRowReads
set_option linter.unusedVariables false
abbrev LIM : Nat := 549755813888
set_option maxHeartbeats 4000000 in
set_option maxRecDepth 100000 in
theorem texts_w {w0 w : World} {g : Nat} {v : Value} {l : List UInt8} (h : WS w0 g v l w) (p : Addr) (A : Option Addr) (c : Nat) (xs : List ByteArray) (hp : w0.cell? p = some (.slice A xs.length c)) (hC : Kd.string.C w0 A xs.length xs) (hx : SzL xs) (hl : (l ++ textsB xs).length ≤ 549755813888) :
    Calls Tryd.prog 69 #[.pointer (some ⟨g, 0, none⟩), .pointer (some p)] w (WPost w0 g (l ++ textsB xs) (.returned (.tuple #[]))) := by
  have HC := hid hC
  clear hC
  go_enter Tryd.func69, Tryd.ntmps69
  go_wp2_with fail
  refine (listS_w h p A c xs hp HC.out hx.1 hx.2 (by simpa using hl)).mono ?_
  intro e w1 hq
  obtain ⟨rfl, h1⟩ := hq
  go_wp2
  go_end0
  exact ⟨rfl, h1⟩
set_option maxHeartbeats 4000000 in
set_option maxRecDepth 100000 in
theorem perm_w {w0 w : World} {g : Nat} {v : Value} {l : List UInt8} (h : WS w0 g v l w) (p : Addr) (x : S86) (A : Option Addr) (c : Nat) (h0 : w0.cell? p = some (.string x.f0)) (h1 : w0.cell? ⟨p.block, p.off + 1, none⟩ = some (.slice A x.f1.length c)) (hC : Kd.string.C w0 A x.f1.length x.f1) (hx : OkPerm x) (hl : (l ++ permB x).length ≤ 549755813888) :
    Calls Tryd.prog 72 #[.pointer (some ⟨g, 0, none⟩), .pointer (some p)] w (WPost w0 g (l ++ permB x) (.returned (.tuple #[]))) := by
  have HC := hid hC
  have H0 := hid h
  clear hC h
  go_enter Tryd.func72, Tryd.ntmps72
  go_wp2_with fail
  refine (text_w H0.out p x.f0 h0 (Nat.le_trans hx.1 (by omega)) (by simp only [permB, List.length_append] at hl; omega)).mono ?_
  intro e w1 hq
  obtain ⟨rfl, v1, h⟩ := hq
  have H1 := hid h
  clear h
  go_wp2_with fail
  refine (texts_w H1.out ⟨p.block, p.off + 1, none⟩ A c x.f1 h1 HC.out hx.2 (by simp only [permB, List.length_append] at hl ⊢; omega)).mono ?_
  intro e w2 hq
  obtain ⟨rfl, v2, h⟩ := hq
  have H2 := hid h
  clear h
  go_wp2
  go_end0
  exact WPost.mk rfl (by simp [permB]) H2.out
set_option maxHeartbeats 4000000 in
set_option maxRecDepth 100000 in
theorem key_w {w0 w : World} {g : Nat} {v : Value} {l : List UInt8} (h : WS w0 g v l w) (p : Addr) (x : S117) (h0 : w0.cell? p = some (.string x.f0)) (h1 : w0.cell? ⟨p.block, p.off + 1, none⟩ = some (.string x.f1)) (hx : OkKey x) (hl : (l ++ keyB x).length ≤ 549755813888) :
    Calls Tryd.prog 74 #[.pointer (some ⟨g, 0, none⟩), .pointer (some p)] w (WPost w0 g (l ++ keyB x) (.returned (.tuple #[]))) := by
  have H0 := hid h
  clear h
  go_enter Tryd.func74, Tryd.ntmps74
  go_wp2_with fail
  refine (text_w H0.out p x.f0 h0 (Nat.le_trans hx.1 (by omega)) (by simp only [keyB, List.length_append] at hl; omega)).mono ?_
  intro e w1 hq
  obtain ⟨rfl, v1, h⟩ := hq
  have H1 := hid h
  clear h
  go_wp2_with fail
  refine (text_w H1.out ⟨p.block, p.off + 1, none⟩ x.f1 h1 (Nat.le_trans hx.2 (by omega)) (by simp only [keyB, List.length_append] at hl ⊢; omega)).mono ?_
  intro e w2 hq
  obtain ⟨rfl, v2, h⟩ := hq
  have H2 := hid h
  clear h
  go_wp2
  go_end0
  exact WPost.mk rfl (by simp [keyB]) H2.out
set_option maxHeartbeats 4000000 in
set_option maxRecDepth 100000 in
theorem listP_w {w0 w : World} {g : Nat} {v : Value} {l : List UInt8} (h : WS w0 g v l w) (p : Addr) (A : Option Addr) (c : Nat) (xs : List S86) (hp : w0.cell? p = some (.slice A xs.length c)) (hC : k86.C w0 A xs.length xs) (hx : SzP xs) (hl : (l ++ permsB xs).length ≤ 549755813888) :
    Calls Tryd.prog 71 #[.pointer (some ⟨g, 0, none⟩), .pointer (some p), .func (.func 72) #[] #[]] w (WPost w0 g (l ++ permsB xs) (.returned (.tuple #[]))) := by
  have hps := lt_of_cell hp
  have hp1 : w.cell? p = some (.slice A xs.length c) := (h.below.cell hps).trans hp
  have hx1 := hx.1
  have HP := hid hp
  have H := hid h
  have HC := hid hC
  have HX := hid hx
  simp only [permsB, List.length_append] at hl
  clear h hp hC hx
  go_enter Tryd.func71, Tryd.ntmps71
  go_wp2_with (go_at_call 79; refine (size_w H.out xs.length (by omega) (by omega)).mono ?_; intro e w1 hq; obtain ⟨rfl, v1, h1⟩ := hq; have H1 := hid h1; have hp2 := (h1.below.cell hps).trans HP.out; obtain ⟨c0, c1, c2, f0⟩ := h1.cells; clear h1)
  go_loopw [7] (fun i wr => ∃ (k : Nat) (v' : Value), k ≤ xs.length ∧ i = .int .i64 k ∧ WS w0 g v' (l ++ four xs.length ++ (xs.take k).flatMap permB) wr) (fun i _ => xs.length - (intOf i).toNat)
  case atStart => exact ⟨0, v1, by omega, by simp, by simpa using H1.out⟩
  case round =>
    obtain ⟨k, v2, hk, rfl, h⟩ := hrel
    have hp3 : wr.cell? p = some (.slice A xs.length c) := (h.below.cell hps).trans HP.out
    obtain ⟨c0, c1, c2, f0⟩ := h.cells
    have H2 := hid h
    clear h
    by_cases hk8 : k < xs.length
    · have t0 : decide (k < xs.length) = true := decide_eq_true hk8
      obtain ⟨ad, A1, c1, hA, hx0, hx1, hl1, hC1⟩ := at_T86 HC.out (k : Int) (by omega) (by omega)
      subst hA
      rw [Int.toNat_natCast] at hx0 hx1
      have hrd : rd_T86 xs (k : Int) = xs.getD k z86 := by unfold rd_T86; rw [Int.toNat_natCast]
      have hsx : OkPerm (xs.getD k z86) := HX.out.2 _ (by rw [List.getD_eq_getElem?_getD, List.getElem?_eq_getElem hk8]; simp)
      obtain ⟨y, hy⟩ : ∃ y, xs.getD k z86 = y := ⟨_, rfl⟩
      have hf := flat_snoc permB xs z86 k hk8
      have hle : ((xs.take k).flatMap permB).length + (permB y).length ≤ (xs.flatMap permB).length := by
        have := flat_take_le permB xs (k + 1)
        rw [hf, List.length_append, hy] at this
        exact this
      rw [hy] at hf hsx hrd
      rw [hrd] at hx0 hx1 hC1
      have HX0 := hid hx0
      have HX1 := hid hx1
      have HC1 := hid hC1
      have HF := hid hf
      clear hx0 hx1 hf hy hrd hC1 hl1
      go_wp2_with (go_at_call 72; refine (perm_w H2.out (ad.add (k * 2)) y A1 c1 HX0.out HX1.out HC1.out hsx (by (try simp only [List.length_append]); omega)).mono ?_; intro e w2 hq; obtain ⟨rfl, v3, h3⟩ := hq; have H3 := hid h3; clear h3)
      go_roundw
      case rel => exact ⟨k + 1, _, by omega, by go_num, by rw [HF.out, ← List.append_assoc]; exact H3.out⟩
      case measure => simp [intOf]; omega
    · have t0 : decide (k < xs.length) = false := decide_eq_false hk8
      obtain rfl : k = xs.length := by omega
      go_wp2
      go_end0
      exact WPost.mk rfl (by rw [List.take_length]; simp [permsB]) H2.out
set_option maxHeartbeats 4000000 in
set_option maxRecDepth 100000 in
theorem listK_w {w0 w : World} {g : Nat} {v : Value} {l : List UInt8} (h : WS w0 g v l w) (p : Addr) (A : Option Addr) (c : Nat) (xs : List S117) (hp : w0.cell? p = some (.slice A xs.length c)) (hC : k117.C w0 A xs.length xs) (hx : SzK xs) (hl : (l ++ keysB xs).length ≤ 549755813888) :
    Calls Tryd.prog 73 #[.pointer (some ⟨g, 0, none⟩), .pointer (some p), .func (.func 74) #[] #[]] w (WPost w0 g (l ++ keysB xs) (.returned (.tuple #[]))) := by
  have hps := lt_of_cell hp
  have hp1 : w.cell? p = some (.slice A xs.length c) := (h.below.cell hps).trans hp
  have hx1 := hx.1
  have HP := hid hp
  have H := hid h
  have HC := hid hC
  have HX := hid hx
  simp only [keysB, List.length_append] at hl
  clear h hp hC hx
  go_enter Tryd.func73, Tryd.ntmps73
  go_wp2_with (go_at_call 79; refine (size_w H.out xs.length (by omega) (by omega)).mono ?_; intro e w1 hq; obtain ⟨rfl, v1, h1⟩ := hq; have H1 := hid h1; have hp2 := (h1.below.cell hps).trans HP.out; obtain ⟨c0, c1, c2, f0⟩ := h1.cells; clear h1)
  go_loopw [7] (fun i wr => ∃ (k : Nat) (v' : Value), k ≤ xs.length ∧ i = .int .i64 k ∧ WS w0 g v' (l ++ four xs.length ++ (xs.take k).flatMap keyB) wr) (fun i _ => xs.length - (intOf i).toNat)
  case atStart => exact ⟨0, v1, by omega, by simp, by simpa using H1.out⟩
  case round =>
    obtain ⟨k, v2, hk, rfl, h⟩ := hrel
    have hp3 : wr.cell? p = some (.slice A xs.length c) := (h.below.cell hps).trans HP.out
    obtain ⟨c0, c1, c2, f0⟩ := h.cells
    have H2 := hid h
    clear h
    by_cases hk8 : k < xs.length
    · have t0 : decide (k < xs.length) = true := decide_eq_true hk8
      obtain ⟨ad, hA, hx0, hx1⟩ := at_T117 HC.out (k : Int) (by omega) (by omega)
      subst hA
      rw [Int.toNat_natCast] at hx0 hx1
      have hrd : rd_T117 xs (k : Int) = xs.getD k z117 := by unfold rd_T117; rw [Int.toNat_natCast]
      have hsx : OkKey (xs.getD k z117) := HX.out.2 _ (by rw [List.getD_eq_getElem?_getD, List.getElem?_eq_getElem hk8]; simp)
      obtain ⟨y, hy⟩ : ∃ y, xs.getD k z117 = y := ⟨_, rfl⟩
      have hf := flat_snoc keyB xs z117 k hk8
      have hle : ((xs.take k).flatMap keyB).length + (keyB y).length ≤ (xs.flatMap keyB).length := by
        have := flat_take_le keyB xs (k + 1)
        rw [hf, List.length_append, hy] at this
        exact this
      rw [hy] at hf hsx hrd
      rw [hrd] at hx0 hx1
      have HX0 := hid hx0
      have HX1 := hid hx1

      have HF := hid hf
      clear hx0 hx1 hf hy hrd
      go_wp2_with (go_at_call 74; refine (key_w H2.out (ad.add (k * 2)) y HX0.out HX1.out hsx (by (try simp only [List.length_append]); omega)).mono ?_; intro e w2 hq; obtain ⟨rfl, v3, h3⟩ := hq; have H3 := hid h3; clear h3)
      go_roundw
      case rel => exact ⟨k + 1, _, by omega, by go_num, by rw [HF.out, ← List.append_assoc]; exact H3.out⟩
      case measure => simp [intOf]; omega
    · have t0 : decide (k < xs.length) = false := decide_eq_false hk8
      obtain rfl : k = xs.length := by omega
      go_wp2
      go_end0
      exact WPost.mk rfl (by rw [List.take_length]; simp [keysB]) H2.out
set_option maxHeartbeats 4000000 in
set_option maxRecDepth 100000 in
theorem keys_w {w0 w : World} {g : Nat} {v : Value} {l : List UInt8} (h : WS w0 g v l w) (p : Addr) (A : Option Addr) (c : Nat) (xs : List S117) (hp : w0.cell? p = some (.slice A xs.length c)) (hC : k117.C w0 A xs.length xs) (hx : SzK xs) (hl : (l ++ keysB xs).length ≤ 549755813888) :
    Calls Tryd.prog 56 #[.pointer (some ⟨g, 0, none⟩), .pointer (some p)] w (WPost w0 g (l ++ keysB xs) (.returned (.tuple #[]))) := by
  have HC := hid hC
  have HX := hid hx
  clear hC hx
  go_enter Tryd.func56, Tryd.ntmps56
  go_wp2_with fail
  refine (listK_w h p A c xs hp HC.out HX.out hl).mono ?_
  intro e w1 hq
  obtain ⟨rfl, h1⟩ := hq
  go_wp2
  go_end0
  exact ⟨rfl, h1⟩
end Go.Proofs.YtcgjacffemjehaaDoor

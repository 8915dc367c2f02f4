/-
  utf.Put by contract: a letter's bytes.
-/
import Derived.Test.YtjbfkblobaikdaaDoorUtfLaw
import Derived.Test.YtjbfkblobaikdaaDoorBytes
namespace Go.Proofs.YtjbfkblobaikdaaDoor
open Go.RowKit
set_option linter.unusedVariables false

theorem low_bits (x : Int) (h0 : 0 ≤ x) (h : x < 2097152) : bits .or .i64 (bits .and .i64 x 63) 128 % 256 = 128 + x % 64 := by
  have h1 : bits .and .i64 x 63 = x % 64 := bits_mask .i64 62 (by decide) wraps_i64 6 (by decide) x (by omega) (by omega)
  have h2 : ∀ m : Fin 64, bits .or .i64 ((m.val : Nat) : Int) 128 % 256 = 128 + ((m.val : Nat) : Int) := by decide +kernel
  have h3 := h2 ⟨(x % 64).toNat, by omega⟩
  rw [h1]
  have : (((x % 64).toNat : Nat) : Int) = x % 64 := by omega
  rw [← this]; exact h3
theorem head_or (a k : Nat) (h : ∀ m : Fin k, bits .or .i64 (a : Int) ((m.val : Nat) : Int) % 256 = (a : Int) + ((m.val : Nat) : Int)) (x : Int) (h0 : 0 ≤ x) (hx : x < k) : bits .or .i64 (a : Int) x % 256 = (a : Int) + x := by
  have h3 := h ⟨x.toNat, by omega⟩
  have : ((x.toNat : Nat) : Int) = x := by omega
  simpa [this] using h3
theorem low_any (x : Int) (b : Nat) (w : World) (hc : w.cell? ⟨b, 0, none⟩ = some (.int .i64 x)) (hf : w.frozen? ⟨b, 0, none⟩ = false) (h0 : 0 ≤ x) (hn : x < 2097152) :
    Calls Tryd.prog 19 #[.pointer (some ⟨b, 0, none⟩)] w fun e w' => e = .returned (.int .u8 (128 + x % 64)) ∧ w.setCell ⟨b, 0, none⟩ (.int .i64 (x / 64)) = w' := by
  have hb := hid (low_bits x h0 hn)
  go_enter Tryd.func19, Tryd.ntmps19
  go_wp2_with fail
  go_ret
  exact ⟨congrArg (fun y => Ending.returned (Value.int .u8 y)) hb.out, rfl⟩

theorem z10 (X : Value) (Z : Array Value) : (#[X] ++ Z)[0]? = some X := by rw [Array.getElem?_append_left (by simp)]; rfl
theorem z20 (X Y : Value) (Z : Array Value) : (#[X, Y] ++ Z)[0]? = some X := by rw [Array.getElem?_append_left (by simp)]; rfl
theorem z21 (X Y : Value) (Z : Array Value) : (#[X, Y] ++ Z)[1]? = some Y := by rw [Array.getElem?_append_left (by simp)]; rfl
theorem y0 (X Y V : Value) (Z : Array Value) : (#[X] ++ (#[Y, V] ++ Z))[0]? = some X := by rw [Array.getElem?_append_left (by simp)]; rfl
theorem y1 (X Y V : Value) (Z : Array Value) : (#[X] ++ (#[Y, V] ++ Z))[1]? = some Y := by rw [Array.getElem?_append_right (by simp)]; exact z20 Y V Z
theorem y2 (X Y V : Value) (Z : Array Value) : (#[X] ++ (#[Y, V] ++ Z))[2]? = some V := by rw [Array.getElem?_append_right (by simp)]; exact z21 Y V Z
theorem x0 (X Y V U : Value) (Z : Array Value) : (#[X] ++ (#[Y, V, U] ++ Z))[0]? = some X := by rw [Array.getElem?_append_left (by simp)]; rfl
theorem x1 (X Y V U : Value) (Z : Array Value) : (#[X] ++ (#[Y, V, U] ++ Z))[1]? = some Y := by rw [Array.getElem?_append_right (by simp), Array.getElem?_append_left (by simp)]; rfl
theorem x2 (X Y V U : Value) (Z : Array Value) : (#[X] ++ (#[Y, V, U] ++ Z))[2]? = some V := by rw [Array.getElem?_append_right (by simp), Array.getElem?_append_left (by simp)]; rfl
theorem x3 (X Y V U : Value) (Z : Array Value) : (#[X] ++ (#[Y, V, U] ++ Z))[3]? = some U := by rw [Array.getElem?_append_right (by simp), Array.getElem?_append_left (by simp)]; rfl
attribute [local go_sem] z10 z20 z21 y0 y1 y2 x0 x1 x2 x3

set_option maxRecDepth 100000 in
set_option maxHeartbeats 4000000 in
theorem put_2 (n : Nat) (w : World) (h1 : decide ((n : Int) < 128) = false) (h2 : decide ((65536 : Int) ≤ (n : Int)) = false) (h3 : decide ((2048 : Int) ≤ (n : Int)) = false) (hn : n < 2048) (hr : rightB n = true) (L : List UInt8) (HC : Hid (L.map cellOf = [.int .u8 (192 + (n : Int) / 64), .int .u8 (128 + (n : Int) % 64)])) : Calls Tryd.prog 14 #[.int .i64 n] w (TextPost L w) := by
  have hor : bits .or .i64 192 ((n : Int) / 64) % 256 = 192 + (n : Int) / 64 := head_or 192 32 (by decide +kernel) _ (by omega) (by omega)
  go_enter Tryd.func14, Tryd.ntmps14
  go_wp2_with (go_at_call 18; refine (right_any _ _).mono ?_; rintro e w' ⟨rfl, rfl⟩)
  refine (low_any ((n : Int)) _ _ (by first | (simp; done) | (go_simp; done)) (by first | (simp; done) | (go_simp; done)) (by omega) (by omega)).mono ?_
  rintro e w' ⟨rfl, rfl⟩
  go_wp2_with (fail)
  rw [run_string_of_cells (P := Tryd.prog) Tryd.underlying26 Tryd.underlying5 Tryd.underlying9 _ 0 _ _ L (by have := congrArg List.length HC.out; simpa using this) (fun i hi => by
    rw [← getD_map_cell L i (by have := congrArg List.length HC.out; simp at this; omega), HC.out]
    rcases i with _ | _ | i
    all_goals first | (exfalso; omega) | go_simp)]
  go_wp2_with (fail)
  go_ret
  refine ⟨rfl, ?_⟩
  repeat (first | exact Below.refl _ _ | refine Below.drew ?_ | refine Below.alloc ?_ (by simp; try omega) _)

set_option maxRecDepth 100000 in
set_option maxHeartbeats 4000000 in
theorem put_3 (n : Nat) (w : World) (h1 : decide ((n : Int) < 128) = false) (h2 : decide ((65536 : Int) ≤ (n : Int)) = false) (h3 : decide ((2048 : Int) ≤ (n : Int)) = true) (hn : n < 65536) (hr : rightB n = true) (L : List UInt8) (HC : Hid (L.map cellOf = [.int .u8 (224 + (n : Int) / 64 / 64), .int .u8 (128 + (n : Int) / 64 % 64), .int .u8 (128 + (n : Int) % 64)])) : Calls Tryd.prog 14 #[.int .i64 n] w (TextPost L w) := by
  have hor : bits .or .i64 224 ((n : Int) / 64 / 64) % 256 = 224 + (n : Int) / 64 / 64 := head_or 224 16 (by decide +kernel) _ (by omega) (by omega)
  go_enter Tryd.func14, Tryd.ntmps14
  go_wp2_with (go_at_call 18; refine (right_any _ _).mono ?_; rintro e w' ⟨rfl, rfl⟩)
  refine (low_any ((n : Int)) _ _ (by first | (simp; done) | (go_simp; done)) (by first | (simp; done) | (go_simp; done)) (by omega) (by omega)).mono ?_
  rintro e w' ⟨rfl, rfl⟩
  go_wp2_with (fail)
  refine (low_any ((n : Int) / 64) _ _ (by first | (simp; done) | (go_simp; done)) (by first | (simp; done) | (go_simp; done)) (by omega) (by omega)).mono ?_
  rintro e w' ⟨rfl, rfl⟩
  go_wp2_with (fail)
  rw [run_string_of_cells (P := Tryd.prog) Tryd.underlying26 Tryd.underlying5 Tryd.underlying9 _ 0 _ _ L (by have := congrArg List.length HC.out; simpa using this) (fun i hi => by
    rw [← getD_map_cell L i (by have := congrArg List.length HC.out; simp at this; omega), HC.out]
    rcases i with _ | _ | _ | i
    all_goals first | (exfalso; omega) | go_simp)]
  go_wp2_with (fail)
  go_ret
  refine ⟨rfl, ?_⟩
  repeat (first | exact Below.refl _ _ | refine Below.drew ?_ | refine Below.alloc ?_ (by simp; try omega) _)

set_option maxRecDepth 100000 in
set_option maxHeartbeats 4000000 in
theorem put_4 (n : Nat) (w : World) (h1 : decide ((n : Int) < 128) = false) (h2 : decide ((65536 : Int) ≤ (n : Int)) = true) (hn : n ≤ 1114111) (hr : rightB n = true) (L : List UInt8) (HC : Hid (L.map cellOf = [.int .u8 (240 + (n : Int) / 64 / 64 / 64), .int .u8 (128 + (n : Int) / 64 / 64 % 64), .int .u8 (128 + (n : Int) / 64 % 64), .int .u8 (128 + (n : Int) % 64)])) : Calls Tryd.prog 14 #[.int .i64 n] w (TextPost L w) := by
  have hor : bits .or .i64 240 ((n : Int) / 64 / 64 / 64) % 256 = 240 + (n : Int) / 64 / 64 / 64 := head_or 240 8 (by decide +kernel) _ (by omega) (by omega)
  go_enter Tryd.func14, Tryd.ntmps14
  go_wp2_with (go_at_call 18; refine (right_any _ _).mono ?_; rintro e w' ⟨rfl, rfl⟩)
  refine (low_any ((n : Int)) _ _ (by first | (simp; done) | (go_simp; done)) (by first | (simp; done) | (go_simp; done)) (by omega) (by omega)).mono ?_
  rintro e w' ⟨rfl, rfl⟩
  go_wp2_with (fail)
  refine (low_any ((n : Int) / 64) _ _ (by first | (simp; done) | (go_simp; done)) (by first | (simp; done) | (go_simp; done)) (by omega) (by omega)).mono ?_
  rintro e w' ⟨rfl, rfl⟩
  go_wp2_with (fail)
  refine (low_any ((n : Int) / 64 / 64) _ _ (by first | (simp; done) | (go_simp; done)) (by first | (simp; done) | (go_simp; done)) (by omega) (by omega)).mono ?_
  rintro e w' ⟨rfl, rfl⟩
  go_wp2_with (fail)
  rw [run_string_of_cells (P := Tryd.prog) Tryd.underlying26 Tryd.underlying5 Tryd.underlying9 _ 0 _ _ L (by have := congrArg List.length HC.out; simpa using this) (fun i hi => by
    rw [← getD_map_cell L i (by have := congrArg List.length HC.out; simp at this; omega), HC.out]
    rcases i with _ | _ | _ | _ | i
    all_goals first | (exfalso; omega) | go_simp)]
  go_wp2_with (fail)
  go_ret
  refine ⟨rfl, ?_⟩
  repeat (first | exact Below.refl _ _ | refine Below.drew ?_ | refine Below.alloc ?_ (by simp; try omega) _)

set_option maxRecDepth 100000 in
set_option maxHeartbeats 4000000 in
theorem put_1 (n : Nat) (w : World) (h1 : decide ((n : Int) < 128) = true) (hn : n < 128) (hr : rightB n = true) (L : List UInt8) (hL : L = [by8 n]) : Calls Tryd.prog 14 #[.int .i64 n] w (TextPost L w) := by
  have hcv := run_string_of_new (P := Tryd.prog) (w := w) Tryd.underlying26 Tryd.underlying5 Tryd.underlying9 #[.int .u8 n] L (by
    rw [hL]
    simp only [List.map_cons, List.map_nil, cellOf]
    rw [by8_toNat _ (by omega)]; first | done | rfl | (simp; done) | (simp; omega)) 1 (by rw [hL]; rfl) 1
  have HCV := hid hcv
  clear hcv hL
  go_enter Tryd.func14, Tryd.ntmps14
  go_wp2_with (go_at_call 18; refine (right_any _ _).mono ?_; rintro e w' ⟨rfl, rfl⟩)
  rw [HCV.out]
  go_wp2_with (fail)
  go_ret
  exact ⟨rfl, (Below.refl _ _).alloc (Nat.le_refl _) _⟩
set_option maxRecDepth 100000 in
theorem put_no (n : Int) (w : World) (hr : rightB n = false) : Calls Tryd.prog 14 #[.int .i64 n] w (TextPost [] w) := by
  go_enter Tryd.func14, Tryd.ntmps14
  go_wp2_with (go_at_call 18; refine (right_any _ _).mono ?_; rintro e w' ⟨rfl, rfl⟩)
  go_ret
  exact ⟨rfl, Below.refl _ _⟩

/-- The code's Put gives the document's bytes. -/
theorem put_any (n : Int) (w : World) : Calls Tryd.prog 14 #[.int .i64 n] w (TextPost (putS n) w) := by
  by_cases hr : rightB n = true
  · have hb := (rightB_iff n).1 hr
    obtain ⟨m, rfl⟩ : ∃ m : Nat, n = m := ⟨n.toNat, by omega⟩
    have e : putS m = putN m := by unfold putS; rw [if_pos hr]; rfl
    rw [e]
    have d1 : m / 4096 = m / 64 / 64 := by omega
    have d2 : m / 262144 = m / 64 / 64 / 64 := by omega
    unfold putN
    by_cases h1 : m < 128
    · rw [if_pos h1]
      exact put_1 m w (decide_eq_true (by omega)) h1 hr _ rfl
    · rw [if_neg h1]
      by_cases h2 : m < 2048
      · rw [if_pos h2]
        refine put_2 m w (decide_eq_false (by omega)) (decide_eq_false (by omega)) (decide_eq_false (by omega)) h2 hr _ ?_
        apply hid
        simp only [List.map_cons, List.map_nil, cellOf]
        rw [by8_toNat _ (by omega), by8_toNat _ (by omega)]; first | done | rfl | (simp; done) | (simp; omega)
      · rw [if_neg h2]
        by_cases h3 : m < 65536
        · rw [if_pos h3, d1]
          refine put_3 m w (decide_eq_false (by omega)) (decide_eq_false (by omega)) (decide_eq_true (by omega)) h3 hr _ ?_
          apply hid
          simp only [List.map_cons, List.map_nil, cellOf]
          rw [by8_toNat _ (by omega), by8_toNat _ (by omega), by8_toNat _ (by omega)]; first | done | rfl | (simp; done) | (simp; omega)
        · rw [if_neg h3, d1, d2]
          refine put_4 m w (decide_eq_false (by omega)) (decide_eq_true (by omega)) (by omega) hr _ ?_
          apply hid
          simp only [List.map_cons, List.map_nil, cellOf]
          rw [by8_toNat _ (by omega), by8_toNat _ (by omega), by8_toNat _ (by omega), by8_toNat _ (by omega)]; first | done | rfl | (simp; done) | (simp; omega)
  · have hr' : rightB n = false := by simpa using hr
    have e : putS n = [] := by unfold putS; rw [if_neg hr]
    rw [e]; exact put_no n w hr'
end Go.Proofs.YtjbfkblobaikdaaDoor

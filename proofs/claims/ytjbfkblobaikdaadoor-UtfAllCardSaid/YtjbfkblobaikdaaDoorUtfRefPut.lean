/-
  The document's Put and Next by contract.
-/
import Derived.Test.YtjbfkblobaikdaaDoorUtfSpec
import Derived.Test.YtjbfkblobaikdaaDoorUtfNext
namespace Go.Proofs.YtjbfkblobaikdaaDoor
open Go.RowKit
set_option linter.unusedVariables false

set_option maxRecDepth 100000 in
set_option maxHeartbeats 1000000 in
theorem rput_1 (n : Nat) (w : World)  (hb : n < 128) : Calls Tryd.prog 15 #[.int .i64 n] w (TextPost (putS n) w) := by
  have hl : putS n = [by8 n] := by
    unfold putS putN; rw [if_pos ((rightB_iff _).2 (by omega)), Int.toNat_natCast]; rw [if_pos (by omega)]
  obtain ⟨L, hL⟩ : ∃ L, putS n = L := ⟨_, rfl⟩
  rw [hL] at hl ⊢
  have hcv := run_string_of_new (P := Tryd.prog) (w := w) Tryd.underlying26 Tryd.underlying5 Tryd.underlying9 #[.int .u8 n] L (by
    rw [hl]
    simp only [List.map_cons, List.map_nil, cellOf]
    rw [by8_toNat _ (by omega)]; first | done | rfl | (simp; done) | (simp; omega)) 1 (by rw [hl]; rfl) 1
  have tz : decide ((n : Int) < 0) = false := decide_eq_false (by omega)
  have t0 : decide ((1114111 : Int) < (n : Int)) = false := decide_eq_false (by omega)
  have t1 : decide ((55296 : Int) ≤ (n : Int)) = false := decide_eq_false (by omega)
  have t2 : decide ((n : Int) < 128) = true := decide_eq_true (by omega)
  clear hl hL 
  have HCV := hid hcv
  clear hcv
  go_enter Tryd.func15, Tryd.ntmps15
  go_wp2_with (fail)
  rw [HCV.out]
  go_wp2_with (fail)
  go_ret
  exact ⟨rfl, (Below.refl _ _).alloc (Nat.le_refl _) _⟩

set_option maxRecDepth 100000 in
set_option maxHeartbeats 1000000 in
theorem rput_2 (n : Nat) (w : World) (hl1 : 128 ≤ n) (hb : n < 2048) : Calls Tryd.prog 15 #[.int .i64 n] w (TextPost (putS n) w) := by
  have hl : putS n = [by8 (192 + n / 64), by8 (128 + n % 64)] := by
    unfold putS putN; rw [if_pos ((rightB_iff _).2 (by omega)), Int.toNat_natCast]; rw [if_neg (by omega)]; rw [if_pos (by omega)]
  obtain ⟨L, hL⟩ : ∃ L, putS n = L := ⟨_, rfl⟩
  rw [hL] at hl ⊢
  have hcv := run_string_of_new (P := Tryd.prog) (w := w) Tryd.underlying26 Tryd.underlying5 Tryd.underlying9 #[.int .u8 (192 + (n : Int) / 64), .int .u8 (128 + (n : Int) % 64)] L (by
    rw [hl]
    simp only [List.map_cons, List.map_nil, cellOf]
    rw [by8_toNat _ (by omega)]; rw [by8_toNat _ (by omega)]; first | done | rfl | (simp; done) | (simp; omega)) 2 (by rw [hl]; rfl) 2
  have tz : decide ((n : Int) < 0) = false := decide_eq_false (by omega)
  have t0 : decide ((1114111 : Int) < (n : Int)) = false := decide_eq_false (by omega)
  have t1 : decide ((55296 : Int) ≤ (n : Int)) = false := decide_eq_false (by omega)
  have t2 : decide ((n : Int) < 128) = false := decide_eq_false (by omega)
  have t3 : decide ((n : Int) < 2048) = true := decide_eq_true (by omega)
  clear hl hL hl1
  have HCV := hid hcv
  clear hcv
  go_enter Tryd.func15, Tryd.ntmps15
  go_wp2_with (fail)
  rw [HCV.out]
  go_wp2_with (fail)
  go_ret
  exact ⟨rfl, (Below.refl _ _).alloc (Nat.le_refl _) _⟩

set_option maxRecDepth 100000 in
set_option maxHeartbeats 1000000 in
theorem rput_3a (n : Nat) (w : World) (hl1 : 2048 ≤ n) (hl2 : n < 55296) (hb : n < 65536) : Calls Tryd.prog 15 #[.int .i64 n] w (TextPost (putS n) w) := by
  have hl : putS n = [by8 (224 + n / 4096), by8 (128 + n / 64 % 64), by8 (128 + n % 64)] := by
    unfold putS putN; rw [if_pos ((rightB_iff _).2 (by omega)), Int.toNat_natCast]; rw [if_neg (by omega)]; rw [if_neg (by omega)]; rw [if_pos (by omega)]
  obtain ⟨L, hL⟩ : ∃ L, putS n = L := ⟨_, rfl⟩
  rw [hL] at hl ⊢
  have hcv := run_string_of_new (P := Tryd.prog) (w := w) Tryd.underlying26 Tryd.underlying5 Tryd.underlying9 #[.int .u8 (224 + (n : Int) / 4096), .int .u8 (128 + (n : Int) / 64 % 64), .int .u8 (128 + (n : Int) % 64)] L (by
    rw [hl]
    simp only [List.map_cons, List.map_nil, cellOf]
    rw [by8_toNat _ (by omega)]; rw [by8_toNat _ (by omega)]; rw [by8_toNat _ (by omega)]; first | done | rfl | (simp; done) | (simp; omega)) 3 (by rw [hl]; rfl) 3
  have tz : decide ((n : Int) < 0) = false := decide_eq_false (by omega)
  have t0 : decide ((1114111 : Int) < (n : Int)) = false := decide_eq_false (by omega)
  have t1 : decide ((55296 : Int) ≤ (n : Int)) = false := decide_eq_false (by omega)
  have t2 : decide ((n : Int) < 128) = false := decide_eq_false (by omega)
  have t3 : decide ((n : Int) < 2048) = false := decide_eq_false (by omega)
  have t4 : decide ((n : Int) < 65536) = true := decide_eq_true (by omega)
  clear hl hL hl1 hl2
  have HCV := hid hcv
  clear hcv
  go_enter Tryd.func15, Tryd.ntmps15
  go_wp2_with (fail)
  rw [HCV.out]
  go_wp2_with (fail)
  go_ret
  exact ⟨rfl, (Below.refl _ _).alloc (Nat.le_refl _) _⟩

set_option maxRecDepth 100000 in
set_option maxHeartbeats 1000000 in
theorem rput_3b (n : Nat) (w : World) (hl1 : 2048 ≤ n) (hl2 : 57343 < n) (hb : n < 65536) : Calls Tryd.prog 15 #[.int .i64 n] w (TextPost (putS n) w) := by
  have hl : putS n = [by8 (224 + n / 4096), by8 (128 + n / 64 % 64), by8 (128 + n % 64)] := by
    unfold putS putN; rw [if_pos ((rightB_iff _).2 (by omega)), Int.toNat_natCast]; rw [if_neg (by omega)]; rw [if_neg (by omega)]; rw [if_pos (by omega)]
  obtain ⟨L, hL⟩ : ∃ L, putS n = L := ⟨_, rfl⟩
  rw [hL] at hl ⊢
  have hcv := run_string_of_new (P := Tryd.prog) (w := w) Tryd.underlying26 Tryd.underlying5 Tryd.underlying9 #[.int .u8 (224 + (n : Int) / 4096), .int .u8 (128 + (n : Int) / 64 % 64), .int .u8 (128 + (n : Int) % 64)] L (by
    rw [hl]
    simp only [List.map_cons, List.map_nil, cellOf]
    rw [by8_toNat _ (by omega)]; rw [by8_toNat _ (by omega)]; rw [by8_toNat _ (by omega)]; first | done | rfl | (simp; done) | (simp; omega)) 3 (by rw [hl]; rfl) 3
  have tz : decide ((n : Int) < 0) = false := decide_eq_false (by omega)
  have t0 : decide ((1114111 : Int) < (n : Int)) = false := decide_eq_false (by omega)
  have t1 : decide ((55296 : Int) ≤ (n : Int)) = true := decide_eq_true (by omega)
  have t2 : decide ((n : Int) ≤ 57343) = false := decide_eq_false (by omega)
  have t3 : decide ((n : Int) < 128) = false := decide_eq_false (by omega)
  have t4 : decide ((n : Int) < 2048) = false := decide_eq_false (by omega)
  have t5 : decide ((n : Int) < 65536) = true := decide_eq_true (by omega)
  clear hl hL hl1 hl2
  have HCV := hid hcv
  clear hcv
  go_enter Tryd.func15, Tryd.ntmps15
  go_wp2_with (fail)
  rw [HCV.out]
  go_wp2_with (fail)
  go_ret
  exact ⟨rfl, (Below.refl _ _).alloc (Nat.le_refl _) _⟩

set_option maxRecDepth 100000 in
set_option maxHeartbeats 1000000 in
theorem rput_4 (n : Nat) (w : World) (hl1 : 65536 ≤ n) (hb : n ≤ 1114111) : Calls Tryd.prog 15 #[.int .i64 n] w (TextPost (putS n) w) := by
  have hl : putS n = [by8 (240 + n / 262144), by8 (128 + n / 4096 % 64), by8 (128 + n / 64 % 64), by8 (128 + n % 64)] := by
    unfold putS putN; rw [if_pos ((rightB_iff _).2 (by omega)), Int.toNat_natCast]; rw [if_neg (by omega)]; rw [if_neg (by omega)]; rw [if_neg (by omega)]
  obtain ⟨L, hL⟩ : ∃ L, putS n = L := ⟨_, rfl⟩
  rw [hL] at hl ⊢
  have hcv := run_string_of_new (P := Tryd.prog) (w := w) Tryd.underlying26 Tryd.underlying5 Tryd.underlying9 #[.int .u8 (240 + (n : Int) / 262144), .int .u8 (128 + (n : Int) / 4096 % 64), .int .u8 (128 + (n : Int) / 64 % 64), .int .u8 (128 + (n : Int) % 64)] L (by
    rw [hl]
    simp only [List.map_cons, List.map_nil, cellOf]
    rw [by8_toNat _ (by omega)]; rw [by8_toNat _ (by omega)]; rw [by8_toNat _ (by omega)]; rw [by8_toNat _ (by omega)]; first | done | rfl | (simp; done) | (simp; omega)) 4 (by rw [hl]; rfl) 4
  have tz : decide ((n : Int) < 0) = false := decide_eq_false (by omega)
  have t0 : decide ((1114111 : Int) < (n : Int)) = false := decide_eq_false (by omega)
  have t1 : decide ((55296 : Int) ≤ (n : Int)) = true := decide_eq_true (by omega)
  have t2 : decide ((n : Int) ≤ 57343) = false := decide_eq_false (by omega)
  have t3 : decide ((n : Int) < 128) = false := decide_eq_false (by omega)
  have t4 : decide ((n : Int) < 2048) = false := decide_eq_false (by omega)
  have t5 : decide ((n : Int) < 65536) = false := decide_eq_false (by omega)
  clear hl hL hl1
  have HCV := hid hcv
  clear hcv
  go_enter Tryd.func15, Tryd.ntmps15
  go_wp2_with (fail)
  rw [HCV.out]
  go_wp2_with (fail)
  go_ret
  exact ⟨rfl, (Below.refl _ _).alloc (Nat.le_refl _) _⟩

set_option maxRecDepth 100000 in
set_option maxHeartbeats 1000000 in
theorem rput_no (n : Int) (w : World) (h : rightB n = false) : Calls Tryd.prog 15 #[.int .i64 n] w (TextPost (putS n) w) := by
  have hl : putS n = [] := by unfold putS; rw [if_neg (by rw [h]; simp)]
  rw [hl]
  have hn := (rightB_no n).1 h
  by_cases h1 : n < 0
  · clear h hn hl
    go_enter Tryd.func15, Tryd.ntmps15
    go_wp2_with (fail)
    go_ret
    exact ⟨rfl, Below.refl _ _⟩
  · have t0 : decide (n < 0) = false := decide_eq_false h1
    by_cases h2 : 1114111 < n
    · have t1 : decide (1114111 < n) = true := decide_eq_true h2
      clear h hn hl h1 h2
      go_enter Tryd.func15, Tryd.ntmps15
      go_wp2_with (fail)
      go_ret
      exact ⟨rfl, Below.refl _ _⟩
    · have t1 : decide (1114111 < n) = false := decide_eq_false h2
      have t2 : decide (55296 ≤ n) = true := decide_eq_true (by omega)
      have t3 : decide (n ≤ 57343) = true := decide_eq_true (by omega)
      clear h hn hl h1 h2
      go_enter Tryd.func15, Tryd.ntmps15
      go_wp2_with (fail)
      go_ret
      exact ⟨rfl, Below.refl _ _⟩

theorem rput_any (n : Int) (w : World) : Calls Tryd.prog 15 #[.int .i64 n] w (TextPost (putS n) w) := by
  cases hr : rightB n with
  | false => exact rput_no n w hr
  | true =>
    have h := (rightB_iff n).1 hr
    obtain ⟨m, rfl⟩ := Int.eq_ofNat_of_zero_le h.1
    by_cases h1 : m < 128
    · exact rput_1 m w h1
    by_cases h2 : m < 2048
    · exact rput_2 m w (by omega) h2
    by_cases h3 : m < 65536
    · by_cases h4 : m < 55296
      · exact rput_3a m w (by omega) h4 h3
      · exact rput_3b m w (by omega) (by omega) h3
    · exact rput_4 m w (by omega) (by omega)
end Go.Proofs.YtjbfkblobaikdaaDoor

/-
  utf.right and utf.Next by contract: the letter at the beginning of bytes that lie in memory.
-/
import Derived.Test.YtjbfkblobaikdaaDoorUtfPure
import Derived.Test.YtjbfkblobaikdaaDoorProg
namespace Go.Proofs.YtjbfkblobaikdaaDoor
open Go.RowKit
set_option linter.unusedVariables false

/-- The table of the least letters, as it is laid. -/
def LeastAt (w : World) : Prop := w.cell? ⟨0, 2, none⟩ = some (.int .i64 128) ∧ w.cell? ⟨0, 3, none⟩ = some (.int .i64 2048) ∧ w.cell? ⟨0, 4, none⟩ = some (.int .i64 65536)
/-- A slice that reads as bytes. -/
def BytesAt (w : World) (a : Option Addr) (len cap : Nat) (l : List UInt8) : Prop :=
  len = l.length ∧ len ≤ cap ∧ (l = [] ∨ ∃ b o, a = some ⟨b, o, none⟩ ∧ ∀ i, i < l.length → w.cell? ⟨b, o + i, none⟩ = some (cellOf (l.getD i 0)))
theorem rightB_false (n : Int) (h : ¬ (0 ≤ n ∧ n ≤ 1114111 ∧ (n < 55296 ∨ 57343 < n))) : rightB n = false := by rw [← Bool.not_eq_true, rightB_iff]; exact h

def RBPost (b : Bool) (w : World) (e : Ending) (w' : World) : Prop := e = .returned (.bool b) ∧ w = w'
theorem RBPost.mk {b c : Bool} {w : World} (h : b = c) : RBPost b w (.returned (.bool c)) w := ⟨by rw [h], rfl⟩

set_option maxHeartbeats 1000000 in
theorem right_any (n : Int) (w : World) : Calls Tryd.prog 18 #[.int .i64 n] w (RBPost (rightB n) w) := by
  obtain ⟨b, hb⟩ : ∃ b, rightB n = b := ⟨_, rfl⟩
  rw [hb]
  have HB := hid hb
  clear hb
  go_enter Tryd.func18, Tryd.ntmps18
  go_wp2_with (fail)
  all_goals
    go_ret
    refine RBPost.mk ?_
    rw [← HB.out]
    first
    | (rw [Bool.eq_iff_iff, rightB_iff]; simp; omega)
    | (apply rightB_false; omega)

/-- What Next's call comes to. -/
def NextPost (l : List UInt8) (w : World) (e : Ending) (w' : World) : Prop := e = .returned (.tuple #[.int .i64 (nextS l).1, .int .i64 (nextS l).2]) ∧ w = w'
theorem NextPost.mk {l : List UInt8} {w : World} {x n : Int} (h : nextS l = (x, n)) : NextPost l w (.returned (.tuple #[.int .i64 x, .int .i64 n])) w := ⟨by rw [h], rfl⟩

set_option maxHeartbeats 1000000 in
theorem next_nil (a : Option Addr) (len cap : Nat) (w : World) (h : len = 0) : Calls Tryd.prog 12 #[.slice a len cap] w (NextPost [] w) := by
  subst h
  go_enter Tryd.func12, Tryd.ntmps12
  go_wp2_with (fail)
  go_ret2
  exact NextPost.mk rfl

set_option maxRecDepth 100000 in
set_option maxHeartbeats 1000000 in
theorem next_short (b o len cap : Nat) (c : UInt8) (r : List UInt8) (w : World) (hlen : 0 < len) (h0 : w.cell? ⟨b, o, none⟩ = some (.int .u8 (c.toNat : Int))) (hr : len = r.length + 1)
    (hc : c.toNat < 128 ∨ (128 ≤ c.toNat ∧ (sizeB c = 0 ∨ r.length + 1 < sizeB c))) : Calls Tryd.prog 12 #[.slice (some ⟨b, o, none⟩) len cap] w (NextPost (c :: r) w) := by
  have h00 : ((len : Int) == 0) = false := by simp; omega
  have h0i : (0 : Int) < (len : Int) := by omega
  rcases hc with hc | ⟨hc, hs⟩
  · have HF : Hid (nextS (c :: r) = ((c.toNat : Int), 1)) := by rw [nextS_cons, if_pos hc]; rfl
    go_enter Tryd.func12, Tryd.ntmps12
    go_wp2_with (fail)
    go_ret2
    exact NextPost.mk HF.out
  · have HF : Hid (nextS (c :: r) = (-1, 1)) := by rw [nextS_cons, if_neg (by omega), if_pos hs]; rfl
    have h31 := and31 c
    have h15 := and15 c
    have h7 := and7 c
    have HR := hid hr
    clear hr
    unfold sizeB at hs
    by_cases c1 : 192 ≤ c.toNat ∧ c.toNat < 224
    · rw [if_pos c1] at hs
      have hl2 : (len : Int) < 2 := by have := HR.out; omega
      obtain ⟨c2, c3⟩ := c1
      clear hs
      go_enter Tryd.func12, Tryd.ntmps12
      go_wp2_with (fail)
      go_ret2
      exact NextPost.mk HF.out
    · rw [if_neg c1] at hs
      by_cases c2 : 224 ≤ c.toNat ∧ c.toNat < 240
      · rw [if_pos c2] at hs
        have hl2 : (len : Int) < 3 := by have := HR.out; omega
        obtain ⟨c2, c3⟩ := c2
        clear hs c1
        go_enter Tryd.func12, Tryd.ntmps12
        go_wp2_with (fail)
        go_ret2
        exact NextPost.mk HF.out
      · rw [if_neg c2] at hs
        by_cases c3 : 240 ≤ c.toNat ∧ c.toNat < 248
        · rw [if_pos c3] at hs
          have hl2 : (len : Int) < 4 := by have := HR.out; omega
          obtain ⟨c4, c5⟩ := c3
          clear hs c1 c2
          go_enter Tryd.func12, Tryd.ntmps12
          go_wp2_with (fail)
          go_ret2
          exact NextPost.mk HF.out
        · have hlt := c.toNat_lt
          clear hs
          by_cases c4 : c.toNat < 192
          · clear c1 c2 c3
            go_enter Tryd.func12, Tryd.ntmps12
            go_wp2_with (fail)
            go_ret2
            exact NextPost.mk HF.out
          · have c5 : 248 ≤ c.toNat := by omega
            clear c1 c2 c3 c4
            go_enter Tryd.func12, Tryd.ntmps12
            go_wp2_with (fail)
            go_ret2
            exact NextPost.mk HF.out

/-- The loop's relation: k bytes go on, and the letter so far. -/
def NextRel (c : UInt8) (r : List UInt8) (sz : Nat) (v s i : Value) : Prop := ∃ k x : Nat, k + 1 ≤ sz ∧ s = .int .i64 sz ∧ i = .int .i64 k ∧ v = .int .i64 (x : Int) ∧ x = accB (headB c) (r.take k) ∧ x < 2 ^ (5 + 6 * k) ∧ ∀ j, j < k → cont (r.getD j 0) = true
theorem least_2 : leastB 2 = 128 := rfl
theorem least_3 : leastB 3 = 2048 := rfl
theorem least_4 : leastB 4 = 65536 := by unfold leastB; rw [if_neg (by omega), if_neg (by omega), if_pos rfl]
theorem headB_lt (c : UInt8) : headB c < 2 ^ 5 := by unfold headB; split <;> (try split) <;> omega
theorem cont_step (c : UInt8) (r : List UInt8) (k x : Nat) (hk : k < r.length) (hx : x = accB (headB c) (r.take k)) : x * 64 + (r.getD k 0).toNat % 64 = accB (headB c) (r.take (k + 1)) := by
  rw [accB_snoc _ _ _ hk, hx]
theorem all_no (r : List UInt8) (n k : Nat) (hk : k < n) (hn : n ≤ r.length) (h : cont (r.getD k 0) = false) : (r.take n).all cont = false := by
  rw [← Bool.not_eq_true, List.all_eq_true]
  intro hall
  have := hall (r.getD k 0) (by
    rw [List.mem_take_iff_getElem]
    exact ⟨k, by omega, by rw [List.getD_eq_getElem?_getD, List.getElem?_eq_getElem (by omega)]; rfl⟩)
  rw [h] at this; cases this
theorem all_yes (r : List UInt8) (n : Nat) (hn : n ≤ r.length) (h : ∀ j, j < n → cont (r.getD j 0) = true) : (r.take n).all cont = true := by
  rw [List.all_eq_true]
  intro x hx
  obtain ⟨k, hk, rfl⟩ := List.mem_take_iff_getElem.1 hx
  have := h k (by omega)
  rwa [List.getD_eq_getElem?_getD, List.getElem?_eq_getElem (by omega)] at this

set_option maxRecDepth 100000 in
set_option maxHeartbeats 4000000 in
theorem next_2 (b o len cap : Nat) (c : UInt8) (r : List UInt8) (w : World) (hL : LeastAt w) (h0 : w.cell? ⟨b, o, none⟩ = some (.int .u8 (c.toNat : Int))) (hr : len = r.length + 1) (hcap : len ≤ cap)
    (hcell : ∀ i, i < r.length → w.cell? ⟨b, o + 1 + i, none⟩ = some (cellOf (r.getD i 0))) (c1 : 192 ≤ c.toNat) (c2 : c.toNat < 224) (hlen : 2 ≤ len) :
    Calls Tryd.prog 12 #[.slice (some ⟨b, o, none⟩) len cap] w (NextPost (c :: r) w) := by
  have hleast := hL.1
  have h00 : ((len : Int) == 0) = false := by simp; omega
  have h0i : (0 : Int) < (len : Int) := by omega
  have hli : (2 : Int) ≤ (len : Int) := by omega
  have hcapi : 2 ≤ cap := by omega
  have hmask := and31 c
  have hhead : Hid (headB c = c.toNat % 32) := by unfold headB; rw [if_pos (by omega)]; rfl
  have hsz : sizeB c = 2 := by unfold sizeB; rw [if_pos ⟨c1, c2⟩]
  have hN : Hid (nextS (c :: r) = restS c r) := by rw [nextS_cons, if_neg (by omega), if_neg (by omega)]; rfl
  have HSZ := hid hsz
  have HL := hid hL
  have HC := hid hcell
  have HR := hid hr
  clear hsz hL hcell hr
  go_enter Tryd.func12, Tryd.ntmps12
  go_wp2_with (fail)
  go_loop [2, 3, 57] (fun v s i => NextRel c r 2 v s i) (fun _ _ i => 2 - (intOf i).toNat)
  case atStart => exact ⟨0, c.toNat % 32, by omega, rfl, rfl, by first | rfl | (congr 1; omega), by rw [hhead.out]; rfl, by have := headB_lt c; rw [hhead.out] at this; omega, fun j hj => absurd hj (Nat.not_lt_zero j)⟩
  case round =>
    obtain ⟨k, x, hk, rfl, rfl, rfl, hx, hxl, hall⟩ := hrel
    have hx40 : x < 1099511627776 := by
      have : (2 : Nat) ^ (5 + 6 * k) ≤ 2 ^ 40 := Nat.pow_le_pow_right (by omega) (by omega)
      omega
    have HX := hid hx
    have HA := hid hall
    have HXL := hid hxl
    clear hx hall hxl
    by_cases hlt : k < 1
    · have hkr : k < r.length := by have := HR.out; omega
      have hck := HC.out k hkr
      rw [cellOf_def] at hck
      obtain ⟨y, hy⟩ : ∃ y, r.getD k 0 = y := ⟨_, rfl⟩
      rw [hy] at hck
      have HY := hid hy
      have h63 := and63 y
      have hcb := cont_bits y
      have hor := or64 x y.toNat hx40
      have hlti : (k : Int) < 1 := by omega
      have HK := hid hkr
      clear hy hkr
      cases hct : cont y with
      | false =>
        rw [hct] at hcb
        have HF : Hid (restS c r = (-1, 1)) := by
          have := all_no r 1 k hlt (by have := HR.out; omega) (by rw [HY.out]; exact hct)
          unfold restS; rw [HSZ.out]; rw [if_pos this]; rfl
        clear hct
        go_wp2_with (fail)
        go_ret2
        exact NextPost.mk (by rw [hN.out, HF.out])
      | true =>
        rw [hct] at hcb
        have HCT := hid hct
        clear hct
        go_wp2_with (fail)
        refine ⟨⟨k + 1, x * 64 + y.toNat % 64, by omega, rfl, by go_num, by first | rfl | (congr 1; omega), ?_, ?_, fun j hj => ?_⟩, by simp [intOf]; omega⟩
        · rw [← HY.out]; exact cont_step c r k x HK.out HX.out
        · have h1 := HXL.out
          rw [show 5 + 6 * (k + 1) = 5 + 6 * k + 6 by omega, Nat.pow_add]; omega
        · by_cases e : j = k
          · subst e; rw [HY.out]; exact HCT.out
          · exact HA.out j (by omega)
    · have hke : k = 1 := by omega
      subst hke
      have hall := all_yes r 1 (by have := HR.out; omega) HA.out
      have HALL := hid hall
      clear hall hlt
      by_cases hmin : x < 128
      · have HF : Hid (restS c r = (-1, 1)) := by
          unfold restS; rw [HSZ.out, if_neg (by rw [HALL.out]; simp), ← HX.out, if_pos (.inl (by rw [least_2]; exact hmin))]; rfl
        go_wp2_with (go_at_call 18; refine (right_any _ _).mono ?_; rintro e w' ⟨rfl, rfl⟩)
        go_ret2
        exact NextPost.mk (by rw [hN.out, HF.out])
      · have hbm : decide ((x : Int) < 128) = false := decide_eq_false (by omega)
        have HMIN := hid hmin
        clear hmin
        cases hrt : rightB (x : Int) with
        | false =>
          have HF : Hid (restS c r = (-1, 1)) := by
            unfold restS; rw [HSZ.out, if_neg (by rw [HALL.out]; simp), ← HX.out, if_pos (.inr hrt)]; rfl
          go_wp2_with (go_at_call 18; refine (right_any _ _).mono ?_; rintro e w' ⟨rfl, rfl⟩)
          go_ret2
          exact NextPost.mk (by rw [hN.out, HF.out])
        | true =>
          have HF : Hid (restS c r = ((x : Int), 2)) := by
            unfold restS; rw [HSZ.out, if_neg (by rw [HALL.out]; simp), ← HX.out, if_neg (by rw [hrt, least_2]; simp only [Bool.true_eq_false, or_false]; exact HMIN.out)]; rfl
          go_wp2_with (go_at_call 18; refine (right_any _ _).mono ?_; rintro e w' ⟨rfl, rfl⟩)
          go_ret2
          exact NextPost.mk (by rw [hN.out, HF.out])

set_option maxRecDepth 100000 in
set_option maxHeartbeats 4000000 in
theorem next_3 (b o len cap : Nat) (c : UInt8) (r : List UInt8) (w : World) (hL : LeastAt w) (h0 : w.cell? ⟨b, o, none⟩ = some (.int .u8 (c.toNat : Int))) (hr : len = r.length + 1) (hcap : len ≤ cap)
    (hcell : ∀ i, i < r.length → w.cell? ⟨b, o + 1 + i, none⟩ = some (cellOf (r.getD i 0))) (c1 : 224 ≤ c.toNat) (c2 : c.toNat < 240) (hlen : 3 ≤ len) :
    Calls Tryd.prog 12 #[.slice (some ⟨b, o, none⟩) len cap] w (NextPost (c :: r) w) := by
  have hleast := hL.2.1
  have h00 : ((len : Int) == 0) = false := by simp; omega
  have h0i : (0 : Int) < (len : Int) := by omega
  have hli : (3 : Int) ≤ (len : Int) := by omega
  have hcapi : 3 ≤ cap := by omega
  have hmask := and15 c
  have hhead : Hid (headB c = c.toNat % 16) := by unfold headB; rw [if_neg (by omega), if_pos (by omega)]; rfl
  have hsz : sizeB c = 3 := by unfold sizeB; rw [if_neg (by omega), if_pos ⟨c1, c2⟩]
  have hN : Hid (nextS (c :: r) = restS c r) := by rw [nextS_cons, if_neg (by omega), if_neg (by omega)]; rfl
  have HSZ := hid hsz
  have HL := hid hL
  have HC := hid hcell
  have HR := hid hr
  clear hsz hL hcell hr
  go_enter Tryd.func12, Tryd.ntmps12
  go_wp2_with (fail)
  go_loop [2, 3, 57] (fun v s i => NextRel c r 3 v s i) (fun _ _ i => 3 - (intOf i).toNat)
  case atStart => exact ⟨0, c.toNat % 16, by omega, rfl, rfl, by first | rfl | (congr 1; omega), by rw [hhead.out]; rfl, by have := headB_lt c; rw [hhead.out] at this; omega, fun j hj => absurd hj (Nat.not_lt_zero j)⟩
  case round =>
    obtain ⟨k, x, hk, rfl, rfl, rfl, hx, hxl, hall⟩ := hrel
    have hx40 : x < 1099511627776 := by
      have : (2 : Nat) ^ (5 + 6 * k) ≤ 2 ^ 40 := Nat.pow_le_pow_right (by omega) (by omega)
      omega
    have HX := hid hx
    have HA := hid hall
    have HXL := hid hxl
    clear hx hall hxl
    by_cases hlt : k < 2
    · have hkr : k < r.length := by have := HR.out; omega
      have hck := HC.out k hkr
      rw [cellOf_def] at hck
      obtain ⟨y, hy⟩ : ∃ y, r.getD k 0 = y := ⟨_, rfl⟩
      rw [hy] at hck
      have HY := hid hy
      have h63 := and63 y
      have hcb := cont_bits y
      have hor := or64 x y.toNat hx40
      have hlti : (k : Int) < 2 := by omega
      have HK := hid hkr
      clear hy hkr
      cases hct : cont y with
      | false =>
        rw [hct] at hcb
        have HF : Hid (restS c r = (-1, 1)) := by
          have := all_no r 2 k hlt (by have := HR.out; omega) (by rw [HY.out]; exact hct)
          unfold restS; rw [HSZ.out]; rw [if_pos this]; rfl
        clear hct
        go_wp2_with (fail)
        go_ret2
        exact NextPost.mk (by rw [hN.out, HF.out])
      | true =>
        rw [hct] at hcb
        have HCT := hid hct
        clear hct
        go_wp2_with (fail)
        refine ⟨⟨k + 1, x * 64 + y.toNat % 64, by omega, rfl, by go_num, by first | rfl | (congr 1; omega), ?_, ?_, fun j hj => ?_⟩, by simp [intOf]; omega⟩
        · rw [← HY.out]; exact cont_step c r k x HK.out HX.out
        · have h1 := HXL.out
          rw [show 5 + 6 * (k + 1) = 5 + 6 * k + 6 by omega, Nat.pow_add]; omega
        · by_cases e : j = k
          · subst e; rw [HY.out]; exact HCT.out
          · exact HA.out j (by omega)
    · have hke : k = 2 := by omega
      subst hke
      have hall := all_yes r 2 (by have := HR.out; omega) HA.out
      have HALL := hid hall
      clear hall hlt
      by_cases hmin : x < 2048
      · have HF : Hid (restS c r = (-1, 1)) := by
          unfold restS; rw [HSZ.out, if_neg (by rw [HALL.out]; simp), ← HX.out, if_pos (.inl (by rw [least_3]; exact hmin))]; rfl
        go_wp2_with (go_at_call 18; refine (right_any _ _).mono ?_; rintro e w' ⟨rfl, rfl⟩)
        go_ret2
        exact NextPost.mk (by rw [hN.out, HF.out])
      · have hbm : decide ((x : Int) < 2048) = false := decide_eq_false (by omega)
        have HMIN := hid hmin
        clear hmin
        cases hrt : rightB (x : Int) with
        | false =>
          have HF : Hid (restS c r = (-1, 1)) := by
            unfold restS; rw [HSZ.out, if_neg (by rw [HALL.out]; simp), ← HX.out, if_pos (.inr hrt)]; rfl
          go_wp2_with (go_at_call 18; refine (right_any _ _).mono ?_; rintro e w' ⟨rfl, rfl⟩)
          go_ret2
          exact NextPost.mk (by rw [hN.out, HF.out])
        | true =>
          have HF : Hid (restS c r = ((x : Int), 3)) := by
            unfold restS; rw [HSZ.out, if_neg (by rw [HALL.out]; simp), ← HX.out, if_neg (by rw [hrt, least_3]; simp only [Bool.true_eq_false, or_false]; exact HMIN.out)]; rfl
          go_wp2_with (go_at_call 18; refine (right_any _ _).mono ?_; rintro e w' ⟨rfl, rfl⟩)
          go_ret2
          exact NextPost.mk (by rw [hN.out, HF.out])

set_option maxRecDepth 100000 in
set_option maxHeartbeats 4000000 in
theorem next_4 (b o len cap : Nat) (c : UInt8) (r : List UInt8) (w : World) (hL : LeastAt w) (h0 : w.cell? ⟨b, o, none⟩ = some (.int .u8 (c.toNat : Int))) (hr : len = r.length + 1) (hcap : len ≤ cap)
    (hcell : ∀ i, i < r.length → w.cell? ⟨b, o + 1 + i, none⟩ = some (cellOf (r.getD i 0))) (c1 : 240 ≤ c.toNat) (c2 : c.toNat < 248) (hlen : 4 ≤ len) :
    Calls Tryd.prog 12 #[.slice (some ⟨b, o, none⟩) len cap] w (NextPost (c :: r) w) := by
  have hleast := hL.2.2
  have h00 : ((len : Int) == 0) = false := by simp; omega
  have h0i : (0 : Int) < (len : Int) := by omega
  have hli : (4 : Int) ≤ (len : Int) := by omega
  have hcapi : 4 ≤ cap := by omega
  have hmask := and7 c
  have hhead : Hid (headB c = c.toNat % 8) := by unfold headB; rw [if_neg (by omega), if_neg (by omega)]; rfl
  have hsz : sizeB c = 4 := by unfold sizeB; rw [if_neg (by omega), if_neg (by omega), if_pos ⟨c1, c2⟩]
  have hN : Hid (nextS (c :: r) = restS c r) := by rw [nextS_cons, if_neg (by omega), if_neg (by omega)]; rfl
  have HSZ := hid hsz
  have HL := hid hL
  have HC := hid hcell
  have HR := hid hr
  clear hsz hL hcell hr
  go_enter Tryd.func12, Tryd.ntmps12
  go_wp2_with (fail)
  go_loop [2, 3, 57] (fun v s i => NextRel c r 4 v s i) (fun _ _ i => 4 - (intOf i).toNat)
  case atStart => exact ⟨0, c.toNat % 8, by omega, rfl, rfl, by first | rfl | (congr 1; omega), by rw [hhead.out]; rfl, by have := headB_lt c; rw [hhead.out] at this; omega, fun j hj => absurd hj (Nat.not_lt_zero j)⟩
  case round =>
    obtain ⟨k, x, hk, rfl, rfl, rfl, hx, hxl, hall⟩ := hrel
    have hx40 : x < 1099511627776 := by
      have : (2 : Nat) ^ (5 + 6 * k) ≤ 2 ^ 40 := Nat.pow_le_pow_right (by omega) (by omega)
      omega
    have HX := hid hx
    have HA := hid hall
    have HXL := hid hxl
    clear hx hall hxl
    by_cases hlt : k < 3
    · have hkr : k < r.length := by have := HR.out; omega
      have hck := HC.out k hkr
      rw [cellOf_def] at hck
      obtain ⟨y, hy⟩ : ∃ y, r.getD k 0 = y := ⟨_, rfl⟩
      rw [hy] at hck
      have HY := hid hy
      have h63 := and63 y
      have hcb := cont_bits y
      have hor := or64 x y.toNat hx40
      have hlti : (k : Int) < 3 := by omega
      have HK := hid hkr
      clear hy hkr
      cases hct : cont y with
      | false =>
        rw [hct] at hcb
        have HF : Hid (restS c r = (-1, 1)) := by
          have := all_no r 3 k hlt (by have := HR.out; omega) (by rw [HY.out]; exact hct)
          unfold restS; rw [HSZ.out]; rw [if_pos this]; rfl
        clear hct
        go_wp2_with (fail)
        go_ret2
        exact NextPost.mk (by rw [hN.out, HF.out])
      | true =>
        rw [hct] at hcb
        have HCT := hid hct
        clear hct
        go_wp2_with (fail)
        refine ⟨⟨k + 1, x * 64 + y.toNat % 64, by omega, rfl, by go_num, by first | rfl | (congr 1; omega), ?_, ?_, fun j hj => ?_⟩, by simp [intOf]; omega⟩
        · rw [← HY.out]; exact cont_step c r k x HK.out HX.out
        · have h1 := HXL.out
          rw [show 5 + 6 * (k + 1) = 5 + 6 * k + 6 by omega, Nat.pow_add]; omega
        · by_cases e : j = k
          · subst e; rw [HY.out]; exact HCT.out
          · exact HA.out j (by omega)
    · have hke : k = 3 := by omega
      subst hke
      have hall := all_yes r 3 (by have := HR.out; omega) HA.out
      have HALL := hid hall
      clear hall hlt
      by_cases hmin : x < 65536
      · have HF : Hid (restS c r = (-1, 1)) := by
          unfold restS; rw [HSZ.out, if_neg (by rw [HALL.out]; simp), ← HX.out, if_pos (.inl (by rw [least_4]; exact hmin))]; rfl
        go_wp2_with (go_at_call 18; refine (right_any _ _).mono ?_; rintro e w' ⟨rfl, rfl⟩)
        go_ret2
        exact NextPost.mk (by rw [hN.out, HF.out])
      · have hbm : decide ((x : Int) < 65536) = false := decide_eq_false (by omega)
        have HMIN := hid hmin
        clear hmin
        cases hrt : rightB (x : Int) with
        | false =>
          have HF : Hid (restS c r = (-1, 1)) := by
            unfold restS; rw [HSZ.out, if_neg (by rw [HALL.out]; simp), ← HX.out, if_pos (.inr hrt)]; rfl
          go_wp2_with (go_at_call 18; refine (right_any _ _).mono ?_; rintro e w' ⟨rfl, rfl⟩)
          go_ret2
          exact NextPost.mk (by rw [hN.out, HF.out])
        | true =>
          have HF : Hid (restS c r = ((x : Int), 4)) := by
            unfold restS; rw [HSZ.out, if_neg (by rw [HALL.out]; simp), ← HX.out, if_neg (by rw [hrt, least_4]; simp only [Bool.true_eq_false, or_false]; exact HMIN.out)]; rfl
          go_wp2_with (go_at_call 18; refine (right_any _ _).mono ?_; rintro e w' ⟨rfl, rfl⟩)
          go_ret2
          exact NextPost.mk (by rw [hN.out, HF.out])

/-- utf.Next by contract. -/
theorem next_any (a : Option Addr) (len cap : Nat) (l : List UInt8) (w : World) (hL : LeastAt w) (h : BytesAt w a len cap l) :
    Calls Tryd.prog 12 #[.slice a len cap] w (NextPost l w) := by
  obtain ⟨hlen, hcap, hb⟩ := h
  cases l with
  | nil => exact next_nil a len cap w hlen
  | cons c r =>
    obtain ⟨b, o, rfl, hc⟩ := hb.resolve_left (by simp)
    have hl1 : len = r.length + 1 := by simpa using hlen
    have h0 := hc 0 (by simp)
    have hrest : ∀ i, i < r.length → w.cell? ⟨b, o + 1 + i, none⟩ = some (cellOf (r.getD i 0)) := fun i hi => by
      have := hc (i + 1) (by simp; omega)
      rw [show o + 1 + i = o + (i + 1) by omega, this]; simp [List.getD]
    have h0' : w.cell? ⟨b, o, none⟩ = some (.int .u8 (c.toNat : Int)) := h0
    by_cases h128 : c.toNat < 128
    · exact next_short b o len cap c r w (by omega) h0' hl1 (.inl h128)
    · by_cases hs : sizeB c = 0 ∨ r.length + 1 < sizeB c
      · exact next_short b o len cap c r w (by omega) h0' hl1 (.inr ⟨by omega, hs⟩)
      · unfold sizeB at hs
        by_cases c1 : 192 ≤ c.toNat ∧ c.toNat < 224
        · rw [if_pos c1] at hs
          exact next_2 b o len cap c r w hL h0' hl1 hcap hrest c1.1 c1.2 (by omega)
        · rw [if_neg c1] at hs
          by_cases c2 : 224 ≤ c.toNat ∧ c.toNat < 240
          · rw [if_pos c2] at hs
            exact next_3 b o len cap c r w hL h0' hl1 hcap hrest c2.1 c2.2 (by omega)
          · rw [if_neg c2] at hs
            by_cases c3 : 240 ≤ c.toNat ∧ c.toNat < 248
            · rw [if_pos c3] at hs
              exact next_4 b o len cap c r w hL h0' hl1 hcap hrest c3.1 c3.2 (by omega)
            · rw [if_neg c3] at hs; exact absurd (.inl rfl) hs
end Go.Proofs.YtjbfkblobaikdaaDoor

/-
  dec.Print by contract: the text of a number; nothing that was there is written.
-/
import Derived.Test.YtpkiahpdoejbcaaDoorDecPure
import Derived.Test.YtpkiahpdoejbcaaDoorProg
namespace Go.Proofs.YtpkiahpdoejbcaaDoor
open Go.RowKit

def PrintRel (w : World) (N : Nat) (a l : Value) (wr : World) : Prop :=
  ∃ (k x : Nat) (em : List UInt8) (C : Array Value), a = .int .i64 (k : Int) ∧ l = .int .i64 (-(x : Int)) ∧ x ≤ 9223372036854775808 ∧ k ≤ 20 ∧ C.size = 20 ∧ C.toList.drop k = em.map cellOf ∧ em.length + k = 20 ∧ digs x ++ em = digs N ∧ wr = w.alloc (.cells C 91)

theorem print_round (w : World) (N k x : Nat) (em : List UInt8) (C : Array Value) (hx : x ≤ 9223372036854775808) (hk : 1 ≤ k) (hk2 : k ≤ 20) (hC : C.size = 20)
    (hd : C.toList.drop k = em.map cellOf) (hl : em.length + k = 20) (hs : digs x ++ em = digs N) (h10 : 10 ≤ x) :
    PrintRel w N (.int .i64 ((k : Int) - 1)) (.int .i64 (-((x : Int) / 10))) (w.alloc (.cells (C.setIfInBounds (k - 1) (.int .u8 (48 + (x : Int) % 10))) 91)) := by
  refine ⟨k - 1, x / 10, dig8 (x % 10) :: em, _, ?_, ?_, by omega, by omega, by simpa using hC, ?_, by simp; omega, digs_step x em N hs h10, rfl⟩
  · congr 1; omega
  · congr 1
  · rw [cell_digit, drop_set (l := em.map cellOf)]
    · rfl
    · omega
    · rw [show k - 1 + 1 = k by omega]; exact hd

theorem A.size20 (w : World) : (sizeOf (Tryd.prog.elem 91)).run Tryd.prog w = .ok 1 w := by kernel_rfl
theorem A.len20 : Tryd.prog.arrayLen 91 = 20 := by kernel_rfl
theorem A.arr20 : Tryd.prog.underlying 91 = some (.array (Tryd.prog.arrayLen 91) (Tryd.prog.elem 91)) := by kernel_rfl

/-- What the end of Print comes to, in a world with the finished array. -/
theorem print_end (w : World) (C : Array Value) (j : Nat) (J : Int) (hJ : J = j) (hj : j < 20) (l : List UInt8) (hl : l.length = 20 - j) (hd : C.toList.drop j = l.map cellOf) :
    (∀ W : World, (Instr.sliceAt 91 (.pointer (some ⟨w.heap.size, 0, none⟩)) (some (.int .i64 J)) none none).run Tryd.prog W = .ok (.slice (some ⟨w.heap.size, j, none⟩) (20 - j) (20 - j)) W) ∧
    (convert 38 9 (.slice (some ⟨w.heap.size, j, none⟩) (20 - j) (20 - j))).run Tryd.prog (w.alloc (.cells C 91)) = .ok (strV l) (w.alloc (.cells C 91)) :=
  ⟨fun W => run_array_from A.arr20 A.size20 20 A.len20 _ j J hJ hj W,
   run_string_of_cells Tryd.underlying38 Tryd.underlying5 Tryd.underlying9 _ _ _ _ l hl (fun i hi => cells_of_new w C _ j l hd i (by omega))⟩

set_option maxHeartbeats 2000000 in
theorem print_any (n : Int) (w : World) (h0 : -9223372036854775808 ≤ n) (h1 : n ≤ 9223372036854775807) :
    Calls Tryd.prog 34 #[.int .i64 n] w fun e w' => e = .returned (strV (decText n)) ∧ Below w.heap.size w w' := by
  have h19 := digs_len19 n.natAbs (by omega)
  by_cases hn : 0 < n
  all_goals
    go_enter Tryd.func34, Tryd.ntmps34
    go_wp2
    go_loopw [4, 5] (fun a l wr => PrintRel w n.natAbs a l wr) (fun a _ _ => (intOf a).toNat)
    case atStart => 
      refine ⟨20, n.natAbs, [], _, rfl, ?_, by omega, by omega, rfl, rfl, rfl, by simp, rfl⟩
      first | (congr 1; omega)
    case round =>
      obtain ⟨k, x, em, C, rfl, rfl, hx, hk, hC, hd, hl, hs, rfl⟩ := hrel
      have hp := digs_pos x
      have hk1 : 1 ≤ k := by have := congrArg List.length hs; simp at this; omega
      by_cases h10 : 10 ≤ x
      · have hb : ((-((x : Int) / 10)) == 0) = false := by simp; omega
        have hrel' := print_round w n.natAbs k x em C hx hk1 hk hC hd hl hs h10
        obtain ⟨cv, hget⟩ : ∃ v, C[k - 1]? = some v := ⟨C[k - 1]'(by omega), by simp⟩
        clear hd hs hp
        go_wp2
        go_roundw
        case rel => exact hrel'
        case measure => simp [intOf]; omega
      · have hb : ((-((x : Int) / 10)) == 0) = true := by simp; omega
        have hlast := digs_last x em n.natAbs hs (by omega)
        have hk2 : 2 ≤ k := by have := congrArg List.length hlast; simp at this; omega
        obtain ⟨cv, hget⟩ : ∃ v, C[k - 1]? = some v := ⟨C[k - 1]'(by omega), by simp⟩
        obtain ⟨cv2, hget2⟩ : ∃ v, (C.setIfInBounds (k - 1) (Value.int .u8 (48 + (x : Int) % 10)))[k - 1 - 1]? = some v := ⟨C[k - 1 - 1]'(by omega), by rw [Array.getElem?_setIfInBounds_ne (by omega)]; simp⟩
        have hd1 : (C.setIfInBounds (k - 1) (Value.int .u8 (48 + (x : Int) % 10))).toList.drop (k - 1) = (digs n.natAbs).map cellOf := by
          rw [cell_digit, drop_set (l := em.map cellOf), ← hlast]
          · rfl
          · omega
          · rw [show k - 1 + 1 = k by omega]; exact hd
        have hd2 : ((C.setIfInBounds (k - 1) (Value.int .u8 (48 + (x : Int) % 10))).setIfInBounds (k - 1 - 1) (Value.int .u8 45)).toList.drop (k - 1 - 1) = (45 :: digs n.natAbs).map cellOf := by
          rw [drop_set (l := (digs n.natAbs).map cellOf)]
          · rfl
          · simp; omega
          · rw [show k - 1 - 1 + 1 = k - 1 by omega]; exact hd1
        have hlen : (digs n.natAbs).length = 20 - (k - 1) := by rw [← hlast]; simp; omega
        obtain ⟨hs1, hc1⟩ := print_end w _ (k - 1) ((k : Int) - 1) (by omega) (by omega) _ hlen hd1
        obtain ⟨hs2, hc2⟩ := print_end w _ (k - 1 - 1) ((k : Int) - 1 - 1) (by omega) (by omega) (45 :: digs n.natAbs) (by simp; omega) hd2
        clear hd hs hp hlast hd1 hd2 hlen hl hC
        by_cases hneg : n < 0
        · first
          | (exfalso; omega)
          | (have hfin : Hid (decText n = 45 :: digs n.natAbs) := by unfold decText; rw [if_pos hneg]; rfl
             clear hs1 hc1
             go_wp2
             go_ret
             exact ⟨(congrArg (fun l => Ending.returned (strV l)) hfin.out).symm, (Below.refl _ _).alloc (Nat.le_refl _) _⟩)
        · have hfin : Hid (decText n = digs n.natAbs) := by unfold decText; rw [if_neg hneg]; rfl
          clear hs2 hc2 hget2
          go_wp2
          go_ret
          exact ⟨(congrArg (fun l => Ending.returned (strV l)) hfin.out).symm, (Below.refl _ _).alloc (Nat.le_refl _) _⟩
end Go.Proofs.YtpkiahpdoejbcaaDoor

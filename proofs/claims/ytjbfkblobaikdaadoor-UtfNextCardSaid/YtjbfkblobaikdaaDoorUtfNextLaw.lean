/-
  The statement UtfNext: its call answers true.
-/
import Derived.Test.YtjbfkblobaikdaaDoorUtfPut
import Derived.Test.YtjbfkblobaikdaaDoorUtfRefNext
namespace Go.Proofs.YtjbfkblobaikdaaDoor
open Go.RowKit
set_option linter.unusedVariables false

theorem nextS_take (l : List UInt8) : nextS (l.take 8) = nextS l := by
  cases l with
  | nil => rfl
  | cons c r =>
    rw [List.take_succ_cons, nextS_cons, nextS_cons]
    have h4 : sizeB c ≤ 4 := by unfold sizeB; split <;> (try split) <;> (try split) <;> omega
    have hr : restS c (r.take 7) = restS c r := by
      unfold restS
      rw [List.take_take, Nat.min_eq_left (by omega)]
    have hl : ((r.take 7).length + 1 < sizeB c) ↔ (r.length + 1 < sizeB c) := by rw [List.length_take]; omega
    rw [hr]
    simp only [hl]

set_option maxRecDepth 100000 in
set_option maxHeartbeats 4000000 in
theorem utfNext_walk (s : ByteArray) (letter : Int) (w : World) (hs : s.size ≤ maxLen) (hlo : -9223372036854775808 ≤ letter) (hhi : letter ≤ 9223372036854775807) (hg : ErrorType w) (hL : LeastAt w) : Calls Tryd.prog 4 #[.string s, .int .i64 letter] w (TruePost w) := by
  unfold maxLen at hs
  have HG := hid hg
  have HL := hid hL
  have hlt := hL.lt
  have hgt := hg.lt
  clear hg hL
  have kc := fun (w : World) => Lib.run_convert_string_bytes (P := Tryd.prog) w 9 26 5 s Tryd.underlying9 Tryd.underlying26 Tryd.underlying5
  obtain ⟨x, n, hxn⟩ : ∃ x n, nextS s.data.toList = (x, n) := ⟨_, _, rfl⟩
  have HX := hid hxn
  clear hxn
  have hcut : nextS (s.extract 0 8).data.toList = nextS s.data.toList := by
    rw [← str_toList, extract_upto, nextS_take]
  have HR : Hid (nextS (s.extract 0 8).data.toList = (x, n)) := hid (hcut.trans HX.out)
  clear hcut
  obtain ⟨L, hLL⟩ : ∃ L, putS letter = L := ⟨_, rfl⟩
  have HP := hid hLL
  clear hLL
  have hxx : (x == x) = true := by simp
  have hnn : (n == n) = true := by simp
  by_cases h8 : s.size ≤ 8
  · have hb1 : decide ((s.size : Int) < 8) = true ∨ decide ((s.size : Int) < 8) = false := by cases decide ((s.size : Int) < 8) <;> simp
    have hm : min s.size 8 = s.size := Nat.min_eq_left h8
    go_enter Tryd.func4, Tryd.ntmps4
    go_wp2_with (go_at_call 7; refine (alive_any _ HG.out HL.out).mono ?_; intro e w1 hp; obtain ⟨rfl, hb⟩ := hp.call; have HB1 := hid hb; clear hb hp)
    refine (next_any _ _ _ s.data.toList _ (HL.out.below (below_then HB1.out (below_bytes w1 5 s)) hlt) (bytes_at_world w1 5 s)).mono ?_
    intro e w2 hp
    unfold NextPost at hp
    rw [HX.out] at hp
    obtain ⟨rfl, hw⟩ := hp
    have HB2 : Hid (Below w.heap.size w w2) := by rw [← hw]; exact below_then HB1.out (below_bytes w1 5 s)
    clear hw HB1
    go_wp2_with (first
      | (go_at_call 13; refine (rnext_any _ _ (by omega)).mono ?_; intro e w3 hp; unfold RNextPost at hp; rw [HX.out] at hp; obtain ⟨rfl, hb⟩ := hp; have HB3 := hid hb; clear hb)
      | (go_at_call 14; refine (put_any _ _).mono ?_; intro e w4 hp; rw [HP.out] at hp; obtain ⟨rfl, hb⟩ := hp; have HB4 := hid hb; clear hb)
      | (go_at_call 15; refine (rput_any _ _).mono ?_; intro e w5 hp; rw [HP.out] at hp; obtain ⟨rfl, hb⟩ := hp; have HB5 := hid hb; clear hb))
    go_ret
    exact TruePost.mk (b := true) rfl (below_then (below_then (below_then HB2.out HB3.out) HB4.out) HB5.out)
  · have hm : min s.size 8 = 8 := Nat.min_eq_right (by omega)
    go_enter Tryd.func4, Tryd.ntmps4
    go_wp2_with (go_at_call 7; refine (alive_any _ HG.out HL.out).mono ?_; intro e w1 hp; obtain ⟨rfl, hb⟩ := hp.call; have HB1 := hid hb; clear hb hp)
    refine (next_any _ _ _ s.data.toList _ (HL.out.below (below_then HB1.out (below_bytes w1 5 s)) hlt) (bytes_at_world w1 5 s)).mono ?_
    intro e w2 hp
    unfold NextPost at hp
    rw [HX.out] at hp
    obtain ⟨rfl, hw⟩ := hp
    have HB2 : Hid (Below w.heap.size w w2) := by rw [← hw]; exact below_then HB1.out (below_bytes w1 5 s)
    clear hw HB1
    go_wp2_with (first
      | (go_at_call 13; refine (rnext_any _ _ (by rw [ByteArray.size_extract]; omega)).mono ?_; intro e w3 hp; unfold RNextPost at hp; rw [HR.out] at hp; obtain ⟨rfl, hb⟩ := hp; have HB3 := hid hb; clear hb)
      | (go_at_call 14; refine (put_any _ _).mono ?_; intro e w4 hp; rw [HP.out] at hp; obtain ⟨rfl, hb⟩ := hp; have HB4 := hid hb; clear hb)
      | (go_at_call 15; refine (rput_any _ _).mono ?_; intro e w5 hp; rw [HP.out] at hp; obtain ⟨rfl, hb⟩ := hp; have HB5 := hid hb; clear hb))
    go_ret
    exact TruePost.mk (b := true) rfl (below_then (below_then (below_then HB2.out HB3.out) HB4.out) HB5.out)
end Go.Proofs.YtjbfkblobaikdaaDoor

/-
  The statement UtfChecks: its call answers true.
-/
import Derived.Test.YtjbfkblobaikdaaDoorUtfCheck
import Derived.Lib.SlBytesConst
namespace Go.Proofs.YtjbfkblobaikdaaDoor
open Go.RowKit
set_option linter.unusedVariables false

theorem LeastAt.below {B : Nat} {w w' : World} (h : LeastAt w) (hb : Below B w w') (hB : 0 < B) : LeastAt w' := by
  obtain ⟨h1, h2, h3⟩ := h
  exact ⟨by rw [hb.cell (p := ⟨0, 2, none⟩) hB]; exact h1, by rw [hb.cell (p := ⟨0, 3, none⟩) hB]; exact h2, by rw [hb.cell (p := ⟨0, 4, none⟩) hB]; exact h3⟩
theorem LeastAt.lt {w : World} (h : LeastAt w) : 0 < w.heap.size := lt_of_cell h.1

/-- A new block of a constant's bytes. -/
theorem bytes_at_mark (w : World) (C : Array Value) (T : TypeId) (fr : Nat × Nat) (l : List UInt8) (n : Nat) (hn : n = l.length) (h : C.toList = l.map cellOf) : BytesAt (w.alloc (.cells C T fr)) (some ⟨w.heap.size, 0, none⟩) n n l := by
  refine ⟨hn, Nat.le_refl _, .inr ⟨_, _, rfl, fun i hi => ?_⟩⟩
  rw [World.cell?_alloc_mark]
  have h2 : C.toList[i]? = some (cellOf (l.getD i 0)) := by rw [h]; simp [List.getD, hi]
  simpa using h2
theorem bytes_at_world (w : World) (e : TypeId) (s : ByteArray) : BytesAt (Lib.bytesWorld w e s) (some ⟨w.heap.size, 0, none⟩) s.size (grownCap w s.size 0 e) s.data.toList := by
  refine ⟨(str_len s).symm, grownCap_ge _ _ _ _, .inr ⟨_, _, rfl, fun i hi => ?_⟩⟩
  rw [Nat.zero_add, Lib.bytesWorld_cell w e s i (by have := str_len s; omega)]
  rfl
theorem next_euro : nextS [226, 130, 172] = (8364, 3) := by decide +kernel
theorem next_c080 : nextS [192, 128] = (-1, 1) := by decide +kernel
theorem check_a : checkE [65, 237, 160, 128] = .at_ 1 30 := by
  have h : badS [65, 237, 160, 128] = 1 := by
    rw [badS, dif_neg (by simp), show nextS [65, 237, 160, 128] = (65, 1) by decide +kernel]
    simp only [Int.reduceLT, ↓reduceIte]
    rw [show List.drop (Int.toNat 1) [65, 237, 160, 128] = ([237, 160, 128] : List UInt8) by decide, badS, dif_neg (by simp), show nextS [237, 160, 128] = (-1, 1) by decide +kernel]
    simp
  unfold checkE; rw [h, if_neg (by omega)]

set_option maxRecDepth 100000 in
set_option maxHeartbeats 4000000 in
theorem alive_any (w : World) (hg : ErrorType w) (hL : LeastAt w) : Calls Tryd.prog 7 #[] w (TruePost w) := by
  have HG := hid hg
  have HL := hid hL
  have hlt := hL.lt
  have hgt := hg.lt
  clear hg hL
  have kc := fun (w : World) (C : Array Value) (n c : Nat) => Lib.run_convert_bytes_const (P := Tryd.prog) w 26 5 C n c Tryd.underlying26 Tryd.underlying5
  go_enter Tryd.func7, Tryd.ntmps7
  go_wp2_with fail
  refine (next_any _ _ _ [226, 130, 172] _ (HL.out.below ((Below.refl w.heap.size w).alloc (Nat.le_refl _) _) hlt) (bytes_at_mark w _ _ _ _ _ rfl rfl)).mono ?_
  intro e w1 hp
  unfold NextPost at hp
  rw [next_euro] at hp
  obtain ⟨rfl, hw⟩ := hp
  have HB1 : Hid (Below w.heap.size w w1) := by rw [← hw]; exact (Below.refl w.heap.size w).alloc (Nat.le_refl _) _
  clear hw
  go_wp2_with fail
  refine (next_any _ _ _ [192, 128] _ (HL.out.below (below_then HB1.out ((Below.refl w1.heap.size w1).alloc (Nat.le_refl _) _)) hlt) (bytes_at_mark w1 _ _ _ _ _ rfl rfl)).mono ?_
  intro e w2 hp
  unfold NextPost at hp
  rw [next_c080] at hp
  obtain ⟨rfl, hw⟩ := hp
  have HB2 : Hid (Below w.heap.size w w2) := by rw [← hw]; exact below_then HB1.out ((Below.refl w1.heap.size w1).alloc (Nat.le_refl _) _)
  clear hw HB1
  go_wp2_with fail
  have hbm := below_then HB2.out ((Below.refl w2.heap.size w2).alloc (Nat.le_refl _) (.cells #[.int .u8 65, .int .u8 237, .int .u8 160, .int .u8 128] 5 (4, 5)))
  have HBM := hid hbm
  clear hbm
  refine (check_any _ _ _ _ [65, 237, 160, 128] _ (HL.out.below HBM.out hlt) (bytes_at_mark w2 _ _ _ _ _ rfl rfl) (by decide)).mono ?_
  intro e w3 hp
  rw [check_a] at hp
  obtain ⟨v, rfl, he, hb⟩ := hp
  have HE := hid he
  have HB3 : Hid (Below w.heap.size w w3) := below_then HBM.out hb
  clear hb he HBM HB2
  go_wp2_with (first
    | (go_at_call 10; refine (num_any (.at_ 1 30) _ _ (HG.out.below HB3.out hgt) HE.out).mono ?_; intro e w4 hp; obtain ⟨rfl, hb⟩ := hp; have HB4 := hid hb; clear hb)
    | (go_at_call 11; refine (pos_any (.at_ 1 30) _ _ (HG.out.below (below_then HB3.out HB4.out) hgt) (HE.out.below HB4.out)).mono ?_; intro e w5 hp; obtain ⟨rfl, hb⟩ := hp; have HB5 := hid hb; clear hb))
  go_ret
  exact TruePost.mk (b := true) rfl (below_then (below_then HB3.out HB4.out) HB5.out)
theorem TruePost.call {w : World} {e : Ending} {w' : World} (h : TruePost w e w') : e = .returned (.bool true) ∧ Below w.heap.size w w' := h

set_option maxRecDepth 100000 in
set_option maxHeartbeats 4000000 in
theorem utfChecks_walk (s : ByteArray) (w : World) (hs : s.size ≤ maxLen) (hg : ErrorType w) (hL : LeastAt w) : Calls Tryd.prog 3 #[.string s] w (TruePost w) := by
  unfold maxLen at hs
  have HG := hid hg
  have HL := hid hL
  have hlt := hL.lt
  have hgt := hg.lt
  clear hg hL
  have kc := fun (w : World) => Lib.run_convert_string_bytes (P := Tryd.prog) w 9 26 5 s Tryd.underlying9 Tryd.underlying26 Tryd.underlying5
  by_cases hbig : s.size ≤ 20000
  · have hbi : decide ((20000 : Int) < (s.size : Int)) = false := by simp; omega
    have hs1 : s.size ≤ 1048576 := by omega
    obtain ⟨B, hB⟩ : ∃ B, badS s.data.toList = B := ⟨_, rfl⟩
    have HBB := hid hB
    clear hB
    by_cases hneg : B < 0
    · have HC : Hid (checkE s.data.toList = .nil) := by unfold checkE; rw [HBB.out, if_pos hneg]; rfl
      go_enter Tryd.func3, Tryd.ntmps3
      go_wp2_with (go_at_call 7; refine (alive_any _ HG.out HL.out).mono ?_; intro e w1 hp; obtain ⟨rfl, hb⟩ := hp.call; have HB1 := hid hb; clear hb hp)
      have HBM := hid (below_then HB1.out (below_bytes w1 5 s))
      refine (check_any _ _ _ _ s.data.toList _ (HL.out.below HBM.out hlt) (bytes_at_world w1 5 s) hs1).mono ?_
      intro e w3 hp
      rw [HC.out] at hp
      obtain ⟨v, rfl, he, hb⟩ := hp
      obtain rfl : v = .nilIface := he
      have HB3 : Hid (Below w.heap.size w w3) := below_then HBM.out hb
      clear hb HBM HB1
      go_wp2_with (go_at_call 9; refine (bad_any _ _ hs1).mono ?_; intro e w4 hp; unfold NumPost at hp; rw [HBB.out] at hp; obtain ⟨rfl, hb⟩ := hp; have HB4 := hid hb; clear hb)
      go_ret
      exact TruePost.mk (b := true) rfl (below_then HB3.out HB4.out)
    · have HC : Hid (checkE s.data.toList = .at_ B 30) := by unfold checkE; rw [HBB.out, if_neg hneg]; rfl
      have hBB : (B == B) = true := by simp
      go_enter Tryd.func3, Tryd.ntmps3
      go_wp2_with (go_at_call 7; refine (alive_any _ HG.out HL.out).mono ?_; intro e w1 hp; obtain ⟨rfl, hb⟩ := hp.call; have HB1 := hid hb; clear hb hp)
      have HBM := hid (below_then HB1.out (below_bytes w1 5 s))
      refine (check_any _ _ _ _ s.data.toList _ (HL.out.below HBM.out hlt) (bytes_at_world w1 5 s) hs1).mono ?_
      intro e w3 hp
      rw [HC.out] at hp
      obtain ⟨v, rfl, he, hb⟩ := hp
      have HE := hid he
      have HB3 : Hid (Below w.heap.size w w3) := below_then HBM.out hb
      clear hb HBM HB1 he
      go_wp2_with (first
        | (go_at_call 9; refine (bad_any _ _ hs1).mono ?_; intro e w4 hp; unfold NumPost at hp; rw [HBB.out] at hp; obtain ⟨rfl, hb⟩ := hp; have HB4 := hid hb; clear hb)
        | (go_at_call 10; refine (num_any (.at_ B 30) _ _ (HG.out.below (below_then HB3.out HB4.out) hgt) (HE.out.below HB4.out)).mono ?_; intro e w5 hp; obtain ⟨rfl, hb⟩ := hp; have HB5 := hid hb; clear hb)
        | (go_at_call 11; refine (pos_any (.at_ B 30) _ _ (HG.out.below (below_then (below_then HB3.out HB4.out) HB5.out) hgt) ((HE.out.below HB4.out).below HB5.out)).mono ?_; intro e w6 hp; obtain ⟨rfl, hb⟩ := hp; have HB6 := hid hb; clear hb))
      go_ret
      exact TruePost.mk (b := true) rfl (below_then (below_then (below_then HB3.out HB4.out) HB5.out) HB6.out)
  · have hbi : decide ((20000 : Int) < (s.size : Int)) = true := by simp; omega
    go_enter Tryd.func3, Tryd.ntmps3
    go_wp2_with (go_at_call 7; refine (alive_any _ HG.out HL.out).mono ?_; intro e w1 hp; obtain ⟨rfl, hb⟩ := hp.call; have HB1 := hid hb; clear hb hp)
    go_ret
    exact TruePost.mk (b := true) rfl HB1.out
end Go.Proofs.YtjbfkblobaikdaaDoor

/-
  Where a text stops being UTF-8: the document's Bad, utf.Check by contract.
-/
import Derived.Test.YtjbfkblobaikdaaDoorUtfRefNext
import Derived.Test.YtjbfkblobaikdaaDoorErr
namespace Go.Proofs.YtjbfkblobaikdaaDoor
open Go.RowKit
set_option linter.unusedVariables false

theorem nextS_pos (l : List UInt8) (h : l ≠ []) : 1 ≤ (nextS l).2 ∧ (nextS l).2 ≤ l.length := by
  cases l with
  | nil => exact absurd rfl h
  | cons c r =>
    have hres : ∀ n : Int, n ≤ (r.length : Int) + 1 → 1 ≤ n → sizeB c = n.toNat → 1 ≤ (restS c r).2 ∧ (restS c r).2 ≤ (r.length : Int) + 1 := by
      intro n h1 h2 h3
      unfold restS
      split
      · simp; omega
      · split
        · simp; omega
        · simp only; omega
    rcases next_class c r with ⟨k1, k2⟩ | ⟨k1, k2, k4, k5, k6, k3⟩ | ⟨k1, k2, k4, k5, k6, k3⟩ | ⟨k1, k2, k4, k5, k6, k3⟩ | ⟨k1, k2, k3⟩
    · rw [k2]; simp; omega
    · rw [k3]; split
      · simp; omega
      · have := hres 2 (by omega) (by omega) (by omega); simpa using this
    · rw [k3]; split
      · simp; omega
      · have := hres 3 (by omega) (by omega) (by omega); simpa using this
    · rw [k3]; split
      · simp; omega
      · have := hres 4 (by omega) (by omega) (by omega); simpa using this
    · rw [k3]; simp; omega
/-- The first place from which no letter goes on; -1: there is none. -/
def badS (l : List UInt8) : Int :=
  if h : l = [] then -1
  else if (nextS l).1 < 0 then 0
  else (fun r : Int => if r < 0 then -1 else r + (nextS l).2) (badS (l.drop (nextS l).2.toNat))
termination_by l.length
decreasing_by
  have := nextS_pos l h
  simp; omega
/-- The same, with k bytes behind. -/
def badAt (l : List UInt8) (k : Nat) : Int := (fun r : Int => if r < 0 then -1 else r + (k : Int)) (badS (l.drop k))
theorem badS_nil : badS [] = -1 := by rw [badS]; simp
theorem badS_ge (l : List UInt8) : -1 ≤ badS l := by
  rw [badS]
  split
  · omega
  · rename_i h
    have := nextS_pos l h
    split
    · omega
    · simp only; split <;> omega
theorem badAt_zero (l : List UInt8) : badAt l 0 = badS l := by
  have := badS_ge l
  unfold badAt; simp only [List.drop_zero]
  split <;> first | omega | (simp; omega) | simp
theorem badAt_end (l : List UInt8) (k : Nat) (h : l.length ≤ k) : badAt l k = -1 := by
  unfold badAt; rw [List.drop_eq_nil_of_le h, badS_nil]; simp
theorem drop_ne (l : List UInt8) (k : Nat) (h : k < l.length) : l.drop k ≠ [] := by
  intro e; have := congrArg List.length e; simp at this; omega
theorem badAt_here (l : List UInt8) (k : Nat) (h : k < l.length) (hn : (nextS (l.drop k)).1 < 0) : badAt l k = k := by
  unfold badAt; rw [badS, dif_neg (drop_ne l k h), if_pos hn]; simp
theorem badAt_step (l : List UInt8) (k : Nat) (h : k < l.length) (hn : ¬ (nextS (l.drop k)).1 < 0) : badAt l (k + (nextS (l.drop k)).2.toNat) = badAt l k := by
  have hp := nextS_pos _ (drop_ne l k h)
  unfold badAt
  rw [show badS (l.drop k) = (fun r : Int => if r < 0 then -1 else r + (nextS (l.drop k)).2) (badS ((l.drop k).drop (nextS (l.drop k)).2.toNat)) by rw [badS, dif_neg (drop_ne l k h), if_neg hn]]
  rw [List.drop_drop]
  simp only
  split
  · simp
  · have := badS_ge (l.drop (k + (nextS (l.drop k)).2.toNat))
    rw [if_neg (by omega)]; omega

def BadRel (l : List UInt8) (w : World) (v : Value) (wr : World) : Prop := ∃ k : Nat, k ≤ l.length ∧ v = .int .i64 k ∧ badAt l k = badS l ∧ Below w.heap.size w wr
/-- A call that answers a number, and writes nothing that was there. -/
def NumPost (n : Int) (w : World) (e : Ending) (w' : World) : Prop := e = .returned (.int .i64 n) ∧ Below w.heap.size w w'
theorem NumPost.mk {n m : Int} {w w' : World} (h : n = m) (hb : Below w.heap.size w w') : NumPost n w (.returned (.int .i64 m)) w' := ⟨by rw [h], hb⟩
theorem extract_from (s : ByteArray) (k : Nat) : (s.extract k s.size).data.toList = s.data.toList.drop k := by
  rw [Lib.extract_data, List.take_of_length_le (by simp)]

set_option maxRecDepth 100000 in
set_option maxHeartbeats 2000000 in
theorem bad_any (s : ByteArray) (w : World) (hs : s.size ≤ 1048576) : Calls Tryd.prog 9 #[.string s] w (NumPost (badS s.data.toList) w) := by
  obtain ⟨B, hB⟩ : ∃ B, badS s.data.toList = B := ⟨_, rfl⟩
  rw [hB]
  have HBB := hid hB
  have HLEN := hid (str_len s)
  clear hB
  go_enter Tryd.func9, Tryd.ntmps9
  go_wp2_with fail
  go_loopw [3] (fun v wr => BadRel s.data.toList w v wr) (fun v _ => s.size - (intOf v).toNat)
  case atStart => exact ⟨0, by omega, rfl, badAt_zero _, Below.refl _ _⟩
  case round =>
    obtain ⟨k, hk, rfl, ht, hb⟩ := hrel
    have HB := hid hb
    have HT := hid ht
    have hk' : k ≤ s.size := by rw [← HLEN.out]; exact hk
    clear hb ht hk
    by_cases hlt : k < s.size
    · have hlt' : k < s.data.toList.length := by rw [HLEN.out]; exact hlt
      have hp := nextS_pos _ (drop_ne s.data.toList k hlt')
      have hcall := rnext_any (s.extract k s.size)
      rw [extract_from] at hcall
      obtain ⟨x, n, hxn⟩ : ∃ x n, nextS (s.data.toList.drop k) = (x, n) := ⟨_, _, rfl⟩
      have hstep := badAt_step s.data.toList k hlt'
      have hhere := badAt_here s.data.toList k hlt'
      unfold RNextPost at hcall
      rw [hxn] at hcall hstep hhere hp
      simp only at hcall hstep hhere hp
      rw [List.length_drop, HLEN.out] at hp
      have HCALL := hid hcall
      have HSTEP := hid hstep
      have HHERE := hid hhere
      obtain ⟨hp1, hp2⟩ := hp
      have hp3 : (n.toNat : Int) = n := by omega
      have hn2 : n ≤ 1048576 := by omega
      have hnk : k + n.toNat ≤ s.size := by omega
      have HP3 := hid hp3
      clear hxn hcall hstep hhere hlt' hp3
      by_cases hx : x < 0
      · have HX := hid hx
        go_wp2_with (go_at_call 13; refine (HCALL.out _ (by simp; omega)).mono ?_; intro e w1 hpp; obtain ⟨rfl, hb2⟩ := hpp; have HB2 := hid hb2; clear hb2)
        go_ret
        exact NumPost.mk (by rw [← HBB.out, ← HT.out, HHERE.out HX.out]) (HB.out.trans (HB2.out.mono HB.out.size))
      · have HX := hid hx
        go_wp2_with (go_at_call 13; refine (HCALL.out _ (by simp; omega)).mono ?_; intro e w1 hpp; obtain ⟨rfl, hb2⟩ := hpp; have HB2 := hid hb2; clear hb2)
        refine ⟨⟨k + n.toNat, by rw [HLEN.out]; exact hnk, by have := HP3.out; congr 1; omega, by rw [HSTEP.out HX.out]; exact HT.out, (HB.out.trans (HB2.out.mono HB.out.size))⟩, by simp [intOf]; omega⟩
    · have hke : k = s.size := by omega
      have hnl : decide (k < s.size) = false := decide_eq_false hlt
      have HE := hid (badAt_end s.data.toList k (by rw [HLEN.out]; omega))
      clear hke
      go_wp2_with fail
      go_ret
      exact NumPost.mk (by rw [← HBB.out, ← HT.out, HE.out]) HB.out
end Go.Proofs.YtjbfkblobaikdaaDoor

/-
  utf.All: the iterator's contract.
-/
import Derived.RangeFuncNested
import Derived.RangeFuncBound
import Derived.RangeFuncCalls
import Derived.RangeFuncLeaves
import Derived.Shelf.Abstract
import Derived.Shelf.RegionOpen
import Derived.WalkKit
import Derived.OwnWalkIn
import Derived.TacticsInMore
import Derived.LoopNIn
import Derived.LoopIn
import Derived.RegionIn
import Derived.Test.YtjbfkblobaikdaaDoorUtfBackLaw
namespace Go.Proofs.YtjbfkblobaikdaaDoor
open Go.RowKit Go.Shelf
attribute [local go_sem] Oper.semAt_some
set_option linter.unusedVariables false

/-- The letters of l, the first of them at k. -/
def letS : Nat → List UInt8 → Nat → List (Int × Int)
  | 0, _, _ => []
  | f + 1, l, k => if k < l.length then (if (nextS (l.drop k)).1 < 0 then [] else ((k : Int), (nextS (l.drop k)).1) :: letS f l (k + (nextS (l.drop k)).2.toNat)) else []
theorem letS_end (f : Nat) (l : List UInt8) (k : Nat) (h : ¬ k < l.length) : letS f l k = [] := by
  cases f with
  | zero => rfl
  | succ f => rw [letS, if_neg h]
theorem letS_bad (f : Nat) (l : List UInt8) (k : Nat) (h : (nextS (l.drop k)).1 < 0) : letS f l k = [] := by
  cases f with
  | zero => rfl
  | succ f => rw [letS, if_pos h, ite_self]
theorem letS_len (f : Nat) : ∀ (l : List UInt8) (k : Nat), (letS f l k).length ≤ l.length - k := by
  induction f with
  | zero => intro l k; simp [letS]
  | succ f ih =>
    intro l k
    rw [letS]
    by_cases h : k < l.length
    · rw [if_pos h]
      split
      · simp
      · have h1 := ih l (k + (nextS (l.drop k)).2.toNat)
        have h2 := nextS_pos _ (drop_ne l k h)
        rw [List.length_cons]
        omega
    · rw [if_neg h]; simp
theorem nextS_take4 (l : List UInt8) : nextS (l.take 4) = nextS l := by
  cases l with
  | nil => rfl
  | cons c r =>
    rw [List.take_succ_cons, nextS_cons, nextS_cons]
    have h4 : sizeB c ≤ 4 := by unfold sizeB; split <;> (try split) <;> (try split) <;> omega
    have hr : sizeB c ≤ 4 → restS c (r.take 3) = restS c r := by
      intro h4
      unfold restS
      rw [List.take_take, Nat.min_eq_left (by omega)]
    have hl : ((r.take 3).length + 1 < sizeB c) ↔ (r.length + 1 < sizeB c) := by rw [List.length_take]; omega
    rw [hr h4]
    simp only [hl]
theorem uamin2 (k k' : IntKind) (x y : Int) : Builtin.min2 (.int k x) (.int k' y) = pure (.int k (if y < x then y else x)) := by simp only [Builtin.min2]
theorem uamin_two (ats : Array TypeId) (ty : TypeId) (a b : Value) : Builtin.min_ ats ty #[a, b] = (Builtin.min2 a b >>= fun s => pure s) := by simp only [Builtin.min_, List.foldlM_cons, List.foldlM_nil]
attribute [local go_sem] uamin2 uamin_two
theorem grown_below {w w' : World} (h : Below w.heap.size w w') : w.grownBy w' none := ⟨h.os, h.tape, h.output, h.size, fun i hi _ => h.block i hi⟩
theorem extract_drop (s : ByteArray) (k m : Nat) : (s.extract k m).data.toList = (s.data.toList.drop k).take (m - k) := by rw [Lib.extract_data]
def ARel (l : List UInt8) (n₀ : Nat) (W : World) (J : List (Int × Int) → World → Prop) (i : Value) (wr : World) : Prop :=
  ∃ (k f : Nat) (pre : List (Int × Int)), k ≤ l.length ∧ i = .int .i64 k ∧ l.length ≤ k + f ∧ pre ++ letS f l k = letS l.length l 0 ∧ J pre wr ∧ Below n₀ W wr
set_option maxRecDepth 100000 in
set_option maxHeartbeats 2000000 in
theorem all_stops (n : Nat) (hn : 1 ≤ n) (Bs n₀ : Nat) (s : ByteArray) (w : World) (hs : s.size ≤ 5000) (hn0 : n₀ ≤ w.heap.size) (hB : w.cell? ⟨Bs, 0, none⟩ = some (.string s)) (hBn : Bs < n₀) (hL : LeastAt w) (hLn : 0 < n₀) :
    SeqStopsK Fence.wide n Tryd.prog 20 #[.pointer (some ⟨Bs, 0, none⟩)] (fun x : Int × Int => #[.int .i64 x.1, .int .i64 x.2]) (Below n₀) (fun xs => xs = letS s.data.toList.length s.data.toList 0) (fun pre => pre <+: letS s.data.toList.length s.data.toList 0) (s.size + 1) w := fun l J Jx W hW hJ hJx hY h0 => by
  have hlen := str_len s
  have hB0 := (hW.cell (p := ⟨Bs, 0, none⟩) (show Bs < w.heap.size by omega)).trans hB
  have hLW : LeastAt W := hL.below hW (by omega)
  have HJ := hid hJ
  have HY := hid hY
  have HL := hid hLW
  clear hJ hY hLW hL
  refine callsIn_of_wp Tryd.func20 rfl trivial ?_ rfl
  simp only [Tryd.ntmps20, List.size_toArray, List.length_cons, List.length_nil, Nat.reduceAdd, Nat.reduceSub, Array.replicate_succ, Array.replicate_zero, List.push_toArray, List.append_toArray, List.nil_append, List.cons_append]
  gi_wp2
  gi_loopw [3] (fun i wr => ARel s.data.toList n₀ W J i wr) (fun i _ => s.size - (intOf i).toNat)
  case atStart => exact ⟨0, s.data.toList.length, [], by omega, rfl, by omega, rfl, h0, Below.refl _ _⟩
  case round =>
    obtain ⟨k, f, pre, hk, rfl, hf, hpre, hJp, hb⟩ := hrel
    rw [hlen] at hk hf
    have hB1 := (hb.cell (p := ⟨Bs, 0, none⟩) hBn).trans hB0
    have HB := hid hb
    clear hb
    by_cases c : k < s.size
    · have t0 : decide ((k : Int) < (s.size : Int)) = true := decide_eq_true (by omega)
      obtain ⟨m, hm⟩ : ∃ m : Nat, (if (k : Int) + 4 < (s.size : Int) then (k : Int) + 4 else (s.size : Int)) = (m : Int) := ⟨min (k + 4) s.size, by split <;> omega⟩
      have hm1 : m = min (k + 4) s.size := by split at hm <;> omega
      have hkm : k ≤ m := by omega
      have hms : m ≤ s.size := by omega
      have w1 : IntKind.i64.wrap ((k : Int) + 4) = (k : Int) + 4 := IntWalk.i64_in _ (by omega)
      have hcut : nextS (s.extract k m).data.toList = nextS (s.data.toList.drop k) := by
        rw [extract_drop, ← nextS_take4 (s.data.toList.drop k)]
        by_cases h4 : k + 4 ≤ s.size
        · rw [show m - k = 4 by omega]
        · rw [List.take_of_length_le (by rw [List.length_drop]; omega), List.take_of_length_le (by rw [List.length_drop]; omega)]
      obtain ⟨x, nn, hx⟩ : ∃ x nn, nextS (s.data.toList.drop k) = (x, nn) := ⟨_, _, rfl⟩
      have hpos := nextS_pos _ (drop_ne s.data.toList k (by omega))
      rw [hx] at hpos
      simp only [List.length_drop, hlen] at hpos
      rw [hx] at hcut
      have HCUT := hid hcut
      have HX := hid hx
      clear hm1 hcut hx
      obtain ⟨S, hS⟩ : ∃ S, s.extract k m = S := ⟨_, rfl⟩
      rw [hS] at HCUT
      have kc := Lib.run_convert_string_bytes (P := Tryd.prog) wr 9 26 5 S Tryd.underlying9 Tryd.underlying26 Tryd.underlying5
      have HBW : Hid (Below wr.heap.size wr (Lib.bytesWorld wr 5 S)) := hid (below_bytes wr 5 S)
      have hJ1 : J pre (Lib.bytesWorld wr 5 S) := HJ.out _ _ _ none hJp (grown_below HBW.out) (fun r e => by cases e)
      have HB1 : Hid (Below n₀ W (Lib.bytesWorld wr 5 S)) := hid (HB.out.trans (HBW.out.mono (by have := HB.out.size; have := hW.size; omega)))
      by_cases hx0 : x < 0
      · have t1 : decide (x < 0) = true := decide_eq_true hx0
        gi_wp2_with (refine ⟨trivial, ?_⟩; gi_at_call 12; refine (callsIn_wide.2 (next_any _ _ _ _ _ (HL.out.below HB1.out hLn) (bytes_at_world _ _ _))).mono ?_; intro e w' hp; unfold NextPost at hp; rw [HCUT.out] at hp; obtain ⟨rfl, rfl⟩ := hp)
        refine ⟨fun _ h => (by cases h), ?_⟩
        gi_wp2
        refine bodyPost_ret (results_none rfl _ _ _) rfl ?_
        refine ⟨⟨_, rfl⟩, .inl ⟨pre, ?_, hJ1⟩⟩
        rw [← hpre, letS_bad _ _ _ (by rw [HX.out]; exact hx0), List.append_nil]
      · have t1 : decide (x < 0) = false := decide_eq_false hx0
        obtain ⟨f', rfl⟩ : ∃ f', f = f' + 1 := ⟨f - 1, by omega⟩
        rw [letS, if_pos (by omega), HX.out, if_neg hx0] at hpre
        simp only at hpre
        have hple : pre.length < s.size + 1 := by
          have h1 := congrArg List.length hpre
          have h2 := letS_len s.data.toList.length s.data.toList 0
          rw [List.length_append] at h1
          omega
        obtain ⟨fn, tmps, assign, body, hy, hR⟩ := HY.out pre ((k : Int), x) _ hJ1 hple
        simp only at hy
        have w2 : IntKind.i64.wrap ((k : Int) + nn) = (k : Int) + nn := IntWalk.i64_in _ (by omega)
        gi_wp2_with (refine ⟨trivial, ?_⟩; gi_at_call 12; refine (callsIn_wide.2 (next_any _ _ _ _ _ (HL.out.below HB1.out hLn) (bytes_at_world _ _ _))).mono ?_; intro e w' hp; unfold NextPost at hp; rw [HCUT.out] at hp; obtain ⟨rfl, rfl⟩ := hp)
        refine hR.mono ?_
        rintro e W3 (⟨rfl, hJ3, hk3⟩ | ⟨rfl, hJx3⟩)
        · gi_wp2
          go_roundw
          case rel => exact ⟨k + nn.toNat, f', pre ++ [((k : Int), x)], by omega, by congr 1; omega, by omega, by rw [List.append_assoc]; exact hpre, hJ3, HB1.out.trans hk3⟩
          case measure =>
            simp [intOf]
            omega
        · gi_wp2
          refine bodyPost_ret (results_none rfl _ _ _) rfl ?_
          exact ⟨⟨_, rfl⟩, .inr ⟨pre ++ [((k : Int), x)], ⟨_, by rw [List.append_assoc]; exact hpre⟩, hJx3⟩⟩
    · have t0 : decide ((k : Int) < (s.size : Int)) = false := decide_eq_false (by omega)
      gi_wp2
      go_end0
      refine ⟨⟨_, rfl⟩, .inl ⟨pre, ?_, hJp⟩⟩
      rw [← hpre, letS_end _ _ _ (by omega), List.append_nil]
end Go.Proofs.YtjbfkblobaikdaaDoor

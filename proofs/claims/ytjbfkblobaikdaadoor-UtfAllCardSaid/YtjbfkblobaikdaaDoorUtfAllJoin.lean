/-
  The statement UtfAll: its call answers true.
-/
import Derived.Test.YtjbfkblobaikdaaDoorUtfAllYes
import Derived.Test.YtjbfkblobaikdaaDoorUtfAllNo
namespace Go.Proofs.YtjbfkblobaikdaaDoor
open Go.RowKit Go.Shelf
attribute [local go_sem] Oper.semAt_some
set_option linter.unusedVariables false

set_option maxRecDepth 100000 in
set_option maxHeartbeats 4000000 in
theorem utfAll_walk (s : ByteArray) (stop : Int) (w : World) (hs : s.size ≤ maxLen) (h0 : 0 ≤ stop) (h1 : stop ≤ 255) (hg : ErrorType w) (hL : LeastAt w) : Calls Tryd.prog 6 #[.string s, .int .u8 stop] w (TruePost w) := by
  by_cases hbig : 5000 < s.size
  · have HG := hid hg
    have HL := hid hL
    have hLl := hL.lt
    have hGl := hg.lt
    clear hg hL
    refine (callsIn_wide (n := 3)).1 ?_
    refine callsIn_of_wp_marks Tryd.func6 rfl trivial ?_ rfl
    simp only [Tryd.ntmps6, List.size_toArray, List.length_cons, List.length_nil, Nat.reduceAdd, Nat.reduceSub, Array.replicate_succ, Array.replicate_zero, List.push_toArray, List.append_toArray, List.nil_append, List.cons_append]
    have HA : Hid (Below w.heap.size w ((w.alloc (.cells #[.int .u8 stop] 5)).alloc (.cells #[.bool false] 4))) := hid (((Below.refl _ w).alloc (Nat.le_refl _) _).alloc (by simp) _)
    have d0 : Bx ((w.alloc (.cells #[.int .u8 stop] 5)).alloc (.cells #[.bool false] 4)) w.heap.size (.int .u8 stop) := (Bx.new w _ _).alloc _
    have d1 := Bx.new (w.alloc (.cells #[.int .u8 stop] 5)) (.bool false) 4
    have dsz : ((w.alloc (.cells #[.int .u8 stop] 5)).alloc (.cells #[.bool false] 4)).heap.size = w.heap.size + 2 := by simp
    rw [World.size_alloc] at d1
    obtain ⟨wa, hwa⟩ : ∃ wa, (w.alloc (.cells #[.int .u8 stop] 5)).alloc (.cells #[.bool false] 4) = wa := ⟨_, rfl⟩
    rw [hwa] at HA d0 d1 dsz
    have t0 : decide ((5000 : Int) < (s.size : Int)) = true := decide_eq_true (by omega)
    gi_wp2_with (refine ⟨trivial, ?_⟩; gi_at_call 7; (try rw [hwa]); refine (callsIn_wide.2 (alive_any _ (HG.out.below HA.out hGl) (HL.out.below HA.out hLl))).mono ?_; intro e w1 hp; obtain ⟨rfl, hb⟩ := hp.call; have HB1 := hid hb; have e0 := d0.below hb; have e1 := d1.below hb; have E0 := hid e0; have E1 := hid e1; have hw1 := hb.size; obtain ⟨p1, q1⟩ := e1; clear hb hp e0)
    have hc := (E1.out.set (.bool true)).1
    refine ⟨.bool true, ?_, TruePost.mk rfl ((below_then HA.out HB1.out).setCell (p := ⟨w.heap.size + 1, 0, none⟩) (by simp) _)⟩
    simp [results, Tryd.f6, go_sem, hc]
  · obtain ⟨r, hr⟩ : ∃ r, badS s.data.toList = r := ⟨_, rfl⟩
    by_cases hr0 : 0 ≤ r
    · exact utfAll_yes s stop w hs h0 h1 hg hL r hr hr0 hbig
    · exact utfAll_no s stop w hs h0 h1 hg hL r hr hr0 hbig
end Go.Proofs.YtjbfkblobaikdaaDoor

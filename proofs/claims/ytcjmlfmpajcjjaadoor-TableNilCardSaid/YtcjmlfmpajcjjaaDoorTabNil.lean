/-
  The statement TableNil: its call answers true.
-/
import Derived.Test.YtcjmlfmpajcjjaaDoorTabFx
namespace Go.Proofs.YtcjmlfmpajcjjaaDoor
open Go.RowKit Go.Shelf
attribute [local go_sem] Oper.semAt_some
set_option linter.unusedVariables false
theorem get_nil (key : ByteArray) (w : World) : Calls Tryd.prog 9 #[.pointer none, .string key] w fun e w' => e = .returned (.tuple #[.int .i64 0, .bool false]) ∧ w' = w := by
  go_enter Tryd.func9, Tryd.ntmps9
  go_wp2_with (go_at_call 21; refine (find_nil _ _).mono ?_; rintro e w' ⟨rfl, rfl⟩)
  go_ret2
  exact ⟨rfl, rfl⟩
theorem drop_nil (key : ByteArray) (w : World) : Calls Tryd.prog 11 #[.pointer none, .string key] w fun e w' => e = .returned (.bool false) ∧ w' = w := by
  go_enter Tryd.func11, Tryd.ntmps11
  go_wp2_with (go_at_call 21; refine (find_nil _ _).mono ?_; rintro e w' ⟨rfl, rfl⟩)
  go_ret
  exact ⟨rfl, rfl⟩
theorem len_nil (w : World) : Calls Tryd.prog 10 #[.pointer none] w fun e w' => e = .returned (.int .i64 0) ∧ w' = w := by
  go_enter Tryd.func10, Tryd.ntmps10
  go_wp2
  go_ret
  exact ⟨rfl, rfl⟩
theorem room_nil (w : World) : Calls Tryd.prog 20 #[.pointer none] w fun e w' => e = .returned (.int .i64 0) ∧ w' = w := by
  go_enter Tryd.func20, Tryd.ntmps20
  go_wp2
  go_ret
  exact ⟨rfl, rfl⟩
theorem copy_nil (w : World) : Calls Tryd.prog 17 #[.pointer none] w fun e w' => e = .returned (.pointer none) ∧ w' = w := by
  go_enter Tryd.func17, Tryd.ntmps17
  go_wp2
  go_ret
  exact ⟨rfl, rfl⟩
theorem all_nil (w : World) : Calls Tryd.prog 18 #[.pointer none] w fun e w' => e = .returned (.func (.func 27) #[] #[.pointer (some ⟨w.heap.size, 0, none⟩)]) ∧ w' = w.alloc (.cells #[.slice none 0 0] 53) := by
  go_enter Tryd.func18, Tryd.ntmps18
  go_wp2
  go_ret
  exact ⟨rfl, rfl⟩
theorem eq_fnIn (w : World) (d : Nat) (lb : Array Value) : (Op.equalIn (d + 1) 48 (Value.func (.func 27) #[] lb) Value.nilFunc).run Tryd.prog w = .ok false w := by
  simp [Op.equalIn, run_underlying Tryd.underlying48]
theorem eq_fnE (w : World) (lb : Array Value) : (Op.equal 48 (Value.func (.func 27) #[] lb) Value.nilFunc).run Tryd.prog w = .ok false w := eq_fnIn w 9999 lb
theorem eq_fn (w : World) (lb : Array Value) : (binOp BinOp.eql 48 (Value.func (.func 27) #[] lb) Value.nilFunc).run Tryd.prog w = .ok (.bool false) w := by
  simp only [binOp]
  simp [eq_fnE w lb]
set_option maxRecDepth 20000 in
/-- The rows of no table: none come. -/
theorem all_stops_nil (n : Nat) (hn : 1 ≤ n) (Bs n₀ : Nat) (w : World) (hn0 : n₀ ≤ w.heap.size) (hB : w.cell? ⟨Bs, 0, none⟩ = some (.slice none 0 0)) (hBn : Bs < n₀) :
    SeqStopsK Fence.wide n Tryd.prog 27 #[.pointer (some ⟨Bs, 0, none⟩)] (fun x : ByteArray × Int => #[.string x.1, .int .i64 x.2]) (Below n₀) (fun xs => xs = []) (fun pre => False) 1 w := fun l J Jx W hW hJ hJx hY h0 => by
  have hB0 := (hW.cell (p := ⟨Bs, 0, none⟩) (show Bs < w.heap.size by omega)).trans hB
  clear hJ hY
  refine callsIn_of_wp Tryd.func27 rfl trivial ?_ rfl
  simp only [Tryd.ntmps27, List.size_toArray, List.length_cons, List.length_nil, Nat.reduceAdd, Nat.reduceSub, Array.replicate_succ, Array.replicate_zero, List.push_toArray, List.append_toArray, List.nil_append, List.cons_append]
  gi_wp2
  gi_loopw [7] (fun i wr => i = .int .i64 0 ∧ wr = W) (fun i _ => 0)
  case atStart => exact ⟨rfl, rfl⟩
  case round =>
    obtain ⟨rfl, rfl⟩ := hrel
    gi_wp2
    go_end0
    exact ⟨⟨_, rfl⟩, .inl ⟨[], rfl, h0⟩⟩
set_option maxHeartbeats 4000000 in
set_option maxRecDepth 20000 in
theorem tabNil_walk (key : ByteArray) (n : Int) (w : World) (hk : key.size ≤ maxLen) (n0 : -9223372036854775808 ≤ n) (n1 : n ≤ 9223372036854775807) (hg : ErrorType w) :
    Calls Tryd.prog 5 #[.string key, .int .i64 n] w (TruePost w) := by
  have HG := hid hg
  have hGl := hg.lt
  clear hg
  refine (callsIn_wide (n := 3)).1 ?_
  refine callsIn_of_wp_marks Tryd.func5 rfl trivial ?_ rfl
  simp only [Tryd.ntmps5, List.size_toArray, List.length_cons, List.length_nil, Nat.reduceAdd, Nat.reduceSub, Array.replicate_succ, Array.replicate_zero, List.push_toArray, List.append_toArray, List.nil_append, List.cons_append]
  have hA : Below w.heap.size w (w.alloc (.cells #[.bool false] 4)) := (Below.refl _ w).alloc (Nat.le_refl _) _
  have HA := hid hA
  have hc0 : ∀ w1, Below (w.alloc (.cells #[.bool false] 4)).heap.size (w.alloc (.cells #[.bool false] 4)) w1 → w1.heap[w.heap.size]? = some (.cells #[.bool false] 4 (0, 0)) := fun w1 h => (h.block w.heap.size (by simp)).trans (heap_alloc_new w _)
  have HC0 := hid hc0
  clear hA hc0
  gi_wp2_with fail
  refine ⟨trivial, ?_⟩
  gi_at_call 6
  refine (callsIn_wide.2 (alive_any _ (HG.out.below HA.out hGl))).mono ?_
  intro e w1 hp
  obtain ⟨rfl, hb⟩ := hp
  have HB1 := hid (below_then HA.out hb)
  have HX1 := hid (HC0.out _ hb)
  clear hb
  gi_wp2_with fail
  refine ⟨trivial, ?_⟩
  gi_at_call 18
  refine (callsIn_wide.2 (all_nil _)).mono ?_
  rintro e w2 ⟨rfl, rfl⟩
  have hx2 : (w1.alloc (.cells #[.slice none 0 0] 53)).heap[w.heap.size]? = some (.cells #[.bool false] 4 (0, 0)) := (Below.heap_alloc w1 _ _ (lt_of_heap HX1.out)).trans HX1.out
  have hs2 : (w1.alloc (.cells #[.slice none 0 0] 53)).heap[w1.heap.size]? = some (.cells #[.slice none 0 0] 53 (0, 0)) := heap_alloc_new w1 _
  have hb2 : Below w.heap.size w (w1.alloc (.cells #[.slice none 0 0] 53)) := HB1.out.alloc HB1.out.size _
  have hs1 : w1.heap.size < (w1.alloc (.cells #[.slice none 0 0] 53)).heap.size := by simp
  generalize hw2 : w1.alloc (.cells #[.slice none 0 0] 53) = w2 at hx2 hs2 hb2 hs1 ⊢
  have cs2 : w2.cell? ⟨w1.heap.size, 0, none⟩ = some (.slice none 0 0) := by simp [World.cell?, hs2]
  have HX2 := hid hx2
  have HB2 := hid hb2
  clear hx2 hs2 hb2 hw2
  have efn := eq_fn
  gi_wp2
  have hw1 : w.heap.size < w1.heap.size := lt_of_heap HX1.out
  have bx0 : Bx w2 w.heap.size (.bool false) := ⟨by simp [World.cell?, HX2.out], by simp [World.frozen?, HX2.out]⟩
  refine wpIn_rangeFunc_ownF (n := 3) rfl (by omega) (gf := 27) (lb := #[.pointer (some ⟨w1.heap.size, 0, none⟩)]) rfl trivial (enters_of Tryd.func27 (by kernel_rfl) rfl)
    (all_stops_nil 2 (by omega) w1.heap.size w2.heap.size w2 (Nat.le_refl _) cs2 (by omega)) belowK_t (belowK_b (by omega)) (Below.refl _ _) (fun _ => rfl)
    (fun pre W => (Bx W w.heap.size (.bool false) ∧ pre = []) ∧ Below w.heap.size w W) (fun c pre W => Bx W w.heap.size (.bool false) ∧ Below w.heap.size w W)
    ?hI ?hIx ?h0 ?a1 ?assign ?body ?done ?stop
  case hI => exact OwnFrom.and (fun pre X Y row h hg hr => ⟨h.1.kept hg (fun r e => (hr r e).2), h.2⟩) (ownFrom_below (Nat.le_refl _) HB2.out.size)
  case hIx => exact fun c => OwnFrom.and (fun pre X Y row h hg hr => h.kept hg (fun r e => (hr r e).2)) (ownFrom_below (Nat.le_refl _) HB2.out.size)
  case h0 => exact ⟨⟨bx0, rfl⟩, HB2.out⟩
  case assign =>
    intro l x W K hK
    gi_wp2
    exact hK
  case body =>
    rintro l pre x W ⟨⟨bx, hpre⟩, hB⟩ hlen
    have Bx1 := hid bx
    obtain ⟨k1, g1⟩ := bx
    gi_wp2
    exact ⟨KeepsOthers.setCell _ _ _, Bx1.out.set _, hB.setCell (p := ⟨w.heap.size, 0, none⟩) (Nat.le_refl _) _⟩
  case done =>
    rintro D xs W hD rfl ⟨⟨bx, _⟩, hB⟩ hK
    have Bx1 := hid bx
    have HB := hid hB
    have HK := hid hK
    obtain ⟨k1, g1⟩ := bx
    clear hK hB
    gi_wp2_with (first | (refine ⟨trivial, ?_⟩; gi_at_call 9; refine (callsIn_wide.2 (get_nil _ _)).mono ?_; rintro e w' ⟨rfl, he⟩; rw [he]; clear he w') | (refine ⟨trivial, ?_⟩; gi_at_call 8; refine (callsIn_wide.2 (put_nil _ _ _)).mono ?_; rintro e w' ⟨rfl, he⟩; rw [he]; clear he w'))
    refine ⟨trivial, ?_⟩
    gi_at_call 14
    refine (callsIn_wide.2 (num_no 3 W (HG.out.below HB.out hGl))).mono ?_
    rintro e W2 ⟨rfl, hb3⟩
    have hDl : D < W.heap.size := lt_of_heap HK.out
    have HB3 := hid (below_then HB.out hb3)
    have HK3 := hid ((hb3.block D hDl).trans HK.out)
    have bx3 := Bx1.out.below hb3
    have BX3 := hid bx3
    obtain ⟨k3, g3⟩ := bx3
    clear hb3 k1 g1
    gi_wp2_with (first | (refine ⟨trivial, ?_⟩; gi_at_call 11; refine (callsIn_wide.2 (drop_nil _ _)).mono ?_; rintro e w' ⟨rfl, he⟩; rw [he]; clear he w') | (refine ⟨trivial, ?_⟩; gi_at_call 10; refine (callsIn_wide.2 (len_nil _)).mono ?_; rintro e w' ⟨rfl, he⟩; rw [he]; clear he w') | (refine ⟨trivial, ?_⟩; gi_at_call 20; refine (callsIn_wide.2 (room_nil _)).mono ?_; rintro e w' ⟨rfl, he⟩; rw [he]; clear he w') | (refine ⟨trivial, ?_⟩; gi_at_call 17; refine (callsIn_wide.2 (copy_nil _)).mono ?_; rintro e w' ⟨rfl, he⟩; rw [he]; clear he w'))
    refine at_post (fun x => x.heap[D]? = some (.deferred (some [])) ∧ Bx x w.heap.size (.bool true) ∧ Below w.heap.size w x) ⟨?_, ?_, ?_⟩ ?_
    · exact (Below.heap_setCell _ _ _ _ (by simp; omega)).trans HK3.out
    · exact BX3.out.set _
    · exact HB3.out.setCell (p := ⟨w.heap.size, 0, none⟩) (Nat.le_refl _) _
    rintro x ⟨x1, x2, x3⟩
    refine ⟨by simp, .inl ⟨_, _, rfl, run_takeDeferred x1, ?_⟩⟩
    have hc := (x2.kept (grownBy_putObj' _ D (.deferred none)) (fun r e => by cases e; exact ⟨_, x1, rfl⟩)).1
    refine ⟨.bool true, ?_, TruePost.mk rfl (below_put x3 (by omega) x1)⟩
    simp [results, Tryd.f5, go_sem, hc]
  case stop =>
    rintro D c pre W hD hpf
    exact hpf.elim
theorem tabNil_w (key : ByteArray) (n : Int) (w : World) (hk : key.size ≤ maxLen) (n0 : -9223372036854775808 ≤ n) (n1 : n ≤ 9223372036854775807) (hg : ErrorType w) :
    Calls Tryd.prog 5 #[.string key, .int .i64 n] w (TruePost w) := tabNil_walk key n w hk n0 n1 hg
end Go.Proofs.YtcjmlfmpajcjjaaDoor

/-
  What the disk's statements share: the chapter's example.
-/
import Derived.Test.YtdchpabcaoghpaaDoorDiskCrash
import Derived.Lib.SlBytesConst
namespace Go.Proofs.YtdchpabcaoghpaaDoor
open Go.RowKit
set_option linter.unusedVariables false

/-- What a call has made since w0, in the blocks F. -/
def Live (w0 w : World) (F : Nat → Prop) : Prop := Below w0.heap.size w0 w ∧ ∀ k, F k → w0.heap.size ≤ k
theorem Live.act {w0 a b c : World} {F G : Nat → Prop} (h : Live w0 a F) (hb : Below a.heap.size a b) (hs : Step F b c G) : Live w0 c G := by
  have h1 := below_then h.1 hb
  have h2 := hs.below h1.size h.2
  exact ⟨h1.trans h2.1, h2.2⟩
theorem Live.new {w0 a b : World} {F : Nat → Prop} (h : Live w0 a F) (hb : Below a.heap.size a b) : Live w0 b F := ⟨below_then h.1 hb, h.2⟩
theorem WritePost.to {d : Nat} {va vb : Value} {s t : DS} {n c : Int} {m : List UInt8} {w w' : World} {e : Ending} (h : WritePost d va vb s n m w e w') (ht : s.write n m = (c, t)) :
    e = .returned (if c = 0 then .nilIface else errno c) ∧ ∃ va' vb', DiskIs w' d va' vb' t ∧ Step (dfoot d va vb) w w' (dfoot d va' vb') := by
  unfold WritePost at h; rw [ht] at h; exact h
theorem ActPost.to {d : Nat} {va vb : Value} {r : Int × DS} {t : DS} {c : Int} {w w' : World} {e : Ending} (h : ActPost d va vb r w e w') (ht : r = (c, t)) :
    e = .returned (if c = 0 then .nilIface else errno c) ∧ ∃ va' vb', DiskIs w' d va' vb' t ∧ Step (dfoot d va vb) w w' (dfoot d va' vb') := by
  subst ht; exact h
theorem err0 : (if (0 : Int) = 0 then Value.nilIface else errno 0) = .nilIface := by rw [if_pos rfl]
theorem below_alloc1 (w : World) (o : Obj) : Below w.heap.size w (w.alloc o) := (Below.refl _ _).alloc (Nat.le_refl _) _
theorem reads_const (w : World) (C : Array Value) (T : TypeId) (fr : Nat × Nat) (l : List UInt8) (n : Nat) (hn : n = l.length) (h : C.toList = l.map cellOf) : ReadsB (w.alloc (.cells C T fr)) (.slice (some ⟨w.heap.size, 0, none⟩) n n) l := by
  subst hn
  refine .inr ⟨w.heap.size, 0, l.length, rfl, Nat.le_refl _, fun i hi => ?_⟩
  rw [World.cell?_alloc_mark]
  have h2 : C.toList[i]? = some (cellOf (l.getD i 0)) := by rw [h]; simp [List.getD, hi]
  simpa using h2
theorem DiskIs.new {w w' : World} {d : Nat} {va vb : Value} {s : DS} (h : DiskIs w d va vb s) (hb : Below w.heap.size w w') : DiskIs w' d va vb s := h.mod (Mod.new hb (fun _ => False)) (fun _ _ e => e)
theorem ints_new (w : World) (x : Int) (T : TypeId) : ReadsI (w.alloc (.cells #[.int .i64 x] T)) (.slice (some ⟨w.heap.size, 0, none⟩) 1 1) [x] :=
  .inr ⟨w.heap.size, 0, 1, rfl, fun i hi => by
    obtain rfl : i = 0 := by simpa using hi
    simp⟩
theorem own_read {w : World} {base : Nat} {v : Value} {l : List UInt8} (h : OwnB w base 5 v l) : ∃ a c, v = .slice a l.length c := by
  rcases h.reads with ⟨hv, rfl⟩ | ⟨b', o', cap', hv, hc, hcell⟩
  · exact ⟨_, _, hv⟩
  · exact ⟨_, _, hv⟩
set_option maxRecDepth 100000 in
set_option maxHeartbeats 1000000 in
theorem alive_any (w : World) : Calls Tryd.prog 5 #[] w (TruePost w) := by
  have e1 : DS.write ⟨[], 0, [], 0, 100, -1, false⟩ 0 [97, 98] = (0, ⟨[97, 98], 0, [], 0, 100, -1, false⟩) := by kernel_rfl
  have e2 : DS.sync ⟨[97, 98], 0, [], 0, 100, -1, false⟩ 0 = (0, ⟨[97, 98], 2, [], 0, 100, -1, false⟩) := by kernel_rfl
  have e3 : DS.write ⟨[97, 98], 2, [], 0, 100, -1, false⟩ 0 [99, 100, 101] = (0, ⟨[97, 98, 99, 100, 101], 2, [], 0, 100, -1, false⟩) := by kernel_rfl
  have e4 : DS.crash ⟨[97, 98, 99, 100, 101], 2, [], 0, 100, -1, false⟩ [2] = ⟨[97, 98, 99, 100], 4, [], 0, 100, -1, false⟩ := by kernel_rfl
  have kc := fun (w : World) (C : Array Value) (n c : Nat) => Lib.run_convert_bytes_const (P := Tryd.prog) w 41 5 C n c Tryd.underlying41 Tryd.underlying5
  have E1 := hid e1; have E2 := hid e2; have E3 := hid e3; have E4 := hid e4
  clear e1 e2 e3 e4
  go_enter Tryd.func5, Tryd.ntmps5
  go_wp2_with fail
  refine (new_any 100 (by omega) (by omega) w).mono ?_
  rintro e w1 ⟨v, F, rfl, ⟨d, va, vb, rfl, rfl, hd⟩, hb, hF⟩
  have H1 := hid hd
  have L1 : Hid (Live w w1 (dfoot d va vb)) := hid ⟨hb, hF⟩
  clear hd hb hF
  go_wp2_with fail
  refine (write_any (H1.out.new (below_alloc1 w1 _)) 0 (.inl rfl) w1.heap.size 0 2 [97, 98] (reads_const w1 _ _ _ [97, 98] 2 rfl rfl) (by decide) (by decide)).mono ?_
  intro e w2 hp
  obtain ⟨rfl, va2, vb2, hd, hs⟩ := hp.to E1.out
  have H2 := hid hd
  have L2 := hid (L1.out.act (below_alloc1 w1 _) hs)
  rw [err0]
  clear hp hd hs
  go_wp2_with fail
  refine (sync_any H2.out 0 (.inl rfl)).mono ?_
  intro e w3 hp
  obtain ⟨rfl, va3, vb3, hd, hs⟩ := hp.to E2.out
  have H3 := hid hd
  have L3 := hid (L2.out.act (Below.refl _ _) hs)
  rw [err0]
  clear hp hd hs
  go_wp2_with fail
  refine (write_any (H3.out.new (below_alloc1 w3 _)) 0 (.inl rfl) w3.heap.size 0 3 [99, 100, 101] (reads_const w3 _ _ _ [99, 100, 101] 3 rfl rfl) (by decide) (by decide)).mono ?_
  intro e w4 hp
  obtain ⟨rfl, va4, vb4, hd, hs⟩ := hp.to E3.out
  have H4 := hid hd
  have L4 := hid (L3.out.act (below_alloc1 w3 _) hs)
  rw [err0]
  clear hp hd hs
  go_wp2_with fail
  refine (crash_any (H4.out.new (below_alloc1 w4 _)) _ [2] (ints_new w4 2 _) (.inl (by simp only [Value.ownBlock]; intro e; have := H4.out.lt d (.inl rfl); simp at e; omega)) (by decide)).mono ?_
  intro e w5 hp
  obtain ⟨rfl, va5, vb5, hd, hs⟩ := hp.to (congrArg (Prod.mk 0) E4.out)
  have H5 := hid hd
  have L5 := hid (L4.out.act (below_alloc1 w4 _) hs)
  rw [err0]
  clear hp hd hs
  go_wp2_with fail
  refine (read_any H5.out rfl 0 (.inl rfl)).mono ?_
  rintro e w6 ⟨v, rfl, ho, hb⟩
  have H6 := hid (H5.out.new hb)
  have L6 := hid (L5.out.new hb)
  have hstr := run_string_of_reads (P := Tryd.prog) byteT Tryd.underlying9 ho.reads
  obtain ⟨a, c, rfl⟩ := own_read ho
  clear ho hb
  go_wp2_with (go_at_call 23; refine (safe_any H6.out 0 (.inl rfl)).mono ?_; rintro e w' ⟨rfl, rfl⟩)
  go_ret
  exact TruePost.mk rfl L6.out.1
end Go.Proofs.YtdchpabcaoghpaaDoor

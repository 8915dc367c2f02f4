/-
  RowRd, RowRs, RowRn, RowRl: this proof's parts in one text.
-/
import Derived.Test.YtcgjacffemjehaaMRowPacksRowc
import Derived.Test.YtcgjacffemjehaaMRowPacksRowh
import Derived.Deep.RegionLaw
import Derived.Laws.BitsLemmas
namespace Go.Proofs.Ytcgjacffemjehaa
open Go.RowKit
set_option linter.unusedVariables false
theorem reads_drop {w : World} {b o n cap : Nat} {l : List UInt8} (h : ReadsB w (.slice (some ⟨b, o, none⟩) n cap) l) (k : Nat) (hk : k ≤ n) : ReadsB w (.slice (some ⟨b, o + k, none⟩) (n - k) (cap - k)) (l.drop k) := by
  rcases h with ⟨h, _⟩ | ⟨b', o', cap', hv, hc, hcell⟩
  · cases h
  · cases hv
    refine .inr ⟨b, o + k, cap - k, by rw [List.length_drop], by rw [List.length_drop]; omega, fun i hi => ?_⟩
    rw [List.length_drop] at hi
    have := hcell (k + i) (by omega)
    rw [Nat.add_assoc, this]
    simp [List.getD]
theorem reads_take {w : World} {b o n cap : Nat} {l : List UInt8} (h : ReadsB w (.slice (some ⟨b, o, none⟩) n cap) l) (k : Nat) (hk : k ≤ n) : ReadsB w (.slice (some ⟨b, o, none⟩) k cap) (l.take k) := by
  rcases h with ⟨h, _⟩ | ⟨b', o', cap', hv, hc, hcell⟩
  · cases h
  · cases hv
    have hl : (l.take k).length = k := by rw [List.length_take]; omega
    refine .inr ⟨b, o, cap, by rw [hl], by omega, fun i hi => ?_⟩
    rw [hl] at hi
    rw [hcell i (by omega)]
    simp [List.getD, hi]
theorem reads_cut {w : World} {b o n cap : Nat} {l : List UInt8} (h : ReadsB w (.slice (some ⟨b, o, none⟩) n cap) l) (k : Nat) (hk : k ≤ n) : ReadsB w (.slice (if cap = k then some ⟨b, o, none⟩ else some ⟨b, o + k, none⟩) (n - k) (cap - k)) (l.drop k) := by
  have hn : n = l.length := by
    rcases h with ⟨h, _⟩ | ⟨b', o', cap', hv, hc, hcell⟩
    · cases h
    · cases hv; rfl
  subst hn
  by_cases e : cap = k
  · rw [if_pos e]
    have hl : l.drop k = [] := by
      rcases h with ⟨h, _⟩ | ⟨b', o', cap', hv, hc, hcell⟩
      · cases h
      · cases hv; apply List.drop_of_length_le; omega
    rw [hl]
    exact .inr ⟨b, o, cap - k, by
      have := congrArg List.length hl
      rw [List.length_drop] at this
      simp at this ⊢; omega, by simp, by simp⟩
  · rw [if_neg e]; exact reads_drop h k hk
/-- A coder in block g that reads; l is left; what is read lies in w0. -/
structure RS (w0 : World) (g : Nat) (l : List UInt8) (bad : Bool) (w : World) : Prop where
  below : Below w0.heap.size w0 w
  ge : w0.heap.size ≤ g
  small : l.length ≤ 1099511627776
  blk : ∃ v, w.heap[g]? = some (.cells #[v, .bool true, .bool bad] 88 (0, 0)) ∧ ReadsB w0 v l
theorem RS.lt {w0 : World} {g : Nat} {l : List UInt8} {b : Bool} {w : World} (h : RS w0 g l b w) : g < w.heap.size := by obtain ⟨v, hb, _⟩ := h.blk; exact lt_of_heap hb
theorem RS.base {w0 : World} {g : Nat} {l : List UInt8} {b : Bool} {w : World} (h : RS w0 g l b w) : w0.heap.size ≤ w.heap.size := h.below.size
theorem RS.cells {w0 : World} {g : Nat} {l : List UInt8} {b : Bool} {w : World} (h : RS w0 g l b w) : ∃ v, ReadsB w0 v l ∧ w.cell? ⟨g, 0, none⟩ = some v ∧ w.cell? ⟨g, 1, none⟩ = some (.bool true) ∧ w.cell? ⟨g, 2, none⟩ = some (.bool b) ∧ w.frozen? ⟨g, 0, none⟩ = false ∧ w.frozen? ⟨g, 2, none⟩ = false := by
  obtain ⟨v, hb, hr⟩ := h.blk
  refine ⟨v, hr, ?_, ?_, ?_, ?_, ?_⟩ <;> simp [World.cell?, World.frozen?, hb]
/-- Nothing but this block has been written. -/
theorem RS.mod {w0 : World} {g : Nat} {l : List UInt8} {b : Bool} {w w' : World} (h : RS w0 g l b w) {S : Nat → Prop} (hm : Mod S w w') (hS : ∀ k, S k → w0.heap.size ≤ k ∧ k ≠ g) : RS w0 g l b w' := by
  obtain ⟨v, hb, hr⟩ := h.blk
  exact ⟨h.below.trans (hm.below h.base (fun x hx => (hS x hx).1)), h.ge, h.small, v, hm.heap hb (fun e => (hS g e).2 rfl), hr⟩
theorem RS.setB {w0 : World} {g : Nat} {l l' : List UInt8} {b : Bool} {w : World} (h : RS w0 g l b w) {v : Value} (hr : ReadsB w0 v l') (hl : l'.length ≤ 1099511627776) : RS w0 g l' b (w.setCell ⟨g, 0, none⟩ v) := by
  obtain ⟨u, hb, _⟩ := h.blk
  refine ⟨h.below.setCell (p := ⟨g, 0, none⟩) h.ge _, h.ge, hl, v, ?_, hr⟩
  simp [World.setCell, Array.getElem?_modify, hb]
theorem RS.setBad {w0 : World} {g : Nat} {l : List UInt8} {b : Bool} {w : World} (h : RS w0 g l b w) (c : Bool) : RS w0 g l c (w.setCell ⟨g, 2, none⟩ (.bool c)) := by
  obtain ⟨u, hb, hr⟩ := h.blk
  refine ⟨h.below.setCell (p := ⟨g, 2, none⟩) h.ge _, h.ge, h.small, u, ?_, hr⟩
  simp [World.setCell, Array.getElem?_modify, hb]
theorem mod_set (w : World) (g i : Nat) (v : Value) : Mod (fun k => k = g) w (w.setCell ⟨g, i, none⟩ v) := (Mod.refl _ w).setCell _ _ (.inl rfl)
/-- What take answers where all is well. -/
def TakePost (w0 : World) (g : Nat) (r l : List UInt8) (b : Bool) (w : World) (e : Ending) (w' : World) : Prop :=
  ∃ v, e = .returned v ∧ ReadsB w' v r ∧ (∀ B o m c, v = .slice (some ⟨B, o, none⟩) m c → 0 < r.length → B < w0.heap.size ∨ w.heap.size ≤ B) ∧ RS w0 g l b w' ∧ Mod (fun k => k = g) w w'
theorem reads_lt {w : World} {B o m c : Nat} {r : List UInt8} (h : ReadsB w (.slice (some ⟨B, o, none⟩) m c) r) (hr : 0 < r.length) : B < w.heap.size := by
  rcases h with ⟨h, _⟩ | ⟨b', o', cap', hv, hc, hcell⟩
  · cases h
  · cases hv
    exact lt_of_cell (a := ⟨B, o + 0, none⟩) (hcell 0 hr)
set_option maxHeartbeats 2000000 in
theorem take_ok {w0 w : World} {g : Nat} {l : List UInt8} (h : RS w0 g l false w) (n : Nat) (hn : n ≤ l.length) :
    Calls Try.prog 50 #[.pointer (some ⟨g, 0, none⟩), .int .i64 n] w (TakePost w0 g (l.take n) (l.drop n) false w) := by
  obtain ⟨v, hr, c0, c1, c2, f0, f2⟩ := h.cells
  have hsm := h.small
  have H := hid h
  clear h
  have hr0 := hr
  rcases hr with ⟨rfl, rfl⟩ | ⟨b, o, cap, rfl, hcap, _⟩
  · obtain rfl : n = 0 := by simpa using hn
    go_enter Try.func50, Try.ntmps50
    go_wp2
    go_ret
    exact ⟨_, rfl, .inl ⟨rfl, rfl⟩, (fun B o m c e => by cases e), H.out.setB hr0 (by simp), mod_set _ _ _ _⟩
  · have t0 : decide ((l.length : Int) < (n : Int)) = false := decide_eq_false (by omega)
    have t1 : decide (l.length < n) = false := decide_eq_false (by omega)
    have ht := reads_take hr0 n hn
    have hd := reads_cut hr0 n hn
    have HT := hid ht
    have hds : (l.drop n).length ≤ 1099511627776 := by rw [List.length_drop]; omega
    clear ht hr0
    by_cases hc : cap = n
    · rw [if_pos hc] at hd
      subst hc
      rw [Nat.sub_self, show l.length - cap = 0 by omega] at hd
      have HD := hid hd
      clear hd
      go_enter Try.func50, Try.ntmps50
      go_wp2
      go_ret
      exact ⟨_, rfl, HT.out.below (H.out.setB HD.out hds).below, (fun B o m c e hr => by cases e; exact .inl (reads_lt HT.out hr)), H.out.setB HD.out hds, mod_set _ _ _ _⟩
    · rw [if_neg hc] at hd
      have HD := hid hd
      clear hd
      go_enter Try.func50, Try.ntmps50
      go_wp2
      go_ret
      exact ⟨_, rfl, HT.out.below (H.out.setB HD.out hds).below, (fun B o m c e hr => by cases e; exact .inl (reads_lt HT.out hr)), H.out.setB HD.out hds, mod_set _ _ _ _⟩
/-- A new block of nils. -/
theorem zeros_cells (k : Nat) : (List.replicate k (0 : UInt8)).map cellOf = List.replicate k (.int .u8 0) := by rw [List.map_replicate]; rfl
theorem rmin2 (k k' : IntKind) (x y : Int) : Builtin.min2 (.int k x) (.int k' y) = pure (.int k (if y < x then y else x)) := by simp only [Builtin.min2]
theorem rmin_two (ats : Array TypeId) (ty : TypeId) (a b : Value) : Builtin.min_ ats ty #[a, b] = (Builtin.min2 a b >>= fun s => pure s) := by simp only [Builtin.min_, List.foldlM_cons, List.foldlM_nil]
attribute [local go_sem] rmin2 rmin_two
theorem bad_fin {w0 w : World} {g : Nat} {l : List UInt8} {b : Bool} (h : RS w0 g l b w) (C : Array Value) (n : Nat) (hC : C.toList = List.replicate n (.int .u8 0)) (hn : n ≤ 8) :
    TakePost w0 g (List.replicate n 0) l true w (.returned (.slice (some ⟨w.heap.size, 0, none⟩) n n)) ((w.setCell ⟨g, 2, none⟩ (.bool true)).alloc (.cells C 5)) := by
  have h1 := h.setBad true
  have hs : (w.setCell ⟨g, 2, none⟩ (.bool true)).heap.size = w.heap.size := by simp [World.setCell]
  have ho := OwnB.new' (w.setCell ⟨g, 2, none⟩ (.bool true)) 0 5 C (List.replicate n 0) n w.heap.size hs.symm (by simp) (by rw [zeros_cells]; exact hC) (Nat.zero_le _) (by unfold maxLen; omega)
  exact ⟨_, rfl, ho.reads, (fun B o m c e _ => by cases e; exact .inr (Nat.le_refl _)), h1.mod (Mod.alloc (Mod.refl (fun _ => False) _) _) (fun k e => e.elim), (mod_set w g 2 _).alloc _⟩
set_option maxHeartbeats 2000000 in
set_option maxRecDepth 20000 in
theorem take_bad0 {w0 w : World} {g : Nat} {l : List UInt8} {b : Bool} (h : RS w0 g l b w) (hb : b = true ∨ l.length < 0) :
    Calls Try.prog 50 #[.pointer (some ⟨g, 0, none⟩), .int .i64 0] w (TakePost w0 g (List.replicate 0 0) l true w) := by
  obtain ⟨v, hr, c0, c1, c2, f0, f2⟩ := h.cells
  have hsm := h.small
  obtain ⟨A, cap, rfl⟩ : ∃ A cap, v = .slice A l.length cap := by
    rcases hr with ⟨rfl, rfl⟩ | ⟨b, o, cap, rfl, hcap, _⟩
    · exact ⟨_, _, rfl⟩
    · exact ⟨_, _, rfl⟩
  have HF := hid (bad_fin h #[] 0 rfl (by omega))
  have hmk : ∀ w, (Instr.makeSlice 44 (.int .i64 0) (.int .i64 0)).run Try.prog w = .ok (.slice (some ⟨w.heap.size, 0, none⟩) 0 0) (w.alloc (.cells #[] 5)) := fun _ => by kernel_rfl
  clear h hr
  cases b with
  | true =>
    clear hb
    go_enter Try.func50, Try.ntmps50
    go_wp2
    go_ret
    exact HF.out
  | false =>
    have h3 : l.length < 0 := by rcases hb with hb | hb; cases hb; exact hb
    exact absurd h3 (by omega)
set_option maxHeartbeats 2000000 in
set_option maxRecDepth 20000 in
theorem take_bad1 {w0 w : World} {g : Nat} {l : List UInt8} {b : Bool} (h : RS w0 g l b w) (hb : b = true ∨ l.length < 1) :
    Calls Try.prog 50 #[.pointer (some ⟨g, 0, none⟩), .int .i64 1] w (TakePost w0 g (List.replicate 1 0) l true w) := by
  obtain ⟨v, hr, c0, c1, c2, f0, f2⟩ := h.cells
  have hsm := h.small
  obtain ⟨A, cap, rfl⟩ : ∃ A cap, v = .slice A l.length cap := by
    rcases hr with ⟨rfl, rfl⟩ | ⟨b, o, cap, rfl, hcap, _⟩
    · exact ⟨_, _, rfl⟩
    · exact ⟨_, _, rfl⟩
  have HF := hid (bad_fin h #[.int .u8 0] 1 rfl (by omega))
  have hmk : ∀ w, (Instr.makeSlice 44 (.int .i64 1) (.int .i64 1)).run Try.prog w = .ok (.slice (some ⟨w.heap.size, 0, none⟩) 1 1) (w.alloc (.cells #[.int .u8 0] 5)) := fun _ => by kernel_rfl
  clear h hr
  cases b with
  | true =>
    clear hb
    go_enter Try.func50, Try.ntmps50
    go_wp2
    go_ret
    exact HF.out
  | false =>
    have h3 : l.length < 1 := by rcases hb with hb | hb; cases hb; exact hb
    have t0 : decide ((l.length : Int) < 1) = true := decide_eq_true (by omega)
    have t1 : decide (l.length < 1) = true := decide_eq_true (by omega)
    clear hb
    go_enter Try.func50, Try.ntmps50
    go_wp2
    go_ret
    exact HF.out
set_option maxHeartbeats 2000000 in
set_option maxRecDepth 20000 in
theorem take_bad4 {w0 w : World} {g : Nat} {l : List UInt8} {b : Bool} (h : RS w0 g l b w) (hb : b = true ∨ l.length < 4) :
    Calls Try.prog 50 #[.pointer (some ⟨g, 0, none⟩), .int .i64 4] w (TakePost w0 g (List.replicate 4 0) l true w) := by
  obtain ⟨v, hr, c0, c1, c2, f0, f2⟩ := h.cells
  have hsm := h.small
  obtain ⟨A, cap, rfl⟩ : ∃ A cap, v = .slice A l.length cap := by
    rcases hr with ⟨rfl, rfl⟩ | ⟨b, o, cap, rfl, hcap, _⟩
    · exact ⟨_, _, rfl⟩
    · exact ⟨_, _, rfl⟩
  have HF := hid (bad_fin h #[.int .u8 0, .int .u8 0, .int .u8 0, .int .u8 0] 4 rfl (by omega))
  have hmk : ∀ w, (Instr.makeSlice 44 (.int .i64 4) (.int .i64 4)).run Try.prog w = .ok (.slice (some ⟨w.heap.size, 0, none⟩) 4 4) (w.alloc (.cells #[.int .u8 0, .int .u8 0, .int .u8 0, .int .u8 0] 5)) := fun _ => by kernel_rfl
  clear h hr
  cases b with
  | true =>
    clear hb
    go_enter Try.func50, Try.ntmps50
    go_wp2
    go_ret
    exact HF.out
  | false =>
    have h3 : l.length < 4 := by rcases hb with hb | hb; cases hb; exact hb
    have t0 : decide ((l.length : Int) < 4) = true := decide_eq_true (by omega)
    have t1 : decide (l.length < 4) = true := decide_eq_true (by omega)
    clear hb
    go_enter Try.func50, Try.ntmps50
    go_wp2
    go_ret
    exact HF.out
set_option maxHeartbeats 2000000 in
set_option maxRecDepth 20000 in
theorem take_bad8 {w0 w : World} {g : Nat} {l : List UInt8} {b : Bool} (h : RS w0 g l b w) (hb : b = true ∨ l.length < 8) :
    Calls Try.prog 50 #[.pointer (some ⟨g, 0, none⟩), .int .i64 8] w (TakePost w0 g (List.replicate 8 0) l true w) := by
  obtain ⟨v, hr, c0, c1, c2, f0, f2⟩ := h.cells
  have hsm := h.small
  obtain ⟨A, cap, rfl⟩ : ∃ A cap, v = .slice A l.length cap := by
    rcases hr with ⟨rfl, rfl⟩ | ⟨b, o, cap, rfl, hcap, _⟩
    · exact ⟨_, _, rfl⟩
    · exact ⟨_, _, rfl⟩
  have HF := hid (bad_fin h #[.int .u8 0, .int .u8 0, .int .u8 0, .int .u8 0, .int .u8 0, .int .u8 0, .int .u8 0, .int .u8 0] 8 rfl (by omega))
  have hmk : ∀ w, (Instr.makeSlice 44 (.int .i64 8) (.int .i64 8)).run Try.prog w = .ok (.slice (some ⟨w.heap.size, 0, none⟩) 8 8) (w.alloc (.cells #[.int .u8 0, .int .u8 0, .int .u8 0, .int .u8 0, .int .u8 0, .int .u8 0, .int .u8 0, .int .u8 0] 5)) := fun _ => by kernel_rfl
  clear h hr
  cases b with
  | true =>
    clear hb
    go_enter Try.func50, Try.ntmps50
    go_wp2
    go_ret
    exact HF.out
  | false =>
    have h3 : l.length < 8 := by rcases hb with hb | hb; cases hb; exact hb
    have t0 : decide ((l.length : Int) < 8) = true := decide_eq_true (by omega)
    have t1 : decide (l.length < 8) = true := decide_eq_true (by omega)
    clear hb
    go_enter Try.func50, Try.ntmps50
    go_wp2
    go_ret
    exact HF.out
end Go.Proofs.Ytcgjacffemjehaa

namespace Go.Proofs.Ytcgjacffemjehaa
open Go.RowKit
set_option linter.unusedVariables false
theorem reads_some {w : World} {v : Value} {l : List UInt8} (h : ReadsB w v l) (n : Nat) (hn : l.length = n) (h0 : 0 < n) : ∃ b o cap, v = .slice (some ⟨b, o, none⟩) n cap ∧ n ≤ cap ∧ ∀ i, i < n → w.cell? ⟨b, o + i, none⟩ = some (cellOf (l.getD i 0)) := by
  subst hn
  rcases h with ⟨_, rfl⟩ | h
  · simp at h0
  · exact h
/-- The number of bytes, the highest first. -/
def beN (l : List UInt8) : Nat := l.foldl (fun n b => n * 256 + b.toNat) 0
theorem beN_snoc (l : List UInt8) (k : Nat) (hk : k < l.length) : beN (l.take (k + 1)) = beN (l.take k) * 256 + (l.getD k 0).toNat := by
  rw [List.take_succ_eq_append_getElem hk]
  unfold beN
  rw [List.foldl_append]
  simp only [List.foldl_cons, List.foldl_nil, List.getD, List.getElem?_eq_getElem hk, Option.getD_some]
theorem beN_lt (l : List UInt8) : beN l < 256 ^ l.length := by
  unfold beN
  suffices h : ∀ (l : List UInt8) (n : Nat) (k : Nat), n < 256 ^ k → l.foldl (fun n b => n * 256 + b.toNat) n < 256 ^ (k + l.length) by simpa using h l 0 0 (by simp)
  intro l
  induction l with
  | nil => intro n k h; simpa using h
  | cons b l ih =>
    intro n k h
    have hb := b.toNat_lt
    have := ih (n * 256 + b.toNat) (k + 1) (by rw [Nat.pow_succ]; omega)
    rw [List.foldl_cons, List.length_cons]
    rw [show k + (l.length + 1) = k + 1 + l.length by omega]
    exact this
theorem beN_zero (n : Nat) : beN (List.replicate n 0) = 0 := by
  unfold beN
  induction n with
  | zero => rfl
  | succ n ih => rw [List.replicate_succ, List.foldl_cons]; simpa using ih
def sizeR (l : List UInt8) (bad : Bool) : Nat × List UInt8 × Bool :=
  if bad = true ∨ l.length < 4 then (0, l, true) else if (l.drop 4).length < beN (l.take 4) then (0, l.drop 4, true) else (beN (l.take 4), l.drop 4, false)
def RPost (w0 : World) (g : Nat) (e0 : Ending) (l : List UInt8) (b : Bool) (w : World) (e : Ending) (w' : World) : Prop :=
  e = e0 ∧ RS w0 g l b w' ∧ Mod (fun k => k = g) w w'
theorem i64_wraps (n : Int) (h₀ : 0 ≤ n) (h₁ : n < 2 ^ 63) : IntKind.i64.wrap n = n := IntWalk.i64_in _ (by omega)
theorem or_byte (n x : Nat) (hn : n < 36028797018963968) (hx : x < 256) : bits .or .i64 ((n : Int) * 256) (x : Int) = ((n * 256 + x : Nat) : Int) := by
  rw [bits_join .i64 63 (by decide) i64_wraps 8 ((n : Int) * 256) (x : Int) (by omega) (by omega) (by omega) (by omega) (by omega) (by omega)]
  simp
set_option maxHeartbeats 4000000 in
set_option maxRecDepth 20000 in
theorem size_bad {w0 w : World} {g : Nat} {l : List UInt8} {b : Bool} (h : RS w0 g l b w) (n : Int) (hb : b = true ∨ l.length < 4) :
    Calls Try.prog 49 #[.pointer (some ⟨g, 0, none⟩), .int .i64 n] w (RPost w0 g (.returned (.int .i64 0)) l true w) := by
  obtain ⟨v, hr, c0, c1, c2, f0, f2⟩ := h.cells
  have hsm := h.small
  have H := hid h
  obtain ⟨r, hrr⟩ : ∃ r, List.replicate 4 (0 : UInt8) = r := ⟨_, rfl⟩
  have hr4 : r.length = 4 := by rw [← hrr]; simp
  have HRR := hid hrr
  have HR4 := hid hr4
  have HT := hid (take_bad4 h hb)
  rw [hrr] at HT
  clear h hr hrr hr4
  go_enter Try.func49, Try.ntmps49
  go_wp2_with (go_at_call 50; refine HT.out.mono ?_; intro e w1 hq; obtain ⟨v1, rfl, hr1, _, h1, hm1⟩ := hq; obtain ⟨B, o, cap, rfl, hcap, hcell⟩ := reads_some hr1 4 HR4.out (by omega); have H1 := hid h1; have HM := hid hm1; have HC := hid hcell; obtain ⟨v2, hr2, c0, c1, c2, f0, f2⟩ := h1.cells; clear h1 hm1 hr1 hcell)
  go_loop [36, 1] (fun i n => ∃ k : Nat, k ≤ 4 ∧ i = .int .i64 k ∧ n = .int .i64 (beN (r.take k) : Nat)) (fun i _ => 4 - (intOf i).toNat)
  case atStart => exact ⟨0, by omega, rfl, rfl⟩
  case round =>
    obtain ⟨k, hk, rfl, rfl⟩ := hrel
    have hlt := beN_lt (r.take k)
    have hle : (r.take k).length ≤ 4 := by rw [List.length_take]; omega
    have hpw : 256 ^ (r.take k).length ≤ 256 ^ 4 := Nat.pow_le_pow_right (by omega) hle
    by_cases hk4 : k < 4
    · have hs := beN_snoc r k (by have := HR4.out; omega)
      obtain ⟨x, hx⟩ : ∃ x, (r.getD k 0).toNat = x := ⟨_, rfl⟩
      have hx2 : x < 256 := by rw [← hx]; exact (r.getD k 0).toNat_lt
      have hc := HC.out k hk4
      rw [cellOf_def, hx] at hc
      rw [hx] at hs
      obtain ⟨m, hm⟩ : ∃ m, beN (r.take k) = m := ⟨_, rfl⟩
      rw [hm] at hs hlt ⊢
      have hm4 : m < 4294967296 := by omega
      have hor := or_byte m x (by omega) hx2
      have HS := hid hs
      clear hs hx hm hlt hpw hle
      go_wp2
      go_round
      case rel => exact ⟨k + 1, by omega, by go_num, by rw [HS.out]; go_num⟩
      case measure => simp [intOf]; omega
    · obtain rfl : k = 4 := by omega
      have ht4 : r.take 4 = r := List.take_of_length_le (by rw [HR4.out]; omega)
      rw [ht4] at hlt ⊢
      have HLT := hid hlt
      clear hlt hpw hle ht4
      rw [← HRR.out, beN_zero]
      obtain ⟨A2, k2, rfl⟩ : ∃ A2 k2, v2 = .slice A2 l.length k2 := by
        rcases hr2 with ⟨rfl, rfl⟩ | ⟨b, o, cap, rfl, hcap, _⟩ <;> exact ⟨_, _, rfl⟩
      clear hr2
      have t1 : decide ((l.length : Int) < 0) = false := decide_eq_false (by omega)
      go_wp2
      go_ret
      exact ⟨rfl, H1.out, HM.out⟩
set_option maxHeartbeats 4000000 in
set_option maxRecDepth 20000 in
theorem size_much {w0 w : World} {g : Nat} {l : List UInt8} (h : RS w0 g l false w) (n : Int) (h4 : 4 ≤ l.length) (hc : (l.drop 4).length < beN (l.take 4)) :
    Calls Try.prog 49 #[.pointer (some ⟨g, 0, none⟩), .int .i64 n] w (RPost w0 g (.returned (.int .i64 0)) (l.drop 4) true w) := by
  obtain ⟨v, hr, c0, c1, c2, f0, f2⟩ := h.cells
  have hsm := h.small
  have H := hid h
  obtain ⟨r, hrr⟩ : ∃ r, l.take 4 = r := ⟨_, rfl⟩
  have hr4 : r.length = 4 := by rw [← hrr]; rw [List.length_take]; omega
  have HRR := hid hrr
  have HR4 := hid hr4
  have HT := hid (take_ok h 4 (by omega))
  rw [hrr] at HT
  clear h hr hrr hr4
  go_enter Try.func49, Try.ntmps49
  go_wp2_with (go_at_call 50; refine HT.out.mono ?_; intro e w1 hq; obtain ⟨v1, rfl, hr1, _, h1, hm1⟩ := hq; obtain ⟨B, o, cap, rfl, hcap, hcell⟩ := reads_some hr1 4 HR4.out (by omega); have H1 := hid h1; have HM := hid hm1; have HC := hid hcell; obtain ⟨v2, hr2, c0, c1, c2, f0, f2⟩ := h1.cells; clear h1 hm1 hr1 hcell)
  go_loop [36, 1] (fun i n => ∃ k : Nat, k ≤ 4 ∧ i = .int .i64 k ∧ n = .int .i64 (beN (r.take k) : Nat)) (fun i _ => 4 - (intOf i).toNat)
  case atStart => exact ⟨0, by omega, rfl, rfl⟩
  case round =>
    obtain ⟨k, hk, rfl, rfl⟩ := hrel
    have hlt := beN_lt (r.take k)
    have hle : (r.take k).length ≤ 4 := by rw [List.length_take]; omega
    have hpw : 256 ^ (r.take k).length ≤ 256 ^ 4 := Nat.pow_le_pow_right (by omega) hle
    by_cases hk4 : k < 4
    · have hs := beN_snoc r k (by have := HR4.out; omega)
      obtain ⟨x, hx⟩ : ∃ x, (r.getD k 0).toNat = x := ⟨_, rfl⟩
      have hx2 : x < 256 := by rw [← hx]; exact (r.getD k 0).toNat_lt
      have hc := HC.out k hk4
      rw [cellOf_def, hx] at hc
      rw [hx] at hs
      obtain ⟨m, hm⟩ : ∃ m, beN (r.take k) = m := ⟨_, rfl⟩
      rw [hm] at hs hlt ⊢
      have hm4 : m < 4294967296 := by omega
      have hor := or_byte m x (by omega) hx2
      have HS := hid hs
      clear hs hx hm hlt hpw hle
      go_wp2
      go_round
      case rel => exact ⟨k + 1, by omega, by go_num, by rw [HS.out]; go_num⟩
      case measure => simp [intOf]; omega
    · obtain rfl : k = 4 := by omega
      have ht4 : r.take 4 = r := List.take_of_length_le (by rw [HR4.out]; omega)
      rw [ht4] at hlt ⊢
      have HLT := hid hlt
      clear hlt hpw hle ht4
      obtain ⟨A2, k2, rfl⟩ : ∃ A2 k2, v2 = .slice A2 (l.drop 4).length k2 := by
        rcases hr2 with ⟨rfl, h0⟩ | ⟨b, o, cap, rfl, hcap, _⟩
        · rw [h0]; exact ⟨_, _, rfl⟩
        · exact ⟨_, _, rfl⟩
      clear hr2
      obtain ⟨m, hm⟩ : ∃ m, beN r = m := ⟨_, rfl⟩
      obtain ⟨q, hq⟩ : ∃ q, (l.drop 4).length = q := ⟨_, rfl⟩
      rw [HRR.out, hm, hq] at hc
      rw [hm]
      rw [hq] at c0
      have HMM := hid hm
      clear hm hq
      have t1 : decide ((q : Int) < (m : Int)) = true := decide_eq_true (by omega)
      have t2 : decide (q < m) = true := decide_eq_true (by omega)
      go_wp2
      go_ret
      exact ⟨rfl, H1.out.setBad true, HM.out.trans (mod_set _ _ _ _) (fun _ e => .inl e)⟩
set_option maxHeartbeats 4000000 in
set_option maxRecDepth 20000 in
theorem size_ok {w0 w : World} {g : Nat} {l : List UInt8} (h : RS w0 g l false w) (n : Int) (h4 : 4 ≤ l.length) (hc : ¬ (l.drop 4).length < beN (l.take 4)) :
    Calls Try.prog 49 #[.pointer (some ⟨g, 0, none⟩), .int .i64 n] w (RPost w0 g (.returned (.int .i64 (beN (l.take 4) : Nat))) (l.drop 4) false w) := by
  obtain ⟨v, hr, c0, c1, c2, f0, f2⟩ := h.cells
  have hsm := h.small
  have H := hid h
  obtain ⟨r, hrr⟩ : ∃ r, l.take 4 = r := ⟨_, rfl⟩
  have hr4 : r.length = 4 := by rw [← hrr]; rw [List.length_take]; omega
  have HRR := hid hrr
  have HR4 := hid hr4
  have HT := hid (take_ok h 4 (by omega))
  rw [hrr] at HT
  clear h hr hrr hr4
  go_enter Try.func49, Try.ntmps49
  go_wp2_with (go_at_call 50; refine HT.out.mono ?_; intro e w1 hq; obtain ⟨v1, rfl, hr1, _, h1, hm1⟩ := hq; obtain ⟨B, o, cap, rfl, hcap, hcell⟩ := reads_some hr1 4 HR4.out (by omega); have H1 := hid h1; have HM := hid hm1; have HC := hid hcell; obtain ⟨v2, hr2, c0, c1, c2, f0, f2⟩ := h1.cells; clear h1 hm1 hr1 hcell)
  go_loop [36, 1] (fun i n => ∃ k : Nat, k ≤ 4 ∧ i = .int .i64 k ∧ n = .int .i64 (beN (r.take k) : Nat)) (fun i _ => 4 - (intOf i).toNat)
  case atStart => exact ⟨0, by omega, rfl, rfl⟩
  case round =>
    obtain ⟨k, hk, rfl, rfl⟩ := hrel
    have hlt := beN_lt (r.take k)
    have hle : (r.take k).length ≤ 4 := by rw [List.length_take]; omega
    have hpw : 256 ^ (r.take k).length ≤ 256 ^ 4 := Nat.pow_le_pow_right (by omega) hle
    by_cases hk4 : k < 4
    · have hs := beN_snoc r k (by have := HR4.out; omega)
      obtain ⟨x, hx⟩ : ∃ x, (r.getD k 0).toNat = x := ⟨_, rfl⟩
      have hx2 : x < 256 := by rw [← hx]; exact (r.getD k 0).toNat_lt
      have hc := HC.out k hk4
      rw [cellOf_def, hx] at hc
      rw [hx] at hs
      obtain ⟨m, hm⟩ : ∃ m, beN (r.take k) = m := ⟨_, rfl⟩
      rw [hm] at hs hlt ⊢
      have hm4 : m < 4294967296 := by omega
      have hor := or_byte m x (by omega) hx2
      have HS := hid hs
      clear hs hx hm hlt hpw hle
      go_wp2
      go_round
      case rel => exact ⟨k + 1, by omega, by go_num, by rw [HS.out]; go_num⟩
      case measure => simp [intOf]; omega
    · obtain rfl : k = 4 := by omega
      have ht4 : r.take 4 = r := List.take_of_length_le (by rw [HR4.out]; omega)
      rw [ht4] at hlt ⊢
      have HLT := hid hlt
      clear hlt hpw hle ht4
      obtain ⟨A2, k2, rfl⟩ : ∃ A2 k2, v2 = .slice A2 (l.drop 4).length k2 := by
        rcases hr2 with ⟨rfl, h0⟩ | ⟨b, o, cap, rfl, hcap, _⟩
        · rw [h0]; exact ⟨_, _, rfl⟩
        · exact ⟨_, _, rfl⟩
      clear hr2
      obtain ⟨m, hm⟩ : ∃ m, beN r = m := ⟨_, rfl⟩
      obtain ⟨q, hq⟩ : ∃ q, (l.drop 4).length = q := ⟨_, rfl⟩
      rw [HRR.out, hm, hq] at hc
      rw [hm]
      rw [hq] at c0
      have HMM := hid hm
      clear hm hq
      have t1 : decide ((q : Int) < (m : Int)) = false := decide_eq_false (by omega)
      have t2 : decide (q < m) = false := decide_eq_false (by omega)
      go_wp2
      go_ret
      exact ⟨by rw [HRR.out, HMM.out]; rfl, H1.out, HM.out⟩
theorem size_r {w0 w : World} {g : Nat} {l : List UInt8} {b : Bool} (h : RS w0 g l b w) (n : Int) :
    Calls Try.prog 49 #[.pointer (some ⟨g, 0, none⟩), .int .i64 n] w (RPost w0 g (.returned (.int .i64 ((sizeR l b).1 : Nat))) (sizeR l b).2.1 (sizeR l b).2.2 w) := by
  unfold sizeR
  by_cases c : b = true ∨ l.length < 4
  · rw [if_pos c]
    exact size_bad h n c
  · rw [if_neg c]
    have hb : b = false := by cases b <;> simp_all
    subst hb
    by_cases d : (l.drop 4).length < beN (l.take 4)
    · rw [if_pos d]; exact size_much h n (by omega) d
    · rw [if_neg d]; exact size_ok h n (by omega) d
theorem sizeR_bad {l : List UInt8} {b : Bool} {n : Nat} {l1 : List UInt8} (h : sizeR l b = (n, l1, true)) : n = 0 := by
  unfold sizeR at h
  split at h
  · exact (Prod.mk.inj h).1.symm
  · split at h
    · exact (Prod.mk.inj h).1.symm
    · have := (Prod.mk.inj (Prod.mk.inj h).2).2; simp at this
theorem sizeR_ok {l : List UInt8} {b : Bool} {n : Nat} {l1 : List UInt8} (h : sizeR l b = (n, l1, false)) : n ≤ l1.length := by
  unfold sizeR at h
  split at h
  · have := (Prod.mk.inj (Prod.mk.inj h).2).2; simp at this
  · split at h
    · have := (Prod.mk.inj (Prod.mk.inj h).2).2; simp at this
    · have h1 := (Prod.mk.inj h).1
      have h2 := (Prod.mk.inj (Prod.mk.inj h).2).1
      subst h1 h2
      omega
theorem sizeR_le (l : List UInt8) (b : Bool) : (sizeR l b).2.1.length ≤ l.length := by
  unfold sizeR
  split
  · exact Nat.le_refl _
  · split <;> (simp only [List.length_drop]; omega)
def textR (l : List UInt8) (b : Bool) : ByteArray × List UInt8 × Bool :=
  if (sizeR l b).2.2 = true then (⟨#[]⟩, (sizeR l b).2.1, true) else (⟨((sizeR l b).2.1.take (sizeR l b).1).toArray⟩, (sizeR l b).2.1.drop (sizeR l b).1, false)
/-- A block that is known whole. -/
def AtB (w : World) (bb : Nat) (T : TypeId) (cs : Array Value) : Prop := w.heap[bb]? = some (.cells cs T (0, 0))
theorem AtB.mod {w w' : World} {bb : Nat} {T : TypeId} {cs : Array Value} (h : AtB w bb T cs) {S : Nat → Prop} (hm : Mod S w w') (hS : ¬ S bb) : AtB w' bb T cs := hm.heap h hS
theorem AtB.cell {w : World} {bb : Nat} {T : TypeId} {cs : Array Value} (h : AtB w bb T cs) (o : Nat) : w.cell? ⟨bb, o, none⟩ = cs[o]? := by unfold AtB at h; simp [World.cell?, h]
theorem AtB.free {w : World} {bb : Nat} {T : TypeId} {cs : Array Value} (h : AtB w bb T cs) (o : Nat) : w.frozen? ⟨bb, o, none⟩ = false := by unfold AtB at h; simp [World.frozen?, h]
theorem AtB.set {w : World} {bb : Nat} {T : TypeId} {cs : Array Value} (h : AtB w bb T cs) (o : Nat) (u : Value) : AtB (w.setCell ⟨bb, o, none⟩ u) bb T (cs.setIfInBounds o u) := by
  unfold AtB at h ⊢
  simp [World.setCell, Array.getElem?_modify, h]
/-- What a reader answers: the coder goes on with l and b; the cell holds u. -/
def RP (w0 : World) (g bb : Nat) (T : TypeId) (cs : Array Value) (o : Nat) (u : Value) (l : List UInt8) (b : Bool) (w : World) (e : Ending) (w' : World) : Prop :=
  e = .returned (.tuple #[]) ∧ RS w0 g l b w' ∧ AtB w' bb T (cs.setIfInBounds o u) ∧ Mod (fun k => k = g ∨ k = bb) w w'
theorem rp_store {w0 : World} {g bb : Nat} {T : TypeId} {cs : Array Value} {o : Nat} {u : Value} {l : List UInt8} {b : Bool} {w w1 : World} (h : RS w0 g l b w1) (ha : AtB w1 bb T cs) (hm : Mod (fun k => k = g ∨ k = bb) w w1) (hne : bb ≠ g) (hge : w0.heap.size ≤ bb) :
    RP w0 g bb T cs o u l b w (.returned (.tuple #[])) (w1.setCell ⟨bb, o, none⟩ u) :=
  ⟨rfl, h.mod ((Mod.refl (fun k => k = bb) w1).setCell _ _ (.inl rfl)) (fun k e => by subst e; exact ⟨hge, hne⟩), ha.set o u, hm.setCell _ _ (.inl (.inr rfl))⟩
theorem str_of_list (l : List UInt8) : (strV l) = .string ⟨l.toArray⟩ := rfl
set_option maxHeartbeats 4000000 in
set_option maxRecDepth 20000 in
theorem text_r {w0 w : World} {g bb : Nat} {T : TypeId} {cs : Array Value} {o : Nat} {l : List UInt8} {b : Bool} (h : RS w0 g l b w) (ha : AtB w bb T cs) (hne : bb ≠ g) (hge : w0.heap.size ≤ bb) (s0 : ByteArray) (hs : cs[o]? = some (.string s0)) :
    Calls Try.prog 41 #[.pointer (some ⟨g, 0, none⟩), .pointer (some ⟨bb, o, none⟩)] w (RP w0 g bb T cs o (.string (textR l b).1) (textR l b).2.1 (textR l b).2.2 w) := by
  have hp := (ha.cell o).trans hs
  obtain ⟨⟨n, l1, b1⟩, hz⟩ : ∃ z, sizeR l b = z := ⟨_, rfl⟩
  have hsz := size_r h s0.size
  unfold textR
  rw [hz] at hsz ⊢
  have HSZ := hid hsz
  have HA := hid ha
  have HS := hid hs
  have H := hid h
  clear h ha hs hsz
  cases b1 with
  | true =>
    obtain rfl := sizeR_bad hz
    clear hz
    rw [if_pos rfl]
    go_enter Try.func41, Try.ntmps41
    go_wp2_with (first
      | (go_at_call 49; refine HSZ.out.mono ?_; intro e w1 hq; obtain ⟨rfl, h1, hm1⟩ := hq; have ha1 := HA.out.mod hm1 hne; have HA1 := hid ha1; have H1 := hid h1; have HM1 := hid hm1; have hp1 := (ha1.cell o).trans HS.out; have hf1 := ha1.free o; obtain ⟨v2, _, _, c1, _, _, _⟩ := h1.cells; clear h1 ha1 hm1)
      | (go_at_call 50; refine (take_bad0 H1.out (.inl rfl)).mono ?_; intro e w2 hq; obtain ⟨v1, rfl, hr2, _, h2, hm2⟩ := hq; have kc := run_string_of_reads (P := Try.prog) byteT Try.underlying9 hr2; have ha2 := HA1.out.mod hm2 hne; have HA2 := hid ha2; have H2 := hid h2; have HM2 := hid (HM1.out.trans hm2 (fun _ e => .inl e)); have hp2 := (ha2.cell o).trans HS.out; have hf2 := ha2.free o; clear h2 ha2 hm2 hr2))
    go_end0
    exact rp_store H2.out HA2.out (HM2.out.mono (fun _ _ e => .inl e)) hne hge
  | false =>
    have hn := sizeR_ok hz
    clear hz
    rw [if_neg (by simp)]
    go_enter Try.func41, Try.ntmps41
    go_wp2_with (first
      | (go_at_call 49; refine HSZ.out.mono ?_; intro e w1 hq; obtain ⟨rfl, h1, hm1⟩ := hq; have ha1 := HA.out.mod hm1 hne; have HA1 := hid ha1; have H1 := hid h1; have HM1 := hid hm1; have hp1 := (ha1.cell o).trans HS.out; have hf1 := ha1.free o; obtain ⟨v2, _, _, c1, _, _, _⟩ := h1.cells; clear h1 ha1 hm1)
      | (go_at_call 50; refine (take_ok H1.out n hn).mono ?_; intro e w2 hq; obtain ⟨v1, rfl, hr2, _, h2, hm2⟩ := hq; have kc := run_string_of_reads (P := Try.prog) byteT Try.underlying9 hr2; have ha2 := HA1.out.mod hm2 hne; have HA2 := hid ha2; have H2 := hid h2; have HM2 := hid (HM1.out.trans hm2 (fun _ e => .inl e)); have hp2 := (ha2.cell o).trans HS.out; have hf2 := ha2.free o; clear h2 ha2 hm2 hr2))
    go_end0
    exact rp_store H2.out HA2.out (HM2.out.mono (fun _ _ e => .inl e)) hne hge
end Go.Proofs.Ytcgjacffemjehaa

namespace Go.Proofs.Ytcgjacffemjehaa
open Go.RowKit
set_option linter.unusedVariables false
def numR (l : List UInt8) (b : Bool) : Int × List UInt8 × Bool :=
  if b = true ∨ l.length < 8 then (0, l, true) else (IntKind.i64.wrap (beN (l.take 8) : Nat), l.drop 8, false)
def truthR (l : List UInt8) (b : Bool) : Bool × List UInt8 × Bool :=
  if b = true ∨ l.length < 1 then (false, l, true) else (((l.getD 0 0).toNat : Int) == 1, l.drop 1, decide ((1 : Int) < ((l.getD 0 0).toNat : Int)))
theorem set_set (cs : Array Value) (o : Nat) (u v : Value) : (cs.setIfInBounds o u).setIfInBounds o v = cs.setIfInBounds o v := by
  apply Array.ext_getElem?
  intro i
  simp only [Array.getElem?_setIfInBounds]
  split <;> simp_all
theorem or_wrap (n x : Nat) (hn : n < 72057594037927936) (hx : x < 256) : bits .or .i64 (IntKind.i64.wrap ((n : Int) * 256)) (x : Int) = IntKind.i64.wrap ((n * 256 + x : Nat) : Int) := by
  have h1 : (BitVec.ofInt 64 (IntKind.i64.wrap ((n : Int) * 256))).toNat = n * 256 := by
    rw [BitVec.toNat_ofInt, IntKind.wrap_i64]
    omega
  have h2 : (BitVec.ofInt 64 ((x : Nat) : Int)).toNat = x := by
    rw [BitVec.toNat_ofInt]
    omega
  have h3 : n * 256 ||| x = n * 256 + x := by
    have e : n * 256 = 2 ^ 8 * n := Nat.mul_comm _ _
    rw [e]
    exact (Nat.two_pow_add_eq_or_of_lt (by omega) n).symm
  show IntKind.i64.wrap ((BitVec.ofInt 64 (IntKind.i64.wrap ((n : Int) * 256)) ||| BitVec.ofInt 64 ((x : Nat) : Int)).toNat : Int) = _
  rw [BitVec.toNat_or, h1, h2, h3]
set_option maxHeartbeats 4000000 in
set_option maxRecDepth 20000 in
theorem num_loop {w0 w : World} {g bb : Nat} {T : TypeId} {cs : Array Value} {o : Nat} {l l2 : List UInt8} {b b2 : Bool} (r : List UInt8) (hr8 : r.length = 8) (h : RS w0 g l b w) (ha : AtB w bb T cs) (hne : bb ≠ g) (hge : w0.heap.size ≤ bb) (ho : o < cs.size)
    (ht : ∀ w2, RS w0 g l b w2 → Calls Try.prog 50 #[.pointer (some ⟨g, 0, none⟩), .int .i64 8] w2 (TakePost w0 g r l2 b2 w2)) :
    Calls Try.prog 42 #[.pointer (some ⟨g, 0, none⟩), .pointer (some ⟨bb, o, none⟩)] w (RP w0 g bb T cs o (.int .i64 (IntKind.i64.wrap (beN r : Nat))) l2 b2 w) := by
  have hp : w.cell? ⟨bb, o, none⟩ = some cs[o] := (ha.cell o).trans (by simp [ho])
  have hf := ha.free o
  have hbl : bb < w.heap.size := lt_of_cell hp
  obtain ⟨v, hr, c0, c1, c2, f0, f2⟩ := h.cells
  have h1 := h.mod ((Mod.refl (fun k => k = bb) w).setCell ⟨bb, o, none⟩ (.int .i64 0) (.inl rfl)) (fun k e => by subst e; exact ⟨hge, hne⟩)
  have HT := hid (ht _ h1)
  have HA := hid (ha.set o (.int .i64 0))
  have HR8 := hid hr8
  clear ht h ha h1 hr hr8
  go_enter Try.func42, Try.ntmps42
  go_wp2_with (go_at_call 50; refine HT.out.mono ?_; intro e w1 hq; obtain ⟨v1, rfl, hr1, hB, h1, hm1⟩ := hq; obtain ⟨B, o2, cap, rfl, hcap, hcell⟩ := reads_some hr1 8 HR8.out (by omega); have hBb : B ≠ bb := (by have h0 := hB B o2 8 cap rfl (by rw [HR8.out]; omega); simp [World.setCell] at h0; omega); clear hB; have H1 := hid h1; have HM := hid (((Mod.refl (fun k => k = g ∨ k = bb) w).setCell ⟨bb, o, none⟩ (.int .i64 0) (.inl (.inr rfl))).trans hm1 (fun _ e => .inl (.inl e))); have HC := hid hcell; have HA1 := hid (HA.out.mod hm1 hne); clear h1 hm1 hr1 hcell)
  have HC2 : Hid (∀ i, i < 8 → w1.cell? ⟨B, o2 + i, none⟩ = some (.int .u8 ((r.getD i 0).toNat : Int))) := hid (by
    intro i hi
    rw [HC.out i hi]
    rfl)
  go_loopw [36] (fun i wr => ∃ k : Nat, k ≤ 8 ∧ i = .int .i64 k ∧ AtB wr bb T (cs.setIfInBounds o (.int .i64 (IntKind.i64.wrap (beN (r.take k) : Nat)))) ∧ Mod (fun x => x = bb) w1 wr) (fun i _ => 8 - (intOf i).toNat)
  case atStart => exact ⟨0, by omega, rfl, HA1.out, Mod.refl _ _⟩
  case round =>
    obtain ⟨k, hk, rfl, ha2, hm2⟩ := hrel
    have hp2 : wr.cell? ⟨bb, o, none⟩ = some (.int .i64 (IntKind.i64.wrap (beN (r.take k) : Nat))) := (ha2.cell o).trans (by simp [ho])
    have hf2 := ha2.free o
    have HA2 := hid ha2
    have HM2 := hid hm2
    clear ha2 hm2
    by_cases hk4 : k < 8
    · have hlt := beN_lt (r.take k)
      have hle : (r.take k).length ≤ 7 := by rw [List.length_take]; omega
      have hpw : 256 ^ (r.take k).length ≤ 256 ^ 7 := Nat.pow_le_pow_right (by omega) hle
      have hs := beN_snoc r k (by have := HR8.out; omega)
      have hc0 := HC2.out k hk4
      obtain ⟨x, hx⟩ : ∃ x, (r.getD k 0).toNat = x := ⟨_, rfl⟩
      have hx2 : x < 256 := by rw [← hx]; exact (r.getD k 0).toNat_lt
      rw [hx] at hc0 hs
      have hc : wr.cell? ⟨B, o2 + k, none⟩ = some (.int .u8 (x : Int)) := HM2.out.cell hc0 (by exact hBb)
      obtain ⟨m, hm⟩ : ∃ m, beN (r.take k) = m := ⟨_, rfl⟩
      rw [hm] at hs hlt hp2
      have hm7 : m < 72057594037927936 := by omega
      have hwm : IntKind.i64.wrap (m : Int) = (m : Int) := IntWalk.i64_in _ (by omega)
      rw [hwm] at hp2
      have hor : bits .or .i64 (wrap64 ((m : Int) * 256)) (x : Int) = IntKind.i64.wrap ((m * 256 + x : Nat) : Int) := by
        have h9 := or_wrap m x hm7 hx2
        rw [IntWalk.i64_left ((m : Int) * 256)] at h9
        exact h9
      have HOR := hid hor
      clear hor
      have HS := hid hs
      have HX := hid hx
      have HWM := hid hwm
      have HMM := hid hm
      clear hs hx hm hlt hpw hle hc0 hwm
      go_wp2
      go_roundw
      case rel =>
        refine ⟨k + 1, by omega, by go_num, ?_, (HM2.out.setCell _ _ (.inl rfl))⟩
        have h5 := HA2.out.set o (.int .i64 (IntKind.i64.wrap (m * 256 + x : Nat)))
        rw [set_set] at h5
        rw [HS.out, HOR.out]
        exact h5
      case measure => simp [intOf]; omega
    · obtain rfl : k = 8 := by omega
      have ht8 : r.take 8 = r := List.take_of_length_le (by rw [HR8.out]; omega)
      rw [ht8] at HA2
      go_wp2
      go_end0
      exact ⟨rfl, H1.out.mod HM2.out (fun x e => by subst e; exact ⟨hge, hne⟩), HA2.out, HM.out.trans HM2.out (fun x e => .inl (.inr e))⟩
theorem num_r {w0 w : World} {g bb : Nat} {T : TypeId} {cs : Array Value} {o : Nat} {l : List UInt8} {b : Bool} (h : RS w0 g l b w) (ha : AtB w bb T cs) (hne : bb ≠ g) (hge : w0.heap.size ≤ bb) (ho : o < cs.size) :
    Calls Try.prog 42 #[.pointer (some ⟨g, 0, none⟩), .pointer (some ⟨bb, o, none⟩)] w (RP w0 g bb T cs o (.int .i64 (numR l b).1) (numR l b).2.1 (numR l b).2.2 w) := by
  unfold numR
  by_cases c : b = true ∨ l.length < 8
  · rw [if_pos c]
    have := num_loop (List.replicate 8 0) (by simp) h ha hne hge ho (fun w2 h2 => take_bad8 h2 c)
    rw [beN_zero] at this
    exact this
  · rw [if_neg c]
    have hb : b = false := by cases b <;> simp_all
    subst hb
    exact num_loop (l.take 8) (by rw [List.length_take]; omega) h ha hne hge ho (fun w2 h2 => take_ok h2 8 (by omega))
set_option maxHeartbeats 4000000 in
set_option maxRecDepth 20000 in
theorem truth_one {w0 w : World} {g bb : Nat} {T : TypeId} {cs : Array Value} {o : Nat} {l l2 : List UInt8} {b b2 : Bool} (x : UInt8) (h : RS w0 g l b w) (ha : AtB w bb T cs) (hne : bb ≠ g) (hge : w0.heap.size ≤ bb) (ho : o < cs.size)
    (ht : Calls Try.prog 50 #[.pointer (some ⟨g, 0, none⟩), .int .i64 1] w (TakePost w0 g [x] l2 b2 w)) :
    Calls Try.prog 44 #[.pointer (some ⟨g, 0, none⟩), .pointer (some ⟨bb, o, none⟩)] w (RP w0 g bb T cs o (.bool ((x.toNat : Int) == 1)) l2 (b2 || decide ((1 : Int) < (x.toNat : Int))) w) := by
  obtain ⟨v, hr, c0, c1, c2, f0, f2⟩ := h.cells
  have HT := hid ht
  have HA := hid ha
  clear ht h ha hr
  cases b2
  all_goals
    go_enter Try.func44, Try.ntmps44
    go_wp2_with (go_at_call 50; refine HT.out.mono ?_; intro e w1 hq; obtain ⟨v1, rfl, hr1, _, h1, hm1⟩ := hq; obtain ⟨B, o2, cap, rfl, hcap, hcell⟩ := reads_some hr1 1 rfl (by omega); have H1 := hid h1; have ha1 := HA.out.mod hm1 hne; have HA1 := hid ha1; have hp1 : w1.cell? ⟨bb, o, none⟩ = some cs[o] := (ha1.cell o).trans (by simp [ho]); have hf1 := ha1.free o; have HM := hid hm1; have hx0 : w1.cell? ⟨B, o2, none⟩ = some (.int .u8 (x.toNat : Int)) := hcell 0 (by omega); obtain ⟨v2, hr2, c0, c1, c2, f0, f2⟩ := h1.cells; clear h1 hm1 hr1 hcell hr2 ha1)
  · go_end0
    refine rp_store (H1.out.setBad (decide ((1 : Int) < (x.toNat : Int)))) ?_ ((HM.out.mono (fun _ _ e => .inl e)).setCell _ _ (.inl (.inl rfl))) hne hge
    exact HA1.out.mod (mod_set w1 g 2 _) hne
  · go_end0
    refine rp_store (H1.out.setBad true) ?_ ((HM.out.mono (fun _ _ e => .inl e)).setCell _ _ (.inl (.inl rfl))) hne hge
    exact HA1.out.mod (mod_set w1 g 2 _) hne
theorem truth_r {w0 w : World} {g bb : Nat} {T : TypeId} {cs : Array Value} {o : Nat} {l : List UInt8} {b : Bool} (h : RS w0 g l b w) (ha : AtB w bb T cs) (hne : bb ≠ g) (hge : w0.heap.size ≤ bb) (ho : o < cs.size) :
    Calls Try.prog 44 #[.pointer (some ⟨g, 0, none⟩), .pointer (some ⟨bb, o, none⟩)] w (RP w0 g bb T cs o (.bool (truthR l b).1) (truthR l b).2.1 (truthR l b).2.2 w) := by
  unfold truthR
  by_cases c : b = true ∨ l.length < 1
  · rw [if_pos c]
    exact truth_one 0 h ha hne hge ho (take_bad1 h c)
  · rw [if_neg c]
    have hb : b = false := by cases b <;> simp_all
    subst hb
    have ht := take_ok h 1 (by omega)
    have hl : l.take 1 = [l.getD 0 0] := by
      cases l with
      | nil => simp at c
      | cons x r => simp
    rw [hl] at ht
    have := truth_one (l.getD 0 0) h ha hne hge ho ht
    simpa using this
end Go.Proofs.Ytcgjacffemjehaa

namespace Go.Proofs.Ytcgjacffemjehaa
open Go.RowKit
open Go.Proofs.YtcgjacffemjehaaW.PrintWords (Kd rdOf)
open Go.Proofs.Ytcgjacffemjehaa.PRowPacks
set_option linter.unusedVariables false
theorem einfoS : (Try.prog.info? 9).map (fun i => (i.zero, i.size, i.bytes)) = some (some (.string ⟨#[]⟩), 1, 16) := by kernel_rfl
def listLoop {α : Type} (one : List UInt8 → Bool → α × List UInt8 × Bool) : Nat → List α → List UInt8 → Bool → List α × List UInt8 × Bool
  | 0, acc, l, b => (acc, l, b)
  | k + 1, acc, l, b => if b = true then (acc, l, b) else listLoop one k (acc ++ [(one l b).1]) (one l b).2.1 (one l b).2.2
theorem listLoop_bad {α : Type} (one : List UInt8 → Bool → α × List UInt8 × Bool) (k : Nat) (acc : List α) (l : List UInt8) : listLoop one k acc l true = (acc, l, true) := by
  cases k with
  | zero => rfl
  | succ k => rw [listLoop, if_pos rfl]
def listR {α : Type} (one : List UInt8 → Bool → α × List UInt8 × Bool) (l : List UInt8) (b : Bool) : List α × List UInt8 × Bool := listLoop one (sizeR l b).1 [] (sizeR l b).2.1 (sizeR l b).2.2
/-- What a reader of a list answers. -/
def RL {α : Type} (w0 : World) (g bb : Nat) (T : TypeId) (cs : Array Value) (o : Nat) (d : Kd α) (e0 : TypeId) (xs : List α) (l : List UInt8) (b : Bool) (w : World) (e : Ending) (w' : World) : Prop :=
  e = .returned (.tuple #[]) ∧ RS w0 g l b w' ∧ (∃ v, AtB w' bb T (cs.setIfInBounds o v) ∧ d.R e0 w' w.heap.size (fun _ => True) v xs) ∧ Mod (fun k => k = g ∨ k = bb) w w'
set_option maxHeartbeats 1000000 in
theorem word_r {w0 w : World} {g bb : Nat} {T : TypeId} {cs : Array Value} {o : Nat} {l : List UInt8} {b : Bool} (h : RS w0 g l b w) (ha : AtB w bb T cs) (hne : bb ≠ g) (hge : w0.heap.size ≤ bb) (s0 : ByteArray) (hs : cs[o]? = some (.string s0)) :
    Calls Try.prog 52 #[.pointer (some ⟨g, 0, none⟩), .pointer (some ⟨bb, o, none⟩)] w (RP w0 g bb T cs o (.string (textR l b).1) (textR l b).2.1 (textR l b).2.2 w) := by
  go_enter Try.func52, Try.ntmps52
  go_wp2_with fail
  refine (text_r h ha hne hge s0 hs).mono ?_
  intro e w1 hq
  obtain ⟨rfl, h1, h2, h3⟩ := hq
  go_wp2
  go_end0
  exact ⟨rfl, h1, h2, h3⟩
theorem lt_atB {w : World} {bb : Nat} {T : TypeId} {cs : Array Value} (h : AtB w bb T cs) : bb < w.heap.size := lt_of_heap h
theorem r_mod {α : Type} {d : Kd α} {e : TypeId} {w w1 : World} {base : Nat} {v : Value} {xs : List α} {S : Nat → Prop} (h : d.R e w base (fun _ => True) v xs) (hm : Mod S w w1) (hS : ∀ k, S k → k < base ∨ w.heap.size ≤ k) : d.R e w1 base (fun _ => True) v xs :=
  Kd.R_mono (Kd.R_step (Kd.R_bound h) (fun k hk hlt => hm.block k hlt (fun e => by have := hS k e; have := hk.2.1; omega))) (fun _ _ => trivial)
theorem r_form {α : Type} {d : Kd α} {e : TypeId} {w : World} {base : Nat} {ok : Nat → Prop} {v : Value} {xs : List α} (h : d.R e w base ok v xs) : ∃ A m c, v = .slice A m c := by
  obtain ⟨A, c, rfl⟩ := Kd.R_slice h
  exact ⟨_, _, _, rfl⟩
theorem r_base {α : Type} {d : Kd α} {e : TypeId} {w : World} {base : Nat} {ok : Nat → Prop} {v : Value} {xs : List α} (h : d.R e w base ok v xs) {k : Nat} (hk : v.ownBlock = some k) : base ≤ k := (Kd.R_bound h).1 k hk |>.2.1
theorem app_mod {α : Type} {d : Kd α} {e : TypeId} {w w' : World} {base : Nat} {ok : Nat → Prop} {v : Value} {xs : List α} (h : d.R e w base ok v xs) (hg : w.drew.grownBy w' v.ownBlock) : Mod (fun x => v.ownBlock = some x) w w' :=
  (Mod.drew (Mod.refl (fun x => v.ownBlock = some x) w)).grown hg (fun k e => .inl e)
set_option maxHeartbeats 4000000 in
set_option maxRecDepth 20000 in
theorem listS_r {w0 w : World} {g bb : Nat} {T : TypeId} {cs : Array Value} {o : Nat} {l : List UInt8} {b : Bool} (h : RS w0 g l b w) (ha : AtB w bb T cs) (hne : bb ≠ g) (hge : w0.heap.size ≤ bb) (A0 : Option Addr) (n0 c0 : Nat) (hs : cs[o]? = some (.slice A0 n0 c0)) (hT : ∀ q, q ∈ 9 :: Kd.string.E → q ≠ T) :
    Calls Try.prog 51 #[.pointer (some ⟨g, 0, none⟩), .pointer (some ⟨bb, o, none⟩), .func (.func 52) #[] #[]] w (RL w0 g bb T cs o Kd.string 9 (listR textR l b).1 (listR textR l b).2.1 (listR textR l b).2.2 w) := by
  have hp := (ha.cell o).trans hs
  have hoS : o < cs.size := by
    rcases Nat.lt_or_ge o cs.size with h | h
    · exact h
    · rw [Array.getElem?_eq_none h] at hs; cases hs
  obtain ⟨F, hF⟩ : ∃ F, listR textR l b = F := ⟨_, rfl⟩
  unfold listR at hF
  rw [show listR textR l b = F from hF]
  obtain ⟨⟨n, l1, b1⟩, hz⟩ : ∃ z, sizeR l b = z := ⟨_, rfl⟩
  have hsz := size_r h n0
  rw [hz] at hsz hF
  have hnl : n ≤ 1099511627776 := by
    cases b1 with
    | true => have := sizeR_bad hz; omega
    | false => have h1 := sizeR_ok hz; have h2 := sizeR_le l b; rw [hz] at h2; have := h.small; simp only at h2; omega
  have HF := hid hF
  have HSZ := hid hsz
  have HA := hid ha
  have HS := hid hs
  have H := hid h
  have hbw := lt_atB ha
  have HTT := hid hT
  clear hT h ha hs hsz hz hF
  go_enter Try.func51, Try.ntmps51
  go_wp2_with (go_at_call 49; refine HSZ.out.mono ?_; intro e w1 hq; obtain ⟨rfl, h1, hm1⟩ := hq; have ha1 := HA.out.mod hm1 hne; have HA1 := hid ha1; have H1 := hid h1; have HM1 := hid hm1; have hp1 := (ha1.cell o).trans HS.out; have hf1 := ha1.free o; obtain ⟨v2, _, _, c1, c2, _, _⟩ := h1.cells; clear h1 ha1 hm1)
  go_loopw [7] (fun i wr => ∃ (k : Nat) (acc : List ByteArray) (l2 : List UInt8) (b2 : Bool) (v : Value), i = .int .i64 k ∧ k ≤ n ∧ acc.length = k ∧ Hid (listLoop textR (n - k) acc l2 b2 = F) ∧ RS w0 g l2 b2 wr ∧ AtB wr bb T (cs.setIfInBounds o v) ∧ Kd.string.R 9 wr w.heap.size (fun _ => True) v acc ∧ Mod (fun x => x = g ∨ x = bb) w wr) (fun i _ => n - (intOf i).toNat)
  case atStart =>
    refine ⟨0, [], l1, b1, .slice none 0 0, rfl, by omega, rfl, by simpa using HF, H1.out.mod ((Mod.refl (fun x => x = bb) w1).setCell _ _ (.inl rfl)) (fun k e => by subst e; exact ⟨hge, hne⟩), HA1.out.set o _, Kd.R_nil _ _ _ _ _, ((HM1.out.mono (fun _ _ e => .inl e)).setCell _ _ (.inl (.inr rfl)))⟩
  case round =>
    obtain ⟨k, acc, l2, b2, v, rfl, hk, hacc, hloop, h2, ha2, hr2, hm2⟩ := hrel
    have hp2 : wr.cell? ⟨bb, o, none⟩ = some v := (ha2.cell o).trans (by simp [hoS])
    have hf2 := ha2.free o
    obtain ⟨v2, _, d0, d1, d2, _, _⟩ := h2.cells
    have H2 := hid h2
    have HA2 := hid ha2
    have HR2 := hid hr2
    have HM2 := hid hm2
    have hgl := h2.lt
    have hw2 := hm2.size
    clear h2 ha2 hr2 hm2
    by_cases hkn : k < n
    · have t0 : decide (k < n) = true := decide_eq_true hkn
      cases b2 with
      | true =>
        go_wp2
        go_end0
        have h9 := hloop.out
        rw [listLoop_bad] at h9
        rw [← h9]
        exact ⟨rfl, H2.out, ⟨v, HA2.out, HR2.out⟩, HM2.out⟩
      | false =>
        have hx1 := H2.out.mod (Mod.alloc (Mod.refl (fun _ => False) _) (.cells #[.string ⟨#[]⟩] 9)) (fun k e => e.elim)
        have hx2 : AtB (wr.alloc (.cells #[.string ⟨#[]⟩] 9)) wr.heap.size 9 #[.string ⟨#[]⟩] := heap_alloc_new wr _
        have HX1 := hid hx1
        have HX2 := hid hx2
        clear hx1 hx2
        obtain ⟨s, hs⟩ : ∃ s, (textR l2 false).1 = s := ⟨_, rfl⟩
        obtain ⟨l3, hl3⟩ : ∃ l3, (textR l2 false).2.1 = l3 := ⟨_, rfl⟩
        obtain ⟨b3, hb3⟩ : ∃ b3, (textR l2 false).2.2 = b3 := ⟨_, rfl⟩
        have hword := word_r (g := g) (o := 0) HX1.out HX2.out (by omega) (by have := H2.out.base; omega) ⟨#[]⟩ rfl
        rw [hs, hl3, hb3] at hword
        have HW := hid hword
        have HLS := hid hs
        have HL3 := hid hl3
        have HB3 := hid hb3
        have hgw : g < w.heap.size := H.out.lt
        clear hword hs hl3 hb3
        go_wp2_with (go_at_call 52; refine HW.out.mono ?_; intro e w2 hq; obtain ⟨rfl, h3, ha3, hm3⟩ := hq; have hm4 : Mod (fun x => x = g ∨ x = wr.heap.size) wr w2 := (Mod.alloc (Mod.refl (fun x => x = g ∨ x = wr.heap.size) wr) _).trans hm3 (fun _ e => .inl e); have H3 := hid h3; have ha4 := HA2.out.mod hm4 (by omega); have HA4 := hid ha4; have hp3 : w2.cell? ⟨bb, o, none⟩ = some v := (ha4.cell o).trans (by simp [hoS]); have hf3 := ha4.free o; have hx3 : w2.cell? ⟨wr.heap.size, 0, none⟩ = some (.string s) := ha3.cell 0; have HR3 := hid (r_mod HR2.out hm4 (fun x e => by omega)); have HM3 := hid (HM2.out.trans hm4 (fun x e => by omega)); have hn1 : ∀ q, (w2.alloc q).cell? ⟨bb, o, none⟩ = some v := (fun q => (World.cell?_alloc_lt w2 q ⟨bb, o, none⟩ (lt_of_cell hp3)).trans hp3); have hn2 : ∀ q, (w2.alloc q).cell? ⟨wr.heap.size, 0, none⟩ = some (.string s) := (fun q => (World.cell?_alloc_lt w2 q ⟨wr.heap.size, 0, none⟩ (lt_of_cell hx3)).trans hx3); have hw3 := hm4.size; clear h3 ha3 hm3 hm4 ha4)
        go_region_law (refine Kd.R_append_step (w0 := w2.drew) (W := w2.drew) Kd.string w.heap.size (by simp [Region.wanted]) (.tmp 43) (.tmp 45) 22 9 (.string ⟨#[]⟩) 16 (by rfl) Try.underlying22 einfoS (by rfl) (by decide) (by decide) v acc s [.string s] (fun _ => True) (fun _ => False) (by rfl) (by rfl) (by rfl) (fun _ e => e.elim) (fun _ _ => trivial) HR3.out (Below.refl _ _) (by show w.heap.size ≤ w2.heap.size; omega) (by rw [hacc]; omega) ?_; intro v' w3 hr4 _ hg4 _; obtain ⟨A5, m5, c5, rfl⟩ := r_form hr4; have hne5 := Kd.R_ne HR3.out HA4.out (HTT.out _ List.mem_cons_self); have ha5 : AtB w3 bb T (cs.setIfInBounds o v) := (hg4.block bb (lt_atB HA4.out) hne5).trans HA4.out; have hf5 := ha5.free o; have hp5 : w3.cell? ⟨bb, o, none⟩ = some v := (ha5.cell o).trans (by simp [hoS]); have HR5 := hid hr4; have HA5 := hid ha5; have HG5 := hid hg4; clear hr4 ha5 hg4)
        all_goals
          have hm5 := app_mod HR3.out HG5.out
          have hS := fun x (e : v.ownBlock = some x) => r_base HR3.out e
          go_wp2
          go_roundw
          case rel =>
            refine ⟨k + 1, acc ++ [s], l3, b3, .slice A5 m5 c5, by go_num, by omega, by rw [List.length_append, hacc]; rfl, ?_, ?_, ?_, ?_, ?_⟩
            · have h9 := hloop.out
              rw [show n - k = (n - (k + 1)) + 1 by omega, listLoop, if_neg (by simp), HLS.out, HL3.out, HB3.out] at h9
              exact hid h9
            · exact (H3.out.mod hm5 (fun x e => by have := hS x e; have := H.out.base; omega)).mod ((Mod.refl (fun x => x = bb) w3).setCell _ _ (.inl rfl)) (fun x e => by subst e; exact ⟨hge, hne⟩)
            · have h9 := HA5.out.set o (.slice A5 m5 c5)
              rw [set_set] at h9
              exact h9
            · exact Kd.R_set HR5.out HA5.out HTT.out o _
            · exact (HM3.out.trans hm5 (fun x e => .inr (hS x e))).setCell _ _ (.inl (.inr rfl))
          case measure => simp [intOf]; omega
    · have t0 : decide (k < n) = false := decide_eq_false hkn
      obtain rfl : k = n := by omega
      go_wp2
      go_end0
      have h9 := hloop.out
      rw [Nat.sub_self] at h9
      rw [← h9]
      exact ⟨rfl, H2.out, ⟨v, HA2.out, HR2.out⟩, HM2.out⟩
end Go.Proofs.Ytcgjacffemjehaa

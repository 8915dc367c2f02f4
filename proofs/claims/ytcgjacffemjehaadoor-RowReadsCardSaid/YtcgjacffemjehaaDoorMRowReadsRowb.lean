/-
  RowRn, RowRl, RowRk, RowRt, RowU0: this proof's parts in one text.
-/
import Derived.Test.YtcgjacffemjehaaDoorMRowReadsRowa
namespace Go.Proofs.YtcgjacffemjehaaDoor
open Go.RowKit
set_option linter.unusedVariables false
def numR (l : List UInt8) (b : Bool) : Int × List UInt8 × Bool :=
  if b = true ∨ l.length < 8 then (0, l, true) else (IntKind.i64.wrap (beN (l.take 8) : Nat), l.drop 8, false)
def truthR (l : List UInt8) (b : Bool) : Bool × List UInt8 × Bool :=
  if b = true ∨ l.length < 1 then (false, l, true) else (((l.getD 0 0).toNat : Int) == 1, l.drop 1, decide ((1 : Int) < ((l.getD 0 0).toNat : Int)))
theorem set_set (cs : Array Value) (o : Nat) (u v : Value) : (cs.setIfInBounds o u).setIfInBounds o v = cs.setIfInBounds o v := by
  apply Array.ext_getElem?
  intro i
  simp only [Array.getElem?_setIfInBounds]
  split <;> simp_all
theorem or_wrap (n x : Nat) (hn : n < 72057594037927936) (hx : x < 256) : bits .or .i64 (IntKind.i64.wrap ((n : Int) * 256)) (x : Int) = IntKind.i64.wrap ((n * 256 + x : Nat) : Int) := by
  have h1 : (BitVec.ofInt 64 (IntKind.i64.wrap ((n : Int) * 256))).toNat = n * 256 := by
    rw [BitVec.toNat_ofInt, IntKind.wrap_i64]
    omega
  have h2 : (BitVec.ofInt 64 ((x : Nat) : Int)).toNat = x := by
    rw [BitVec.toNat_ofInt]
    omega
  have h3 : n * 256 ||| x = n * 256 + x := by
    have e : n * 256 = 2 ^ 8 * n := Nat.mul_comm _ _
    rw [e]
    exact (Nat.two_pow_add_eq_or_of_lt (by omega) n).symm
  show IntKind.i64.wrap ((BitVec.ofInt 64 (IntKind.i64.wrap ((n : Int) * 256)) ||| BitVec.ofInt 64 ((x : Nat) : Int)).toNat : Int) = _
  rw [BitVec.toNat_or, h1, h2, h3]
set_option maxHeartbeats 4000000 in
set_option maxRecDepth 20000 in
theorem num_loop {w0 w : World} {g bb : Nat} {T : TypeId} {cs : Array Value} {o : Nat} {l l2 : List UInt8} {b b2 : Bool} (r : List UInt8) (hr8 : r.length = 8) (h : RS w0 g l b w) (ha : AtB w bb T cs) (hne : bb ≠ g) (hge : w0.heap.size ≤ bb) (ho : o < cs.size)
    (ht : ∀ w2, RS w0 g l b w2 → Calls Tryd.prog 80 #[.pointer (some ⟨g, 0, none⟩), .int .i64 8] w2 (TakePost w0 g r l2 b2 w2)) :
    Calls Tryd.prog 68 #[.pointer (some ⟨g, 0, none⟩), .pointer (some ⟨bb, o, none⟩)] w (RP w0 g bb T cs o (.int .i64 (IntKind.i64.wrap (beN r : Nat))) l2 b2 w) := by
  have hp : w.cell? ⟨bb, o, none⟩ = some cs[o] := (ha.cell o).trans (by simp [ho])
  have hf := ha.free o
  have hbl : bb < w.heap.size := lt_of_cell hp
  obtain ⟨v, hr, c0, c1, c2, f0, f2⟩ := h.cells
  have h1 := h.mod ((Mod.refl (fun k => k = bb) w).setCell ⟨bb, o, none⟩ (.int .i64 0) (.inl rfl)) (fun k e => by subst e; exact ⟨hge, hne⟩)
  have HT := hid (ht _ h1)
  have HA := hid (ha.set o (.int .i64 0))
  have HR8 := hid hr8
  clear ht h ha h1 hr hr8
  go_enter Tryd.func68, Tryd.ntmps68
  go_wp2_with (go_at_call 80; refine HT.out.mono ?_; intro e w1 hq; obtain ⟨v1, rfl, hr1, hB, h1, hm1⟩ := hq; obtain ⟨B, o2, cap, rfl, hcap, hcell⟩ := reads_some hr1 8 HR8.out (by omega); have hBb : B ≠ bb := (by have h0 := hB B o2 8 cap rfl (by rw [HR8.out]; omega); simp [World.setCell] at h0; omega); clear hB; have H1 := hid h1; have HM := hid (((Mod.refl (fun k => k = g ∨ k = bb) w).setCell ⟨bb, o, none⟩ (.int .i64 0) (.inl (.inr rfl))).trans hm1 (fun _ e => .inl (.inl e))); have HC := hid hcell; have HA1 := hid (HA.out.mod hm1 hne); clear h1 hm1 hr1 hcell)
  have HC2 : Hid (∀ i, i < 8 → w1.cell? ⟨B, o2 + i, none⟩ = some (.int .u8 ((r.getD i 0).toNat : Int))) := hid (by
    intro i hi
    rw [HC.out i hi]
    rfl)
  go_loopw [36] (fun i wr => ∃ k : Nat, k ≤ 8 ∧ i = .int .i64 k ∧ AtB wr bb T (cs.setIfInBounds o (.int .i64 (IntKind.i64.wrap (beN (r.take k) : Nat)))) ∧ Mod (fun x => x = bb) w1 wr) (fun i _ => 8 - (intOf i).toNat)
  case atStart => exact ⟨0, by omega, rfl, HA1.out, Mod.refl _ _⟩
  case round =>
    obtain ⟨k, hk, rfl, ha2, hm2⟩ := hrel
    have hp2 : wr.cell? ⟨bb, o, none⟩ = some (.int .i64 (IntKind.i64.wrap (beN (r.take k) : Nat))) := (ha2.cell o).trans (by simp [ho])
    have hf2 := ha2.free o
    have HA2 := hid ha2
    have HM2 := hid hm2
    clear ha2 hm2
    by_cases hk4 : k < 8
    · have hlt := beN_lt (r.take k)
      have hle : (r.take k).length ≤ 7 := by rw [List.length_take]; omega
      have hpw : 256 ^ (r.take k).length ≤ 256 ^ 7 := Nat.pow_le_pow_right (by omega) hle
      have hs := beN_snoc r k (by have := HR8.out; omega)
      have hc0 := HC2.out k hk4
      obtain ⟨x, hx⟩ : ∃ x, (r.getD k 0).toNat = x := ⟨_, rfl⟩
      have hx2 : x < 256 := by rw [← hx]; exact (r.getD k 0).toNat_lt
      rw [hx] at hc0 hs
      have hc : wr.cell? ⟨B, o2 + k, none⟩ = some (.int .u8 (x : Int)) := HM2.out.cell hc0 (by exact hBb)
      obtain ⟨m, hm⟩ : ∃ m, beN (r.take k) = m := ⟨_, rfl⟩
      rw [hm] at hs hlt hp2
      have hm7 : m < 72057594037927936 := by omega
      have hwm : IntKind.i64.wrap (m : Int) = (m : Int) := IntWalk.i64_in _ (by omega)
      rw [hwm] at hp2
      have hor : bits .or .i64 (wrap64 ((m : Int) * 256)) (x : Int) = IntKind.i64.wrap ((m * 256 + x : Nat) : Int) := by
        have h9 := or_wrap m x hm7 hx2
        rw [IntWalk.i64_left ((m : Int) * 256)] at h9
        exact h9
      have HOR := hid hor
      clear hor
      have HS := hid hs
      have HX := hid hx
      have HWM := hid hwm
      have HMM := hid hm
      clear hs hx hm hlt hpw hle hc0 hwm
      go_wp2
      go_roundw
      case rel =>
        refine ⟨k + 1, by omega, by go_num, ?_, (HM2.out.setCell _ _ (.inl rfl))⟩
        have h5 := HA2.out.set o (.int .i64 (IntKind.i64.wrap (m * 256 + x : Nat)))
        rw [set_set] at h5
        rw [HS.out, HOR.out]
        exact h5
      case measure => simp [intOf]; omega
    · obtain rfl : k = 8 := by omega
      have ht8 : r.take 8 = r := List.take_of_length_le (by rw [HR8.out]; omega)
      rw [ht8] at HA2
      go_wp2
      go_end0
      exact ⟨rfl, H1.out.mod HM2.out (fun x e => by subst e; exact ⟨hge, hne⟩), HA2.out, HM.out.trans HM2.out (fun x e => .inl (.inr e))⟩
theorem num_r {w0 w : World} {g bb : Nat} {T : TypeId} {cs : Array Value} {o : Nat} {l : List UInt8} {b : Bool} (h : RS w0 g l b w) (ha : AtB w bb T cs) (hne : bb ≠ g) (hge : w0.heap.size ≤ bb) (ho : o < cs.size) :
    Calls Tryd.prog 68 #[.pointer (some ⟨g, 0, none⟩), .pointer (some ⟨bb, o, none⟩)] w (RP w0 g bb T cs o (.int .i64 (numR l b).1) (numR l b).2.1 (numR l b).2.2 w) := by
  unfold numR
  by_cases c : b = true ∨ l.length < 8
  · rw [if_pos c]
    have := num_loop (List.replicate 8 0) (by simp) h ha hne hge ho (fun w2 h2 => take_bad8 h2 c)
    rw [beN_zero] at this
    exact this
  · rw [if_neg c]
    have hb : b = false := by cases b <;> simp_all
    subst hb
    exact num_loop (l.take 8) (by rw [List.length_take]; omega) h ha hne hge ho (fun w2 h2 => take_ok h2 8 (by omega))
set_option maxHeartbeats 4000000 in
set_option maxRecDepth 20000 in
theorem truth_one {w0 w : World} {g bb : Nat} {T : TypeId} {cs : Array Value} {o : Nat} {l l2 : List UInt8} {b b2 : Bool} (x : UInt8) (h : RS w0 g l b w) (ha : AtB w bb T cs) (hne : bb ≠ g) (hge : w0.heap.size ≤ bb) (ho : o < cs.size)
    (ht : Calls Tryd.prog 80 #[.pointer (some ⟨g, 0, none⟩), .int .i64 1] w (TakePost w0 g [x] l2 b2 w)) :
    Calls Tryd.prog 70 #[.pointer (some ⟨g, 0, none⟩), .pointer (some ⟨bb, o, none⟩)] w (RP w0 g bb T cs o (.bool ((x.toNat : Int) == 1)) l2 (b2 || decide ((1 : Int) < (x.toNat : Int))) w) := by
  obtain ⟨v, hr, c0, c1, c2, f0, f2⟩ := h.cells
  have HT := hid ht
  have HA := hid ha
  clear ht h ha hr
  cases b2
  all_goals
    go_enter Tryd.func70, Tryd.ntmps70
    go_wp2_with (go_at_call 80; refine HT.out.mono ?_; intro e w1 hq; obtain ⟨v1, rfl, hr1, _, h1, hm1⟩ := hq; obtain ⟨B, o2, cap, rfl, hcap, hcell⟩ := reads_some hr1 1 rfl (by omega); have H1 := hid h1; have ha1 := HA.out.mod hm1 hne; have HA1 := hid ha1; have hp1 : w1.cell? ⟨bb, o, none⟩ = some cs[o] := (ha1.cell o).trans (by simp [ho]); have hf1 := ha1.free o; have HM := hid hm1; have hx0 : w1.cell? ⟨B, o2, none⟩ = some (.int .u8 (x.toNat : Int)) := hcell 0 (by omega); obtain ⟨v2, hr2, c0, c1, c2, f0, f2⟩ := h1.cells; clear h1 hm1 hr1 hcell hr2 ha1)
  · go_end0
    refine rp_store (H1.out.setBad (decide ((1 : Int) < (x.toNat : Int)))) ?_ ((HM.out.mono (fun _ _ e => .inl e)).setCell _ _ (.inl (.inl rfl))) hne hge
    exact HA1.out.mod (mod_set w1 g 2 _) hne
  · go_end0
    refine rp_store (H1.out.setBad true) ?_ ((HM.out.mono (fun _ _ e => .inl e)).setCell _ _ (.inl (.inl rfl))) hne hge
    exact HA1.out.mod (mod_set w1 g 2 _) hne
theorem truth_r {w0 w : World} {g bb : Nat} {T : TypeId} {cs : Array Value} {o : Nat} {l : List UInt8} {b : Bool} (h : RS w0 g l b w) (ha : AtB w bb T cs) (hne : bb ≠ g) (hge : w0.heap.size ≤ bb) (ho : o < cs.size) :
    Calls Tryd.prog 70 #[.pointer (some ⟨g, 0, none⟩), .pointer (some ⟨bb, o, none⟩)] w (RP w0 g bb T cs o (.bool (truthR l b).1) (truthR l b).2.1 (truthR l b).2.2 w) := by
  unfold truthR
  by_cases c : b = true ∨ l.length < 1
  · rw [if_pos c]
    exact truth_one 0 h ha hne hge ho (take_bad1 h c)
  · rw [if_neg c]
    have hb : b = false := by cases b <;> simp_all
    subst hb
    have ht := take_ok h 1 (by omega)
    have hl : l.take 1 = [l.getD 0 0] := by
      cases l with
      | nil => simp at c
      | cons x r => simp
    rw [hl] at ht
    have := truth_one (l.getD 0 0) h ha hne hge ho ht
    simpa using this
end Go.Proofs.YtcgjacffemjehaaDoor

namespace Go.Proofs.YtcgjacffemjehaaDoor
open Go.RowKit
open Go.Proofs.YtcgjacffemjehaaDoorW.PrintWords (Kd rdOf)
open Go.Proofs.YtcgjacffemjehaaDoor.PRowReads
set_option linter.unusedVariables false
theorem einfoS : (Tryd.prog.info? 9).map (fun i => (i.zero, i.size, i.bytes)) = some (some (.string ⟨#[]⟩), 1, 16) := by kernel_rfl
def listLoop {α : Type} (one : List UInt8 → Bool → α × List UInt8 × Bool) : Nat → List α → List UInt8 → Bool → List α × List UInt8 × Bool
  | 0, acc, l, b => (acc, l, b)
  | k + 1, acc, l, b => if b = true then (acc, l, b) else listLoop one k (acc ++ [(one l b).1]) (one l b).2.1 (one l b).2.2
theorem listLoop_bad {α : Type} (one : List UInt8 → Bool → α × List UInt8 × Bool) (k : Nat) (acc : List α) (l : List UInt8) : listLoop one k acc l true = (acc, l, true) := by
  cases k with
  | zero => rfl
  | succ k => rw [listLoop, if_pos rfl]
def listR {α : Type} (one : List UInt8 → Bool → α × List UInt8 × Bool) (l : List UInt8) (b : Bool) : List α × List UInt8 × Bool := listLoop one (sizeR l b).1 [] (sizeR l b).2.1 (sizeR l b).2.2
/-- What a reader of a list answers. -/
def RL {α : Type} (w0 : World) (g bb : Nat) (T : TypeId) (cs : Array Value) (o : Nat) (d : Kd α) (e0 : TypeId) (xs : List α) (l : List UInt8) (b : Bool) (w : World) (e : Ending) (w' : World) : Prop :=
  e = .returned (.tuple #[]) ∧ RS w0 g l b w' ∧ (∃ v, AtB w' bb T (cs.setIfInBounds o v) ∧ d.R e0 w' w.heap.size (fun _ => True) v xs) ∧ Mod (fun k => k = g ∨ k = bb) w w'
set_option maxHeartbeats 1000000 in
theorem word_r {w0 w : World} {g bb : Nat} {T : TypeId} {cs : Array Value} {o : Nat} {l : List UInt8} {b : Bool} (h : RS w0 g l b w) (ha : AtB w bb T cs) (hne : bb ≠ g) (hge : w0.heap.size ≤ bb) (s0 : ByteArray) (hs : cs[o]? = some (.string s0)) :
    Calls Tryd.prog 82 #[.pointer (some ⟨g, 0, none⟩), .pointer (some ⟨bb, o, none⟩)] w (RP w0 g bb T cs o (.string (textR l b).1) (textR l b).2.1 (textR l b).2.2 w) := by
  go_enter Tryd.func82, Tryd.ntmps82
  go_wp2_with fail
  refine (text_r h ha hne hge s0 hs).mono ?_
  intro e w1 hq
  obtain ⟨rfl, h1, h2, h3⟩ := hq
  go_wp2
  go_end0
  exact ⟨rfl, h1, h2, h3⟩
theorem lt_atB {w : World} {bb : Nat} {T : TypeId} {cs : Array Value} (h : AtB w bb T cs) : bb < w.heap.size := lt_of_heap h
theorem r_mod {α : Type} {d : Kd α} {e : TypeId} {w w1 : World} {base : Nat} {v : Value} {xs : List α} {S : Nat → Prop} (h : d.R e w base (fun _ => True) v xs) (hm : Mod S w w1) (hS : ∀ k, S k → k < base ∨ w.heap.size ≤ k) : d.R e w1 base (fun _ => True) v xs :=
  Kd.R_mono (Kd.R_step (Kd.R_bound h) (fun k hk hlt => hm.block k hlt (fun e => by have := hS k e; have := hk.2.1; omega))) (fun _ _ => trivial)
theorem r_form {α : Type} {d : Kd α} {e : TypeId} {w : World} {base : Nat} {ok : Nat → Prop} {v : Value} {xs : List α} (h : d.R e w base ok v xs) : ∃ A m c, v = .slice A m c := by
  obtain ⟨A, c, rfl⟩ := Kd.R_slice h
  exact ⟨_, _, _, rfl⟩
theorem r_base {α : Type} {d : Kd α} {e : TypeId} {w : World} {base : Nat} {ok : Nat → Prop} {v : Value} {xs : List α} (h : d.R e w base ok v xs) {k : Nat} (hk : v.ownBlock = some k) : base ≤ k := (Kd.R_bound h).1 k hk |>.2.1
theorem app_mod {α : Type} {d : Kd α} {e : TypeId} {w w' : World} {base : Nat} {ok : Nat → Prop} {v : Value} {xs : List α} (h : d.R e w base ok v xs) (hg : w.drew.grownBy w' v.ownBlock) : Mod (fun x => v.ownBlock = some x) w w' :=
  (Mod.drew (Mod.refl (fun x => v.ownBlock = some x) w)).grown hg (fun k e => .inl e)
set_option maxHeartbeats 4000000 in
set_option maxRecDepth 20000 in
theorem listS_r {w0 w : World} {g bb : Nat} {T : TypeId} {cs : Array Value} {o : Nat} {l : List UInt8} {b : Bool} (h : RS w0 g l b w) (ha : AtB w bb T cs) (hne : bb ≠ g) (hge : w0.heap.size ≤ bb) (A0 : Option Addr) (n0 c0 : Nat) (hs : cs[o]? = some (.slice A0 n0 c0)) (hT : ∀ q, q ∈ 9 :: Kd.string.E → q ≠ T) :
    Calls Tryd.prog 81 #[.pointer (some ⟨g, 0, none⟩), .pointer (some ⟨bb, o, none⟩), .func (.func 82) #[] #[]] w (RL w0 g bb T cs o Kd.string 9 (listR textR l b).1 (listR textR l b).2.1 (listR textR l b).2.2 w) := by
  have hp := (ha.cell o).trans hs
  have hoS : o < cs.size := by
    rcases Nat.lt_or_ge o cs.size with h | h
    · exact h
    · rw [Array.getElem?_eq_none h] at hs; cases hs
  obtain ⟨F, hF⟩ : ∃ F, listR textR l b = F := ⟨_, rfl⟩
  unfold listR at hF
  rw [show listR textR l b = F from hF]
  obtain ⟨⟨n, l1, b1⟩, hz⟩ : ∃ z, sizeR l b = z := ⟨_, rfl⟩
  have hsz := size_r h n0
  rw [hz] at hsz hF
  have hnl : n ≤ 1099511627776 := by
    cases b1 with
    | true => have := sizeR_bad hz; omega
    | false => have h1 := sizeR_ok hz; have h2 := sizeR_le l b; rw [hz] at h2; have := h.small; simp only at h2; omega
  have HF := hid hF
  have HSZ := hid hsz
  have HA := hid ha
  have HS := hid hs
  have H := hid h
  have hbw := lt_atB ha
  have HTT := hid hT
  clear hT h ha hs hsz hz hF
  go_enter Tryd.func81, Tryd.ntmps81
  go_wp2_with (go_at_call 79; refine HSZ.out.mono ?_; intro e w1 hq; obtain ⟨rfl, h1, hm1⟩ := hq; have ha1 := HA.out.mod hm1 hne; have HA1 := hid ha1; have H1 := hid h1; have HM1 := hid hm1; have hp1 := (ha1.cell o).trans HS.out; have hf1 := ha1.free o; obtain ⟨v2, _, _, c1, c2, _, _⟩ := h1.cells; clear h1 ha1 hm1)
  go_loopw [7] (fun i wr => ∃ (k : Nat) (acc : List ByteArray) (l2 : List UInt8) (b2 : Bool) (v : Value), i = .int .i64 k ∧ k ≤ n ∧ acc.length = k ∧ Hid (listLoop textR (n - k) acc l2 b2 = F) ∧ RS w0 g l2 b2 wr ∧ AtB wr bb T (cs.setIfInBounds o v) ∧ Kd.string.R 9 wr w.heap.size (fun _ => True) v acc ∧ Mod (fun x => x = g ∨ x = bb) w wr) (fun i _ => n - (intOf i).toNat)
  case atStart =>
    refine ⟨0, [], l1, b1, .slice none 0 0, rfl, by omega, rfl, by simpa using HF, H1.out.mod ((Mod.refl (fun x => x = bb) w1).setCell _ _ (.inl rfl)) (fun k e => by subst e; exact ⟨hge, hne⟩), HA1.out.set o _, Kd.R_nil _ _ _ _ _, ((HM1.out.mono (fun _ _ e => .inl e)).setCell _ _ (.inl (.inr rfl)))⟩
  case round =>
    obtain ⟨k, acc, l2, b2, v, rfl, hk, hacc, hloop, h2, ha2, hr2, hm2⟩ := hrel
    have hp2 : wr.cell? ⟨bb, o, none⟩ = some v := (ha2.cell o).trans (by simp [hoS])
    have hf2 := ha2.free o
    obtain ⟨v2, _, d0, d1, d2, _, _⟩ := h2.cells
    have H2 := hid h2
    have HA2 := hid ha2
    have HR2 := hid hr2
    have HM2 := hid hm2
    have hgl := h2.lt
    have hw2 := hm2.size
    clear h2 ha2 hr2 hm2
    by_cases hkn : k < n
    · have t0 : decide (k < n) = true := decide_eq_true hkn
      cases b2 with
      | true =>
        go_wp2
        go_end0
        have h9 := hloop.out
        rw [listLoop_bad] at h9
        rw [← h9]
        exact ⟨rfl, H2.out, ⟨v, HA2.out, HR2.out⟩, HM2.out⟩
      | false =>
        have hx1 := H2.out.mod (Mod.alloc (Mod.refl (fun _ => False) _) (.cells #[.string ⟨#[]⟩] 9)) (fun k e => e.elim)
        have hx2 : AtB (wr.alloc (.cells #[.string ⟨#[]⟩] 9)) wr.heap.size 9 #[.string ⟨#[]⟩] := heap_alloc_new wr _
        have HX1 := hid hx1
        have HX2 := hid hx2
        clear hx1 hx2
        obtain ⟨s, hs⟩ : ∃ s, (textR l2 false).1 = s := ⟨_, rfl⟩
        obtain ⟨l3, hl3⟩ : ∃ l3, (textR l2 false).2.1 = l3 := ⟨_, rfl⟩
        obtain ⟨b3, hb3⟩ : ∃ b3, (textR l2 false).2.2 = b3 := ⟨_, rfl⟩
        have hword := word_r (g := g) (o := 0) HX1.out HX2.out (by omega) (by have := H2.out.base; omega) ⟨#[]⟩ rfl
        rw [hs, hl3, hb3] at hword
        have HW := hid hword
        have HLS := hid hs
        have HL3 := hid hl3
        have HB3 := hid hb3
        have hgw : g < w.heap.size := H.out.lt
        clear hword hs hl3 hb3
        go_wp2_with (go_at_call 82; refine HW.out.mono ?_; intro e w2 hq; obtain ⟨rfl, h3, ha3, hm3⟩ := hq; have hm4 : Mod (fun x => x = g ∨ x = wr.heap.size) wr w2 := (Mod.alloc (Mod.refl (fun x => x = g ∨ x = wr.heap.size) wr) _).trans hm3 (fun _ e => .inl e); have H3 := hid h3; have ha4 := HA2.out.mod hm4 (by omega); have HA4 := hid ha4; have hp3 : w2.cell? ⟨bb, o, none⟩ = some v := (ha4.cell o).trans (by simp [hoS]); have hf3 := ha4.free o; have hx3 : w2.cell? ⟨wr.heap.size, 0, none⟩ = some (.string s) := ha3.cell 0; have HR3 := hid (r_mod HR2.out hm4 (fun x e => by omega)); have HM3 := hid (HM2.out.trans hm4 (fun x e => by omega)); have hn1 : ∀ q, (w2.alloc q).cell? ⟨bb, o, none⟩ = some v := (fun q => (World.cell?_alloc_lt w2 q ⟨bb, o, none⟩ (lt_of_cell hp3)).trans hp3); have hn2 : ∀ q, (w2.alloc q).cell? ⟨wr.heap.size, 0, none⟩ = some (.string s) := (fun q => (World.cell?_alloc_lt w2 q ⟨wr.heap.size, 0, none⟩ (lt_of_cell hx3)).trans hx3); have hw3 := hm4.size; clear h3 ha3 hm3 hm4 ha4)
        go_region_law (refine Kd.R_append_step (w0 := w2.drew) (W := w2.drew) Kd.string w.heap.size (by simp [Region.wanted]) (.tmp 43) (.tmp 45) 23 9 (.string ⟨#[]⟩) 16 (by rfl) Tryd.underlying23 einfoS (by rfl) (by decide) (by decide) v acc s [.string s] (fun _ => True) (fun _ => False) (by rfl) (by rfl) (by rfl) (fun _ e => e.elim) (fun _ _ => trivial) HR3.out (Below.refl _ _) (by show w.heap.size ≤ w2.heap.size; omega) (by rw [hacc]; omega) ?_; intro v' w3 hr4 _ hg4 _; obtain ⟨A5, m5, c5, rfl⟩ := r_form hr4; have hne5 := Kd.R_ne HR3.out HA4.out (HTT.out _ List.mem_cons_self); have ha5 : AtB w3 bb T (cs.setIfInBounds o v) := (hg4.block bb (lt_atB HA4.out) hne5).trans HA4.out; have hf5 := ha5.free o; have hp5 : w3.cell? ⟨bb, o, none⟩ = some v := (ha5.cell o).trans (by simp [hoS]); have HR5 := hid hr4; have HA5 := hid ha5; have HG5 := hid hg4; clear hr4 ha5 hg4)
        all_goals
          have hm5 := app_mod HR3.out HG5.out
          have hS := fun x (e : v.ownBlock = some x) => r_base HR3.out e
          go_wp2
          go_roundw
          case rel =>
            refine ⟨k + 1, acc ++ [s], l3, b3, .slice A5 m5 c5, by go_num, by omega, by rw [List.length_append, hacc]; rfl, ?_, ?_, ?_, ?_, ?_⟩
            · have h9 := hloop.out
              rw [show n - k = (n - (k + 1)) + 1 by omega, listLoop, if_neg (by simp), HLS.out, HL3.out, HB3.out] at h9
              exact hid h9
            · exact (H3.out.mod hm5 (fun x e => by have := hS x e; have := H.out.base; omega)).mod ((Mod.refl (fun x => x = bb) w3).setCell _ _ (.inl rfl)) (fun x e => by subst e; exact ⟨hge, hne⟩)
            · have h9 := HA5.out.set o (.slice A5 m5 c5)
              rw [set_set] at h9
              exact h9
            · exact Kd.R_set HR5.out HA5.out HTT.out o _
            · exact (HM3.out.trans hm5 (fun x e => .inr (hS x e))).setCell _ _ (.inl (.inr rfl))
          case measure => simp [intOf]; omega
    · have t0 : decide (k < n) = false := decide_eq_false hkn
      obtain rfl : k = n := by omega
      go_wp2
      go_end0
      have h9 := hloop.out
      rw [Nat.sub_self] at h9
      rw [← h9]
      exact ⟨rfl, H2.out, ⟨v, HA2.out, HR2.out⟩, HM2.out⟩
end Go.Proofs.YtcgjacffemjehaaDoor

namespace Go.Proofs.YtcgjacffemjehaaDoor
open Go.RowKit
open Go.Proofs.YtcgjacffemjehaaDoorW.PrintWords (Kd rdOf)
open Go.Proofs.YtcgjacffemjehaaDoor.PRowReads
set_option linter.unusedVariables false
/-- What a reader of a struct answers. -/
def RM {α : Type} (w0 : World) (g bb : Nat) (T : TypeId) (d : Kd α) (x : α) (l : List UInt8) (b : Bool) (w : World) (e : Ending) (w' : World) : Prop :=
  e = .returned (.tuple #[]) ∧ RS w0 g l b w' ∧ (∃ cs, AtB w' bb T cs.toArray ∧ d.M w' w.heap.size (fun _ => True) x cs) ∧ Mod (fun k => k = g ∨ k = bb) w w'
set_option maxHeartbeats 1000000 in
theorem texts_r {w0 w : World} {g bb : Nat} {T : TypeId} {cs : Array Value} {o : Nat} {l : List UInt8} {b : Bool} (h : RS w0 g l b w) (ha : AtB w bb T cs) (hne : bb ≠ g) (hge : w0.heap.size ≤ bb) (A0 : Option Addr) (n0 c0 : Nat) (hs : cs[o]? = some (.slice A0 n0 c0)) (hT : ∀ q, q ∈ 9 :: Kd.string.E → q ≠ T) :
    Calls Tryd.prog 69 #[.pointer (some ⟨g, 0, none⟩), .pointer (some ⟨bb, o, none⟩)] w (RL w0 g bb T cs o Kd.string 9 (listR textR l b).1 (listR textR l b).2.1 (listR textR l b).2.2 w) := by
  have HTT := hid hT
  clear hT
  go_enter Tryd.func69, Tryd.ntmps69
  go_wp2_with fail
  refine (listS_r h ha hne hge A0 n0 c0 hs HTT.out).mono ?_
  intro e w1 hq
  obtain ⟨rfl, h1, h2, h3⟩ := hq
  go_wp2
  go_end0
  exact ⟨rfl, h1, h2, h3⟩
theorem einfoPerm : (Tryd.prog.info? 86).map (fun i => (i.zero, i.size, i.bytes)) = some (some (.agg #[.string ⟨#[]⟩, .slice none 0 0]), 2, 40) := by kernel_rfl
theorem einfoKey : (Tryd.prog.info? 117).map (fun i => (i.zero, i.size, i.bytes)) = some (some (.agg #[.string ⟨#[]⟩, .string ⟨#[]⟩]), 2, 32) := by kernel_rfl
def permR (l : List UInt8) (b : Bool) : S86 × List UInt8 × Bool :=
  let r0 := textR l b
  let r1 := listR textR r0.2.1 r0.2.2
  (⟨r0.1, r1.1⟩, r1.2.1, r1.2.2)
set_option maxHeartbeats 8000000 in
set_option maxRecDepth 100000 in
theorem perm_r {w0 w : World} {g bb : Nat} {l : List UInt8} {b : Bool} (h : RS w0 g l b w) (ha : AtB w bb 86 #[.string ⟨#[]⟩, .slice none 0 0]) (hne : bb ≠ g) (hge : w0.heap.size ≤ bb) :
    Calls Tryd.prog 72 #[.pointer (some ⟨g, 0, none⟩), .pointer (some ⟨bb, 0, none⟩)] w (RM w0 g bb 86 k86 (permR l b).1 (permR l b).2.1 (permR l b).2.2 w) := by
  have hgw : g < w.heap.size := h.lt
  have hbw := lt_atB ha
  obtain ⟨⟨x0, l0, b0⟩, e0⟩ : ∃ z, textR l b = z := ⟨_, rfl⟩
  obtain ⟨⟨x1, l1, b1⟩, e1⟩ : ∃ z, listR textR l0 b0 = z := ⟨_, rfl⟩
  have hfin : permR l b = (⟨x0, x1⟩, l1, b1) := by simp only [permR, e0, e1]
  rw [hfin]
  have E0 := hid e0
  have E1 := hid e1
  have H0 := hid h
  have HA0 := hid ha
  have HM0 := hid (Mod.refl (fun x => x = g ∨ x = bb) w)
  clear h ha hfin e0 e1
  go_enter Tryd.func72, Tryd.ntmps72
  have hc := text_r (o := 0) H0.out HA0.out hne hge ⟨#[]⟩ rfl
  rw [E0.out] at hc
  go_wp2_with fail
  refine hc.mono ?_
  clear hc
  intro e w1 hq
  obtain ⟨rfl, h, ha, hm⟩ := hq
  have ha2 : AtB w1 bb 86 #[.string x0, .slice none 0 0] := ha
  have H1 := hid h
  have HA1 := hid ha2
  have HM1 := hid (HM0.out.trans hm (fun _ e => .inl e))
  clear h ha ha2 hm
  have hc := texts_r (o := 1) H1.out HA1.out hne hge none 0 0 rfl (by intro q hq; have hq' : q ∈ ([9] : List Nat) := hq; rw [List.mem_singleton] at hq'; subst hq'; decide)
  rw [E1.out] at hc
  go_wp2_with fail
  refine hc.mono ?_
  clear hc
  intro e w2 hq
  obtain ⟨rfl, h, ⟨v1, ha, hr⟩, hm⟩ := hq
  have G1_2 := hid (Kd.R_lower hr HM1.out.size)
  clear hr
  have ha2 : AtB w2 bb 86 #[.string x0, v1] := ha
  have H2 := hid h
  have HA2 := hid ha2
  have HM2 := hid (HM1.out.trans hm (fun _ e => .inl e))
  clear h ha ha2 hm
  go_wp2
  go_end0
  exact ⟨rfl, H2.out, ⟨[.string x0, v1], HA2.out, k86_mkM _ _ _ ⟨x0, x1⟩ G1_2.out⟩, HM2.out⟩
def keyR (l : List UInt8) (b : Bool) : S117 × List UInt8 × Bool :=
  let r0 := textR l b
  let r1 := textR r0.2.1 r0.2.2
  (⟨r0.1, r1.1⟩, r1.2.1, r1.2.2)
set_option maxHeartbeats 8000000 in
set_option maxRecDepth 100000 in
theorem key_r {w0 w : World} {g bb : Nat} {l : List UInt8} {b : Bool} (h : RS w0 g l b w) (ha : AtB w bb 117 #[.string ⟨#[]⟩, .string ⟨#[]⟩]) (hne : bb ≠ g) (hge : w0.heap.size ≤ bb) :
    Calls Tryd.prog 74 #[.pointer (some ⟨g, 0, none⟩), .pointer (some ⟨bb, 0, none⟩)] w (RM w0 g bb 117 k117 (keyR l b).1 (keyR l b).2.1 (keyR l b).2.2 w) := by
  have hgw : g < w.heap.size := h.lt
  have hbw := lt_atB ha
  obtain ⟨⟨x0, l0, b0⟩, e0⟩ : ∃ z, textR l b = z := ⟨_, rfl⟩
  obtain ⟨⟨x1, l1, b1⟩, e1⟩ : ∃ z, textR l0 b0 = z := ⟨_, rfl⟩
  have hfin : keyR l b = (⟨x0, x1⟩, l1, b1) := by simp only [keyR, e0, e1]
  rw [hfin]
  have E0 := hid e0
  have E1 := hid e1
  have H0 := hid h
  have HA0 := hid ha
  have HM0 := hid (Mod.refl (fun x => x = g ∨ x = bb) w)
  clear h ha hfin e0 e1
  go_enter Tryd.func74, Tryd.ntmps74
  have hc := text_r (o := 0) H0.out HA0.out hne hge ⟨#[]⟩ rfl
  rw [E0.out] at hc
  go_wp2_with fail
  refine hc.mono ?_
  clear hc
  intro e w1 hq
  obtain ⟨rfl, h, ha, hm⟩ := hq
  have ha2 : AtB w1 bb 117 #[.string x0, .string ⟨#[]⟩] := ha
  have H1 := hid h
  have HA1 := hid ha2
  have HM1 := hid (HM0.out.trans hm (fun _ e => .inl e))
  clear h ha ha2 hm
  have hc := text_r (o := 1) H1.out HA1.out hne hge ⟨#[]⟩ rfl
  rw [E1.out] at hc
  go_wp2_with fail
  refine hc.mono ?_
  clear hc
  intro e w2 hq
  obtain ⟨rfl, h, ha, hm⟩ := hq
  have ha2 : AtB w2 bb 117 #[.string x0, .string x1] := ha
  have H2 := hid h
  have HA2 := hid ha2
  have HM2 := hid (HM1.out.trans hm (fun _ e => .inl e))
  clear h ha ha2 hm
  go_wp2
  go_end0
  exact ⟨rfl, H2.out, ⟨[.string x0, .string x1], HA2.out, k117_mkM _ _ _ ⟨x0, x1⟩ ⟩, HM2.out⟩
set_option maxHeartbeats 8000000 in
set_option maxRecDepth 100000 in
theorem listP_r {w0 w : World} {g bb : Nat} {T : TypeId} {cs : Array Value} {o : Nat} {l : List UInt8} {b : Bool} (h : RS w0 g l b w) (ha : AtB w bb T cs) (hne : bb ≠ g) (hge : w0.heap.size ≤ bb) (A0 : Option Addr) (n0 c0 : Nat) (hs : cs[o]? = some (.slice A0 n0 c0)) (hT : ∀ q, q ∈ 86 :: k86.E → q ≠ T) :
    Calls Tryd.prog 71 #[.pointer (some ⟨g, 0, none⟩), .pointer (some ⟨bb, o, none⟩), .func (.func 72) #[] #[]] w (RL w0 g bb T cs o k86 86 (listR permR l b).1 (listR permR l b).2.1 (listR permR l b).2.2 w) := by
  have hp := (ha.cell o).trans hs
  have hoS : o < cs.size := by
    rcases Nat.lt_or_ge o cs.size with h | h
    · exact h
    · rw [Array.getElem?_eq_none h] at hs; cases hs
  obtain ⟨F, hF⟩ : ∃ F, listR permR l b = F := ⟨_, rfl⟩
  unfold listR at hF
  rw [show listR permR l b = F from hF]
  obtain ⟨⟨n, l1, b1⟩, hz⟩ : ∃ z, sizeR l b = z := ⟨_, rfl⟩
  have hsz := size_r h n0
  rw [hz] at hsz hF
  have hnl : n ≤ 1099511627776 := by
    cases b1 with
    | true => have := sizeR_bad hz; omega
    | false => have h1 := sizeR_ok hz; have h2 := sizeR_le l b; rw [hz] at h2; have := h.small; simp only at h2; omega
  have HF := hid hF
  have HSZ := hid hsz
  have HA := hid ha
  have HS := hid hs
  have H := hid h
  have hbw := lt_atB ha
  have HTT := hid hT
  clear hT h ha hs hsz hz hF
  go_enter Tryd.func71, Tryd.ntmps71
  go_wp2_with (go_at_call 79; refine HSZ.out.mono ?_; intro e w1 hq; obtain ⟨rfl, h1, hm1⟩ := hq; have ha1 := HA.out.mod hm1 hne; have HA1 := hid ha1; have H1 := hid h1; have HM1 := hid hm1; have hp1 := (ha1.cell o).trans HS.out; have hf1 := ha1.free o; obtain ⟨v2, _, _, c1, c2, _, _⟩ := h1.cells; clear h1 ha1 hm1)
  go_loopw [7] (fun i wr => ∃ (k : Nat) (acc : List S86) (l2 : List UInt8) (b2 : Bool) (v : Value), i = .int .i64 k ∧ k ≤ n ∧ acc.length = k ∧ Hid (listLoop permR (n - k) acc l2 b2 = F) ∧ RS w0 g l2 b2 wr ∧ AtB wr bb T (cs.setIfInBounds o v) ∧ k86.R 86 wr w.heap.size (fun _ => True) v acc ∧ Mod (fun x => x = g ∨ x = bb) w wr) (fun i _ => n - (intOf i).toNat)
  case atStart =>
    refine ⟨0, [], l1, b1, .slice none 0 0, rfl, by omega, rfl, by simpa using HF, H1.out.mod ((Mod.refl (fun x => x = bb) w1).setCell _ _ (.inl rfl)) (fun k e => by subst e; exact ⟨hge, hne⟩), HA1.out.set o _, Kd.R_nil _ _ _ _ _, ((HM1.out.mono (fun _ _ e => .inl e)).setCell _ _ (.inl (.inr rfl)))⟩
  case round =>
    obtain ⟨k, acc, l2, b2, v, rfl, hk, hacc, hloop, h2, ha2, hr2, hm2⟩ := hrel
    have hp2 : wr.cell? ⟨bb, o, none⟩ = some v := (ha2.cell o).trans (by simp [hoS])
    have hf2 := ha2.free o
    obtain ⟨v2, _, d0, d1, d2, _, _⟩ := h2.cells
    have hown : ∀ j, v.ownBlock = some j → j < wr.heap.size := fun j e => (Kd.R_bound hr2).1 j e |>.2.2.1
    have HOW := hid hown
    have H2 := hid h2
    have HA2 := hid ha2
    have HR2 := hid hr2
    have HM2 := hid hm2
    have hgl := h2.lt
    have hw2 := hm2.size
    clear h2 ha2 hr2 hm2 hown
    by_cases hkn : k < n
    · have t0 : decide (k < n) = true := decide_eq_true hkn
      cases b2 with
      | true =>
        go_wp2
        go_end0
        have h9 := hloop.out
        rw [listLoop_bad] at h9
        rw [← h9]
        exact ⟨rfl, H2.out, ⟨v, HA2.out, HR2.out⟩, HM2.out⟩
      | false =>
        have hx1 := H2.out.mod (Mod.alloc (Mod.refl (fun _ => False) _) (.cells #[.string ⟨#[]⟩, .slice none 0 0] 86)) (fun k e => e.elim)
        have hx2 : AtB (wr.alloc (.cells #[.string ⟨#[]⟩, .slice none 0 0] 86)) wr.heap.size 86 #[.string ⟨#[]⟩, .slice none 0 0] := heap_alloc_new wr _
        have HX1 := hid hx1
        have HX2 := hid hx2
        clear hx1 hx2
        obtain ⟨y, hs⟩ : ∃ y, (permR l2 false).1 = y := ⟨_, rfl⟩
        obtain ⟨l3, hl3⟩ : ∃ l3, (permR l2 false).2.1 = l3 := ⟨_, rfl⟩
        obtain ⟨b3, hb3⟩ : ∃ b3, (permR l2 false).2.2 = b3 := ⟨_, rfl⟩
        have hword := perm_r (g := g) HX1.out HX2.out (by omega) (by have := H2.out.base; omega)
        rw [hs, hl3, hb3] at hword
        have HW := hid hword
        have HLS := hid hs
        have HL3 := hid hl3
        have HB3 := hid hb3
        have hgw : g < w.heap.size := H.out.lt
        clear hword hs hl3 hb3
        go_wp2_with (go_at_call 72; refine HW.out.mono ?_; intro e w2 hq; obtain ⟨rfl, h3, ⟨cs3, ha3, hM⟩, hm3⟩ := hq; rw [World.size_alloc] at hM; obtain ⟨v6, rfl, g6⟩ := k86_openM hM; obtain ⟨A6, m6, c6, rfl⟩ := r_form g6; have HMM := hid hM; have hm4 : Mod (fun x => x = g ∨ x = wr.heap.size) wr w2 := (Mod.alloc (Mod.refl (fun x => x = g ∨ x = wr.heap.size) wr) _).trans hm3 (fun _ e => .inl e); have H3 := hid h3; have ha4 := HA2.out.mod hm4 (by omega); have HA4 := hid ha4; have hp3 : w2.cell? ⟨bb, o, none⟩ = some v := (ha4.cell o).trans (by simp [hoS]); have hf3 := ha4.free o; have hx3 : w2.cell? ⟨wr.heap.size, 0, none⟩ = some (.string y.f0) := ha3.cell 0; have hx4 : w2.cell? ⟨wr.heap.size, 1, none⟩ = some (Value.slice A6 m6 c6) := ha3.cell 1; have HR3 := hid (r_mod HR2.out hm4 (fun x e => by omega)); have HM3 := hid (HM2.out.trans hm4 (fun x e => by omega)); have hn1 : ∀ q, (w2.alloc q).cell? ⟨bb, o, none⟩ = some v := (fun q => (World.cell?_alloc_lt w2 q ⟨bb, o, none⟩ (lt_of_cell hp3)).trans hp3); have hn2 : ∀ q, (w2.alloc q).cell? ⟨wr.heap.size, 0, none⟩ = some (.string y.f0) := (fun q => (World.cell?_alloc_lt w2 q ⟨wr.heap.size, 0, none⟩ (lt_of_cell hx3)).trans hx3); have hn3 : ∀ q, (w2.alloc q).cell? ⟨wr.heap.size, 1, none⟩ = some (Value.slice A6 m6 c6) := (fun q => (World.cell?_alloc_lt w2 q ⟨wr.heap.size, 1, none⟩ (lt_of_cell hx4)).trans hx4); have hw3 := hm4.size; clear h3 ha3 hm3 hm4 ha4 hM)
        have hMA : k86.M w2.drew (wr.heap.size + 1) (fun _ => True) y [.string y.f0, .slice A6 m6 c6] := HMM.out
        have hMB := k86.M_bound (w := w2.drew) (base := wr.heap.size + 1) (ok := fun _ => True) (x := y) (cs := [.string y.f0, .slice A6 m6 c6]) hMA
        have hMC := k86.M_mono (w := w2.drew) (base := wr.heap.size + 1) (ok' := fun j => wr.heap.size ≤ j) (x := y) (cs := [.string y.f0, .slice A6 m6 c6]) (fun j hj => by have := hj.2.1; omega) hMB
        have hMK := k86.M_lower (w := w2.drew) (base := wr.heap.size + 1) (base' := w.heap.size) (ok := fun j => wr.heap.size ≤ j) (x := y) (cs := [.string y.f0, .slice A6 m6 c6]) (by omega) hMC
        clear hMA hMB hMC
        have HMK := hid hMK
        clear hMK
        go_region_law (refine Kd.R_append_step (w0 := w2.drew) (W := w2.drew) k86 w.heap.size (by simp [Region.wanted]) (.tmp 43) (.tmp 45) 32 86 (.agg #[.string ⟨#[]⟩, .slice none 0 0]) 40 (by rfl) Tryd.underlying32 einfoPerm (by rfl) (by decide) (by decide) v acc y [.string y.f0, .slice A6 m6 c6] (fun _ => True) (fun j => wr.heap.size ≤ j) (by rfl) (by rfl) HMK.out (fun j e => ⟨trivial, fun e2 => by have := HOW.out j e2.symm; omega⟩) (fun _ _ => trivial) HR3.out (Below.refl _ _) (by show w.heap.size ≤ w2.heap.size; omega) (by rw [hacc]; omega) ?_; intro v' w3 hr4 _ hg4 _; obtain ⟨A5, m5, c5, rfl⟩ := r_form hr4; have hne5 := Kd.R_ne HR3.out HA4.out (HTT.out _ List.mem_cons_self); have ha5 : AtB w3 bb T (cs.setIfInBounds o v) := (hg4.block bb (lt_atB HA4.out) hne5).trans HA4.out; have hf5 := ha5.free o; have hp5 : w3.cell? ⟨bb, o, none⟩ = some v := (ha5.cell o).trans (by simp [hoS]); have HR5 := hid hr4; have HA5 := hid ha5; have HG5 := hid hg4; clear hr4 ha5 hg4)
        all_goals
          have hm5 := app_mod HR3.out HG5.out
          have hS := fun x (e : v.ownBlock = some x) => r_base HR3.out e
          go_wp2
          go_roundw
          case rel =>
            refine ⟨k + 1, acc ++ [y], l3, b3, .slice A5 m5 c5, by go_num, by omega, by rw [List.length_append, hacc]; rfl, ?_, ?_, ?_, ?_, ?_⟩
            · have h9 := hloop.out
              rw [show n - k = (n - (k + 1)) + 1 by omega, listLoop, if_neg (by simp), HLS.out, HL3.out, HB3.out] at h9
              exact hid h9
            · exact (H3.out.mod hm5 (fun x e => by have := hS x e; have := H.out.base; omega)).mod ((Mod.refl (fun x => x = bb) w3).setCell _ _ (.inl rfl)) (fun x e => by subst e; exact ⟨hge, hne⟩)
            · have h9 := HA5.out.set o (.slice A5 m5 c5)
              rw [set_set] at h9
              exact h9
            · exact Kd.R_set HR5.out HA5.out HTT.out o _
            · exact (HM3.out.trans hm5 (fun x e => .inr (hS x e))).setCell _ _ (.inl (.inr rfl))
          case measure => simp [intOf]; omega
    · have t0 : decide (k < n) = false := decide_eq_false hkn
      obtain rfl : k = n := by omega
      go_wp2
      go_end0
      have h9 := hloop.out
      rw [Nat.sub_self] at h9
      rw [← h9]
      exact ⟨rfl, H2.out, ⟨v, HA2.out, HR2.out⟩, HM2.out⟩
set_option maxHeartbeats 8000000 in
set_option maxRecDepth 100000 in
theorem listK_r {w0 w : World} {g bb : Nat} {T : TypeId} {cs : Array Value} {o : Nat} {l : List UInt8} {b : Bool} (h : RS w0 g l b w) (ha : AtB w bb T cs) (hne : bb ≠ g) (hge : w0.heap.size ≤ bb) (A0 : Option Addr) (n0 c0 : Nat) (hs : cs[o]? = some (.slice A0 n0 c0)) (hT : ∀ q, q ∈ 117 :: k117.E → q ≠ T) :
    Calls Tryd.prog 73 #[.pointer (some ⟨g, 0, none⟩), .pointer (some ⟨bb, o, none⟩), .func (.func 74) #[] #[]] w (RL w0 g bb T cs o k117 117 (listR keyR l b).1 (listR keyR l b).2.1 (listR keyR l b).2.2 w) := by
  have hp := (ha.cell o).trans hs
  have hoS : o < cs.size := by
    rcases Nat.lt_or_ge o cs.size with h | h
    · exact h
    · rw [Array.getElem?_eq_none h] at hs; cases hs
  obtain ⟨F, hF⟩ : ∃ F, listR keyR l b = F := ⟨_, rfl⟩
  unfold listR at hF
  rw [show listR keyR l b = F from hF]
  obtain ⟨⟨n, l1, b1⟩, hz⟩ : ∃ z, sizeR l b = z := ⟨_, rfl⟩
  have hsz := size_r h n0
  rw [hz] at hsz hF
  have hnl : n ≤ 1099511627776 := by
    cases b1 with
    | true => have := sizeR_bad hz; omega
    | false => have h1 := sizeR_ok hz; have h2 := sizeR_le l b; rw [hz] at h2; have := h.small; simp only at h2; omega
  have HF := hid hF
  have HSZ := hid hsz
  have HA := hid ha
  have HS := hid hs
  have H := hid h
  have hbw := lt_atB ha
  have HTT := hid hT
  clear hT h ha hs hsz hz hF
  go_enter Tryd.func73, Tryd.ntmps73
  go_wp2_with (go_at_call 79; refine HSZ.out.mono ?_; intro e w1 hq; obtain ⟨rfl, h1, hm1⟩ := hq; have ha1 := HA.out.mod hm1 hne; have HA1 := hid ha1; have H1 := hid h1; have HM1 := hid hm1; have hp1 := (ha1.cell o).trans HS.out; have hf1 := ha1.free o; obtain ⟨v2, _, _, c1, c2, _, _⟩ := h1.cells; clear h1 ha1 hm1)
  go_loopw [7] (fun i wr => ∃ (k : Nat) (acc : List S117) (l2 : List UInt8) (b2 : Bool) (v : Value), i = .int .i64 k ∧ k ≤ n ∧ acc.length = k ∧ Hid (listLoop keyR (n - k) acc l2 b2 = F) ∧ RS w0 g l2 b2 wr ∧ AtB wr bb T (cs.setIfInBounds o v) ∧ k117.R 117 wr w.heap.size (fun _ => True) v acc ∧ Mod (fun x => x = g ∨ x = bb) w wr) (fun i _ => n - (intOf i).toNat)
  case atStart =>
    refine ⟨0, [], l1, b1, .slice none 0 0, rfl, by omega, rfl, by simpa using HF, H1.out.mod ((Mod.refl (fun x => x = bb) w1).setCell _ _ (.inl rfl)) (fun k e => by subst e; exact ⟨hge, hne⟩), HA1.out.set o _, Kd.R_nil _ _ _ _ _, ((HM1.out.mono (fun _ _ e => .inl e)).setCell _ _ (.inl (.inr rfl)))⟩
  case round =>
    obtain ⟨k, acc, l2, b2, v, rfl, hk, hacc, hloop, h2, ha2, hr2, hm2⟩ := hrel
    have hp2 : wr.cell? ⟨bb, o, none⟩ = some v := (ha2.cell o).trans (by simp [hoS])
    have hf2 := ha2.free o
    obtain ⟨v2, _, d0, d1, d2, _, _⟩ := h2.cells
    have hown : ∀ j, v.ownBlock = some j → j < wr.heap.size := fun j e => (Kd.R_bound hr2).1 j e |>.2.2.1
    have HOW := hid hown
    have H2 := hid h2
    have HA2 := hid ha2
    have HR2 := hid hr2
    have HM2 := hid hm2
    have hgl := h2.lt
    have hw2 := hm2.size
    clear h2 ha2 hr2 hm2 hown
    by_cases hkn : k < n
    · have t0 : decide (k < n) = true := decide_eq_true hkn
      cases b2 with
      | true =>
        go_wp2
        go_end0
        have h9 := hloop.out
        rw [listLoop_bad] at h9
        rw [← h9]
        exact ⟨rfl, H2.out, ⟨v, HA2.out, HR2.out⟩, HM2.out⟩
      | false =>
        have hx1 := H2.out.mod (Mod.alloc (Mod.refl (fun _ => False) _) (.cells #[.string ⟨#[]⟩, .string ⟨#[]⟩] 117)) (fun k e => e.elim)
        have hx2 : AtB (wr.alloc (.cells #[.string ⟨#[]⟩, .string ⟨#[]⟩] 117)) wr.heap.size 117 #[.string ⟨#[]⟩, .string ⟨#[]⟩] := heap_alloc_new wr _
        have HX1 := hid hx1
        have HX2 := hid hx2
        clear hx1 hx2
        obtain ⟨y, hs⟩ : ∃ y, (keyR l2 false).1 = y := ⟨_, rfl⟩
        obtain ⟨l3, hl3⟩ : ∃ l3, (keyR l2 false).2.1 = l3 := ⟨_, rfl⟩
        obtain ⟨b3, hb3⟩ : ∃ b3, (keyR l2 false).2.2 = b3 := ⟨_, rfl⟩
        have hword := key_r (g := g) HX1.out HX2.out (by omega) (by have := H2.out.base; omega)
        rw [hs, hl3, hb3] at hword
        have HW := hid hword
        have HLS := hid hs
        have HL3 := hid hl3
        have HB3 := hid hb3
        have hgw : g < w.heap.size := H.out.lt
        clear hword hs hl3 hb3
        go_wp2_with (go_at_call 74; refine HW.out.mono ?_; intro e w2 hq; obtain ⟨rfl, h3, ⟨cs3, ha3, hM⟩, hm3⟩ := hq; rw [World.size_alloc] at hM; obtain rfl := k117_openM hM; have HMM := hid hM; have hm4 : Mod (fun x => x = g ∨ x = wr.heap.size) wr w2 := (Mod.alloc (Mod.refl (fun x => x = g ∨ x = wr.heap.size) wr) _).trans hm3 (fun _ e => .inl e); have H3 := hid h3; have ha4 := HA2.out.mod hm4 (by omega); have HA4 := hid ha4; have hp3 : w2.cell? ⟨bb, o, none⟩ = some v := (ha4.cell o).trans (by simp [hoS]); have hf3 := ha4.free o; have hx3 : w2.cell? ⟨wr.heap.size, 0, none⟩ = some (.string y.f0) := ha3.cell 0; have hx4 : w2.cell? ⟨wr.heap.size, 1, none⟩ = some (Value.string y.f1) := ha3.cell 1; have HR3 := hid (r_mod HR2.out hm4 (fun x e => by omega)); have HM3 := hid (HM2.out.trans hm4 (fun x e => by omega)); have hn1 : ∀ q, (w2.alloc q).cell? ⟨bb, o, none⟩ = some v := (fun q => (World.cell?_alloc_lt w2 q ⟨bb, o, none⟩ (lt_of_cell hp3)).trans hp3); have hn2 : ∀ q, (w2.alloc q).cell? ⟨wr.heap.size, 0, none⟩ = some (.string y.f0) := (fun q => (World.cell?_alloc_lt w2 q ⟨wr.heap.size, 0, none⟩ (lt_of_cell hx3)).trans hx3); have hn3 : ∀ q, (w2.alloc q).cell? ⟨wr.heap.size, 1, none⟩ = some (Value.string y.f1) := (fun q => (World.cell?_alloc_lt w2 q ⟨wr.heap.size, 1, none⟩ (lt_of_cell hx4)).trans hx4); have hw3 := hm4.size; clear h3 ha3 hm3 hm4 ha4 hM)
        have hMA : k117.M w2.drew (wr.heap.size + 1) (fun _ => True) y [.string y.f0, .string y.f1] := HMM.out
        have hMB := k117.M_bound (w := w2.drew) (base := wr.heap.size + 1) (ok := fun _ => True) (x := y) (cs := [.string y.f0, .string y.f1]) hMA
        have hMC := k117.M_mono (w := w2.drew) (base := wr.heap.size + 1) (ok' := fun j => wr.heap.size ≤ j) (x := y) (cs := [.string y.f0, .string y.f1]) (fun j hj => by have := hj.2.1; omega) hMB
        have hMK := k117.M_lower (w := w2.drew) (base := wr.heap.size + 1) (base' := w.heap.size) (ok := fun j => wr.heap.size ≤ j) (x := y) (cs := [.string y.f0, .string y.f1]) (by omega) hMC
        clear hMA hMB hMC
        have HMK := hid hMK
        clear hMK
        go_region_law (refine Kd.R_append_step (w0 := w2.drew) (W := w2.drew) k117 w.heap.size (by simp [Region.wanted]) (.tmp 43) (.tmp 45) 39 117 (.agg #[.string ⟨#[]⟩, .string ⟨#[]⟩]) 32 (by rfl) Tryd.underlying39 einfoKey (by rfl) (by decide) (by decide) v acc y [.string y.f0, .string y.f1] (fun _ => True) (fun j => wr.heap.size ≤ j) (by rfl) (by rfl) HMK.out (fun j e => ⟨trivial, fun e2 => by have := HOW.out j e2.symm; omega⟩) (fun _ _ => trivial) HR3.out (Below.refl _ _) (by show w.heap.size ≤ w2.heap.size; omega) (by rw [hacc]; omega) ?_; intro v' w3 hr4 _ hg4 _; obtain ⟨A5, m5, c5, rfl⟩ := r_form hr4; have hne5 := Kd.R_ne HR3.out HA4.out (HTT.out _ List.mem_cons_self); have ha5 : AtB w3 bb T (cs.setIfInBounds o v) := (hg4.block bb (lt_atB HA4.out) hne5).trans HA4.out; have hf5 := ha5.free o; have hp5 : w3.cell? ⟨bb, o, none⟩ = some v := (ha5.cell o).trans (by simp [hoS]); have HR5 := hid hr4; have HA5 := hid ha5; have HG5 := hid hg4; clear hr4 ha5 hg4)
        all_goals
          have hm5 := app_mod HR3.out HG5.out
          have hS := fun x (e : v.ownBlock = some x) => r_base HR3.out e
          go_wp2
          go_roundw
          case rel =>
            refine ⟨k + 1, acc ++ [y], l3, b3, .slice A5 m5 c5, by go_num, by omega, by rw [List.length_append, hacc]; rfl, ?_, ?_, ?_, ?_, ?_⟩
            · have h9 := hloop.out
              rw [show n - k = (n - (k + 1)) + 1 by omega, listLoop, if_neg (by simp), HLS.out, HL3.out, HB3.out] at h9
              exact hid h9
            · exact (H3.out.mod hm5 (fun x e => by have := hS x e; have := H.out.base; omega)).mod ((Mod.refl (fun x => x = bb) w3).setCell _ _ (.inl rfl)) (fun x e => by subst e; exact ⟨hge, hne⟩)
            · have h9 := HA5.out.set o (.slice A5 m5 c5)
              rw [set_set] at h9
              exact h9
            · exact Kd.R_set HR5.out HA5.out HTT.out o _
            · exact (HM3.out.trans hm5 (fun x e => .inr (hS x e))).setCell _ _ (.inl (.inr rfl))
          case measure => simp [intOf]; omega
    · have t0 : decide (k < n) = false := decide_eq_false hkn
      obtain rfl : k = n := by omega
      go_wp2
      go_end0
      have h9 := hloop.out
      rw [Nat.sub_self] at h9
      rw [← h9]
      exact ⟨rfl, H2.out, ⟨v, HA2.out, HR2.out⟩, HM2.out⟩
set_option maxHeartbeats 1000000 in
theorem keys_r {w0 w : World} {g bb : Nat} {T : TypeId} {cs : Array Value} {o : Nat} {l : List UInt8} {b : Bool} (h : RS w0 g l b w) (ha : AtB w bb T cs) (hne : bb ≠ g) (hge : w0.heap.size ≤ bb) (A0 : Option Addr) (n0 c0 : Nat) (hs : cs[o]? = some (.slice A0 n0 c0)) (hT : ∀ q, q ∈ 117 :: k117.E → q ≠ T) :
    Calls Tryd.prog 56 #[.pointer (some ⟨g, 0, none⟩), .pointer (some ⟨bb, o, none⟩)] w (RL w0 g bb T cs o k117 117 (listR keyR l b).1 (listR keyR l b).2.1 (listR keyR l b).2.2 w) := by
  have HTT := hid hT
  clear hT
  go_enter Tryd.func56, Tryd.ntmps56
  go_wp2_with fail
  refine (listK_r h ha hne hge A0 n0 c0 hs HTT.out).mono ?_
  intro e w1 hq
  obtain ⟨rfl, h1, h2, h3⟩ := hq
  go_wp2
  go_end0
  exact ⟨rfl, h1, h2, h3⟩
end Go.Proofs.YtcgjacffemjehaaDoor

namespace Go.Proofs.YtcgjacffemjehaaDoor
open Go.RowKit
open Go.Proofs.YtcgjacffemjehaaDoorW.PrintWords (Kd rdOf)
open Go.Proofs.YtcgjacffemjehaaDoor.PRowReads
set_option linter.unusedVariables false
def consentR (l : List UInt8) (b : Bool) : S25 × List UInt8 × Bool :=
  let r0 := textR l b
  let r1 := textR r0.2.1 r0.2.2
  let r2 := listR textR r1.2.1 r1.2.2
  (⟨r0.1, r1.1, r2.1⟩, r2.2.1, r2.2.2)
set_option maxHeartbeats 8000000 in
set_option maxRecDepth 100000 in
theorem consent_r {w0 w : World} {g bb : Nat} {l : List UInt8} {b : Bool} (h : RS w0 g l b w) (ha : AtB w bb 25 #[.string ⟨#[]⟩, .string ⟨#[]⟩, .slice none 0 0]) (hne : bb ≠ g) (hge : w0.heap.size ≤ bb) :
    Calls Tryd.prog 44 #[.pointer (some ⟨g, 0, none⟩), .pointer (some ⟨bb, 0, none⟩)] w (RM w0 g bb 25 k25 (consentR l b).1 (consentR l b).2.1 (consentR l b).2.2 w) := by
  have hgw : g < w.heap.size := h.lt
  have hbw := lt_atB ha
  obtain ⟨⟨x0, l0, b0⟩, e0⟩ : ∃ z, textR l b = z := ⟨_, rfl⟩
  obtain ⟨⟨x1, l1, b1⟩, e1⟩ : ∃ z, textR l0 b0 = z := ⟨_, rfl⟩
  obtain ⟨⟨x2, l2, b2⟩, e2⟩ : ∃ z, listR textR l1 b1 = z := ⟨_, rfl⟩
  have hfin : consentR l b = (⟨x0, x1, x2⟩, l2, b2) := by simp only [consentR, e0, e1, e2]
  rw [hfin]
  have E0 := hid e0
  have E1 := hid e1
  have E2 := hid e2
  have H0 := hid h
  have HA0 := hid ha
  have HM0 := hid (Mod.refl (fun x => x = g ∨ x = bb) w)
  clear h ha hfin e0 e1 e2
  go_enter Tryd.func44, Tryd.ntmps44
  have hc := text_r (o := 0) H0.out HA0.out hne hge ⟨#[]⟩ rfl
  rw [E0.out] at hc
  go_wp2_with fail
  refine hc.mono ?_
  clear hc
  intro e w1 hq
  obtain ⟨rfl, h, ha, hm⟩ := hq
  have ha2 : AtB w1 bb 25 #[.string x0, .string ⟨#[]⟩, .slice none 0 0] := ha
  have H1 := hid h
  have HA1 := hid ha2
  have HM1 := hid (HM0.out.trans hm (fun _ e => .inl e))
  clear h ha ha2 hm
  have hc := text_r (o := 1) H1.out HA1.out hne hge ⟨#[]⟩ rfl
  rw [E1.out] at hc
  go_wp2_with fail
  refine hc.mono ?_
  clear hc
  intro e w2 hq
  obtain ⟨rfl, h, ha, hm⟩ := hq
  have ha2 : AtB w2 bb 25 #[.string x0, .string x1, .slice none 0 0] := ha
  have H2 := hid h
  have HA2 := hid ha2
  have HM2 := hid (HM1.out.trans hm (fun _ e => .inl e))
  clear h ha ha2 hm
  have hc := texts_r (o := 2) H2.out HA2.out hne hge none 0 0 rfl (by intro q hq; have hq' : q ∈ ([9] : List Nat) := hq; rw [List.mem_singleton] at hq'; subst hq'; decide)
  rw [E2.out] at hc
  go_wp2_with fail
  refine hc.mono ?_
  clear hc
  intro e w3 hq
  obtain ⟨rfl, h, ⟨v2, ha, hr⟩, hm⟩ := hq
  have G2_3 := hid (Kd.R_lower hr HM2.out.size)
  clear hr
  have ha2 : AtB w3 bb 25 #[.string x0, .string x1, v2] := ha
  have H3 := hid h
  have HA3 := hid ha2
  have HM3 := hid (HM2.out.trans hm (fun _ e => .inl e))
  clear h ha ha2 hm
  go_wp2
  go_end0
  exact ⟨rfl, H3.out, ⟨[.string x0, .string x1, v2], HA3.out, k25_mkM _ _ _ ⟨x0, x1, x2⟩ G2_3.out⟩, HM3.out⟩
def codeR (l : List UInt8) (b : Bool) : S27 × List UInt8 × Bool :=
  let r0 := textR l b
  let r1 := textR r0.2.1 r0.2.2
  let r2 := textR r1.2.1 r1.2.2
  let r3 := textR r2.2.1 r2.2.2
  let r4 := listR textR r3.2.1 r3.2.2
  let r5 := textR r4.2.1 r4.2.2
  let r6 := truthR r5.2.1 r5.2.2
  let r7 := truthR r6.2.1 r6.2.2
  let r8 := numR r7.2.1 r7.2.2
  (⟨r0.1, r1.1, r2.1, r3.1, r4.1, r5.1, r6.1, r7.1, r8.1⟩, r8.2.1, r8.2.2)
set_option maxHeartbeats 8000000 in
set_option maxRecDepth 100000 in
theorem code_r {w0 w : World} {g bb : Nat} {l : List UInt8} {b : Bool} (h : RS w0 g l b w) (ha : AtB w bb 27 #[.string ⟨#[]⟩, .string ⟨#[]⟩, .string ⟨#[]⟩, .string ⟨#[]⟩, .slice none 0 0, .string ⟨#[]⟩, .bool false, .bool false, .int .i64 0]) (hne : bb ≠ g) (hge : w0.heap.size ≤ bb) :
    Calls Tryd.prog 46 #[.pointer (some ⟨g, 0, none⟩), .pointer (some ⟨bb, 0, none⟩)] w (RM w0 g bb 27 k27 (codeR l b).1 (codeR l b).2.1 (codeR l b).2.2 w) := by
  have hgw : g < w.heap.size := h.lt
  have hbw := lt_atB ha
  obtain ⟨⟨x0, l0, b0⟩, e0⟩ : ∃ z, textR l b = z := ⟨_, rfl⟩
  obtain ⟨⟨x1, l1, b1⟩, e1⟩ : ∃ z, textR l0 b0 = z := ⟨_, rfl⟩
  obtain ⟨⟨x2, l2, b2⟩, e2⟩ : ∃ z, textR l1 b1 = z := ⟨_, rfl⟩
  obtain ⟨⟨x3, l3, b3⟩, e3⟩ : ∃ z, textR l2 b2 = z := ⟨_, rfl⟩
  obtain ⟨⟨x4, l4, b4⟩, e4⟩ : ∃ z, listR textR l3 b3 = z := ⟨_, rfl⟩
  obtain ⟨⟨x5, l5, b5⟩, e5⟩ : ∃ z, textR l4 b4 = z := ⟨_, rfl⟩
  obtain ⟨⟨x6, l6, b6⟩, e6⟩ : ∃ z, truthR l5 b5 = z := ⟨_, rfl⟩
  obtain ⟨⟨x7, l7, b7⟩, e7⟩ : ∃ z, truthR l6 b6 = z := ⟨_, rfl⟩
  obtain ⟨⟨x8, l8, b8⟩, e8⟩ : ∃ z, numR l7 b7 = z := ⟨_, rfl⟩
  have hfin : codeR l b = (⟨x0, x1, x2, x3, x4, x5, x6, x7, x8⟩, l8, b8) := by simp only [codeR, e0, e1, e2, e3, e4, e5, e6, e7, e8]
  rw [hfin]
  have E0 := hid e0
  have E1 := hid e1
  have E2 := hid e2
  have E3 := hid e3
  have E4 := hid e4
  have E5 := hid e5
  have E6 := hid e6
  have E7 := hid e7
  have E8 := hid e8
  have H0 := hid h
  have HA0 := hid ha
  have HM0 := hid (Mod.refl (fun x => x = g ∨ x = bb) w)
  clear h ha hfin e0 e1 e2 e3 e4 e5 e6 e7 e8
  go_enter Tryd.func46, Tryd.ntmps46
  have hc := text_r (o := 0) H0.out HA0.out hne hge ⟨#[]⟩ rfl
  rw [E0.out] at hc
  go_wp2_with fail
  refine hc.mono ?_
  clear hc
  intro e w1 hq
  obtain ⟨rfl, h, ha, hm⟩ := hq
  have ha2 : AtB w1 bb 27 #[.string x0, .string ⟨#[]⟩, .string ⟨#[]⟩, .string ⟨#[]⟩, .slice none 0 0, .string ⟨#[]⟩, .bool false, .bool false, .int .i64 0] := ha
  have H1 := hid h
  have HA1 := hid ha2
  have HM1 := hid (HM0.out.trans hm (fun _ e => .inl e))
  clear h ha ha2 hm
  have hc := text_r (o := 1) H1.out HA1.out hne hge ⟨#[]⟩ rfl
  rw [E1.out] at hc
  go_wp2_with fail
  refine hc.mono ?_
  clear hc
  intro e w2 hq
  obtain ⟨rfl, h, ha, hm⟩ := hq
  have ha2 : AtB w2 bb 27 #[.string x0, .string x1, .string ⟨#[]⟩, .string ⟨#[]⟩, .slice none 0 0, .string ⟨#[]⟩, .bool false, .bool false, .int .i64 0] := ha
  have H2 := hid h
  have HA2 := hid ha2
  have HM2 := hid (HM1.out.trans hm (fun _ e => .inl e))
  clear h ha ha2 hm
  have hc := text_r (o := 2) H2.out HA2.out hne hge ⟨#[]⟩ rfl
  rw [E2.out] at hc
  go_wp2_with fail
  refine hc.mono ?_
  clear hc
  intro e w3 hq
  obtain ⟨rfl, h, ha, hm⟩ := hq
  have ha2 : AtB w3 bb 27 #[.string x0, .string x1, .string x2, .string ⟨#[]⟩, .slice none 0 0, .string ⟨#[]⟩, .bool false, .bool false, .int .i64 0] := ha
  have H3 := hid h
  have HA3 := hid ha2
  have HM3 := hid (HM2.out.trans hm (fun _ e => .inl e))
  clear h ha ha2 hm
  have hc := text_r (o := 3) H3.out HA3.out hne hge ⟨#[]⟩ rfl
  rw [E3.out] at hc
  go_wp2_with fail
  refine hc.mono ?_
  clear hc
  intro e w4 hq
  obtain ⟨rfl, h, ha, hm⟩ := hq
  have ha2 : AtB w4 bb 27 #[.string x0, .string x1, .string x2, .string x3, .slice none 0 0, .string ⟨#[]⟩, .bool false, .bool false, .int .i64 0] := ha
  have H4 := hid h
  have HA4 := hid ha2
  have HM4 := hid (HM3.out.trans hm (fun _ e => .inl e))
  clear h ha ha2 hm
  have hc := texts_r (o := 4) H4.out HA4.out hne hge none 0 0 rfl (by intro q hq; have hq' : q ∈ ([9] : List Nat) := hq; rw [List.mem_singleton] at hq'; subst hq'; decide)
  rw [E4.out] at hc
  go_wp2_with fail
  refine hc.mono ?_
  clear hc
  intro e w5 hq
  obtain ⟨rfl, h, ⟨v4, ha, hr⟩, hm⟩ := hq
  have G4_5 := hid (Kd.R_lower hr HM4.out.size)
  clear hr
  have ha2 : AtB w5 bb 27 #[.string x0, .string x1, .string x2, .string x3, v4, .string ⟨#[]⟩, .bool false, .bool false, .int .i64 0] := ha
  have H5 := hid h
  have HA5 := hid ha2
  have HM5 := hid (HM4.out.trans hm (fun _ e => .inl e))
  clear h ha ha2 hm
  have hc := text_r (o := 5) H5.out HA5.out hne hge ⟨#[]⟩ rfl
  rw [E5.out] at hc
  go_wp2_with fail
  refine hc.mono ?_
  clear hc
  intro e w6 hq
  obtain ⟨rfl, h, ha, hm⟩ := hq
  have ha2 : AtB w6 bb 27 #[.string x0, .string x1, .string x2, .string x3, v4, .string x5, .bool false, .bool false, .int .i64 0] := ha
  have H6 := hid h
  have HA6 := hid ha2
  have G4_6 := hid (r_mod G4_5.out hm (fun x e => by rcases e with rfl | rfl <;> omega))
  have HM6 := hid (HM5.out.trans hm (fun _ e => .inl e))
  clear h ha ha2 hm
  have hc := truth_r (o := 6) H6.out HA6.out hne hge (by simp)
  rw [E6.out] at hc
  go_wp2_with fail
  refine hc.mono ?_
  clear hc
  intro e w7 hq
  obtain ⟨rfl, h, ha, hm⟩ := hq
  have ha2 : AtB w7 bb 27 #[.string x0, .string x1, .string x2, .string x3, v4, .string x5, .bool x6, .bool false, .int .i64 0] := ha
  have H7 := hid h
  have HA7 := hid ha2
  have G4_7 := hid (r_mod G4_6.out hm (fun x e => by rcases e with rfl | rfl <;> omega))
  have HM7 := hid (HM6.out.trans hm (fun _ e => .inl e))
  clear h ha ha2 hm
  have hc := truth_r (o := 7) H7.out HA7.out hne hge (by simp)
  rw [E7.out] at hc
  go_wp2_with fail
  refine hc.mono ?_
  clear hc
  intro e w8 hq
  obtain ⟨rfl, h, ha, hm⟩ := hq
  have ha2 : AtB w8 bb 27 #[.string x0, .string x1, .string x2, .string x3, v4, .string x5, .bool x6, .bool x7, .int .i64 0] := ha
  have H8 := hid h
  have HA8 := hid ha2
  have G4_8 := hid (r_mod G4_7.out hm (fun x e => by rcases e with rfl | rfl <;> omega))
  have HM8 := hid (HM7.out.trans hm (fun _ e => .inl e))
  clear h ha ha2 hm
  have hc := num_r (o := 8) H8.out HA8.out hne hge (by simp)
  rw [E8.out] at hc
  go_wp2_with fail
  refine hc.mono ?_
  clear hc
  intro e w9 hq
  obtain ⟨rfl, h, ha, hm⟩ := hq
  have ha2 : AtB w9 bb 27 #[.string x0, .string x1, .string x2, .string x3, v4, .string x5, .bool x6, .bool x7, .int .i64 x8] := ha
  have H9 := hid h
  have HA9 := hid ha2
  have G4_9 := hid (r_mod G4_8.out hm (fun x e => by rcases e with rfl | rfl <;> omega))
  have HM9 := hid (HM8.out.trans hm (fun _ e => .inl e))
  clear h ha ha2 hm
  go_wp2
  go_end0
  exact ⟨rfl, H9.out, ⟨[.string x0, .string x1, .string x2, .string x3, v4, .string x5, .bool x6, .bool x7, .int .i64 x8], HA9.out, k27_mkM _ _ _ ⟨x0, x1, x2, x3, x4, x5, x6, x7, x8⟩ G4_9.out⟩, HM9.out⟩
def familyR (l : List UInt8) (b : Bool) : S29 × List UInt8 × Bool :=
  let r0 := textR l b
  let r1 := textR r0.2.1 r0.2.2
  let r2 := textR r1.2.1 r1.2.2
  let r3 := listR textR r2.2.1 r2.2.2
  let r4 := numR r3.2.1 r3.2.2
  let r5 := numR r4.2.1 r4.2.2
  let r6 := truthR r5.2.1 r5.2.2
  (⟨r0.1, r1.1, r2.1, r3.1, r4.1, r5.1, r6.1⟩, r6.2.1, r6.2.2)
set_option maxHeartbeats 8000000 in
set_option maxRecDepth 100000 in
theorem family_r {w0 w : World} {g bb : Nat} {l : List UInt8} {b : Bool} (h : RS w0 g l b w) (ha : AtB w bb 29 #[.string ⟨#[]⟩, .string ⟨#[]⟩, .string ⟨#[]⟩, .slice none 0 0, .int .i64 0, .int .i64 0, .bool false]) (hne : bb ≠ g) (hge : w0.heap.size ≤ bb) :
    Calls Tryd.prog 48 #[.pointer (some ⟨g, 0, none⟩), .pointer (some ⟨bb, 0, none⟩)] w (RM w0 g bb 29 k29 (familyR l b).1 (familyR l b).2.1 (familyR l b).2.2 w) := by
  have hgw : g < w.heap.size := h.lt
  have hbw := lt_atB ha
  obtain ⟨⟨x0, l0, b0⟩, e0⟩ : ∃ z, textR l b = z := ⟨_, rfl⟩
  obtain ⟨⟨x1, l1, b1⟩, e1⟩ : ∃ z, textR l0 b0 = z := ⟨_, rfl⟩
  obtain ⟨⟨x2, l2, b2⟩, e2⟩ : ∃ z, textR l1 b1 = z := ⟨_, rfl⟩
  obtain ⟨⟨x3, l3, b3⟩, e3⟩ : ∃ z, listR textR l2 b2 = z := ⟨_, rfl⟩
  obtain ⟨⟨x4, l4, b4⟩, e4⟩ : ∃ z, numR l3 b3 = z := ⟨_, rfl⟩
  obtain ⟨⟨x5, l5, b5⟩, e5⟩ : ∃ z, numR l4 b4 = z := ⟨_, rfl⟩
  obtain ⟨⟨x6, l6, b6⟩, e6⟩ : ∃ z, truthR l5 b5 = z := ⟨_, rfl⟩
  have hfin : familyR l b = (⟨x0, x1, x2, x3, x4, x5, x6⟩, l6, b6) := by simp only [familyR, e0, e1, e2, e3, e4, e5, e6]
  rw [hfin]
  have E0 := hid e0
  have E1 := hid e1
  have E2 := hid e2
  have E3 := hid e3
  have E4 := hid e4
  have E5 := hid e5
  have E6 := hid e6
  have H0 := hid h
  have HA0 := hid ha
  have HM0 := hid (Mod.refl (fun x => x = g ∨ x = bb) w)
  clear h ha hfin e0 e1 e2 e3 e4 e5 e6
  go_enter Tryd.func48, Tryd.ntmps48
  have hc := text_r (o := 0) H0.out HA0.out hne hge ⟨#[]⟩ rfl
  rw [E0.out] at hc
  go_wp2_with fail
  refine hc.mono ?_
  clear hc
  intro e w1 hq
  obtain ⟨rfl, h, ha, hm⟩ := hq
  have ha2 : AtB w1 bb 29 #[.string x0, .string ⟨#[]⟩, .string ⟨#[]⟩, .slice none 0 0, .int .i64 0, .int .i64 0, .bool false] := ha
  have H1 := hid h
  have HA1 := hid ha2
  have HM1 := hid (HM0.out.trans hm (fun _ e => .inl e))
  clear h ha ha2 hm
  have hc := text_r (o := 1) H1.out HA1.out hne hge ⟨#[]⟩ rfl
  rw [E1.out] at hc
  go_wp2_with fail
  refine hc.mono ?_
  clear hc
  intro e w2 hq
  obtain ⟨rfl, h, ha, hm⟩ := hq
  have ha2 : AtB w2 bb 29 #[.string x0, .string x1, .string ⟨#[]⟩, .slice none 0 0, .int .i64 0, .int .i64 0, .bool false] := ha
  have H2 := hid h
  have HA2 := hid ha2
  have HM2 := hid (HM1.out.trans hm (fun _ e => .inl e))
  clear h ha ha2 hm
  have hc := text_r (o := 2) H2.out HA2.out hne hge ⟨#[]⟩ rfl
  rw [E2.out] at hc
  go_wp2_with fail
  refine hc.mono ?_
  clear hc
  intro e w3 hq
  obtain ⟨rfl, h, ha, hm⟩ := hq
  have ha2 : AtB w3 bb 29 #[.string x0, .string x1, .string x2, .slice none 0 0, .int .i64 0, .int .i64 0, .bool false] := ha
  have H3 := hid h
  have HA3 := hid ha2
  have HM3 := hid (HM2.out.trans hm (fun _ e => .inl e))
  clear h ha ha2 hm
  have hc := texts_r (o := 3) H3.out HA3.out hne hge none 0 0 rfl (by intro q hq; have hq' : q ∈ ([9] : List Nat) := hq; rw [List.mem_singleton] at hq'; subst hq'; decide)
  rw [E3.out] at hc
  go_wp2_with fail
  refine hc.mono ?_
  clear hc
  intro e w4 hq
  obtain ⟨rfl, h, ⟨v3, ha, hr⟩, hm⟩ := hq
  have G3_4 := hid (Kd.R_lower hr HM3.out.size)
  clear hr
  have ha2 : AtB w4 bb 29 #[.string x0, .string x1, .string x2, v3, .int .i64 0, .int .i64 0, .bool false] := ha
  have H4 := hid h
  have HA4 := hid ha2
  have HM4 := hid (HM3.out.trans hm (fun _ e => .inl e))
  clear h ha ha2 hm
  have hc := num_r (o := 4) H4.out HA4.out hne hge (by simp)
  rw [E4.out] at hc
  go_wp2_with fail
  refine hc.mono ?_
  clear hc
  intro e w5 hq
  obtain ⟨rfl, h, ha, hm⟩ := hq
  have ha2 : AtB w5 bb 29 #[.string x0, .string x1, .string x2, v3, .int .i64 x4, .int .i64 0, .bool false] := ha
  have H5 := hid h
  have HA5 := hid ha2
  have G3_5 := hid (r_mod G3_4.out hm (fun x e => by rcases e with rfl | rfl <;> omega))
  have HM5 := hid (HM4.out.trans hm (fun _ e => .inl e))
  clear h ha ha2 hm
  have hc := num_r (o := 5) H5.out HA5.out hne hge (by simp)
  rw [E5.out] at hc
  go_wp2_with fail
  refine hc.mono ?_
  clear hc
  intro e w6 hq
  obtain ⟨rfl, h, ha, hm⟩ := hq
  have ha2 : AtB w6 bb 29 #[.string x0, .string x1, .string x2, v3, .int .i64 x4, .int .i64 x5, .bool false] := ha
  have H6 := hid h
  have HA6 := hid ha2
  have G3_6 := hid (r_mod G3_5.out hm (fun x e => by rcases e with rfl | rfl <;> omega))
  have HM6 := hid (HM5.out.trans hm (fun _ e => .inl e))
  clear h ha ha2 hm
  have hc := truth_r (o := 6) H6.out HA6.out hne hge (by simp)
  rw [E6.out] at hc
  go_wp2_with fail
  refine hc.mono ?_
  clear hc
  intro e w7 hq
  obtain ⟨rfl, h, ha, hm⟩ := hq
  have ha2 : AtB w7 bb 29 #[.string x0, .string x1, .string x2, v3, .int .i64 x4, .int .i64 x5, .bool x6] := ha
  have H7 := hid h
  have HA7 := hid ha2
  have G3_7 := hid (r_mod G3_6.out hm (fun x e => by rcases e with rfl | rfl <;> omega))
  have HM7 := hid (HM6.out.trans hm (fun _ e => .inl e))
  clear h ha ha2 hm
  go_wp2
  go_end0
  exact ⟨rfl, H7.out, ⟨[.string x0, .string x1, .string x2, v3, .int .i64 x4, .int .i64 x5, .bool x6], HA7.out, k29_mkM _ _ _ ⟨x0, x1, x2, x3, x4, x5, x6⟩ G3_7.out⟩, HM7.out⟩
def refreshR (l : List UInt8) (b : Bool) : S31 × List UInt8 × Bool :=
  let r0 := textR l b
  let r1 := textR r0.2.1 r0.2.2
  let r2 := numR r1.2.1 r1.2.2
  (⟨r0.1, r1.1, r2.1⟩, r2.2.1, r2.2.2)
set_option maxHeartbeats 8000000 in
set_option maxRecDepth 100000 in
theorem refresh_r {w0 w : World} {g bb : Nat} {l : List UInt8} {b : Bool} (h : RS w0 g l b w) (ha : AtB w bb 31 #[.string ⟨#[]⟩, .string ⟨#[]⟩, .int .i64 0]) (hne : bb ≠ g) (hge : w0.heap.size ≤ bb) :
    Calls Tryd.prog 41 #[.pointer (some ⟨g, 0, none⟩), .pointer (some ⟨bb, 0, none⟩)] w (RM w0 g bb 31 k31 (refreshR l b).1 (refreshR l b).2.1 (refreshR l b).2.2 w) := by
  have hgw : g < w.heap.size := h.lt
  have hbw := lt_atB ha
  obtain ⟨⟨x0, l0, b0⟩, e0⟩ : ∃ z, textR l b = z := ⟨_, rfl⟩
  obtain ⟨⟨x1, l1, b1⟩, e1⟩ : ∃ z, textR l0 b0 = z := ⟨_, rfl⟩
  obtain ⟨⟨x2, l2, b2⟩, e2⟩ : ∃ z, numR l1 b1 = z := ⟨_, rfl⟩
  have hfin : refreshR l b = (⟨x0, x1, x2⟩, l2, b2) := by simp only [refreshR, e0, e1, e2]
  rw [hfin]
  have E0 := hid e0
  have E1 := hid e1
  have E2 := hid e2
  have H0 := hid h
  have HA0 := hid ha
  have HM0 := hid (Mod.refl (fun x => x = g ∨ x = bb) w)
  clear h ha hfin e0 e1 e2
  go_enter Tryd.func41, Tryd.ntmps41
  have hc := text_r (o := 0) H0.out HA0.out hne hge ⟨#[]⟩ rfl
  rw [E0.out] at hc
  go_wp2_with fail
  refine hc.mono ?_
  clear hc
  intro e w1 hq
  obtain ⟨rfl, h, ha, hm⟩ := hq
  have ha2 : AtB w1 bb 31 #[.string x0, .string ⟨#[]⟩, .int .i64 0] := ha
  have H1 := hid h
  have HA1 := hid ha2
  have HM1 := hid (HM0.out.trans hm (fun _ e => .inl e))
  clear h ha ha2 hm
  have hc := text_r (o := 1) H1.out HA1.out hne hge ⟨#[]⟩ rfl
  rw [E1.out] at hc
  go_wp2_with fail
  refine hc.mono ?_
  clear hc
  intro e w2 hq
  obtain ⟨rfl, h, ha, hm⟩ := hq
  have ha2 : AtB w2 bb 31 #[.string x0, .string x1, .int .i64 0] := ha
  have H2 := hid h
  have HA2 := hid ha2
  have HM2 := hid (HM1.out.trans hm (fun _ e => .inl e))
  clear h ha ha2 hm
  have hc := num_r (o := 2) H2.out HA2.out hne hge (by simp)
  rw [E2.out] at hc
  go_wp2_with fail
  refine hc.mono ?_
  clear hc
  intro e w3 hq
  obtain ⟨rfl, h, ha, hm⟩ := hq
  have ha2 : AtB w3 bb 31 #[.string x0, .string x1, .int .i64 x2] := ha
  have H3 := hid h
  have HA3 := hid ha2
  have HM3 := hid (HM2.out.trans hm (fun _ e => .inl e))
  clear h ha ha2 hm
  go_wp2
  go_end0
  exact ⟨rfl, H3.out, ⟨[.string x0, .string x1, .int .i64 x2], HA3.out, k31_mkM _ _ _ ⟨x0, x1, x2⟩ ⟩, HM3.out⟩
def accessR (l : List UInt8) (b : Bool) : S34 × List UInt8 × Bool :=
  let r0 := textR l b
  let r1 := textR r0.2.1 r0.2.2
  let r2 := textR r1.2.1 r1.2.2
  let r3 := textR r2.2.1 r2.2.2
  let r4 := textR r3.2.1 r3.2.2
  let r5 := listR textR r4.2.1 r4.2.2
  let r6 := listR permR r5.2.1 r5.2.2
  let r7 := numR r6.2.1 r6.2.2
  let r8 := numR r7.2.1 r7.2.2
  let r9 := truthR r8.2.1 r8.2.2
  (⟨r0.1, r1.1, r2.1, r3.1, r4.1, r5.1, r6.1, r7.1, r8.1, r9.1⟩, r9.2.1, r9.2.2)
set_option maxHeartbeats 8000000 in
set_option maxRecDepth 100000 in
theorem access_r {w0 w : World} {g bb : Nat} {l : List UInt8} {b : Bool} (h : RS w0 g l b w) (ha : AtB w bb 34 #[.string ⟨#[]⟩, .string ⟨#[]⟩, .string ⟨#[]⟩, .string ⟨#[]⟩, .string ⟨#[]⟩, .slice none 0 0, .slice none 0 0, .int .i64 0, .int .i64 0, .bool false]) (hne : bb ≠ g) (hge : w0.heap.size ≤ bb) :
    Calls Tryd.prog 50 #[.pointer (some ⟨g, 0, none⟩), .pointer (some ⟨bb, 0, none⟩)] w (RM w0 g bb 34 k34 (accessR l b).1 (accessR l b).2.1 (accessR l b).2.2 w) := by
  have hgw : g < w.heap.size := h.lt
  have hbw := lt_atB ha
  obtain ⟨⟨x0, l0, b0⟩, e0⟩ : ∃ z, textR l b = z := ⟨_, rfl⟩
  obtain ⟨⟨x1, l1, b1⟩, e1⟩ : ∃ z, textR l0 b0 = z := ⟨_, rfl⟩
  obtain ⟨⟨x2, l2, b2⟩, e2⟩ : ∃ z, textR l1 b1 = z := ⟨_, rfl⟩
  obtain ⟨⟨x3, l3, b3⟩, e3⟩ : ∃ z, textR l2 b2 = z := ⟨_, rfl⟩
  obtain ⟨⟨x4, l4, b4⟩, e4⟩ : ∃ z, textR l3 b3 = z := ⟨_, rfl⟩
  obtain ⟨⟨x5, l5, b5⟩, e5⟩ : ∃ z, listR textR l4 b4 = z := ⟨_, rfl⟩
  obtain ⟨⟨x6, l6, b6⟩, e6⟩ : ∃ z, listR permR l5 b5 = z := ⟨_, rfl⟩
  obtain ⟨⟨x7, l7, b7⟩, e7⟩ : ∃ z, numR l6 b6 = z := ⟨_, rfl⟩
  obtain ⟨⟨x8, l8, b8⟩, e8⟩ : ∃ z, numR l7 b7 = z := ⟨_, rfl⟩
  obtain ⟨⟨x9, l9, b9⟩, e9⟩ : ∃ z, truthR l8 b8 = z := ⟨_, rfl⟩
  have hfin : accessR l b = (⟨x0, x1, x2, x3, x4, x5, x6, x7, x8, x9⟩, l9, b9) := by simp only [accessR, e0, e1, e2, e3, e4, e5, e6, e7, e8, e9]
  rw [hfin]
  have E0 := hid e0
  have E1 := hid e1
  have E2 := hid e2
  have E3 := hid e3
  have E4 := hid e4
  have E5 := hid e5
  have E6 := hid e6
  have E7 := hid e7
  have E8 := hid e8
  have E9 := hid e9
  have H0 := hid h
  have HA0 := hid ha
  have HM0 := hid (Mod.refl (fun x => x = g ∨ x = bb) w)
  clear h ha hfin e0 e1 e2 e3 e4 e5 e6 e7 e8 e9
  go_enter Tryd.func50, Tryd.ntmps50
  have hc := text_r (o := 0) H0.out HA0.out hne hge ⟨#[]⟩ rfl
  rw [E0.out] at hc
  go_wp2_with fail
  refine hc.mono ?_
  clear hc
  intro e w1 hq
  obtain ⟨rfl, h, ha, hm⟩ := hq
  have ha2 : AtB w1 bb 34 #[.string x0, .string ⟨#[]⟩, .string ⟨#[]⟩, .string ⟨#[]⟩, .string ⟨#[]⟩, .slice none 0 0, .slice none 0 0, .int .i64 0, .int .i64 0, .bool false] := ha
  have H1 := hid h
  have HA1 := hid ha2
  have HM1 := hid (HM0.out.trans hm (fun _ e => .inl e))
  clear h ha ha2 hm
  have hc := text_r (o := 1) H1.out HA1.out hne hge ⟨#[]⟩ rfl
  rw [E1.out] at hc
  go_wp2_with fail
  refine hc.mono ?_
  clear hc
  intro e w2 hq
  obtain ⟨rfl, h, ha, hm⟩ := hq
  have ha2 : AtB w2 bb 34 #[.string x0, .string x1, .string ⟨#[]⟩, .string ⟨#[]⟩, .string ⟨#[]⟩, .slice none 0 0, .slice none 0 0, .int .i64 0, .int .i64 0, .bool false] := ha
  have H2 := hid h
  have HA2 := hid ha2
  have HM2 := hid (HM1.out.trans hm (fun _ e => .inl e))
  clear h ha ha2 hm
  have hc := text_r (o := 2) H2.out HA2.out hne hge ⟨#[]⟩ rfl
  rw [E2.out] at hc
  go_wp2_with fail
  refine hc.mono ?_
  clear hc
  intro e w3 hq
  obtain ⟨rfl, h, ha, hm⟩ := hq
  have ha2 : AtB w3 bb 34 #[.string x0, .string x1, .string x2, .string ⟨#[]⟩, .string ⟨#[]⟩, .slice none 0 0, .slice none 0 0, .int .i64 0, .int .i64 0, .bool false] := ha
  have H3 := hid h
  have HA3 := hid ha2
  have HM3 := hid (HM2.out.trans hm (fun _ e => .inl e))
  clear h ha ha2 hm
  have hc := text_r (o := 3) H3.out HA3.out hne hge ⟨#[]⟩ rfl
  rw [E3.out] at hc
  go_wp2_with fail
  refine hc.mono ?_
  clear hc
  intro e w4 hq
  obtain ⟨rfl, h, ha, hm⟩ := hq
  have ha2 : AtB w4 bb 34 #[.string x0, .string x1, .string x2, .string x3, .string ⟨#[]⟩, .slice none 0 0, .slice none 0 0, .int .i64 0, .int .i64 0, .bool false] := ha
  have H4 := hid h
  have HA4 := hid ha2
  have HM4 := hid (HM3.out.trans hm (fun _ e => .inl e))
  clear h ha ha2 hm
  have hc := text_r (o := 4) H4.out HA4.out hne hge ⟨#[]⟩ rfl
  rw [E4.out] at hc
  go_wp2_with fail
  refine hc.mono ?_
  clear hc
  intro e w5 hq
  obtain ⟨rfl, h, ha, hm⟩ := hq
  have ha2 : AtB w5 bb 34 #[.string x0, .string x1, .string x2, .string x3, .string x4, .slice none 0 0, .slice none 0 0, .int .i64 0, .int .i64 0, .bool false] := ha
  have H5 := hid h
  have HA5 := hid ha2
  have HM5 := hid (HM4.out.trans hm (fun _ e => .inl e))
  clear h ha ha2 hm
  have hc := texts_r (o := 5) H5.out HA5.out hne hge none 0 0 rfl (by intro q hq; have hq' : q ∈ ([9] : List Nat) := hq; rw [List.mem_singleton] at hq'; subst hq'; decide)
  rw [E5.out] at hc
  go_wp2_with fail
  refine hc.mono ?_
  clear hc
  intro e w6 hq
  obtain ⟨rfl, h, ⟨v5, ha, hr⟩, hm⟩ := hq
  have G5_6 := hid (Kd.R_lower hr HM5.out.size)
  clear hr
  have ha2 : AtB w6 bb 34 #[.string x0, .string x1, .string x2, .string x3, .string x4, v5, .slice none 0 0, .int .i64 0, .int .i64 0, .bool false] := ha
  have H6 := hid h
  have HA6 := hid ha2
  have HM6 := hid (HM5.out.trans hm (fun _ e => .inl e))
  clear h ha ha2 hm
  have hc := listP_r (o := 6) H6.out HA6.out hne hge none 0 0 rfl (by intro q hq; have hq' : q ∈ ([86, 9] : List Nat) := hq; simp only [List.mem_cons, List.not_mem_nil, or_false] at hq'; rcases hq' with rfl | rfl <;> decide)
  rw [E6.out] at hc
  go_wp2_with fail
  refine hc.mono ?_
  clear hc
  intro e w7 hq
  obtain ⟨rfl, h, ⟨v6, ha, hr⟩, hm⟩ := hq
  have G6_7 := hid (Kd.R_lower hr HM6.out.size)
  clear hr
  have ha2 : AtB w7 bb 34 #[.string x0, .string x1, .string x2, .string x3, .string x4, v5, v6, .int .i64 0, .int .i64 0, .bool false] := ha
  have H7 := hid h
  have HA7 := hid ha2
  have G5_7 := hid (r_mod G5_6.out hm (fun x e => by rcases e with rfl | rfl <;> omega))
  have HM7 := hid (HM6.out.trans hm (fun _ e => .inl e))
  clear h ha ha2 hm
  have hc := num_r (o := 7) H7.out HA7.out hne hge (by simp)
  rw [E7.out] at hc
  go_wp2_with fail
  refine hc.mono ?_
  clear hc
  intro e w8 hq
  obtain ⟨rfl, h, ha, hm⟩ := hq
  have ha2 : AtB w8 bb 34 #[.string x0, .string x1, .string x2, .string x3, .string x4, v5, v6, .int .i64 x7, .int .i64 0, .bool false] := ha
  have H8 := hid h
  have HA8 := hid ha2
  have G5_8 := hid (r_mod G5_7.out hm (fun x e => by rcases e with rfl | rfl <;> omega))
  have G6_8 := hid (r_mod G6_7.out hm (fun x e => by rcases e with rfl | rfl <;> omega))
  have HM8 := hid (HM7.out.trans hm (fun _ e => .inl e))
  clear h ha ha2 hm
  have hc := num_r (o := 8) H8.out HA8.out hne hge (by simp)
  rw [E8.out] at hc
  go_wp2_with fail
  refine hc.mono ?_
  clear hc
  intro e w9 hq
  obtain ⟨rfl, h, ha, hm⟩ := hq
  have ha2 : AtB w9 bb 34 #[.string x0, .string x1, .string x2, .string x3, .string x4, v5, v6, .int .i64 x7, .int .i64 x8, .bool false] := ha
  have H9 := hid h
  have HA9 := hid ha2
  have G5_9 := hid (r_mod G5_8.out hm (fun x e => by rcases e with rfl | rfl <;> omega))
  have G6_9 := hid (r_mod G6_8.out hm (fun x e => by rcases e with rfl | rfl <;> omega))
  have HM9 := hid (HM8.out.trans hm (fun _ e => .inl e))
  clear h ha ha2 hm
  have hc := truth_r (o := 9) H9.out HA9.out hne hge (by simp)
  rw [E9.out] at hc
  go_wp2_with fail
  refine hc.mono ?_
  clear hc
  intro e w10 hq
  obtain ⟨rfl, h, ha, hm⟩ := hq
  have ha2 : AtB w10 bb 34 #[.string x0, .string x1, .string x2, .string x3, .string x4, v5, v6, .int .i64 x7, .int .i64 x8, .bool x9] := ha
  have H10 := hid h
  have HA10 := hid ha2
  have G5_10 := hid (r_mod G5_9.out hm (fun x e => by rcases e with rfl | rfl <;> omega))
  have G6_10 := hid (r_mod G6_9.out hm (fun x e => by rcases e with rfl | rfl <;> omega))
  have HM10 := hid (HM9.out.trans hm (fun _ e => .inl e))
  clear h ha ha2 hm
  go_wp2
  go_end0
  exact ⟨rfl, H10.out, ⟨[.string x0, .string x1, .string x2, .string x3, .string x4, v5, v6, .int .i64 x7, .int .i64 x8, .bool x9], HA10.out, k34_mkM _ _ _ ⟨x0, x1, x2, x3, x4, x5, x6, x7, x8, x9⟩ G5_10.out G6_10.out⟩, HM10.out⟩
def resourceR (l : List UInt8) (b : Bool) : S36 × List UInt8 × Bool :=
  let r0 := textR l b
  let r1 := textR r0.2.1 r0.2.2
  let r2 := textR r1.2.1 r1.2.2
  let r3 := textR r2.2.1 r2.2.2
  let r4 := listR textR r3.2.1 r3.2.2
  let r5 := textR r4.2.1 r4.2.2
  (⟨r0.1, r1.1, r2.1, r3.1, r4.1, r5.1⟩, r5.2.1, r5.2.2)
set_option maxHeartbeats 8000000 in
set_option maxRecDepth 100000 in
theorem resource_r {w0 w : World} {g bb : Nat} {l : List UInt8} {b : Bool} (h : RS w0 g l b w) (ha : AtB w bb 36 #[.string ⟨#[]⟩, .string ⟨#[]⟩, .string ⟨#[]⟩, .string ⟨#[]⟩, .slice none 0 0, .string ⟨#[]⟩]) (hne : bb ≠ g) (hge : w0.heap.size ≤ bb) :
    Calls Tryd.prog 52 #[.pointer (some ⟨g, 0, none⟩), .pointer (some ⟨bb, 0, none⟩)] w (RM w0 g bb 36 k36 (resourceR l b).1 (resourceR l b).2.1 (resourceR l b).2.2 w) := by
  have hgw : g < w.heap.size := h.lt
  have hbw := lt_atB ha
  obtain ⟨⟨x0, l0, b0⟩, e0⟩ : ∃ z, textR l b = z := ⟨_, rfl⟩
  obtain ⟨⟨x1, l1, b1⟩, e1⟩ : ∃ z, textR l0 b0 = z := ⟨_, rfl⟩
  obtain ⟨⟨x2, l2, b2⟩, e2⟩ : ∃ z, textR l1 b1 = z := ⟨_, rfl⟩
  obtain ⟨⟨x3, l3, b3⟩, e3⟩ : ∃ z, textR l2 b2 = z := ⟨_, rfl⟩
  obtain ⟨⟨x4, l4, b4⟩, e4⟩ : ∃ z, listR textR l3 b3 = z := ⟨_, rfl⟩
  obtain ⟨⟨x5, l5, b5⟩, e5⟩ : ∃ z, textR l4 b4 = z := ⟨_, rfl⟩
  have hfin : resourceR l b = (⟨x0, x1, x2, x3, x4, x5⟩, l5, b5) := by simp only [resourceR, e0, e1, e2, e3, e4, e5]
  rw [hfin]
  have E0 := hid e0
  have E1 := hid e1
  have E2 := hid e2
  have E3 := hid e3
  have E4 := hid e4
  have E5 := hid e5
  have H0 := hid h
  have HA0 := hid ha
  have HM0 := hid (Mod.refl (fun x => x = g ∨ x = bb) w)
  clear h ha hfin e0 e1 e2 e3 e4 e5
  go_enter Tryd.func52, Tryd.ntmps52
  have hc := text_r (o := 0) H0.out HA0.out hne hge ⟨#[]⟩ rfl
  rw [E0.out] at hc
  go_wp2_with fail
  refine hc.mono ?_
  clear hc
  intro e w1 hq
  obtain ⟨rfl, h, ha, hm⟩ := hq
  have ha2 : AtB w1 bb 36 #[.string x0, .string ⟨#[]⟩, .string ⟨#[]⟩, .string ⟨#[]⟩, .slice none 0 0, .string ⟨#[]⟩] := ha
  have H1 := hid h
  have HA1 := hid ha2
  have HM1 := hid (HM0.out.trans hm (fun _ e => .inl e))
  clear h ha ha2 hm
  have hc := text_r (o := 1) H1.out HA1.out hne hge ⟨#[]⟩ rfl
  rw [E1.out] at hc
  go_wp2_with fail
  refine hc.mono ?_
  clear hc
  intro e w2 hq
  obtain ⟨rfl, h, ha, hm⟩ := hq
  have ha2 : AtB w2 bb 36 #[.string x0, .string x1, .string ⟨#[]⟩, .string ⟨#[]⟩, .slice none 0 0, .string ⟨#[]⟩] := ha
  have H2 := hid h
  have HA2 := hid ha2
  have HM2 := hid (HM1.out.trans hm (fun _ e => .inl e))
  clear h ha ha2 hm
  have hc := text_r (o := 2) H2.out HA2.out hne hge ⟨#[]⟩ rfl
  rw [E2.out] at hc
  go_wp2_with fail
  refine hc.mono ?_
  clear hc
  intro e w3 hq
  obtain ⟨rfl, h, ha, hm⟩ := hq
  have ha2 : AtB w3 bb 36 #[.string x0, .string x1, .string x2, .string ⟨#[]⟩, .slice none 0 0, .string ⟨#[]⟩] := ha
  have H3 := hid h
  have HA3 := hid ha2
  have HM3 := hid (HM2.out.trans hm (fun _ e => .inl e))
  clear h ha ha2 hm
  have hc := text_r (o := 3) H3.out HA3.out hne hge ⟨#[]⟩ rfl
  rw [E3.out] at hc
  go_wp2_with fail
  refine hc.mono ?_
  clear hc
  intro e w4 hq
  obtain ⟨rfl, h, ha, hm⟩ := hq
  have ha2 : AtB w4 bb 36 #[.string x0, .string x1, .string x2, .string x3, .slice none 0 0, .string ⟨#[]⟩] := ha
  have H4 := hid h
  have HA4 := hid ha2
  have HM4 := hid (HM3.out.trans hm (fun _ e => .inl e))
  clear h ha ha2 hm
  have hc := texts_r (o := 4) H4.out HA4.out hne hge none 0 0 rfl (by intro q hq; have hq' : q ∈ ([9] : List Nat) := hq; rw [List.mem_singleton] at hq'; subst hq'; decide)
  rw [E4.out] at hc
  go_wp2_with fail
  refine hc.mono ?_
  clear hc
  intro e w5 hq
  obtain ⟨rfl, h, ⟨v4, ha, hr⟩, hm⟩ := hq
  have G4_5 := hid (Kd.R_lower hr HM4.out.size)
  clear hr
  have ha2 : AtB w5 bb 36 #[.string x0, .string x1, .string x2, .string x3, v4, .string ⟨#[]⟩] := ha
  have H5 := hid h
  have HA5 := hid ha2
  have HM5 := hid (HM4.out.trans hm (fun _ e => .inl e))
  clear h ha ha2 hm
  have hc := text_r (o := 5) H5.out HA5.out hne hge ⟨#[]⟩ rfl
  rw [E5.out] at hc
  go_wp2_with fail
  refine hc.mono ?_
  clear hc
  intro e w6 hq
  obtain ⟨rfl, h, ha, hm⟩ := hq
  have ha2 : AtB w6 bb 36 #[.string x0, .string x1, .string x2, .string x3, v4, .string x5] := ha
  have H6 := hid h
  have HA6 := hid ha2
  have G4_6 := hid (r_mod G4_5.out hm (fun x e => by rcases e with rfl | rfl <;> omega))
  have HM6 := hid (HM5.out.trans hm (fun _ e => .inl e))
  clear h ha ha2 hm
  go_wp2
  go_end0
  exact ⟨rfl, H6.out, ⟨[.string x0, .string x1, .string x2, .string x3, v4, .string x5], HA6.out, k36_mkM _ _ _ ⟨x0, x1, x2, x3, x4, x5⟩ G4_6.out⟩, HM6.out⟩
def ticketR (l : List UInt8) (b : Bool) : S38 × List UInt8 × Bool :=
  let r0 := textR l b
  let r1 := textR r0.2.1 r0.2.2
  let r2 := listR permR r1.2.1 r1.2.2
  let r3 := textR r2.2.1 r2.2.2
  let r4 := numR r3.2.1 r3.2.2
  let r5 := truthR r4.2.1 r4.2.2
  (⟨r0.1, r1.1, r2.1, r3.1, r4.1, r5.1⟩, r5.2.1, r5.2.2)
set_option maxHeartbeats 8000000 in
set_option maxRecDepth 100000 in
theorem ticket_r {w0 w : World} {g bb : Nat} {l : List UInt8} {b : Bool} (h : RS w0 g l b w) (ha : AtB w bb 38 #[.string ⟨#[]⟩, .string ⟨#[]⟩, .slice none 0 0, .string ⟨#[]⟩, .int .i64 0, .bool false]) (hne : bb ≠ g) (hge : w0.heap.size ≤ bb) :
    Calls Tryd.prog 54 #[.pointer (some ⟨g, 0, none⟩), .pointer (some ⟨bb, 0, none⟩)] w (RM w0 g bb 38 k38 (ticketR l b).1 (ticketR l b).2.1 (ticketR l b).2.2 w) := by
  have hgw : g < w.heap.size := h.lt
  have hbw := lt_atB ha
  obtain ⟨⟨x0, l0, b0⟩, e0⟩ : ∃ z, textR l b = z := ⟨_, rfl⟩
  obtain ⟨⟨x1, l1, b1⟩, e1⟩ : ∃ z, textR l0 b0 = z := ⟨_, rfl⟩
  obtain ⟨⟨x2, l2, b2⟩, e2⟩ : ∃ z, listR permR l1 b1 = z := ⟨_, rfl⟩
  obtain ⟨⟨x3, l3, b3⟩, e3⟩ : ∃ z, textR l2 b2 = z := ⟨_, rfl⟩
  obtain ⟨⟨x4, l4, b4⟩, e4⟩ : ∃ z, numR l3 b3 = z := ⟨_, rfl⟩
  obtain ⟨⟨x5, l5, b5⟩, e5⟩ : ∃ z, truthR l4 b4 = z := ⟨_, rfl⟩
  have hfin : ticketR l b = (⟨x0, x1, x2, x3, x4, x5⟩, l5, b5) := by simp only [ticketR, e0, e1, e2, e3, e4, e5]
  rw [hfin]
  have E0 := hid e0
  have E1 := hid e1
  have E2 := hid e2
  have E3 := hid e3
  have E4 := hid e4
  have E5 := hid e5
  have H0 := hid h
  have HA0 := hid ha
  have HM0 := hid (Mod.refl (fun x => x = g ∨ x = bb) w)
  clear h ha hfin e0 e1 e2 e3 e4 e5
  go_enter Tryd.func54, Tryd.ntmps54
  have hc := text_r (o := 0) H0.out HA0.out hne hge ⟨#[]⟩ rfl
  rw [E0.out] at hc
  go_wp2_with fail
  refine hc.mono ?_
  clear hc
  intro e w1 hq
  obtain ⟨rfl, h, ha, hm⟩ := hq
  have ha2 : AtB w1 bb 38 #[.string x0, .string ⟨#[]⟩, .slice none 0 0, .string ⟨#[]⟩, .int .i64 0, .bool false] := ha
  have H1 := hid h
  have HA1 := hid ha2
  have HM1 := hid (HM0.out.trans hm (fun _ e => .inl e))
  clear h ha ha2 hm
  have hc := text_r (o := 1) H1.out HA1.out hne hge ⟨#[]⟩ rfl
  rw [E1.out] at hc
  go_wp2_with fail
  refine hc.mono ?_
  clear hc
  intro e w2 hq
  obtain ⟨rfl, h, ha, hm⟩ := hq
  have ha2 : AtB w2 bb 38 #[.string x0, .string x1, .slice none 0 0, .string ⟨#[]⟩, .int .i64 0, .bool false] := ha
  have H2 := hid h
  have HA2 := hid ha2
  have HM2 := hid (HM1.out.trans hm (fun _ e => .inl e))
  clear h ha ha2 hm
  have hc := listP_r (o := 2) H2.out HA2.out hne hge none 0 0 rfl (by intro q hq; have hq' : q ∈ ([86, 9] : List Nat) := hq; simp only [List.mem_cons, List.not_mem_nil, or_false] at hq'; rcases hq' with rfl | rfl <;> decide)
  rw [E2.out] at hc
  go_wp2_with fail
  refine hc.mono ?_
  clear hc
  intro e w3 hq
  obtain ⟨rfl, h, ⟨v2, ha, hr⟩, hm⟩ := hq
  have G2_3 := hid (Kd.R_lower hr HM2.out.size)
  clear hr
  have ha2 : AtB w3 bb 38 #[.string x0, .string x1, v2, .string ⟨#[]⟩, .int .i64 0, .bool false] := ha
  have H3 := hid h
  have HA3 := hid ha2
  have HM3 := hid (HM2.out.trans hm (fun _ e => .inl e))
  clear h ha ha2 hm
  have hc := text_r (o := 3) H3.out HA3.out hne hge ⟨#[]⟩ rfl
  rw [E3.out] at hc
  go_wp2_with fail
  refine hc.mono ?_
  clear hc
  intro e w4 hq
  obtain ⟨rfl, h, ha, hm⟩ := hq
  have ha2 : AtB w4 bb 38 #[.string x0, .string x1, v2, .string x3, .int .i64 0, .bool false] := ha
  have H4 := hid h
  have HA4 := hid ha2
  have G2_4 := hid (r_mod G2_3.out hm (fun x e => by rcases e with rfl | rfl <;> omega))
  have HM4 := hid (HM3.out.trans hm (fun _ e => .inl e))
  clear h ha ha2 hm
  have hc := num_r (o := 4) H4.out HA4.out hne hge (by simp)
  rw [E4.out] at hc
  go_wp2_with fail
  refine hc.mono ?_
  clear hc
  intro e w5 hq
  obtain ⟨rfl, h, ha, hm⟩ := hq
  have ha2 : AtB w5 bb 38 #[.string x0, .string x1, v2, .string x3, .int .i64 x4, .bool false] := ha
  have H5 := hid h
  have HA5 := hid ha2
  have G2_5 := hid (r_mod G2_4.out hm (fun x e => by rcases e with rfl | rfl <;> omega))
  have HM5 := hid (HM4.out.trans hm (fun _ e => .inl e))
  clear h ha ha2 hm
  have hc := truth_r (o := 5) H5.out HA5.out hne hge (by simp)
  rw [E5.out] at hc
  go_wp2_with fail
  refine hc.mono ?_
  clear hc
  intro e w6 hq
  obtain ⟨rfl, h, ha, hm⟩ := hq
  have ha2 : AtB w6 bb 38 #[.string x0, .string x1, v2, .string x3, .int .i64 x4, .bool x5] := ha
  have H6 := hid h
  have HA6 := hid ha2
  have G2_6 := hid (r_mod G2_5.out hm (fun x e => by rcases e with rfl | rfl <;> omega))
  have HM6 := hid (HM5.out.trans hm (fun _ e => .inl e))
  clear h ha ha2 hm
  go_wp2
  go_end0
  exact ⟨rfl, H6.out, ⟨[.string x0, .string x1, v2, .string x3, .int .i64 x4, .bool x5], HA6.out, k38_mkM _ _ _ ⟨x0, x1, x2, x3, x4, x5⟩ G2_6.out⟩, HM6.out⟩
end Go.Proofs.YtcgjacffemjehaaDoor

namespace Go.Proofs.YtcgjacffemjehaaDoor
open Go.RowKit
open Go.Proofs.YtcgjacffemjehaaDoorW.PrintWords (Kd rdOf results_ct)
open Go.Proofs.YtcgjacffemjehaaDoor.PRowReads
set_option linter.unusedVariables false
def unR {α : Type} (r : α × List UInt8 × Bool) : Option α := if r.2.2 = true ∨ 0 < r.2.1.length then none else some r.1
/-- The error that goes with a row that is there, or not. -/
def errV (ok : Bool) : Value := if ok = true then .nilIface else .iface 111 (.int .i64 170)
/-- What unpack answers. -/
def UP {α : Type} (d : Kd α) (z : α) (o : Option α) (w : World) (e : Ending) (w' : World) : Prop :=
  ∃ cs, e = .returned (.tuple #[.agg cs.toArray, errV o.isSome]) ∧ d.M w' w.heap.size (fun _ => True) (o.getD z) cs ∧ Below w.heap.size w w'
theorem reads_form {w : World} {v : Value} {l : List UInt8} (h : ReadsB w v l) : ∃ A m c, v = .slice A m c := by
  rcases h with ⟨rfl, rfl⟩ | ⟨b, o, cap, rfl, _, _⟩ <;> exact ⟨_, _, _, rfl⟩
theorem rs_make {w W : World} {g : Nat} {v : Value} {l : List UInt8} (hb : Below w.heap.size w W) (hg : g = W.heap.size) (hr : ReadsB w v l) (hl : l.length ≤ 1099511627776) : RS w g l false (W.alloc (.cells #[v, .bool true, .bool false] 129)) := by
  subst hg
  exact ⟨hb.alloc hb.size _, hb.size, hl, v, heap_alloc_new W _, hr⟩
theorem at_make {W : World} {bb : Nat} {T : TypeId} {cs : Array Value} (h : bb = W.heap.size) : AtB (W.alloc (.cells cs T)) bb T cs := by subst h; exact heap_alloc_new W _
theorem AtB.alloc {w : World} {bb : Nat} {T : TypeId} {cs : Array Value} (h : AtB w bb T cs) (o : Obj) : AtB (w.alloc o) bb T cs := (Below.heap_alloc w o bb (lt_atB h)).trans h
theorem up_mem {α : Type} {d : Kd α} {w5 w6 : World} {B base : Nat} {ok : Nat → Prop} {x : α} {cs : List Value} {S : Nat → Prop} (h : d.M w5 base ok x cs) (hB : ∀ k, ok k → ¬ S k) (hb : B ≤ base) (hm : Mod S w5 w6) : d.M w6 B (fun _ => True) x cs :=
  d.M_lower hb (d.M_mono (fun _ _ => trivial) (Kd.M_step h (fun k hk hlt => hm.block k hlt (hB k hk))))
end Go.Proofs.YtcgjacffemjehaaDoor

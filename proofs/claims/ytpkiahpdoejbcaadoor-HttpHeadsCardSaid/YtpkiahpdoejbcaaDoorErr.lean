/-
  The statements' own readers of errors: Num and Pos, over the program's plain errors: none, an Errno, an *At that holds an Errno.
-/
import Derived.Test.YtpkiahpdoejbcaaDoorAs
import Derived.Test.YtpkiahpdoejbcaaDoorWords
namespace Go.Proofs.YtpkiahpdoejbcaaDoor
open Go.RowKit
set_option linter.unusedVariables false

/-- The program's plain errors. -/
inductive GErr where
  | nil
  | no (n : Int)
  | at_ (pos n : Int)
/-- The error's number, as Num tells it. -/
def GErr.num : GErr → Int
  | .nil => 0
  | .no n => n
  | .at_ _ n => n
/-- The error's place, as Pos tells it. -/
def GErr.pos : GErr → Int
  | .nil => -1
  | .no _ => -1
  | .at_ p _ => p
attribute [simp, go_sem] GErr.num GErr.pos
/-- A value that is an error in a world. -/
def IsErr (w : World) : GErr → Value → Prop
  | .nil, v => v = .nilIface
  | .no n, v => v = .iface 55 (.int .i64 n)
  | .at_ p n, v => ∃ b o, v = .iface 58 (.pointer (some ⟨b, o, none⟩)) ∧ w.cell? ⟨b, o, none⟩ = some (.int .i64 p) ∧ w.cell? ⟨b, o + 1, none⟩ = some (.iface 55 (.int .i64 n))
theorem IsErr.below {w w' : World} {e : GErr} {v : Value} (h : IsErr w e v) (hb : Below w.heap.size w w') : IsErr w' e v := by
  cases e with
  | nil => exact h
  | no n => exact h
  | at_ p n =>
    obtain ⟨b, o, hv, h1, h2⟩ := h
    exact ⟨b, o, hv, by rw [hb.cell (p := ⟨b, o, none⟩) (lt_of_cell h1)]; exact h1, by rw [hb.cell (p := ⟨b, o + 1, none⟩) (lt_of_cell h2)]; exact h2⟩
theorem ErrorType.below {B : Nat} {w w' : World} (h : ErrorType w) (hb : Below B w w') (hB : 0 < B) : ErrorType w' := by
  unfold ErrorType at *
  rw [hb.cell (p := ⟨0, 0, none⟩) hB]; exact h
theorem ErrorType.lt {w : World} (h : ErrorType w) : 0 < w.heap.size := lt_of_cell h

set_option maxHeartbeats 1000000 in
theorem num_any (e : GErr) (v : Value) (w : World) (hg : ErrorType w) (he : IsErr w e v) :
    Calls Tryd.prog 15 #[v] w fun ev w' => ev = .returned (.int .i64 e.num) ∧ Below w.heap.size w w' := by
  have hlt := hg.lt
  have hgA : ErrorType (w.alloc (.cells #[.int .i64 0] 55)) := hg.below ((Below.refl w.heap.size w).alloc (Nat.le_refl _) _) hlt
  cases e with
  | nil =>
    obtain rfl : v = .nilIface := he
    go_enter Tryd.func15, Tryd.ntmps15
    go_wp2
    go_ret
    exact ⟨rfl, Below.refl _ _⟩
  | no n =>
    obtain rfl : v = .iface 55 (.int .i64 n) := he
    go_enter Tryd.func15, Tryd.ntmps15
    go_wp2_with (go_at_call 35; refine (as_EE n _ (.int .i64 0) _ hgA (by simp) (by simp)).mono ?_; rintro e w1 ⟨rfl, hb⟩; have hc := cell_of_set hb; have hd := hid (below_of_set hb); clear hb)
    go_ret
    exact ⟨rfl, hd.out⟩
  | at_ p n =>
    obtain ⟨b, o, rfl, h1, h2⟩ := he
    have hbl : b < w.heap.size := lt_of_cell h1
    have h1' : (w.alloc (.cells #[.int .i64 0] 55)).cell? ⟨b, o, none⟩ = some (.int .i64 p) := by rw [World.cell?_alloc_lt _ _ ⟨b, o, none⟩ hbl]; exact h1
    have h2' : (w.alloc (.cells #[.int .i64 0] 55)).cell? ⟨b, o + 1, none⟩ = some (.iface 55 (.int .i64 n)) := by rw [World.cell?_alloc_lt _ _ ⟨b, o + 1, none⟩ hbl]; exact h2
    go_enter Tryd.func15, Tryd.ntmps15
    go_wp2_with (go_at_call 35; refine (as_AE b o p n _ (.int .i64 0) _ hgA (by simp) (by simp) h1' h2').mono ?_; rintro e w1 ⟨rfl, hb⟩; have hc := cell_of_set hb; have hd := hid (below_of_set hb); clear hb)
    go_ret
    exact ⟨rfl, hd.out⟩

set_option maxHeartbeats 1000000 in
theorem pos_any (e : GErr) (v : Value) (w : World) (hg : ErrorType w) (he : IsErr w e v) :
    Calls Tryd.prog 16 #[v] w fun ev w' => ev = .returned (.int .i64 e.pos) ∧ Below w.heap.size w w' := by
  have hlt := hg.lt
  have hgA : ErrorType (w.alloc (.cells #[.pointer none] 58)) := hg.below ((Below.refl w.heap.size w).alloc (Nat.le_refl _) _) hlt
  cases e with
  | nil =>
    obtain rfl : v = .nilIface := he
    go_enter Tryd.func16, Tryd.ntmps16
    go_wp2
    go_ret
    exact ⟨rfl, (Below.refl w.heap.size w).alloc (Nat.le_refl _) _⟩
  | no n =>
    obtain rfl : v = .iface 55 (.int .i64 n) := he
    go_enter Tryd.func16, Tryd.ntmps16
    go_wp2_with (go_at_call 35; refine (as_EA n _ (.pointer none) _ hgA (by simp)).mono ?_; rintro e w1 ⟨rfl, hb⟩; have hd := hid (((Below.refl w.heap.size w).alloc (Nat.le_refl _) (.cells #[.pointer none] 58)).trans (hb.mono (by simp))); clear hb)
    go_ret
    exact ⟨rfl, hd.out⟩
  | at_ p n =>
    obtain ⟨b, o, rfl, h1, h2⟩ := he
    have hbl : b < w.heap.size := lt_of_cell h1
    go_enter Tryd.func16, Tryd.ntmps16
    go_wp2_with (go_at_call 35; refine (as_AA ⟨b, o, none⟩ _ (.pointer none) _ hgA (by simp) (by simp)).mono ?_; rintro e w1 ⟨rfl, hb⟩; have hc := cell_of_set hb; have hd := hid (below_of_set hb); have hcp : w1.cell? ⟨b, o, none⟩ = some (.int .i64 p) := (by rw [hd.out.cell (p := ⟨b, o, none⟩) hbl]; exact h1); clear hb)
    go_ret
    exact ⟨rfl, hd.out⟩
end Go.Proofs.YtpkiahpdoejbcaaDoor

/-
  The disk's calls on no disk, and on files that are none.
-/
import Derived.Test.YtdchpabcaoghpaaDoorDiskLaw
namespace Go.Proofs.YtdchpabcaoghpaaDoor
open Go.RowKit
set_option linter.unusedVariables false

/-- A call that answers an error's number and writes nothing that was there. -/
def NoPost (n : Int) (w : World) (e : Ending) (w' : World) : Prop := e = .returned (errno n) ∧ Below w.heap.size w w'
theorem erase_bad (d : Nat) (n : Int) (hn : ¬ (n = 0 ∨ n = 1)) (w : World) :
    Calls Tryd.prog 16 #[.pointer (some ⟨d, 0, none⟩), .int .i64 n] w (NoPost 1 w) := by
  go_enter Tryd.func16, Tryd.ntmps16
  go_wp2_with (go_at_call 36; refine (step_bad d n hn _ _).mono ?_; rintro e w' ⟨rfl, rfl⟩)
  go_ret
  exact ⟨rfl, Below.refl _ _⟩
theorem erase_nil (n : Int) (w : World) :
    Calls Tryd.prog 16 #[.pointer none, .int .i64 n] w (NoPost 3 w) := by
  go_enter Tryd.func16, Tryd.ntmps16
  go_wp2_with (go_at_call 36; refine (step_nil n _ _).mono ?_; rintro e w' ⟨rfl, rfl⟩)
  go_ret
  exact ⟨rfl, Below.refl _ _⟩
theorem cut_bad (d : Nat) (n k : Int) (hn : ¬ (n = 0 ∨ n = 1)) (w : World) :
    Calls Tryd.prog 17 #[.pointer (some ⟨d, 0, none⟩), .int .i64 n, .int .i64 k] w (NoPost 1 w) := by
  go_enter Tryd.func17, Tryd.ntmps17
  go_wp2_with (go_at_call 33; refine (on_bad d n hn _).mono ?_; rintro e w' ⟨rfl, rfl⟩)
  go_ret
  exact ⟨rfl, below_alloc1 _ _⟩
theorem cut_nil (n k : Int) (w : World) :
    Calls Tryd.prog 17 #[.pointer none, .int .i64 n, .int .i64 k] w (NoPost 3 w) := by
  go_enter Tryd.func17, Tryd.ntmps17
  go_wp2_with (go_at_call 33; refine (on_nil n _).mono ?_; rintro e w' ⟨rfl, rfl⟩)
  go_ret
  exact ⟨rfl, below_alloc1 _ _⟩
theorem fuse_nil (n : Int) (w : World) : Calls Tryd.prog 18 #[.pointer none, .int .i64 n] w (NoPost 3 w) := by
  go_enter Tryd.func18, Tryd.ntmps18
  go_wp2
  go_ret
  exact ⟨rfl, Below.refl _ _⟩
theorem crash_nil (v : Value) (w : World) : Calls Tryd.prog 19 #[.pointer none, v] w (NoPost 3 w) := by
  go_enter Tryd.func19, Tryd.ntmps19
  go_wp2
  go_ret
  exact ⟨rfl, Below.refl _ _⟩
theorem turn_nil (n k : Int) (v : Value) (w : World) : Calls Tryd.prog 20 #[.pointer none, .int .i64 n, .int .i64 k, v] w (NoPost 3 w) := by
  go_enter Tryd.func20, Tryd.ntmps20
  go_wp2_with (go_at_call 40; refine (at_nil n _).mono ?_; rintro e w' ⟨rfl, rfl⟩)
  go_ret
  exact ⟨rfl, Below.refl _ _⟩
theorem turn_bad (d : Nat) (n k : Int) (hn : ¬ (n = 0 ∨ n = 1)) (v : Value) (w : World) : Calls Tryd.prog 20 #[.pointer (some ⟨d, 0, none⟩), .int .i64 n, .int .i64 k, v] w (NoPost 1 w) := by
  go_enter Tryd.func20, Tryd.ntmps20
  go_wp2_with (go_at_call 40; refine (at_bad d n hn _).mono ?_; rintro e w' ⟨rfl, rfl⟩)
  go_ret
  exact ⟨rfl, Below.refl _ _⟩
theorem isOn_nil (w : World) : Calls Tryd.prog 21 #[.pointer none] w fun e w' => e = .returned (.bool false) ∧ w = w' := by
  go_enter Tryd.func21, Tryd.ntmps21
  go_wp2
  go_ret
  exact ⟨rfl, rfl⟩
theorem safe_nil (n : Int) (w : World) : Calls Tryd.prog 23 #[.pointer none, .int .i64 n] w (SameInt 0 w) := by
  go_enter Tryd.func23, Tryd.ntmps23
  go_wp2_with (go_at_call 40; refine (at_nil n _).mono ?_; rintro e w' ⟨rfl, rfl⟩)
  go_ret
  exact SameInt.mk rfl
theorem safe_bad (d : Nat) (n : Int) (hn : ¬ (n = 0 ∨ n = 1)) (w : World) : Calls Tryd.prog 23 #[.pointer (some ⟨d, 0, none⟩), .int .i64 n] w (SameInt 0 w) := by
  go_enter Tryd.func23, Tryd.ntmps23
  go_wp2_with (go_at_call 40; refine (at_bad d n hn _).mono ?_; rintro e w' ⟨rfl, rfl⟩)
  go_ret
  exact SameInt.mk rfl
end Go.Proofs.YtdchpabcaoghpaaDoor

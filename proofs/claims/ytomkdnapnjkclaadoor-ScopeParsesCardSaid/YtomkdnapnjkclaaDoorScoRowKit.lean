/-
  What the rows' proofs share: the listed variables errors.errorType; a world that lays them all.
-/
import Derived.Test.YtomkdnapnjkclaaDoorErr
import Derived.Test.YtomkdnapnjkclaaDoorRows
import Derived.ProofKit
import Derived.OpenShut
import Derived.ChangeVars
import Derived.LaidLaws
import Derived.LaidHandle
import Derived.Stop.LaidErr
namespace Go.Proofs.YtomkdnapnjkclaaDoor
open Go.ChangeShapes Go.WideShapes Go.RowKit
set_option linter.unusedVariables false

theorem A.et : Tryd.prog.globalNamed "errors.errorType" = some 0 := by kernel_rfl
theorem A.rt : (Tryd.prog.cutTypes.find? (·.1 == "internal/reflectlite.rtype")).map (·.2) = some 81 := by kernel_rfl
theorem A.oneRow : ((List.range 156).filter fun t => Tryd.prog.rowNamed t [101, 114, 114, 111, 114]) = [30] := by kernel_rfl
theorem A.ntypes : Tryd.prog.types.size = 156 := by kernel_rfl

/-- What the row's list gives: the variable's cell. -/
theorem handle_of_laid {W : World} (l : List (String × DataW Unit)) (hl : l = [("unicode/utf8.acceptRanges", Rows.laid_unicode_utf8_acceptRanges), ("errors.errorType", Rows.laid_errors_errorType), ("unicode/utf8.first", Rows.laid_unicode_utf8_first)]) (h : laidMetH Tryd.prog l W) : ErrorType W := by
  subst hl
  have h' : laidMet Tryd.prog [("unicode/utf8.acceptRanges", Rows.laid_unicode_utf8_acceptRanges), ("unicode/utf8.first", Rows.laid_unicode_utf8_first)] W ∧ handlesMet Tryd.prog [("errors.errorType", Rows.laid_errors_errorType)] W := h
  obtain ⟨name, u, ty, e1, e2, e3, e4, e5⟩ := h'.2 _ (List.mem_singleton.2 rfl)
  have en : name = [101, 114, 114, 111, 114] := (Option.some.inj e1).symm
  subst en
  obtain rfl := Option.some.inj (A.rt.symm.trans e2)
  have hm : ty ∈ (List.range 156).filter fun t => Tryd.prog.rowNamed t [101, 114, 114, 111, 114] := List.mem_filter.2 ⟨List.mem_range.2 (by rw [← A.ntypes]; exact e3), e4⟩
  rw [A.oneRow] at hm
  obtain rfl := List.mem_singleton.1 hm
  have hh : typeHandle Tryd.prog 30 = .pointer (some ⟨4, 30, none⟩) := by kernel_rfl
  rw [hh] at e5
  simpa [ErrorType] using World.var?_cell A.et e5 0
/-- A reading's cells. -/
def dCells : Nat → DataW Unit → List Value
  | 0, _ => []
  | f + 1, .agg l => l.flatMap (dCells f)
  | f + 1, .lit (.int k n) => [.int k n]
  | _, _ => []
/-- A world that meets the list: the settled one, the variables' cells laid. -/
noncomputable def laidWorld (os : Os) : World :=
  let w0 := World.holding Tryd.prog os ⟨#[], #[], []⟩
  { w0 with heap := ((w0.heap.modify 0 fun
      | .cells _ t frozen => .cells #[.iface 81 (.agg #[.pointer (some ⟨4, 30, none⟩)])] t frozen
      | o => o).modify 3 fun
      | .cells _ t frozen => .cells (dCells 4 Rows.laid_unicode_utf8_acceptRanges).toArray t frozen
      | o => o).modify 2 fun
      | .cells _ t frozen => .cells (dCells 4 Rows.laid_unicode_utf8_first).toArray t frozen
      | o => o }
end Go.Proofs.YtomkdnapnjkclaaDoor

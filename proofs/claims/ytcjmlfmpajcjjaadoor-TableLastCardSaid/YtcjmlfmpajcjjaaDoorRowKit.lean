/-
  What the rows' proofs share: bounds of a whole number of a kind; what a slice of numbers that came in is; the listed variable errors.errorType.
-/
import Derived.Test.YtcjmlfmpajcjjaaDoorErr
import Derived.Test.YtcjmlfmpajcjjaaDoorRows
import Derived.ProofKit
import Derived.OpenShut
import Derived.ChangeVars
import Derived.LaidLaws
import Derived.LaidHandle
namespace Go.Proofs.YtcjmlfmpajcjjaaDoor
open Go.ChangeShapes Go.WideShapes Go.RowKit
set_option linter.unusedVariables false

theorem A.et : Tryd.prog.globalNamed "errors.errorType" = some 0 := by kernel_rfl
theorem A.rt : (Tryd.prog.cutTypes.find? (·.1 == "internal/reflectlite.rtype")).map (·.2) = some 86 := by kernel_rfl
theorem A.oneRow : ((List.range 129).filter fun t => Tryd.prog.rowNamed t [101, 114, 114, 111, 114]) = [28] := by kernel_rfl
theorem A.ntypes : Tryd.prog.types.size = 129 := by kernel_rfl

/-- What the row's list gives: the variable's one cell. -/
theorem handle_of_laid {W : World} (l : List (String × DataW Unit)) (hl : l = [("errors.errorType", Rows.laid_errors_errorType)]) (h : laidMetH Tryd.prog l W) : ErrorType W := by
  subst hl
  have h' : laidMet Tryd.prog [] W ∧ handlesMet Tryd.prog [("errors.errorType", Rows.laid_errors_errorType)] W := h
  obtain ⟨name, u, ty, e1, e2, e3, e4, e5⟩ := h'.2 _ (List.mem_singleton.2 rfl)
  have en : name = [101, 114, 114, 111, 114] := (Option.some.inj e1).symm
  subst en
  obtain rfl := Option.some.inj (A.rt.symm.trans e2)
  have hm : ty ∈ (List.range 129).filter fun t => Tryd.prog.rowNamed t [101, 114, 114, 111, 114] := List.mem_filter.2 ⟨List.mem_range.2 (by rw [← A.ntypes]; exact e3), e4⟩
  rw [A.oneRow] at hm
  obtain rfl := List.mem_singleton.1 hm
  have hh : typeHandle Tryd.prog 28 = .pointer (some ⟨1, 28, none⟩) := by kernel_rfl
  rw [hh] at e5
  simpa [ErrorType] using World.var?_cell A.et e5 0

/-- A world that meets the list: the settled one, the variable's cell laid. -/
noncomputable def laidWorld (os : Os) : World :=
  let w0 := World.holding Tryd.prog os ⟨#[], #[], []⟩
  { w0 with heap := w0.heap.modify 0 fun
      | .cells _ t frozen => .cells #[.iface 86 (.agg #[.pointer (some ⟨1, 28, none⟩)])] t frozen
      | o => o }
end Go.Proofs.YtcjmlfmpajcjjaaDoor

/-
  NARROWER THAN 'FOR EVERY INPUT', by the rows' own cells (each row's printed sentence says how): DecPrints: laid · DecReads: laid · DecBack: laid · DecBounds: laid.
  DERIVED. THE GIVEN ROWS OF THIS SEAT. 4 by the template 'for every input the law returns true; each argument reads behind the call as it read before'; 0 by the template 'total and deterministic' (their statements: YtgneddcgggagaaaDoorTotals.lean).
  GIVEN WITH THE SEED: the statements are not yours to turn. If you find one false, say at which input.
  Laid BY PROGRAM, IN A SANDBOX (cutbox-rows.mjs): the forced cells as the released guide's own fill.sh prints them over the translation 2ab104ca4b156028… (all of the seat's roots in one cut). By AI agents, Wed Nov 11 2026. No macro, syntax, notation, axiom, sorry.
-/
import Derived.Test.YtgneddcgggagaaaDoorChecked
import GoSem.Claim
import GoSem.ClaimJoined
import GoSem.ClaimMapViews
import Derived.JoinedTies
import Derived.KernelRfl
namespace Go.Proofs.YtgneddcgggagaaaDoor
/- THE CELL 'sum', in the pinned program and in every row, IS THE sha256 OF THE DUMP (.gsa) THAT YtgneddcgggagaaaDoorProg.lean LOADS. Nothing in Lean hashes anything: it is a label: what it is worth is what the hold of that sum in a sandbox is worth. -/
noncomputable def Tryd.pinned : Pinned := { name := "ytgneddcgggagaaadoor", sum := "2ab104ca4b156028e857620a70566ec3bab079ccf099cdfd941236825e26d64a", checked := Tryd.checked }
namespace Rows
def none {H : Type} : Left H := { results := [], args := [] }

/- WHAT THE LISTED PACKAGE-LEVEL VARIABLES READ AS WHEN THE CALL BEGINS. Each datum BY PROGRAM (the guide's laid-datum.mjs) off the statement by which the dump's own 'gosem.cut.vars' lays the variable. In a bare row this is a premise. The card (YtgneddcgggagaaaDoorCards.lean) ties it to the program's text. -/
def laid_errors_errorType {H : Type} : DataW H := .iface "internal/reflectlite.rtype" (.agg [.ptr (.lit (.string [101, 114, 114, 111, 114]))])

/-- 'warrantlaw04.DecPrints': WHATEVER THE INPUT: true; the input reads as it did. -/
def decPrintsSpec : ChangeSpec := { name := "decPrints", fn := fun _ => fun
  | [d] => { results := [.lit (.bool true)], args := [d] }
  | _ => none }
def decPrintsRow : OpenClaim := { program := "ytgneddcgggagaaadoor", sum := "2ab104ca4b156028e857620a70566ec3bab079ccf099cdfd941236825e26d64a", func := "warrant/warrantlaw04.DecPrints", spec := "decPrints", inPlace := ["internal/reflectlite.ValueOf", "(internal/reflectlite.Value).Type", "(internal/reflectlite.Value).IsNil", "internal/reflectlite.TypeOf", "(internal/reflectlite.Value).Elem", "(internal/reflectlite.Value).Set"], unfollowed := true, recurses := true, named := ["errors.errorType"], apart := false, laid := [("errors.errorType", laid_errors_errorType)] }
def DecPrintsSaid : Prop := decPrintsRow.holds Tryd.pinned (OpenSpec.ofChange decPrintsSpec)

/-- ITS FALSE NEIGHBOUR: 'it returns false'. Refute it at one input. -/
def decPrintsWrong : ChangeSpec := { name := "decPrints", fn := fun _ => fun
  | [d] => { results := [.lit (.bool false)], args := [d] }
  | _ => none }
def DecPrintsWrongFalsely : Prop := decPrintsRow.holds Tryd.pinned (OpenSpec.ofChange decPrintsWrong)

/-- 'warrantlaw04.DecReads': WHATEVER THE INPUT: true; the input reads as it did. -/
def decReadsSpec : ChangeSpec := { name := "decReads", fn := fun _ => fun
  | [d1, d2, d3] => { results := [.lit (.bool true)], args := [d1, d2, d3] }
  | _ => none }
def decReadsRow : OpenClaim := { program := "ytgneddcgggagaaadoor", sum := "2ab104ca4b156028e857620a70566ec3bab079ccf099cdfd941236825e26d64a", func := "warrant/warrantlaw04.DecReads", spec := "decReads", inPlace := ["internal/reflectlite.ValueOf", "(internal/reflectlite.Value).Type", "(internal/reflectlite.Value).IsNil", "internal/reflectlite.TypeOf", "(internal/reflectlite.Value).Elem", "(internal/reflectlite.Value).Set"], unfollowed := true, recurses := true, named := ["errors.errorType"], apart := false, laid := [("errors.errorType", laid_errors_errorType)] }
def DecReadsSaid : Prop := decReadsRow.holds Tryd.pinned (OpenSpec.ofChange decReadsSpec)

/-- ITS FALSE NEIGHBOUR: 'it returns false'. Refute it at one input. -/
def decReadsWrong : ChangeSpec := { name := "decReads", fn := fun _ => fun
  | [d1, d2, d3] => { results := [.lit (.bool false)], args := [d1, d2, d3] }
  | _ => none }
def DecReadsWrongFalsely : Prop := decReadsRow.holds Tryd.pinned (OpenSpec.ofChange decReadsWrong)

/-- 'warrantlaw04.DecBack': WHATEVER THE INPUT: true; the input reads as it did. -/
def decBackSpec : ChangeSpec := { name := "decBack", fn := fun _ => fun
  | [d1, d2] => { results := [.lit (.bool true)], args := [d1, d2] }
  | _ => none }
def decBackRow : OpenClaim := { program := "ytgneddcgggagaaadoor", sum := "2ab104ca4b156028e857620a70566ec3bab079ccf099cdfd941236825e26d64a", func := "warrant/warrantlaw04.DecBack", spec := "decBack", inPlace := ["internal/reflectlite.ValueOf", "(internal/reflectlite.Value).Type", "(internal/reflectlite.Value).IsNil", "internal/reflectlite.TypeOf", "(internal/reflectlite.Value).Elem", "(internal/reflectlite.Value).Set"], unfollowed := true, recurses := true, named := ["errors.errorType"], apart := false, laid := [("errors.errorType", laid_errors_errorType)] }
def DecBackSaid : Prop := decBackRow.holds Tryd.pinned (OpenSpec.ofChange decBackSpec)

/-- ITS FALSE NEIGHBOUR: 'it returns false'. Refute it at one input. -/
def decBackWrong : ChangeSpec := { name := "decBack", fn := fun _ => fun
  | [d1, d2] => { results := [.lit (.bool false)], args := [d1, d2] }
  | _ => none }
def DecBackWrongFalsely : Prop := decBackRow.holds Tryd.pinned (OpenSpec.ofChange decBackWrong)

/-- 'warrantlaw04.DecBounds': WHATEVER THE INPUT: true; the input reads as it did. -/
def decBoundsSpec : ChangeSpec := { name := "decBounds", fn := fun _ => fun
  | [d1, d2, d3] => { results := [.lit (.bool true)], args := [d1, d2, d3] }
  | _ => none }
def decBoundsRow : OpenClaim := { program := "ytgneddcgggagaaadoor", sum := "2ab104ca4b156028e857620a70566ec3bab079ccf099cdfd941236825e26d64a", func := "warrant/warrantlaw04.DecBounds", spec := "decBounds", inPlace := ["internal/reflectlite.ValueOf", "(internal/reflectlite.Value).Type", "(internal/reflectlite.Value).IsNil", "internal/reflectlite.TypeOf", "(internal/reflectlite.Value).Elem", "(internal/reflectlite.Value).Set"], unfollowed := true, recurses := true, named := ["errors.errorType"], apart := false, laid := [("errors.errorType", laid_errors_errorType)] }
def DecBoundsSaid : Prop := decBoundsRow.holds Tryd.pinned (OpenSpec.ofChange decBoundsSpec)

/-- ITS FALSE NEIGHBOUR: 'it returns false'. Refute it at one input. -/
def decBoundsWrong : ChangeSpec := { name := "decBounds", fn := fun _ => fun
  | [d1, d2, d3] => { results := [.lit (.bool false)], args := [d1, d2, d3] }
  | _ => none }
def DecBoundsWrongFalsely : Prop := decBoundsRow.holds Tryd.pinned (OpenSpec.ofChange decBoundsWrong)

/- THE SECOND FORM. 'bulk': how many values and letters a reading holds, each counted each time it is reached (what is shared counts as often as it is met; a slice's spare places count too). A statement '..UptoSaid' is the law's where the arguments, and the package variables that the reading takes, are together of bulk at most 1048576: NARROWER than '..Said'. Prove '..Said' where nothing that the law and all that it calls make is longer than what came in: it says more and counts as full. Else prove '..UptoSaid'. A law counts once. -/
mutual
def uptoBulk {H : Type} : DataW H → Nat
  | .lit (.string bytes) => bytes.length + 1
  | .lit _ => 1
  | .nil => 1
  | .ptr d => uptoBulk d + 1
  | .slice elems spare => uptoBulkAll elems + uptoBulkAll spare + 1
  | .agg parts => uptoBulkAll parts + 1
  | .iface _ d => uptoBulk d + 1
  | .map entries => uptoBulkEntries entries + 1
  | .held _ => 1
def uptoBulkAll {H : Type} : List (DataW H) → Nat
  | [] => 0
  | d :: r => uptoBulk d + uptoBulkAll r
def uptoBulkEntries {H : Type} : List (Lit × DataW H) → Nat
  | [] => 0
  | x :: r => uptoBulkEntry x + uptoBulkEntries r
def uptoBulkEntry {H : Type} : Lit × DataW H → Nat
  | (.string bytes, d) => bytes.length + uptoBulk d + 1
  | (_, d) => uptoBulk d + 1
 end
def uptoSmall : (H : Type) → List (DataW H) → Bool := fun _ ds => decide (uptoBulkAll ds ≤ 1048576)
def OpenSpec.upto (s : _root_.Go.ChangeSpec) : _root_.Go.OpenSpec := { _root_.Go.OpenSpec.ofChange s with cond := some uptoSmall }

/-- 'warrantlaw04.DecPrints', WHERE WHAT IT READS IS OF BULK AT MOST 1048576: true; the input reads as it did. -/
def decPrintsUptoRow : OpenClaim := { program := "ytgneddcgggagaaadoor", sum := "2ab104ca4b156028e857620a70566ec3bab079ccf099cdfd941236825e26d64a", func := "warrant/warrantlaw04.DecPrints", spec := "decPrints", inPlace := ["internal/reflectlite.ValueOf", "(internal/reflectlite.Value).Type", "(internal/reflectlite.Value).IsNil", "internal/reflectlite.TypeOf", "(internal/reflectlite.Value).Elem", "(internal/reflectlite.Value).Set"], unfollowed := true, recurses := true, named := ["errors.errorType"], apart := false, laid := [("errors.errorType", laid_errors_errorType)], narrowed := true }
def DecPrintsUptoSaid : Prop := decPrintsUptoRow.holds Tryd.pinned (OpenSpec.upto decPrintsSpec)

/-- 'warrantlaw04.DecReads', WHERE WHAT IT READS IS OF BULK AT MOST 1048576: true; the input reads as it did. -/
def decReadsUptoRow : OpenClaim := { program := "ytgneddcgggagaaadoor", sum := "2ab104ca4b156028e857620a70566ec3bab079ccf099cdfd941236825e26d64a", func := "warrant/warrantlaw04.DecReads", spec := "decReads", inPlace := ["internal/reflectlite.ValueOf", "(internal/reflectlite.Value).Type", "(internal/reflectlite.Value).IsNil", "internal/reflectlite.TypeOf", "(internal/reflectlite.Value).Elem", "(internal/reflectlite.Value).Set"], unfollowed := true, recurses := true, named := ["errors.errorType"], apart := false, laid := [("errors.errorType", laid_errors_errorType)], narrowed := true }
def DecReadsUptoSaid : Prop := decReadsUptoRow.holds Tryd.pinned (OpenSpec.upto decReadsSpec)

/-- 'warrantlaw04.DecBack', WHERE WHAT IT READS IS OF BULK AT MOST 1048576: true; the input reads as it did. -/
def decBackUptoRow : OpenClaim := { program := "ytgneddcgggagaaadoor", sum := "2ab104ca4b156028e857620a70566ec3bab079ccf099cdfd941236825e26d64a", func := "warrant/warrantlaw04.DecBack", spec := "decBack", inPlace := ["internal/reflectlite.ValueOf", "(internal/reflectlite.Value).Type", "(internal/reflectlite.Value).IsNil", "internal/reflectlite.TypeOf", "(internal/reflectlite.Value).Elem", "(internal/reflectlite.Value).Set"], unfollowed := true, recurses := true, named := ["errors.errorType"], apart := false, laid := [("errors.errorType", laid_errors_errorType)], narrowed := true }
def DecBackUptoSaid : Prop := decBackUptoRow.holds Tryd.pinned (OpenSpec.upto decBackSpec)

/-- 'warrantlaw04.DecBounds', WHERE WHAT IT READS IS OF BULK AT MOST 1048576: true; the input reads as it did. -/
def decBoundsUptoRow : OpenClaim := { program := "ytgneddcgggagaaadoor", sum := "2ab104ca4b156028e857620a70566ec3bab079ccf099cdfd941236825e26d64a", func := "warrant/warrantlaw04.DecBounds", spec := "decBounds", inPlace := ["internal/reflectlite.ValueOf", "(internal/reflectlite.Value).Type", "(internal/reflectlite.Value).IsNil", "internal/reflectlite.TypeOf", "(internal/reflectlite.Value).Elem", "(internal/reflectlite.Value).Set"], unfollowed := true, recurses := true, named := ["errors.errorType"], apart := false, laid := [("errors.errorType", laid_errors_errorType)], narrowed := true }
def DecBoundsUptoSaid : Prop := decBoundsUptoRow.holds Tryd.pinned (OpenSpec.upto decBoundsSpec)

end Rows
end Go.Proofs.YtgneddcgggagaaaDoor

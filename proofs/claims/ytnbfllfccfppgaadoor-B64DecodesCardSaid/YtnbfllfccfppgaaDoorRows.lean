/-
  NARROWER THAN 'FOR EVERY INPUT', by the rows' own cells (each row's printed sentence says how): B64Encodes: laid · B64Decodes: laid · B64Back: laid · B64Signs: laid.
  DERIVED. THE GIVEN ROWS OF THIS SEAT. 4 by the template 'for every input the law returns true; each argument reads behind the call as it read before'; 0 by the template 'total and deterministic' (their statements: YtnbfllfccfppgaaDoorTotals.lean).
  GIVEN WITH THE SEED: the statements are not yours to turn. If you find one false, say at which input.
  Laid BY PROGRAM, IN A SANDBOX (cutbox-rows.mjs): the forced cells as the released guide's own fill.sh prints them over the translation 8e8c1de73daa611f… (all of the seat's roots in one cut). By AI agents, Wed Nov 11 2026. No macro, syntax, notation, axiom, sorry.
-/
import Derived.Test.YtnbfllfccfppgaaDoorChecked
import GoSem.Claim
import GoSem.ClaimJoined
import GoSem.ClaimMapViews
import Derived.JoinedTies
import Derived.KernelRfl
namespace Go.Proofs.YtnbfllfccfppgaaDoor
/- THE CELL 'sum', in the pinned program and in every row, IS THE sha256 OF THE DUMP (.gsa) THAT YtnbfllfccfppgaaDoorProg.lean LOADS. Nothing in Lean hashes anything: it is a label: what it is worth is what the hold of that sum in a sandbox is worth. -/
noncomputable def Tryd.pinned : Pinned := { name := "ytnbfllfccfppgaadoor", sum := "8e8c1de73daa611fe0c63d2c5edda91b82d876c2e34a6cb5f0f57794d97d47e1", checked := Tryd.checked }
namespace Rows
def none {H : Type} : Left H := { results := [], args := [] }

/- WHAT THE LISTED PACKAGE-LEVEL VARIABLES READ AS WHEN THE CALL BEGINS. Each datum BY PROGRAM (the guide's laid-datum.mjs) off the statement by which the dump's own 'gosem.cut.vars' lays the variable. In a bare row this is a premise. The card (YtnbfllfccfppgaaDoorCards.lean) ties it to the program's text. -/
def laid_errors_errorType {H : Type} : DataW H := .iface "internal/reflectlite.rtype" (.agg [.ptr (.lit (.string [101, 114, 114, 111, 114]))])

/-- 'warrantlaw02.B64Encodes': WHATEVER THE INPUT: true; the input reads as it did. -/
def b64EncodesSpec : ChangeSpec := { name := "b64Encodes", fn := fun _ => fun
  | [d] => { results := [.lit (.bool true)], args := [d] }
  | _ => none }
def b64EncodesRow : OpenClaim := { program := "ytnbfllfccfppgaadoor", sum := "8e8c1de73daa611fe0c63d2c5edda91b82d876c2e34a6cb5f0f57794d97d47e1", func := "warrant/warrantlaw02.B64Encodes", spec := "b64Encodes", inPlace := ["internal/abi.NoEscape", "internal/reflectlite.ValueOf", "(internal/reflectlite.Value).Type", "(internal/reflectlite.Value).IsNil", "internal/reflectlite.TypeOf", "(internal/reflectlite.Value).Elem", "(internal/reflectlite.Value).Set"], unfollowed := true, recurses := true, named := ["errors.errorType"], apart := false, laid := [("errors.errorType", laid_errors_errorType)] }
def B64EncodesSaid : Prop := b64EncodesRow.holds Tryd.pinned (OpenSpec.ofChange b64EncodesSpec)

/-- ITS FALSE NEIGHBOUR: 'it returns false'. Refute it at one input. -/
def b64EncodesWrong : ChangeSpec := { name := "b64Encodes", fn := fun _ => fun
  | [d] => { results := [.lit (.bool false)], args := [d] }
  | _ => none }
def B64EncodesWrongFalsely : Prop := b64EncodesRow.holds Tryd.pinned (OpenSpec.ofChange b64EncodesWrong)

/-- 'warrantlaw02.B64Decodes': WHATEVER THE INPUT: true; the input reads as it did. -/
def b64DecodesSpec : ChangeSpec := { name := "b64Decodes", fn := fun _ => fun
  | [d] => { results := [.lit (.bool true)], args := [d] }
  | _ => none }
def b64DecodesRow : OpenClaim := { program := "ytnbfllfccfppgaadoor", sum := "8e8c1de73daa611fe0c63d2c5edda91b82d876c2e34a6cb5f0f57794d97d47e1", func := "warrant/warrantlaw02.B64Decodes", spec := "b64Decodes", inPlace := ["internal/abi.NoEscape", "internal/reflectlite.ValueOf", "(internal/reflectlite.Value).Type", "(internal/reflectlite.Value).IsNil", "internal/reflectlite.TypeOf", "(internal/reflectlite.Value).Elem", "(internal/reflectlite.Value).Set"], unfollowed := true, recurses := true, named := ["errors.errorType"], apart := false, laid := [("errors.errorType", laid_errors_errorType)] }
def B64DecodesSaid : Prop := b64DecodesRow.holds Tryd.pinned (OpenSpec.ofChange b64DecodesSpec)

/-- ITS FALSE NEIGHBOUR: 'it returns false'. Refute it at one input. -/
def b64DecodesWrong : ChangeSpec := { name := "b64Decodes", fn := fun _ => fun
  | [d] => { results := [.lit (.bool false)], args := [d] }
  | _ => none }
def B64DecodesWrongFalsely : Prop := b64DecodesRow.holds Tryd.pinned (OpenSpec.ofChange b64DecodesWrong)

/-- 'warrantlaw02.B64Back': WHATEVER THE INPUT: true; the input reads as it did. -/
def b64BackSpec : ChangeSpec := { name := "b64Back", fn := fun _ => fun
  | [d1, d2] => { results := [.lit (.bool true)], args := [d1, d2] }
  | _ => none }
def b64BackRow : OpenClaim := { program := "ytnbfllfccfppgaadoor", sum := "8e8c1de73daa611fe0c63d2c5edda91b82d876c2e34a6cb5f0f57794d97d47e1", func := "warrant/warrantlaw02.B64Back", spec := "b64Back", inPlace := ["internal/abi.NoEscape", "internal/reflectlite.ValueOf", "(internal/reflectlite.Value).Type", "(internal/reflectlite.Value).IsNil", "internal/reflectlite.TypeOf", "(internal/reflectlite.Value).Elem", "(internal/reflectlite.Value).Set"], unfollowed := true, recurses := true, named := ["errors.errorType"], apart := false, laid := [("errors.errorType", laid_errors_errorType)] }
def B64BackSaid : Prop := b64BackRow.holds Tryd.pinned (OpenSpec.ofChange b64BackSpec)

/-- ITS FALSE NEIGHBOUR: 'it returns false'. Refute it at one input. -/
def b64BackWrong : ChangeSpec := { name := "b64Back", fn := fun _ => fun
  | [d1, d2] => { results := [.lit (.bool false)], args := [d1, d2] }
  | _ => none }
def B64BackWrongFalsely : Prop := b64BackRow.holds Tryd.pinned (OpenSpec.ofChange b64BackWrong)

/-- 'warrantlaw02.B64Signs': WHATEVER THE INPUT: true; the input reads as it did. -/
def b64SignsSpec : ChangeSpec := { name := "b64Signs", fn := fun _ => fun
  | [d] => { results := [.lit (.bool true)], args := [d] }
  | _ => none }
def b64SignsRow : OpenClaim := { program := "ytnbfllfccfppgaadoor", sum := "8e8c1de73daa611fe0c63d2c5edda91b82d876c2e34a6cb5f0f57794d97d47e1", func := "warrant/warrantlaw02.B64Signs", spec := "b64Signs", inPlace := ["internal/abi.NoEscape", "internal/reflectlite.ValueOf", "(internal/reflectlite.Value).Type", "(internal/reflectlite.Value).IsNil", "internal/reflectlite.TypeOf", "(internal/reflectlite.Value).Elem", "(internal/reflectlite.Value).Set"], unfollowed := true, recurses := true, named := ["errors.errorType"], apart := false, laid := [("errors.errorType", laid_errors_errorType)] }
def B64SignsSaid : Prop := b64SignsRow.holds Tryd.pinned (OpenSpec.ofChange b64SignsSpec)

/-- ITS FALSE NEIGHBOUR: 'it returns false'. Refute it at one input. -/
def b64SignsWrong : ChangeSpec := { name := "b64Signs", fn := fun _ => fun
  | [d] => { results := [.lit (.bool false)], args := [d] }
  | _ => none }
def B64SignsWrongFalsely : Prop := b64SignsRow.holds Tryd.pinned (OpenSpec.ofChange b64SignsWrong)

/- THE SECOND FORM. 'bulk': how many values and letters a reading holds, each counted each time it is reached (what is shared counts as often as it is met; a slice's spare places count too). A statement '..UptoSaid' is the law's where the arguments, and the package variables that the reading takes, are together of bulk at most 1048576: NARROWER than '..Said'. Prove '..Said' where nothing that the law and all that it calls make is longer than what came in: it says more and counts as full. Else prove '..UptoSaid'. A law counts once. -/
mutual
def uptoBulk {H : Type} : DataW H → Nat
  | .lit (.string bytes) => bytes.length + 1
  | .lit _ => 1
  | .nil => 1
  | .ptr d => uptoBulk d + 1
  | .slice elems spare => uptoBulkAll elems + uptoBulkAll spare + 1
  | .agg parts => uptoBulkAll parts + 1
  | .iface _ d => uptoBulk d + 1
  | .map entries => uptoBulkEntries entries + 1
  | .held _ => 1
def uptoBulkAll {H : Type} : List (DataW H) → Nat
  | [] => 0
  | d :: r => uptoBulk d + uptoBulkAll r
def uptoBulkEntries {H : Type} : List (Lit × DataW H) → Nat
  | [] => 0
  | x :: r => uptoBulkEntry x + uptoBulkEntries r
def uptoBulkEntry {H : Type} : Lit × DataW H → Nat
  | (.string bytes, d) => bytes.length + uptoBulk d + 1
  | (_, d) => uptoBulk d + 1
 end
def uptoSmall : (H : Type) → List (DataW H) → Bool := fun _ ds => decide (uptoBulkAll ds ≤ 1048576)
def OpenSpec.upto (s : _root_.Go.ChangeSpec) : _root_.Go.OpenSpec := { _root_.Go.OpenSpec.ofChange s with cond := some uptoSmall }

/-- 'warrantlaw02.B64Encodes', WHERE WHAT IT READS IS OF BULK AT MOST 1048576: true; the input reads as it did. -/
def b64EncodesUptoRow : OpenClaim := { program := "ytnbfllfccfppgaadoor", sum := "8e8c1de73daa611fe0c63d2c5edda91b82d876c2e34a6cb5f0f57794d97d47e1", func := "warrant/warrantlaw02.B64Encodes", spec := "b64Encodes", inPlace := ["internal/abi.NoEscape", "internal/reflectlite.ValueOf", "(internal/reflectlite.Value).Type", "(internal/reflectlite.Value).IsNil", "internal/reflectlite.TypeOf", "(internal/reflectlite.Value).Elem", "(internal/reflectlite.Value).Set"], unfollowed := true, recurses := true, named := ["errors.errorType"], apart := false, laid := [("errors.errorType", laid_errors_errorType)], narrowed := true }
def B64EncodesUptoSaid : Prop := b64EncodesUptoRow.holds Tryd.pinned (OpenSpec.upto b64EncodesSpec)

/-- 'warrantlaw02.B64Decodes', WHERE WHAT IT READS IS OF BULK AT MOST 1048576: true; the input reads as it did. -/
def b64DecodesUptoRow : OpenClaim := { program := "ytnbfllfccfppgaadoor", sum := "8e8c1de73daa611fe0c63d2c5edda91b82d876c2e34a6cb5f0f57794d97d47e1", func := "warrant/warrantlaw02.B64Decodes", spec := "b64Decodes", inPlace := ["internal/abi.NoEscape", "internal/reflectlite.ValueOf", "(internal/reflectlite.Value).Type", "(internal/reflectlite.Value).IsNil", "internal/reflectlite.TypeOf", "(internal/reflectlite.Value).Elem", "(internal/reflectlite.Value).Set"], unfollowed := true, recurses := true, named := ["errors.errorType"], apart := false, laid := [("errors.errorType", laid_errors_errorType)], narrowed := true }
def B64DecodesUptoSaid : Prop := b64DecodesUptoRow.holds Tryd.pinned (OpenSpec.upto b64DecodesSpec)

/-- 'warrantlaw02.B64Back', WHERE WHAT IT READS IS OF BULK AT MOST 1048576: true; the input reads as it did. -/
def b64BackUptoRow : OpenClaim := { program := "ytnbfllfccfppgaadoor", sum := "8e8c1de73daa611fe0c63d2c5edda91b82d876c2e34a6cb5f0f57794d97d47e1", func := "warrant/warrantlaw02.B64Back", spec := "b64Back", inPlace := ["internal/abi.NoEscape", "internal/reflectlite.ValueOf", "(internal/reflectlite.Value).Type", "(internal/reflectlite.Value).IsNil", "internal/reflectlite.TypeOf", "(internal/reflectlite.Value).Elem", "(internal/reflectlite.Value).Set"], unfollowed := true, recurses := true, named := ["errors.errorType"], apart := false, laid := [("errors.errorType", laid_errors_errorType)], narrowed := true }
def B64BackUptoSaid : Prop := b64BackUptoRow.holds Tryd.pinned (OpenSpec.upto b64BackSpec)

/-- 'warrantlaw02.B64Signs', WHERE WHAT IT READS IS OF BULK AT MOST 1048576: true; the input reads as it did. -/
def b64SignsUptoRow : OpenClaim := { program := "ytnbfllfccfppgaadoor", sum := "8e8c1de73daa611fe0c63d2c5edda91b82d876c2e34a6cb5f0f57794d97d47e1", func := "warrant/warrantlaw02.B64Signs", spec := "b64Signs", inPlace := ["internal/abi.NoEscape", "internal/reflectlite.ValueOf", "(internal/reflectlite.Value).Type", "(internal/reflectlite.Value).IsNil", "internal/reflectlite.TypeOf", "(internal/reflectlite.Value).Elem", "(internal/reflectlite.Value).Set"], unfollowed := true, recurses := true, named := ["errors.errorType"], apart := false, laid := [("errors.errorType", laid_errors_errorType)], narrowed := true }
def B64SignsUptoSaid : Prop := b64SignsUptoRow.holds Tryd.pinned (OpenSpec.upto b64SignsSpec)

end Rows
end Go.Proofs.YtnbfllfccfppgaaDoor

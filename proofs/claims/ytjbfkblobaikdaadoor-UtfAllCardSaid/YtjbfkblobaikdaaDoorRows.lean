/-
  NARROWER THAN 'FOR EVERY INPUT', by the rows' own cells (each row's printed sentence says how): UtfChecks: laid · UtfNext: laid · UtfBack: laid · UtfAll: laid.
  DERIVED. THE GIVEN ROWS OF THIS SEAT. 4 by the template 'for every input the law returns true; each argument reads behind the call as it read before'; 0 by the template 'total and deterministic' (their statements: YtjbfkblobaikdaaDoorTotals.lean).
  GIVEN WITH THE SEED: the statements are not yours to turn. If you find one false, say at which input.
  Laid BY PROGRAM, IN A SANDBOX (cutbox-rows.mjs): the forced cells as the released guide's own fill.sh prints them over the translation 9963500c1891c9da… (all of the seat's roots in one cut). By AI agents, Wed Nov 11 2026. No macro, syntax, notation, axiom, sorry.
-/
import Derived.Test.YtjbfkblobaikdaaDoorChecked
import GoSem.Claim
import GoSem.ClaimJoined
import GoSem.ClaimMapViews
import Derived.JoinedTies
import Derived.KernelRfl
namespace Go.Proofs.YtjbfkblobaikdaaDoor
/- THE CELL 'sum', in the pinned program and in every row, IS THE sha256 OF THE DUMP (.gsa) THAT YtjbfkblobaikdaaDoorProg.lean LOADS. Nothing in Lean hashes anything: it is a label: what it is worth is what the hold of that sum in a sandbox is worth. -/
noncomputable def Tryd.pinned : Pinned := { name := "ytjbfkblobaikdaadoor", sum := "9963500c1891c9da12c583634b9e14c9a0f6ccc80c7b4be5ddb105ae7c2537fa", checked := Tryd.checked }
namespace Rows
def none {H : Type} : Left H := { results := [], args := [] }

/- WHAT THE LISTED PACKAGE-LEVEL VARIABLES READ AS WHEN THE CALL BEGINS. Each datum BY PROGRAM (the guide's laid-datum.mjs) off the statement by which the dump's own 'gosem.cut.vars' lays the variable. In a bare row this is a premise. The card (YtjbfkblobaikdaaDoorCards.lean) ties it to the program's text. -/
def laid_errors_errorType {H : Type} : DataW H := .iface "internal/reflectlite.rtype" (.agg [.ptr (.lit (.string [101, 114, 114, 111, 114]))])
def laid_warrant_utf_least {H : Type} : DataW H := .agg [.lit (.int .i64 0), .lit (.int .i64 0), .lit (.int .i64 128), .lit (.int .i64 2048), .lit (.int .i64 65536)]

/-- 'warrantlaw03.UtfChecks': WHATEVER THE INPUT: true; the input reads as it did. -/
def utfChecksSpec : ChangeSpec := { name := "utfChecks", fn := fun _ => fun
  | [d] => { results := [.lit (.bool true)], args := [d] }
  | _ => none }
def utfChecksRow : OpenClaim := { program := "ytjbfkblobaikdaadoor", sum := "9963500c1891c9da12c583634b9e14c9a0f6ccc80c7b4be5ddb105ae7c2537fa", func := "warrant/warrantlaw03.UtfChecks", spec := "utfChecks", inPlace := ["internal/reflectlite.ValueOf", "(internal/reflectlite.Value).Type", "(internal/reflectlite.Value).IsNil", "internal/reflectlite.TypeOf", "(internal/reflectlite.Value).Elem", "(internal/reflectlite.Value).Set"], unfollowed := true, recurses := true, named := ["warrant/utf.least", "errors.errorType"], apart := false, laid := [("errors.errorType", laid_errors_errorType), ("warrant/utf.least", laid_warrant_utf_least)] }
def UtfChecksSaid : Prop := utfChecksRow.holds Tryd.pinned (OpenSpec.ofChange utfChecksSpec)

/-- ITS FALSE NEIGHBOUR: 'it returns false'. Refute it at one input. -/
def utfChecksWrong : ChangeSpec := { name := "utfChecks", fn := fun _ => fun
  | [d] => { results := [.lit (.bool false)], args := [d] }
  | _ => none }
def UtfChecksWrongFalsely : Prop := utfChecksRow.holds Tryd.pinned (OpenSpec.ofChange utfChecksWrong)

/-- 'warrantlaw03.UtfNext': WHATEVER THE INPUT: true; the input reads as it did. -/
def utfNextSpec : ChangeSpec := { name := "utfNext", fn := fun _ => fun
  | [d1, d2] => { results := [.lit (.bool true)], args := [d1, d2] }
  | _ => none }
def utfNextRow : OpenClaim := { program := "ytjbfkblobaikdaadoor", sum := "9963500c1891c9da12c583634b9e14c9a0f6ccc80c7b4be5ddb105ae7c2537fa", func := "warrant/warrantlaw03.UtfNext", spec := "utfNext", inPlace := ["internal/reflectlite.ValueOf", "(internal/reflectlite.Value).Type", "(internal/reflectlite.Value).IsNil", "internal/reflectlite.TypeOf", "(internal/reflectlite.Value).Elem", "(internal/reflectlite.Value).Set"], unfollowed := true, recurses := true, named := ["warrant/utf.least", "errors.errorType"], apart := false, laid := [("errors.errorType", laid_errors_errorType), ("warrant/utf.least", laid_warrant_utf_least)] }
def UtfNextSaid : Prop := utfNextRow.holds Tryd.pinned (OpenSpec.ofChange utfNextSpec)

/-- ITS FALSE NEIGHBOUR: 'it returns false'. Refute it at one input. -/
def utfNextWrong : ChangeSpec := { name := "utfNext", fn := fun _ => fun
  | [d1, d2] => { results := [.lit (.bool false)], args := [d1, d2] }
  | _ => none }
def UtfNextWrongFalsely : Prop := utfNextRow.holds Tryd.pinned (OpenSpec.ofChange utfNextWrong)

/-- 'warrantlaw03.UtfBack': WHATEVER THE INPUT: true; the input reads as it did. -/
def utfBackSpec : ChangeSpec := { name := "utfBack", fn := fun _ => fun
  | [d1, d2] => { results := [.lit (.bool true)], args := [d1, d2] }
  | _ => none }
def utfBackRow : OpenClaim := { program := "ytjbfkblobaikdaadoor", sum := "9963500c1891c9da12c583634b9e14c9a0f6ccc80c7b4be5ddb105ae7c2537fa", func := "warrant/warrantlaw03.UtfBack", spec := "utfBack", inPlace := ["internal/reflectlite.ValueOf", "(internal/reflectlite.Value).Type", "(internal/reflectlite.Value).IsNil", "internal/reflectlite.TypeOf", "(internal/reflectlite.Value).Elem", "(internal/reflectlite.Value).Set"], unfollowed := true, recurses := true, named := ["warrant/utf.least", "errors.errorType"], apart := false, laid := [("errors.errorType", laid_errors_errorType), ("warrant/utf.least", laid_warrant_utf_least)] }
def UtfBackSaid : Prop := utfBackRow.holds Tryd.pinned (OpenSpec.ofChange utfBackSpec)

/-- ITS FALSE NEIGHBOUR: 'it returns false'. Refute it at one input. -/
def utfBackWrong : ChangeSpec := { name := "utfBack", fn := fun _ => fun
  | [d1, d2] => { results := [.lit (.bool false)], args := [d1, d2] }
  | _ => none }
def UtfBackWrongFalsely : Prop := utfBackRow.holds Tryd.pinned (OpenSpec.ofChange utfBackWrong)

/-- 'warrantlaw03.UtfAll': WHATEVER THE INPUT: true; the input reads as it did. -/
def utfAllSpec : ChangeSpec := { name := "utfAll", fn := fun _ => fun
  | [d1, d2] => { results := [.lit (.bool true)], args := [d1, d2] }
  | _ => none }
def utfAllRow : OpenClaim := { program := "ytjbfkblobaikdaadoor", sum := "9963500c1891c9da12c583634b9e14c9a0f6ccc80c7b4be5ddb105ae7c2537fa", func := "warrant/warrantlaw03.UtfAll", spec := "utfAll", inPlace := ["internal/reflectlite.ValueOf", "(internal/reflectlite.Value).Type", "(internal/reflectlite.Value).IsNil", "internal/reflectlite.TypeOf", "(internal/reflectlite.Value).Elem", "(internal/reflectlite.Value).Set"], unfollowed := true, recurses := true, named := ["warrant/utf.least", "errors.errorType"], apart := false, laid := [("errors.errorType", laid_errors_errorType), ("warrant/utf.least", laid_warrant_utf_least)] }
def UtfAllSaid : Prop := utfAllRow.holds Tryd.pinned (OpenSpec.ofChange utfAllSpec)

/-- ITS FALSE NEIGHBOUR: 'it returns false'. Refute it at one input. -/
def utfAllWrong : ChangeSpec := { name := "utfAll", fn := fun _ => fun
  | [d1, d2] => { results := [.lit (.bool false)], args := [d1, d2] }
  | _ => none }
def UtfAllWrongFalsely : Prop := utfAllRow.holds Tryd.pinned (OpenSpec.ofChange utfAllWrong)

/- THE SECOND FORM. 'bulk': how many values and letters a reading holds, each counted each time it is reached (what is shared counts as often as it is met; a slice's spare places count too). A statement '..UptoSaid' is the law's where the arguments, and the package variables that the reading takes, are together of bulk at most 1048576: NARROWER than '..Said'. Prove '..Said' where nothing that the law and all that it calls make is longer than what came in: it says more and counts as full. Else prove '..UptoSaid'. A law counts once. -/
mutual
def uptoBulk {H : Type} : DataW H → Nat
  | .lit (.string bytes) => bytes.length + 1
  | .lit _ => 1
  | .nil => 1
  | .ptr d => uptoBulk d + 1
  | .slice elems spare => uptoBulkAll elems + uptoBulkAll spare + 1
  | .agg parts => uptoBulkAll parts + 1
  | .iface _ d => uptoBulk d + 1
  | .map entries => uptoBulkEntries entries + 1
  | .held _ => 1
def uptoBulkAll {H : Type} : List (DataW H) → Nat
  | [] => 0
  | d :: r => uptoBulk d + uptoBulkAll r
def uptoBulkEntries {H : Type} : List (Lit × DataW H) → Nat
  | [] => 0
  | x :: r => uptoBulkEntry x + uptoBulkEntries r
def uptoBulkEntry {H : Type} : Lit × DataW H → Nat
  | (.string bytes, d) => bytes.length + uptoBulk d + 1
  | (_, d) => uptoBulk d + 1
 end
def uptoSmall : (H : Type) → List (DataW H) → Bool := fun _ ds => decide (uptoBulkAll ds ≤ 1048576)
def OpenSpec.upto (s : _root_.Go.ChangeSpec) : _root_.Go.OpenSpec := { _root_.Go.OpenSpec.ofChange s with cond := some uptoSmall }

/-- 'warrantlaw03.UtfChecks', WHERE WHAT IT READS IS OF BULK AT MOST 1048576: true; the input reads as it did. -/
def utfChecksUptoRow : OpenClaim := { program := "ytjbfkblobaikdaadoor", sum := "9963500c1891c9da12c583634b9e14c9a0f6ccc80c7b4be5ddb105ae7c2537fa", func := "warrant/warrantlaw03.UtfChecks", spec := "utfChecks", inPlace := ["internal/reflectlite.ValueOf", "(internal/reflectlite.Value).Type", "(internal/reflectlite.Value).IsNil", "internal/reflectlite.TypeOf", "(internal/reflectlite.Value).Elem", "(internal/reflectlite.Value).Set"], unfollowed := true, recurses := true, named := ["warrant/utf.least", "errors.errorType"], apart := false, laid := [("errors.errorType", laid_errors_errorType), ("warrant/utf.least", laid_warrant_utf_least)], narrowed := true }
def UtfChecksUptoSaid : Prop := utfChecksUptoRow.holds Tryd.pinned (OpenSpec.upto utfChecksSpec)

/-- 'warrantlaw03.UtfNext', WHERE WHAT IT READS IS OF BULK AT MOST 1048576: true; the input reads as it did. -/
def utfNextUptoRow : OpenClaim := { program := "ytjbfkblobaikdaadoor", sum := "9963500c1891c9da12c583634b9e14c9a0f6ccc80c7b4be5ddb105ae7c2537fa", func := "warrant/warrantlaw03.UtfNext", spec := "utfNext", inPlace := ["internal/reflectlite.ValueOf", "(internal/reflectlite.Value).Type", "(internal/reflectlite.Value).IsNil", "internal/reflectlite.TypeOf", "(internal/reflectlite.Value).Elem", "(internal/reflectlite.Value).Set"], unfollowed := true, recurses := true, named := ["warrant/utf.least", "errors.errorType"], apart := false, laid := [("errors.errorType", laid_errors_errorType), ("warrant/utf.least", laid_warrant_utf_least)], narrowed := true }
def UtfNextUptoSaid : Prop := utfNextUptoRow.holds Tryd.pinned (OpenSpec.upto utfNextSpec)

/-- 'warrantlaw03.UtfBack', WHERE WHAT IT READS IS OF BULK AT MOST 1048576: true; the input reads as it did. -/
def utfBackUptoRow : OpenClaim := { program := "ytjbfkblobaikdaadoor", sum := "9963500c1891c9da12c583634b9e14c9a0f6ccc80c7b4be5ddb105ae7c2537fa", func := "warrant/warrantlaw03.UtfBack", spec := "utfBack", inPlace := ["internal/reflectlite.ValueOf", "(internal/reflectlite.Value).Type", "(internal/reflectlite.Value).IsNil", "internal/reflectlite.TypeOf", "(internal/reflectlite.Value).Elem", "(internal/reflectlite.Value).Set"], unfollowed := true, recurses := true, named := ["warrant/utf.least", "errors.errorType"], apart := false, laid := [("errors.errorType", laid_errors_errorType), ("warrant/utf.least", laid_warrant_utf_least)], narrowed := true }
def UtfBackUptoSaid : Prop := utfBackUptoRow.holds Tryd.pinned (OpenSpec.upto utfBackSpec)

/-- 'warrantlaw03.UtfAll', WHERE WHAT IT READS IS OF BULK AT MOST 1048576: true; the input reads as it did. -/
def utfAllUptoRow : OpenClaim := { program := "ytjbfkblobaikdaadoor", sum := "9963500c1891c9da12c583634b9e14c9a0f6ccc80c7b4be5ddb105ae7c2537fa", func := "warrant/warrantlaw03.UtfAll", spec := "utfAll", inPlace := ["internal/reflectlite.ValueOf", "(internal/reflectlite.Value).Type", "(internal/reflectlite.Value).IsNil", "internal/reflectlite.TypeOf", "(internal/reflectlite.Value).Elem", "(internal/reflectlite.Value).Set"], unfollowed := true, recurses := true, named := ["warrant/utf.least", "errors.errorType"], apart := false, laid := [("errors.errorType", laid_errors_errorType), ("warrant/utf.least", laid_warrant_utf_least)], narrowed := true }
def UtfAllUptoSaid : Prop := utfAllUptoRow.holds Tryd.pinned (OpenSpec.upto utfAllSpec)

end Rows
end Go.Proofs.YtjbfkblobaikdaaDoor

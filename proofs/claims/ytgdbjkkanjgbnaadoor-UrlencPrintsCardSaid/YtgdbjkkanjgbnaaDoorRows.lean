/-
  NARROWER THAN 'FOR EVERY INPUT', by the rows' own cells (each row's printed sentence says how): UrlencParses: laid · UrlencPrints: laid · UrlencEscapes: laid · UrlencBack: laid.
  DERIVED. THE GIVEN ROWS OF THIS SEAT. 4 by the template 'for every input the law returns true; each argument reads behind the call as it read before'; 0 by the template 'total and deterministic' (their statements: YtgdbjkkanjgbnaaDoorTotals.lean).
  GIVEN WITH THE SEED: the statements are not yours to turn. If you find one false, say at which input.
  Laid BY PROGRAM, IN A SANDBOX (cutbox-rows.mjs): the forced cells as the released guide's own fill.sh prints them over the translation 58064ed9a4d1b396… (all of the seat's roots in one cut). By AI agents, Wed Nov 11 2026. No macro, syntax, notation, axiom, sorry.
-/
import Derived.Test.YtgdbjkkanjgbnaaDoorChecked
import GoSem.PinnedTables
import GoSem.Claim
import GoSem.ClaimJoined
import GoSem.ClaimMapViews
import Derived.JoinedTies
import Derived.KernelRfl
namespace Go.Proofs.YtgdbjkkanjgbnaaDoor
/- THE CELL 'sum', in the pinned program and in every row, IS THE sha256 OF THE DUMP (.gsa) THAT YtgdbjkkanjgbnaaDoorProg.lean LOADS. Nothing in Lean hashes anything: it is a label: what it is worth is what the hold of that sum in a sandbox is worth. -/
noncomputable def Tryd.pinned : Pinned := { name := "ytgdbjkkanjgbnaadoor", sum := "58064ed9a4d1b396e36b48d438b5b24999a93789fa8762b4daf7145abfc8456b", checked := Tryd.checked }
namespace Rows
def none {H : Type} : Left H := { results := [], args := [] }

/- WHAT THE LISTED PACKAGE-LEVEL VARIABLES READ AS WHEN THE CALL BEGINS. Each datum BY PROGRAM (the guide's laid-datum.mjs) off the statement by which the dump's own 'gosem.cut.vars' lays the variable. In a bare row this is a premise. The card (YtgdbjkkanjgbnaaDoorCards.lean) ties it to the program's text. -/
def laid_unicode_utf8_acceptRanges {H : Type} : DataW H := .agg [.agg [.lit (.int .u8 128), .lit (.int .u8 191)], .agg [.lit (.int .u8 160), .lit (.int .u8 191)], .agg [.lit (.int .u8 128), .lit (.int .u8 159)], .agg [.lit (.int .u8 144), .lit (.int .u8 191)], .agg [.lit (.int .u8 128), .lit (.int .u8 143)], .agg [.lit (.int .u8 0), .lit (.int .u8 0)], .agg [.lit (.int .u8 0), .lit (.int .u8 0)], .agg [.lit (.int .u8 0), .lit (.int .u8 0)], .agg [.lit (.int .u8 0), .lit (.int .u8 0)], .agg [.lit (.int .u8 0), .lit (.int .u8 0)], .agg [.lit (.int .u8 0), .lit (.int .u8 0)], .agg [.lit (.int .u8 0), .lit (.int .u8 0)], .agg [.lit (.int .u8 0), .lit (.int .u8 0)], .agg [.lit (.int .u8 0), .lit (.int .u8 0)], .agg [.lit (.int .u8 0), .lit (.int .u8 0)], .agg [.lit (.int .u8 0), .lit (.int .u8 0)]]
def laid_errors_errorType {H : Type} : DataW H := .iface "internal/reflectlite.rtype" (.agg [.ptr (.lit (.string [101, 114, 114, 111, 114]))])
def laid_warrant_utf_least {H : Type} : DataW H := .agg [.lit (.int .i64 0), .lit (.int .i64 0), .lit (.int .i64 128), .lit (.int .i64 2048), .lit (.int .i64 65536)]
/-- One of Go's own tables, pinned by name: the form's constant. -/
def laid_unicode_utf8_first : DataW Unit := Go.Pinned.utf8First

/-- 'warrantlaw06.UrlencParses': WHATEVER THE INPUT: true; the input reads as it did. -/
def urlencParsesSpec : ChangeSpec := { name := "urlencParses", fn := fun _ => fun
  | [d] => { results := [.lit (.bool true)], args := [d] }
  | _ => none }
def urlencParsesRow : OpenClaim := { program := "ytgdbjkkanjgbnaadoor", sum := "58064ed9a4d1b396e36b48d438b5b24999a93789fa8762b4daf7145abfc8456b", func := "warrant/warrantlaw06.UrlencParses", spec := "urlencParses", inPlace := ["internal/bytealg.CountString", "internal/bytealg.IndexByteString", "internal/bytealg.IndexString", "internal/abi.NoEscape", "internal/reflectlite.ValueOf", "(internal/reflectlite.Value).Type", "(internal/reflectlite.Value).IsNil", "internal/reflectlite.TypeOf", "(internal/reflectlite.Value).Elem", "(internal/reflectlite.Value).Set"], unfollowed := true, recurses := true, named := ["unicode/utf8.first", "unicode/utf8.acceptRanges", "internal/bytealg.MaxLen", "errors.errorType", "warrant/utf.least"], apart := false, laid := [("unicode/utf8.acceptRanges", laid_unicode_utf8_acceptRanges), ("errors.errorType", laid_errors_errorType), ("warrant/utf.least", laid_warrant_utf_least), ("unicode/utf8.first", laid_unicode_utf8_first)] }
def UrlencParsesSaid : Prop := urlencParsesRow.holds Tryd.pinned (OpenSpec.ofChange urlencParsesSpec)

/-- ITS FALSE NEIGHBOUR: 'it returns false'. Refute it at one input. -/
def urlencParsesWrong : ChangeSpec := { name := "urlencParses", fn := fun _ => fun
  | [d] => { results := [.lit (.bool false)], args := [d] }
  | _ => none }
def UrlencParsesWrongFalsely : Prop := urlencParsesRow.holds Tryd.pinned (OpenSpec.ofChange urlencParsesWrong)

/-- 'warrantlaw06.UrlencPrints': WHATEVER THE INPUT: true; the input reads as it did. -/
def urlencPrintsSpec : ChangeSpec := { name := "urlencPrints", fn := fun _ => fun
  | [d1, d2] => { results := [.lit (.bool true)], args := [d1, d2] }
  | _ => none }
def urlencPrintsRow : OpenClaim := { program := "ytgdbjkkanjgbnaadoor", sum := "58064ed9a4d1b396e36b48d438b5b24999a93789fa8762b4daf7145abfc8456b", func := "warrant/warrantlaw06.UrlencPrints", spec := "urlencPrints", inPlace := ["internal/bytealg.CountString", "internal/bytealg.IndexByteString", "internal/bytealg.IndexString", "internal/abi.NoEscape", "internal/reflectlite.ValueOf", "(internal/reflectlite.Value).Type", "(internal/reflectlite.Value).IsNil", "internal/reflectlite.TypeOf", "(internal/reflectlite.Value).Elem", "(internal/reflectlite.Value).Set"], unfollowed := true, recurses := true, named := ["unicode/utf8.first", "unicode/utf8.acceptRanges", "internal/bytealg.MaxLen", "errors.errorType", "warrant/utf.least"], apart := false, laid := [("unicode/utf8.acceptRanges", laid_unicode_utf8_acceptRanges), ("errors.errorType", laid_errors_errorType), ("warrant/utf.least", laid_warrant_utf_least), ("unicode/utf8.first", laid_unicode_utf8_first)] }
def UrlencPrintsSaid : Prop := urlencPrintsRow.holds Tryd.pinned (OpenSpec.ofChange urlencPrintsSpec)

/-- ITS FALSE NEIGHBOUR: 'it returns false'. Refute it at one input. -/
def urlencPrintsWrong : ChangeSpec := { name := "urlencPrints", fn := fun _ => fun
  | [d1, d2] => { results := [.lit (.bool false)], args := [d1, d2] }
  | _ => none }
def UrlencPrintsWrongFalsely : Prop := urlencPrintsRow.holds Tryd.pinned (OpenSpec.ofChange urlencPrintsWrong)

/-- 'warrantlaw06.UrlencEscapes': WHATEVER THE INPUT: true; the input reads as it did. -/
def urlencEscapesSpec : ChangeSpec := { name := "urlencEscapes", fn := fun _ => fun
  | [d] => { results := [.lit (.bool true)], args := [d] }
  | _ => none }
def urlencEscapesRow : OpenClaim := { program := "ytgdbjkkanjgbnaadoor", sum := "58064ed9a4d1b396e36b48d438b5b24999a93789fa8762b4daf7145abfc8456b", func := "warrant/warrantlaw06.UrlencEscapes", spec := "urlencEscapes", inPlace := ["internal/bytealg.CountString", "internal/bytealg.IndexByteString", "internal/bytealg.IndexString", "internal/abi.NoEscape", "internal/reflectlite.ValueOf", "(internal/reflectlite.Value).Type", "(internal/reflectlite.Value).IsNil", "internal/reflectlite.TypeOf", "(internal/reflectlite.Value).Elem", "(internal/reflectlite.Value).Set"], unfollowed := true, recurses := true, named := ["unicode/utf8.first", "unicode/utf8.acceptRanges", "internal/bytealg.MaxLen", "errors.errorType", "warrant/utf.least"], apart := false, laid := [("unicode/utf8.acceptRanges", laid_unicode_utf8_acceptRanges), ("errors.errorType", laid_errors_errorType), ("warrant/utf.least", laid_warrant_utf_least), ("unicode/utf8.first", laid_unicode_utf8_first)] }
def UrlencEscapesSaid : Prop := urlencEscapesRow.holds Tryd.pinned (OpenSpec.ofChange urlencEscapesSpec)

/-- ITS FALSE NEIGHBOUR: 'it returns false'. Refute it at one input. -/
def urlencEscapesWrong : ChangeSpec := { name := "urlencEscapes", fn := fun _ => fun
  | [d] => { results := [.lit (.bool false)], args := [d] }
  | _ => none }
def UrlencEscapesWrongFalsely : Prop := urlencEscapesRow.holds Tryd.pinned (OpenSpec.ofChange urlencEscapesWrong)

/-- 'warrantlaw06.UrlencBack': WHATEVER THE INPUT: true; the input reads as it did. -/
def urlencBackSpec : ChangeSpec := { name := "urlencBack", fn := fun _ => fun
  | [d1, d2] => { results := [.lit (.bool true)], args := [d1, d2] }
  | _ => none }
def urlencBackRow : OpenClaim := { program := "ytgdbjkkanjgbnaadoor", sum := "58064ed9a4d1b396e36b48d438b5b24999a93789fa8762b4daf7145abfc8456b", func := "warrant/warrantlaw06.UrlencBack", spec := "urlencBack", inPlace := ["internal/bytealg.CountString", "internal/bytealg.IndexByteString", "internal/bytealg.IndexString", "internal/abi.NoEscape", "internal/reflectlite.ValueOf", "(internal/reflectlite.Value).Type", "(internal/reflectlite.Value).IsNil", "internal/reflectlite.TypeOf", "(internal/reflectlite.Value).Elem", "(internal/reflectlite.Value).Set"], unfollowed := true, recurses := true, named := ["unicode/utf8.first", "unicode/utf8.acceptRanges", "internal/bytealg.MaxLen", "errors.errorType", "warrant/utf.least"], apart := false, laid := [("unicode/utf8.acceptRanges", laid_unicode_utf8_acceptRanges), ("errors.errorType", laid_errors_errorType), ("warrant/utf.least", laid_warrant_utf_least), ("unicode/utf8.first", laid_unicode_utf8_first)] }
def UrlencBackSaid : Prop := urlencBackRow.holds Tryd.pinned (OpenSpec.ofChange urlencBackSpec)

/-- ITS FALSE NEIGHBOUR: 'it returns false'. Refute it at one input. -/
def urlencBackWrong : ChangeSpec := { name := "urlencBack", fn := fun _ => fun
  | [d1, d2] => { results := [.lit (.bool false)], args := [d1, d2] }
  | _ => none }
def UrlencBackWrongFalsely : Prop := urlencBackRow.holds Tryd.pinned (OpenSpec.ofChange urlencBackWrong)

/- THE SECOND FORM. 'bulk': how many values and letters a reading holds, each counted each time it is reached (what is shared counts as often as it is met; a slice's spare places count too). A statement '..UptoSaid' is the law's where the arguments, and the package variables that the reading takes, are together of bulk at most 1048576: NARROWER than '..Said'. Prove '..Said' where nothing that the law and all that it calls make is longer than what came in: it says more and counts as full. Else prove '..UptoSaid'. A law counts once. -/
mutual
def uptoBulk {H : Type} : DataW H → Nat
  | .lit (.string bytes) => bytes.length + 1
  | .lit _ => 1
  | .nil => 1
  | .ptr d => uptoBulk d + 1
  | .slice elems spare => uptoBulkAll elems + uptoBulkAll spare + 1
  | .agg parts => uptoBulkAll parts + 1
  | .iface _ d => uptoBulk d + 1
  | .map entries => uptoBulkEntries entries + 1
  | .held _ => 1
def uptoBulkAll {H : Type} : List (DataW H) → Nat
  | [] => 0
  | d :: r => uptoBulk d + uptoBulkAll r
def uptoBulkEntries {H : Type} : List (Lit × DataW H) → Nat
  | [] => 0
  | x :: r => uptoBulkEntry x + uptoBulkEntries r
def uptoBulkEntry {H : Type} : Lit × DataW H → Nat
  | (.string bytes, d) => bytes.length + uptoBulk d + 1
  | (_, d) => uptoBulk d + 1
 end
def uptoSmall : (H : Type) → List (DataW H) → Bool := fun _ ds => decide (uptoBulkAll ds ≤ 1048576)
def OpenSpec.upto (s : _root_.Go.ChangeSpec) : _root_.Go.OpenSpec := { _root_.Go.OpenSpec.ofChange s with cond := some uptoSmall }

/-- 'warrantlaw06.UrlencParses', WHERE WHAT IT READS IS OF BULK AT MOST 1048576: true; the input reads as it did. -/
def urlencParsesUptoRow : OpenClaim := { program := "ytgdbjkkanjgbnaadoor", sum := "58064ed9a4d1b396e36b48d438b5b24999a93789fa8762b4daf7145abfc8456b", func := "warrant/warrantlaw06.UrlencParses", spec := "urlencParses", inPlace := ["internal/bytealg.CountString", "internal/bytealg.IndexByteString", "internal/bytealg.IndexString", "internal/abi.NoEscape", "internal/reflectlite.ValueOf", "(internal/reflectlite.Value).Type", "(internal/reflectlite.Value).IsNil", "internal/reflectlite.TypeOf", "(internal/reflectlite.Value).Elem", "(internal/reflectlite.Value).Set"], unfollowed := true, recurses := true, named := ["unicode/utf8.first", "unicode/utf8.acceptRanges", "internal/bytealg.MaxLen", "errors.errorType", "warrant/utf.least"], apart := false, laid := [("unicode/utf8.acceptRanges", laid_unicode_utf8_acceptRanges), ("errors.errorType", laid_errors_errorType), ("warrant/utf.least", laid_warrant_utf_least), ("unicode/utf8.first", laid_unicode_utf8_first)], narrowed := true }
def UrlencParsesUptoSaid : Prop := urlencParsesUptoRow.holds Tryd.pinned (OpenSpec.upto urlencParsesSpec)

/-- 'warrantlaw06.UrlencPrints', WHERE WHAT IT READS IS OF BULK AT MOST 1048576: true; the input reads as it did. -/
def urlencPrintsUptoRow : OpenClaim := { program := "ytgdbjkkanjgbnaadoor", sum := "58064ed9a4d1b396e36b48d438b5b24999a93789fa8762b4daf7145abfc8456b", func := "warrant/warrantlaw06.UrlencPrints", spec := "urlencPrints", inPlace := ["internal/bytealg.CountString", "internal/bytealg.IndexByteString", "internal/bytealg.IndexString", "internal/abi.NoEscape", "internal/reflectlite.ValueOf", "(internal/reflectlite.Value).Type", "(internal/reflectlite.Value).IsNil", "internal/reflectlite.TypeOf", "(internal/reflectlite.Value).Elem", "(internal/reflectlite.Value).Set"], unfollowed := true, recurses := true, named := ["unicode/utf8.first", "unicode/utf8.acceptRanges", "internal/bytealg.MaxLen", "errors.errorType", "warrant/utf.least"], apart := false, laid := [("unicode/utf8.acceptRanges", laid_unicode_utf8_acceptRanges), ("errors.errorType", laid_errors_errorType), ("warrant/utf.least", laid_warrant_utf_least), ("unicode/utf8.first", laid_unicode_utf8_first)], narrowed := true }
def UrlencPrintsUptoSaid : Prop := urlencPrintsUptoRow.holds Tryd.pinned (OpenSpec.upto urlencPrintsSpec)

/-- 'warrantlaw06.UrlencEscapes', WHERE WHAT IT READS IS OF BULK AT MOST 1048576: true; the input reads as it did. -/
def urlencEscapesUptoRow : OpenClaim := { program := "ytgdbjkkanjgbnaadoor", sum := "58064ed9a4d1b396e36b48d438b5b24999a93789fa8762b4daf7145abfc8456b", func := "warrant/warrantlaw06.UrlencEscapes", spec := "urlencEscapes", inPlace := ["internal/bytealg.CountString", "internal/bytealg.IndexByteString", "internal/bytealg.IndexString", "internal/abi.NoEscape", "internal/reflectlite.ValueOf", "(internal/reflectlite.Value).Type", "(internal/reflectlite.Value).IsNil", "internal/reflectlite.TypeOf", "(internal/reflectlite.Value).Elem", "(internal/reflectlite.Value).Set"], unfollowed := true, recurses := true, named := ["unicode/utf8.first", "unicode/utf8.acceptRanges", "internal/bytealg.MaxLen", "errors.errorType", "warrant/utf.least"], apart := false, laid := [("unicode/utf8.acceptRanges", laid_unicode_utf8_acceptRanges), ("errors.errorType", laid_errors_errorType), ("warrant/utf.least", laid_warrant_utf_least), ("unicode/utf8.first", laid_unicode_utf8_first)], narrowed := true }
def UrlencEscapesUptoSaid : Prop := urlencEscapesUptoRow.holds Tryd.pinned (OpenSpec.upto urlencEscapesSpec)

/-- 'warrantlaw06.UrlencBack', WHERE WHAT IT READS IS OF BULK AT MOST 1048576: true; the input reads as it did. -/
def urlencBackUptoRow : OpenClaim := { program := "ytgdbjkkanjgbnaadoor", sum := "58064ed9a4d1b396e36b48d438b5b24999a93789fa8762b4daf7145abfc8456b", func := "warrant/warrantlaw06.UrlencBack", spec := "urlencBack", inPlace := ["internal/bytealg.CountString", "internal/bytealg.IndexByteString", "internal/bytealg.IndexString", "internal/abi.NoEscape", "internal/reflectlite.ValueOf", "(internal/reflectlite.Value).Type", "(internal/reflectlite.Value).IsNil", "internal/reflectlite.TypeOf", "(internal/reflectlite.Value).Elem", "(internal/reflectlite.Value).Set"], unfollowed := true, recurses := true, named := ["unicode/utf8.first", "unicode/utf8.acceptRanges", "internal/bytealg.MaxLen", "errors.errorType", "warrant/utf.least"], apart := false, laid := [("unicode/utf8.acceptRanges", laid_unicode_utf8_acceptRanges), ("errors.errorType", laid_errors_errorType), ("warrant/utf.least", laid_warrant_utf_least), ("unicode/utf8.first", laid_unicode_utf8_first)], narrowed := true }
def UrlencBackUptoSaid : Prop := urlencBackUptoRow.holds Tryd.pinned (OpenSpec.upto urlencBackSpec)

end Rows
end Go.Proofs.YtgdbjkkanjgbnaaDoor

/-
  DERIVED. GIVEN WITH THE SEED: THE CARDS: each row of YtgdbjkkanjgbnaaDoorRows.lean that lists a variable, with what it lists TIED to the program's text (the seventh form; the later family's looks); each row that meets fmt, with fmt's text TOLD by the authors' own Lean function (tested against real Go, not proved from fmt's source: count such statements apart). THE CARD IS WHAT COUNTS. Prove the row's statement (the work); the ties are given (YtgdbjkkanjgbnaaDoorTie.lean); close each card by the builder's one call (the guide's Derived/Test/ToyasCard.lean, 'card_holds'). Laid BY PROGRAM, IN A SANDBOX (cutbox-door.mjs). By AI agents, Wed Nov 11 2026. No macro, syntax, notation, axiom, sorry.
-/
import Derived.Test.YtgdbjkkanjgbnaaDoorRows
import GoSem.ClaimSeven
namespace Go.Proofs.YtgdbjkkanjgbnaaDoor
namespace Rows

/-- THE TIED CARD OF 'warrantlaw06.UrlencParses'. -/
def urlencParsesCard : Claim7 := { stood := { row := urlencParsesRow, standIns := [], harness := (true, "dfdcc771c18eca3e53114b1f09b5fff4fd7530e680230cdd1301763596ba5e64"), looks := true }, kinds := [], alts := [], laidByText := true, laidKinds := [.data, .handle, .data, .pinned], laidTests := true, laidLooks := .later }
def UrlencParsesCardSaid : Prop := Claim7.holds Tryd.pinned (.plain (OpenSpec.ofChange urlencParsesSpec)) urlencParsesCard

/-- THE TIED CARD OF 'warrantlaw06.UrlencPrints'. -/
def urlencPrintsCard : Claim7 := { stood := { row := urlencPrintsRow, standIns := [], harness := (true, "dfdcc771c18eca3e53114b1f09b5fff4fd7530e680230cdd1301763596ba5e64"), looks := true }, kinds := [], alts := [], laidByText := true, laidKinds := [.data, .handle, .data, .pinned], laidTests := true, laidLooks := .later }
def UrlencPrintsCardSaid : Prop := Claim7.holds Tryd.pinned (.plain (OpenSpec.ofChange urlencPrintsSpec)) urlencPrintsCard

/-- THE TIED CARD OF 'warrantlaw06.UrlencEscapes'. -/
def urlencEscapesCard : Claim7 := { stood := { row := urlencEscapesRow, standIns := [], harness := (true, "dfdcc771c18eca3e53114b1f09b5fff4fd7530e680230cdd1301763596ba5e64"), looks := true }, kinds := [], alts := [], laidByText := true, laidKinds := [.data, .handle, .data, .pinned], laidTests := true, laidLooks := .later }
def UrlencEscapesCardSaid : Prop := Claim7.holds Tryd.pinned (.plain (OpenSpec.ofChange urlencEscapesSpec)) urlencEscapesCard

/-- THE TIED CARD OF 'warrantlaw06.UrlencBack'. -/
def urlencBackCard : Claim7 := { stood := { row := urlencBackRow, standIns := [], harness := (true, "dfdcc771c18eca3e53114b1f09b5fff4fd7530e680230cdd1301763596ba5e64"), looks := true }, kinds := [], alts := [], laidByText := true, laidKinds := [.data, .handle, .data, .pinned], laidTests := true, laidLooks := .later }
def UrlencBackCardSaid : Prop := Claim7.holds Tryd.pinned (.plain (OpenSpec.ofChange urlencBackSpec)) urlencBackCard

/-- THE SECOND FORM's CARD OF 'warrantlaw06.UrlencParses'. -/
def urlencParsesUptoCard : Claim7 := { stood := { row := urlencParsesUptoRow, standIns := [], harness := (true, "dfdcc771c18eca3e53114b1f09b5fff4fd7530e680230cdd1301763596ba5e64"), looks := true }, kinds := [], alts := [], laidByText := true, laidKinds := [.data, .handle, .data, .pinned], laidTests := true, laidLooks := .later }
def UrlencParsesUptoCardSaid : Prop := Claim7.holds Tryd.pinned (.plain (OpenSpec.upto urlencParsesSpec)) urlencParsesUptoCard

/-- THE SECOND FORM's CARD OF 'warrantlaw06.UrlencPrints'. -/
def urlencPrintsUptoCard : Claim7 := { stood := { row := urlencPrintsUptoRow, standIns := [], harness := (true, "dfdcc771c18eca3e53114b1f09b5fff4fd7530e680230cdd1301763596ba5e64"), looks := true }, kinds := [], alts := [], laidByText := true, laidKinds := [.data, .handle, .data, .pinned], laidTests := true, laidLooks := .later }
def UrlencPrintsUptoCardSaid : Prop := Claim7.holds Tryd.pinned (.plain (OpenSpec.upto urlencPrintsSpec)) urlencPrintsUptoCard

/-- THE SECOND FORM's CARD OF 'warrantlaw06.UrlencEscapes'. -/
def urlencEscapesUptoCard : Claim7 := { stood := { row := urlencEscapesUptoRow, standIns := [], harness := (true, "dfdcc771c18eca3e53114b1f09b5fff4fd7530e680230cdd1301763596ba5e64"), looks := true }, kinds := [], alts := [], laidByText := true, laidKinds := [.data, .handle, .data, .pinned], laidTests := true, laidLooks := .later }
def UrlencEscapesUptoCardSaid : Prop := Claim7.holds Tryd.pinned (.plain (OpenSpec.upto urlencEscapesSpec)) urlencEscapesUptoCard

/-- THE SECOND FORM's CARD OF 'warrantlaw06.UrlencBack'. -/
def urlencBackUptoCard : Claim7 := { stood := { row := urlencBackUptoRow, standIns := [], harness := (true, "dfdcc771c18eca3e53114b1f09b5fff4fd7530e680230cdd1301763596ba5e64"), looks := true }, kinds := [], alts := [], laidByText := true, laidKinds := [.data, .handle, .data, .pinned], laidTests := true, laidLooks := .later }
def UrlencBackUptoCardSaid : Prop := Claim7.holds Tryd.pinned (.plain (OpenSpec.upto urlencBackSpec)) urlencBackUptoCard
end Rows
end Go.Proofs.YtgdbjkkanjgbnaaDoor

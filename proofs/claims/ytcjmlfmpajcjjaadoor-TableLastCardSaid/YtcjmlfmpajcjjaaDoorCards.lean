/-
  DERIVED. GIVEN WITH THE SEED: THE CARDS: each row of YtcjmlfmpajcjjaaDoorRows.lean that lists a variable, with what it lists TIED to the program's text (the seventh form; the later family's looks); each row that meets fmt, with fmt's text TOLD by the authors' own Lean function (tested against real Go, not proved from fmt's source: count such statements apart). THE CARD IS WHAT COUNTS. Prove the row's statement (the work); the ties are given (YtcjmlfmpajcjjaaDoorTie.lean); close each card by the builder's one call (the guide's Derived/Test/ToyasCard.lean, 'card_holds'). Laid BY PROGRAM, IN A SANDBOX (cutbox-door.mjs). By AI agents, Wed Nov 11 2026. No macro, syntax, notation, axiom, sorry.
-/
import Derived.Test.YtcjmlfmpajcjjaaDoorRows
import GoSem.ClaimSeven
namespace Go.Proofs.YtcjmlfmpajcjjaaDoor
namespace Rows

/-- THE TIED CARD OF 'warrantlaw18.TableLast'. -/
def tableLastCard : Claim7 := { stood := { row := tableLastRow, standIns := [], harness := (true, "78cbd2c28a058524c1ebd23fdaa9d1c9763234f5e06ceaad08338119eaaf8f15"), looks := true }, kinds := [], alts := [], laidByText := true, laidKinds := [.handle], laidTests := true, laidLooks := .later }
def TableLastCardSaid : Prop := Claim7.holds Tryd.pinned (.plain (OpenSpec.ofChange tableLastSpec)) tableLastCard

/-- THE TIED CARD OF 'warrantlaw18.TablePlays'. -/
def tablePlaysCard : Claim7 := { stood := { row := tablePlaysRow, standIns := [], harness := (true, "78cbd2c28a058524c1ebd23fdaa9d1c9763234f5e06ceaad08338119eaaf8f15"), looks := true }, kinds := [], alts := [], laidByText := true, laidKinds := [.handle], laidTests := true, laidLooks := .later }
def TablePlaysCardSaid : Prop := Claim7.holds Tryd.pinned (.plain (OpenSpec.ofChange tablePlaysSpec)) tablePlaysCard

/-- THE TIED CARD OF 'warrantlaw18.TableNil'. -/
def tableNilCard : Claim7 := { stood := { row := tableNilRow, standIns := [], harness := (true, "78cbd2c28a058524c1ebd23fdaa9d1c9763234f5e06ceaad08338119eaaf8f15"), looks := true }, kinds := [], alts := [], laidByText := true, laidKinds := [.handle], laidTests := true, laidLooks := .later }
def TableNilCardSaid : Prop := Claim7.holds Tryd.pinned (.plain (OpenSpec.ofChange tableNilSpec)) tableNilCard

/-- THE SECOND FORM's CARD OF 'warrantlaw18.TableLast'. -/
def tableLastUptoCard : Claim7 := { stood := { row := tableLastUptoRow, standIns := [], harness := (true, "78cbd2c28a058524c1ebd23fdaa9d1c9763234f5e06ceaad08338119eaaf8f15"), looks := true }, kinds := [], alts := [], laidByText := true, laidKinds := [.handle], laidTests := true, laidLooks := .later }
def TableLastUptoCardSaid : Prop := Claim7.holds Tryd.pinned (.plain (OpenSpec.upto tableLastSpec)) tableLastUptoCard

/-- THE SECOND FORM's CARD OF 'warrantlaw18.TablePlays'. -/
def tablePlaysUptoCard : Claim7 := { stood := { row := tablePlaysUptoRow, standIns := [], harness := (true, "78cbd2c28a058524c1ebd23fdaa9d1c9763234f5e06ceaad08338119eaaf8f15"), looks := true }, kinds := [], alts := [], laidByText := true, laidKinds := [.handle], laidTests := true, laidLooks := .later }
def TablePlaysUptoCardSaid : Prop := Claim7.holds Tryd.pinned (.plain (OpenSpec.upto tablePlaysSpec)) tablePlaysUptoCard

/-- THE SECOND FORM's CARD OF 'warrantlaw18.TableNil'. -/
def tableNilUptoCard : Claim7 := { stood := { row := tableNilUptoRow, standIns := [], harness := (true, "78cbd2c28a058524c1ebd23fdaa9d1c9763234f5e06ceaad08338119eaaf8f15"), looks := true }, kinds := [], alts := [], laidByText := true, laidKinds := [.handle], laidTests := true, laidLooks := .later }
def TableNilUptoCardSaid : Prop := Claim7.holds Tryd.pinned (.plain (OpenSpec.upto tableNilSpec)) tableNilUptoCard
end Rows
end Go.Proofs.YtcjmlfmpajcjjaaDoor

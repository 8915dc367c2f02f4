/-
  DERIVED. GIVEN WITH THE SEED: THE CARDS: each row of YtnbfllfccfppgaaDoorRows.lean that lists a variable, with what it lists TIED to the program's text (the seventh form; the later family's looks); each row that meets fmt, with fmt's text TOLD by the authors' own Lean function (tested against real Go, not proved from fmt's source: count such statements apart). THE CARD IS WHAT COUNTS. Prove the row's statement (the work); the ties are given (YtnbfllfccfppgaaDoorTie.lean); close each card by the builder's one call (the guide's Derived/Test/ToyasCard.lean, 'card_holds'). Laid BY PROGRAM, IN A SANDBOX (cutbox-door.mjs). By AI agents, Wed Nov 11 2026. No macro, syntax, notation, axiom, sorry.
-/
import Derived.Test.YtnbfllfccfppgaaDoorRows
import GoSem.ClaimSeven
namespace Go.Proofs.YtnbfllfccfppgaaDoor
namespace Rows

/-- THE TIED CARD OF 'warrantlaw02.B64Encodes'. -/
def b64EncodesCard : Claim7 := { stood := { row := b64EncodesRow, standIns := [], harness := (true, "5e4cb2e2445b03ac2308b2f19ff8a1ce13c432700d7f4f13a62af3bb946d5ae8"), looks := true }, kinds := [], alts := [], laidByText := true, laidKinds := [.handle], laidTests := true, laidLooks := .later }
def B64EncodesCardSaid : Prop := Claim7.holds Tryd.pinned (.plain (OpenSpec.ofChange b64EncodesSpec)) b64EncodesCard

/-- THE TIED CARD OF 'warrantlaw02.B64Decodes'. -/
def b64DecodesCard : Claim7 := { stood := { row := b64DecodesRow, standIns := [], harness := (true, "5e4cb2e2445b03ac2308b2f19ff8a1ce13c432700d7f4f13a62af3bb946d5ae8"), looks := true }, kinds := [], alts := [], laidByText := true, laidKinds := [.handle], laidTests := true, laidLooks := .later }
def B64DecodesCardSaid : Prop := Claim7.holds Tryd.pinned (.plain (OpenSpec.ofChange b64DecodesSpec)) b64DecodesCard

/-- THE TIED CARD OF 'warrantlaw02.B64Back'. -/
def b64BackCard : Claim7 := { stood := { row := b64BackRow, standIns := [], harness := (true, "5e4cb2e2445b03ac2308b2f19ff8a1ce13c432700d7f4f13a62af3bb946d5ae8"), looks := true }, kinds := [], alts := [], laidByText := true, laidKinds := [.handle], laidTests := true, laidLooks := .later }
def B64BackCardSaid : Prop := Claim7.holds Tryd.pinned (.plain (OpenSpec.ofChange b64BackSpec)) b64BackCard

/-- THE TIED CARD OF 'warrantlaw02.B64Signs'. -/
def b64SignsCard : Claim7 := { stood := { row := b64SignsRow, standIns := [], harness := (true, "5e4cb2e2445b03ac2308b2f19ff8a1ce13c432700d7f4f13a62af3bb946d5ae8"), looks := true }, kinds := [], alts := [], laidByText := true, laidKinds := [.handle], laidTests := true, laidLooks := .later }
def B64SignsCardSaid : Prop := Claim7.holds Tryd.pinned (.plain (OpenSpec.ofChange b64SignsSpec)) b64SignsCard

/-- THE SECOND FORM's CARD OF 'warrantlaw02.B64Encodes'. -/
def b64EncodesUptoCard : Claim7 := { stood := { row := b64EncodesUptoRow, standIns := [], harness := (true, "5e4cb2e2445b03ac2308b2f19ff8a1ce13c432700d7f4f13a62af3bb946d5ae8"), looks := true }, kinds := [], alts := [], laidByText := true, laidKinds := [.handle], laidTests := true, laidLooks := .later }
def B64EncodesUptoCardSaid : Prop := Claim7.holds Tryd.pinned (.plain (OpenSpec.upto b64EncodesSpec)) b64EncodesUptoCard

/-- THE SECOND FORM's CARD OF 'warrantlaw02.B64Decodes'. -/
def b64DecodesUptoCard : Claim7 := { stood := { row := b64DecodesUptoRow, standIns := [], harness := (true, "5e4cb2e2445b03ac2308b2f19ff8a1ce13c432700d7f4f13a62af3bb946d5ae8"), looks := true }, kinds := [], alts := [], laidByText := true, laidKinds := [.handle], laidTests := true, laidLooks := .later }
def B64DecodesUptoCardSaid : Prop := Claim7.holds Tryd.pinned (.plain (OpenSpec.upto b64DecodesSpec)) b64DecodesUptoCard

/-- THE SECOND FORM's CARD OF 'warrantlaw02.B64Back'. -/
def b64BackUptoCard : Claim7 := { stood := { row := b64BackUptoRow, standIns := [], harness := (true, "5e4cb2e2445b03ac2308b2f19ff8a1ce13c432700d7f4f13a62af3bb946d5ae8"), looks := true }, kinds := [], alts := [], laidByText := true, laidKinds := [.handle], laidTests := true, laidLooks := .later }
def B64BackUptoCardSaid : Prop := Claim7.holds Tryd.pinned (.plain (OpenSpec.upto b64BackSpec)) b64BackUptoCard

/-- THE SECOND FORM's CARD OF 'warrantlaw02.B64Signs'. -/
def b64SignsUptoCard : Claim7 := { stood := { row := b64SignsUptoRow, standIns := [], harness := (true, "5e4cb2e2445b03ac2308b2f19ff8a1ce13c432700d7f4f13a62af3bb946d5ae8"), looks := true }, kinds := [], alts := [], laidByText := true, laidKinds := [.handle], laidTests := true, laidLooks := .later }
def B64SignsUptoCardSaid : Prop := Claim7.holds Tryd.pinned (.plain (OpenSpec.upto b64SignsSpec)) b64SignsUptoCard
end Rows
end Go.Proofs.YtnbfllfccfppgaaDoor

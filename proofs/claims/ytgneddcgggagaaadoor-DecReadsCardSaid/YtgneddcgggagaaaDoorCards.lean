/-
  DERIVED. GIVEN WITH THE SEED: THE CARDS: each row of YtgneddcgggagaaaDoorRows.lean that lists a variable, with what it lists TIED to the program's text (the seventh form; the later family's looks); each row that meets fmt, with fmt's text TOLD by the authors' own Lean function (tested against real Go, not proved from fmt's source: count such statements apart). THE CARD IS WHAT COUNTS. Prove the row's statement (the work); the ties are given (YtgneddcgggagaaaDoorTie.lean); close each card by the builder's one call (the guide's Derived/Test/ToyasCard.lean, 'card_holds'). Laid BY PROGRAM, IN A SANDBOX (cutbox-door.mjs). By AI agents, Wed Nov 11 2026. No macro, syntax, notation, axiom, sorry.
-/
import Derived.Test.YtgneddcgggagaaaDoorRows
import GoSem.ClaimSeven
namespace Go.Proofs.YtgneddcgggagaaaDoor
namespace Rows

/-- THE TIED CARD OF 'warrantlaw04.DecPrints'. -/
def decPrintsCard : Claim7 := { stood := { row := decPrintsRow, standIns := [], harness := (true, "64a08c9693aadbbd87676fbf3be1456bbc1c9e8454c5f2143a73253d16f169f7"), looks := true }, kinds := [], alts := [], laidByText := true, laidKinds := [.handle], laidTests := true, laidLooks := .later }
def DecPrintsCardSaid : Prop := Claim7.holds Tryd.pinned (.plain (OpenSpec.ofChange decPrintsSpec)) decPrintsCard

/-- THE TIED CARD OF 'warrantlaw04.DecReads'. -/
def decReadsCard : Claim7 := { stood := { row := decReadsRow, standIns := [], harness := (true, "64a08c9693aadbbd87676fbf3be1456bbc1c9e8454c5f2143a73253d16f169f7"), looks := true }, kinds := [], alts := [], laidByText := true, laidKinds := [.handle], laidTests := true, laidLooks := .later }
def DecReadsCardSaid : Prop := Claim7.holds Tryd.pinned (.plain (OpenSpec.ofChange decReadsSpec)) decReadsCard

/-- THE TIED CARD OF 'warrantlaw04.DecBack'. -/
def decBackCard : Claim7 := { stood := { row := decBackRow, standIns := [], harness := (true, "64a08c9693aadbbd87676fbf3be1456bbc1c9e8454c5f2143a73253d16f169f7"), looks := true }, kinds := [], alts := [], laidByText := true, laidKinds := [.handle], laidTests := true, laidLooks := .later }
def DecBackCardSaid : Prop := Claim7.holds Tryd.pinned (.plain (OpenSpec.ofChange decBackSpec)) decBackCard

/-- THE TIED CARD OF 'warrantlaw04.DecBounds'. -/
def decBoundsCard : Claim7 := { stood := { row := decBoundsRow, standIns := [], harness := (true, "64a08c9693aadbbd87676fbf3be1456bbc1c9e8454c5f2143a73253d16f169f7"), looks := true }, kinds := [], alts := [], laidByText := true, laidKinds := [.handle], laidTests := true, laidLooks := .later }
def DecBoundsCardSaid : Prop := Claim7.holds Tryd.pinned (.plain (OpenSpec.ofChange decBoundsSpec)) decBoundsCard

/-- THE SECOND FORM's CARD OF 'warrantlaw04.DecPrints'. -/
def decPrintsUptoCard : Claim7 := { stood := { row := decPrintsUptoRow, standIns := [], harness := (true, "64a08c9693aadbbd87676fbf3be1456bbc1c9e8454c5f2143a73253d16f169f7"), looks := true }, kinds := [], alts := [], laidByText := true, laidKinds := [.handle], laidTests := true, laidLooks := .later }
def DecPrintsUptoCardSaid : Prop := Claim7.holds Tryd.pinned (.plain (OpenSpec.upto decPrintsSpec)) decPrintsUptoCard

/-- THE SECOND FORM's CARD OF 'warrantlaw04.DecReads'. -/
def decReadsUptoCard : Claim7 := { stood := { row := decReadsUptoRow, standIns := [], harness := (true, "64a08c9693aadbbd87676fbf3be1456bbc1c9e8454c5f2143a73253d16f169f7"), looks := true }, kinds := [], alts := [], laidByText := true, laidKinds := [.handle], laidTests := true, laidLooks := .later }
def DecReadsUptoCardSaid : Prop := Claim7.holds Tryd.pinned (.plain (OpenSpec.upto decReadsSpec)) decReadsUptoCard

/-- THE SECOND FORM's CARD OF 'warrantlaw04.DecBack'. -/
def decBackUptoCard : Claim7 := { stood := { row := decBackUptoRow, standIns := [], harness := (true, "64a08c9693aadbbd87676fbf3be1456bbc1c9e8454c5f2143a73253d16f169f7"), looks := true }, kinds := [], alts := [], laidByText := true, laidKinds := [.handle], laidTests := true, laidLooks := .later }
def DecBackUptoCardSaid : Prop := Claim7.holds Tryd.pinned (.plain (OpenSpec.upto decBackSpec)) decBackUptoCard

/-- THE SECOND FORM's CARD OF 'warrantlaw04.DecBounds'. -/
def decBoundsUptoCard : Claim7 := { stood := { row := decBoundsUptoRow, standIns := [], harness := (true, "64a08c9693aadbbd87676fbf3be1456bbc1c9e8454c5f2143a73253d16f169f7"), looks := true }, kinds := [], alts := [], laidByText := true, laidKinds := [.handle], laidTests := true, laidLooks := .later }
def DecBoundsUptoCardSaid : Prop := Claim7.holds Tryd.pinned (.plain (OpenSpec.upto decBoundsSpec)) decBoundsUptoCard
end Rows
end Go.Proofs.YtgneddcgggagaaaDoor

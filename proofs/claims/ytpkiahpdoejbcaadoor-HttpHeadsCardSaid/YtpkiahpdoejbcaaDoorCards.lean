/-
  DERIVED. GIVEN WITH THE SEED: THE CARDS: each row of YtpkiahpdoejbcaaDoorRows.lean that lists a variable, with what it lists TIED to the program's text (the seventh form; the later family's looks); each row that meets fmt, with fmt's text TOLD by the authors' own Lean function (tested against real Go, not proved from fmt's source: count such statements apart). THE CARD IS WHAT COUNTS. Prove the row's statement (the work); the ties are given (YtpkiahpdoejbcaaDoorTie.lean); close each card by the builder's one call (the guide's Derived/Test/ToyasCard.lean, 'card_holds'). Laid BY PROGRAM, IN A SANDBOX (cutbox-door.mjs). By AI agents, Wed Nov 11 2026. No macro, syntax, notation, axiom, sorry.
-/
import Derived.Test.YtpkiahpdoejbcaaDoorRows
import GoSem.ClaimSeven
namespace Go.Proofs.YtpkiahpdoejbcaaDoor
namespace Rows

/-- THE TIED CARD OF 'warrantlaw23.HttpHeads'. -/
def httpHeadsCard : Claim7 := { stood := { row := httpHeadsRow, standIns := [], harness := (true, "d37dda3fd33909629e68225e1e5debb15e2e9551bca9b61d28554007edd8203d"), looks := true }, kinds := [], alts := [], laidByText := true, laidKinds := [.data, .handle, .data, .data, .pinned, .pinned], laidTests := true, laidLooks := .later }
def HttpHeadsCardSaid : Prop := Claim7.holds Tryd.pinned (.plain (OpenSpec.ofChange httpHeadsSpec)) httpHeadsCard

/-- THE TIED CARD OF 'warrantlaw23.HttpBack'. -/
def httpBackCard : Claim7 := { stood := { row := httpBackRow, standIns := [], harness := (true, "d37dda3fd33909629e68225e1e5debb15e2e9551bca9b61d28554007edd8203d"), looks := true }, kinds := [], alts := [], laidByText := true, laidKinds := [.data, .handle, .data, .data, .pinned, .pinned], laidTests := true, laidLooks := .later }
def HttpBackCardSaid : Prop := Claim7.holds Tryd.pinned (.plain (OpenSpec.ofChange httpBackSpec)) httpBackCard

/-- THE SECOND FORM's CARD OF 'warrantlaw23.HttpHeads'. -/
def httpHeadsUptoCard : Claim7 := { stood := { row := httpHeadsUptoRow, standIns := [], harness := (true, "d37dda3fd33909629e68225e1e5debb15e2e9551bca9b61d28554007edd8203d"), looks := true }, kinds := [], alts := [], laidByText := true, laidKinds := [.data, .handle, .data, .data, .pinned, .pinned], laidTests := true, laidLooks := .later }
def HttpHeadsUptoCardSaid : Prop := Claim7.holds Tryd.pinned (.plain (OpenSpec.upto httpHeadsSpec)) httpHeadsUptoCard

/-- THE SECOND FORM's CARD OF 'warrantlaw23.HttpBack'. -/
def httpBackUptoCard : Claim7 := { stood := { row := httpBackUptoRow, standIns := [], harness := (true, "d37dda3fd33909629e68225e1e5debb15e2e9551bca9b61d28554007edd8203d"), looks := true }, kinds := [], alts := [], laidByText := true, laidKinds := [.data, .handle, .data, .data, .pinned, .pinned], laidTests := true, laidLooks := .later }
def HttpBackUptoCardSaid : Prop := Claim7.holds Tryd.pinned (.plain (OpenSpec.upto httpBackSpec)) httpBackUptoCard
end Rows
end Go.Proofs.YtpkiahpdoejbcaaDoor

/-
  DERIVED. GIVEN WITH THE SEED: THE CARDS: each row of YtcgjacffemjehaaDoorRows.lean that lists a variable, with what it lists TIED to the program's text (the seventh form; the later family's looks); each row that meets fmt, with fmt's text TOLD by the authors' own Lean function (tested against real Go, not proved from fmt's source: count such statements apart). THE CARD IS WHAT COUNTS. Prove the row's statement (the work); the ties are given (YtcgjacffemjehaaDoorTie.lean); close each card by the builder's one call (the guide's Derived/Test/ToyasCard.lean, 'card_holds'). Laid BY PROGRAM, IN A SANDBOX (cutbox-door.mjs). By AI agents, Wed Nov 11 2026. No macro, syntax, notation, axiom, sorry.
-/
import Derived.Test.YtcgjacffemjehaaDoorRows
import GoSem.ClaimSeven
namespace Go.Proofs.YtcgjacffemjehaaDoor
namespace Rows

/-- THE TIED CARD OF 'warrantlaw17.RowReads'. -/
def rowReadsCard : Claim7 := { stood := { row := rowReadsRow, standIns := [], harness := (true, "ae5cabf72778c0a545f837eb4fbe564d8d1d789c5bfb16ec47fc7ca7e8d98c76"), looks := true }, kinds := [], alts := [], laidByText := true, laidKinds := [.handle], laidTests := true, laidLooks := .later }
def RowReadsCardSaid : Prop := Claim7.holds Tryd.pinned (.plain (OpenSpec.ofChange rowReadsSpec)) rowReadsCard

/-- THE TIED CARD OF 'warrantlaw17.RowBack'. -/
def rowBackCard : Claim7 := { stood := { row := rowBackRow, standIns := [], harness := (true, "ae5cabf72778c0a545f837eb4fbe564d8d1d789c5bfb16ec47fc7ca7e8d98c76"), looks := true }, kinds := [], alts := [], laidByText := true, laidKinds := [.handle], laidTests := true, laidLooks := .later }
def RowBackCardSaid : Prop := Claim7.holds Tryd.pinned (.plain (OpenSpec.ofChange rowBackSpec)) rowBackCard

/-- THE SECOND FORM's CARD OF 'warrantlaw17.RowReads'. -/
def rowReadsUptoCard : Claim7 := { stood := { row := rowReadsUptoRow, standIns := [], harness := (true, "ae5cabf72778c0a545f837eb4fbe564d8d1d789c5bfb16ec47fc7ca7e8d98c76"), looks := true }, kinds := [], alts := [], laidByText := true, laidKinds := [.handle], laidTests := true, laidLooks := .later }
def RowReadsUptoCardSaid : Prop := Claim7.holds Tryd.pinned (.plain (OpenSpec.upto rowReadsSpec)) rowReadsUptoCard

/-- THE SECOND FORM's CARD OF 'warrantlaw17.RowBack'. -/
def rowBackUptoCard : Claim7 := { stood := { row := rowBackUptoRow, standIns := [], harness := (true, "ae5cabf72778c0a545f837eb4fbe564d8d1d789c5bfb16ec47fc7ca7e8d98c76"), looks := true }, kinds := [], alts := [], laidByText := true, laidKinds := [.handle], laidTests := true, laidLooks := .later }
def RowBackUptoCardSaid : Prop := Claim7.holds Tryd.pinned (.plain (OpenSpec.upto rowBackSpec)) rowBackUptoCard
end Rows
end Go.Proofs.YtcgjacffemjehaaDoor

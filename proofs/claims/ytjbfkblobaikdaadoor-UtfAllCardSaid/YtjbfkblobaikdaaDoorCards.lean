/-
  DERIVED. GIVEN WITH THE SEED: THE CARDS: each row of YtjbfkblobaikdaaDoorRows.lean that lists a variable, with what it lists TIED to the program's text (the seventh form; the later family's looks); each row that meets fmt, with fmt's text TOLD by the authors' own Lean function (tested against real Go, not proved from fmt's source: count such statements apart). THE CARD IS WHAT COUNTS. Prove the row's statement (the work); the ties are given (YtjbfkblobaikdaaDoorTie.lean); close each card by the builder's one call (the guide's Derived/Test/ToyasCard.lean, 'card_holds'). Laid BY PROGRAM, IN A SANDBOX (cutbox-door.mjs). By AI agents, Wed Nov 11 2026. No macro, syntax, notation, axiom, sorry.
-/
import Derived.Test.YtjbfkblobaikdaaDoorRows
import GoSem.ClaimSeven
namespace Go.Proofs.YtjbfkblobaikdaaDoor
namespace Rows

/-- THE TIED CARD OF 'warrantlaw03.UtfChecks'. -/
def utfChecksCard : Claim7 := { stood := { row := utfChecksRow, standIns := [], harness := (true, "1cf21a24961102c038652e73e224822d877ffb4c311db1531274b409f17a9ff3"), looks := true }, kinds := [], alts := [], laidByText := true, laidKinds := [.handle, .data], laidTests := true, laidLooks := .later }
def UtfChecksCardSaid : Prop := Claim7.holds Tryd.pinned (.plain (OpenSpec.ofChange utfChecksSpec)) utfChecksCard

/-- THE TIED CARD OF 'warrantlaw03.UtfNext'. -/
def utfNextCard : Claim7 := { stood := { row := utfNextRow, standIns := [], harness := (true, "1cf21a24961102c038652e73e224822d877ffb4c311db1531274b409f17a9ff3"), looks := true }, kinds := [], alts := [], laidByText := true, laidKinds := [.handle, .data], laidTests := true, laidLooks := .later }
def UtfNextCardSaid : Prop := Claim7.holds Tryd.pinned (.plain (OpenSpec.ofChange utfNextSpec)) utfNextCard

/-- THE TIED CARD OF 'warrantlaw03.UtfBack'. -/
def utfBackCard : Claim7 := { stood := { row := utfBackRow, standIns := [], harness := (true, "1cf21a24961102c038652e73e224822d877ffb4c311db1531274b409f17a9ff3"), looks := true }, kinds := [], alts := [], laidByText := true, laidKinds := [.handle, .data], laidTests := true, laidLooks := .later }
def UtfBackCardSaid : Prop := Claim7.holds Tryd.pinned (.plain (OpenSpec.ofChange utfBackSpec)) utfBackCard

/-- THE TIED CARD OF 'warrantlaw03.UtfAll'. -/
def utfAllCard : Claim7 := { stood := { row := utfAllRow, standIns := [], harness := (true, "1cf21a24961102c038652e73e224822d877ffb4c311db1531274b409f17a9ff3"), looks := true }, kinds := [], alts := [], laidByText := true, laidKinds := [.handle, .data], laidTests := true, laidLooks := .later }
def UtfAllCardSaid : Prop := Claim7.holds Tryd.pinned (.plain (OpenSpec.ofChange utfAllSpec)) utfAllCard

/-- THE SECOND FORM's CARD OF 'warrantlaw03.UtfChecks'. -/
def utfChecksUptoCard : Claim7 := { stood := { row := utfChecksUptoRow, standIns := [], harness := (true, "1cf21a24961102c038652e73e224822d877ffb4c311db1531274b409f17a9ff3"), looks := true }, kinds := [], alts := [], laidByText := true, laidKinds := [.handle, .data], laidTests := true, laidLooks := .later }
def UtfChecksUptoCardSaid : Prop := Claim7.holds Tryd.pinned (.plain (OpenSpec.upto utfChecksSpec)) utfChecksUptoCard

/-- THE SECOND FORM's CARD OF 'warrantlaw03.UtfNext'. -/
def utfNextUptoCard : Claim7 := { stood := { row := utfNextUptoRow, standIns := [], harness := (true, "1cf21a24961102c038652e73e224822d877ffb4c311db1531274b409f17a9ff3"), looks := true }, kinds := [], alts := [], laidByText := true, laidKinds := [.handle, .data], laidTests := true, laidLooks := .later }
def UtfNextUptoCardSaid : Prop := Claim7.holds Tryd.pinned (.plain (OpenSpec.upto utfNextSpec)) utfNextUptoCard

/-- THE SECOND FORM's CARD OF 'warrantlaw03.UtfBack'. -/
def utfBackUptoCard : Claim7 := { stood := { row := utfBackUptoRow, standIns := [], harness := (true, "1cf21a24961102c038652e73e224822d877ffb4c311db1531274b409f17a9ff3"), looks := true }, kinds := [], alts := [], laidByText := true, laidKinds := [.handle, .data], laidTests := true, laidLooks := .later }
def UtfBackUptoCardSaid : Prop := Claim7.holds Tryd.pinned (.plain (OpenSpec.upto utfBackSpec)) utfBackUptoCard

/-- THE SECOND FORM's CARD OF 'warrantlaw03.UtfAll'. -/
def utfAllUptoCard : Claim7 := { stood := { row := utfAllUptoRow, standIns := [], harness := (true, "1cf21a24961102c038652e73e224822d877ffb4c311db1531274b409f17a9ff3"), looks := true }, kinds := [], alts := [], laidByText := true, laidKinds := [.handle, .data], laidTests := true, laidLooks := .later }
def UtfAllUptoCardSaid : Prop := Claim7.holds Tryd.pinned (.plain (OpenSpec.upto utfAllSpec)) utfAllUptoCard
end Rows
end Go.Proofs.YtjbfkblobaikdaaDoor

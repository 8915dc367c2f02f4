/-
  DERIVED. GIVEN WITH THE SEED: THE CARDS: each row of YtomkdnapnjkclaaDoorRows.lean that lists a variable, with what it lists TIED to the program's text (the seventh form; the later family's looks); each row that meets fmt, with fmt's text TOLD by the authors' own Lean function (tested against real Go, not proved from fmt's source: count such statements apart). THE CARD IS WHAT COUNTS. Prove the row's statement (the work); the ties are given (YtomkdnapnjkclaaDoorTie.lean); close each card by the builder's one call (the guide's Derived/Test/ToyasCard.lean, 'card_holds'). Laid BY PROGRAM, IN A SANDBOX (cutbox-door.mjs). By AI agents, Wed Nov 11 2026. No macro, syntax, notation, axiom, sorry.
-/
import Derived.Test.YtomkdnapnjkclaaDoorRows
import GoSem.ClaimSeven
namespace Go.Proofs.YtomkdnapnjkclaaDoor
namespace Rows

/-- THE TIED CARD OF 'warrantlaw07.ScopeSets'. -/
def scopeSetsCard : Claim7 := { stood := { row := scopeSetsRow, standIns := [], harness := (true, "56895672b95fda098d7434439cb24bdfdc41596e02c2909d295cdecb8fb96647"), looks := true }, kinds := [], alts := [], laidByText := true, laidKinds := [.data, .pinned], laidTests := true, laidLooks := .later }
def ScopeSetsCardSaid : Prop := Claim7.holds Tryd.pinned (.plain (OpenSpec.ofChange scopeSetsSpec)) scopeSetsCard

/-- THE TIED CARD OF 'warrantlaw07.ScopeBack'. -/
def scopeBackCard : Claim7 := { stood := { row := scopeBackRow, standIns := [], harness := (true, "56895672b95fda098d7434439cb24bdfdc41596e02c2909d295cdecb8fb96647"), looks := true }, kinds := [], alts := [], laidByText := true, laidKinds := [.data, .pinned], laidTests := true, laidLooks := .later }
def ScopeBackCardSaid : Prop := Claim7.holds Tryd.pinned (.plain (OpenSpec.ofChange scopeBackSpec)) scopeBackCard

/-- THE TIED CARD OF 'warrantlaw07.ScopeParses'. -/
def scopeParsesCard : Claim7 := { stood := { row := scopeParsesRow, standIns := [], harness := (true, "56895672b95fda098d7434439cb24bdfdc41596e02c2909d295cdecb8fb96647"), looks := true }, kinds := [], alts := [], laidByText := true, laidKinds := [.data, .handle, .pinned], laidTests := true, laidLooks := .later }
def ScopeParsesCardSaid : Prop := Claim7.holds Tryd.pinned (.plain (OpenSpec.ofChange scopeParsesSpec)) scopeParsesCard

/-- THE TIED CARD OF 'warrantlaw07.ScopeChecks'. -/
def scopeChecksCard : Claim7 := { stood := { row := scopeChecksRow, standIns := [], harness := (true, "56895672b95fda098d7434439cb24bdfdc41596e02c2909d295cdecb8fb96647"), looks := true }, kinds := [], alts := [], laidByText := true, laidKinds := [.data, .handle, .pinned], laidTests := true, laidLooks := .later }
def ScopeChecksCardSaid : Prop := Claim7.holds Tryd.pinned (.plain (OpenSpec.ofChange scopeChecksSpec)) scopeChecksCard

/-- THE SECOND FORM's CARD OF 'warrantlaw07.ScopeSets'. -/
def scopeSetsUptoCard : Claim7 := { stood := { row := scopeSetsUptoRow, standIns := [], harness := (true, "56895672b95fda098d7434439cb24bdfdc41596e02c2909d295cdecb8fb96647"), looks := true }, kinds := [], alts := [], laidByText := true, laidKinds := [.data, .pinned], laidTests := true, laidLooks := .later }
def ScopeSetsUptoCardSaid : Prop := Claim7.holds Tryd.pinned (.plain (OpenSpec.upto scopeSetsSpec)) scopeSetsUptoCard

/-- THE SECOND FORM's CARD OF 'warrantlaw07.ScopeBack'. -/
def scopeBackUptoCard : Claim7 := { stood := { row := scopeBackUptoRow, standIns := [], harness := (true, "56895672b95fda098d7434439cb24bdfdc41596e02c2909d295cdecb8fb96647"), looks := true }, kinds := [], alts := [], laidByText := true, laidKinds := [.data, .pinned], laidTests := true, laidLooks := .later }
def ScopeBackUptoCardSaid : Prop := Claim7.holds Tryd.pinned (.plain (OpenSpec.upto scopeBackSpec)) scopeBackUptoCard

/-- THE SECOND FORM's CARD OF 'warrantlaw07.ScopeParses'. -/
def scopeParsesUptoCard : Claim7 := { stood := { row := scopeParsesUptoRow, standIns := [], harness := (true, "56895672b95fda098d7434439cb24bdfdc41596e02c2909d295cdecb8fb96647"), looks := true }, kinds := [], alts := [], laidByText := true, laidKinds := [.data, .handle, .pinned], laidTests := true, laidLooks := .later }
def ScopeParsesUptoCardSaid : Prop := Claim7.holds Tryd.pinned (.plain (OpenSpec.upto scopeParsesSpec)) scopeParsesUptoCard

/-- THE SECOND FORM's CARD OF 'warrantlaw07.ScopeChecks'. -/
def scopeChecksUptoCard : Claim7 := { stood := { row := scopeChecksUptoRow, standIns := [], harness := (true, "56895672b95fda098d7434439cb24bdfdc41596e02c2909d295cdecb8fb96647"), looks := true }, kinds := [], alts := [], laidByText := true, laidKinds := [.data, .handle, .pinned], laidTests := true, laidLooks := .later }
def ScopeChecksUptoCardSaid : Prop := Claim7.holds Tryd.pinned (.plain (OpenSpec.upto scopeChecksSpec)) scopeChecksUptoCard
end Rows
end Go.Proofs.YtomkdnapnjkclaaDoor

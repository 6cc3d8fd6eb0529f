/-
  DERIVED. GIVEN WITH THE SEED: THE CARDS: each row of YtoblhcieidljjaaGreatDoorRows.lean that lists a variable, with what it lists TIED to the program's text (the seventh form; the later family's looks); each row that meets fmt, with fmt's text TOLD by the authors' own Lean function (tested against real Go, not proved from fmt's source: count such statements apart). THE CARD IS WHAT COUNTS. Prove the row's statement (the work); the ties are given (YtoblhcieidljjaaGreatDoorTie.lean); close each card by the builder's one call (the guide's Derived/Test/ToyasCard.lean, 'card_holds'). Laid BY PROGRAM, IN A SANDBOX (cutbox-door.mjs). By AI agents, Wed Nov 11 2026. No macro, syntax, notation, axiom, sorry.
-/
import Derived.Test.YtoblhcieidljjaaGreatDoorRows
import GoSem.ClaimSeven
namespace Go.Proofs.YtoblhcieidljjaaGreatDoor
namespace Rows

/-- THE TIED CARD OF 'trustquorumlaw06.ConfigurationLines'. -/
def configurationLinesCard : Claim7 := { stood := { row := configurationLinesRow, standIns := [], harness := (true, "429ca674e516ad6a88a51fb36e88407cd653eca15647ebbe8d9c3b9797c03b99"), looks := true }, kinds := [], alts := [], laidByText := true, laidKinds := [.data, .data, .data, .data, .sentinel, .sentinel, .pinned], laidTests := true, laidLooks := .later }
def ConfigurationLinesCardSaid : Prop := Claim7.holds Tryz.pinned (.plain (OpenSpec.ofChange configurationLinesSpec)) configurationLinesCard

/-- THE TIED CARD OF 'trustquorumlaw07.DeclarationAnswers'. -/
def declarationAnswersCard : Claim7 := { stood := { row := declarationAnswersRow, standIns := [], harness := (true, "429ca674e516ad6a88a51fb36e88407cd653eca15647ebbe8d9c3b9797c03b99"), looks := true }, kinds := [], alts := [], laidByText := true, laidKinds := [.data, .data, .data, .sentinel, .sentinel], laidTests := true, laidLooks := .later }
def DeclarationAnswersCardSaid : Prop := Claim7.holds Tryz.pinned (.plain (OpenSpec.ofChange declarationAnswersSpec)) declarationAnswersCard

/-- THE TIED CARD OF 'trustquorumlaw06.ConfigurationRenames'. -/
def configurationRenamesCard : Claim7 := { stood := { row := configurationRenamesRow, standIns := [], harness := (true, "429ca674e516ad6a88a51fb36e88407cd653eca15647ebbe8d9c3b9797c03b99"), looks := true }, kinds := [], alts := [], laidByText := true, laidKinds := [.data, .data, .data, .data, .sentinel, .sentinel, .pinned], laidTests := true, laidLooks := .later }
def ConfigurationRenamesCardSaid : Prop := Claim7.holds Tryz.pinned (.plain (OpenSpec.ofChange configurationRenamesSpec)) configurationRenamesCard

/-- THE TIED CARD OF 'trustquorumlaw06.ConfigurationAnswers'. -/
def configurationAnswersCard : Claim7 := { stood := { row := configurationAnswersRow, standIns := [], harness := (true, "429ca674e516ad6a88a51fb36e88407cd653eca15647ebbe8d9c3b9797c03b99"), looks := true }, kinds := [], alts := [], laidByText := true, laidKinds := [.data, .data, .data, .data, .sentinel, .sentinel, .pinned], laidTests := true, laidLooks := .later }
def ConfigurationAnswersCardSaid : Prop := Claim7.holds Tryz.pinned (.plain (OpenSpec.ofChange configurationAnswersSpec)) configurationAnswersCard

/-- THE SECOND FORM's CARD OF 'trustquorumlaw06.ConfigurationLines'. -/
def configurationLinesUptoCard : Claim7 := { stood := { row := configurationLinesUptoRow, standIns := [], harness := (true, "429ca674e516ad6a88a51fb36e88407cd653eca15647ebbe8d9c3b9797c03b99"), looks := true }, kinds := [], alts := [], laidByText := true, laidKinds := [.data, .data, .data, .data, .sentinel, .sentinel, .pinned], laidTests := true, laidLooks := .later }
def ConfigurationLinesUptoCardSaid : Prop := Claim7.holds Tryz.pinned (.plain (OpenSpec.upto configurationLinesSpec)) configurationLinesUptoCard

/-- THE SECOND FORM's CARD OF 'trustquorumlaw07.DeclarationAnswers'. -/
def declarationAnswersUptoCard : Claim7 := { stood := { row := declarationAnswersUptoRow, standIns := [], harness := (true, "429ca674e516ad6a88a51fb36e88407cd653eca15647ebbe8d9c3b9797c03b99"), looks := true }, kinds := [], alts := [], laidByText := true, laidKinds := [.data, .data, .data, .sentinel, .sentinel], laidTests := true, laidLooks := .later }
def DeclarationAnswersUptoCardSaid : Prop := Claim7.holds Tryz.pinned (.plain (OpenSpec.upto declarationAnswersSpec)) declarationAnswersUptoCard

/-- THE SECOND FORM's CARD OF 'trustquorumlaw06.ConfigurationRenames'. -/
def configurationRenamesUptoCard : Claim7 := { stood := { row := configurationRenamesUptoRow, standIns := [], harness := (true, "429ca674e516ad6a88a51fb36e88407cd653eca15647ebbe8d9c3b9797c03b99"), looks := true }, kinds := [], alts := [], laidByText := true, laidKinds := [.data, .data, .data, .data, .sentinel, .sentinel, .pinned], laidTests := true, laidLooks := .later }
def ConfigurationRenamesUptoCardSaid : Prop := Claim7.holds Tryz.pinned (.plain (OpenSpec.upto configurationRenamesSpec)) configurationRenamesUptoCard

/-- THE SECOND FORM's CARD OF 'trustquorumlaw06.ConfigurationAnswers'. -/
def configurationAnswersUptoCard : Claim7 := { stood := { row := configurationAnswersUptoRow, standIns := [], harness := (true, "429ca674e516ad6a88a51fb36e88407cd653eca15647ebbe8d9c3b9797c03b99"), looks := true }, kinds := [], alts := [], laidByText := true, laidKinds := [.data, .data, .data, .data, .sentinel, .sentinel, .pinned], laidTests := true, laidLooks := .later }
def ConfigurationAnswersUptoCardSaid : Prop := Claim7.holds Tryz.pinned (.plain (OpenSpec.upto configurationAnswersSpec)) configurationAnswersUptoCard
end Rows
end Go.Proofs.YtoblhcieidljjaaGreatDoor

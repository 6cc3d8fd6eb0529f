/-
  DERIVED. GIVEN WITH THE SEED: THE CARDS: each row of YtpdhckbiioobhaaGreatDoorRows.lean that lists a variable, with what it lists TIED to the program's text (the seventh form; the later family's looks); each row that meets fmt, with fmt's text TOLD by the authors' own Lean function (tested against real Go, not proved from fmt's source: count such statements apart). THE CARD IS WHAT COUNTS. Prove the row's statement (the work); the ties are given (YtpdhckbiioobhaaGreatDoorTie.lean); close each card by the builder's one call (the guide's Derived/Test/ToyasCard.lean, 'card_holds'). Laid BY PROGRAM, IN A SANDBOX (cutbox-door.mjs). By AI agents, Wed Nov 11 2026. No macro, syntax, notation, axiom, sorry.
-/
import Derived.Test.YtpdhckbiioobhaaGreatDoorRows
import GoSem.ClaimSeven
namespace Go.Proofs.YtpdhckbiioobhaaGreatDoor
namespace Rows

/-- THE TIED CARD OF 'trustquorumlaw06.ConfigurationLines'. -/
def configurationLinesCard : Claim7 := { stood := { row := configurationLinesRow, standIns := [], harness := (true, "7e026d1caf7feff84868c3b94e9b8d0e7edee01b75c90587cd90dee80e502b09"), looks := true }, kinds := [], alts := [], laidByText := true, laidKinds := [.data, .data, .data, .data, .sentinel, .sentinel, .pinned], laidTests := true, laidLooks := .later }
def ConfigurationLinesCardSaid : Prop := Claim7.holds Tryz.pinned (.plain (OpenSpec.ofChange configurationLinesSpec)) configurationLinesCard

/-- THE TIED CARD OF 'trustquorumlaw04.NormalMeans'. -/
def normalMeansCard : Claim7 := { stood := { row := normalMeansRow, standIns := [], harness := (true, "7e026d1caf7feff84868c3b94e9b8d0e7edee01b75c90587cd90dee80e502b09"), looks := true }, kinds := [], alts := [], laidByText := true, laidKinds := [.data, .data, .data], laidTests := true, laidLooks := .later }
def NormalMeansCardSaid : Prop := Claim7.holds Tryz.pinned (.plain (OpenSpec.ofChange normalMeansSpec)) normalMeansCard

/-- THE TIED CARD OF 'trustquorumlaw04.NormalOrder'. -/
def normalOrderCard : Claim7 := { stood := { row := normalOrderRow, standIns := [], harness := (true, "7e026d1caf7feff84868c3b94e9b8d0e7edee01b75c90587cd90dee80e502b09"), looks := true }, kinds := [], alts := [], laidByText := true, laidKinds := [.data, .data, .data], laidTests := true, laidLooks := .later }
def NormalOrderCardSaid : Prop := Claim7.holds Tryz.pinned (.plain (OpenSpec.ofChange normalOrderSpec)) normalOrderCard

/-- THE TIED CARD OF 'trustquorumlaw04.NormalCompares'. -/
def normalComparesCard : Claim7 := { stood := { row := normalComparesRow, standIns := [], harness := (true, "7e026d1caf7feff84868c3b94e9b8d0e7edee01b75c90587cd90dee80e502b09"), looks := true }, kinds := [], alts := [], laidByText := true, laidKinds := [.data, .data, .data], laidTests := true, laidLooks := .later }
def NormalComparesCardSaid : Prop := Claim7.holds Tryz.pinned (.plain (OpenSpec.ofChange normalComparesSpec)) normalComparesCard

/-- THE TIED CARD OF 'trustquorumlaw07.DeclarationSigns'. -/
def declarationSignsCard : Claim7 := { stood := { row := declarationSignsRow, standIns := [], harness := (true, "7e026d1caf7feff84868c3b94e9b8d0e7edee01b75c90587cd90dee80e502b09"), looks := true }, kinds := [], alts := [], laidByText := true, laidKinds := [.data, .data, .data, .sentinel, .sentinel], laidTests := true, laidLooks := .later }
def DeclarationSignsCardSaid : Prop := Claim7.holds Tryz.pinned (.plain (OpenSpec.ofChange declarationSignsSpec)) declarationSignsCard

/-- THE TIED CARD OF 'trustquorumlaw04.NormalAnswers'. -/
def normalAnswersCard : Claim7 := { stood := { row := normalAnswersRow, standIns := [], harness := (true, "7e026d1caf7feff84868c3b94e9b8d0e7edee01b75c90587cd90dee80e502b09"), looks := true }, kinds := [], alts := [], laidByText := true, laidKinds := [.data, .data, .data], laidTests := true, laidLooks := .later }
def NormalAnswersCardSaid : Prop := Claim7.holds Tryz.pinned (.plain (OpenSpec.ofChange normalAnswersSpec)) normalAnswersCard

/-- THE TIED CARD OF 'trustquorumlaw04.NormalAgain'. -/
def normalAgainCard : Claim7 := { stood := { row := normalAgainRow, standIns := [], harness := (true, "7e026d1caf7feff84868c3b94e9b8d0e7edee01b75c90587cd90dee80e502b09"), looks := true }, kinds := [], alts := [], laidByText := true, laidKinds := [.data, .data, .data], laidTests := true, laidLooks := .later }
def NormalAgainCardSaid : Prop := Claim7.holds Tryz.pinned (.plain (OpenSpec.ofChange normalAgainSpec)) normalAgainCard

/-- THE TIED CARD OF 'trustquorumlaw06.ConfigurationRestricts'. -/
def configurationRestrictsCard : Claim7 := { stood := { row := configurationRestrictsRow, standIns := [], harness := (true, "7e026d1caf7feff84868c3b94e9b8d0e7edee01b75c90587cd90dee80e502b09"), looks := true }, kinds := [], alts := [], laidByText := true, laidKinds := [.data, .data, .data, .data, .sentinel, .sentinel, .pinned], laidTests := true, laidLooks := .later }
def ConfigurationRestrictsCardSaid : Prop := Claim7.holds Tryz.pinned (.plain (OpenSpec.ofChange configurationRestrictsSpec)) configurationRestrictsCard

/-- THE TIED CARD OF 'trustquorumlaw06.ConfigurationTexts'. -/
def configurationTextsCard : Claim7 := { stood := { row := configurationTextsRow, standIns := [], harness := (true, "7e026d1caf7feff84868c3b94e9b8d0e7edee01b75c90587cd90dee80e502b09"), looks := true }, kinds := [], alts := [], laidByText := true, laidKinds := [.data, .data, .data, .data, .sentinel, .sentinel, .pinned], laidTests := true, laidLooks := .later }
def ConfigurationTextsCardSaid : Prop := Claim7.holds Tryz.pinned (.plain (OpenSpec.ofChange configurationTextsSpec)) configurationTextsCard

/-- THE TIED CARD OF 'trustquorumlaw07.DeclarationAnswers'. -/
def declarationAnswersCard : Claim7 := { stood := { row := declarationAnswersRow, standIns := [], harness := (true, "7e026d1caf7feff84868c3b94e9b8d0e7edee01b75c90587cd90dee80e502b09"), looks := true }, kinds := [], alts := [], laidByText := true, laidKinds := [.data, .data, .data, .sentinel, .sentinel], laidTests := true, laidLooks := .later }
def DeclarationAnswersCardSaid : Prop := Claim7.holds Tryz.pinned (.plain (OpenSpec.ofChange declarationAnswersSpec)) declarationAnswersCard

/-- THE SECOND FORM's CARD OF 'trustquorumlaw06.ConfigurationLines'. -/
def configurationLinesUptoCard : Claim7 := { stood := { row := configurationLinesUptoRow, standIns := [], harness := (true, "7e026d1caf7feff84868c3b94e9b8d0e7edee01b75c90587cd90dee80e502b09"), looks := true }, kinds := [], alts := [], laidByText := true, laidKinds := [.data, .data, .data, .data, .sentinel, .sentinel, .pinned], laidTests := true, laidLooks := .later }
def ConfigurationLinesUptoCardSaid : Prop := Claim7.holds Tryz.pinned (.plain (OpenSpec.upto configurationLinesSpec)) configurationLinesUptoCard

/-- THE SECOND FORM's CARD OF 'trustquorumlaw04.NormalMeans'. -/
def normalMeansUptoCard : Claim7 := { stood := { row := normalMeansUptoRow, standIns := [], harness := (true, "7e026d1caf7feff84868c3b94e9b8d0e7edee01b75c90587cd90dee80e502b09"), looks := true }, kinds := [], alts := [], laidByText := true, laidKinds := [.data, .data, .data], laidTests := true, laidLooks := .later }
def NormalMeansUptoCardSaid : Prop := Claim7.holds Tryz.pinned (.plain (OpenSpec.upto normalMeansSpec)) normalMeansUptoCard

/-- THE SECOND FORM's CARD OF 'trustquorumlaw04.NormalOrder'. -/
def normalOrderUptoCard : Claim7 := { stood := { row := normalOrderUptoRow, standIns := [], harness := (true, "7e026d1caf7feff84868c3b94e9b8d0e7edee01b75c90587cd90dee80e502b09"), looks := true }, kinds := [], alts := [], laidByText := true, laidKinds := [.data, .data, .data], laidTests := true, laidLooks := .later }
def NormalOrderUptoCardSaid : Prop := Claim7.holds Tryz.pinned (.plain (OpenSpec.upto normalOrderSpec)) normalOrderUptoCard

/-- THE SECOND FORM's CARD OF 'trustquorumlaw04.NormalCompares'. -/
def normalComparesUptoCard : Claim7 := { stood := { row := normalComparesUptoRow, standIns := [], harness := (true, "7e026d1caf7feff84868c3b94e9b8d0e7edee01b75c90587cd90dee80e502b09"), looks := true }, kinds := [], alts := [], laidByText := true, laidKinds := [.data, .data, .data], laidTests := true, laidLooks := .later }
def NormalComparesUptoCardSaid : Prop := Claim7.holds Tryz.pinned (.plain (OpenSpec.upto normalComparesSpec)) normalComparesUptoCard

/-- THE SECOND FORM's CARD OF 'trustquorumlaw07.DeclarationSigns'. -/
def declarationSignsUptoCard : Claim7 := { stood := { row := declarationSignsUptoRow, standIns := [], harness := (true, "7e026d1caf7feff84868c3b94e9b8d0e7edee01b75c90587cd90dee80e502b09"), looks := true }, kinds := [], alts := [], laidByText := true, laidKinds := [.data, .data, .data, .sentinel, .sentinel], laidTests := true, laidLooks := .later }
def DeclarationSignsUptoCardSaid : Prop := Claim7.holds Tryz.pinned (.plain (OpenSpec.upto declarationSignsSpec)) declarationSignsUptoCard

/-- THE SECOND FORM's CARD OF 'trustquorumlaw04.NormalAnswers'. -/
def normalAnswersUptoCard : Claim7 := { stood := { row := normalAnswersUptoRow, standIns := [], harness := (true, "7e026d1caf7feff84868c3b94e9b8d0e7edee01b75c90587cd90dee80e502b09"), looks := true }, kinds := [], alts := [], laidByText := true, laidKinds := [.data, .data, .data], laidTests := true, laidLooks := .later }
def NormalAnswersUptoCardSaid : Prop := Claim7.holds Tryz.pinned (.plain (OpenSpec.upto normalAnswersSpec)) normalAnswersUptoCard

/-- THE SECOND FORM's CARD OF 'trustquorumlaw04.NormalAgain'. -/
def normalAgainUptoCard : Claim7 := { stood := { row := normalAgainUptoRow, standIns := [], harness := (true, "7e026d1caf7feff84868c3b94e9b8d0e7edee01b75c90587cd90dee80e502b09"), looks := true }, kinds := [], alts := [], laidByText := true, laidKinds := [.data, .data, .data], laidTests := true, laidLooks := .later }
def NormalAgainUptoCardSaid : Prop := Claim7.holds Tryz.pinned (.plain (OpenSpec.upto normalAgainSpec)) normalAgainUptoCard

/-- THE SECOND FORM's CARD OF 'trustquorumlaw06.ConfigurationRestricts'. -/
def configurationRestrictsUptoCard : Claim7 := { stood := { row := configurationRestrictsUptoRow, standIns := [], harness := (true, "7e026d1caf7feff84868c3b94e9b8d0e7edee01b75c90587cd90dee80e502b09"), looks := true }, kinds := [], alts := [], laidByText := true, laidKinds := [.data, .data, .data, .data, .sentinel, .sentinel, .pinned], laidTests := true, laidLooks := .later }
def ConfigurationRestrictsUptoCardSaid : Prop := Claim7.holds Tryz.pinned (.plain (OpenSpec.upto configurationRestrictsSpec)) configurationRestrictsUptoCard

/-- THE SECOND FORM's CARD OF 'trustquorumlaw06.ConfigurationTexts'. -/
def configurationTextsUptoCard : Claim7 := { stood := { row := configurationTextsUptoRow, standIns := [], harness := (true, "7e026d1caf7feff84868c3b94e9b8d0e7edee01b75c90587cd90dee80e502b09"), looks := true }, kinds := [], alts := [], laidByText := true, laidKinds := [.data, .data, .data, .data, .sentinel, .sentinel, .pinned], laidTests := true, laidLooks := .later }
def ConfigurationTextsUptoCardSaid : Prop := Claim7.holds Tryz.pinned (.plain (OpenSpec.upto configurationTextsSpec)) configurationTextsUptoCard

/-- THE SECOND FORM's CARD OF 'trustquorumlaw07.DeclarationAnswers'. -/
def declarationAnswersUptoCard : Claim7 := { stood := { row := declarationAnswersUptoRow, standIns := [], harness := (true, "7e026d1caf7feff84868c3b94e9b8d0e7edee01b75c90587cd90dee80e502b09"), looks := true }, kinds := [], alts := [], laidByText := true, laidKinds := [.data, .data, .data, .sentinel, .sentinel], laidTests := true, laidLooks := .later }
def DeclarationAnswersUptoCardSaid : Prop := Claim7.holds Tryz.pinned (.plain (OpenSpec.upto declarationAnswersSpec)) declarationAnswersUptoCard
end Rows
end Go.Proofs.YtpdhckbiioobhaaGreatDoor

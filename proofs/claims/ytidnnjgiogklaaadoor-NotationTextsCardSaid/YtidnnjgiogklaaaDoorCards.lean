/-
  DERIVED. GIVEN WITH THE SEED: THE CARDS: each row of YtidnnjgiogklaaaDoorRows.lean that lists a variable, with what it lists TIED to the program's text (the seventh form; the later family's looks); each row that meets fmt, with fmt's text TOLD by the authors' own Lean function (tested against real Go, not proved from fmt's source: count such statements apart). THE CARD IS WHAT COUNTS. Prove the row's statement (the work); the ties are given (YtidnnjgiogklaaaDoorTie.lean); close each card by the builder's one call (the guide's Derived/Test/ToyasCard.lean, 'card_holds'). Laid BY PROGRAM, IN A SANDBOX (cutbox-door.mjs). By AI agents, Wed Nov 11 2026. No macro, syntax, notation, axiom, sorry.
-/
import Derived.Test.YtidnnjgiogklaaaDoorRows
import GoSem.ClaimSeven
namespace Go.Proofs.YtidnnjgiogklaaaDoor
namespace Rows

/-- THE TIED CARD OF 'trustquorumlaw42.CatchupTrusts'. -/
def catchupTrustsCard : Claim7 := { stood := { row := catchupTrustsRow, standIns := [], harness := (true, "6c34244389b325fb3de760728d3de3fdae628fed12cad789c083f90f74d28526"), looks := true }, kinds := [], alts := [], laidByText := true, laidKinds := [.data, .data, .data], laidTests := true, laidLooks := .later }
def CatchupTrustsCardSaid : Prop := Claim7.holds Tryd.pinned (.plain (OpenSpec.ofChange catchupTrustsSpec)) catchupTrustsCard

/-- THE TIED CARD OF 'trustquorumlaw07.DeclarationTags'. -/
def declarationTagsCard : Claim7 := { stood := { row := declarationTagsRow, standIns := [], harness := (true, "6c34244389b325fb3de760728d3de3fdae628fed12cad789c083f90f74d28526"), looks := true }, kinds := [], alts := [], laidByText := true, laidKinds := [.data, .data, .data], laidTests := true, laidLooks := .later }
def DeclarationTagsCardSaid : Prop := Claim7.holds Tryd.pinned (.plain (OpenSpec.ofChange declarationTagsSpec)) declarationTagsCard

/-- THE TIED CARD OF 'trustquorumlaw07.DeclarationProves'. -/
def declarationProvesCard : Claim7 := { stood := { row := declarationProvesRow, standIns := [], harness := (true, "6c34244389b325fb3de760728d3de3fdae628fed12cad789c083f90f74d28526"), looks := true }, kinds := [], alts := [], laidByText := true, laidKinds := [.data, .data, .data], laidTests := true, laidLooks := .later }
def DeclarationProvesCardSaid : Prop := Claim7.holds Tryd.pinned (.plain (OpenSpec.ofChange declarationProvesSpec)) declarationProvesCard

/-- THE TIED CARD OF 'trustquorumlaw07.DeclarationOrders'. -/
def declarationOrdersCard : Claim7 := { stood := { row := declarationOrdersRow, standIns := [], harness := (true, "6c34244389b325fb3de760728d3de3fdae628fed12cad789c083f90f74d28526"), looks := true }, kinds := [], alts := [], laidByText := true, laidKinds := [.data, .data, .data], laidTests := true, laidLooks := .later }
def DeclarationOrdersCardSaid : Prop := Claim7.holds Tryd.pinned (.plain (OpenSpec.ofChange declarationOrdersSpec)) declarationOrdersCard

/-- THE TIED CARD OF 'trustquorumlaw03.NotationTexts'. -/
def notationTextsCard : Claim7 := { stood := { row := notationTextsRow, standIns := [], harness := (true, "6c34244389b325fb3de760728d3de3fdae628fed12cad789c083f90f74d28526"), looks := true }, kinds := [], alts := [], laidByText := true, laidKinds := [.data, .data, .data, .sentinel, .sentinel], laidTests := true, laidLooks := .later }
def NotationTextsCardSaid : Prop := Claim7.holds Tryd.pinned (.plain (OpenSpec.ofChange notationTextsSpec)) notationTextsCard

/-- THE TIED CARD OF 'trustquorumlaw03.NotationBlanks'. -/
def notationBlanksCard : Claim7 := { stood := { row := notationBlanksRow, standIns := [], harness := (true, "6c34244389b325fb3de760728d3de3fdae628fed12cad789c083f90f74d28526"), looks := true }, kinds := [], alts := [], laidByText := true, laidKinds := [.data, .data, .data, .sentinel, .sentinel], laidTests := true, laidLooks := .later }
def NotationBlanksCardSaid : Prop := Claim7.holds Tryd.pinned (.plain (OpenSpec.ofChange notationBlanksSpec)) notationBlanksCard

/-- THE TIED CARD OF 'trustquorumlaw03.NotationCuts'. -/
def notationCutsCard : Claim7 := { stood := { row := notationCutsRow, standIns := [], harness := (true, "6c34244389b325fb3de760728d3de3fdae628fed12cad789c083f90f74d28526"), looks := true }, kinds := [], alts := [], laidByText := true, laidKinds := [.data, .data, .data, .sentinel, .sentinel], laidTests := true, laidLooks := .later }
def NotationCutsCardSaid : Prop := Claim7.holds Tryd.pinned (.plain (OpenSpec.ofChange notationCutsSpec)) notationCutsCard

/-- THE TIED CARD OF 'trustquorumlaw03.NotationDiffers'. -/
def notationDiffersCard : Claim7 := { stood := { row := notationDiffersRow, standIns := [], harness := (true, "6c34244389b325fb3de760728d3de3fdae628fed12cad789c083f90f74d28526"), looks := true }, kinds := [], alts := [], laidByText := true, laidKinds := [.data, .data, .data, .sentinel, .sentinel], laidTests := true, laidLooks := .later }
def NotationDiffersCardSaid : Prop := Claim7.holds Tryd.pinned (.plain (OpenSpec.ofChange notationDiffersSpec)) notationDiffersCard

/-- THE TIED CARD OF 'trustquorumlaw01.NodesetNext'. -/
def nodesetNextCard : Claim7 := { stood := { row := nodesetNextRow, standIns := [], harness := (true, "6c34244389b325fb3de760728d3de3fdae628fed12cad789c083f90f74d28526"), looks := true }, kinds := [], alts := [], laidByText := true, laidKinds := [.data, .data, .data], laidTests := true, laidLooks := .later }
def NodesetNextCardSaid : Prop := Claim7.holds Tryd.pinned (.plain (OpenSpec.ofChange nodesetNextSpec)) nodesetNextCard

/-- THE SECOND FORM's CARD OF 'trustquorumlaw42.CatchupTrusts'. -/
def catchupTrustsUptoCard : Claim7 := { stood := { row := catchupTrustsUptoRow, standIns := [], harness := (true, "6c34244389b325fb3de760728d3de3fdae628fed12cad789c083f90f74d28526"), looks := true }, kinds := [], alts := [], laidByText := true, laidKinds := [.data, .data, .data], laidTests := true, laidLooks := .later }
def CatchupTrustsUptoCardSaid : Prop := Claim7.holds Tryd.pinned (.plain (OpenSpec.upto catchupTrustsSpec)) catchupTrustsUptoCard

/-- THE SECOND FORM's CARD OF 'trustquorumlaw07.DeclarationTags'. -/
def declarationTagsUptoCard : Claim7 := { stood := { row := declarationTagsUptoRow, standIns := [], harness := (true, "6c34244389b325fb3de760728d3de3fdae628fed12cad789c083f90f74d28526"), looks := true }, kinds := [], alts := [], laidByText := true, laidKinds := [.data, .data, .data], laidTests := true, laidLooks := .later }
def DeclarationTagsUptoCardSaid : Prop := Claim7.holds Tryd.pinned (.plain (OpenSpec.upto declarationTagsSpec)) declarationTagsUptoCard

/-- THE SECOND FORM's CARD OF 'trustquorumlaw07.DeclarationProves'. -/
def declarationProvesUptoCard : Claim7 := { stood := { row := declarationProvesUptoRow, standIns := [], harness := (true, "6c34244389b325fb3de760728d3de3fdae628fed12cad789c083f90f74d28526"), looks := true }, kinds := [], alts := [], laidByText := true, laidKinds := [.data, .data, .data], laidTests := true, laidLooks := .later }
def DeclarationProvesUptoCardSaid : Prop := Claim7.holds Tryd.pinned (.plain (OpenSpec.upto declarationProvesSpec)) declarationProvesUptoCard

/-- THE SECOND FORM's CARD OF 'trustquorumlaw07.DeclarationOrders'. -/
def declarationOrdersUptoCard : Claim7 := { stood := { row := declarationOrdersUptoRow, standIns := [], harness := (true, "6c34244389b325fb3de760728d3de3fdae628fed12cad789c083f90f74d28526"), looks := true }, kinds := [], alts := [], laidByText := true, laidKinds := [.data, .data, .data], laidTests := true, laidLooks := .later }
def DeclarationOrdersUptoCardSaid : Prop := Claim7.holds Tryd.pinned (.plain (OpenSpec.upto declarationOrdersSpec)) declarationOrdersUptoCard

/-- THE SECOND FORM's CARD OF 'trustquorumlaw03.NotationTexts'. -/
def notationTextsUptoCard : Claim7 := { stood := { row := notationTextsUptoRow, standIns := [], harness := (true, "6c34244389b325fb3de760728d3de3fdae628fed12cad789c083f90f74d28526"), looks := true }, kinds := [], alts := [], laidByText := true, laidKinds := [.data, .data, .data, .sentinel, .sentinel], laidTests := true, laidLooks := .later }
def NotationTextsUptoCardSaid : Prop := Claim7.holds Tryd.pinned (.plain (OpenSpec.upto notationTextsSpec)) notationTextsUptoCard

/-- THE SECOND FORM's CARD OF 'trustquorumlaw03.NotationBlanks'. -/
def notationBlanksUptoCard : Claim7 := { stood := { row := notationBlanksUptoRow, standIns := [], harness := (true, "6c34244389b325fb3de760728d3de3fdae628fed12cad789c083f90f74d28526"), looks := true }, kinds := [], alts := [], laidByText := true, laidKinds := [.data, .data, .data, .sentinel, .sentinel], laidTests := true, laidLooks := .later }
def NotationBlanksUptoCardSaid : Prop := Claim7.holds Tryd.pinned (.plain (OpenSpec.upto notationBlanksSpec)) notationBlanksUptoCard

/-- THE SECOND FORM's CARD OF 'trustquorumlaw03.NotationCuts'. -/
def notationCutsUptoCard : Claim7 := { stood := { row := notationCutsUptoRow, standIns := [], harness := (true, "6c34244389b325fb3de760728d3de3fdae628fed12cad789c083f90f74d28526"), looks := true }, kinds := [], alts := [], laidByText := true, laidKinds := [.data, .data, .data, .sentinel, .sentinel], laidTests := true, laidLooks := .later }
def NotationCutsUptoCardSaid : Prop := Claim7.holds Tryd.pinned (.plain (OpenSpec.upto notationCutsSpec)) notationCutsUptoCard

/-- THE SECOND FORM's CARD OF 'trustquorumlaw03.NotationDiffers'. -/
def notationDiffersUptoCard : Claim7 := { stood := { row := notationDiffersUptoRow, standIns := [], harness := (true, "6c34244389b325fb3de760728d3de3fdae628fed12cad789c083f90f74d28526"), looks := true }, kinds := [], alts := [], laidByText := true, laidKinds := [.data, .data, .data, .sentinel, .sentinel], laidTests := true, laidLooks := .later }
def NotationDiffersUptoCardSaid : Prop := Claim7.holds Tryd.pinned (.plain (OpenSpec.upto notationDiffersSpec)) notationDiffersUptoCard

/-- THE SECOND FORM's CARD OF 'trustquorumlaw01.NodesetNext'. -/
def nodesetNextUptoCard : Claim7 := { stood := { row := nodesetNextUptoRow, standIns := [], harness := (true, "6c34244389b325fb3de760728d3de3fdae628fed12cad789c083f90f74d28526"), looks := true }, kinds := [], alts := [], laidByText := true, laidKinds := [.data, .data, .data], laidTests := true, laidLooks := .later }
def NodesetNextUptoCardSaid : Prop := Claim7.holds Tryd.pinned (.plain (OpenSpec.upto nodesetNextSpec)) nodesetNextUptoCard
end Rows
end Go.Proofs.YtidnnjgiogklaaaDoor

/-
  DERIVED. GIVEN WITH THE SEED: THE CARDS: each row of YtidcjafmcjfkgaaDoorRows.lean that lists a variable, with what it lists TIED to the program's text (the seventh form; the later family's looks); each row that meets fmt, with fmt's text TOLD by the authors' own Lean function (tested against real Go, not proved from fmt's source: count such statements apart). THE CARD IS WHAT COUNTS. Prove the row's statement (the work); the ties are given (YtidcjafmcjfkgaaDoorTie.lean); close each card by the builder's one call (the guide's Derived/Test/ToyasCard.lean, 'card_holds'). Laid BY PROGRAM, IN A SANDBOX (cutbox-door.mjs). By AI agents, Wed Nov 11 2026. No macro, syntax, notation, axiom, sorry.
-/
import Derived.Test.YtidcjafmcjfkgaaDoorRows
import GoSem.ClaimSeven
namespace Go.Proofs.YtidcjafmcjfkgaaDoor
namespace Rows

/-- THE TIED CARD OF 'trustquorumlaw01.NodesetLeast'. -/
def nodesetLeastCard : Claim7 := { stood := { row := nodesetLeastRow, standIns := [], harness := (true, "7172be1db9486002bdbbd24cfba821ca38edf3a0dd3cb5475fe3934aaa0cb49d"), looks := false }, kinds := [], alts := [], laidByText := true, laidKinds := [.data, .data, .data], laidTests := true, laidLooks := .later }
def NodesetLeastCardSaid : Prop := Claim7.holds Tryd.pinned (.plain (OpenSpec.ofChange nodesetLeastSpec)) nodesetLeastCard

/-- THE TIED CARD OF 'trustquorumlaw01.NodesetMeets'. -/
def nodesetMeetsCard : Claim7 := { stood := { row := nodesetMeetsRow, standIns := [], harness := (true, "7172be1db9486002bdbbd24cfba821ca38edf3a0dd3cb5475fe3934aaa0cb49d"), looks := false }, kinds := [], alts := [], laidByText := true, laidKinds := [.data, .data, .data], laidTests := true, laidLooks := .later }
def NodesetMeetsCardSaid : Prop := Claim7.holds Tryd.pinned (.plain (OpenSpec.ofChange nodesetMeetsSpec)) nodesetMeetsCard

/-- THE TIED CARD OF 'trustquorumlaw01.NodesetSubsets'. -/
def nodesetSubsetsCard : Claim7 := { stood := { row := nodesetSubsetsRow, standIns := [], harness := (true, "7172be1db9486002bdbbd24cfba821ca38edf3a0dd3cb5475fe3934aaa0cb49d"), looks := false }, kinds := [], alts := [], laidByText := true, laidKinds := [.data, .data, .data], laidTests := true, laidLooks := .later }
def NodesetSubsetsCardSaid : Prop := Claim7.holds Tryd.pinned (.plain (OpenSpec.ofChange nodesetSubsetsSpec)) nodesetSubsetsCard

/-- THE TIED CARD OF 'trustquorumlaw01.NodesetTexts'. -/
def nodesetTextsCard : Claim7 := { stood := { row := nodesetTextsRow, standIns := [], harness := (true, "7172be1db9486002bdbbd24cfba821ca38edf3a0dd3cb5475fe3934aaa0cb49d"), looks := false }, kinds := [], alts := [], laidByText := true, laidKinds := [.data, .data, .data], laidTests := true, laidLooks := .later }
def NodesetTextsCardSaid : Prop := Claim7.holds Tryd.pinned (.plain (OpenSpec.ofChange nodesetTextsSpec)) nodesetTextsCard

/-- THE SECOND FORM's CARD OF 'trustquorumlaw01.NodesetLeast'. -/
def nodesetLeastUptoCard : Claim7 := { stood := { row := nodesetLeastUptoRow, standIns := [], harness := (true, "7172be1db9486002bdbbd24cfba821ca38edf3a0dd3cb5475fe3934aaa0cb49d"), looks := false }, kinds := [], alts := [], laidByText := true, laidKinds := [.data, .data, .data], laidTests := true, laidLooks := .later }
def NodesetLeastUptoCardSaid : Prop := Claim7.holds Tryd.pinned (.plain (OpenSpec.upto nodesetLeastSpec)) nodesetLeastUptoCard

/-- THE SECOND FORM's CARD OF 'trustquorumlaw01.NodesetMeets'. -/
def nodesetMeetsUptoCard : Claim7 := { stood := { row := nodesetMeetsUptoRow, standIns := [], harness := (true, "7172be1db9486002bdbbd24cfba821ca38edf3a0dd3cb5475fe3934aaa0cb49d"), looks := false }, kinds := [], alts := [], laidByText := true, laidKinds := [.data, .data, .data], laidTests := true, laidLooks := .later }
def NodesetMeetsUptoCardSaid : Prop := Claim7.holds Tryd.pinned (.plain (OpenSpec.upto nodesetMeetsSpec)) nodesetMeetsUptoCard

/-- THE SECOND FORM's CARD OF 'trustquorumlaw01.NodesetSubsets'. -/
def nodesetSubsetsUptoCard : Claim7 := { stood := { row := nodesetSubsetsUptoRow, standIns := [], harness := (true, "7172be1db9486002bdbbd24cfba821ca38edf3a0dd3cb5475fe3934aaa0cb49d"), looks := false }, kinds := [], alts := [], laidByText := true, laidKinds := [.data, .data, .data], laidTests := true, laidLooks := .later }
def NodesetSubsetsUptoCardSaid : Prop := Claim7.holds Tryd.pinned (.plain (OpenSpec.upto nodesetSubsetsSpec)) nodesetSubsetsUptoCard

/-- THE SECOND FORM's CARD OF 'trustquorumlaw01.NodesetTexts'. -/
def nodesetTextsUptoCard : Claim7 := { stood := { row := nodesetTextsUptoRow, standIns := [], harness := (true, "7172be1db9486002bdbbd24cfba821ca38edf3a0dd3cb5475fe3934aaa0cb49d"), looks := false }, kinds := [], alts := [], laidByText := true, laidKinds := [.data, .data, .data], laidTests := true, laidLooks := .later }
def NodesetTextsUptoCardSaid : Prop := Claim7.holds Tryd.pinned (.plain (OpenSpec.upto nodesetTextsSpec)) nodesetTextsUptoCard
end Rows
end Go.Proofs.YtidcjafmcjfkgaaDoor

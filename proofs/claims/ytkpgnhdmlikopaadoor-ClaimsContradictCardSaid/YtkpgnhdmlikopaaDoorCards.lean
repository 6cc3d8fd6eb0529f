/-
  DERIVED. GIVEN WITH THE SEED: THE CARDS: each row of YtkpgnhdmlikopaaDoorRows.lean that lists a variable, with what it lists TIED to the program's text (the seventh form; the later family's looks); each row that meets fmt, with fmt's text TOLD by the authors' own Lean function (tested against real Go, not proved from fmt's source: count such statements apart). THE CARD IS WHAT COUNTS. Prove the row's statement (the work); the ties are given (YtkpgnhdmlikopaaDoorTie.lean); close each card by the builder's one call (the guide's Derived/Test/ToyasCard.lean, 'card_holds'). Laid BY PROGRAM, IN A SANDBOX (cutbox-door.mjs). By AI agents, Wed Nov 11 2026. No macro, syntax, notation, axiom, sorry.
-/
import Derived.Test.YtkpgnhdmlikopaaDoorRows
import GoSem.ClaimSeven
namespace Go.Proofs.YtkpgnhdmlikopaaDoor
namespace Rows

/-- THE TIED CARD OF 'trustquorumlaw17.ClaimsTexts'. -/
def claimsTextsCard : Claim7 := { stood := { row := claimsTextsRow, standIns := [], harness := (true, "afebf152710ffcd7426c0f08ac4e4b03477e53cdea1af0ab4d0928217b1b7964"), looks := true }, kinds := [], alts := [], laidByText := true, laidKinds := [.data, .data, .data, .sentinel, .sentinel, .listed, .data], laidTests := true, laidLooks := .later }
def ClaimsTextsCardSaid : Prop := Claim7.holds Tryd.pinned (.plain (OpenSpec.ofChange claimsTextsSpec)) claimsTextsCard

/-- THE TIED CARD OF 'trustquorumlaw17.ClaimsContradict'. -/
def claimsContradictCard : Claim7 := { stood := { row := claimsContradictRow, standIns := [], harness := (true, "afebf152710ffcd7426c0f08ac4e4b03477e53cdea1af0ab4d0928217b1b7964"), looks := true }, kinds := [], alts := [], laidByText := true, laidKinds := [.data, .data, .data, .sentinel, .sentinel, .listed, .data], laidTests := true, laidLooks := .later }
def ClaimsContradictCardSaid : Prop := Claim7.holds Tryd.pinned (.plain (OpenSpec.ofChange claimsContradictSpec)) claimsContradictCard

/-- THE TIED CARD OF 'trustquorumlaw17.ClaimsUnion'. -/
def claimsUnionCard : Claim7 := { stood := { row := claimsUnionRow, standIns := [], harness := (true, "afebf152710ffcd7426c0f08ac4e4b03477e53cdea1af0ab4d0928217b1b7964"), looks := true }, kinds := [], alts := [], laidByText := true, laidKinds := [.data, .data, .data, .sentinel, .sentinel, .listed, .data], laidTests := true, laidLooks := .later }
def ClaimsUnionCardSaid : Prop := Claim7.holds Tryd.pinned (.plain (OpenSpec.ofChange claimsUnionSpec)) claimsUnionCard

/-- THE SECOND FORM's CARD OF 'trustquorumlaw17.ClaimsTexts'. -/
def claimsTextsUptoCard : Claim7 := { stood := { row := claimsTextsUptoRow, standIns := [], harness := (true, "afebf152710ffcd7426c0f08ac4e4b03477e53cdea1af0ab4d0928217b1b7964"), looks := true }, kinds := [], alts := [], laidByText := true, laidKinds := [.data, .data, .data, .sentinel, .sentinel, .listed, .data], laidTests := true, laidLooks := .later }
def ClaimsTextsUptoCardSaid : Prop := Claim7.holds Tryd.pinned (.plain (OpenSpec.upto claimsTextsSpec)) claimsTextsUptoCard

/-- THE SECOND FORM's CARD OF 'trustquorumlaw17.ClaimsContradict'. -/
def claimsContradictUptoCard : Claim7 := { stood := { row := claimsContradictUptoRow, standIns := [], harness := (true, "afebf152710ffcd7426c0f08ac4e4b03477e53cdea1af0ab4d0928217b1b7964"), looks := true }, kinds := [], alts := [], laidByText := true, laidKinds := [.data, .data, .data, .sentinel, .sentinel, .listed, .data], laidTests := true, laidLooks := .later }
def ClaimsContradictUptoCardSaid : Prop := Claim7.holds Tryd.pinned (.plain (OpenSpec.upto claimsContradictSpec)) claimsContradictUptoCard

/-- THE SECOND FORM's CARD OF 'trustquorumlaw17.ClaimsUnion'. -/
def claimsUnionUptoCard : Claim7 := { stood := { row := claimsUnionUptoRow, standIns := [], harness := (true, "afebf152710ffcd7426c0f08ac4e4b03477e53cdea1af0ab4d0928217b1b7964"), looks := true }, kinds := [], alts := [], laidByText := true, laidKinds := [.data, .data, .data, .sentinel, .sentinel, .listed, .data], laidTests := true, laidLooks := .later }
def ClaimsUnionUptoCardSaid : Prop := Claim7.holds Tryd.pinned (.plain (OpenSpec.upto claimsUnionSpec)) claimsUnionUptoCard
end Rows
end Go.Proofs.YtkpgnhdmlikopaaDoor

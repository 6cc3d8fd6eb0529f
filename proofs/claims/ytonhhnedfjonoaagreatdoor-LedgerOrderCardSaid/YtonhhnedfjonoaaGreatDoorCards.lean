/-
  DERIVED. GIVEN WITH THE SEED: THE CARDS: each row of YtonhhnedfjonoaaGreatDoorRows.lean that lists a variable, with what it lists TIED to the program's text (the seventh form; the later family's looks); each row that meets fmt, with fmt's text TOLD by the authors' own Lean function (tested against real Go, not proved from fmt's source: count such statements apart). THE CARD IS WHAT COUNTS. Prove the row's statement (the work); the ties are given (YtonhhnedfjonoaaGreatDoorTie.lean); close each card by the builder's one call (the guide's Derived/Test/ToyasCard.lean, 'card_holds'). Laid BY PROGRAM, IN A SANDBOX (cutbox-door.mjs). By AI agents, Wed Nov 11 2026. No macro, syntax, notation, axiom, sorry.
-/
import Derived.Test.YtonhhnedfjonoaaGreatDoorRows
import GoSem.ClaimSeven
namespace Go.Proofs.YtonhhnedfjonoaaGreatDoor
namespace Rows

/-- THE TIED CARD OF 'trustquorumlaw40.LedgerDigest'. -/
def ledgerDigestCard : Claim7 := { stood := { row := ledgerDigestRow, standIns := [], harness := (true, "266a299a5776d0586f21121bef1dad8bc7f8a1a119958b1fcae9b6ab93b9d7c8"), looks := true }, kinds := [], alts := [], laidByText := true, laidKinds := [.data, .data, .data, .data, .sentinel, .sentinel, .pinned], laidTests := true, laidLooks := .later }
def LedgerDigestCardSaid : Prop := Claim7.holds Tryz.pinned (.plain (OpenSpec.ofChange ledgerDigestSpec)) ledgerDigestCard

/-- THE TIED CARD OF 'trustquorumlaw40.LedgerBack'. -/
def ledgerBackCard : Claim7 := { stood := { row := ledgerBackRow, standIns := [], harness := (true, "266a299a5776d0586f21121bef1dad8bc7f8a1a119958b1fcae9b6ab93b9d7c8"), looks := true }, kinds := [], alts := [], laidByText := true, laidKinds := [.data, .data, .data, .data, .sentinel, .sentinel, .pinned], laidTests := true, laidLooks := .later }
def LedgerBackCardSaid : Prop := Claim7.holds Tryz.pinned (.plain (OpenSpec.ofChange ledgerBackSpec)) ledgerBackCard

/-- THE TIED CARD OF 'trustquorumlaw40.LedgerOrder'. -/
def ledgerOrderCard : Claim7 := { stood := { row := ledgerOrderRow, standIns := [], harness := (true, "266a299a5776d0586f21121bef1dad8bc7f8a1a119958b1fcae9b6ab93b9d7c8"), looks := true }, kinds := [], alts := [], laidByText := true, laidKinds := [.data, .data, .data, .data, .sentinel, .sentinel, .pinned], laidTests := true, laidLooks := .later }
def LedgerOrderCardSaid : Prop := Claim7.holds Tryz.pinned (.plain (OpenSpec.ofChange ledgerOrderSpec)) ledgerOrderCard

/-- THE SECOND FORM's CARD OF 'trustquorumlaw40.LedgerDigest'. -/
def ledgerDigestUptoCard : Claim7 := { stood := { row := ledgerDigestUptoRow, standIns := [], harness := (true, "266a299a5776d0586f21121bef1dad8bc7f8a1a119958b1fcae9b6ab93b9d7c8"), looks := true }, kinds := [], alts := [], laidByText := true, laidKinds := [.data, .data, .data, .data, .sentinel, .sentinel, .pinned], laidTests := true, laidLooks := .later }
def LedgerDigestUptoCardSaid : Prop := Claim7.holds Tryz.pinned (.plain (OpenSpec.upto ledgerDigestSpec)) ledgerDigestUptoCard

/-- THE SECOND FORM's CARD OF 'trustquorumlaw40.LedgerBack'. -/
def ledgerBackUptoCard : Claim7 := { stood := { row := ledgerBackUptoRow, standIns := [], harness := (true, "266a299a5776d0586f21121bef1dad8bc7f8a1a119958b1fcae9b6ab93b9d7c8"), looks := true }, kinds := [], alts := [], laidByText := true, laidKinds := [.data, .data, .data, .data, .sentinel, .sentinel, .pinned], laidTests := true, laidLooks := .later }
def LedgerBackUptoCardSaid : Prop := Claim7.holds Tryz.pinned (.plain (OpenSpec.upto ledgerBackSpec)) ledgerBackUptoCard

/-- THE SECOND FORM's CARD OF 'trustquorumlaw40.LedgerOrder'. -/
def ledgerOrderUptoCard : Claim7 := { stood := { row := ledgerOrderUptoRow, standIns := [], harness := (true, "266a299a5776d0586f21121bef1dad8bc7f8a1a119958b1fcae9b6ab93b9d7c8"), looks := true }, kinds := [], alts := [], laidByText := true, laidKinds := [.data, .data, .data, .data, .sentinel, .sentinel, .pinned], laidTests := true, laidLooks := .later }
def LedgerOrderUptoCardSaid : Prop := Claim7.holds Tryz.pinned (.plain (OpenSpec.upto ledgerOrderSpec)) ledgerOrderUptoCard
end Rows
end Go.Proofs.YtonhhnedfjonoaaGreatDoor

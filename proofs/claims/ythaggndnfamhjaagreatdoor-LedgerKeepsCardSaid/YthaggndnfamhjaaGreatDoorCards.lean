/-
  DERIVED. GIVEN WITH THE SEED: THE CARDS: each row of YthaggndnfamhjaaGreatDoorRows.lean that lists a variable, with what it lists TIED to the program's text (the seventh form; the later family's looks); each row that meets fmt, with fmt's text TOLD by the authors' own Lean function (tested against real Go, not proved from fmt's source: count such statements apart). THE CARD IS WHAT COUNTS. Prove the row's statement (the work); the ties are given (YthaggndnfamhjaaGreatDoorTie.lean); close each card by the builder's one call (the guide's Derived/Test/ToyasCard.lean, 'card_holds'). Laid BY PROGRAM, IN A SANDBOX (cutbox-door.mjs). By AI agents, Wed Nov 11 2026. No macro, syntax, notation, axiom, sorry.
-/
import Derived.Test.YthaggndnfamhjaaGreatDoorRows
import GoSem.ClaimSeven
namespace Go.Proofs.YthaggndnfamhjaaGreatDoor
namespace Rows

/-- THE TIED CARD OF 'trustquorumlaw40.LedgerWhole'. -/
def ledgerWholeCard : Claim7 := { stood := { row := ledgerWholeRow, standIns := [], harness := (true, "3e305a2d4651642277c252b5f8eb947fe6058a55fe018d3695450406235a1958"), looks := true }, kinds := [], alts := [], laidByText := true, laidKinds := [.data, .data, .data, .data, .sentinel, .sentinel, .pinned], laidTests := true, laidLooks := .later }
def LedgerWholeCardSaid : Prop := Claim7.holds Tryz.pinned (.plain (OpenSpec.ofChange ledgerWholeSpec)) ledgerWholeCard

/-- THE TIED CARD OF 'trustquorumlaw40.LedgerFees'. -/
def ledgerFeesCard : Claim7 := { stood := { row := ledgerFeesRow, standIns := [], harness := (true, "3e305a2d4651642277c252b5f8eb947fe6058a55fe018d3695450406235a1958"), looks := true }, kinds := [], alts := [], laidByText := true, laidKinds := [.data, .data, .data, .data, .sentinel, .sentinel, .pinned], laidTests := true, laidLooks := .later }
def LedgerFeesCardSaid : Prop := Claim7.holds Tryz.pinned (.plain (OpenSpec.ofChange ledgerFeesSpec)) ledgerFeesCard

/-- THE TIED CARD OF 'trustquorumlaw40.LedgerAgain'. -/
def ledgerAgainCard : Claim7 := { stood := { row := ledgerAgainRow, standIns := [], harness := (true, "3e305a2d4651642277c252b5f8eb947fe6058a55fe018d3695450406235a1958"), looks := true }, kinds := [], alts := [], laidByText := true, laidKinds := [.data, .data, .data, .data, .sentinel, .sentinel, .pinned], laidTests := true, laidLooks := .later }
def LedgerAgainCardSaid : Prop := Claim7.holds Tryz.pinned (.plain (OpenSpec.ofChange ledgerAgainSpec)) ledgerAgainCard

/-- THE TIED CARD OF 'trustquorumlaw40.LedgerKeeps'. -/
def ledgerKeepsCard : Claim7 := { stood := { row := ledgerKeepsRow, standIns := [], harness := (true, "3e305a2d4651642277c252b5f8eb947fe6058a55fe018d3695450406235a1958"), looks := true }, kinds := [], alts := [], laidByText := true, laidKinds := [.data, .data, .data, .data, .sentinel, .sentinel, .pinned], laidTests := true, laidLooks := .later }
def LedgerKeepsCardSaid : Prop := Claim7.holds Tryz.pinned (.plain (OpenSpec.ofChange ledgerKeepsSpec)) ledgerKeepsCard

/-- THE SECOND FORM's CARD OF 'trustquorumlaw40.LedgerWhole'. -/
def ledgerWholeUptoCard : Claim7 := { stood := { row := ledgerWholeUptoRow, standIns := [], harness := (true, "3e305a2d4651642277c252b5f8eb947fe6058a55fe018d3695450406235a1958"), looks := true }, kinds := [], alts := [], laidByText := true, laidKinds := [.data, .data, .data, .data, .sentinel, .sentinel, .pinned], laidTests := true, laidLooks := .later }
def LedgerWholeUptoCardSaid : Prop := Claim7.holds Tryz.pinned (.plain (OpenSpec.upto ledgerWholeSpec)) ledgerWholeUptoCard

/-- THE SECOND FORM's CARD OF 'trustquorumlaw40.LedgerFees'. -/
def ledgerFeesUptoCard : Claim7 := { stood := { row := ledgerFeesUptoRow, standIns := [], harness := (true, "3e305a2d4651642277c252b5f8eb947fe6058a55fe018d3695450406235a1958"), looks := true }, kinds := [], alts := [], laidByText := true, laidKinds := [.data, .data, .data, .data, .sentinel, .sentinel, .pinned], laidTests := true, laidLooks := .later }
def LedgerFeesUptoCardSaid : Prop := Claim7.holds Tryz.pinned (.plain (OpenSpec.upto ledgerFeesSpec)) ledgerFeesUptoCard

/-- THE SECOND FORM's CARD OF 'trustquorumlaw40.LedgerAgain'. -/
def ledgerAgainUptoCard : Claim7 := { stood := { row := ledgerAgainUptoRow, standIns := [], harness := (true, "3e305a2d4651642277c252b5f8eb947fe6058a55fe018d3695450406235a1958"), looks := true }, kinds := [], alts := [], laidByText := true, laidKinds := [.data, .data, .data, .data, .sentinel, .sentinel, .pinned], laidTests := true, laidLooks := .later }
def LedgerAgainUptoCardSaid : Prop := Claim7.holds Tryz.pinned (.plain (OpenSpec.upto ledgerAgainSpec)) ledgerAgainUptoCard

/-- THE SECOND FORM's CARD OF 'trustquorumlaw40.LedgerKeeps'. -/
def ledgerKeepsUptoCard : Claim7 := { stood := { row := ledgerKeepsUptoRow, standIns := [], harness := (true, "3e305a2d4651642277c252b5f8eb947fe6058a55fe018d3695450406235a1958"), looks := true }, kinds := [], alts := [], laidByText := true, laidKinds := [.data, .data, .data, .data, .sentinel, .sentinel, .pinned], laidTests := true, laidLooks := .later }
def LedgerKeepsUptoCardSaid : Prop := Claim7.holds Tryz.pinned (.plain (OpenSpec.upto ledgerKeepsSpec)) ledgerKeepsUptoCard
end Rows
end Go.Proofs.YthaggndnfamhjaaGreatDoor

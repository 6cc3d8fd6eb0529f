/- Some texts of this claim, joined: contracts of the functions that it reaches, and plain laws. -/
import Derived.Test.YtonhhnedfjonoaaGreatDoorJM2
import Derived.Test.YtonhhnedfjonoaaGreatDoorJM4

set_option linter.unusedSimpArgs false
set_option linter.unusedVariables false
/- Plain: the bytes of a ledger, and that they tell some ledgers apart. -/
namespace Go.Proofs.YtonhhnedfjonoaaGreatDoor
open Go.RowKit

def astT (a : Ast) : List UInt8 := if a = nat then [45] else a.code ++ Lib.itoa a.iss
end Go.Proofs.YtonhhnedfjonoaaGreatDoor

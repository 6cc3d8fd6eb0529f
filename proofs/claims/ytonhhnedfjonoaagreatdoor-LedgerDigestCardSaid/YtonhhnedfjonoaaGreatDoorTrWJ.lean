/- Walks over trusts: Size, Depth of the program and of the reference. By gen_tr.py. -/
import Derived.Test.YtonhhnedfjonoaaGreatDoorProg
import Derived.Test.YtonhhnedfjonoaaGreatDoorJL1
import Derived.Test.YtonhhnedfjonoaaGreatDoorJL2
set_option linter.unusedSimpArgs false
set_option linter.unusedVariables false
namespace Go.Proofs.YtonhhnedfjonoaaGreatDoor
open Go.RowKit

theorem max_if (a b : Nat) : (if a < b then (b : Int) else (a : Int)) = ((max a b : Nat) : Int) := by split <;> omega





end Go.Proofs.YtonhhnedfjonoaaGreatDoor

/- Walks: check, level, Valid of trusts (program and reference). By gen_tr.py. -/
import Derived.Test.YtonhhnedfjonoaaGreatDoorTrWJ
import Derived.Test.YtonhhnedfjonoaaGreatDoorOfWJ
import Derived.Test.YtonhhnedfjonoaaGreatDoorFnWJ
set_option linter.unusedSimpArgs false
set_option linter.unusedVariables false
namespace Go.Proofs.YtonhhnedfjonoaaGreatDoor
open Go.RowKit







end Go.Proofs.YtonhhnedfjonoaaGreatDoor

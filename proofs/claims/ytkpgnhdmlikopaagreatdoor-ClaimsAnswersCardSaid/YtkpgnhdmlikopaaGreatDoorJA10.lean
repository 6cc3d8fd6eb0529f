/- Some texts of this claim, joined: contracts of the functions that it reaches, and plain laws. -/
import Derived.Test.YtkpgnhdmlikopaaGreatDoorProg
import Derived.Test.YtkpgnhdmlikopaaGreatDoorJA1

set_option linter.unusedSimpArgs false
set_option linter.unusedVariables false
/- Walks: nodeset.below, Valid, Has; the reference's Valid, Has. -/
namespace Go.Proofs.YtkpgnhdmlikopaaGreatDoor
open Go.RowKit


end Go.Proofs.YtkpgnhdmlikopaaGreatDoor

/- Some texts of this claim, joined: contracts of the functions that it reaches, and plain laws. -/
import Derived.Test.YtkpgnhdmlikopaaDoorProg
import Derived.Test.YtkpgnhdmlikopaaDoorJC1

set_option linter.unusedSimpArgs false
set_option linter.unusedVariables false
/- Walks: nodeset.below, Valid, Has; the reference's Valid, Has. -/
namespace Go.Proofs.YtkpgnhdmlikopaaDoor
open Go.RowKit


end Go.Proofs.YtkpgnhdmlikopaaDoor

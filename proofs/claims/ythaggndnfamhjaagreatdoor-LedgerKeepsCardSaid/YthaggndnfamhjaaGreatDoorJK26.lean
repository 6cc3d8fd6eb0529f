/- Texts, joined. -/
import Derived.Test.YthaggndnfamhjaaGreatDoorJK3
import Derived.Test.YthaggndnfamhjaaGreatDoorJK6

set_option linter.unusedSimpArgs false
set_option linter.unusedVariables false
set_option maxRecDepth 100000
set_option maxHeartbeats 16000000
namespace Go.Proofs.YthaggndnfamhjaaGreatDoor
open Go.RowKit
def Af(a:Ast):List UInt8:=if a=nat then[45] else a.code++Lib.itoa a.iss
end Go.Proofs.YthaggndnfamhjaaGreatDoor

/- The law NodesetNext: why it holds (plain). -/
import Derived.Test.YtidnnjgiogklaaaNs2
import Derived.Test.YtidnnjgiogklaaaLeastP
namespace Go.Proofs.Ytidnnjgiogklaaa
open Go.RowKit

/-- What the law sees from s on, with f steps to go. -/
def goN (m : Nat) : Nat → Nat → Bool
  | s, 0 => (nextR s m).2 == false && s == 2 ^ m - 1
  | s, f + 1 => (nextR s m).2 && decide ((nextR s m).1 < 2 ^ m) && cmpS (s : Int) ((nextR s m).1 : Int) == -1 && goN m (nextR s m).1 f
set_option maxRecDepth 100000 in
theorem goN_all : ∀ m : Fin 11, goN m.val 0 (2 ^ m.val - 1) = true := by decide +kernel

end Go.Proofs.Ytidnnjgiogklaaa

/- Walks: Of of package nodeset and of the reference. By gen_of.py. -/
import Derived.Test.YtonhhnedfjonoaaGreatDoorJL20
set_option linter.unusedSimpArgs false
set_option linter.unusedVariables false
namespace Go.Proofs.YtonhhnedfjonoaaGreatDoor
open Go.RowKit

theorem hasB_nat {m j : Nat} (hm : m < 1024) (hj : j < 10) : hasB (m : Int) (j : Int) = m.testBit j := by
  have h1 : (0 : Int) ≤ (m : Int) ∧ (m : Int) ≤ 1023 := by omega
  have h2 : (0 : Int) ≤ (j : Int) ∧ (j : Int) < 10 := by omega
  simp only [hasB, validB]
  rw [decide_eq_true h1, decide_eq_true h2]
  simp



end Go.Proofs.YtonhhnedfjonoaaGreatDoor

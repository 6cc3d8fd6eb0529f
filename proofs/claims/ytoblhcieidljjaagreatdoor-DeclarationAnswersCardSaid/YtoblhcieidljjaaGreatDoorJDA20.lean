/- Some texts of this claim, joined: contracts of the functions that it reaches, and plain laws. -/
import Derived.Test.YtoblhcieidljjaaGreatDoorJDA6
import Derived.Test.YtoblhcieidljjaaGreatDoorJDA3

set_option linter.unusedSimpArgs false
set_option linter.unusedVariables false
/- What a reader of trusts leaves. -/
namespace Go.Proofs.YtoblhcieidljjaaGreatDoor
open Go.RowKit

/-- What Parse leaves. -/
def GotP (p : Got) (w : World) (e : Ending) (w' : World) : Prop :=
  ∃ (th : Int) (A1 : Option Addr) (n1 c1 : Nat) (A2 : Option Addr) (n2 c2 : Nat) (k : Nat) (er : Int), e = .returned (.tuple #[.agg #[.int .i64 th, .slice A1 n1 c1, .slice A2 n2 c2], .int .i64 (k : Int), .int .i64 er]) ∧ Fr none w w' ∧ k ≤ 6001 ∧
    (match p with
      | .no a x => k = a ∧ er = x ∧ .agg #[.int .i64 th, .slice A1 n1 c1, .slice A2 n2 c2] = zeroT
      | .ok t => k = 0 ∧ er = 0 ∧ TrD w' (Dn w.heap.size w') (.agg #[.int .i64 th, .slice A1 n1 c1, .slice A2 n2 c2]) t ∧ validE t = 0)

end Go.Proofs.YtoblhcieidljjaaGreatDoor

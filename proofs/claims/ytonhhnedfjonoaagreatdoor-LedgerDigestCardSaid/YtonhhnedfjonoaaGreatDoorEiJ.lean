/- What the type table says of the slice types. -/
import Derived.Test.YtonhhnedfjonoaaGreatDoorProg
import Derived.Test.YtonhhnedfjonoaaGreatDoorJL2
set_option linter.unusedSimpArgs false
set_option linter.unusedVariables false
namespace Go.Proofs.YtonhhnedfjonoaaGreatDoor
open Go.RowKit

theorem eiInt : EInfo Tryz.prog 22 3 1 8 := EInfo.mk_ (z := .int .i64 0) (by kernel_rfl) (by kernel_rfl) rfl (by omega)

def ints (n : Nat) : List Int := (List.range n).map Int.ofNat
theorem ints_succ (n : Nat) : ints (n + 1) = ints n ++ [(n : Int)] := by simp [ints, List.range_succ]
theorem ints_len (n : Nat) : (ints n).length = n := by simp [ints]

end Go.Proofs.YtonhhnedfjonoaaGreatDoor

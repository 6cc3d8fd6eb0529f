/- What the type table says of the slice types. -/
import Derived.Test.YtidnnjgiogklaaaProg
import Derived.Test.YtidnnjgiogklaaaApp
namespace Go.Proofs.Ytidnnjgiogklaaa
open Go.RowKit

theorem eiInt : EInfo Try.prog 22 3 1 8 := EInfo.mk_ (z := .int .i64 0) (by kernel_rfl) (by kernel_rfl) rfl (by omega)
theorem eiTrust : EInfo Try.prog 25 27 3 56 := EInfo.mk_ (z := .agg #[.int .i64 0, .slice none 0 0, .slice none 0 0]) (by kernel_rfl) (by kernel_rfl) rfl (by omega)

def ints (n : Nat) : List Int := (List.range n).map Int.ofNat
theorem ints_succ (n : Nat) : ints (n + 1) = ints n ++ [(n : Int)] := by simp [ints, List.range_succ]
theorem ints_len (n : Nat) : (ints n).length = n := by simp [ints]

end Go.Proofs.Ytidnnjgiogklaaa

/- What the type table says of the slice types. -/
import Derived.Test.YtpdhckbiioobhaaGreatDoorProg
import Derived.Test.YtpdhckbiioobhaaGreatDoorApp
namespace Go.Proofs.YtpdhckbiioobhaaGreatDoor
open Go.RowKit

theorem eiInt : EInfo Tryz.prog 22 3 1 8 := EInfo.mk_ (z := .int .i64 0) (by kernel_rfl) (by kernel_rfl) rfl (by omega)
theorem eiU64 : EInfo Tryz.prog 55 59 1 8 := EInfo.mk_ (z := .int .u64 0) (by kernel_rfl) (by kernel_rfl) rfl (by omega)
theorem eiTrust : EInfo Tryz.prog 29 31 3 56 := EInfo.mk_ (z := .agg #[.int .i64 0, .slice none 0 0, .slice none 0 0]) (by kernel_rfl) (by kernel_rfl) rfl (by omega)

def ints (n : Nat) : List Int := (List.range n).map Int.ofNat
theorem ints_succ (n : Nat) : ints (n + 1) = ints n ++ [(n : Int)] := by simp [ints, List.range_succ]
theorem ints_len (n : Nat) : (ints n).length = n := by simp [ints]

end Go.Proofs.YtpdhckbiioobhaaGreatDoor

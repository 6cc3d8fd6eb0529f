/- Walks: nodeset.below at every n, OnesCount at a set, Size, rank, cmp.Compare, cmp.Or, Compare; the reference's Size, Compare. -/
import Derived.Test.YtpdhckbiioobhaaGreatDoorProg
import Derived.Test.YtpdhckbiioobhaaGreatDoorSet
import Derived.Test.YtpdhckbiioobhaaGreatDoorApp
namespace Go.Proofs.YtpdhckbiioobhaaGreatDoor
open Go.RowKit

/-- The number of bits below k. -/
def popB (m : Nat) : Nat → Nat
  | 0 => 0
  | k + 1 => popB m k + (if m.testBit k then 1 else 0)
theorem popB_le (m : Nat) : ∀ k, popB m k ≤ k
  | 0 => by simp [popB]
  | k + 1 => by have := popB_le m k; simp only [popB]; split <;> omega
/-- The number of nodes of a set; 0 at what is none. -/
def sizS (s : Int) : Nat := if validB s then popB s.toNat 10 else 0
theorem sizS_le (s : Int) : sizS s ≤ 10 := by
  unfold sizS; split
  · exact popB_le _ _
  · omega
/-- s is a set of nodes below n. -/
def belB (s n : Int) : Bool := decide (0 ≤ s ∧ s < 2 ^ n.toNat)
def rankI (s : Int) : Int := if validB s then sizS s else -1
def cmpI (a b : Int) : Int := if a < b then -1 else if b < a then 1 else 0
/-- The order of sets. -/
def cmpS (a b : Int) : Int := if cmpI (rankI a) (rankI b) = 0 then cmpI a b else cmpI (rankI a) (rankI b)

theorem below_any (s : Int) (n : Nat) (hn : n ≤ 10) (w : World) : Calls Tryz.prog 204 #[.int .i64 s, .int .i64 n] w fun e w' => e = .returned (.bool (belB s n)) ∧ w = w' := by
  go_enter Tryz.func204, Tryz.ntmps204
  go_wp2
  all_goals
    go_ret
    refine ⟨ret_bool ?_, rfl⟩
    try rw [wrap_pow n (by omega)]
    simp only [belB, Int.toNat_natCast]
    try simp [*]
    try omega

def c1 (x : Int) : Int := IntKind.u64.wrap (bits .and .u64 (x / 2) 6148914691236517205 + bits .and .u64 x 6148914691236517205)
def c2 (x : Int) : Int := IntKind.u64.wrap (bits .and .u64 (x / 4) 3689348814741910323 + bits .and .u64 x 3689348814741910323)
def c3 (x : Int) : Int := bits .and .u64 (IntKind.u64.wrap (x / 16 + x)) 1085102592571150095
def c4 (x : Int) : Int := IntKind.u64.wrap (x + x / 256)
def c5 (x : Int) : Int := IntKind.u64.wrap (x + x / 65536)
def c6 (x : Int) : Int := IntKind.u64.wrap (x + x / 4294967296)
theorem pop64 : ∀ m : Fin 1024, bits .and .i64 (wrap64 (c6 (c5 (c4 (c3 (c2 (c1 (m.val : Int)))))))) 127 = (popB m.val 10 : Int) := by decide +kernel

theorem isNaN_any (a : Int) (w : World) : Calls Tryz.prog 140 #[.int .i64 a] w fun e w' => e = .returned (.bool false) ∧ w = w' := by
  go_enter Tryz.func140, Tryz.ntmps140
  go_wp2_with fail
  go_ret
  exact ⟨ret_bool (by simp), rfl⟩
theorem cmpCompare_any (a b : Int) (w : World) : Calls Tryz.prog 91 #[.int .i64 a, .int .i64 b] w fun e w' => e = .returned (.int .i64 (cmpI a b)) ∧ w = w' := by
  rcases Int.lt_trichotomy a b with h | h | h
  · have e1 : cmpI a b = -1 := by simp [cmpI, h]
    have E := Lib.hid e1
    clear e1
    go_enter Tryz.func91, Tryz.ntmps91
    go_wp2_with (go_at_call 140; refine (isNaN_any _ _).mono ?_; rintro e w' ⟨rfl, rfl⟩)
    all_goals (go_ret; exact ⟨ret_int (by rw [E.out]), rfl⟩)
  · subst h
    have e1 : cmpI a a = 0 := by simp [cmpI]
    have E := Lib.hid e1
    clear e1
    go_enter Tryz.func91, Tryz.ntmps91
    go_wp2_with (go_at_call 140; refine (isNaN_any _ _).mono ?_; rintro e w' ⟨rfl, rfl⟩)
    all_goals (go_ret; exact ⟨ret_int (by rw [E.out]), rfl⟩)
  · have e1 : cmpI a b = 1 := by simp [cmpI, h]; omega
    have h2 : ¬ a < b := by omega
    have E := Lib.hid e1
    clear e1
    go_enter Tryz.func91, Tryz.ntmps91
    go_wp2_with (go_at_call 140; refine (isNaN_any _ _).mono ?_; rintro e w' ⟨rfl, rfl⟩)
    all_goals (go_ret; exact ⟨ret_int (by rw [E.out]), rfl⟩)

end Go.Proofs.YtpdhckbiioobhaaGreatDoor

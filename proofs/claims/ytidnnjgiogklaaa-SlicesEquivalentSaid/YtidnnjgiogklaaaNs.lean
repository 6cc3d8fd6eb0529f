/- Walks: nodeset.below at every n, OnesCount at a set, Size, rank, cmp.Compare, cmp.Or, Compare; the reference's Size, Compare. -/
import Derived.Test.YtidnnjgiogklaaaProg
import Derived.Test.YtidnnjgiogklaaaSet
import Derived.Test.YtidnnjgiogklaaaApp
namespace Go.Proofs.Ytidnnjgiogklaaa
open Go.RowKit

/-- The number of bits below k. -/
def popB (m : Nat) : Nat → Nat
  | 0 => 0
  | k + 1 => popB m k + (if m.testBit k then 1 else 0)
theorem popB_le (m : Nat) : ∀ k, popB m k ≤ k
  | 0 => by simp [popB]
  | k + 1 => by have := popB_le m k; simp only [popB]; split <;> omega
/-- The number of nodes of a set; 0 at what is none. -/
def sizS (s : Int) : Nat := if validB s then popB s.toNat 10 else 0
theorem sizS_le (s : Int) : sizS s ≤ 10 := by
  unfold sizS; split
  · exact popB_le _ _
  · omega
/-- s is a set of nodes below n. -/
def belB (s n : Int) : Bool := decide (0 ≤ s ∧ s < 2 ^ n.toNat)
def rankI (s : Int) : Int := if validB s then sizS s else -1
def cmpI (a b : Int) : Int := if a < b then -1 else if b < a then 1 else 0
/-- The order of sets. -/
def cmpS (a b : Int) : Int := if cmpI (rankI a) (rankI b) = 0 then cmpI a b else cmpI (rankI a) (rankI b)

theorem below_any (s : Int) (n : Nat) (hn : n ≤ 10) (w : World) : Calls Try.prog 65 #[.int .i64 s, .int .i64 n] w fun e w' => e = .returned (.bool (belB s n)) ∧ w = w' := by
  go_enter Try.func65, Try.ntmps65
  go_wp2
  all_goals
    go_ret
    refine ⟨ret_bool ?_, rfl⟩
    try rw [wrap_pow n (by omega)]
    simp only [belB, Int.toNat_natCast]
    try simp [*]
    try omega

def c1 (x : Int) : Int := IntKind.u64.wrap (bits .and .u64 (x / 2) 6148914691236517205 + bits .and .u64 x 6148914691236517205)
def c2 (x : Int) : Int := IntKind.u64.wrap (bits .and .u64 (x / 4) 3689348814741910323 + bits .and .u64 x 3689348814741910323)
def c3 (x : Int) : Int := bits .and .u64 (IntKind.u64.wrap (x / 16 + x)) 1085102592571150095
def c4 (x : Int) : Int := IntKind.u64.wrap (x + x / 256)
def c5 (x : Int) : Int := IntKind.u64.wrap (x + x / 65536)
def c6 (x : Int) : Int := IntKind.u64.wrap (x + x / 4294967296)
theorem pop64 : ∀ m : Fin 1024, bits .and .i64 (wrap64 (c6 (c5 (c4 (c3 (c2 (c1 (m.val : Int)))))))) 127 = (popB m.val 10 : Int) := by decide +kernel

set_option maxRecDepth 100000 in
theorem ones64_any (m : Nat) (hm : m ≤ 1023) (w : World) : Calls Try.prog 90 #[.int .u64 m] w fun e w' => e = .returned (.int .i64 (popB m 10)) ∧ w = w' := by
  have hp := pop64 ⟨m, by omega⟩
  simp only [c1, c2, c3, c4, c5, c6] at hp
  have H := Lib.hid hp
  clear hp
  go_enter Try.func90, Try.ntmps90
  go_wp2_with fail
  go_ret
  exact ⟨ret_int H.out, rfl⟩

theorem ones_any (m : Nat) (hm : m ≤ 1023) (w : World) : Calls Try.prog 77 #[.int .u64 m] w fun e w' => e = .returned (.int .i64 (popB m 10)) ∧ w = w' := by
  go_enter Try.func77, Try.ntmps77
  go_wp2_with (go_at_call 90; refine (ones64_any _ hm _).mono ?_; rintro e w' ⟨rfl, rfl⟩)
  go_ret
  exact ⟨rfl, rfl⟩

theorem size_any (s : Int) (w : World) : Calls Try.prog 70 #[.int .i64 s] w fun e w' => e = .returned (.int .i64 (sizS s)) ∧ w = w' := by
  by_cases hv : validB s = true
  · have hs : 0 ≤ s ∧ s ≤ 1023 := by simpa [validB] using hv
    obtain ⟨hs0, hs1⟩ := hs
    obtain ⟨m, rfl⟩ := Int.eq_ofNat_of_zero_le hs0
    have e1 : sizS (m : Int) = popB m 10 := by simp [sizS, hv]
    have H := Lib.hid hv
    have E := Lib.hid e1
    clear hv e1
    go_enter Try.func70, Try.ntmps70
    go_wp2_with (first | (go_at_call 46; refine (valid_any _ _).mono ?_; rintro e w' ⟨rfl, rfl⟩; rw [H.out]) | (go_at_call 77; refine (ones_any _ (by omega) _).mono ?_; rintro e w' ⟨rfl, rfl⟩))
    go_ret
    exact ⟨ret_int (by rw [E.out]), rfl⟩
  · have e1 : sizS s = 0 := by simp [sizS, hv]
    have E := Lib.hid e1
    have hv' : validB s = false := by simpa using hv
    have H := Lib.hid hv'
    clear hv e1 hv'
    go_enter Try.func70, Try.ntmps70
    go_wp2_with (go_at_call 46; refine (valid_any _ _).mono ?_; rintro e w' ⟨rfl, rfl⟩; rw [H.out])
    go_ret
    exact ⟨ret_int (by rw [E.out]; rfl), rfl⟩

theorem rank_any (s : Int) (w : World) : Calls Try.prog 75 #[.int .i64 s] w fun e w' => e = .returned (.int .i64 (rankI s)) ∧ w = w' := by
  by_cases hv : validB s = true
  · have e1 : rankI s = sizS s := by simp [rankI, hv]
    have H := Lib.hid hv
    have E := Lib.hid e1
    clear hv e1
    go_enter Try.func75, Try.ntmps75
    go_wp2_with (first | (go_at_call 46; refine (valid_any _ _).mono ?_; rintro e w' ⟨rfl, rfl⟩; rw [H.out]) | (go_at_call 70; refine (size_any _ _).mono ?_; rintro e w' ⟨rfl, rfl⟩))
    go_ret
    exact ⟨ret_int (by rw [E.out]), rfl⟩
  · have e1 : rankI s = -1 := by simp [rankI, hv]
    have E := Lib.hid e1
    have hv' : validB s = false := by simpa using hv
    have H := Lib.hid hv'
    clear hv e1 hv'
    go_enter Try.func75, Try.ntmps75
    go_wp2_with (go_at_call 46; refine (valid_any _ _).mono ?_; rintro e w' ⟨rfl, rfl⟩; rw [H.out])
    go_ret
    exact ⟨ret_int (by rw [E.out]), rfl⟩

theorem isNaN_any (a : Int) (w : World) : Calls Try.prog 88 #[.int .i64 a] w fun e w' => e = .returned (.bool false) ∧ w = w' := by
  go_enter Try.func88, Try.ntmps88
  go_wp2_with fail
  go_ret
  exact ⟨ret_bool (by simp), rfl⟩
theorem cmpCompare_any (a b : Int) (w : World) : Calls Try.prog 74 #[.int .i64 a, .int .i64 b] w fun e w' => e = .returned (.int .i64 (cmpI a b)) ∧ w = w' := by
  rcases Int.lt_trichotomy a b with h | h | h
  · have e1 : cmpI a b = -1 := by simp [cmpI, h]
    have E := Lib.hid e1
    clear e1
    go_enter Try.func74, Try.ntmps74
    go_wp2_with (go_at_call 88; refine (isNaN_any _ _).mono ?_; rintro e w' ⟨rfl, rfl⟩)
    all_goals (go_ret; exact ⟨ret_int (by rw [E.out]), rfl⟩)
  · subst h
    have e1 : cmpI a a = 0 := by simp [cmpI]
    have E := Lib.hid e1
    clear e1
    go_enter Try.func74, Try.ntmps74
    go_wp2_with (go_at_call 88; refine (isNaN_any _ _).mono ?_; rintro e w' ⟨rfl, rfl⟩)
    all_goals (go_ret; exact ⟨ret_int (by rw [E.out]), rfl⟩)
  · have e1 : cmpI a b = 1 := by simp [cmpI, h]; omega
    have h2 : ¬ a < b := by omega
    have E := Lib.hid e1
    clear e1
    go_enter Try.func74, Try.ntmps74
    go_wp2_with (go_at_call 88; refine (isNaN_any _ _).mono ?_; rintro e w' ⟨rfl, rfl⟩)
    all_goals (go_ret; exact ⟨ret_int (by rw [E.out]), rfl⟩)

end Go.Proofs.Ytidnnjgiogklaaa

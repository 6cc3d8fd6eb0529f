/- Bits of Go's int, plain. -/
import Derived.Test.YtpdhckbiioobhaaGreatDoorMem
namespace Go.Proofs.YtpdhckbiioobhaaGreatDoor
open Go.RowKit

theorem toNat_i64 (a : Nat) (ha : a < 9223372036854775808) : (BitVec.ofInt 64 (a : Int)).toNat = a := by
  rw [BitVec.ofInt_natCast, BitVec.toNat_ofNat]; exact Nat.mod_eq_of_lt (by omega)
theorem and_i64 (a b : Nat) (ha : a < 9223372036854775808) (hb : b < 9223372036854775808) : bits .and .i64 (a : Int) (b : Int) = ((a &&& b : Nat) : Int) := by
  have hx : a &&& b < 2 ^ 63 := Nat.and_lt_two_pow _ (by omega)
  show IntKind.i64.wrap ((BitVec.ofInt 64 (a : Int) &&& BitVec.ofInt 64 (b : Int)).toNat : Int) = _
  rw [BitVec.toNat_and, toNat_i64 a ha, toNat_i64 b hb, IntKind.wrap_i64]
  omega
theorem or_i64 (a b : Nat) (ha : a < 9223372036854775808) (hb : b < 9223372036854775808) : bits .or .i64 (a : Int) (b : Int) = ((a ||| b : Nat) : Int) := by
  have hx : a ||| b < 2 ^ 63 := Nat.or_lt_two_pow (by omega) (by omega)
  show IntKind.i64.wrap ((BitVec.ofInt 64 (a : Int) ||| BitVec.ofInt 64 (b : Int)).toNat : Int) = _
  rw [BitVec.toNat_or, toNat_i64 a ha, toNat_i64 b hb, IntKind.wrap_i64]
  omega
theorem pow2_lt (j : Nat) (hj : j < 62) : 2 ^ j < 4611686018427387904 := by
  have := Nat.pow_lt_pow_right (a := 2) (by omega) hj
  simpa using this
theorem wrap_pow (j : Nat) (hj : j < 62) : wrap64 ((2 : Int) ^ j) = ((2 ^ j : Nat) : Int) := by
  have h := pow2_lt j hj
  have e : (2 : Int) ^ j = ((2 ^ j : Nat) : Int) := by simp
  rw [e]
  generalize 2 ^ j = x at *
  exact IntWalk.wrap64_in _ ⟨by omega, by omega⟩
theorem wrapI (n : Int) : IntKind.i64.wrap n = wrap64 n := by unfold wrap64; exact IntKind.wrap_i64 n
theorem and_pow (m j : Nat) : m &&& 2 ^ j = if m.testBit j then 2 ^ j else 0 := by
  apply Nat.eq_of_testBit_eq
  intro i
  rw [Nat.testBit_and, Nat.testBit_two_pow]
  by_cases h : j = i
  · subst h
    cases hb : m.testBit j <;> simp
  · cases hb : m.testBit j <;> simp [h]
theorem and_pow_ne (m j : Nat) : ((((m &&& 2 ^ j : Nat) : Int)) != 0) = m.testBit j := by
  rw [and_pow]
  have : 0 < 2 ^ j := Nat.two_pow_pos j
  cases h : m.testBit j
  · simp
  · rw [bne_iff_ne.2]
    simp only [if_true]
    omega
/-- s & (1 << j) != 0 -/
theorem bit_test (m j : Nat) (hm : m < 9223372036854775808) (hj : j < 62) : (bits .and .i64 (m : Int) (wrap64 (2 ^ j)) != 0) = m.testBit j := by
  rw [wrap_pow j hj, and_i64 m (2 ^ j) hm (by have := pow2_lt j hj; omega)]
  exact and_pow_ne m j
/-- s >> j & 1 == 1 -/
theorem shr_test (m j : Nat) (hm : m < 9223372036854775808) : (bits .and .i64 ((m : Int) / 2 ^ j) 1 == 1) = m.testBit j := by
  have e : ((m : Int) / 2 ^ j) = ((m / 2 ^ j : Nat) : Int) := by simp
  have hd : m / 2 ^ j ≤ m := Nat.div_le_self _ _
  rw [e]
  have h1 := and_i64 (m / 2 ^ j) 1 (by omega) (by omega)
  have h2 : ((1 : Nat) : Int) = 1 := rfl
  rw [h2] at h1
  rw [h1, Nat.testBit_eq_decide_div_mod_eq, Nat.and_one_is_mod]
  generalize m / 2 ^ j % 2 = x
  rw [Bool.eq_iff_iff]
  simp
  omega
end Go.Proofs.YtpdhckbiioobhaaGreatDoor

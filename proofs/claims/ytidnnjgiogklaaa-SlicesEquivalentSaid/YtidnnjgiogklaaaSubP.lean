/- The subsets of a set, plain. -/
import Derived.Test.YtidnnjgiogklaaaLeastP
import Derived.Test.YtidnnjgiogklaaaBits
namespace Go.Proofs.Ytidnnjgiogklaaa
open Go.RowKit

theorem land_iff (x s : Nat) : (x &&& s = x) ↔ ∀ i, x.testBit i = true → s.testBit i = true := by
  constructor
  · intro h i hi
    have : (x &&& s).testBit i = true := by rw [h]; exact hi
    rw [Nat.testBit_and, Bool.and_eq_true] at this
    exact this.2
  · intro h
    apply Nat.eq_of_testBit_eq
    intro i
    rw [Nat.testBit_and]
    cases hx : x.testBit i with
    | false => rfl
    | true => rw [h i hx]; rfl
theorem land_add (k t s : Nat) (ht : t < 2 ^ k) : ((2 ^ k + t) &&& s = 2 ^ k + t) ↔ (s.testBit k = true ∧ t &&& s = t) := by
  rw [land_iff, land_iff]
  have hk : t.testBit k = false := Nat.testBit_lt_two_pow ht
  have hbit : ∀ i, (2 ^ k + t).testBit i = (decide (i = k) || t.testBit i) := by
    intro i
    rcases Nat.lt_trichotomy i k with h | h | h
    · rw [Nat.testBit_two_pow_add_gt h]
      simp; omega
    · subst h
      rw [Nat.testBit_two_pow_add_eq, hk]
      simp
    · have h1 : 2 ^ k + t < 2 ^ i := by
        have h2 : 2 ^ (k + 1) ≤ 2 ^ i := Nat.pow_le_pow_right (by omega) h
        have h3 : 2 ^ (k + 1) = 2 ^ k + 2 ^ k := by rw [Nat.pow_succ]; omega
        omega
      have h4 : t < 2 ^ i := by omega
      rw [Nat.testBit_lt_two_pow h1, Nat.testBit_lt_two_pow h4]
      simp; omega
  constructor
  · intro h
    refine ⟨h k (by rw [hbit]; simp), fun i hi => h i (by rw [hbit, hi]; simp)⟩
  · rintro ⟨h1, h2⟩ i hi
    rw [hbit, Bool.or_eq_true, decide_eq_true_eq] at hi
    rcases hi with rfl | hi
    · exact h1
    · exact h2 i hi
/-- As many subsets as 2 to the power of the size. -/
theorem cnt_sub (s : Nat) : ∀ k, ((List.range (2 ^ k)).filter (fun t => t &&& s == t)).length = 2 ^ popB s k
  | 0 => by simp [popB, List.range_succ]
  | k + 1 => by
    have ih := cnt_sub s k
    have e : 2 ^ (k + 1) = 2 ^ k + 2 ^ k := by rw [Nat.pow_succ]; omega
    rw [e, List.range_add, List.filter_append, List.length_append, ih, List.filter_map, List.length_map]
    have hc : (List.range (2 ^ k)).filter ((fun t => t &&& s == t) ∘ (2 ^ k + ·)) = (List.range (2 ^ k)).filter (fun t => s.testBit k && (t &&& s == t)) := by
      apply List.filter_congr
      intro t ht
      have := land_add k t s (List.mem_range.1 ht)
      rw [Bool.eq_iff_iff]
      simp only [Function.comp, beq_iff_eq, Bool.and_eq_true]
      exact this
    rw [hc]
    simp only [popB]
    cases hb : s.testBit k with
    | false => simp
    | true => simp only [Bool.true_and, if_true, ih, Nat.pow_succ]; omega

/-- t &^ s == 0: t is a subset of s. -/
theorem subI_nat (t s : Nat) (ht : t < 9223372036854775808) : subI (t : Int) (s : Int) = (t &&& s == t) := by
  have key : (BitVec.ofInt 64 (t : Int) &&& ~~~BitVec.ofInt 64 (s : Int) = 0#64) ↔ t &&& s = t := by
    rw [land_iff, BitVec.ofInt_natCast, BitVec.ofInt_natCast]
    constructor
    · intro h i hi
      have hlt : i < 64 := by
        rcases Nat.lt_or_ge i 64 with h2 | h2
        · exact h2
        · have h3 : 2 ^ 64 ≤ 2 ^ i := Nat.pow_le_pow_right (by omega) h2
          rw [Nat.testBit_lt_two_pow (show t < 2 ^ i by omega)] at hi
          cases hi
      have := congrArg (fun v => BitVec.getLsbD v i) h
      simp only [BitVec.getLsbD_and, BitVec.getLsbD_not, BitVec.getLsbD_ofNat, hlt, decide_true, Bool.true_and, hi] at this
      cases hs : s.testBit i with
      | true => rfl
      | false => rw [hs] at this; simp at this
    · intro h
      apply BitVec.eq_of_getLsbD_eq
      intro i hlt
      simp only [BitVec.getLsbD_and, BitVec.getLsbD_not, BitVec.getLsbD_ofNat, hlt, decide_true, Bool.true_and, BitVec.getLsbD_zero]
      cases hi : t.testBit i with
      | false => simp
      | true => simp [h i hi]
  have hx : ((BitVec.ofInt 64 (t : Int) &&& ~~~BitVec.ofInt 64 (s : Int)).toNat) < 9223372036854775808 := by
    rw [BitVec.toNat_and, toNat_i64 t ht, Nat.and_comm]
    exact Nat.and_lt_two_pow (n := 63) _ (by omega)
  unfold subI
  show (IntKind.i64.wrap ((BitVec.ofInt 64 (t : Int) &&& ~~~BitVec.ofInt 64 (s : Int)).toNat : Int) == 0) = _
  rw [IntKind.wrap_i64, Bool.eq_iff_iff, beq_iff_eq, beq_iff_eq, ← key]
  generalize BitVec.ofInt 64 (t : Int) &&& ~~~BitVec.ofInt 64 (s : Int) = v at *
  constructor
  · intro h
    apply BitVec.eq_of_toNat_eq
    have : v.toNat = 0 := by omega
    rw [this]; rfl
  · intro h
    rw [h, show (0#64 : BitVec 64).toNat = 0 from rfl]
    omega
end Go.Proofs.Ytidnnjgiogklaaa

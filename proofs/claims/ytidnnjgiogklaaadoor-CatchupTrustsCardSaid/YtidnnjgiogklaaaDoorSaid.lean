/- What is said by whom: links and the sets of their places, plain; and as a map's datum. -/
import Derived.Test.YtidnnjgiogklaaaDoorBits
import Derived.Maps.Own
import Derived.Maps.OwnOps
import Derived.Maps.Views
import Derived.Maps.RangeWalk
namespace Go.Proofs.YtidnnjgiogklaaaDoor
open Go.RowKit Go.Maps

/-- The places below k at which y stands, as a set. -/
def maskTo (l : List Nat) : Nat → Nat → Nat
  | 0, _ => 0
  | k + 1, y => if l.getD k 0 = y then maskTo l k y ||| 2 ^ k else maskTo l k y

theorem maskTo_lt (l : List Nat) (y : Nat) : ∀ k, maskTo l k y < 2 ^ k
  | 0 => by simp [maskTo]
  | k + 1 => by
    have ih := maskTo_lt l y k
    have h2 : 2 ^ (k + 1) = 2 ^ k + 2 ^ k := by rw [Nat.pow_succ]; omega
    simp only [maskTo]
    split
    · exact Nat.or_lt_two_pow (by omega) (by omega)
    · omega

theorem maskTo_zero (l : List Nat) (y : Nat) : ∀ k, (∀ i, i < k → l.getD i 0 ≠ y) → maskTo l k y = 0
  | 0, _ => rfl
  | k + 1, h => by simp only [maskTo]; rw [if_neg (h k (by omega))]; exact maskTo_zero l y k (fun i hi => h i (by omega))

/-- The map after k places. -/
def saidTo (l : List Nat) : Nat → DataW Unit
  | 0 => .map []
  | k + 1 => if l.getD k 0 = 0 then saidTo l k else (saidTo l k).put (.int .u64 (l.getD k 0)) (.lit (.int .i64 (maskTo l (k + 1) (l.getD k 0))))

theorem said_isMap (l : List Nat) : ∀ k, IsMap (saidTo l k)
  | 0 => isMap_empty
  | k + 1 => by simp only [saidTo]; split; exact said_isMap l k; exact (said_isMap l k).put _ _

theorem u64_ne {x y : Nat} (h : x ≠ y) : (Lit.int .u64 (x : Int)) ≠ .int .u64 (y : Int) := by
  intro e
  injection e with _ e
  omega

theorem said_at (l : List Nat) (y : Nat) (hy : y ≠ 0) : ∀ k, (saidTo l k).atKey (.int .u64 y) (.lit (.int .i64 0)) = .lit (.int .i64 (maskTo l k y))
  | 0 => by simp [saidTo, maskTo, DataW.atKey]
  | k + 1 => by
    have ih := said_at l y hy k
    simp only [saidTo]
    by_cases h0 : l.getD k 0 = 0
    · rw [if_pos h0, ih]
      simp only [maskTo]
      rw [if_neg (by omega)]
    · rw [if_neg h0]
      by_cases he : l.getD k 0 = y
      · rw [he]
        exact atKey_put_same (said_isMap l k) (show WideAt.IsKeyLit (.int .u64 (y : Int)) from trivial) _ _
      · rw [atKey_put_other (fun e => u64_ne he e.symm), ih]
        simp only [maskTo]
        rw [if_neg he]

theorem said_has (l : List Nat) (y : Nat) : ∀ k, has (saidTo l k) (.int .u64 y) = true ↔ y ≠ 0 ∧ ∃ i, i < k ∧ l.getD i 0 = y
  | 0 => by simp [saidTo, has_eq]
  | k + 1 => by
    have ih := said_has l y k
    simp only [saidTo]
    by_cases h0 : l.getD k 0 = 0
    · rw [if_pos h0, ih]
      constructor
      · rintro ⟨a, i, b, c⟩; exact ⟨a, i, by omega, c⟩
      · rintro ⟨a, i, b, c⟩
        refine ⟨a, i, ?_, c⟩
        rcases Nat.lt_or_ge i k with h | h
        · exact h
        · obtain rfl : i = k := by omega
          omega
    · rw [if_neg h0]
      by_cases he : l.getD k 0 = y
      · rw [he, has_put_same (said_isMap l k) (show WideAt.IsKeyLit (.int .u64 (y : Int)) from trivial)]
        simp only [true_iff]
        exact ⟨by omega, k, by omega, he⟩
      · rw [has_put_other (fun e => u64_ne he e.symm), ih]
        constructor
        · rintro ⟨a, i, b, c⟩; exact ⟨a, i, by omega, c⟩
        · rintro ⟨a, i, b, c⟩
          refine ⟨a, i, ?_, c⟩
          rcases Nat.lt_or_ge i k with h | h
          · exact h
          · obtain rfl : i = k := by omega
            exact absurd c he
end Go.Proofs.YtidnnjgiogklaaaDoor

/- Walks: slices.IndexFunc, ContainsFunc at []int with a plain function. -/
import Derived.Test.YtonhhnedfjonoaaGreatDoorProg
import Derived.Test.YtonhhnedfjonoaaGreatDoorJL1
set_option linter.unusedSimpArgs false
set_option linter.unusedVariables false
namespace Go.Proofs.YtonhhnedfjonoaaGreatDoor
open Go.RowKit

/-- The first place where p holds, or -1. -/
def idxF (p : Int → Bool) : List Int → Int
  | [] => -1
  | x :: r => if p x then 0 else (if idxF p r < 0 then -1 else idxF p r + 1)
theorem idxF_any (p : Int → Bool) : ∀ l, decide (0 ≤ idxF p l) = l.any p
  | [] => by simp [idxF]
  | x :: r => by
    have ih := idxF_any p r
    rw [Bool.eq_iff_iff, decide_eq_true_eq] at ih ⊢
    simp only [idxF, List.any_cons, Bool.or_eq_true, ← ih]
    by_cases hp : p x = true
    · simp [hp]
    · by_cases h : idxF p r < 0
      · simp [h, hp]
      · have h2 : 0 ≤ idxF p r := by omega
        simp [h, hp, h2]
        omega
theorem idxF_hit (p : Int → Bool) : ∀ (l : List Int) (k : Nat) (hk : k < l.length), (∀ i (hi : i < k), p (l[i]'(by omega)) = false) → p l[k] = true → idxF p l = k
  | [], k, hk, _, _ => absurd hk (by simp)
  | x :: r, 0, hk, _, h => by simp only [List.getElem_cons_zero] at h; simp [idxF, h]
  | x :: r, k + 1, hk, h0, h => by
    have hx := h0 0 (by omega)
    simp only [List.getElem_cons_zero] at hx
    have ih := idxF_hit p r k (by simpa using hk) (fun i hi => by
      have := h0 (i + 1) (by omega)
      simpa using this) (by simpa using h)
    simp only [idxF, hx, ih]
    simp
    omega
theorem idxF_miss (p : Int → Bool) : ∀ (l : List Int), (∀ i (hi : i < l.length), p l[i] = false) → idxF p l = -1
  | [], _ => rfl
  | x :: r, h => by
    have hx := h 0 (by simp)
    simp only [List.getElem_cons_zero] at hx
    have ih := idxF_miss p r (fun i hi => by
      have := h (i + 1) (by simpa using hi)
      simpa using this)
    simp [idxF, hx, ih]

end Go.Proofs.YtonhhnedfjonoaaGreatDoor

/- Plain: the tokens of the reference's reader are those of the program's. -/
import Derived.Test.YtoblhcieidljjaaGreatDoorJG9
set_option linter.unusedSimpArgs false
set_option linter.unusedVariables false
namespace Go.Proofs.YtoblhcieidljjaaGreatDoor

theorem tok_isof (u : List UInt8) : tok u = [111, 102] ↔ u.take 2 = [111, 102] := by
  constructor
  · intro h
    by_cases h1 : u.take 2 = [111, 102]
    · exact h1
    · exfalso
      cases u with
      | nil => simp [tok, tokN] at h
      | cons c r =>
        by_cases h2 : c = 40 ∨ c = 41 ∨ c = 44
        · have e : tok (c :: r) = [c] := by unfold tok tokN; rw [if_neg h1]; simp only; rw [if_pos h2]; simp
          rw [e] at h
          simp at h
        · have e : tok (c :: r) = (c :: r).takeWhile isDg := by
            unfold tok tokN
            rw [if_neg h1]
            simp only
            rw [if_neg h2]
            exact (List.prefix_iff_eq_take.1 (List.takeWhile_prefix isDg)).symm
          rw [e] at h
          have := List.all_eq_true.1 (List.all_takeWhile (l := c :: r) (p := isDg)) 111 (by rw [h]; simp)
          exact absurd this (by decide)
  · intro h
    unfold tok tokN
    rw [if_pos h, h]
theorem tok_isc {c : UInt8} (hc : c = 40 ∨ c = 41 ∨ c = 44) (u : List UInt8) : tok u = [c] ↔ u.take 1 = [c] := by
  have hd : isDg c = false := by rcases hc with rfl | rfl | rfl <;> decide
  have hne : c ≠ 111 := by rcases hc with rfl | rfl | rfl <;> decide
  cases u with
  | nil => simp [tok, tokN]
  | cons x r =>
    by_cases h1 : (x :: r).take 2 = [111, 102]
    · have e : tok (x :: r) = [111, 102] := (tok_isof _).2 h1
      rw [e]
      have hx : x = 111 := by
        have := congrArg List.head? h1
        simpa using this
      simp [hx, Ne.symm hne]
    · by_cases h2 : x = 40 ∨ x = 41 ∨ x = 44
      · have e : tok (x :: r) = [x] := by unfold tok tokN; rw [if_neg h1]; simp only; rw [if_pos h2]; simp
        rw [e]
        simp
      · have e : tok (x :: r) = (x :: r).takeWhile isDg := by
          unfold tok tokN
          rw [if_neg h1]
          simp only
          rw [if_neg h2]
          exact (List.prefix_iff_eq_take.1 (List.takeWhile_prefix isDg)).symm
        rw [e]
        have hx : x ≠ c := fun hh => h2 (hh ▸ hc)
        constructor
        · intro h
          have := List.all_eq_true.1 (List.all_takeWhile (l := x :: r) (p := isDg)) c (by rw [h]; simp)
          rw [hd] at this
          cases this
        · intro h
          simp at h
          exact absurd h hx
/-- The digits ahead. -/
def dgs (u : List UInt8) : List UInt8 := u.takeWhile isDg
def okD (d : List UInt8) : Bool := match d with
  | [] => false
  | c :: r => decide (r.length ≤ 3) && !(decide (1 ≤ r.length) && c == 48)
theorem numP_dgs (u : List UInt8) : numP u = (if okD (dgs u) then some (numV 0 (dgs u)) else none) ∧ (okD (dgs u) = true → nxt u = skp (u.drop (dgs u).length)) := by
  by_cases h1 : u.take 2 = [111, 102]
  · have e := (tok_isof u).2 h1
    have hd : dgs u = [] := by
      cases u with
      | nil => rfl
      | cons x r =>
        have hx : x = 111 := by
          have := congrArg List.head? h1
          simpa using this
        subst hx
        rfl
    rw [hd]
    refine ⟨?_, fun h => by simp [okD] at h⟩
    unfold numP
    rw [e]
    rfl
  · cases u with
    | nil => exact ⟨rfl, fun h => by simp [okD, dgs] at h⟩
    | cons x r =>
      by_cases h2 : x = 40 ∨ x = 41 ∨ x = 44
      · have hx : isDg x = false := by rcases h2 with rfl | rfl | rfl <;> decide
        have e : tok (x :: r) = [x] := by unfold tok tokN; rw [if_neg h1]; simp only; rw [if_pos h2]; simp
        have hd : dgs (x :: r) = [] := by simp [dgs, hx]
        rw [hd]
        refine ⟨?_, fun h => by simp [okD] at h⟩
        unfold numP
        rw [e]
        simp [numB, hx, okD]
      · have e0 : tokN (x :: r) = (dgs (x :: r)).length := by
          unfold tokN
          rw [if_neg h1]
          simp only
          rw [if_neg h2]
          rfl
        have e : tok (x :: r) = dgs (x :: r) := by
          unfold tok
          rw [e0]
          exact (List.prefix_iff_eq_take.1 (List.takeWhile_prefix isDg)).symm
        have hall := List.all_takeWhile (l := x :: r) (p := isDg)
        have hb : numB (dgs (x :: r)) = okD (dgs (x :: r)) := by
          unfold dgs
          generalize (x :: r).takeWhile isDg = d at *
          cases d with
          | nil => rfl
          | cons c s =>
            have hc : isDg c = true := List.all_eq_true.1 hall c (by simp)
            simp [numB, okD, hc]
        refine ⟨?_, fun _ => ?_⟩
        · unfold numP
          rw [e, hb]
        · unfold nxt
          rw [e0]
end Go.Proofs.YtoblhcieidljjaaGreatDoor

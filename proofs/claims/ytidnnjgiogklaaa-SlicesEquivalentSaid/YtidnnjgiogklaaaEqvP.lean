/- What Equivalent and Implies find: plain. -/
import Derived.Test.YtidnnjgiogklaaaEqvW
namespace Go.Proofs.Ytidnnjgiogklaaa
open Go.RowKit

theorem ordN_lt {s : Nat} (h : s ∈ ordN) : s < 1024 := ord_lt 1023 0 (by omega) go10 s h
theorem fnd_none (p : Nat → Bool) : ordN.find? p = none ↔ ∀ s : Nat, s < 1024 → p s = false := by
  rw [List.find?_eq_none]
  constructor
  · intro h s hs
    simpa using h s (ordN_all s hs)
  · intro h s hs
    simpa using h s (ordN_lt hs)
theorem fnd_some {p : Nat → Bool} {s : Nat} (h : ordN.find? p = some s) : p s = true ∧ s < 1024 := ⟨List.find?_some h, ordN_lt (List.mem_of_find?_eq_some h)⟩
theorem eq_slc (t u : Tr) : (∀ s : Nat, s < 1024 → sat (s : Int) t = sat (s : Int) u) ↔ slcS ordI t = slcS ordI u := by
  constructor
  · intro h
    unfold slcS
    congr 1
    refine List.filter_congr fun x hx => ?_
    unfold ordI at hx
    rw [List.mem_map] at hx
    obtain ⟨n, hn, rfl⟩ := hx
    exact h n (ordN_lt hn)
  · intro h s hs
    rw [Bool.eq_iff_iff]
    have h1 := slc_has ordI_all (t := t) (a := s) (by omega)
    have h2 := slc_has ordI_all (t := u) (a := s) (by omega)
    rw [h] at h1
    exact h1.trans h2.symm
/-- A trust and its normal form. -/
theorem norm_same {t : Tr} (h : validE t = 0) : ansV (fun s : Nat => sat (s : Int) t != sat (s : Int) (normT t)) = .tuple #[.bool true, .int .i64 0, .int .i64 0] := by
  have hf : ordN.find? (fun s : Nat => sat (s : Int) t != sat (s : Int) (normT t)) = none := by
    rw [fnd_none]
    intro s hs
    simp [(norm_ok h).2.1 s (nat_validB (by omega))]
  unfold ansV
  rw [hf]
/-- The answers on two trusts. -/
theorem eqv_ans (t u : Tr) : ∃ (same there back : Bool) (k a b : Nat), k ≤ 1023 ∧ a ≤ 1023 ∧ b ≤ 1023 ∧
    ansV (fun s : Nat => sat (s : Int) t != sat (s : Int) u) = .tuple #[.bool same, .int .i64 (k : Int), .int .i64 0] ∧
    ansV (fun s : Nat => sat (s : Int) t && !sat (s : Int) u) = .tuple #[.bool there, .int .i64 (a : Int), .int .i64 0] ∧
    ansV (fun s : Nat => sat (s : Int) u && !sat (s : Int) t) = .tuple #[.bool back, .int .i64 (b : Int), .int .i64 0] ∧
    same = (there && back) ∧ same = decide (slcS ordI t = slcS ordI u) ∧ (there = false → sat (a : Int) t = true ∧ sat (a : Int) u = false) ∧ (back = false → sat (b : Int) u = true ∧ sat (b : Int) t = false) ∧
    same = (sat (k : Int) t == sat (k : Int) u) := by
  have e1 : ∃ (x : Bool) (k : Nat), k ≤ 1023 ∧ ansV (fun s : Nat => sat (s : Int) t != sat (s : Int) u) = .tuple #[.bool x, .int .i64 (k : Int), .int .i64 0] ∧ (x = true ↔ ∀ s : Nat, s < 1024 → sat (s : Int) t = sat (s : Int) u) ∧ x = (sat (k : Int) t == sat (k : Int) u) := by
    unfold ansV
    cases hf : ordN.find? (fun s : Nat => sat (s : Int) t != sat (s : Int) u) with
    | none =>
      have h := (fnd_none _).1 hf
      have h' : ∀ s : Nat, s < 1024 → sat (s : Int) t = sat (s : Int) u := fun s hs => by simpa using h s hs
      exact ⟨true, 0, by omega, rfl, by simpa using h', by rw [h' 0 (by omega)]; simp⟩
    | some s =>
      obtain ⟨h, hs⟩ := fnd_some hf
      have h' : sat (s : Int) t ≠ sat (s : Int) u := by simpa using h
      exact ⟨false, s, by omega, rfl, by simp; exact ⟨s, hs, h'⟩, by rw [eq_comm, beq_eq_false_iff_ne]; exact h'⟩
  have e2 : ∀ t u : Tr, ∃ (x : Bool) (k : Nat), k ≤ 1023 ∧ ansV (fun s : Nat => sat (s : Int) t && !sat (s : Int) u) = .tuple #[.bool x, .int .i64 (k : Int), .int .i64 0] ∧ (x = true ↔ ∀ s : Nat, s < 1024 → sat (s : Int) t = true → sat (s : Int) u = true) ∧ (x = false → sat (k : Int) t = true ∧ sat (k : Int) u = false) := fun t u => by
    unfold ansV
    cases hf : ordN.find? (fun s : Nat => sat (s : Int) t && !sat (s : Int) u) with
    | none =>
      have h := (fnd_none _).1 hf
      exact ⟨true, 0, by omega, rfl, by simpa using h, by simp⟩
    | some s =>
      obtain ⟨h, hs⟩ := fnd_some hf
      simp only [Bool.and_eq_true, Bool.not_eq_true'] at h
      exact ⟨false, s, by omega, rfl, by simp; exact ⟨s, hs, h⟩, fun _ => h⟩
  obtain ⟨same, k, hk, q1, q2, q3⟩ := e1
  obtain ⟨there, a, ha, r1, r2, r3⟩ := e2 t u
  obtain ⟨back, b, hb, s1, s2, s3⟩ := e2 u t
  refine ⟨same, there, back, k, a, b, hk, ha, hb, q1, r1, s1, ?_, ?_, r3, s3, q3⟩
  · rw [Bool.eq_iff_iff, Bool.and_eq_true, q2, r2, s2]
    constructor
    · intro h
      exact ⟨fun s hs e => by rw [← h s hs]; exact e, fun s hs e => by rw [h s hs]; exact e⟩
    · rintro ⟨h1, h2⟩ s hs
      rw [Bool.eq_iff_iff]
      exact ⟨h1 s hs, h2 s hs⟩
  · rw [Bool.eq_iff_iff, q2, decide_eq_true_eq]
    exact eq_slc t u
end Go.Proofs.Ytidnnjgiogklaaa

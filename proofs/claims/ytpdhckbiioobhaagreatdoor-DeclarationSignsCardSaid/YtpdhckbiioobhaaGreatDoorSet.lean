/- Walks: nodeset.below, Valid, Has; the reference's Valid, Has. -/
import Derived.Test.YtpdhckbiioobhaaGreatDoorProg
import Derived.Test.YtpdhckbiioobhaaGreatDoorTr
import Derived.Test.YtpdhckbiioobhaaGreatDoorBits
namespace Go.Proofs.YtpdhckbiioobhaaGreatDoor
open Go.RowKit

theorem below10_any (s : Int) (w : World) : Calls Tryz.prog 204 #[.int .i64 s, .int .i64 10] w fun e w' => e = .returned (.bool (validB s)) ∧ w = w' := by
  go_enter Tryz.func204, Tryz.ntmps204
  go_wp2
  all_goals
    go_ret
    exact ⟨ret_bool (by simp only [validB]; by_cases h1 : 0 ≤ s <;> by_cases h2 : s ≤ 1023 <;> simp [h1, h2] <;> omega), rfl⟩

theorem valid_any (s : Int) (w : World) : Calls Tryz.prog 161 #[.int .i64 s] w fun e w' => e = .returned (.bool (validB s)) ∧ w = w' := by
  go_enter Tryz.func161, Tryz.ntmps161
  go_wp2_with (go_at_call 204; refine (below10_any _ _).mono ?_; rintro e w' ⟨rfl, rfl⟩)
  go_ret
  exact ⟨rfl, rfl⟩

theorem rvalid_any (s : Int) (w : World) : Calls Tryz.prog 84 #[.int .i64 s] w fun e w' => e = .returned (.bool (validB s)) ∧ w = w' := by
  go_enter Tryz.func84, Tryz.ntmps84
  go_wp2
  all_goals
    go_ret
    exact ⟨ret_bool (by simp only [validB]; by_cases h1 : 0 ≤ s <;> by_cases h2 : s ≤ 1023 <;> simp [h1, h2] <;> omega), rfl⟩

theorem has_any (s k : Int) (w : World) : Calls Tryz.prog 106 #[.int .i64 s, .int .i64 k] w fun e w' => e = .returned (.bool (hasB s k)) ∧ w = w' := by
  by_cases hv : validB s = true
  · by_cases hk : 0 ≤ k ∧ k < 10
    · have hs : 0 ≤ s ∧ s ≤ 1023 := by simpa [validB] using hv
      obtain ⟨hk0, hk1⟩ := hk
      obtain ⟨hs0, hs1⟩ := hs
      obtain ⟨m, rfl⟩ := Int.eq_ofNat_of_zero_le hs0
      obtain ⟨j, rfl⟩ := Int.eq_ofNat_of_zero_le hk0
      have H := Lib.hid hv
      clear hv
      go_enter Tryz.func106, Tryz.ntmps106
      go_wp2_with (go_at_call 161; refine (valid_any _ _).mono ?_; rintro e w' ⟨rfl, rfl⟩; rw [H.out])
      go_ret
      refine ⟨ret_bool ((bit_test m j (by omega) (by omega)).trans ?_), rfl⟩
      simp [hasB, H.out, hk0, hk1]
    · have hb : hasB s k = false := by simp only [hasB, hv, decide_eq_false hk]; rfl
      have H := Lib.hid hb
      clear hb
      go_enter Tryz.func106, Tryz.ntmps106
      go_wp2_with (go_at_call 161; refine (valid_any _ _).mono ?_; rintro e w' ⟨rfl, rfl⟩)
      all_goals (go_ret; exact ⟨ret_bool H.out.symm, rfl⟩)
  · have hb : hasB s k = false := by simp [hasB, hv]
    have H := Lib.hid hb
    clear hb
    go_enter Tryz.func106, Tryz.ntmps106
    go_wp2_with (go_at_call 161; refine (valid_any _ _).mono ?_; rintro e w' ⟨rfl, rfl⟩)
    all_goals (go_ret; exact ⟨ret_bool H.out.symm, rfl⟩)

theorem rhas_any (s k : Int) (w : World) : Calls Tryz.prog 85 #[.int .i64 s, .int .i64 k] w fun e w' => e = .returned (.bool (hasB s k)) ∧ w = w' := by
  by_cases hv : validB s = true
  · by_cases hk : 0 ≤ k ∧ k < 10
    · have hs : 0 ≤ s ∧ s ≤ 1023 := by simpa [validB] using hv
      obtain ⟨hk0, hk1⟩ := hk
      obtain ⟨hs0, hs1⟩ := hs
      obtain ⟨m, rfl⟩ := Int.eq_ofNat_of_zero_le hs0
      obtain ⟨j, rfl⟩ := Int.eq_ofNat_of_zero_le hk0
      have H := Lib.hid hv
      clear hv
      go_enter Tryz.func85, Tryz.ntmps85
      go_wp2_with (go_at_call 84; refine (rvalid_any _ _).mono ?_; rintro e w' ⟨rfl, rfl⟩; rw [H.out])
      go_ret
      refine ⟨ret_bool ((shr_test m j (by omega)).trans ?_), rfl⟩
      simp [hasB, H.out, hk0, hk1]
    · have hb : hasB s k = false := by simp only [hasB, hv, decide_eq_false hk]; rfl
      have H := Lib.hid hb
      clear hb
      go_enter Tryz.func85, Tryz.ntmps85
      go_wp2_with (go_at_call 84; refine (rvalid_any _ _).mono ?_; rintro e w' ⟨rfl, rfl⟩)
      all_goals (go_ret; exact ⟨ret_bool H.out.symm, rfl⟩)
  · have hb : hasB s k = false := by simp [hasB, hv]
    have H := Lib.hid hb
    clear hb
    go_enter Tryz.func85, Tryz.ntmps85
    go_wp2_with (go_at_call 84; refine (rvalid_any _ _).mono ?_; rintro e w' ⟨rfl, rfl⟩)
    all_goals (go_ret; exact ⟨ret_bool H.out.symm, rfl⟩)

end Go.Proofs.YtpdhckbiioobhaaGreatDoor

/- Walks: nodeset.below, Valid, Has; the reference's Valid, Has. -/
import Derived.Test.YtidnnjgiogklaaaDoorProg
import Derived.Test.YtidnnjgiogklaaaDoorTr
import Derived.Test.YtidnnjgiogklaaaDoorBits
namespace Go.Proofs.YtidnnjgiogklaaaDoor
open Go.RowKit

theorem below10_any (s : Int) (w : World) : Calls Tryd.prog 73 #[.int .i64 s, .int .i64 10] w fun e w' => e = .returned (.bool (validB s)) ∧ w = w' := by
  go_enter Tryd.func73, Tryd.ntmps73
  go_wp2
  all_goals
    go_ret
    exact ⟨ret_bool (by simp only [validB]; by_cases h1 : 0 ≤ s <;> by_cases h2 : s ≤ 1023 <;> simp [h1, h2] <;> omega), rfl⟩

theorem valid_any (s : Int) (w : World) : Calls Tryd.prog 80 #[.int .i64 s] w fun e w' => e = .returned (.bool (validB s)) ∧ w = w' := by
  go_enter Tryd.func80, Tryd.ntmps80
  go_wp2_with (go_at_call 73; refine (below10_any _ _).mono ?_; rintro e w' ⟨rfl, rfl⟩)
  go_ret
  exact ⟨rfl, rfl⟩

theorem rvalid_any (s : Int) (w : World) : Calls Tryd.prog 47 #[.int .i64 s] w fun e w' => e = .returned (.bool (validB s)) ∧ w = w' := by
  go_enter Tryd.func47, Tryd.ntmps47
  go_wp2
  all_goals
    go_ret
    exact ⟨ret_bool (by simp only [validB]; by_cases h1 : 0 ≤ s <;> by_cases h2 : s ≤ 1023 <;> simp [h1, h2] <;> omega), rfl⟩

theorem has_any (s k : Int) (w : World) : Calls Tryd.prog 81 #[.int .i64 s, .int .i64 k] w fun e w' => e = .returned (.bool (hasB s k)) ∧ w = w' := by
  by_cases hv : validB s = true
  · by_cases hk : 0 ≤ k ∧ k < 10
    · have hs : 0 ≤ s ∧ s ≤ 1023 := by simpa [validB] using hv
      obtain ⟨hk0, hk1⟩ := hk
      obtain ⟨hs0, hs1⟩ := hs
      obtain ⟨m, rfl⟩ := Int.eq_ofNat_of_zero_le hs0
      obtain ⟨j, rfl⟩ := Int.eq_ofNat_of_zero_le hk0
      have H := Lib.hid hv
      clear hv
      go_enter Tryd.func81, Tryd.ntmps81
      go_wp2_with (go_at_call 80; refine (valid_any _ _).mono ?_; rintro e w' ⟨rfl, rfl⟩; rw [H.out])
      go_ret
      refine ⟨ret_bool ((bit_test m j (by omega) (by omega)).trans ?_), rfl⟩
      simp [hasB, H.out, hk0, hk1]
    · have hb : hasB s k = false := by simp only [hasB, hv, decide_eq_false hk]; rfl
      have H := Lib.hid hb
      clear hb
      go_enter Tryd.func81, Tryd.ntmps81
      go_wp2_with (go_at_call 80; refine (valid_any _ _).mono ?_; rintro e w' ⟨rfl, rfl⟩)
      all_goals (go_ret; exact ⟨ret_bool H.out.symm, rfl⟩)
  · have hb : hasB s k = false := by simp [hasB, hv]
    have H := Lib.hid hb
    clear hb
    go_enter Tryd.func81, Tryd.ntmps81
    go_wp2_with (go_at_call 80; refine (valid_any _ _).mono ?_; rintro e w' ⟨rfl, rfl⟩)
    all_goals (go_ret; exact ⟨ret_bool H.out.symm, rfl⟩)

theorem rhas_any (s k : Int) (w : World) : Calls Tryd.prog 48 #[.int .i64 s, .int .i64 k] w fun e w' => e = .returned (.bool (hasB s k)) ∧ w = w' := by
  by_cases hv : validB s = true
  · by_cases hk : 0 ≤ k ∧ k < 10
    · have hs : 0 ≤ s ∧ s ≤ 1023 := by simpa [validB] using hv
      obtain ⟨hk0, hk1⟩ := hk
      obtain ⟨hs0, hs1⟩ := hs
      obtain ⟨m, rfl⟩ := Int.eq_ofNat_of_zero_le hs0
      obtain ⟨j, rfl⟩ := Int.eq_ofNat_of_zero_le hk0
      have H := Lib.hid hv
      clear hv
      go_enter Tryd.func48, Tryd.ntmps48
      go_wp2_with (go_at_call 47; refine (rvalid_any _ _).mono ?_; rintro e w' ⟨rfl, rfl⟩; rw [H.out])
      go_ret
      refine ⟨ret_bool ((shr_test m j (by omega)).trans ?_), rfl⟩
      simp [hasB, H.out, hk0, hk1]
    · have hb : hasB s k = false := by simp only [hasB, hv, decide_eq_false hk]; rfl
      have H := Lib.hid hb
      clear hb
      go_enter Tryd.func48, Tryd.ntmps48
      go_wp2_with (go_at_call 47; refine (rvalid_any _ _).mono ?_; rintro e w' ⟨rfl, rfl⟩)
      all_goals (go_ret; exact ⟨ret_bool H.out.symm, rfl⟩)
  · have hb : hasB s k = false := by simp [hasB, hv]
    have H := Lib.hid hb
    clear hb
    go_enter Tryd.func48, Tryd.ntmps48
    go_wp2_with (go_at_call 47; refine (rvalid_any _ _).mono ?_; rintro e w' ⟨rfl, rfl⟩)
    all_goals (go_ret; exact ⟨ret_bool H.out.symm, rfl⟩)

end Go.Proofs.YtidnnjgiogklaaaDoor

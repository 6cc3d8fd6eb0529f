/- Some texts of this claim, joined: contracts of the functions that it reaches, and plain laws. -/
import Derived.Test.YtonhhnedfjonoaaGreatDoorProg
import Derived.Test.YtonhhnedfjonoaaGreatDoorJM5
import Derived.Test.YtonhhnedfjonoaaGreatDoorJM2

set_option linter.unusedSimpArgs false
set_option linter.unusedVariables false
/- Walks: the program's small tests of numbers: among, positive, Valid, part, Price. -/
namespace Go.Proofs.YtonhhnedfjonoaaGreatDoor
open Go.RowKit

theorem ret_b {a b : Bool} (h : a = b) : (Ending.returned (.bool a)) = Ending.returned (.bool b) := by rw [h]
set_option maxRecDepth 100000 in
theorem among_any (n lo hi : Int) (w : World) : Calls Tryz.prog 68 #[.int .i64 n, .int .i64 lo, .int .i64 hi] w fun e w' => e = .returned (.bool (inR n lo hi)) ∧ w' = w := by
  by_cases h1 : lo ≤ n
  · by_cases h2 : n ≤ hi
    · have HX : Hid (inR n lo hi = true) := inR_iff.2 ⟨h1, h2⟩
      go_enter Tryz.func68, Tryz.ntmps68
      go_wp2_with fail
      go_ret
      exact ⟨ret_b HX.out.symm, rfl⟩
    · have HX : Hid (inR n lo hi = false) := by unfold Hid inR; rw [decide_eq_false h2]; simp
      go_enter Tryz.func68, Tryz.ntmps68
      go_wp2_with fail
      go_ret
      exact ⟨ret_b HX.out.symm, rfl⟩
  · have HX : Hid (inR n lo hi = false) := by unfold Hid inR; rw [decide_eq_false h1]; rfl
    go_enter Tryz.func68, Tryz.ntmps68
    go_wp2_with fail
    go_ret
    exact ⟨ret_b HX.out.symm, rfl⟩
set_option maxRecDepth 100000 in
theorem pval_any (n : Int) (w : World) : Calls Tryz.prog 116 #[.int .i64 n] w fun e w' => e = .returned (.bool (vAmt n)) ∧ w' = w := by
  by_cases h1 : 0 ≤ n
  · by_cases h2 : n ≤ 1000000000000
    · have HX : Hid (vAmt n = true) := vAmt_iff.2 ⟨h1, h2⟩
      go_enter Tryz.func116, Tryz.ntmps116
      go_wp2_with fail
      go_ret
      exact ⟨ret_b HX.out.symm, rfl⟩
    · have HX : Hid (vAmt n = false) := by unfold Hid vAmt; rw [decide_eq_false (fun e => h2 e.2)]
      go_enter Tryz.func116, Tryz.ntmps116
      go_wp2_with fail
      go_ret
      exact ⟨ret_b HX.out.symm, rfl⟩
  · have HX : Hid (vAmt n = false) := by unfold Hid vAmt; rw [decide_eq_false (fun e => h1 e.1)]
    go_enter Tryz.func116, Tryz.ntmps116
    go_wp2_with fail
    go_ret
    exact ⟨ret_b HX.out.symm, rfl⟩
set_option maxRecDepth 100000 in
theorem ppos_any (n : Int) (w : World) : Calls Tryz.prog 114 #[.int .i64 n] w fun e w' => e = .returned (.bool (pos1 n)) ∧ w' = w := by
  by_cases h1 : 0 < n
  · have HX : Hid (pos1 n = vAmt n) := by unfold Hid pos1; rw [decide_eq_true h1]; rfl
    go_enter Tryz.func114, Tryz.ntmps114
    go_wp2_with fail
    refine (pval_any n w).mono ?_
    rintro e w' ⟨rfl, rfl⟩
    go_wp2_with fail
    go_ret
    exact ⟨ret_b HX.out.symm, rfl⟩
  · have HX : Hid (pos1 n = false) := by unfold Hid pos1; rw [decide_eq_false h1]; rfl
    go_enter Tryz.func114, Tryz.ntmps114
    go_wp2_with fail
    go_ret
    exact ⟨ret_b HX.out.symm, rfl⟩
def prt (n : Int) : Bool := decide (1 ≤ n ∧ n ≤ 1000000)
set_option maxRecDepth 100000 in
theorem pprt_any (n : Int) (w : World) : Calls Tryz.prog 139 #[.int .i64 n] w fun e w' => e = .returned (.bool (prt n)) ∧ w' = w := by
  by_cases h1 : 1 ≤ n
  · by_cases h2 : n ≤ 1000000
    · have HX : Hid (prt n = true) := by unfold Hid prt; rw [decide_eq_true ⟨h1, h2⟩]
      go_enter Tryz.func139, Tryz.ntmps139
      go_wp2_with fail
      go_ret
      exact ⟨ret_b HX.out.symm, rfl⟩
    · have HX : Hid (prt n = false) := by unfold Hid prt; rw [decide_eq_false (fun e => h2 e.2)]
      go_enter Tryz.func139, Tryz.ntmps139
      go_wp2_with fail
      go_ret
      exact ⟨ret_b HX.out.symm, rfl⟩
  · have HX : Hid (prt n = false) := by unfold Hid prt; rw [decide_eq_false (fun e => h1 e.1)]
    go_enter Tryz.func139, Tryz.ntmps139
    go_wp2_with fail
    go_ret
    exact ⟨ret_b HX.out.symm, rfl⟩
set_option maxRecDepth 100000 in
theorem pprc_any (n d : Int) (w : World) : Calls Tryz.prog 117 #[.int .i64 n, .int .i64 d] w fun e w' => e = .returned (.bool (vPrc n d)) ∧ w' = w := by
  have hX : vPrc n d = (prt n && prt d) := by
    unfold vPrc prt
    rw [Bool.eq_iff_iff, Bool.and_eq_true, decide_eq_true_iff, decide_eq_true_iff, decide_eq_true_iff]
    omega
  have HX := Lib.hid hX
  clear hX
  go_enter Tryz.func117, Tryz.ntmps117
  go_wp2_with fail
  refine (pprt_any n w).mono ?_
  rintro e w' ⟨rfl, rfl⟩
  generalize prt n = a at *
  cases a
  · go_wp2_with fail
    go_ret
    exact ⟨ret_b HX.out.symm, rfl⟩
  · go_wp2_with fail
    refine (pprt_any d w').mono ?_
    rintro e w'' ⟨rfl, rfl⟩
    go_wp2_with fail
    go_ret
    exact ⟨ret_b HX.out.symm, rfl⟩
end Go.Proofs.YtonhhnedfjonoaaGreatDoor

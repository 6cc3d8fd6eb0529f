/- Some texts of this claim, joined: contracts of the functions that it reaches, and plain laws. -/
import Derived.Test.YtpdhckbiioobhaaGreatProg
import Derived.Test.YtpdhckbiioobhaaGreatJS16
import Derived.Test.YtpdhckbiioobhaaGreatJS22
import Derived.Test.YtpdhckbiioobhaaGreatJS23

set_option linter.unusedSimpArgs false
set_option linter.unusedVariables false
/- Walks: slices.Slices, Blocking, Implies, Equivalent for all trusts, also invalid ones. -/
namespace Go.Proofs.YtpdhckbiioobhaaGreat
open Go.RowKit

set_option maxRecDepth 100000 in
set_option maxHeartbeats 2000000 in
theorem slices_gen (t : Tr) (v : Value) (w : World) (h : TrR w none v t) (hsz : t.size ≤ 1073741000) : Calls Tryz.prog 10 #[v] w (R5E (validE t) (slcS ordI t) w) := by
  by_cases hv : validE t = 0
  · refine (slices_any t v w h hv).mono ?_
    rintro e w' ⟨v', rfl, hD, F⟩
    exact ⟨v', by rw [hv], by rw [if_pos hv]; exact hD, F⟩
  · skip
    obtain ⟨th, A1, n1, c1, A2, n2, c2, rfl⟩ := TrD.shape h
    have hv0 : (validE t != 0) = true := by rw [bne_iff_ne]; exact hv
    have HV := Lib.hid hv
    clear hv
    go_enter Tryz.func10, Tryz.ntmps10
    go_wp2_with fail
    generalize hW : w.alloc _ = w1
    have F1 : Fr none w w1 := hW ▸ (Fr.refl none w).alloc _
    have b1 : TB w1 w.heap.size (.int .i64 th) (.slice A1 n1 c1) (.slice A2 n2 c2) := by rw [← hW]; exact blk_new _ _
    clear hW
    refine (validT_any t _ _ none hsz (h.fr F1)).mono ?_
    rintro e w2 ⟨rfl, F2⟩
    clear b1 h
    go_wp2_with fail
    refine bodyPost_ret (v := .tuple #[.slice none 0 0, .int .i64 (validE t)]) (by simp [results, Tryz.results10, go_sem]) rfl ?_
    exact ⟨_, rfl, by rw [if_neg HV.out]; exact SlD.nil _ _ _, F1.pure F2⟩
set_option maxRecDepth 100000 in
set_option maxHeartbeats 2000000 in
theorem blocking_gen (t : Tr) (v : Value) (w : World) (h : TrR w none v t) (hsz : t.size ≤ 1073741000) : Calls Tryz.prog 19 #[v] w (R5E (validE t) (blcS ordI t) w) := by
  by_cases hv : validE t = 0
  · refine (blocking_any t v w h hv).mono ?_
    rintro e w' ⟨v', rfl, hD, F⟩
    exact ⟨v', by rw [hv], by rw [if_pos hv]; exact hD, F⟩
  · skip
    obtain ⟨th, A1, n1, c1, A2, n2, c2, rfl⟩ := TrD.shape h
    have hv0 : (validE t != 0) = true := by rw [bne_iff_ne]; exact hv
    have HV := Lib.hid hv
    clear hv
    go_enter Tryz.func19, Tryz.ntmps19
    go_wp2_with fail
    generalize hW : w.alloc _ = w1
    have F1 : Fr none w w1 := hW ▸ (Fr.refl none w).alloc _
    have b1 : TB w1 w.heap.size (.int .i64 th) (.slice A1 n1 c1) (.slice A2 n2 c2) := by rw [← hW]; exact blk_new _ _
    clear hW
    refine (validT_any t _ _ none hsz (h.fr F1)).mono ?_
    rintro e w2 ⟨rfl, F2⟩
    clear b1 h
    go_wp2_with fail
    refine bodyPost_ret (v := .tuple #[.slice none 0 0, .int .i64 (validE t)]) (by simp [results, Tryz.results19, go_sem]) rfl ?_
    exact ⟨_, rfl, by rw [if_neg HV.out]; exact SlD.nil _ _ _, F1.pure F2⟩
set_option maxRecDepth 100000 in
theorem svalid_gen (t u : Tr) (v v' : Value) (w : World) (h : TrR w none v t) (h' : TrR w none v' u) (hsz : t.size ≤ 1073741000) (hsz' : u.size ≤ 1073741000) :
    Calls Tryz.prog 40 #[v, v'] w fun e w' => e = .returned (.int .i64 (if validE t = 0 then validE u else validE t)) ∧ Fr none w w' := by
  obtain ⟨th, A1, n1, c1, A2, n2, c2, rfl⟩ := TrD.shape h
  obtain ⟨th', A1', n1', c1', A2', n2', c2', rfl⟩ := TrD.shape h'
  obtain ⟨X, hX⟩ : ∃ X : Int, X = (if validE t = 0 then validE u else validE t) := ⟨_, rfl⟩
  have HX := Lib.hid hX
  rw [← hX]
  clear hX
  go_enter Tryz.func40, Tryz.ntmps40
  go_wp2_with fail
  generalize hW : (w.alloc _).alloc _ = w1
  have F1 : Fr none w w1 := hW ▸ ((Fr.refl none w).alloc _).alloc _
  have b2 : TB w1 w.heap.size (.int .i64 th) (.slice A1 n1 c1) (.slice A2 n2 c2) := by rw [← hW]; exact (Below.heap_alloc _ _ _ (by simp)).trans (blk_new _ _)
  have b4 : TB w1 (w.heap.size + 1) (.int .i64 th') (.slice A1' n1' c1') (.slice A2' n2' c2') := by rw [← hW]; exact blk_new_at (by simp) _
  clear hW
  refine (validT_any t _ _ none hsz (h.fr F1)).mono ?_
  rintro e w2 ⟨rfl, F2⟩
  have F02 := F1.pure F2
  have R4 := (b4.fr F2 (by simp)).cell
  have hu := h'.fr F02
  clear b2 b4 h h'
  by_cases hv : validE t = 0
  · have hv0 : (validE t != 0) = false := by rw [bne_eq_false_iff_eq]; exact hv
    have HX' : Hid (X = validE u) := by unfold Hid; rw [HX.out, if_pos hv]
    clear hv
    go_wp2_with fail
    refine (validT_any u _ _ none hsz' hu).mono ?_
    rintro e w3 ⟨rfl, F3⟩
    go_wp2_with fail
    go_ret
    exact ⟨ret_int HX'.out.symm, F02.pure F3⟩
  · have hv0 : (validE t != 0) = true := by rw [bne_iff_ne]; exact hv
    have HX' : Hid (X = validE t) := by unfold Hid; rw [HX.out, if_neg hv]
    clear hv
    go_wp2_with fail
    go_ret
    exact ⟨ret_int HX'.out.symm, F02⟩
set_option maxRecDepth 100000 in
set_option maxHeartbeats 2000000 in
theorem eqv_gen (t u : Tr) (v v' : Value) (w : World) (h : TrR w none v t) (h' : TrR w none v' u) (hsz : t.size ≤ 1073741000) (hsz' : u.size ≤ 1073741000) :
    Calls Tryz.prog 12 #[v, v'] w fun e w' => e = .returned (ansE t u (fun s : Nat => sat (s : Int) t != sat (s : Int) u)) ∧ Fr none w w' := by
  by_cases hv : validE t = 0 ∧ validE u = 0
  · refine (eqv_any t u v v' w h h' hv.1 hv.2).mono ?_
    rintro e w' ⟨rfl, F⟩
    exact ⟨by unfold ansE; rw [if_pos hv.1, if_pos hv.2], F⟩
  · skip
    obtain ⟨th, A1, n1, c1, A2, n2, c2, rfl⟩ := TrD.shape h
    obtain ⟨th', A1', n1', c1', A2', n2', c2', rfl⟩ := TrD.shape h'
    obtain ⟨X, hX⟩ : ∃ X : Int, X = (if validE t = 0 then validE u else validE t) := ⟨_, rfl⟩
    have hX0 : X ≠ 0 := by
      rw [hX]
      split
      · rename_i h0; exact fun e => hv ⟨h0, e⟩
      · assumption
    have hv0 : (X != 0) = true := by rw [bne_iff_ne]; exact hX0
    have HA : Hid (ansE t u (fun s : Nat => sat (s : Int) t != sat (s : Int) u) = .tuple #[.bool false, .int .i64 0, .int .i64 X]) := by
      unfold Hid ansE
      by_cases h0 : validE t = 0
      · rw [if_pos h0] at hX ⊢
        rw [if_neg (fun e => hX0 (by rw [hX, e])), hX]
      · rw [if_neg h0] at hX ⊢
        rw [hX]
    have HX := Lib.hid hX
    clear hX hX0 hv
    rw [HA.out]
    go_enter Tryz.func12, Tryz.ntmps12
    go_wp2_with fail
    generalize hW : (w.alloc _).alloc _ = w1
    have F1 : Fr none w w1 := hW ▸ ((Fr.refl none w).alloc _).alloc _
    have b2 : TB w1 w.heap.size (.int .i64 th) (.slice A1 n1 c1) (.slice A2 n2 c2) := by rw [← hW]; exact (Below.heap_alloc _ _ _ (by simp)).trans (blk_new _ _)
    have b4 : TB w1 (w.heap.size + 1) (.int .i64 th') (.slice A1' n1' c1') (.slice A2' n2' c2') := by rw [← hW]; exact blk_new_at (by simp) _
    clear hW
    refine (svalid_gen t u _ _ _ (h.fr F1) (h'.fr F1) hsz hsz').mono ?_
    rintro e w2 ⟨rfl, F2⟩
    rw [← HX.out]
    clear b2 b4 h h'
    go_wp2_with fail
    refine bodyPost_ret (v := .tuple #[.bool false, .int .i64 0, .int .i64 X]) (by simp [results, Tryz.results12, go_sem]) rfl ?_
    exact ⟨rfl, F1.pure F2⟩
set_option maxRecDepth 100000 in
set_option maxHeartbeats 2000000 in
theorem imp_gen (t u : Tr) (v v' : Value) (w : World) (h : TrR w none v t) (h' : TrR w none v' u) (hsz : t.size ≤ 1073741000) (hsz' : u.size ≤ 1073741000) :
    Calls Tryz.prog 21 #[v, v'] w fun e w' => e = .returned (ansE t u (fun s : Nat => sat (s : Int) t && !sat (s : Int) u)) ∧ Fr none w w' := by
  by_cases hv : validE t = 0 ∧ validE u = 0
  · refine (imp_any t u v v' w h h' hv.1 hv.2).mono ?_
    rintro e w' ⟨rfl, F⟩
    exact ⟨by unfold ansE; rw [if_pos hv.1, if_pos hv.2], F⟩
  · skip
    obtain ⟨th, A1, n1, c1, A2, n2, c2, rfl⟩ := TrD.shape h
    obtain ⟨th', A1', n1', c1', A2', n2', c2', rfl⟩ := TrD.shape h'
    obtain ⟨X, hX⟩ : ∃ X : Int, X = (if validE t = 0 then validE u else validE t) := ⟨_, rfl⟩
    have hX0 : X ≠ 0 := by
      rw [hX]
      split
      · rename_i h0; exact fun e => hv ⟨h0, e⟩
      · assumption
    have hv0 : (X != 0) = true := by rw [bne_iff_ne]; exact hX0
    have HA : Hid (ansE t u (fun s : Nat => sat (s : Int) t && !sat (s : Int) u) = .tuple #[.bool false, .int .i64 0, .int .i64 X]) := by
      unfold Hid ansE
      by_cases h0 : validE t = 0
      · rw [if_pos h0] at hX ⊢
        rw [if_neg (fun e => hX0 (by rw [hX, e])), hX]
      · rw [if_neg h0] at hX ⊢
        rw [hX]
    have HX := Lib.hid hX
    clear hX hX0 hv
    rw [HA.out]
    go_enter Tryz.func21, Tryz.ntmps21
    go_wp2_with fail
    generalize hW : (w.alloc _).alloc _ = w1
    have F1 : Fr none w w1 := hW ▸ ((Fr.refl none w).alloc _).alloc _
    have b2 : TB w1 w.heap.size (.int .i64 th) (.slice A1 n1 c1) (.slice A2 n2 c2) := by rw [← hW]; exact (Below.heap_alloc _ _ _ (by simp)).trans (blk_new _ _)
    have b4 : TB w1 (w.heap.size + 1) (.int .i64 th') (.slice A1' n1' c1') (.slice A2' n2' c2') := by rw [← hW]; exact blk_new_at (by simp) _
    clear hW
    refine (svalid_gen t u _ _ _ (h.fr F1) (h'.fr F1) hsz hsz').mono ?_
    rintro e w2 ⟨rfl, F2⟩
    rw [← HX.out]
    clear b2 b4 h h'
    go_wp2_with fail
    refine bodyPost_ret (v := .tuple #[.bool false, .int .i64 0, .int .i64 X]) (by simp [results, Tryz.results21, go_sem]) rfl ?_
    exact ⟨rfl, F1.pure F2⟩
end Go.Proofs.YtpdhckbiioobhaaGreat

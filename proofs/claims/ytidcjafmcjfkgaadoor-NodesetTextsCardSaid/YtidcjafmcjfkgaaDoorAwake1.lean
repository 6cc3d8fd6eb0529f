/- The sanity check of layer 1's laws. -/
import Derived.Test.YtidcjafmcjfkgaaDoorProg
import Derived.Test.YtidcjafmcjfkgaaDoorNs2
import Derived.Test.YtidcjafmcjfkgaaDoorNsT
import Derived.Test.YtidcjafmcjfkgaaDoorMeet
import Derived.Test.YtidcjafmcjfkgaaDoorInts
namespace Go.Proofs.YtidcjafmcjfkgaaDoor
open Go.RowKit

theorem next37 : nextR 37 6 = (38, true) := by decide +kernel
theorem sorted_id (l : List Int) (h : l.Pairwise fun x y => (!decide (cmpS y x < 0)) = true) : sortS l = l := List.mergeSort_of_pairwise h
theorem least36 : leastS [3, 6] = [3, 6] := by
  unfold leastS
  rw [show List.filter validB [3, 6] = [3, 6] from by decide +kernel, sorted_id _ (by decide +kernel)]
  decide +kernel
theorem meet36 : meetS [3, 6] 3 = [2, 5] := by
  unfold meetS
  rw [least36, show List.filter (fun s => !([3, 6] : List Int).any (disI s)) (ints (2 ^ 3)) = [2, 3, 5, 6, 7] from by decide +kernel]
  unfold leastS
  rw [show List.filter validB [2, 3, 5, 6, 7] = [2, 3, 5, 6, 7] from by decide +kernel, sorted_id _ (by decide +kernel)]
  decide +kernel
theorem text37 : textS 37 = ⟨#[123, 48, 32, 50, 32, 53, 125]⟩ := by
  have h1 : validB 37 = true := by decide
  have h2 : nodesK 37 10 = [0, 2, 5] := by decide +kernel
  have d : ∀ k, k < 10 → Lib.decDigits k = [UInt8.ofNat (48 + k)] := fun k hk => by
    unfold Lib.decDigits
    rw [dif_pos hk]
  have w0 : word 0 = ⟨#[48]⟩ := by unfold word; rw [d _ (by decide)]; rfl
  have w2 : word 2 = ⟨#[50]⟩ := by unfold word; rw [d _ (by decide)]; rfl
  have w5 : word 5 = ⟨#[53]⟩ := by unfold word; rw [d _ (by decide)]; rfl
  simp only [textS, h1, if_true, h2, wordsOf, List.map_cons, List.map_nil, w0, w2, w5]
  rfl

theorem wi_of {l : List Int} (h : l.all (fun x => decide (-1024 ≤ x ∧ x ≤ 1024)) = true) : ∀ x ∈ l, Wi x := fun x hx => by
  have := List.all_eq_true.1 h x hx
  simp only [decide_eq_true_eq] at this
  unfold Wi
  omega

set_option maxRecDepth 100000 in
theorem awake1_any (w : World) : Calls Tryd.prog 12 #[] w fun e w' => e = .returned (.bool true) ∧ Fr none w w' := by
  go_enter Tryd.func12, Tryd.ntmps12
  go_wp2_with (first | (go_at_call 33; refine (next_any 37 6 (by decide) (by decide) _).mono ?_; rintro e w' ⟨rfl, rfl⟩; rw [next37]) | (go_at_call 13; refine (meeting_any [3, 6] _ 3 (by decide) _ ⟨SlD.lit_dm #[.int .i64 3, .int .i64 6] _ 2 1 rfl (by decide) (by simp) (Fr.refl _ _), wi_of (by decide)⟩ (by decide) (by decide)).mono ?_; rintro e w1 ⟨v1, rfl, S1, F1⟩; rw [meet36] at S1) | (go_at_call 21; refine (text_any 37 _).mono ?_; rintro e w2 ⟨rfl, F2⟩; rw [text37]) | (go_at_call 15; refine (ints_any [2, 5] [2, 5] v1 _ _ ⟨((S1.keep (dn_dm (r := none) (by simp))).keep (fr_dm F2)).keep (fr_dm ((Fr.refl none w2).alloc _)), wi_of (by decide)⟩ ⟨SlD.lit_dm #[.int .i64 2, .int .i64 5] _ 2 1 rfl (by decide) (by simp) (Fr.refl _ _), wi_of (by decide)⟩).mono ?_; rintro e w3 ⟨rfl, F3⟩))
  go_ret
  exact ⟨ret_bool (by decide), (((Fr.refl none w).alloc _).pure F1).pure (F2.pure (((Fr.refl none w2).alloc _).pure F3))⟩

end Go.Proofs.YtidcjafmcjfkgaaDoor

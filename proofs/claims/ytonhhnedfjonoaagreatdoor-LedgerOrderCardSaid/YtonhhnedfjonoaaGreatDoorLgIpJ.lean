/- Plain law: sorting by insertion. -/
import Derived.ProofKit
set_option linter.unusedSimpArgs false
set_option linter.unusedVariables false
namespace Go.Proofs.YtonhhnedfjonoaaGreatDoor

/-- Insertion into a list whose greatest lies first. -/
def insV {α : Type} (lt : α → α → Bool) (x : α) : List α → List α
  | [] => [x]
  | y :: r => if lt x y = true then y :: insV lt x r else x :: y :: r
def srtV {α : Type} (lt : α → α → Bool) (l : List α) : List α := l.foldl (fun s x => insV lt x s) []
/-- The list, sorted; equals keep their order. -/
def srtL {α : Type} (lt : α → α → Bool) (l : List α) : List α := (srtV lt l).reverse
theorem insV_stop {α : Type} {lt : α → α → Bool} {x y : α} {r : List α} (h : lt x y = false) : insV lt x (y :: r) = x :: y :: r := by unfold insV; rw [if_neg (by rw [h]; simp)]
theorem insV_go {α : Type} {lt : α → α → Bool} {x y : α} {r : List α} (h : lt x y = true) : insV lt x (y :: r) = y :: insV lt x r := by rw [insV, if_pos h]
theorem insV_perm {α : Type} (lt : α → α → Bool) (x : α) : ∀ r : List α, (insV lt x r).Perm (x :: r)
  | [] => List.Perm.refl _
  | y :: r => by
    cases h : lt x y with
    | true => rw [insV_go h]; exact (List.Perm.cons y (insV_perm lt x r)).trans (List.Perm.swap x y r)
    | false => rw [insV_stop h]
theorem foldV_perm {α : Type} (lt : α → α → Bool) : ∀ (l S : List α), (l.foldl (fun s x => insV lt x s) S).Perm (l ++ S)
  | [], S => List.Perm.refl _
  | x :: r, S => ((foldV_perm lt r (insV lt x S)).trans (List.Perm.append_left r (insV_perm lt x S))).trans (List.perm_middle)
theorem srtL_perm {α : Type} (lt : α → α → Bool) (l : List α) : (srtL lt l).Perm l := by
  have := foldV_perm lt l []
  rw [List.append_nil] at this
  exact (List.reverse_perm _).trans this
theorem srtL_len {α : Type} (lt : α → α → Bool) (l : List α) : (srtL lt l).length = l.length := (srtL_perm lt l).length_eq
theorem srtL_mem {α : Type} {lt : α → α → Bool} {l : List α} {x : α} : x ∈ srtL lt l ↔ x ∈ l := (srtL_perm lt l).mem_iff
theorem srtV_len {α : Type} (lt : α → α → Bool) (l : List α) : (srtV lt l).length = l.length := by rw [← srtL_len lt l]; unfold srtL; rw [List.length_reverse]
theorem srtV_succ {α : Type} (lt : α → α → Bool) (l : List α) (i : Nat) (hi : i < l.length) : srtV lt (l.take (i + 1)) = insV lt l[i] (srtV lt (l.take i)) := by
  unfold srtV
  rw [List.take_succ_eq_append_getElem hi, List.foldl_append]
  rfl
theorem insV_map {α β : Type} {lt : α → α → Bool} {lt' : β → β → Bool} (f : α → β) (h : ∀ a b, lt a b = lt' (f a) (f b)) (x : α) : ∀ r : List α, (insV lt x r).map f = insV lt' (f x) (r.map f)
  | [] => rfl
  | y :: r => by
    cases hh : lt x y with
    | true => rw [insV_go hh, List.map_cons, List.map_cons, insV_go (by rw [← h]; exact hh), insV_map f h x r]
    | false => rw [insV_stop hh, List.map_cons, List.map_cons, insV_stop (by rw [← h]; exact hh)]
theorem foldV_map {α β : Type} {lt : α → α → Bool} {lt' : β → β → Bool} (f : α → β) (h : ∀ a b, lt a b = lt' (f a) (f b)) : ∀ (l S : List α), (l.foldl (fun s x => insV lt x s) S).map f = (l.map f).foldl (fun s x => insV lt' x s) (S.map f)
  | [], S => rfl
  | x :: r, S => by
    show (r.foldl _ (insV lt x S)).map f = (r.map f).foldl _ (insV lt' (f x) (S.map f))
    rw [foldV_map f h r, insV_map f h]
theorem srtL_map {α β : Type} {lt : α → α → Bool} {lt' : β → β → Bool} (f : α → β) (h : ∀ a b, lt a b = lt' (f a) (f b)) (l : List α) : (srtL lt l).map f = srtL lt' (l.map f) := by
  unfold srtL srtV
  rw [List.map_reverse, foldV_map f h]
  rfl
/-- One exchange of neighbours. -/
theorem swp_at {α : Type} {P T : List α} {x y : α} {j : Nat} (hj : P.length = j) : ((P.reverse ++ y :: x :: T).set (j + 1) y).set j x = P.reverse ++ x :: y :: T := by
  subst hj
  rw [List.set_append_right _ _ (by simp), List.length_reverse, Nat.add_sub_cancel_left, List.set_append_right _ _ (by simp), List.length_reverse, Nat.sub_self]
  rfl
theorem insV_desc {α : Type} {lt : α → α → Bool} (ha : ∀ a b, lt a b = true → lt b a = false) (ht : ∀ a b c, lt a b = false → lt b c = false → lt a c = false) (x : α) : ∀ S : List α, S.Pairwise (fun a b => lt a b = false) → (insV lt x S).Pairwise (fun a b => lt a b = false)
  | [], _ => List.pairwise_singleton _ _
  | y :: r, h => by
    obtain ⟨h1, h2⟩ := List.pairwise_cons.1 h
    cases hh : lt x y with
    | true =>
      rw [insV_go hh]
      refine List.pairwise_cons.2 ⟨fun z hz => ?_, insV_desc ha ht x r h2⟩
      rcases List.mem_cons.1 ((insV_perm lt x r).mem_iff.1 hz) with rfl | hz
      · exact ha _ _ hh
      · exact h1 z hz
    | false =>
      rw [insV_stop hh]
      refine List.pairwise_cons.2 ⟨fun z hz => ?_, h⟩
      rcases List.mem_cons.1 hz with rfl | hz
      · exact hh
      · exact ht _ _ _ hh (h1 z hz)
theorem foldV_desc {α : Type} {lt : α → α → Bool} (ha : ∀ a b, lt a b = true → lt b a = false) (ht : ∀ a b c, lt a b = false → lt b c = false → lt a c = false) : ∀ (l S : List α), S.Pairwise (fun a b => lt a b = false) → (l.foldl (fun s x => insV lt x s) S).Pairwise (fun a b => lt a b = false)
  | [], _, h => h
  | x :: r, S, h => foldV_desc ha ht r _ (insV_desc ha ht x S h)
/-- It ascends. -/
theorem srtL_asc {α : Type} {lt : α → α → Bool} (ha : ∀ a b, lt a b = true → lt b a = false) (ht : ∀ a b c, lt a b = false → lt b c = false → lt a c = false) (l : List α) : (srtL lt l).Pairwise (fun a b => lt b a = false) := by
  unfold srtL
  rw [List.pairwise_reverse]
  exact foldV_desc ha ht l [] List.Pairwise.nil
theorem foldV_of {α : Type} {lt : α → α → Bool} : ∀ (l S : List α), (S.reverse ++ l).Pairwise (fun a b => lt b a = false) → l.foldl (fun s x => insV lt x s) S = l.reverse ++ S
  | [], S, _ => rfl
  | x :: r, S, h => by
    have e : insV lt x S = x :: S := by
      cases S with
      | nil => rfl
      | cons y S =>
        refine insV_stop ?_
        rw [List.pairwise_append] at h
        exact h.2.2 y (by simp) x (by simp)
    show r.foldl _ (insV lt x S) = _
    rw [e, foldV_of r (x :: S) (by simpa using h)]
    simp
/-- What ascends is left as it is. -/
theorem srtL_of {α : Type} {lt : α → α → Bool} {l : List α} (h : l.Pairwise (fun a b => lt b a = false)) : srtL lt l = l := by
  unfold srtL srtV
  rw [foldV_of l [] (by simpa using h)]
  simp
theorem insV_last {α : Type} {lt : α → α → Bool} {x : α} : ∀ S : List α, (∀ y ∈ S, lt x y = true) → insV lt x S = S ++ [x]
  | [], _ => rfl
  | y :: r, h => by rw [insV_go (h y (by simp)), insV_last r (fun z hz => h z (by simp [hz]))]; rfl
theorem foldr_strict {α : Type} {lt : α → α → Bool} : ∀ l : List α, l.Pairwise (fun a b => lt a b = true) → l.foldr (fun x s => insV lt x s) [] = l.reverse
  | [], _ => rfl
  | x :: r, h => by
    obtain ⟨h1, h2⟩ := List.pairwise_cons.1 h
    rw [List.foldr_cons, foldr_strict r h2, insV_last _ (fun y hy => h1 y (by simpa using hy)), List.reverse_cons]
/-- A list that ascends strictly comes back from its reverse. -/
theorem srtL_rev {α : Type} {lt : α → α → Bool} {l : List α} (h : l.Pairwise (fun a b => lt a b = true)) : srtL lt l.reverse = l := by
  unfold srtL srtV
  rw [List.foldl_reverse, foldr_strict l h, List.reverse_reverse]
end Go.Proofs.YtonhhnedfjonoaaGreatDoor

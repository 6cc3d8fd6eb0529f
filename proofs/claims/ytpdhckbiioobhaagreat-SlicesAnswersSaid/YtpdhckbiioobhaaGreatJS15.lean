/- Some texts of this claim, joined: contracts of the functions that it reaches, and plain laws. -/
import Derived.Test.YtpdhckbiioobhaaGreatJS14

set_option linter.unusedSimpArgs false
set_option linter.unusedVariables false
/- Valid trusts: their texts can be read, and are short; when two trusts are the same: plain. -/
namespace Go.Proofs.YtpdhckbiioobhaaGreat
open Go.RowKit

mutual
theorem check_ok : ∀ t : Tr, checkE t = 0 → t.size ≤ 9999 → okT t
  | .mk thr nodes inner, h, hs => by
    simp only [checkE] at h
    simp only [Tr.size] at hs
    by_cases h1 : thr < 1 ∨ ((nodes.length + inner.length : Nat) : Int) < thr
    · rw [if_pos h1] at h; cases h
    · rw [if_neg h1] at h
      by_cases h2 : nodes.any (fun k => decide (k < 0 ∨ 10 ≤ k)) = true
      · rw [if_pos h2] at h; cases h
      · rw [if_neg h2] at h
        by_cases h3 : (ofS nodes 0).2 ≠ 0
        · rw [if_pos h3] at h; exact absurd h h3
        · rw [if_neg h3] at h
          simp only [okT]
          refine ⟨⟨by omega, by omega⟩, fun x hx => ?_, ?_, checkL_ok inner h (by omega)⟩
          · have h4 : ¬ (x < 0 ∨ 10 ≤ x) := by
              intro hc
              apply h2
              rw [List.any_eq_true]
              exact ⟨x, hx, by simpa using hc⟩
            exact ⟨by omega, by omega⟩
          · apply Classical.byContradiction
            intro hc
            have e1 : nodes = [] := Classical.byContradiction fun h => hc (.inl h)
            have e2 : inner = [] := Classical.byContradiction fun h => hc (.inr h)
            subst e1 e2
            simp at h1
            omega
theorem checkL_ok : ∀ l : List Tr, checkL l = 0 → sizeL l ≤ 9999 → okL l
  | [], _, _ => by simp only [okL]
  | x :: r, h, hs => by
    simp only [checkL] at h
    simp only [sizeL] at hs
    by_cases h1 : checkE x ≠ 0
    · rw [if_pos h1] at h; exact absurd h h1
    · rw [if_neg h1] at h
      simp only [okL]
      exact ⟨check_ok x (by simpa using h1) (by omega), checkL_ok r h (by omega)⟩
end
theorem valid_check {t : Tr} (h : validE t = 0) : checkE t = 0 ∧ t.size ≤ 200 ∧ t.dep ≤ 4 := by
  unfold validE at h
  by_cases h1 : 4 < t.dep ∨ 200 < t.size
  · rw [if_pos h1] at h; cases h
  · rw [if_neg h1] at h
    exact ⟨h, by omega, by omega⟩
theorem valid_ok {t : Tr} (h : validE t = 0) : okT t := check_ok t (valid_check h).1 (by have := (valid_check h).2.1; omega)
theorem itoa_len4 {k : Int} (h : Nu k) : (Lib.itoa k).length ≤ 4 := by
  obtain ⟨n, rfl, hn⟩ := nu_nat h
  rw [Lib.itoa_nonneg]
  exact dec_len4 hn
theorem ndW_lens4 : ∀ l : List Int, (∀ x ∈ l, Nu x) → Lib.lens (ndW l) ≤ 4 * l.length
  | [], _ => by simp [ndW, Lib.lens]
  | x :: r, h => by
    have h1 := itoa_len4 (h x (by simp))
    have h2 := ndW_lens4 r (fun y hy => h y (List.mem_cons_of_mem _ hy))
    simp only [ndW, Lib.lens, List.map_cons, List.sum_cons, List.length_cons] at *
    omega
mutual
theorem ok_len : ∀ t : Tr, okT t → (txT t).length ≤ 12 * t.size + 10
  | .mk thr nodes inner, h => by
    simp only [okT] at h
    have h1 := itoa_len4 h.1
    have h2 := ndW_lens4 nodes h.2.1
    have h3 := okL_lens inner h.2.2.2
    have h4 := join_len [44, 32] (ndW nodes ++ txL inner)
    rw [lens_append, List.length_append, ndW_len, txL_len] at h4
    simp only [txT, Tr.size, List.length_append, List.length_cons, List.length_nil] at *
    omega
theorem okL_lens : ∀ l : List Tr, okL l → Lib.lens (txL l) ≤ 12 * sizeL l + 10 * l.length
  | [], _ => by simp [txL, Lib.lens]
  | x :: r, h => by
    simp only [okL] at h
    have h1 := ok_len x h.1
    have h2 := okL_lens r h.2
    simp only [txL, sizeL, Lib.lens, List.map_cons, List.sum_cons, List.length_cons] at *
    omega
end
theorem valid_len {t : Tr} (h : validE t = 0) : (txT t).length ≤ 2410 := by
  have := ok_len t (valid_ok h)
  have := (valid_check h).2.1
  omega

mutual
/-- Are two trusts the same? -/
def sameT : Tr → Tr → Bool
  | .mk t1 n1 i1, .mk t2 n2 i2 => decide (t1 = t2) && decide (n1 = n2) && sameL i1 i2
def sameL : List Tr → List Tr → Bool
  | [], [] => true
  | x :: r, y :: s => sameT x y && sameL r s
  | [], _ :: _ => false
  | _ :: _, [] => false
end
mutual
theorem sameT_iff : ∀ a b : Tr, sameT a b = true ↔ a = b
  | .mk t1 n1 i1, .mk t2 n2 i2 => by
    simp only [sameT, Bool.and_eq_true, decide_eq_true_eq, sameL_iff i1 i2, Tr.mk.injEq, and_assoc]
theorem sameL_iff : ∀ a b : List Tr, sameL a b = true ↔ a = b
  | [], [] => by simp [sameL]
  | x :: r, y :: s => by simp only [sameL, Bool.and_eq_true, sameT_iff x y, sameL_iff r s, List.cons.injEq]
  | [], _ :: _ => by simp [sameL]
  | _ :: _, [] => by simp [sameL]
end
theorem sameL_len : ∀ a b : List Tr, sameL a b = true → a.length = b.length := fun a b h => by rw [(sameL_iff a b).1 h]
theorem sameL_drop : ∀ (a b : List Tr) (k : Nat) (h1 : k < a.length) (h2 : k < b.length), sameL (a.drop k) (b.drop k) = (sameT a[k] b[k] && sameL (a.drop (k + 1)) (b.drop (k + 1))) := fun a b k h1 h2 => by
  rw [List.drop_eq_getElem_cons h1, List.drop_eq_getElem_cons h2, sameL]
/-- Two valid trusts have the same text exactly if they are the same. -/
theorem text_same {a b : Tr} (ha : validE a = 0) (hb : validE b = 0) : decide (txT a = txT b) = sameT a b := by
  rw [Bool.eq_iff_iff, decide_eq_true_eq, sameT_iff]
  exact ⟨txT_inj (valid_ok ha) (valid_ok hb), fun h => by rw [h]⟩
end Go.Proofs.YtpdhckbiioobhaaGreat

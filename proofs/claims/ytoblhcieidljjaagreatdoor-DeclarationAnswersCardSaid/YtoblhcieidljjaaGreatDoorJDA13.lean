/- Some texts of this claim, joined: contracts of the functions that it reaches, and plain laws. -/
import Derived.Lib.CutLaws
import Derived.Lib.LastIndexByte
import Derived.Lib.Strings

set_option linter.unusedSimpArgs false
set_option linter.unusedVariables false
/- Plain: cutting a text at its blanks, from the front and from the back. -/
namespace Go.Proofs.YtoblhcieidljjaaGreatDoor

theorem cut_blank (a X : List UInt8) (h : ∀ c ∈ a, c ≠ 32) : Lib.cut (a ++ 32 :: X) [32] = (a, X, true) := by
  have e : Lib.index (a ++ 32 :: X) [32] = a.length := by
    refine Lib.index_first (by simp) ?_ (fun j hj => ?_)
    · unfold Lib.occAt
      rw [List.drop_left]
      rfl
    · unfold Lib.occAt
      have e2 : a.drop j = a[j] :: a.drop (j + 1) := List.drop_eq_getElem_cons hj
      have := h a[j] (List.getElem_mem _)
      rw [List.drop_append_of_le_length (Nat.le_of_lt hj), e2]
      generalize a[j] = x at *
      simp [List.isPrefixOf, Ne.symm this]
  unfold Lib.cut
  rw [e, if_pos (by omega)]
  simp [List.drop_append]
theorem cut_none (a : List UInt8) (h : ∀ c ∈ a, c ≠ 32) : Lib.cut a [32] = (a, [], false) := by
  have e : Lib.index a [32] = -1 := by
    refine Lib.index_none (fun j hj => ?_)
    unfold Lib.occAt
    rcases Nat.lt_or_ge j a.length with hj | hj
    · rw [List.drop_eq_getElem_cons hj]
      have := h a[j] (List.getElem_mem _)
      generalize a[j] = x at *
      simp [List.isPrefixOf, Ne.symm this]
    · rw [List.drop_eq_nil_of_le hj]; rfl
  unfold Lib.cut
  rw [e, if_neg (by omega)]
theorem trim_pre (p X : List UInt8) : Lib.trimPrefix (p ++ X) p = X := by
  unfold Lib.trimPrefix Lib.hasPrefix
  rw [if_pos (by rw [List.isPrefixOf_iff_prefix]; exact List.prefix_append _ _), List.drop_left]
theorem last_blank (S : ByteArray) (a b : List UInt8) (hS : S.data.toList = a ++ 32 :: b) (h : ∀ c ∈ b, c ≠ 32) : Lib.lastIndexByte S 32 = a.length := by
  have hsz : S.size = S.data.toList.length := (Array.length_toList).symm
  have hg : ∀ j, j < S.size → S.data[j]! = S.data.toList[j]! := fun j hj => by
    have h1 : j < S.data.size := hj
    rw [getElem!_pos S.data j h1, getElem!_pos S.data.toList j (by simpa using h1)]
    simp
  have hl : S.size = a.length + (b.length + 1) := by rw [hsz, hS]; simp
  rcases Lib.lastIndexByte_spec S 32 with ⟨_, hn⟩ | ⟨i, hi, e, hc, hn⟩
  · exfalso
    refine hn a.length (by omega) ?_
    rw [hg _ (by omega), hS]
    simp
  · rw [e]
    rcases Nat.lt_trichotomy i a.length with hlt | rfl | hgt
    · exfalso
      refine hn a.length hlt (by omega) ?_
      rw [hg _ (by omega), hS]
      simp
    · rfl
    · exfalso
      rw [hg _ hi, hS] at hc
      obtain ⟨k, rfl⟩ : ∃ k, i = a.length + (k + 1) := ⟨i - a.length - 1, by omega⟩
      have hk : k < b.length := by omega
      have e2 : (a ++ 32 :: b)[a.length + (k + 1)]! = b[k] := by
        rw [getElem!_pos (a ++ 32 :: b) (a.length + (k + 1)) (by simp; omega)]
        rw [List.getElem_append_right (by omega)]
        simp
      rw [e2] at hc
      refine h b[k] (List.getElem_mem _) (UInt8.toNat_inj.1 ?_)
      have : b[k].toNat = 32 := by omega
      exact this
end Go.Proofs.YtoblhcieidljjaaGreatDoor

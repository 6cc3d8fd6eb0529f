/- What a reader leaves is an end of its text; a text with a sign too many: plain. -/
import Derived.Test.YtidnnjgiogklaaaDoorParV
namespace Go.Proofs.YtidnnjgiogklaaaDoor
open Go.RowKit

theorem skp_suf (u : List UInt8) : skp u <:+ u := List.dropWhile_suffix _
theorem nxt_suf (u : List UInt8) : nxt u <:+ u := (skp_suf _).trans (List.drop_suffix _ _)
mutual
theorem restP_suf : ∀ (f : Nat) (n : Int) (u : List UInt8), (restP f n u).2 <:+ u
  | 0, _, u => by simp [restP]
  | f + 1, n, u => by
    simp only [restP]
    split
    · split
      · exact (loopP_suf f n [] [] _).trans ((nxt_suf _).trans (nxt_suf _))
      · exact nxt_suf _
    · exact List.suffix_refl _
theorem loopP_suf : ∀ (f : Nat) (n : Int) (a : List Int) (b : List Tr) (u : List UInt8), (loopP f n a b u).2 <:+ u
  | 0, _, _, _, u => by simp [loopP]
  | f + 1, n, a, b, u => by
    simp only [loopP]
    split
    · exact List.suffix_refl _
    · rename_i k _
      have h3 := (restP_suf f k (nxt u)).trans (nxt_suf u)
      split
      · generalize restP f k (nxt u) = p at *
        obtain ⟨o, v⟩ := p
        simp only at h3
        cases o with
        | none => exact h3
        | some x =>
          simp only
          split
          · exact (nxt_suf v).trans h3
          · split
            · exact (loopP_suf f n a (b ++ [x]) (nxt v)).trans ((nxt_suf v).trans h3)
            · exact h3
      · split
        · exact (nxt_suf _).trans (nxt_suf _)
        · split
          · exact (loopP_suf f n (a ++ [(k : Int)]) b _).trans ((nxt_suf _).trans (nxt_suf _))
          · exact nxt_suf _
end
theorem wholeP_suf (s : List UInt8) : (wholeP s).2 <:+ s := by
  unfold wholeP
  split
  · exact skp_suf s
  · exact (restP_suf _ _ _).trans ((nxt_suf _).trans (skp_suf s))
/-- A sign behind the text of a trust: the error stands there. -/
theorem parse_more41 (t : Tr) (h : okT t) (hl : (txT t).length ≤ 5999) : parseP (txT t ++ [41]) = .no (txT t).length 2 := by
  obtain ⟨z, hz, hw⟩ := whole_ok t h [41] (txT t ++ [41]) (BB.refl _)
  obtain ⟨p, q, z', rfl, hz', hp, hq⟩ := hz.one
  simp only [BB] at hz'
  subst hz'
  have e1 : skp (p ++ 41 :: (q ++ [])) = 41 :: q := by rw [skp_bl _ _ hp, skp_cons _ (by decide), List.append_nil]
  rw [e1] at hw
  have hs := wholeP_suf (txT t ++ [41])
  rw [hw] at hs
  obtain ⟨pre, hpre⟩ := hs
  have hq0 : q = [] := by
    rcases List.eq_nil_or_concat q with h0 | ⟨q', x, rfl⟩
    · exact h0
    · have e2 : (pre ++ 41 :: q') ++ [x] = txT t ++ [41] := by rw [← hpre]; simp
      have e3 := (List.append_inj' e2 rfl).2
      have : x = 32 := hq x (by simp)
      subst this
      simp at e3
  subst hq0
  unfold parseP
  rw [if_neg (by rw [List.length_append]; simp; omega), hw]
  simp
/-- A proper beginning of the text of a trust. -/
theorem parse_cut (t : Tr) (h : okT t) (m : Nat) (hm : m < (txT t).length) (hl : (txT t).length ≤ 6000) : ∃ a, parseP ((txT t).take m) = .no a 2 ∧ a ≤ m ∧ m ≤ a + 1 := by
  have e : txT t = (txT t).take m ++ (txT t).drop m := (List.take_append_drop m _).symm
  have hz : (txT t).drop m ≠ [] := fun h0 => by
    have := congrArg List.length h0
    rw [List.length_drop] at this
    simp at this
    omega
  obtain ⟨v, hv, hvl⟩ := whole_cut t h _ _ e hz
  have hlen : ((txT t).take m).length = m := by rw [List.length_take]; omega
  refine ⟨m - v.length, ?_, by omega, by omega⟩
  unfold parseP
  rw [if_neg (by omega), hv, hlen]
theorem txt_len2 (t : Tr) : 2 ≤ (txT t).length := by
  obtain ⟨thr, nodes, inner⟩ := t
  simp only [txT, List.length_append, List.length_cons, List.length_nil]
  omega
end Go.Proofs.YtidnnjgiogklaaaDoor

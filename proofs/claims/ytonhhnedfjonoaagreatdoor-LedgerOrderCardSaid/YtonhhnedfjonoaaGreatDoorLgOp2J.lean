/- Plain law: a sorted set is refused exactly where two of one source with one sequence stand beside each other. -/
import Derived.Test.YtonhhnedfjonoaaGreatDoorLgAcJ
import Derived.Test.YtonhhnedfjonoaaGreatDoorLgXmJ
set_option linter.unusedSimpArgs false
set_option linter.unusedVariables false
namespace Go.Proofs.YtonhhnedfjonoaaGreatDoor
open Go.RowKit

def sameK (a b : Txn) : Bool := decide (a.src = b.src) && decide (a.seq = b.seq)
def tx00 : Txn := ⟨0, 0, 0, []⟩
/-- Whether among the first i there are two of one key beside each other. -/
def twB (L : List Txn) : Nat → Bool
  | 0 => false
  | i + 1 => twB L i || (decide (0 < i) && sameK (L.getD (i - 1) tx00) (L.getD i tx00))
theorem twB_iff (L : List Txn) : ∀ i, twB L i = true ↔ ∃ k, 0 < k ∧ k < i ∧ sameK (L.getD (k - 1) tx00) (L.getD k tx00) = true
  | 0 => by simp [twB]
  | i + 1 => by
    rw [twB, Bool.or_eq_true, Bool.and_eq_true, twB_iff L i, decide_eq_true_iff]
    constructor
    · rintro (⟨k, h1, h2, h3⟩ | ⟨h1, h2⟩)
      · exact ⟨k, h1, by omega, h3⟩
      · exact ⟨i, h1, by omega, h2⟩
    · rintro ⟨k, h1, h2, h3⟩
      by_cases hk : k = i
      · subst hk; exact .inr ⟨h1, h3⟩
      · exact .inl ⟨k, h1, by omega, h3⟩
theorem chk_tw {L : List Txn} (h1 : L.length ≤ 12) (h2 : ∀ t ∈ L, vTx t = true) (h3 : L.Pairwise (fun a b => ltTx b a = false)) : chkT L = if twB L L.length = true then 7 else 0 := by
  unfold chkT
  rw [if_neg (by omega), if_neg (by rw [List.all_eq_true.2 h2]; simp)]
  have hadj : ∀ k, 0 < k → k < L.length → (ltTx (L.getD (k - 1) tx00) (L.getD k tx00) = true ↔ sameK (L.getD (k - 1) tx00) (L.getD k tx00) = false) := fun k h0 hk => by
    have hk1 : k - 1 < L.length := by omega
    have := List.pairwise_iff_getElem.1 h3 (k - 1) k hk1 hk (by omega)
    rw [List.getD_eq_getElem?_getD, List.getD_eq_getElem?_getD, List.getElem?_eq_getElem hk1, List.getElem?_eq_getElem hk, Option.getD_some, Option.getD_some]
    unfold ltTx sameK at *
    simp only [decide_eq_false_iff_not, decide_eq_true_eq, Bool.and_eq_false_iff] at *
    omega
  by_cases htw : twB L L.length = true
  · rw [if_pos htw, if_neg]
    obtain ⟨k, h0, hk, hs⟩ := (twB_iff L _).1 htw
    intro hok
    have := (okAll_true okTx L none).1 hok k hk
    unfold prevOf okTx at this
    rw [if_neg (by omega), List.getElem?_eq_getElem (by omega)] at this
    have h4 := (hadj k h0 hk).1 (by
      rw [List.getD_eq_getElem?_getD, List.getD_eq_getElem?_getD, List.getElem?_eq_getElem (show k - 1 < L.length by omega), List.getElem?_eq_getElem hk]
      exact this)
    rw [hs] at h4
    cases h4
  · rw [if_neg htw, if_pos]
    refine okAll_all fun k hk => ?_
    unfold prevOf okTx
    by_cases h0 : k = 0
    · rw [if_pos h0]
    · rw [if_neg h0, List.getElem?_eq_getElem (by omega)]
      have := (hadj k (by omega) hk).2 (by
        cases hq : sameK (L.getD (k - 1) tx00) (L.getD k tx00) with
        | false => rfl
        | true => exact absurd ((twB_iff L _).2 ⟨k, by omega, hk, hq⟩) htw)
      rw [List.getD_eq_getElem?_getD, List.getD_eq_getElem?_getD, List.getElem?_eq_getElem (show k - 1 < L.length by omega), List.getElem?_eq_getElem hk] at this
      exact this
theorem TxSm.of {t : TxX} (h : vTx t.pl = true) : TxSm t := by
  have h1 := vTx_parts h
  exact ⟨by have := h1.2.2.2.1; omega, fun x hx => by have := vOp_path (h1.2.2.2.2 x hx); omega⟩
theorem plT_mem {l : List TxX} {P : Txn → Prop} (h : ∀ t ∈ plT l, P t) : ∀ t ∈ l, P t.pl := fun t ht => h _ (List.mem_map_of_mem ht)
theorem plT_getD {l : List TxX} {k : Nat} (hk : k < l.length) : (plT l).getD k tx00 = l[k].pl := by
  unfold plT
  rw [List.getD_eq_getElem?_getD, List.getElem?_map, List.getElem?_eq_getElem hk]
  rfl
end Go.Proofs.YtonhhnedfjonoaaGreatDoor

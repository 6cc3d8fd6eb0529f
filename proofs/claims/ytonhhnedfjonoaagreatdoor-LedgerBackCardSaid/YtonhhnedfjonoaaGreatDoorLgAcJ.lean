/- Plain law: the text of a valid set is ASCII; when a set that ascends is right. -/
import Derived.Test.YtonhhnedfjonoaaGreatDoorLgStJ
set_option linter.unusedSimpArgs false
set_option linter.unusedVariables false
namespace Go.Proofs.YtonhhnedfjonoaaGreatDoor
open Go.RowKit

theorem dg_ac {c : UInt8} (hc : 128 ≤ c.toNat) : isDg c = false := by
  unfold isDg
  exact decide_eq_false (by omega)
theorem itoa_ac {k : Int} (h : 0 ≤ k) {c : UInt8} (hc : 128 ≤ c.toNat) : Noc c (Lib.itoa k) := itoa_noc h (dg_ac hc)
theorem k_ac {c k : UInt8} (hc : 128 ≤ c.toNat) (hk : k = 99 ∨ k = 112 ∨ k = 116 ∨ k = 111 ∨ k = 120 ∨ k = 115) : k ≠ c := fun e => by
  subst e
  rcases hk with rfl | rfl | rfl | rfl | rfl | rfl <;> exact absurd hc (by decide)
theorem one_ac {c k : UInt8} (hc : 128 ≤ c.toNat) (hk : k.toNat < 128) : Noc c [k] := fun b hb e => by
  rw [List.mem_singleton.1 hb] at e
  subst e
  omega
theorem txtA_ac {a : Ast} (h : vAst a = true) {c : UInt8} (hc : 128 ≤ c.toNat) : Noc c (txtA a) := by
  rcases vAst_cases h with rfl | ⟨hn, h1, h2, h3, h4⟩
  · unfold txtA
    rw [if_pos rfl]
    exact one_ac hc (by decide)
  · unfold txtA
    rw [if_neg hn]
    refine Noc.app (fun d hd e => ?_) (itoa_ac (by omega) hc)
    have := h4 d hd
    rw [e] at this
    omega
theorem wdsO_ac {o : Opr} (h : vOp o = true) {c : UInt8} (hc : 128 ≤ c.toNat) : ∀ x ∈ wdsO o, Noc c x := by
  rcases vo_of h with ⟨k, h1, h2, _⟩ | ⟨k, h1, h2, h3, _⟩ | ⟨k, h1, h2, _⟩ | ⟨k, h1, h2, h3, h4, _⟩ | ⟨k, h1, _⟩ | ⟨k, h1, h2, h3, h4, h5, h6⟩
  · unfold wdsO
    rw [if_pos k]
    intro x hx
    simp only [List.mem_cons, List.not_mem_nil, or_false] at hx
    rcases hx with rfl | rfl
    · exact (itoa_ac (by omega) hc).cons (k_ac hc (by simp))
    · exact itoa_ac (by omega) hc
  · unfold wdsO
    rw [if_neg (by omega), if_pos k]
    intro x hx
    simp only [List.mem_cons, List.not_mem_nil, or_false] at hx
    rcases hx with rfl | rfl | rfl
    · exact (itoa_ac (by omega) hc).cons (k_ac hc (by simp))
    · exact itoa_ac (by omega) hc
    · exact txtA_ac h3 hc
  · unfold wdsO
    rw [if_neg (by omega), if_neg (by omega), if_pos k]
    intro x hx
    simp only [List.mem_cons, List.not_mem_nil, or_false] at hx
    rcases hx with rfl | rfl
    · exact (txtA_ac h2 hc).cons (k_ac hc (by simp))
    · exact itoa_ac (by omega) hc
  · unfold wdsO
    rw [if_neg (by omega), if_neg (by omega), if_neg (by omega), if_pos k]
    intro x hx
    simp only [List.mem_cons, List.not_mem_nil, or_false] at hx
    rcases hx with rfl | rfl | rfl | rfl | rfl
    · exact (itoa_ac (by omega) hc).cons (k_ac hc (by simp))
    · exact txtA_ac h2 hc
    · exact txtA_ac h3 hc
    · exact itoa_ac (by omega) hc
    · exact itoa_ac (by omega) hc
  · unfold wdsO
    rw [if_neg (by omega), if_neg (by omega), if_neg (by omega), if_neg (by omega), if_pos k]
    intro x hx
    simp only [List.mem_cons, List.not_mem_nil, or_false] at hx
    rw [hx]
    exact (itoa_ac (by omega) hc).cons (k_ac hc (by simp))
  · unfold wdsO
    rw [if_neg (by omega), if_neg (by omega), if_neg (by omega), if_neg (by omega), if_neg (by omega), if_pos k]
    intro x hx
    simp only [List.mem_cons, List.mem_map] at hx
    rcases hx with rfl | rfl | rfl | rfl | rfl | ⟨a, ha, rfl⟩
    · exact (itoa_ac (by omega) hc).cons (k_ac hc (by simp))
    · exact itoa_ac (by omega) hc
    · exact txtA_ac h4 hc
    · exact itoa_ac (by omega) hc
    · exact txtA_ac h5 hc
    · exact txtA_ac (h6.2 a ha) hc
theorem txtO_ac {o : Opr} (h : vOp o = true) {c : UInt8} (hc : 128 ≤ c.toNat) : Noc c (txtO o) := Noc.join (one_ac hc (by decide)) _ (wdsO_ac h hc)
theorem txtT_ac {t : Txn} (h : VT t) {c : UInt8} (hc : 128 ≤ c.toNat) : Noc c (txtT t) := by
  refine Noc.join (one_ac hc (by decide)) _ ?_
  intro x hx
  unfold wdsT at hx
  simp only [List.mem_cons, List.mem_map] at hx
  rcases hx with rfl | rfl | rfl | ⟨o, ho, rfl⟩
  · exact itoa_ac (by have := h.1; omega) hc
  · exact itoa_ac (by have := h.2.1; omega) hc
  · exact itoa_ac (by have := h.2.2.1; omega) hc
  · exact txtO_ac (h.2.2.2.2 o ho) hc
/-- The text of a right set is ASCII. -/
theorem txtS_ac {l : List Txn} (h : ∀ t ∈ l, vTx t = true) : ∀ c ∈ txtS l, c.toNat < 128 := fun c hc => by
  rcases Nat.lt_or_ge c.toNat 128 with hh | hh
  · exact hh
  · exfalso
    unfold txtS at hc
    split at hc
    · rw [List.mem_singleton.1 hc] at hh
      exact absurd hh (by decide)
    · refine Noc.join (one_ac hh (by decide)) _ (fun x hx => ?_) c hc rfl
      obtain ⟨t, ht, rfl⟩ := List.mem_map.1 hx
      exact txtT_ac (vt_of (h t ht)) hh
/-- A set that ascends strictly is right. -/
theorem chkT_up {l : List Txn} (h1 : l.length ≤ 12) (h2 : ∀ t ∈ l, vTx t = true) (h3 : l.Pairwise (fun a b => ltTx a b = true)) : chkT l = 0 := by
  unfold chkT
  rw [if_neg (by omega), if_neg (by rw [List.all_eq_true.2 h2]; simp), if_pos]
  refine okAll_all fun k hk => ?_
  unfold prevOf okTx
  by_cases h0 : k = 0
  · rw [if_pos h0]
  · rw [if_neg h0]
    have hk1 : k - 1 < l.length := by omega
    rw [List.getElem?_eq_getElem hk1]
    exact List.pairwise_iff_getElem.1 h3 (k - 1) k hk1 hk (by omega)
theorem ltTx_asymm (a b : Txn) (h : ltTx a b = true) : ltTx b a = false := by
  unfold ltTx at *
  simp only [decide_eq_true_eq, decide_eq_false_iff_not] at *
  omega
theorem ltTx_trans (a b c : Txn) (h : ltTx a b = false) (k : ltTx b c = false) : ltTx a c = false := by
  unfold ltTx at *
  simp only [decide_eq_false_iff_not] at *
  omega
theorem ltTx_src {a b : Txn} (h : a.src < b.src) : ltTx a b = true := by unfold ltTx; exact decide_eq_true (.inl h)
theorem pw_pl {l : List TxX} (h : l.Pairwise (fun a b => a.src < b.src)) : (plT l).Pairwise (fun a b => ltTx a b = true) := by
  unfold plT
  rw [List.pairwise_map]
  exact h.imp fun h => ltTx_src h
end Go.Proofs.YtonhhnedfjonoaaGreatDoor

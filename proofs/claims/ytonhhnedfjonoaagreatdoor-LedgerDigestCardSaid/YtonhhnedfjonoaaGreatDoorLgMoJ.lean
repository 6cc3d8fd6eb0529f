/- Plain words for memory: own rows of records, a cell of one written. -/
import Derived.Test.YtonhhnedfjonoaaGreatDoorJL2
set_option linter.unusedSimpArgs false
set_option linter.unusedVariables false
namespace Go.Proofs.YtonhhnedfjonoaaGreatDoor
open Go.RowKit

theorem flR_set {α : Type} (R : Rec α) (u : Value) (y : α) (j : Nat) (hj : j < R.sz) : ∀ (l : List α) (k : Nat) (hk : k < l.length), (R.enc l[k]).set j u = R.enc y → (flR R l).set (k * R.sz + j) u = flR R (l.set k y)
  | x :: r, 0, _, h => by
    have h : (R.enc x).set j u = R.enc y := h
    rw [flR_cons, Nat.zero_mul, Nat.zero_add, List.set_append_left _ _ (by rw [R.len]; exact hj), h]
    rfl
  | x :: r, k + 1, hk, h => by
    have e : (k + 1) * R.sz + j - (R.enc x).length = k * R.sz + j := by rw [R.len, Nat.succ_mul]; omega
    rw [flR_cons, List.set_append_right _ _ (by rw [R.len, Nat.succ_mul]; omega), e, flR_set R u y j hj r k (by simpa using hk) (by simpa using h)]
    rfl
theorem own_set7 {w : World} {base : Nat} {e : TypeId} {size b n c : Nat} {xs : List Value} (h : w.ownsRow base e size (.slice (some ⟨b, 0, none⟩) n c) n xs) (i : Nat) (u : Value) :
    (w.setCell ⟨b, i, none⟩ u).ownsRow base e size (.slice (some ⟨b, 0, none⟩) n c) n (xs.set i u) := by
  obtain ⟨hl, h2⟩ := h
  refine ⟨by simpa using hl, .inr ?_⟩
  rcases h2 with ⟨h, _⟩ | ⟨g, cap, cur, e1, hg, hh, hnc, hm, hs, ht⟩
  · cases h
  · injection e1 with e1 _ e3
    injection e1 with e1
    injection e1 with e1
    subst e1 e3
    refine ⟨b, c, _, rfl, hg, blk_set hh i u, hnc, hm, by simpa using hs, ?_⟩
    rw [Array.toList_setIfInBounds, List.take_set, ht]
theorem own_free7 {w : World} {base : Nat} {e : TypeId} {size b n c : Nat} {xs : List Value} (h : w.ownsRow base e size (.slice (some ⟨b, 0, none⟩) n c) n xs) : (∀ i, w.frozen? ⟨b, i, none⟩ = false) ∧ (∀ i u, xs[i]? = some u → w.cell? ⟨b, i, none⟩ = some u) ∧ b < w.heap.size ∧ base ≤ b ∧ n ≤ c ∧ c ≤ maxLen := by
  obtain ⟨hl, h2⟩ := h
  rcases h2 with ⟨h, _⟩ | ⟨g, cap, cur, e1, hg, hh, hnc, hm, hs, ht⟩
  · cases h
  · injection e1 with e1 _ e3
    injection e1 with e1
    injection e1 with e1
    subst e1 e3
    refine ⟨fun i => blk_free hh i, fun i u hu => ?_, blk_lt hh, hg, hnc, hm⟩
    rw [blk_cell hh i, ← Array.getElem?_toList]
    rw [← ht, List.getElem?_take] at hu
    split at hu
    · exact hu
    · cases hu
theorem own_some {w : World} {base : Nat} {e : TypeId} {size n c : Nat} {A : Option Addr} {xs : List Value} (h : w.ownsRow base e size (.slice A n c) n xs) (hn : 0 < n) : ∃ b, A = some ⟨b, 0, none⟩ := by
  rcases h.2 with ⟨_, h0⟩ | ⟨g, cap, cur, e1, _⟩
  · omega
  · injection e1 with e1 _ _
    exact ⟨g, e1⟩
theorem own_cap {w : World} {base : Nat} {e : TypeId} {size n c : Nat} {A : Option Addr} {xs : List Value} (h : w.ownsRow base e size (.slice A n c) n xs) : n ≤ c ∧ c ≤ 9223372036854775807 := by
  rcases h.2 with ⟨h1, h0⟩ | ⟨g, cap, cur, e1, _, _, h1, h2, _⟩
  · injection h1 with _ _ h1; omega
  · injection e1 with _ _ e1
    unfold maxLen at h2
    omega
theorem own_bs {w : World} {b b' : Nat} {e : TypeId} {size n : Nat} {v : Value} {xs : List Value} (h : w.ownsRow b e size v n xs) (hb : b' ≤ b) : w.ownsRow b' e size v n xs := by
  refine ⟨h.1, ?_⟩
  rcases h.2 with h0 | ⟨g, cap, cur, hv, hg, rest⟩
  · exact .inl h0
  · exact .inr ⟨g, cap, cur, hv, by omega, rest⟩
theorem own_emp {w w' : World} (e : TypeId) (size B : Nat) (hB : B ≤ w.heap.size) (hw : w' = w.alloc (.cells #[] e)) : w'.ownsRow B e size (.slice (some ⟨w.heap.size, 0, none⟩) 0 0) 0 [] := by
  subst hw
  exact ⟨by simp, .inr ⟨w.heap.size, 0, #[], rfl, hB, heap_alloc_new w _, Nat.le_refl _, by unfold maxLen; omega, by simp, by simp⟩⟩
/-- A row that is apart from the block that is written. -/
theorem own_ap {w w' : World} {base : Nat} {e : TypeId} {size n : Nat} {v : Value} {xs : List Value} {r : Option Nat} (h : w.ownsRow base e size v n xs) (f : Fr r w w') (hr : ∀ b, v.ownBlock = some b → r ≠ some b) : w'.ownsRow base e size v n xs := by
  refine h.kept f ?_
  cases hv : v.ownBlock with
  | none => exact .inl rfl
  | some k => exact .inr fun e => hr k hv e.symm
end Go.Proofs.YtonhhnedfjonoaaGreatDoor

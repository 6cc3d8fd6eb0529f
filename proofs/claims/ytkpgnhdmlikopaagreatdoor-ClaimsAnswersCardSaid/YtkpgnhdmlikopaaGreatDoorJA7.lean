/- Some texts of this claim, joined: contracts of the functions that it reaches, and plain laws. -/
import Derived.Test.YtkpgnhdmlikopaaGreatDoorJA2
import Derived.Shelf.GgSortFunc.RowK
import Derived.Lib.SliceRun
import Derived.Laws.IdiomCopy

set_option linter.unusedSimpArgs false
set_option linter.unusedVariables false
/- Plain words for memory: rows of claims in a block of one's own, rewritten in place. -/
namespace Go.Proofs.YtkpgnhdmlikopaaGreatDoor
open Go.RowKit

/-- A row of claims at the head of block g. -/
def RwC (w : World) (g : Nat) (l : List Cl) : Prop := g < w.heap.size ∧ ∀ i (hi : i < l.length), (w.cell? ⟨g, i * 2, none⟩ = some (.int .i64 l[i].1) ∧ w.cell? ⟨g, i * 2 + 1, none⟩ = some (.int .i64 l[i].2)) ∧ w.frozen? ⟨g, i * 2, none⟩ = false ∧ w.frozen? ⟨g, i * 2 + 1, none⟩ = false
theorem RwC.fr {w w' : World} {g : Nat} {l : List Cl} {r : Option Nat} (h : RwC w g l) (f : Fr r w w') (hr : r ≠ some g) : RwC w' g l := by
  obtain ⟨hg, h⟩ := h
  have hr' : some g ≠ r := fun e => hr e.symm
  refine ⟨Nat.lt_of_lt_of_le hg f.size, fun i hi => ?_⟩
  obtain ⟨⟨h1, h2⟩, h3, h4⟩ := h i hi
  exact ⟨⟨f.keep h1 hr', f.keep h2 hr'⟩, by rw [f.frozen hg hr']; exact h3, by rw [f.frozen hg hr']; exact h4⟩
theorem RwC.set {w : World} {g : Nat} {l : List Cl} (h : RwC w g l) (k : Nat) (hk : k < l.length) (x : Cl) : RwC ((w.setCell ⟨g, k * 2, none⟩ (.int .i64 x.1)).setCell ⟨g, k * 2 + 1, none⟩ (.int .i64 x.2)) g (l.set k x) := by
  obtain ⟨hg, h⟩ := h
  refine ⟨by simpa [World.setCell] using hg, fun i hi => ?_⟩
  have hi' : i < l.length := by simpa using hi
  obtain ⟨⟨h1, h2⟩, h3, h4⟩ := h i hi'
  refine ⟨?_, by simpa using h3, by simpa using h4⟩
  by_cases e : i = k
  · subst e
    refine ⟨?_, ?_⟩
    · rw [World.cell?_setCell_other _ _ _ _ (by simp), World.cell?_setCell_same _ _ _ h1]; simp
    · rw [World.cell?_setCell_same (u := .int .i64 l[i].2)]
      · simp
      · rw [World.cell?_setCell_other _ _ _ _ (by simp)]; exact h2
  · have e1 : (⟨g, k * 2 + 1, none⟩ : Addr) ≠ ⟨g, i * 2, none⟩ := fun q => by have := congrArg Addr.off q; simp only at this; omega
    have e2 : (⟨g, k * 2, none⟩ : Addr) ≠ ⟨g, i * 2, none⟩ := fun q => by have := congrArg Addr.off q; simp only at this; omega
    have e3 : (⟨g, k * 2 + 1, none⟩ : Addr) ≠ ⟨g, i * 2 + 1, none⟩ := fun q => by have := congrArg Addr.off q; simp only at this; omega
    have e4 : (⟨g, k * 2, none⟩ : Addr) ≠ ⟨g, i * 2 + 1, none⟩ := fun q => by have := congrArg Addr.off q; simp only at this; omega
    rw [World.cell?_setCell_other _ _ _ _ e1, World.cell?_setCell_other _ _ _ _ e2, World.cell?_setCell_other _ _ _ _ e3, World.cell?_setCell_other _ _ _ _ e4, List.getElem_set_ne (by omega)]
    exact ⟨h1, h2⟩
theorem RwC.pre {w : World} {g : Nat} {l : List Cl} (h : RwC w g l) (n : Nat) : RwC w g (l.take n) :=
  ⟨h.1, fun i hi => by
    have hi' : i < l.length := by simp at hi; omega
    have := h.2 i hi'
    simpa using this⟩
/-- The cells behind the first k claims are set to zero. -/
theorem RwC.cleared {w : World} {g : Nat} {l : List Cl} (h : RwC w g l) (k : Nat) (vs : List Value) : RwC (w.setCells g (k * 2) vs) g (l.take k) := by
  obtain ⟨hg, h⟩ := h
  refine ⟨by
    have : (w.setCells g (k * 2) vs).heap.size = w.heap.size := by
      have : ∀ (vs : List Value) (o : Nat) (w : World), (w.setCells g o vs).heap.size = w.heap.size := by
        intro vs
        induction vs with
        | nil => intro o w; rfl
        | cons v r ih => intro o w; show ((w.setCell _ v).setCells g (o + 1) r).heap.size = _; rw [ih]; simp [World.setCell]
      exact this vs _ w
    omega, fun i hi => ?_⟩
  have hi1 : i < k := by simp at hi; omega
  have hi' : i < l.length := by simp at hi; omega
  obtain ⟨⟨h1, h2⟩, h3, h4⟩ := h i hi'
  rw [World.cell?_setCells_out g vs _ w _ (fun _ _ => .inl (by simp; omega)), World.cell?_setCells_out g vs _ w _ (fun _ _ => .inl (by simp; omega)), World.frozen?_setCells, World.frozen?_setCells]
  simpa using ⟨⟨h1, h2⟩, h3, h4⟩
theorem fr_setCells (w : World) (g o : Nat) (vs : List Value) : Fr (some g) w (w.setCells g o vs) := by
  induction vs generalizing w o with
  | nil => exact Fr.refl _ _
  | cons v r ih => exact (Fr.set1 w ⟨g, o, none⟩ v).same (ih _ _)
/-- 'clear' on what is behind the first k claims. -/
theorem run_clearC {P : Program} (w : World) (t e ty : TypeId) (ht : P.underlying t = some (.slice e)) (hv : ∀ w, (zeroValue e).run P w = .ok (.agg #[.int .i64 0, .int .i64 0]) w) (g k n c : Nat) (l : List Cl) (h : RwC w g l) (hk : k < l.length) (hn : n + k = l.length) :
    (Builtin.clear_ #[t] ty #[.slice (some ⟨g, k * 2, none⟩) n c]).run P w = .ok (.tuple #[]) (w.setCells g (k * 2) (Builtin.zeroCells #[.int .i64 0, .int .i64 0] n).toList) := by
  have hzs : (Builtin.zeroCells #[.int .i64 0, .int .i64 0] n).toList.length = n * 2 := by simp [Builtin.zeroCells]
  have h1 : ∀ j, j < n * 2 → (w.cell? ⟨g, k * 2 + j, none⟩).isSome = true ∧ w.frozen? ⟨g, k * 2 + j, none⟩ = false := by
    intro j hj
    obtain ⟨⟨c1, c2⟩, f1, f2⟩ := h.2 (k + j / 2) (by omega)
    rcases Nat.mod_two_eq_zero_or_one j with e | e
    · rw [show k * 2 + j = (k + j / 2) * 2 by omega, c1, f1]; exact ⟨rfl, rfl⟩
    · rw [show k * 2 + j = (k + j / 2) * 2 + 1 by omega, c2, f2]; exact ⟨rfl, rfl⟩
  have hst := run_storeCells_cells (P := P) g (k * 2) (Builtin.zeroCells #[.int .i64 0, .int .i64 0] n).toList 0 w (fun j hj => by rw [hzs] at hj; simpa using (h1 j hj).1) (fun j hj => by rw [hzs] at hj; simpa using (h1 j hj).2) (fun v hv => by
    simp only [Builtin.zeroCells, Array.toList_map, List.mem_map] at hv
    obtain ⟨i, _, rfl⟩ := hv
    rcases Nat.mod_two_eq_zero_or_one i with e | e <;> simp [e, Value.oneCell'])
  simp only [Nat.add_zero] at hst
  obtain ⟨m, rfl⟩ : ∃ m, n = m + 1 := ⟨n - 1, by omega⟩
  simp [Builtin.clear_, run_underlying ht, hv, Value.cells, hst]

/-- A slice of claims in a block of the call's own, from block base on. -/
def OwnC (w : World) (base : Nat) (v : Value) (l : List Cl) : Prop :=
  ∃ A c, v = .slice A l.length c ∧ l.length ≤ c ∧ c ≤ maxLen ∧ (0 < l.length → ∃ g, A = some ⟨g, 0, none⟩ ∧ base ≤ g ∧ RwC w g l)
theorem OwnC.sl {w : World} {base : Nat} {v : Value} {l : List Cl} (h : OwnC w base v l) : SlD w (Dn base w) 2 v (flC l) := by
  obtain ⟨A, c, rfl, h1, h2, h3⟩ := h
  refine ⟨A, l.length, c, rfl, flC_len l, h1, h2, fun hn => ?_⟩
  obtain ⟨g, rfl, hb, hg, hh⟩ := h3 hn
  refine ⟨g, 0, rfl, ⟨hb, hg⟩, fun j u hu => ?_⟩
  have hj : j < l.length * 2 := by
    have := (List.getElem?_eq_some_iff.1 hu).1
    rwa [flC_len] at this
  have hc := hh (j / 2) (by omega)
  have hf := flC_get l (j / 2) (by omega)
  rw [Nat.zero_add]
  rcases Nat.mod_two_eq_zero_or_one j with e | e
  · rw [show j / 2 * 2 = j by omega] at hc hf
    rw [hc.1.1, ← hf.1]; exact hu
  · rw [show j / 2 * 2 + 1 = j by omega] at hc hf
    rw [hc.1.2, ← hf.2]; exact hu
theorem RwC.of_blk {w : World} {g : Nat} {cur : Array Value} {t : TypeId} {l : List Cl} {n : Nat} (h : w.heap[g]? = some (.cells cur t (0, 0))) (ht : cur.toList.take n = flC l) : RwC w g l := by
  refine ⟨blk_lt h, fun i hi => ?_⟩
  have hf := flC_get l i hi
  have hc : ∀ (k : Nat) (u : Value), (flC l)[k]? = some u → w.cell? ⟨g, k, none⟩ = some u := fun k u hu => by
    rw [blk_cell h k, ← Array.getElem?_toList]
    rw [← ht, List.getElem?_take] at hu
    split at hu
    · exact hu
    · cases hu
  exact ⟨⟨hc _ _ hf.1, hc _ _ hf.2⟩, blk_free h _, blk_free h _⟩
theorem OwnC.of_own {w : World} {base : Nat} {e : TypeId} {v : Value} {l : List Cl} (h : w.ownsRow base e 2 v l.length (flC l)) : OwnC w base v l := by
  rcases h.2 with ⟨rfl, h0⟩ | ⟨g, cap, cur, rfl, hg, hb, hnc, hm, hs, ht⟩
  · exact ⟨none, 0, by rw [h0], by omega, by unfold maxLen; omega, fun h => by omega⟩
  · exact ⟨_, cap, rfl, hnc, hm, fun _ => ⟨g, rfl, hg, RwC.of_blk hb ht⟩⟩

/-- The kit's rows. -/
theorem flatK_flC (l : List Cl) : (Sort.flatK encC 2 l.toArray).toList = flC l := by
  apply List.ext_getElem?
  intro j
  by_cases hj : j < l.length * 2
  · have hf := flC_get l (j / 2) (by omega)
    have e1 : (Sort.flatK encC 2 l.toArray).toList[j]? = some ((encC l.toArray[j / 2]!)[j % 2]!) := by
      simp [Sort.flatK, hj]
    rw [e1]
    have e2 : l.toArray[j / 2]! = l[j / 2]'(by omega) := by rw [getElem!_pos l.toArray (j / 2) (by simp; omega)]; simp
    rw [e2]
    rcases Nat.mod_two_eq_zero_or_one j with e | e
    · rw [show j / 2 * 2 = j by omega] at hf
      rw [hf.1, e]; rfl
    · rw [show j / 2 * 2 + 1 = j by omega] at hf
      rw [hf.2, e]; rfl
  · rw [List.getElem?_eq_none (by simp; omega), List.getElem?_eq_none (by rw [flC_len]; omega)]
theorem RwC.holds {w : World} {g : Nat} {l : List Cl} (h : RwC w g l) : Sort.HoldsK encC 2 w g 0 l.toArray := by
  intro j hj
  have hj' : j < l.length * 2 := by simpa using hj
  have hc := h.2 (j / 2) (by omega)
  have hf := flC_get l (j / 2) (by omega)
  have hx : (Sort.flatK encC 2 l.toArray)[j]? = (flC l)[j]? := by rw [← flatK_flC, Array.getElem?_toList]
  have hg : some ((Sort.flatK encC 2 l.toArray)[j]!) = (flC l)[j]? := by rw [← hx, Array.getElem?_eq_getElem hj, getElem!_pos _ j hj]
  rw [Nat.zero_add]
  show _ = some _ ∧ _
  rw [show id (Sort.flatK encC 2 l.toArray)[j]! = (Sort.flatK encC 2 l.toArray)[j]! from rfl, hg]
  rcases Nat.mod_two_eq_zero_or_one j with e | e
  · rw [show j / 2 * 2 = j by omega] at hc hf
    rw [hf.1]; exact ⟨hc.1.1, hc.2.1⟩
  · rw [show j / 2 * 2 + 1 = j by omega] at hc hf
    rw [hf.2]; exact ⟨hc.1.2, hc.2.2⟩
theorem RwC.of_holds {w : World} {g : Nat} {l : List Cl} (hg : g < w.heap.size) (h : Sort.HoldsK encC 2 w g 0 l.toArray) : RwC w g l := by
  refine ⟨hg, fun i hi => ?_⟩
  have h0 := h.cell (i := i) (c := 0) (by simpa using hi) (by omega)
  have h1 := h.cell (i := i) (c := 1) (by simpa using hi) (by omega)
  have e2 : l.toArray[i]! = l[i] := by rw [getElem!_pos l.toArray i (by simpa using hi)]; simp
  rw [e2] at h0 h1
  simp only [Nat.zero_add, Nat.add_zero] at h0 h1
  exact ⟨⟨h0.1, h1.1⟩, h0.2, h1.2⟩
end Go.Proofs.YtkpgnhdmlikopaaGreatDoor

/- Trusts as they come in: of whatever size (each list shorter than 2^44). Small ones read as trusts (TrR). No program in sight. -/
import Derived.Test.YtoblhcieidljjaaGreatDoorJG1
set_option linter.unusedSimpArgs false
set_option linter.unusedVariables false
namespace Go.Proofs.YtoblhcieidljjaaGreatDoor
open Go.RowKit

mutual
/-- The struct value v reads as the trust. -/
def RwD (w : World) : Value → Tr → Prop
  | v, .mk thr nodes inner => ∃ vn vi cells, v = .agg #[.int .i64 thr, vn, vi] ∧ Wi thr ∧ SlD w (Dm w none) 1 vn (nodes.map (Value.int .i64)) ∧ (∀ n ∈ nodes, Wi n) ∧ SlD w (Dm w none) 3 vi cells ∧
      nodes.length ≤ 17592186044416 ∧ inner.length ≤ 17592186044416 ∧ RwsD w cells inner
def RwsD (w : World) : List Value → List Tr → Prop
  | cells, [] => cells = []
  | cells, x :: r => ∃ a b c rest, cells = a :: b :: c :: rest ∧ RwD w (.agg #[a, b, c]) x ∧ RwsD w rest r
end
mutual
theorem RwD.keep {w w' : World} (F : Fr none w w') : ∀ (t : Tr) (v : Value), RwD w v t → RwD w' v t
  | .mk thr nodes inner, v, h => by
    simp only [RwD] at h ⊢
    obtain ⟨vn, vi, cells, e, h0, h1, h2, h3, h4, h5, h6⟩ := h
    exact ⟨vn, vi, cells, e, h0, h1.keep (fr_dm F), h2, h3.keep (fr_dm F), h4, h5, RwsD.keep F inner cells h6⟩
theorem RwsD.keep {w w' : World} (F : Fr none w w') : ∀ (l : List Tr) (cells : List Value), RwsD w cells l → RwsD w' cells l
  | [], cells, h => by simp only [RwsD] at h ⊢; exact h
  | x :: r, cells, h => by
    simp only [RwsD] at h ⊢
    obtain ⟨a, b, c, rest, e, h1, h2⟩ := h
    exact ⟨a, b, c, rest, e, RwD.keep F x _ h1, RwsD.keep F r rest h2⟩
end
theorem RwD.fr {w w' : World} {v : Value} {t : Tr} (h : RwD w v t) (F : Fr none w w') : RwD w' v t := RwD.keep F t v h
mutual
/-- A small one reads as a trust. -/
theorem RwD.trust {w : World} : ∀ (t : Tr) (v : Value), t.size ≤ 1073741824 → RwD w v t → TrD w (Dm w none) v t
  | .mk thr nodes inner, v, hs, h => by
    simp only [RwD] at h
    simp only [Tr.size] at hs
    obtain ⟨vn, vi, cells, e, h0, h1, h2, h3, h4, h5, h6⟩ := h
    simp only [TrD]
    exact ⟨vn, vi, cells, e, h0, h1, h2, h3, by unfold Few; omega, by unfold Few; omega, RwsD.trust inner cells (by omega) h6⟩
theorem RwsD.trust {w : World} : ∀ (l : List Tr) (cells : List Value), sizeL l ≤ 1073741824 → RwsD w cells l → TrsD w (Dm w none) cells l
  | [], cells, _, h => by simp only [RwsD] at h; simp only [TrsD]; exact h
  | x :: r, cells, hs, h => by
    simp only [RwsD] at h
    simp only [sizeL] at hs
    obtain ⟨a, b, c, rest, e, h1, h2⟩ := h
    simp only [TrsD]
    exact ⟨a, b, c, rest, e, RwD.trust x _ (by omega) h1, RwsD.trust r rest (by omega) h2⟩
end
theorem RwD.small {w : World} {t : Tr} {v : Value} (h : RwD w v t) (hs : t.size ≤ 1073741824) : TrR w none v t := RwD.trust t v hs h

theorem RwsD.len {w : World} : ∀ {l : List Tr} {cells : List Value}, RwsD w cells l → cells.length = l.length * 3
  | [], cells, h => by simp only [RwsD] at h; simp [h]
  | x :: r, cells, h => by
    simp only [RwsD] at h
    obtain ⟨a, b, c, rest, rfl, _, h2⟩ := h
    have := RwsD.len h2
    simp only [List.length_cons, this]
    omega
theorem RwsD.get {w : World} : ∀ {l : List Tr} {cells : List Value}, RwsD w cells l → ∀ k (hk : k < l.length),
    ∃ a b c, cells[k * 3]? = some a ∧ cells[k * 3 + 1]? = some b ∧ cells[k * 3 + 2]? = some c ∧ RwD w (.agg #[a, b, c]) l[k]
  | [], cells, h, k, hk => absurd hk (by simp)
  | x :: r, cells, h, k, hk => by
    simp only [RwsD] at h
    obtain ⟨a, b, c, rest, rfl, h1, h2⟩ := h
    cases k with
    | zero => exact ⟨a, b, c, rfl, rfl, rfl, h1⟩
    | succ k =>
      obtain ⟨a', b', c', g1, g2, g3, g4⟩ := RwsD.get h2 k (by simpa using hk)
      refine ⟨a', b', c', ?_, ?_, ?_, g4⟩
      · rw [show (k + 1) * 3 = k * 3 + 1 + 1 + 1 from by omega]; simpa using g1
      · rw [show (k + 1) * 3 + 1 = k * 3 + 1 + 1 + 1 + 1 from by omega]; simpa using g2
      · rw [show (k + 1) * 3 + 2 = k * 3 + 2 + 1 + 1 + 1 from by omega]; simpa using g3
theorem RwD.shape {w : World} {v : Value} {t : Tr} (h : RwD w v t) :
    ∃ (th : Int) (A1 : Option Addr) (n1 c1 : Nat) (A2 : Option Addr) (n2 c2 : Nat), v = .agg #[.int .i64 th, .slice A1 n1 c1, .slice A2 n2 c2] := by
  obtain ⟨thr, nodes, inner⟩ := t
  simp only [RwD] at h
  obtain ⟨vn, vi, cells, rfl, h0, h1, h2, h3, h4, h5, h6⟩ := h
  obtain ⟨A, n, c, rfl, _⟩ := h1
  obtain ⟨A', n', c', rfl, _⟩ := h3
  exact ⟨thr, A, n, c, A', n', c', rfl⟩
theorem RwD.shape3 {w : World} {x y z : Value} {t : Tr} (h : RwD w (.agg #[x, y, z]) t) :
    ∃ (th : Int) (A1 : Option Addr) (n1 c1 : Nat) (A2 : Option Addr) (n2 c2 : Nat), x = .int .i64 th ∧ y = .slice A1 n1 c1 ∧ z = .slice A2 n2 c2 := by
  obtain ⟨th, A1, n1, c1, A2, n2, c2, e⟩ := h.shape
  simp only [Value.agg.injEq, Array.mk.injEq, List.cons.injEq, and_true] at e
  exact ⟨th, A1, n1, c1, A2, n2, c2, e.1, e.2.1, e.2.2⟩
theorem RwD.open_ {w : World} {v : Value} {thr : Int} {nodes : List Int} {inner : List Tr} (h : RwD w v (.mk thr nodes inner)) :
    ∃ A c A' c', v = .agg #[.int .i64 thr, .slice A nodes.length c, .slice A' inner.length c'] ∧ Wi thr ∧ nodes.length ≤ 17592186044416 ∧ inner.length ≤ 17592186044416 ∧ inner.length ≤ c' ∧ c' ≤ 9223372036854775807 ∧
      (0 < inner.length → ∃ b off, A' = some ⟨b, off, none⟩ ∧ b < w.heap.size ∧ ∀ k (hk : k < inner.length), ∃ x y z, w.cell? ⟨b, off + k * 3, none⟩ = some x ∧ w.cell? ⟨b, off + k * 3 + 1, none⟩ = some y ∧ w.cell? ⟨b, off + k * 3 + 2, none⟩ = some z ∧ RwD w (.agg #[x, y, z]) inner[k]) := by
  simp only [RwD] at h
  obtain ⟨vn, vi, cells, rfl, h0, h1, h2, h3, h4, h5, h6⟩ := h
  obtain ⟨A, n, c, rfl, hl, hc, hm, hx⟩ := h1
  obtain ⟨A', n', c', rfl, hl', hc', hm', hx'⟩ := h3
  have hlen := h6.len
  have hn' : n' = inner.length := by omega
  have hn : n = nodes.length := by simpa using hl.symm
  subst hn' hn
  unfold maxLen at hm hm'
  refine ⟨A, c, A', c', rfl, h0, h4, h5, hc', hm', fun hp => ?_⟩
  obtain ⟨b, off, rfl, hb, hx⟩ := hx' hp
  refine ⟨b, off, rfl, hb.1, fun k hk => ?_⟩
  obtain ⟨x, y, z, g1, g2, g3, g4⟩ := h6.get k hk
  exact ⟨x, y, z, hx _ _ g1, hx _ _ g2, hx _ _ g3, g4⟩
end Go.Proofs.YtoblhcieidljjaaGreatDoor

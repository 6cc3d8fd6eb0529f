/- The text of a trust, plain: as it is written, how long it is. -/
import Derived.Test.YtpdhckbiioobhaaGreatDoorTr
import Derived.Lib.Join
import Derived.Lib.ItoaLen
namespace Go.Proofs.YtpdhckbiioobhaaGreatDoor
open Go.RowKit

/-- The words of the nodes. -/
def ndW (l : List Int) : List (List UInt8) := l.map Lib.itoa
mutual
/-- The text of a trust. -/
def txT : Tr → List UInt8
  | .mk thr nodes inner => Lib.itoa thr ++ [32, 111, 102, 32, 40] ++ Lib.join (ndW nodes ++ txL inner) [44, 32] ++ [41]
def txL : List Tr → List (List UInt8)
  | [] => []
  | x :: r => txT x :: txL r
end
theorem txL_map : ∀ l : List Tr, txL l = l.map txT
  | [] => by simp [txL]
  | x :: r => by simp [txL, txL_map r]
theorem txL_take (l : List Tr) (k : Nat) (hk : k < l.length) : txL (l.take (k + 1)) = txL (l.take k) ++ [txT l[k]] := by
  rw [List.take_succ_eq_append_getElem hk, txL_map, txL_map, List.map_append]; rfl
theorem ndW_take (l : List Int) (k : Nat) (hk : k < l.length) : ndW (l.take (k + 1)) = ndW (l.take k) ++ [Lib.itoa l[k]] := by
  rw [List.take_succ_eq_append_getElem hk, ndW, ndW, List.map_append]; rfl
theorem txL_len (l : List Tr) : (txL l).length = l.length := by rw [txL_map]; simp
theorem ndW_len (l : List Int) : (ndW l).length = l.length := by simp [ndW]

theorem join_snoc (sep x : List UInt8) : ∀ l : List (List UInt8), Lib.join (l ++ [x]) sep = Lib.join l sep ++ (if l = [] then [] else sep) ++ x
  | [] => by simp [Lib.join_one, Lib.join_nil]
  | y :: r => by
    rw [List.cons_append, Lib.join_cons, Lib.join_cons]
    simp [Lib.joinTail, List.append_assoc]
theorem join_len (sep : List UInt8) : ∀ l : List (List UInt8), (Lib.join l sep).length ≤ sep.length * l.length + Lib.lens l
  | [] => by simp [Lib.join_nil]
  | x :: r => by
    rw [Lib.join_length]
    have : sep.length * r.length ≤ sep.length * (r.length + 1) := Nat.mul_le_mul_left _ (by omega)
    simp only [List.length_cons]
    omega
theorem lens_append (a b : List (List UInt8)) : Lib.lens (a ++ b) = Lib.lens a + Lib.lens b := by simp [Lib.lens]
theorem itoa_len {n : Int} (h : Wi n) : (Lib.itoa n).length ≤ 21 := Lib.itoa_length_le n h.1 h.2
theorem ndW_lens : ∀ l : List Int, (∀ x ∈ l, Wi x) → Lib.lens (ndW l) ≤ 21 * l.length
  | [], _ => by simp [ndW, Lib.lens]
  | x :: r, h => by
    have h1 := itoa_len (h x (by simp))
    have h2 := ndW_lens r (fun y hy => h y (List.mem_cons_of_mem _ hy))
    simp only [ndW, Lib.lens, List.map_cons, List.sum_cons, List.length_cons] at *
    omega
mutual
/-- All numbers of a trust are ints. -/
def wiT : Tr → Prop
  | .mk thr nodes inner => Wi thr ∧ (∀ x ∈ nodes, Wi x) ∧ wiL inner
def wiL : List Tr → Prop
  | [] => True
  | x :: r => wiT x ∧ wiL r
end
mutual
theorem TrD.wi {w : World} {D : Nat → Prop} : ∀ (t : Tr) (v : Value), TrD w D v t → wiT t
  | .mk thr nodes inner, v, h => by
    simp only [TrD] at h
    obtain ⟨vn, vi, cells, e, h0, h1, h2, h3, h4, h5, h6⟩ := h
    simp only [wiT]
    exact ⟨h0, h2, TrsD.wi inner cells h6⟩
theorem TrsD.wi {w : World} {D : Nat → Prop} : ∀ (l : List Tr) (cells : List Value), TrsD w D cells l → wiL l
  | [], cells, h => by simp only [wiL]
  | x :: r, cells, h => by
    simp only [TrsD] at h
    obtain ⟨a, b, c, rest, e, h1, h2⟩ := h
    simp only [wiL]
    exact ⟨TrD.wi x _ h1, TrsD.wi r rest h2⟩
end
mutual
theorem txT_len : ∀ t : Tr, wiT t → (txT t).length ≤ 30 * t.size + 27
  | .mk thr nodes inner, h => by
    simp only [wiT] at h
    have h1 := itoa_len h.1
    have h2 := ndW_lens nodes h.2.1
    have h3 := txL_lens inner h.2.2
    have h4 := join_len [44, 32] (ndW nodes ++ txL inner)
    rw [lens_append, List.length_append, ndW_len, txL_len] at h4
    simp only [txT, Tr.size, List.length_append, List.length_cons, List.length_nil] at *
    omega
theorem txL_lens : ∀ l : List Tr, wiL l → Lib.lens (txL l) ≤ 30 * sizeL l + 27 * l.length
  | [], _ => by simp [txL, Lib.lens]
  | x :: r, h => by
    simp only [wiL] at h
    have h1 := txT_len x h.1
    have h2 := txL_lens r h.2
    simp only [txL, sizeL, Lib.lens, List.map_cons, List.sum_cons, List.length_cons] at *
    omega
end
theorem wiL_get : ∀ (l : List Tr) (k : Nat) (hk : k < l.length), wiL l → wiT l[k]
  | x :: r, 0, _, h => by simp only [wiL] at h; exact h.1
  | x :: r, k + 1, hk, h => by
    simp only [wiL] at h
    simpa using wiL_get r k (by simpa using hk) h.2
theorem wiL_take : ∀ (l : List Tr) (k : Nat), wiL l → wiL (l.take k)
  | [], k, h => by simpa using h
  | x :: r, 0, h => by simp only [List.take_zero, wiL]
  | x :: r, k + 1, h => by
    simp only [wiL, List.take_succ_cons] at h ⊢
    exact ⟨h.1, wiL_take r k h.2⟩
/-- The words of a trust, up to some of its nodes and inner trusts. -/
def wdT (nodes : List Int) (inner : List Tr) : List (List UInt8) := ndW nodes ++ txL inner
theorem wdT_lens (nodes : List Int) (inner : List Tr) (h1 : ∀ x ∈ nodes, Wi x) (h2 : wiL inner) : (Lib.join (wdT nodes inner) [44, 32]).length ≤ 30 * (nodes.length + inner.length + sizeL inner) := by
  have h3 := ndW_lens nodes h1
  have h4 := txL_lens inner h2
  have h5 := join_len [44, 32] (wdT nodes inner)
  unfold wdT at *
  rw [lens_append, List.length_append, ndW_len, txL_len] at h5
  simp only [List.length_cons, List.length_nil] at h5
  omega
end Go.Proofs.YtpdhckbiioobhaaGreatDoor

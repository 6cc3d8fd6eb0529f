/- Trust trees as plain data, their reading in memory, and what 'satisfied' means. No program in sight. -/
import Derived.Test.YtpdhckbiioobhaaGreatDoorMem
namespace Go.Proofs.YtpdhckbiioobhaaGreatDoor
open Go.RowKit

/-- A trust: threshold, nodes, inner trusts. -/
inductive Tr where
  | mk (thr : Int) (nodes : List Int) (inner : List Tr)

def Tr.thr : Tr → Int | .mk t _ _ => t
def Tr.nodes : Tr → List Int | .mk _ n _ => n
def Tr.inner : Tr → List Tr | .mk _ _ i => i

mutual
def Tr.dep : Tr → Nat
  | .mk _ _ inner => depL inner + 1
def depL : List Tr → Nat
  | [] => 0
  | x :: r => max x.dep (depL r)
end
theorem depL_get : ∀ (l : List Tr) (k : Nat) (hk : k < l.length), (l[k]).dep ≤ depL l
  | [], k, hk => absurd hk (by simp)
  | x :: r, 0, hk => by simp only [List.getElem_cons_zero, depL]; omega
  | x :: r, k + 1, hk => by
    have := depL_get r k (by simpa using hk)
    simp only [List.getElem_cons_succ, depL]
    omega

theorem depL_append : ∀ (l m : List Tr), depL (l ++ m) = max (depL l) (depL m)
  | [], m => by simp [depL]
  | x :: r, m => by simp only [List.cons_append, depL, depL_append r m]; omega
theorem depL_take (l : List Tr) (k : Nat) (hk : k < l.length) : depL (l.take (k + 1)) = max (depL (l.take k)) (l[k]).dep := by
  rw [List.take_succ_eq_append_getElem hk, depL_append]; simp [depL]

mutual
/-- The number of entries, at all levels. -/
def Tr.size : Tr → Nat
  | .mk _ nodes inner => nodes.length + inner.length + sizeL inner
def sizeL : List Tr → Nat
  | [] => 0
  | x :: r => x.size + sizeL r
end
theorem sizeL_append : ∀ (l m : List Tr), sizeL (l ++ m) = sizeL l + sizeL m
  | [], m => by simp [sizeL]
  | x :: r, m => by simp only [List.cons_append, sizeL, sizeL_append r m]; omega
theorem sizeL_take (l : List Tr) (k : Nat) (hk : k < l.length) : sizeL (l.take (k + 1)) = sizeL (l.take k) + (l[k]).size := by
  rw [List.take_succ_eq_append_getElem hk, sizeL_append]; simp [sizeL]
theorem sizeL_get (l : List Tr) (k : Nat) (hk : k < l.length) : (l[k]).size ≤ sizeL l := by
  have h1 := sizeL_take l k hk
  have h2 : sizeL l = sizeL (l.take (k + 1)) + sizeL (l.drop (k + 1)) := by rw [← sizeL_append, List.take_append_drop]
  omega
theorem sizeL_take_le (l : List Tr) (k : Nat) : sizeL (l.take k) ≤ sizeL l := by
  have h2 : sizeL l = sizeL (l.take k) + sizeL (l.drop k) := by rw [← sizeL_append, List.take_append_drop]
  omega
mutual
theorem dep_le_size : ∀ t : Tr, t.dep ≤ t.size + 1
  | .mk _ nodes inner => by
    have := depL_le_size inner
    simp only [Tr.dep, Tr.size]
    omega
theorem depL_le_size : ∀ l : List Tr, depL l ≤ l.length + sizeL l
  | [] => by simp [depL]
  | x :: r => by
    have h1 := dep_le_size x
    have h2 := depL_le_size r
    simp only [depL, sizeL, List.length_cons]
    omega
end

/-- The set of some nodes, or the first error (5: no node, 6: twice). -/
def ofS : List Int → Nat → Int × Int
  | [], s => ((s : Int), 0)
  | k :: r, s => if k < 0 ∨ 10 ≤ k then (0, 5) else if s.testBit k.toNat then (0, 6) else ofS r (s ||| 2 ^ k.toNat)

mutual
/-- The first error of the levels of a trust. -/
def checkE : Tr → Int
  | .mk thr nodes inner => if thr < 1 ∨ (nodes.length + inner.length : Nat) < thr then 4 else if nodes.any (fun k => decide (k < 0 ∨ 10 ≤ k)) then 5 else if (ofS nodes 0).2 ≠ 0 then (ofS nodes 0).2 else checkL inner
def checkL : List Tr → Int
  | [] => 0
  | x :: r => if checkE x ≠ 0 then checkE x else checkL r
end
/-- The first error of a trust. -/
def validE (t : Tr) : Int := if 4 < t.dep ∨ 200 < t.size then 3 else checkE t

mutual
/-- All nodes of a trust, at all levels, are below n. -/
def nodesIn (n : Nat) : Tr → Prop
  | .mk _ nodes inner => (∀ x ∈ nodes, 0 ≤ x ∧ x < (n : Int)) ∧ nodesInL n inner
def nodesInL (n : Nat) : List Tr → Prop
  | [] => True
  | x :: r => nodesIn n x ∧ nodesInL n r
end
theorem nodesInL_append (n : Nat) : ∀ l m, nodesInL n l → nodesInL n m → nodesInL n (l ++ m)
  | [], m, _, h => h
  | x :: r, m, h, h' => by simp only [List.cons_append, nodesInL] at h ⊢; exact ⟨h.1, nodesInL_append n r m h.2 h'⟩
/-- A bound on the size of what the tape makes. -/
def sizeB : Nat → Nat
  | 0 => 0
  | d + 1 => 8 + 3 * sizeB d

theorem validE_flat (x : Int) (h0 : 0 ≤ x) (h1 : x < 10) : validE (.mk 1 [x] []) = 0 := by
  obtain ⟨n, rfl⟩ := Int.eq_ofNat_of_zero_le h0
  have h2 : ¬ ((n : Int) < 0 ∨ 10 ≤ (n : Int)) := by omega
  simp [validE, Tr.dep, depL, Tr.size, sizeL, checkE, ofS, checkL, h2]

/-- Bounds on lengths that keep counters small. -/
def Few (n : Nat) : Prop := n ≤ 1073741824

mutual
/-- The struct value v reads as the trust, all its blocks among D. -/
def TrD (w : World) (D : Nat → Prop) : Value → Tr → Prop
  | v, .mk thr nodes inner => ∃ vn vi cells, v = .agg #[.int .i64 thr, vn, vi] ∧ Wi thr ∧ SlD w D 1 vn (nodes.map (Value.int .i64)) ∧ (∀ n ∈ nodes, Wi n) ∧ SlD w D 3 vi cells ∧
      Few nodes.length ∧ Few inner.length ∧ TrsD w D cells inner
def TrsD (w : World) (D : Nat → Prop) : List Value → List Tr → Prop
  | cells, [] => cells = []
  | cells, x :: r => ∃ a b c rest, cells = a :: b :: c :: rest ∧ TrD w D (.agg #[a, b, c]) x ∧ TrsD w D rest r
end

mutual
theorem TrD.keep {w w' : World} {D D' : Nat → Prop} (hD : ∀ k, D k → D' k ∧ w'.heap[k]? = w.heap[k]?) : ∀ (t : Tr) (v : Value), TrD w D v t → TrD w' D' v t
  | .mk thr nodes inner, v, h => by
    simp only [TrD] at h ⊢
    obtain ⟨vn, vi, cells, e, h0, h1, h2, h3, h4, h5, h6⟩ := h
    exact ⟨vn, vi, cells, e, h0, h1.keep hD, h2, h3.keep hD, h4, h5, TrsD.keep hD inner cells h6⟩
theorem TrsD.keep {w w' : World} {D D' : Nat → Prop} (hD : ∀ k, D k → D' k ∧ w'.heap[k]? = w.heap[k]?) : ∀ (l : List Tr) (cells : List Value), TrsD w D cells l → TrsD w' D' cells l
  | [], cells, h => by simp only [TrsD] at h ⊢; exact h
  | x :: r, cells, h => by
    simp only [TrsD] at h ⊢
    obtain ⟨a, b, c, rest, e, h1, h2⟩ := h
    exact ⟨a, b, c, rest, e, TrD.keep hD x _ h1, TrsD.keep hD r rest h2⟩
end

theorem TrsD.len {w : World} {D : Nat → Prop} : ∀ {l : List Tr} {cells : List Value}, TrsD w D cells l → cells.length = l.length * 3
  | [], cells, h => by simp only [TrsD] at h; simp [h]
  | x :: r, cells, h => by
    simp only [TrsD] at h
    obtain ⟨a, b, c, rest, rfl, _, h2⟩ := h
    have := TrsD.len h2
    simp only [List.length_cons, this]
    omega

theorem TrsD.get {w : World} {D : Nat → Prop} : ∀ {l : List Tr} {cells : List Value}, TrsD w D cells l → ∀ k (hk : k < l.length),
    ∃ a b c, cells[k * 3]? = some a ∧ cells[k * 3 + 1]? = some b ∧ cells[k * 3 + 2]? = some c ∧ TrD w D (.agg #[a, b, c]) l[k]
  | [], cells, h, k, hk => absurd hk (by simp)
  | x :: r, cells, h, k, hk => by
    simp only [TrsD] at h
    obtain ⟨a, b, c, rest, rfl, h1, h2⟩ := h
    cases k with
    | zero => exact ⟨a, b, c, rfl, rfl, rfl, h1⟩
    | succ k =>
      obtain ⟨a', b', c', g1, g2, g3, g4⟩ := TrsD.get h2 k (by simpa using hk)
      refine ⟨a', b', c', ?_, ?_, ?_, g4⟩
      · rw [show (k + 1) * 3 = k * 3 + 1 + 1 + 1 from by omega]; simpa using g1
      · rw [show (k + 1) * 3 + 1 = k * 3 + 1 + 1 + 1 + 1 from by omega]; simpa using g2
      · rw [show (k + 1) * 3 + 2 = k * 3 + 2 + 1 + 1 + 1 from by omega]; simpa using g3

theorem TrsD.append {w : World} {D : Nat → Prop} : ∀ {l l' : List Tr} {cells cells' : List Value}, TrsD w D cells l → TrsD w D cells' l' → TrsD w D (cells ++ cells') (l ++ l')
  | [], l', cells, cells', h, h' => by simp only [TrsD] at h; subst h; simpa using h'
  | x :: r, l', cells, cells', h, h' => by
    simp only [TrsD] at h
    obtain ⟨a, b, c, rest, rfl, h1, h2⟩ := h
    simp only [List.cons_append, TrsD]
    exact ⟨a, b, c, _, rfl, h1, TrsD.append h2 h'⟩

/-- A trust in the memory of w, apart from the mutable block r. -/
def TrR (w : World) (r : Option Nat) (v : Value) (t : Tr) : Prop := TrD w (Dm w r) v t
theorem TrR.fr {r : Option Nat} {w w' : World} {v : Value} {t : Tr} (h : TrR w r v t) (f : Fr r w w') : TrR w' r v t := TrD.keep (fr_dm f) t v h
theorem TrR.weak {r : Option Nat} {w : World} {v : Value} {t : Tr} (h : TrR w r v t) : TrR w none v t := TrD.keep dm_none t v h

theorem TrR.mk_ {r : Option Nat} {w : World} {thr : Int} {nodes : List Int} {inner : List Tr} {vn vi : Value} {cells : List Value} (h0 : Wi thr) (h1 : SlI w r vn nodes) (h2 : SlD w (Dm w r) 3 vi cells) (h3 : nodes.length ≤ 1073741824) (h4 : inner.length ≤ 1073741824) (h5 : TrsD w (Dm w r) cells inner) :
    TrR w r (.agg #[.int .i64 thr, vn, vi]) (.mk thr nodes inner) := by
  unfold TrR
  simp only [TrD]
  exact ⟨vn, vi, cells, rfl, h0, h1.1, h1.2, h2, h3, h4, h5⟩

theorem TrD.shape {D : Nat → Prop} {w : World} {v : Value} {t : Tr} (h : TrD w D v t) :
    ∃ (th : Int) (A1 : Option Addr) (n1 c1 : Nat) (A2 : Option Addr) (n2 c2 : Nat), v = .agg #[.int .i64 th, .slice A1 n1 c1, .slice A2 n2 c2] := by
  obtain ⟨thr, nodes, inner⟩ := t
  simp only [TrD] at h
  obtain ⟨vn, vi, cells, rfl, h0, h1, h2, h3, h4, h5, h6⟩ := h
  obtain ⟨A, n, c, rfl, _⟩ := h1
  obtain ⟨A', n', c', rfl, _⟩ := h3
  exact ⟨thr, A, n, c, A', n', c', rfl⟩
theorem TrD.mk_ {D : Nat → Prop} {w : World} {thr : Int} {nodes : List Int} {inner : List Tr} {vn vi : Value} {cells : List Value} (h0 : Wi thr) (h1 : SlD w D 1 vn (nodes.map (Value.int .i64))) (h1' : ∀ x ∈ nodes, Wi x) (h2 : SlD w D 3 vi cells) (h3 : nodes.length ≤ 1073741824) (h4 : inner.length ≤ 1073741824) (h5 : TrsD w D cells inner) :
    TrD w D (.agg #[.int .i64 thr, vn, vi]) (.mk thr nodes inner) := by
  simp only [TrD]
  exact ⟨vn, vi, cells, rfl, h0, h1, h1', h2, h3, h4, h5⟩
/-- The shape of a trust's three cells. -/
theorem TrR.shape {r : Option Nat} {w : World} {x y z : Value} {t : Tr} (h : TrR w r (.agg #[x, y, z]) t) :
    ∃ (th : Int) (A1 : Option Addr) (n1 c1 : Nat) (A2 : Option Addr) (n2 c2 : Nat), x = .int .i64 th ∧ y = .slice A1 n1 c1 ∧ z = .slice A2 n2 c2 := by
  obtain ⟨thr, nodes, inner⟩ := t
  unfold TrR at h
  simp only [TrD] at h
  obtain ⟨vn, vi, cells, e, h0, h1, h2, h3, h4, h5, h6⟩ := h
  obtain ⟨A, n, c, rfl, _⟩ := h1
  obtain ⟨A', n', c', rfl, _⟩ := h3
  simp only [Value.agg.injEq, Array.mk.injEq, List.cons.injEq, and_true] at e
  exact ⟨thr, A, n, c, A', n', c', e.1, e.2.1, e.2.2⟩

/-- The form of a trust for a walk. -/
theorem TrR.open_ {r : Option Nat} {w : World} {v : Value} {thr : Int} {nodes : List Int} {inner : List Tr} (h : TrR w r v (.mk thr nodes inner)) :
    ∃ A c A' c', v = .agg #[.int .i64 thr, .slice A nodes.length c, .slice A' inner.length c'] ∧ Wi thr ∧ SlI w r (.slice A nodes.length c) nodes ∧ nodes.length ≤ 1073741824 ∧ inner.length ≤ 1073741824 ∧ inner.length ≤ c' ∧ c' ≤ 9223372036854775807 ∧
      (0 < inner.length → ∃ b off, A' = some ⟨b, off, none⟩ ∧ b < w.heap.size ∧ some b ≠ r ∧ ∀ k (hk : k < inner.length), ∃ x y z, w.cell? ⟨b, off + k * 3, none⟩ = some x ∧ w.cell? ⟨b, off + k * 3 + 1, none⟩ = some y ∧ w.cell? ⟨b, off + k * 3 + 2, none⟩ = some z ∧ TrR w r (.agg #[x, y, z]) inner[k]) := by
  unfold TrR at h
  simp only [TrD] at h
  obtain ⟨vn, vi, cells, rfl, h0, h1, h2, h3, h4, h5, h6⟩ := h
  have h1' := h1
  have h3' := h3
  obtain ⟨A, n, c, rfl, hl, hc, hm, hx⟩ := h1
  obtain ⟨A', n', c', rfl, hl', hc', hm', hx'⟩ := h3
  have hlen := h6.len
  have hn' : n' = inner.length := by omega
  have hn : n = nodes.length := by simpa using hl.symm
  subst hn' hn
  unfold maxLen at hm hm'
  unfold Few at h4 h5
  refine ⟨A, c, A', c', rfl, h0, ⟨h1', h2⟩, h4, h5, hc', hm', fun hp => ?_⟩
  obtain ⟨b, off, rfl, hb, hx⟩ := hx' hp
  refine ⟨b, off, rfl, hb.1, hb.2, fun k hk => ?_⟩
  obtain ⟨x, y, z, g1, g2, g3, g4⟩ := h6.get k hk
  exact ⟨x, y, z, hx _ _ g1, hx _ _ g2, hx _ _ g3, g4⟩

/-- Sets of nodes: ints from 0 to 1023. -/
def validB (s : Int) : Bool := decide (0 ≤ s ∧ s ≤ 1023)
/-- Is node k in the set s? -/
def hasB (s k : Int) : Bool := validB s && decide (0 ≤ k ∧ k < 10) && s.toNat.testBit k.toNat

def cntN (s : Int) (l : List Int) : Nat := l.countP (hasB s)
mutual
def sat (s : Int) : Tr → Bool
  | .mk thr nodes inner => validB s && decide (thr ≤ ((cntN s nodes + cntI s inner : Nat) : Int))
def cntI (s : Int) : List Tr → Nat
  | [] => 0
  | x :: r => (if sat s x then 1 else 0) + cntI s r
end
theorem cntI_append (s : Int) : ∀ l m, cntI s (l ++ m) = cntI s l + cntI s m
  | [], m => by simp [cntI]
  | x :: r, m => by simp only [List.cons_append, cntI, cntI_append s r m]; omega
theorem cntI_le (s : Int) : ∀ l, cntI s l ≤ l.length
  | [] => by simp [cntI]
  | x :: r => by have := cntI_le s r; simp only [cntI, List.length_cons]; split <;> omega
theorem cntI_take (s : Int) (l : List Tr) (k : Nat) (hk : k < l.length) : cntI s (l.take (k + 1)) = cntI s (l.take k) + (if sat s l[k] then 1 else 0) := by
  rw [List.take_succ_eq_append_getElem hk, cntI_append]; simp [cntI]
theorem cntN_take (s : Int) (l : List Int) (k : Nat) (hk : k < l.length) : cntN s (l.take (k + 1)) = cntN s (l.take k) + (if hasB s l[k] then 1 else 0) := by
  unfold cntN
  rw [List.take_succ_eq_append_getElem hk, List.countP_append]; simp [List.countP_cons]
theorem cntN_le (s : Int) (l : List Int) : cntN s l ≤ l.length := List.countP_le_length
end Go.Proofs.YtpdhckbiioobhaaGreatDoor

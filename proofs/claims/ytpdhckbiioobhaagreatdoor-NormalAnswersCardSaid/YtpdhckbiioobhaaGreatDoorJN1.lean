/- Some texts of this claim, joined: contracts of the functions that it reaches, and plain laws. -/
import Derived.WalkKit
import Derived.WalkSpells
import Derived.WalkLawsBesides
import Derived.Lib.Hide
import Derived.Maps.AppendAt
import Derived.Deep.AppendLies
import Derived.Deep.Draws
import Derived.Deep.LoopGhost
import Derived.BigQuiet
import Derived.Deep.QuietTactic

set_option linter.unusedSimpArgs false
set_option linter.unusedVariables false
/- Plain words for memory: frames ('Fr'), slices that read as lists of cells ('SlD', 'SlI'), own rows. No program in sight. -/
namespace Go.Proofs.YtpdhckbiioobhaaGreatDoor
open Go.RowKit

/-- From w to w' only the block r (if any) may have changed of what was there. -/
def Fr (r : Option Nat) (w w' : World) : Prop := w.grownBy w' r

theorem Fr.refl (r : Option Nat) (w : World) : Fr r w w := World.grownBy.refl w r
theorem Fr.size {r : Option Nat} {w w' : World} (h : Fr r w w') : w.heap.size ≤ w'.heap.size := World.grownBy.size h
theorem Fr.block {r : Option Nat} {w w' : World} (h : Fr r w w') (k : Nat) (hk : k < w.heap.size) (hr : some k ≠ r) : w'.heap[k]? = w.heap[k]? := World.grownBy.block h k hk hr
theorem Fr.trans {r r' : Option Nat} {a b c : World} (h : Fr r a b) (k : Fr r' b c) (hr : ∀ g, r' = some g → g < a.heap.size → r = some g) : Fr r a c :=
  ⟨(World.grownBy.os k).trans (World.grownBy.os h), (World.grownBy.tape k).trans (World.grownBy.tape h), (World.grownBy.output k).trans (World.grownBy.output h), Nat.le_trans h.size k.size, fun i hi hne =>
    (k.block i (Nat.lt_of_lt_of_le hi h.size) (fun e => hne ((hr i e.symm hi).symm))).trans (h.block i hi hne)⟩
theorem Fr.pure {r : Option Nat} {a b c : World} (h : Fr r a b) (k : Fr none b c) : Fr r a c := h.trans k (fun _ h => by cases h)
theorem Fr.same {r : Option Nat} {a b c : World} (h : Fr r a b) (k : Fr r b c) : Fr r a c := h.trans k (fun _ h _ => h)
theorem Fr.new {r : Option Nat} {a b c : World} {g : Nat} (h : Fr r a b) (k : Fr (some g) b c) (hg : a.heap.size ≤ g) : Fr r a c := h.trans k (fun x e hx => by injection e with e; omega)
theorem Fr.own {r r' : Option Nat} {a b c : World} (h : Fr r a b) (k : Fr r' b c) (hg : ∀ g, r' = some g → a.heap.size ≤ g) : Fr r a c := h.trans k (fun x e hx => by have := hg x e; omega)
theorem Fr.mono {r : Option Nat} {a b : World} (h : Fr none a b) : Fr r a b := (Fr.refl r a).pure h
theorem Fr.alloc {r : Option Nat} {a b : World} (h : Fr r a b) (o : Obj) : Fr r a (b.alloc o) := h.pure (World.grownBy_alloc b o none)
theorem Fr.drew {r : Option Nat} {a b : World} (h : Fr r a b) : Fr r a b.drew := ⟨World.grownBy.os (w' := b) h, World.grownBy.tape (w' := b) h, World.grownBy.output (w' := b) h, h.size, h.block⟩
theorem Fr.drewN {r : Option Nat} {a b : World} (h : Fr r a b) (n : Nat) : Fr r a (b.drewN n) := ⟨World.grownBy.os (w' := b) h, World.grownBy.tape (w' := b) h, World.grownBy.output (w' := b) h, h.size, h.block⟩
theorem Fr.set1 (w : World) (p : Addr) (u : Value) : Fr (some p.block) w (w.setCell p u) :=
  ⟨rfl, rfl, rfl, by simp [World.setCell], fun k hk hne => Below.heap_setCell w p u k (fun e => hne (by rw [e]))⟩
theorem Fr.setNew {r : Option Nat} {a b : World} (h : Fr r a b) {p : Addr} (hp : a.heap.size ≤ p.block) (u : Value) : Fr r a (b.setCell p u) := h.new (Fr.set1 b p u) hp
theorem Fr.setRow {a b : World} {g : Nat} (h : Fr (some g) a b) {p : Addr} (hp : p.block = g) (u : Value) : Fr (some g) a (b.setCell p u) := h.same (hp ▸ Fr.set1 b p u)
theorem Fr.cell {r : Option Nat} {w w' : World} (h : Fr r w w') {p : Addr} (hp : p.block < w.heap.size) (hr : some p.block ≠ r) : w'.cell? p = w.cell? p := World.cell?_of_block (h.block _ hp hr)
theorem Fr.frozen {r : Option Nat} {w w' : World} (h : Fr r w w') {p : Addr} (hp : p.block < w.heap.size) (hr : some p.block ≠ r) : w'.frozen? p = w.frozen? p := World.frozen?_of_block (h.block _ hp hr)
theorem Fr.below {w w' : World} (h : Fr none w w') : Below w.heap.size w w' := ⟨World.grownBy.os h, World.grownBy.tape h, World.grownBy.output h, h.size, fun k hk => h.block k hk (by simp)⟩
theorem Fr.of_below {w w' : World} (h : Below w.heap.size w w') : Fr none w w' := ⟨h.os, h.tape, h.output, h.size, fun k hk _ => h.block k hk⟩

/-- A cell of a block that is there, and is not the mutable one. -/
theorem Fr.keep {r : Option Nat} {w w' : World} (h : Fr r w w') {p : Addr} {u : Value} (hc : w.cell? p = some u) (hr : some p.block ≠ r) : w'.cell? p = some u := by
  rw [h.cell _ hr]; exact hc
  unfold World.cell? at hc
  rcases Nat.lt_or_ge p.block w.heap.size with h | h
  · exact h
  · rw [Array.getElem?_eq_none h] at hc; cases hc

/-- The blocks that count as data: those that are there, but for the mutable one. -/
def Dm (w : World) (r : Option Nat) : Nat → Prop := fun k => k < w.heap.size ∧ some k ≠ r
theorem Dm.up {r : Option Nat} {w w' : World} (h : w.heap.size ≤ w'.heap.size) {k : Nat} (hk : Dm w r k) : Dm w' r k := ⟨Nat.lt_of_lt_of_le hk.1 h, hk.2⟩

/-- A slice (elements of 'size' cells) whose cells are xs; its block is one of D. -/
def SlD (w : World) (D : Nat → Prop) (size : Nat) (v : Value) (xs : List Value) : Prop :=
  ∃ A n c, v = .slice A n c ∧ xs.length = n * size ∧ n ≤ c ∧ c ≤ maxLen ∧
    (0 < n → ∃ b off, A = some ⟨b, off, none⟩ ∧ D b ∧ ∀ j u, xs[j]? = some u → w.cell? ⟨b, off + j, none⟩ = some u)

theorem SlD.nil (w : World) (D : Nat → Prop) (size : Nat) : SlD w D size (.slice none 0 0) [] := ⟨none, 0, 0, rfl, by simp, by omega, by unfold maxLen; omega, by omega⟩
theorem SlD.keep {w w' : World} {D D' : Nat → Prop} {size : Nat} {v : Value} {xs : List Value} (h : SlD w D size v xs) (hD : ∀ k, D k → D' k ∧ w'.heap[k]? = w.heap[k]?) : SlD w' D' size v xs := by
  obtain ⟨A, n, c, rfl, hl, hc, hm, hx⟩ := h
  refine ⟨A, n, c, rfl, hl, hc, hm, fun hn => ?_⟩
  obtain ⟨b, off, rfl, hb, hx⟩ := hx hn
  exact ⟨b, off, rfl, (hD b hb).1, fun j u hu => (World.cell?_of_block (hD b hb).2).trans (hx j u hu)⟩

/-- A slice of ints. -/
def Wi (n : Int) : Prop := -9223372036854775808 ≤ n ∧ n ≤ 9223372036854775807
def SlI (w : World) (r : Option Nat) (v : Value) (l : List Int) : Prop := SlD w (Dm w r) 1 v (l.map (Value.int .i64)) ∧ (∀ n ∈ l, Wi n)

theorem SlD.cellI {w : World} {D : Nat → Prop} {A : Option Addr} {n c : Nat} {l : List Int} (h : SlD w D 1 (.slice A n c) (l.map (Value.int .i64))) (k : Nat) (hk : k < l.length) :
    ∃ b off, A = some ⟨b, off, none⟩ ∧ D b ∧ w.cell? ⟨b, off + k, none⟩ = some (.int .i64 l[k]) := by
  obtain ⟨A', n', c', e, hl, _, _, hx⟩ := h
  injection e with e1 e2 e3
  subst e1 e2 e3
  have hn : n = l.length := by simpa using hl.symm
  obtain ⟨b, off, rfl, hb, hx⟩ := hx (by omega)
  exact ⟨b, off, rfl, hb, hx k _ (by simp [hk])⟩
theorem SlD.formI {w : World} {D : Nat → Prop} {v : Value} {l : List Int} (h : SlD w D 1 v (l.map (Value.int .i64))) :
    ∃ A c, v = .slice A l.length c ∧ l.length ≤ c ∧ c ≤ 9223372036854775807 := by
  obtain ⟨A, n, c, rfl, hl, hc, hm, _⟩ := h
  unfold maxLen at hm
  have e : n = l.length := by simpa using hl.symm
  subst e
  exact ⟨A, c, rfl, hc, hm⟩

theorem fr_dm {r : Option Nat} {w w' : World} (h : Fr r w w') : ∀ k, Dm w r k → Dm w' r k ∧ w'.heap[k]? = w.heap[k]? := fun k hk => ⟨hk.up h.size, h.block k hk.1 hk.2⟩
theorem dm_none {r : Option Nat} {w : World} : ∀ k, Dm w r k → Dm w none k ∧ w.heap[k]? = w.heap[k]? := fun k hk => ⟨⟨hk.1, by simp⟩, rfl⟩
theorem fr_fresh {w w' : World} {g : Nat} (h : Fr none w w') (hg : w.heap.size ≤ g) : ∀ k, Dm w none k → Dm w' (some g) k ∧ w'.heap[k]? = w.heap[k]? :=
  fun k hk => ⟨⟨Nat.lt_of_lt_of_le hk.1 h.size, by have := hk.1; simp; omega⟩, h.block k hk.1 (by simp)⟩
theorem SlI.fresh {w w' : World} {g : Nat} {v : Value} {l : List Int} (h : SlI w none v l) (f : Fr none w w') (hg : w.heap.size ≤ g) : SlI w' (some g) v l := ⟨h.1.keep (fr_fresh f hg), h.2⟩
theorem SlI.fr {r : Option Nat} {w w' : World} {v : Value} {l : List Int} (h : SlI w r v l) (f : Fr r w w') : SlI w' r v l := ⟨h.1.keep (fr_dm f), h.2⟩
theorem SlI.weak {r : Option Nat} {w : World} {v : Value} {l : List Int} (h : SlI w r v l) : SlI w none v l := ⟨h.1.keep dm_none, h.2⟩
theorem SlI.nil (w : World) (r : Option Nat) : SlI w r (.slice none 0 0) [] := ⟨SlD.nil _ _ _, by simp⟩

/-- The form of a slice of ints for a walk: its parts, and its cells. -/
theorem SlI.open_ {r : Option Nat} {w : World} {v : Value} {l : List Int} (h : SlI w r v l) :
    ∃ A c, v = .slice A l.length c ∧ l.length ≤ c ∧ c ≤ 9223372036854775807 ∧ (0 < l.length → ∃ b off, A = some ⟨b, off, none⟩ ∧ b < w.heap.size ∧ some b ≠ r ∧ ∀ k (hk : k < l.length), w.cell? ⟨b, off + k, none⟩ = some (.int .i64 l[k])) := by
  obtain ⟨⟨A, n, c, rfl, hl, hc, hm, hx⟩, _⟩ := h
  unfold maxLen at hm
  have e : n = l.length := by simpa using hl.symm
  subst e
  refine ⟨A, c, rfl, hc, hm, fun hn => ?_⟩
  obtain ⟨b, off, rfl, hb, hx⟩ := hx hn
  exact ⟨b, off, rfl, hb.1, hb.2, fun k hk => hx k _ (by simp [hk])⟩

theorem SlD.take {w : World} {D : Nat → Prop} {size : Nat} {A : Option Addr} {n c : Nat} {xs : List Value} (h : SlD w D size (.slice A n c) xs) (m : Nat) (hm : m ≤ n) : SlD w D size (.slice A m c) (xs.take (m * size)) := by
  obtain ⟨A', n', c', e, hl, hc, hmx, hx⟩ := h
  injection e with e1 e2 e3
  subst e1 e2 e3
  refine ⟨A, m, c, rfl, ?_, by omega, hmx, fun hp => ?_⟩
  · rw [List.length_take, hl]
    exact Nat.min_eq_left (Nat.mul_le_mul_right _ hm)
  · obtain ⟨b, off, rfl, hb, hx⟩ := hx (by omega)
    refine ⟨b, off, rfl, hb, fun j u hu => hx j u ?_⟩
    rw [List.getElem?_take] at hu
    split at hu
    · exact hu
    · cases hu
theorem SlI.take {w : World} {r : Option Nat} {A : Option Addr} {n c : Nat} {l : List Int} (h : SlI w r (.slice A n c) l) (m : Nat) (hm : m ≤ n) : SlI w r (.slice A m c) (l.take m) :=
  ⟨by simpa using h.1.take m hm, fun x hx => h.2 x (List.mem_of_mem_take hx)⟩

/-- What the call owns reads as a slice. -/
theorem SlD.of_own {w : World} {base : Nat} {e : TypeId} {size : Nat} {v : Value} {n : Nat} {xs : List Value} {r : Option Nat} (h : w.ownsRow base e size v n xs) (hr : ∀ g, r = some g → g < base) :
    SlD w (Dm w r) size v xs := by
  obtain ⟨hl, h2⟩ := h
  have h0 : w.ownsRow base e size v n xs := ⟨hl, h2⟩
  rcases h2 with ⟨rfl, rfl⟩ | ⟨g, cap, cur, rfl, hg, hh, hnc, hm, hs, ht⟩
  · exact ⟨none, 0, 0, rfl, hl, by omega, by unfold maxLen; omega, by omega⟩
  · refine ⟨_, n, cap, rfl, hl, hnc, hm, fun hn => ⟨g, 0, rfl, ⟨(h0.lt g rfl).2, fun e => ?_⟩, fun j u hu => ?_⟩⟩
    · have := hr g e.symm; omega
    · have := h0.cells (g := g) rfl j u hu
      rw [Addr.add_lit] at this
      exact this
theorem SlI.of_own {w : World} {base : Nat} {e : TypeId} {v : Value} {n : Nat} {l : List Int} {r : Option Nat} (h : w.ownsRow base e 1 v n (l.map (Value.int .i64))) (hr : ∀ g, r = some g → g < base) (hw : ∀ n ∈ l, Wi n) : SlI w r v l :=
  ⟨SlD.of_own h hr, hw⟩

theorem cell_new (w : World) (cs : Array Value) (t : TypeId) (i : Nat) : (w.alloc (.cells cs t)).cell? ⟨w.heap.size, i, none⟩ = cs[i]? := World.cell?_alloc_new _ _ _ _
theorem frozen_new (w : World) (cs : Array Value) (t : TypeId) (i : Nat) : (w.alloc (.cells cs t)).frozen? ⟨w.heap.size, i, none⟩ = false := World.frozen?_alloc_new _ _ _ _

/-- A slice of uint64s. -/
def u64v (y : Nat) : Value := .int .u64 y
def SlU (w : World) (r : Option Nat) (v : Value) (l : List Nat) : Prop := SlD w (Dm w r) 1 v (l.map u64v) ∧ (∀ y ∈ l, y < 18446744073709551616)
theorem SlU.fr {r : Option Nat} {w w' : World} {v : Value} {l : List Nat} (h : SlU w r v l) (f : Fr r w w') : SlU w' r v l := ⟨h.1.keep (fr_dm f), h.2⟩
theorem SlU.weak {r : Option Nat} {w : World} {v : Value} {l : List Nat} (h : SlU w r v l) : SlU w none v l := ⟨h.1.keep dm_none, h.2⟩
theorem SlU.open_ {r : Option Nat} {w : World} {v : Value} {l : List Nat} (h : SlU w r v l) :
    ∃ A c, v = .slice A l.length c ∧ l.length ≤ c ∧ c ≤ 9223372036854775807 ∧ (0 < l.length → ∃ b off, A = some ⟨b, off, none⟩ ∧ b < w.heap.size ∧ some b ≠ r ∧ ∀ k, k < l.length → w.cell? ⟨b, off + k, none⟩ = some (.int .u64 ((l.getD k 0 : Nat) : Int))) := by
  obtain ⟨⟨A, n, c, rfl, hl, hc, hm, hx⟩, _⟩ := h
  unfold maxLen at hm
  have e : n = l.length := by simpa using hl.symm
  subst e
  refine ⟨A, c, rfl, hc, hm, fun hn => ?_⟩
  obtain ⟨b, off, rfl, hb, hx⟩ := hx hn
  exact ⟨b, off, rfl, hb.1, hb.2, fun k hk => hx k _ (by simp [hk, u64v])⟩
theorem SlU.of_own {w : World} {base : Nat} {e : TypeId} {v : Value} {n : Nat} {l : List Nat} {r : Option Nat} (h : w.ownsRow base e 1 v n (l.map u64v)) (hr : ∀ g, r = some g → g < base) (hw : ∀ y ∈ l, y < 18446744073709551616) : SlU w r v l :=
  ⟨SlD.of_own h hr, hw⟩

theorem u64_bd {n : Int} (h : (Lit.int .u64 n).wf = true) : 0 ≤ n ∧ n ≤ 18446744073709551615 := by
  simp only [Lit.wf, Bool.and_eq_true, decide_eq_true_eq] at h
  exact h
theorem i64_bd {n : Int} (h : (Lit.int .i64 n).wf = true) : Wi n := by
  simp only [Lit.wf, Bool.and_eq_true, decide_eq_true_eq] at h
  exact h

theorem ret_int {k : IntKind} {a b : Int} (h : a = b) : Ending.returned (.int k a) = .returned (.int k b) := by rw [h]
theorem ret_bool {a b : Bool} (h : a = b) : Ending.returned (.bool a) = .returned (.bool b) := by rw [h]
end Go.Proofs.YtpdhckbiioobhaaGreatDoor

/- Trust trees as plain data, their reading in memory, and what 'satisfied' means. No program in sight. -/
namespace Go.Proofs.YtpdhckbiioobhaaGreatDoor
open Go.RowKit

/-- A trust: threshold, nodes, inner trusts. -/
inductive Tr where
  | mk (thr : Int) (nodes : List Int) (inner : List Tr)

def Tr.thr : Tr → Int | .mk t _ _ => t
def Tr.nodes : Tr → List Int | .mk _ n _ => n
def Tr.inner : Tr → List Tr | .mk _ _ i => i

mutual
def Tr.dep : Tr → Nat
  | .mk _ _ inner => depL inner + 1
def depL : List Tr → Nat
  | [] => 0
  | x :: r => max x.dep (depL r)
end
theorem depL_get : ∀ (l : List Tr) (k : Nat) (hk : k < l.length), (l[k]).dep ≤ depL l
  | [], k, hk => absurd hk (by simp)
  | x :: r, 0, hk => by simp only [List.getElem_cons_zero, depL]; omega
  | x :: r, k + 1, hk => by
    have := depL_get r k (by simpa using hk)
    simp only [List.getElem_cons_succ, depL]
    omega

theorem depL_append : ∀ (l m : List Tr), depL (l ++ m) = max (depL l) (depL m)
  | [], m => by simp [depL]
  | x :: r, m => by simp only [List.cons_append, depL, depL_append r m]; omega
theorem depL_take (l : List Tr) (k : Nat) (hk : k < l.length) : depL (l.take (k + 1)) = max (depL (l.take k)) (l[k]).dep := by
  rw [List.take_succ_eq_append_getElem hk, depL_append]; simp [depL]

mutual
/-- The number of entries, at all levels. -/
def Tr.size : Tr → Nat
  | .mk _ nodes inner => nodes.length + inner.length + sizeL inner
def sizeL : List Tr → Nat
  | [] => 0
  | x :: r => x.size + sizeL r
end
theorem sizeL_append : ∀ (l m : List Tr), sizeL (l ++ m) = sizeL l + sizeL m
  | [], m => by simp [sizeL]
  | x :: r, m => by simp only [List.cons_append, sizeL, sizeL_append r m]; omega
theorem sizeL_take (l : List Tr) (k : Nat) (hk : k < l.length) : sizeL (l.take (k + 1)) = sizeL (l.take k) + (l[k]).size := by
  rw [List.take_succ_eq_append_getElem hk, sizeL_append]; simp [sizeL]
theorem sizeL_get (l : List Tr) (k : Nat) (hk : k < l.length) : (l[k]).size ≤ sizeL l := by
  have h1 := sizeL_take l k hk
  have h2 : sizeL l = sizeL (l.take (k + 1)) + sizeL (l.drop (k + 1)) := by rw [← sizeL_append, List.take_append_drop]
  omega
theorem sizeL_take_le (l : List Tr) (k : Nat) : sizeL (l.take k) ≤ sizeL l := by
  have h2 : sizeL l = sizeL (l.take k) + sizeL (l.drop k) := by rw [← sizeL_append, List.take_append_drop]
  omega
mutual
theorem dep_le_size : ∀ t : Tr, t.dep ≤ t.size + 1
  | .mk _ nodes inner => by
    have := depL_le_size inner
    simp only [Tr.dep, Tr.size]
    omega
theorem depL_le_size : ∀ l : List Tr, depL l ≤ l.length + sizeL l
  | [] => by simp [depL]
  | x :: r => by
    have h1 := dep_le_size x
    have h2 := depL_le_size r
    simp only [depL, sizeL, List.length_cons]
    omega
end

/-- The set of some nodes, or the first error (5: no node, 6: twice). -/
def ofS : List Int → Nat → Int × Int
  | [], s => ((s : Int), 0)
  | k :: r, s => if k < 0 ∨ 10 ≤ k then (0, 5) else if s.testBit k.toNat then (0, 6) else ofS r (s ||| 2 ^ k.toNat)

mutual
/-- The first error of the levels of a trust. -/
def checkE : Tr → Int
  | .mk thr nodes inner => if thr < 1 ∨ (nodes.length + inner.length : Nat) < thr then 4 else if nodes.any (fun k => decide (k < 0 ∨ 10 ≤ k)) then 5 else if (ofS nodes 0).2 ≠ 0 then (ofS nodes 0).2 else checkL inner
def checkL : List Tr → Int
  | [] => 0
  | x :: r => if checkE x ≠ 0 then checkE x else checkL r
end
/-- The first error of a trust. -/
def validE (t : Tr) : Int := if 4 < t.dep ∨ 200 < t.size then 3 else checkE t

mutual
/-- All nodes of a trust, at all levels, are below n. -/
def nodesIn (n : Nat) : Tr → Prop
  | .mk _ nodes inner => (∀ x ∈ nodes, 0 ≤ x ∧ x < (n : Int)) ∧ nodesInL n inner
def nodesInL (n : Nat) : List Tr → Prop
  | [] => True
  | x :: r => nodesIn n x ∧ nodesInL n r
end
theorem nodesInL_append (n : Nat) : ∀ l m, nodesInL n l → nodesInL n m → nodesInL n (l ++ m)
  | [], m, _, h => h
  | x :: r, m, h, h' => by simp only [List.cons_append, nodesInL] at h ⊢; exact ⟨h.1, nodesInL_append n r m h.2 h'⟩
/-- A bound on the size of what the tape makes. -/
def sizeB : Nat → Nat
  | 0 => 0
  | d + 1 => 8 + 3 * sizeB d

theorem validE_flat (x : Int) (h0 : 0 ≤ x) (h1 : x < 10) : validE (.mk 1 [x] []) = 0 := by
  obtain ⟨n, rfl⟩ := Int.eq_ofNat_of_zero_le h0
  have h2 : ¬ ((n : Int) < 0 ∨ 10 ≤ (n : Int)) := by omega
  simp [validE, Tr.dep, depL, Tr.size, sizeL, checkE, ofS, checkL, h2]

/-- Bounds on lengths that keep counters small. -/
def Few (n : Nat) : Prop := n ≤ 1073741824

mutual
/-- The struct value v reads as the trust, all its blocks among D. -/
def TrD (w : World) (D : Nat → Prop) : Value → Tr → Prop
  | v, .mk thr nodes inner => ∃ vn vi cells, v = .agg #[.int .i64 thr, vn, vi] ∧ Wi thr ∧ SlD w D 1 vn (nodes.map (Value.int .i64)) ∧ (∀ n ∈ nodes, Wi n) ∧ SlD w D 3 vi cells ∧
      Few nodes.length ∧ Few inner.length ∧ TrsD w D cells inner
def TrsD (w : World) (D : Nat → Prop) : List Value → List Tr → Prop
  | cells, [] => cells = []
  | cells, x :: r => ∃ a b c rest, cells = a :: b :: c :: rest ∧ TrD w D (.agg #[a, b, c]) x ∧ TrsD w D rest r
end

mutual
theorem TrD.keep {w w' : World} {D D' : Nat → Prop} (hD : ∀ k, D k → D' k ∧ w'.heap[k]? = w.heap[k]?) : ∀ (t : Tr) (v : Value), TrD w D v t → TrD w' D' v t
  | .mk thr nodes inner, v, h => by
    simp only [TrD] at h ⊢
    obtain ⟨vn, vi, cells, e, h0, h1, h2, h3, h4, h5, h6⟩ := h
    exact ⟨vn, vi, cells, e, h0, h1.keep hD, h2, h3.keep hD, h4, h5, TrsD.keep hD inner cells h6⟩
theorem TrsD.keep {w w' : World} {D D' : Nat → Prop} (hD : ∀ k, D k → D' k ∧ w'.heap[k]? = w.heap[k]?) : ∀ (l : List Tr) (cells : List Value), TrsD w D cells l → TrsD w' D' cells l
  | [], cells, h => by simp only [TrsD] at h ⊢; exact h
  | x :: r, cells, h => by
    simp only [TrsD] at h ⊢
    obtain ⟨a, b, c, rest, e, h1, h2⟩ := h
    exact ⟨a, b, c, rest, e, TrD.keep hD x _ h1, TrsD.keep hD r rest h2⟩
end

theorem TrsD.len {w : World} {D : Nat → Prop} : ∀ {l : List Tr} {cells : List Value}, TrsD w D cells l → cells.length = l.length * 3
  | [], cells, h => by simp only [TrsD] at h; simp [h]
  | x :: r, cells, h => by
    simp only [TrsD] at h
    obtain ⟨a, b, c, rest, rfl, _, h2⟩ := h
    have := TrsD.len h2
    simp only [List.length_cons, this]
    omega

theorem TrsD.get {w : World} {D : Nat → Prop} : ∀ {l : List Tr} {cells : List Value}, TrsD w D cells l → ∀ k (hk : k < l.length),
    ∃ a b c, cells[k * 3]? = some a ∧ cells[k * 3 + 1]? = some b ∧ cells[k * 3 + 2]? = some c ∧ TrD w D (.agg #[a, b, c]) l[k]
  | [], cells, h, k, hk => absurd hk (by simp)
  | x :: r, cells, h, k, hk => by
    simp only [TrsD] at h
    obtain ⟨a, b, c, rest, rfl, h1, h2⟩ := h
    cases k with
    | zero => exact ⟨a, b, c, rfl, rfl, rfl, h1⟩
    | succ k =>
      obtain ⟨a', b', c', g1, g2, g3, g4⟩ := TrsD.get h2 k (by simpa using hk)
      refine ⟨a', b', c', ?_, ?_, ?_, g4⟩
      · rw [show (k + 1) * 3 = k * 3 + 1 + 1 + 1 from by omega]; simpa using g1
      · rw [show (k + 1) * 3 + 1 = k * 3 + 1 + 1 + 1 + 1 from by omega]; simpa using g2
      · rw [show (k + 1) * 3 + 2 = k * 3 + 2 + 1 + 1 + 1 from by omega]; simpa using g3

theorem TrsD.append {w : World} {D : Nat → Prop} : ∀ {l l' : List Tr} {cells cells' : List Value}, TrsD w D cells l → TrsD w D cells' l' → TrsD w D (cells ++ cells') (l ++ l')
  | [], l', cells, cells', h, h' => by simp only [TrsD] at h; subst h; simpa using h'
  | x :: r, l', cells, cells', h, h' => by
    simp only [TrsD] at h
    obtain ⟨a, b, c, rest, rfl, h1, h2⟩ := h
    simp only [List.cons_append, TrsD]
    exact ⟨a, b, c, _, rfl, h1, TrsD.append h2 h'⟩

/-- A trust in the memory of w, apart from the mutable block r. -/
def TrR (w : World) (r : Option Nat) (v : Value) (t : Tr) : Prop := TrD w (Dm w r) v t
theorem TrR.fr {r : Option Nat} {w w' : World} {v : Value} {t : Tr} (h : TrR w r v t) (f : Fr r w w') : TrR w' r v t := TrD.keep (fr_dm f) t v h
theorem TrR.weak {r : Option Nat} {w : World} {v : Value} {t : Tr} (h : TrR w r v t) : TrR w none v t := TrD.keep dm_none t v h

theorem TrR.mk_ {r : Option Nat} {w : World} {thr : Int} {nodes : List Int} {inner : List Tr} {vn vi : Value} {cells : List Value} (h0 : Wi thr) (h1 : SlI w r vn nodes) (h2 : SlD w (Dm w r) 3 vi cells) (h3 : nodes.length ≤ 1073741824) (h4 : inner.length ≤ 1073741824) (h5 : TrsD w (Dm w r) cells inner) :
    TrR w r (.agg #[.int .i64 thr, vn, vi]) (.mk thr nodes inner) := by
  unfold TrR
  simp only [TrD]
  exact ⟨vn, vi, cells, rfl, h0, h1.1, h1.2, h2, h3, h4, h5⟩

theorem TrD.shape {D : Nat → Prop} {w : World} {v : Value} {t : Tr} (h : TrD w D v t) :
    ∃ (th : Int) (A1 : Option Addr) (n1 c1 : Nat) (A2 : Option Addr) (n2 c2 : Nat), v = .agg #[.int .i64 th, .slice A1 n1 c1, .slice A2 n2 c2] := by
  obtain ⟨thr, nodes, inner⟩ := t
  simp only [TrD] at h
  obtain ⟨vn, vi, cells, rfl, h0, h1, h2, h3, h4, h5, h6⟩ := h
  obtain ⟨A, n, c, rfl, _⟩ := h1
  obtain ⟨A', n', c', rfl, _⟩ := h3
  exact ⟨thr, A, n, c, A', n', c', rfl⟩
theorem TrD.mk_ {D : Nat → Prop} {w : World} {thr : Int} {nodes : List Int} {inner : List Tr} {vn vi : Value} {cells : List Value} (h0 : Wi thr) (h1 : SlD w D 1 vn (nodes.map (Value.int .i64))) (h1' : ∀ x ∈ nodes, Wi x) (h2 : SlD w D 3 vi cells) (h3 : nodes.length ≤ 1073741824) (h4 : inner.length ≤ 1073741824) (h5 : TrsD w D cells inner) :
    TrD w D (.agg #[.int .i64 thr, vn, vi]) (.mk thr nodes inner) := by
  simp only [TrD]
  exact ⟨vn, vi, cells, rfl, h0, h1, h1', h2, h3, h4, h5⟩
/-- The shape of a trust's three cells. -/
theorem TrR.shape {r : Option Nat} {w : World} {x y z : Value} {t : Tr} (h : TrR w r (.agg #[x, y, z]) t) :
    ∃ (th : Int) (A1 : Option Addr) (n1 c1 : Nat) (A2 : Option Addr) (n2 c2 : Nat), x = .int .i64 th ∧ y = .slice A1 n1 c1 ∧ z = .slice A2 n2 c2 := by
  obtain ⟨thr, nodes, inner⟩ := t
  unfold TrR at h
  simp only [TrD] at h
  obtain ⟨vn, vi, cells, e, h0, h1, h2, h3, h4, h5, h6⟩ := h
  obtain ⟨A, n, c, rfl, _⟩ := h1
  obtain ⟨A', n', c', rfl, _⟩ := h3
  simp only [Value.agg.injEq, Array.mk.injEq, List.cons.injEq, and_true] at e
  exact ⟨thr, A, n, c, A', n', c', e.1, e.2.1, e.2.2⟩

/-- The form of a trust for a walk. -/
theorem TrR.open_ {r : Option Nat} {w : World} {v : Value} {thr : Int} {nodes : List Int} {inner : List Tr} (h : TrR w r v (.mk thr nodes inner)) :
    ∃ A c A' c', v = .agg #[.int .i64 thr, .slice A nodes.length c, .slice A' inner.length c'] ∧ Wi thr ∧ SlI w r (.slice A nodes.length c) nodes ∧ nodes.length ≤ 1073741824 ∧ inner.length ≤ 1073741824 ∧ inner.length ≤ c' ∧ c' ≤ 9223372036854775807 ∧
      (0 < inner.length → ∃ b off, A' = some ⟨b, off, none⟩ ∧ b < w.heap.size ∧ some b ≠ r ∧ ∀ k (hk : k < inner.length), ∃ x y z, w.cell? ⟨b, off + k * 3, none⟩ = some x ∧ w.cell? ⟨b, off + k * 3 + 1, none⟩ = some y ∧ w.cell? ⟨b, off + k * 3 + 2, none⟩ = some z ∧ TrR w r (.agg #[x, y, z]) inner[k]) := by
  unfold TrR at h
  simp only [TrD] at h
  obtain ⟨vn, vi, cells, rfl, h0, h1, h2, h3, h4, h5, h6⟩ := h
  have h1' := h1
  have h3' := h3
  obtain ⟨A, n, c, rfl, hl, hc, hm, hx⟩ := h1
  obtain ⟨A', n', c', rfl, hl', hc', hm', hx'⟩ := h3
  have hlen := h6.len
  have hn' : n' = inner.length := by omega
  have hn : n = nodes.length := by simpa using hl.symm
  subst hn' hn
  unfold maxLen at hm hm'
  unfold Few at h4 h5
  refine ⟨A, c, A', c', rfl, h0, ⟨h1', h2⟩, h4, h5, hc', hm', fun hp => ?_⟩
  obtain ⟨b, off, rfl, hb, hx⟩ := hx' hp
  refine ⟨b, off, rfl, hb.1, hb.2, fun k hk => ?_⟩
  obtain ⟨x, y, z, g1, g2, g3, g4⟩ := h6.get k hk
  exact ⟨x, y, z, hx _ _ g1, hx _ _ g2, hx _ _ g3, g4⟩

/-- Sets of nodes: ints from 0 to 1023. -/
def validB (s : Int) : Bool := decide (0 ≤ s ∧ s ≤ 1023)
/-- Is node k in the set s? -/
def hasB (s k : Int) : Bool := validB s && decide (0 ≤ k ∧ k < 10) && s.toNat.testBit k.toNat

def cntN (s : Int) (l : List Int) : Nat := l.countP (hasB s)
mutual
def sat (s : Int) : Tr → Bool
  | .mk thr nodes inner => validB s && decide (thr ≤ ((cntN s nodes + cntI s inner : Nat) : Int))
def cntI (s : Int) : List Tr → Nat
  | [] => 0
  | x :: r => (if sat s x then 1 else 0) + cntI s r
end
theorem cntI_append (s : Int) : ∀ l m, cntI s (l ++ m) = cntI s l + cntI s m
  | [], m => by simp [cntI]
  | x :: r, m => by simp only [List.cons_append, cntI, cntI_append s r m]; omega
theorem cntI_le (s : Int) : ∀ l, cntI s l ≤ l.length
  | [] => by simp [cntI]
  | x :: r => by have := cntI_le s r; simp only [cntI, List.length_cons]; split <;> omega
theorem cntI_take (s : Int) (l : List Tr) (k : Nat) (hk : k < l.length) : cntI s (l.take (k + 1)) = cntI s (l.take k) + (if sat s l[k] then 1 else 0) := by
  rw [List.take_succ_eq_append_getElem hk, cntI_append]; simp [cntI]
theorem cntN_take (s : Int) (l : List Int) (k : Nat) (hk : k < l.length) : cntN s (l.take (k + 1)) = cntN s (l.take k) + (if hasB s l[k] then 1 else 0) := by
  unfold cntN
  rw [List.take_succ_eq_append_getElem hk, List.countP_append]; simp [List.countP_cons]
theorem cntN_le (s : Int) (l : List Int) : cntN s l ≤ l.length := List.countP_le_length
end Go.Proofs.YtpdhckbiioobhaaGreatDoor

/- The normal form of a trust, plain: the order of trusts, the steps of the normal form, and that it means the same. -/
namespace Go.Proofs.YtpdhckbiioobhaaGreatDoor
open Go.RowKit

/-- The order of numbers, of lists of numbers, of trusts. -/
def sgnI (a b : Int) : Int := if a < b then -1 else if b < a then 1 else 0
def cmpNs : List Int → List Int → Int
  | [], [] => 0
  | [], _ :: _ => -1
  | _ :: _, [] => 1
  | x :: r, y :: s => if sgnI x y ≠ 0 then sgnI x y else cmpNs r s
mutual
def cmpT : Tr → Tr → Int
  | .mk t n i, .mk t' n' i' => if sgnI t t' ≠ 0 then sgnI t t' else if cmpNs n n' ≠ 0 then cmpNs n n' else cmpTs i i'
def cmpTs : List Tr → List Tr → Int
  | [], [] => 0
  | [], _ :: _ => -1
  | _ :: _, [] => 1
  | x :: r, y :: s => if cmpT x y ≠ 0 then cmpT x y else cmpTs r s
end
theorem sgnI_zero (a b : Int) : sgnI a b = 0 ↔ a = b := by
  unfold sgnI
  split
  · constructor <;> intro h <;> omega
  · split
    · constructor <;> intro h <;> omega
    · constructor <;> intro h <;> omega
theorem cmpNs_zero : ∀ a b : List Int, cmpNs a b = 0 ↔ a = b
  | [], [] => by simp [cmpNs]
  | [], _ :: _ => by simp [cmpNs]
  | _ :: _, [] => by simp [cmpNs]
  | x :: r, y :: s => by
    have h1 := sgnI_zero x y
    have h2 := cmpNs_zero r s
    simp only [cmpNs, List.cons.injEq]
    by_cases h : sgnI x y = 0
    · rw [if_neg (by simpa using h)]
      rw [h2]
      exact ⟨fun e => ⟨h1.1 h, e⟩, fun e => e.2⟩
    · rw [if_pos h]
      exact ⟨fun e => absurd e h, fun e => absurd (h1.2 e.1) h⟩
mutual
theorem cmpT_zero : ∀ a b : Tr, cmpT a b = 0 ↔ a = b
  | .mk t n i, .mk t' n' i' => by
    have h1 := sgnI_zero t t'
    have h2 := cmpNs_zero n n'
    have h3 := cmpTs_zero i i'
    simp only [cmpT, Tr.mk.injEq]
    by_cases h : sgnI t t' = 0
    · rw [if_neg (by simpa using h)]
      by_cases h' : cmpNs n n' = 0
      · rw [if_neg (by simpa using h'), h3]
        exact ⟨fun e => ⟨h1.1 h, h2.1 h', e⟩, fun e => e.2.2⟩
      · rw [if_pos h']
        exact ⟨fun e => absurd e h', fun e => absurd (h2.2 e.2.1) h'⟩
    · rw [if_pos h]
      exact ⟨fun e => absurd e h, fun e => absurd (h1.2 e.1) h⟩
theorem cmpTs_zero : ∀ a b : List Tr, cmpTs a b = 0 ↔ a = b
  | [], [] => by simp [cmpTs]
  | [], _ :: _ => by simp [cmpTs]
  | _ :: _, [] => by simp [cmpTs]
  | x :: r, y :: s => by
    have h1 := cmpT_zero x y
    have h2 := cmpTs_zero r s
    simp only [cmpTs, List.cons.injEq]
    by_cases h : cmpT x y = 0
    · rw [if_neg (by simpa using h)]
      rw [h2]
      exact ⟨fun e => ⟨h1.1 h, e⟩, fun e => e.2⟩
    · rw [if_pos h]
      exact ⟨fun e => absurd e h, fun e => absurd (h1.2 e.1) h⟩
end

/-- One node more, if it is not there; one trust more, if none is equal to it. -/
def addN (l : List Int) (k : Int) : List Int := if l.any (fun x => decide (x = k)) then l else l ++ [k]
def withT (l : List Tr) (t : Tr) : List Tr := if l.any (fun x => decide (cmpT x t = 0)) then l else l ++ [t]
def cnt1 (t : Tr) : Nat := t.nodes.length + t.inner.length
/-- Is an inner trust of the sort that is taken in? -/
def tak (all : Bool) (x : Tr) : Bool := if all then decide (x.thr = (cnt1 x : Int)) else decide (x.thr = 1)
def mergeS (all : Bool) (st : List Int × List Tr) (x : Tr) : List Int × List Tr := if tak all x then (x.nodes.foldl addN st.1, x.inner.foldl withT st.2) else (st.1, withT st.2 x)
def mergeL (all : Bool) (st : List Int × List Tr) : List Int × List Tr := st.2.foldl (mergeS all) (st.1, [])
def mergedT (thr : Int) (st : List Int × List Tr) (all : Bool) : Tr := .mk (if all then (((mergeL all st).1.length + (mergeL all st).2.length : Nat) : Int) else thr) (mergeL all st).1 (mergeL all st).2
def sortN (l : List Int) : List Int := ((List.range 10).map Int.ofNat).filter fun k => l.any (fun x => decide (x = k))
/-- A trust put into its place. -/
def insT (l : List Tr) (x : Tr) : List Tr := l.take (l.length - (l.reverse.takeWhile fun y => decide (0 < cmpT y x)).length) ++ x :: l.drop (l.length - (l.reverse.takeWhile fun y => decide (0 < cmpT y x)).length)
def sortT (l : List Tr) : List Tr := l.foldl insT []
def liftS (st : List Int × List Tr) (x : Tr) : List Int × List Tr :=
  match x.nodes, x.inner with
  | [k], [] => if st.1.any (fun y => decide (y = k)) then (st.1, st.2 ++ [x]) else (st.1 ++ [k], st.2)
  | _, _ => (st.1, st.2 ++ [x])
def mrgT (thr : Int) (st : List Int × List Tr) : Tr := if thr = 1 then mergedT thr st false else if thr = ((st.1.length + st.2.length : Nat) : Int) then mergedT thr st true else .mk thr st.1 st.2
def ordT (t : Tr) : Tr := .mk t.thr (sortN t.nodes) (sortT t.inner)
def finT (t : Tr) : Tr :=
  match t.nodes, t.inner with
  | [], [y] => y
  | _, _ => t
mutual
/-- The normal form. -/
def normT : Tr → Tr
  | .mk thr nodes inner => finT (ordT (mrgT thr ((normL inner).foldl liftS (nodes, []))))
def normL : List Tr → List Tr
  | [] => []
  | x :: r => normT x :: normL r
end

mutual
/-- Valid at all levels. -/
def OkT : Tr → Prop
  | .mk thr nodes inner => 1 ≤ thr ∧ thr ≤ ((nodes.length + inner.length : Nat) : Int) ∧ (∀ x ∈ nodes, 0 ≤ x ∧ x < 10) ∧ nodes.Nodup ∧ OkTs inner
def OkTs : List Tr → Prop
  | [] => True
  | x :: r => OkT x ∧ OkTs r
end
theorem okTs_iff : ∀ l : List Tr, OkTs l ↔ ∀ x ∈ l, OkT x
  | [] => by simp [OkTs]
  | x :: r => by simp [OkTs, okTs_iff r]
theorem ofS_ok : ∀ (l : List Int) (s : Nat), (∀ x ∈ l, 0 ≤ x ∧ x < 10) → ((ofS l s).2 = 0 ↔ l.Nodup ∧ ∀ x ∈ l, s.testBit x.toNat = false)
  | [], s, _ => by simp [ofS]
  | k :: r, s, h => by
    have hk := h k (by simp)
    obtain ⟨n, rfl⟩ := Int.eq_ofNat_of_zero_le hk.1
    have hr : ∀ x ∈ r, 0 ≤ x ∧ x < 10 := fun x hx => h x (List.mem_cons_of_mem _ hx)
    have ih := ofS_ok r (s ||| 2 ^ n) hr
    simp only [ofS, Int.toNat_natCast]
    rw [if_neg (by omega)]
    cases hb : s.testBit n with
    | true => simp [hb]
    | false =>
      simp only [Bool.false_eq_true, if_false]
      rw [ih]
      simp only [List.nodup_cons, List.mem_cons, Nat.testBit_or, Bool.or_eq_false_iff, Nat.testBit_two_pow]
      constructor
      · rintro ⟨h1, h2⟩
        refine ⟨⟨fun hm => ?_, h1⟩, fun x hx => ?_⟩
        · have := (h2 _ hm).2
          simp at this
        · rcases hx with rfl | hx
          · simpa using hb
          · exact (h2 x hx).1
      · rintro ⟨⟨h1, h2⟩, h3⟩
        refine ⟨h2, fun x hx => ⟨h3 x (.inr hx), ?_⟩⟩
        obtain ⟨m, rfl⟩ := Int.eq_ofNat_of_zero_le (hr x hx).1
        simp only [Int.toNat_natCast, decide_eq_false_iff_not]
        intro e
        apply h1
        rw [e]
        exact hx
mutual
theorem okT_iff : ∀ t : Tr, checkE t = 0 ↔ OkT t
  | .mk thr nodes inner => by
    have ih := okTs_iffE inner
    simp only [checkE, OkT]
    by_cases h1 : thr < 1 ∨ ((nodes.length + inner.length : Nat) : Int) < thr
    · rw [if_pos h1]
      constructor
      · intro h; omega
      · rintro ⟨a, b, _⟩; omega
    · rw [if_neg h1]
      by_cases h2 : nodes.any (fun k => decide (k < 0 ∨ 10 ≤ k)) = true
      · rw [if_pos h2]
        constructor
        · intro h; omega
        · rintro ⟨_, _, c, _⟩
          obtain ⟨x, hx, hd⟩ := List.any_eq_true.1 h2
          have := c x hx
          have hd := of_decide_eq_true hd
          omega
      · rw [if_neg h2]
        have hr : ∀ x ∈ nodes, 0 ≤ x ∧ x < 10 := fun x hx => by
          have h4 : ¬ (x < 0 ∨ 10 ≤ x) := fun hc => h2 (List.any_eq_true.2 ⟨x, hx, decide_eq_true hc⟩)
          omega
        have ho := ofS_ok nodes 0 hr
        by_cases h3 : (ofS nodes 0).2 = 0
        · rw [if_neg (by simpa using h3), ih]
          exact ⟨fun h => ⟨by omega, by omega, hr, (ho.1 h3).1, h⟩, fun h => h.2.2.2.2⟩
        · rw [if_pos h3]
          exact ⟨fun h => absurd h h3, fun h => absurd (ho.2 ⟨h.2.2.2.1, by simp⟩) h3⟩
theorem okTs_iffE : ∀ l : List Tr, checkL l = 0 ↔ OkTs l
  | [] => by simp [checkL, OkTs]
  | x :: r => by
    have h1 := okT_iff x
    have h2 := okTs_iffE r
    simp only [checkL, OkTs]
    by_cases h : checkE x = 0
    · rw [if_neg (by simpa using h), h2]
      exact ⟨fun e => ⟨h1.1 h, e⟩, fun e => e.2⟩
    · rw [if_pos h]
      exact ⟨fun e => absurd e h, fun e => absurd (h1.2 e.1) h⟩
end

/-! ### What a set says of entries -/
theorem cntI_eq (s : Int) : ∀ l : List Tr, cntI s l = l.countP (sat s)
  | [] => by simp [cntI]
  | x :: r => by
    simp only [cntI, cntI_eq s r, List.countP_cons]
    omega
theorem sat_mk {s : Int} (hs : validB s = true) (thr : Int) (n : List Int) (i : List Tr) : sat s (.mk thr n i) = decide (thr ≤ ((cntN s n + cntI s i : Nat) : Int)) := by
  simp only [sat, hs, Bool.true_and]
/-- One entry is there. -/
def AnyE (s : Int) (n : List Int) (i : List Tr) : Prop := (∃ k ∈ n, hasB s k = true) ∨ ∃ x ∈ i, sat s x = true
def AllE (s : Int) (n : List Int) (i : List Tr) : Prop := (∀ k ∈ n, hasB s k = true) ∧ ∀ x ∈ i, sat s x = true
theorem cnt_any (s : Int) (n : List Int) (i : List Tr) : 1 ≤ ((cntN s n + cntI s i : Nat) : Int) ↔ AnyE s n i := by
  unfold AnyE cntN
  rw [cntI_eq, ← List.countP_pos_iff, ← List.countP_pos_iff]
  omega
theorem cnt_all (s : Int) (n : List Int) (i : List Tr) : ((n.length + i.length : Nat) : Int) ≤ ((cntN s n + cntI s i : Nat) : Int) ↔ AllE s n i := by
  unfold AllE cntN
  rw [cntI_eq, ← List.countP_eq_length, ← List.countP_eq_length]
  have h1 := List.countP_le_length (p := hasB s) (l := n)
  have h2 := List.countP_le_length (p := sat s) (l := i)
  omega
theorem sat_any1 {s : Int} (hs : validB s = true) (n : List Int) (i : List Tr) : sat s (.mk 1 n i) = true ↔ AnyE s n i := by
  rw [sat_mk hs, decide_eq_true_eq, cnt_any]
theorem sat_all1 {s : Int} (hs : validB s = true) {thr : Int} {n : List Int} {i : List Tr} (h : thr = ((n.length + i.length : Nat) : Int)) : sat s (.mk thr n i) = true ↔ AllE s n i := by
  rw [sat_mk hs, decide_eq_true_eq, h, cnt_all]

/-! ### Adding -/
theorem mem_addN (l : List Int) (k x : Int) : x ∈ addN l k ↔ x ∈ l ∨ x = k := by
  unfold addN
  split
  · rename_i h
    obtain ⟨y, hy, e⟩ := List.any_eq_true.1 h
    have e := of_decide_eq_true e
    subst e
    exact ⟨.inl, fun h => h.elim id (fun e => e ▸ hy)⟩
  · simp
theorem mem_addNs : ∀ (ns l : List Int) (x : Int), x ∈ ns.foldl addN l ↔ x ∈ l ∨ x ∈ ns
  | [], l, x => by simp
  | k :: r, l, x => by
    rw [List.foldl_cons, mem_addNs r, mem_addN, List.mem_cons]
    exact or_assoc
theorem nodup_addN {l : List Int} (h : l.Nodup) (k : Int) : (addN l k).Nodup := by
  unfold addN
  split
  · exact h
  · rename_i hk
    refine List.nodup_append.2 ⟨h, by simp, fun a ha b hb => ?_⟩
    simp only [List.mem_singleton] at hb
    rintro rfl
    exact hk (List.any_eq_true.2 ⟨a, ha, decide_eq_true hb⟩)
theorem nodup_addNs : ∀ (ns l : List Int), l.Nodup → (ns.foldl addN l).Nodup
  | [], l, h => h
  | k :: r, l, h => by rw [List.foldl_cons]; exact nodup_addNs r _ (nodup_addN h k)
theorem len_addN (l : List Int) (k : Int) : (addN l k).length ≤ l.length + 1 := by unfold addN; split <;> simp
theorem len_addNs : ∀ (ns l : List Int), (ns.foldl addN l).length ≤ l.length + ns.length
  | [], l => by simp
  | k :: r, l => by
    rw [List.foldl_cons, List.length_cons]
    have h1 := len_addNs r (addN l k)
    have h2 := len_addN l k
    omega
theorem mem_withT (l : List Tr) (t x : Tr) : x ∈ withT l t ↔ x ∈ l ∨ x = t := by
  unfold withT
  split
  · rename_i h
    obtain ⟨y, hy, e⟩ := List.any_eq_true.1 h
    have e := (cmpT_zero _ _).1 (of_decide_eq_true e)
    subst e
    exact ⟨.inl, fun h => h.elim id (fun e => e ▸ hy)⟩
  · simp
theorem mem_withTs : ∀ (ns l : List Tr) (x : Tr), x ∈ ns.foldl withT l ↔ x ∈ l ∨ x ∈ ns
  | [], l, x => by simp
  | k :: r, l, x => by
    rw [List.foldl_cons, mem_withTs r, mem_withT, List.mem_cons]
    exact or_assoc
/-- The weight of inner trusts. -/
def wgt (l : List Tr) : Nat := l.length + sizeL l
theorem wgt_append (l m : List Tr) : wgt (l ++ m) = wgt l + wgt m := by
  unfold wgt
  rw [sizeL_append, List.length_append]
  omega
theorem wgt_one (t : Tr) : wgt [t] = 1 + t.size := by simp [wgt, sizeL]
theorem wgt_cons (x : Tr) (r : List Tr) : wgt (x :: r) = 1 + x.size + wgt r := by simp [wgt, sizeL]; omega
theorem wgt_withT (l : List Tr) (t : Tr) : wgt (withT l t) ≤ wgt l + 1 + t.size := by
  unfold withT
  split
  · omega
  · rw [wgt_append, wgt_one]; omega
theorem wgt_withTs : ∀ (ns l : List Tr), wgt (ns.foldl withT l) ≤ wgt l + wgt ns
  | [], l => by simp
  | k :: r, l => by
    rw [List.foldl_cons]
    have h1 := wgt_withTs r (withT l k)
    have h2 := wgt_withT l k
    have h3 : wgt (k :: r) = 1 + k.size + wgt r := by simp [wgt, sizeL]; omega
    omega
theorem depL_le (l : List Tr) (d : Nat) : depL l ≤ d ↔ ∀ x ∈ l, x.dep ≤ d := by
  induction l with
  | nil => simp [depL]
  | cons x r ih => simp only [depL, List.mem_cons, forall_eq_or_imp, ← ih]; omega

/-! ### Merging -/
theorem merge_nodes (all : Bool) : ∀ (L : List Tr) (st : List Int × List Tr) (k : Int), k ∈ (L.foldl (mergeS all) st).1 ↔ k ∈ st.1 ∨ ∃ x ∈ L, tak all x = true ∧ k ∈ x.nodes
  | [], st, k => by simp
  | x :: r, st, k => by
    rw [List.foldl_cons, merge_nodes all r]
    unfold mergeS
    by_cases h : tak all x = true
    · rw [if_pos h]
      simp only [mem_addNs, List.mem_cons, exists_eq_or_imp, h, true_and]
      exact or_assoc
    · rw [if_neg h]
      simp [h]
theorem merge_inner (all : Bool) : ∀ (L : List Tr) (st : List Int × List Tr) (y : Tr), y ∈ (L.foldl (mergeS all) st).2 ↔ y ∈ st.2 ∨ ∃ x ∈ L, (tak all x = true ∧ y ∈ x.inner) ∨ (tak all x = false ∧ y = x)
  | [], st, y => by simp
  | x :: r, st, y => by
    rw [List.foldl_cons, merge_inner all r]
    unfold mergeS
    by_cases h : tak all x = true
    · rw [if_pos h]
      simp only [mem_withTs, List.mem_cons, exists_eq_or_imp, h, true_and, Bool.true_eq_false, false_and, or_false]
      exact or_assoc
    · have h' : tak all x = false := by simpa using h
      rw [if_neg h]
      simp only [mem_withT, List.mem_cons, exists_eq_or_imp, h', Bool.false_eq_true, false_and, true_and, false_or]
      exact or_assoc
theorem merge_nodup (all : Bool) : ∀ (L : List Tr) (st : List Int × List Tr), st.1.Nodup → (L.foldl (mergeS all) st).1.Nodup
  | [], st, h => h
  | x :: r, st, h => by
    rw [List.foldl_cons]
    refine merge_nodup all r _ ?_
    unfold mergeS
    split
    · exact nodup_addNs _ _ h
    · exact h
theorem merge_wgt (all : Bool) : ∀ (L : List Tr) (st : List Int × List Tr), (L.foldl (mergeS all) st).1.length + wgt (L.foldl (mergeS all) st).2 ≤ st.1.length + wgt st.2 + wgt L
  | [], st => by simp
  | x :: r, st => by
    rw [List.foldl_cons]
    have h1 := merge_wgt all r (mergeS all st x)
    have h3 : wgt (x :: r) = 1 + x.size + wgt r := by simp [wgt, sizeL]; omega
    have h2 : (mergeS all st x).1.length + wgt (mergeS all st x).2 ≤ st.1.length + wgt st.2 + 1 + x.size := by
      unfold mergeS
      split
      · have a := len_addNs x.nodes st.1
        have b := wgt_withTs x.inner st.2
        have c : x.size = x.nodes.length + wgt x.inner := by obtain ⟨t, n, i⟩ := x; simp [Tr.size, Tr.nodes, Tr.inner, wgt]; omega
        simp only
        omega
      · have b := wgt_withT st.2 x
        simp only
        omega
    omega
end Go.Proofs.YtpdhckbiioobhaaGreatDoor

/- The normal form of a valid trust is valid, means the same, and is no larger. -/
namespace Go.Proofs.YtpdhckbiioobhaaGreatDoor
open Go.RowKit

/-- t' means what t means, is valid, and no larger. -/
def Rel (t t' : Tr) : Prop := OkT t' ∧ (∀ s, validB s = true → sat s t' = sat s t) ∧ t'.size ≤ t.size ∧ t'.dep ≤ t.dep
theorem Rel.trans {a b c : Tr} (h : Rel a b) (k : Rel b c) : Rel a c := ⟨k.1, fun s hs => (k.2.1 s hs).trans (h.2.1 s hs), Nat.le_trans k.2.2.1 h.2.2.1, Nat.le_trans k.2.2.2 h.2.2.2⟩
theorem Rel.refl {a : Tr} (h : OkT a) : Rel a a := ⟨h, fun _ _ => rfl, Nat.le_refl _, Nat.le_refl _⟩
theorem size_mk (thr : Int) (n : List Int) (i : List Tr) : (Tr.mk thr n i).size = n.length + wgt i := by simp only [Tr.size, wgt]; omega
theorem dep_mk (thr : Int) (n : List Int) (i : List Tr) : (Tr.mk thr n i).dep = depL i + 1 := by simp only [Tr.dep]
theorem okT_mk (thr : Int) (n : List Int) (i : List Tr) : OkT (.mk thr n i) ↔ 1 ≤ thr ∧ thr ≤ ((n.length + i.length : Nat) : Int) ∧ (∀ x ∈ n, 0 ≤ x ∧ x < 10) ∧ n.Nodup ∧ ∀ x ∈ i, OkT x := by simp only [OkT, okTs_iff]

/-! ### Lifting -/
/-- What holds while single nodes are lifted. -/
def LiftI (st0 : List Int × List Tr) (L : List Tr) (st : List Int × List Tr) : Prop :=
  (∀ s, validB s = true → cntN s st.1 + cntI s st.2 = cntN s st0.1 + cntI s st0.2 + cntI s L) ∧ st.1.length + st.2.length = st0.1.length + st0.2.length + L.length ∧ st.1.Nodup ∧ (∀ x ∈ st.1, 0 ≤ x ∧ x < 10) ∧ (∀ x ∈ st.2, OkT x) ∧
    st.1.length + wgt st.2 ≤ st0.1.length + wgt st0.2 + wgt L ∧ (∀ d, depL st0.2 ≤ d → depL L ≤ d → depL st.2 ≤ d)
theorem any_false_mem {l : List Int} {k : Int} (h : ¬ l.any (fun y => decide (y = k)) = true) : k ∉ l := fun hm => h (List.any_eq_true.2 ⟨k, hm, decide_eq_true rfl⟩)
theorem lift_keep {st : List Int × List Tr} {x : Tr} (hx : OkT x) (h1 : st.1.Nodup) (h2 : ∀ x ∈ st.1, 0 ≤ x ∧ x < 10) (h3 : ∀ x ∈ st.2, OkT x) : LiftI st [x] (st.1, st.2 ++ [x]) :=
  ⟨fun s _ => by simp only [cntI_append]; omega, by simp; omega, h1, h2, fun y hy => by
    rcases List.mem_append.1 hy with h | h
    · exact h3 y h
    · simp only [List.mem_singleton] at h; exact h ▸ hx, by simp only [wgt_append]; omega, fun d a b => by simp only [depL_append]; omega⟩
theorem lift_one {st : List Int × List Tr} {x : Tr} (hx : OkT x) (h1 : st.1.Nodup) (h2 : ∀ x ∈ st.1, 0 ≤ x ∧ x < 10) (h3 : ∀ x ∈ st.2, OkT x) : LiftI st [x] (liftS st x) := by
  obtain ⟨thr, n, i⟩ := x
  unfold liftS
  simp only [Tr.nodes, Tr.inner]
  split
  · rename_i k
    split
    · exact lift_keep hx h1 h2 h3
    · rename_i hk
      have hk := any_false_mem hk
      obtain ⟨a, b, c, _⟩ := (okT_mk _ _ _).1 hx
      simp only [List.length_cons, List.length_nil] at b
      obtain rfl : thr = 1 := by omega
      refine ⟨fun s hs => ?_, by simp; omega, ?_, ?_, h3, ?_, fun d a _ => a⟩
      · have e : cntI s [Tr.mk 1 [k] []] = cntN s [k] := by
          simp only [cntI, sat_mk hs, Nat.add_zero]
          unfold cntN
          rw [List.countP_cons, List.countP_nil]
          cases hasB s k <;> simp
        rw [e]
        show cntN s (st.1 ++ [k]) + cntI s st.2 = _
        unfold cntN
        rw [List.countP_append]
        omega
      · refine List.nodup_append.2 ⟨h1, by simp, fun a ha b hb => ?_⟩
        simp only [List.mem_singleton] at hb
        rintro rfl
        exact hk (hb ▸ ha)
      · intro y hy
        rcases List.mem_append.1 hy with h | h
        · exact h2 y h
        · exact c y h
      · simp only [List.length_append, List.length_singleton, wgt_one, size_mk]
        omega
  · exact lift_keep hx h1 h2 h3
theorem lift_all : ∀ (L : List Tr) (st : List Int × List Tr), (∀ x ∈ L, OkT x) → st.1.Nodup → (∀ x ∈ st.1, 0 ≤ x ∧ x < 10) → (∀ x ∈ st.2, OkT x) → LiftI st L (L.foldl liftS st)
  | [], st, _, h1, h2, h3 => ⟨fun _ _ => by simp [cntI], by simp, h1, h2, h3, by simp [wgt, sizeL], fun d a _ => a⟩
  | x :: r, st, hL, h1, h2, h3 => by
    obtain ⟨a1, a2, a3, a4, a5, a6, a7⟩ := lift_one (hL x (by simp)) h1 h2 h3
    obtain ⟨b1, b2, b3, b4, b5, b6, b7⟩ := lift_all r (liftS st x) (fun y hy => hL y (List.mem_cons_of_mem _ hy)) a3 a4 a5
    rw [List.foldl_cons]
    refine ⟨fun s hs => ?_, ?_, b3, b4, b5, ?_, fun d c1 c2 => ?_⟩
    · have e1 := a1 s hs
      have e2 := b1 s hs
      simp only [cntI] at e1 ⊢
      omega
    · simp only [List.length_cons, List.length_nil] at a2 ⊢
      omega
    · rw [wgt_one] at a6
      rw [wgt_cons]
      omega
    · simp only [depL] at c2 a7
      exact b7 d (a7 d c1 (by omega)) (by omega)

/-! ### Merging -/
theorem tak_any {s : Int} (hs : validB s = true) {x : Tr} (h : tak false x = true) : sat s x = true ↔ AnyE s x.nodes x.inner := by
  obtain ⟨thr, n, i⟩ := x
  simp only [tak, Bool.false_eq_true, if_false, Tr.thr] at h
  have h := of_decide_eq_true h
  subst h
  exact sat_any1 hs n i
theorem tak_all {s : Int} (hs : validB s = true) {x : Tr} (h : tak true x = true) : sat s x = true ↔ AllE s x.nodes x.inner := by
  obtain ⟨thr, n, i⟩ := x
  simp only [tak, if_true, Tr.thr, cnt1, Tr.nodes, Tr.inner] at h
  exact sat_all1 hs (of_decide_eq_true h)
theorem merge_anyE {s : Int} (hs : validB s = true) (st : List Int × List Tr) : AnyE s (mergeL false st).1 (mergeL false st).2 ↔ AnyE s st.1 st.2 := by
  unfold AnyE mergeL
  simp only [merge_nodes, merge_inner, List.not_mem_nil, false_or]
  constructor
  · rintro (⟨k, hk | ⟨x, hx, ht, hk⟩, hh⟩ | ⟨y, ⟨x, hx, ⟨ht, hy⟩ | ⟨_, rfl⟩⟩, hh⟩)
    · exact .inl ⟨k, hk, hh⟩
    · exact .inr ⟨x, hx, (tak_any hs ht).2 (.inl ⟨k, hk, hh⟩)⟩
    · exact .inr ⟨x, hx, (tak_any hs ht).2 (.inr ⟨y, hy, hh⟩)⟩
    · exact .inr ⟨y, hx, hh⟩
  · rintro (⟨k, hk, hh⟩ | ⟨x, hx, hh⟩)
    · exact .inl ⟨k, .inl hk, hh⟩
    · cases ht : tak false x with
      | true =>
        rcases (tak_any hs ht).1 hh with ⟨k, hk, h⟩ | ⟨y, hy, h⟩
        · exact .inl ⟨k, .inr ⟨x, hx, ht, hk⟩, h⟩
        · exact .inr ⟨y, ⟨x, hx, .inl ⟨ht, hy⟩⟩, h⟩
      | false => exact .inr ⟨x, ⟨x, hx, .inr ⟨ht, rfl⟩⟩, hh⟩
theorem merge_allE {s : Int} (hs : validB s = true) (st : List Int × List Tr) : AllE s (mergeL true st).1 (mergeL true st).2 ↔ AllE s st.1 st.2 := by
  unfold AllE mergeL
  simp only [merge_nodes, merge_inner, List.not_mem_nil, false_or]
  constructor
  · rintro ⟨h1, h2⟩
    refine ⟨fun k hk => h1 k (.inl hk), fun x hx => ?_⟩
    cases ht : tak true x with
    | true => exact (tak_all hs ht).2 ⟨fun k hk => h1 k (.inr ⟨x, hx, ht, hk⟩), fun y hy => h2 y ⟨x, hx, .inl ⟨ht, hy⟩⟩⟩
    | false => exact h2 x ⟨x, hx, .inr ⟨ht, rfl⟩⟩
  · rintro ⟨h1, h2⟩
    constructor
    · rintro k (hk | ⟨x, hx, ht, hk⟩)
      · exact h1 k hk
      · exact ((tak_all hs ht).1 (h2 x hx)).1 k hk
    · rintro y ⟨x, hx, ⟨ht, hy⟩ | ⟨_, rfl⟩⟩
      · exact ((tak_all hs ht).1 (h2 x hx)).2 y hy
      · exact h2 y hx
theorem merge_ne (all : Bool) {st : List Int × List Tr} (h : 1 ≤ st.1.length + st.2.length) (ho : ∀ x ∈ st.2, OkT x) : 1 ≤ (mergeL all st).1.length + (mergeL all st).2.length := by
  have key : (∃ k, k ∈ (mergeL all st).1) ∨ ∃ y, y ∈ (mergeL all st).2 := by
    unfold mergeL
    simp only [merge_nodes, merge_inner, List.not_mem_nil, false_or]
    cases h1 : st.1 with
    | cons k r => exact .inl ⟨k, .inl (by simp)⟩
    | nil =>
      cases h2 : st.2 with
      | nil => rw [h1, h2] at h; simp at h
      | cons x r =>
        cases ht : tak all x with
        | false => exact .inr ⟨x, x, by simp, .inr ⟨ht, rfl⟩⟩
        | true =>
          have hx := ho x (by rw [h2]; simp)
          obtain ⟨thr, n, i⟩ := x
          obtain ⟨a, b, _⟩ := (okT_mk _ _ _).1 hx
          cases n with
          | cons k n => exact .inl ⟨k, .inr ⟨_, by simp, ht, by simp [Tr.nodes]⟩⟩
          | nil =>
            cases i with
            | cons y i => exact .inr ⟨y, _, by simp, .inl ⟨ht, by simp [Tr.inner]⟩⟩
            | nil => simp at b; omega
  rcases key with ⟨k, hk⟩ | ⟨y, hy⟩
  · have := List.length_pos_of_mem hk; omega
  · have := List.length_pos_of_mem hy; omega
theorem merge_rel (all : Bool) {thr : Int} {st : List Int × List Tr} (h : OkT (.mk thr st.1 st.2)) (hthr : if all then thr = ((st.1.length + st.2.length : Nat) : Int) else thr = 1) : Rel (.mk thr st.1 st.2) (mergedT thr st all) := by
  obtain ⟨a, b, c, d, e⟩ := (okT_mk _ _ _).1 h
  have hne := merge_ne all (st := st) (by omega) e
  have hin : ∀ y ∈ (mergeL all st).2, OkT y ∧ y.dep ≤ depL st.2 := fun y hy => by
    unfold mergeL at hy
    simp only [merge_inner, List.not_mem_nil, false_or] at hy
    obtain ⟨x, hx, ⟨_, hy⟩ | ⟨_, rfl⟩⟩ := hy
    · have hd := (depL_le st.2 _).1 (Nat.le_refl _) x hx
      have hx := e x hx
      obtain ⟨thr', n, i⟩ := x
      simp only [Tr.inner] at hy
      have := (depL_le i _).1 (Nat.le_refl _) y hy
      rw [dep_mk] at hd
      exact ⟨((okT_mk _ _ _).1 hx).2.2.2.2 y hy, by omega⟩
    · exact ⟨e y hx, (depL_le st.2 _).1 (Nat.le_refl _) y hx⟩
  have hnn : ∀ k ∈ (mergeL all st).1, 0 ≤ k ∧ k < 10 := fun k hk => by
    unfold mergeL at hk
    simp only [merge_nodes] at hk
    rcases hk with hk | ⟨x, hx, _, hk⟩
    · exact c k hk
    · have hx := e x hx
      obtain ⟨thr', n, i⟩ := x
      exact ((okT_mk _ _ _).1 hx).2.2.1 k hk
  have hnd : (mergeL all st).1.Nodup := merge_nodup all _ _ d
  have hw := merge_wgt all st.2 (st.1, [])
  unfold mergedT
  refine ⟨(okT_mk _ _ _).2 ⟨?_, ?_, hnn, hnd, fun x hx => (hin x hx).1⟩, fun s hs => ?_, ?_, ?_⟩
  · cases all
    · simp only [Bool.false_eq_true, if_false]; omega
    · simp only [if_true]; omega
  · cases all
    · simp only [Bool.false_eq_true, if_false] at hthr ⊢; omega
    · simp only [if_true]; omega
  · rw [Bool.eq_iff_iff]
    cases all
    · simp only [Bool.false_eq_true, if_false] at hthr ⊢
      subst hthr
      rw [sat_any1 hs, sat_any1 hs, merge_anyE hs]
    · simp only [if_true] at hthr ⊢
      rw [sat_all1 hs rfl, sat_all1 hs hthr, merge_allE hs]
  · rw [size_mk, size_mk]
    have : wgt ([] : List Tr) = 0 := by simp [wgt, sizeL]
    unfold mergeL
    simp only [this] at hw
    omega
  · rw [dep_mk, dep_mk]
    have := (depL_le (mergeL all st).2 (depL st.2)).2 (fun y hy => (hin y hy).2)
    omega
theorem mrg_rel {thr : Int} {st : List Int × List Tr} (h : OkT (.mk thr st.1 st.2)) : Rel (.mk thr st.1 st.2) (mrgT thr st) := by
  unfold mrgT
  split
  · exact merge_rel false h (by simpa)
  · split
    · exact merge_rel true h (by simpa)
    · exact Rel.refl h

/-! ### Sorting -/
theorem insT_perm (l : List Tr) (x : Tr) : (insT l x).Perm (x :: l) := by
  unfold insT
  generalize l.length - _ = m
  refine List.perm_middle.trans ?_
  rw [List.take_append_drop]
theorem sortT_perm' : ∀ (L l : List Tr), (L.foldl insT l).Perm (l ++ L)
  | [], l => by simp
  | x :: r, l => by
    rw [List.foldl_cons]
    refine (sortT_perm' r _).trans (((insT_perm l x).append_right r).trans ?_)
    exact List.perm_middle.symm
theorem sortT_perm (l : List Tr) : (sortT l).Perm l := by simpa [sortT] using sortT_perm' l []
theorem mem_sortN {l : List Int} (h : ∀ x ∈ l, 0 ≤ x ∧ x < 10) (k : Int) : k ∈ sortN l ↔ k ∈ l := by
  unfold sortN
  rw [List.mem_filter]
  constructor
  · rintro ⟨_, hk⟩
    obtain ⟨x, hx, e⟩ := List.any_eq_true.1 hk
    exact (of_decide_eq_true e) ▸ hx
  · intro hk
    refine ⟨?_, List.any_eq_true.2 ⟨k, hk, decide_eq_true rfl⟩⟩
    obtain ⟨a, b⟩ := h k hk
    obtain ⟨n, rfl⟩ := Int.eq_ofNat_of_zero_le a
    exact List.mem_map.2 ⟨n, by simp; omega, rfl⟩
theorem sortN_nodup (l : List Int) : (sortN l).Nodup := List.Pairwise.filter _ (by decide)
theorem sortN_perm {l : List Int} (h : ∀ x ∈ l, 0 ≤ x ∧ x < 10) (hd : l.Nodup) : (sortN l).Perm l :=
  (List.perm_ext_iff_of_nodup (sortN_nodup l) hd).2 (fun k => mem_sortN h k)
theorem sizeL_perm {l m : List Tr} (h : l.Perm m) : sizeL l = sizeL m := by
  induction h with
  | nil => rfl
  | cons x _ ih => simp only [sizeL, ih]
  | swap x y l => simp only [sizeL]; omega
  | trans _ _ a b => exact a.trans b
theorem depL_perm {l m : List Tr} (h : l.Perm m) : depL l = depL m := by
  induction h with
  | nil => rfl
  | cons x _ ih => simp only [depL, ih]
  | swap x y l => simp only [depL]; omega
  | trans _ _ a b => exact a.trans b
theorem ord_rel {t : Tr} (h : OkT t) : Rel t (ordT t) := by
  obtain ⟨thr, n, i⟩ := t
  obtain ⟨a, b, c, d, e⟩ := (okT_mk _ _ _).1 h
  have p1 := sortN_perm c d
  have p2 := sortT_perm i
  unfold ordT
  simp only [Tr.thr, Tr.nodes, Tr.inner]
  refine ⟨(okT_mk _ _ _).2 ⟨a, by rw [p1.length_eq, p2.length_eq]; exact b, fun x hx => c x ((mem_sortN c x).1 hx), sortN_nodup n, fun x hx => e x (p2.mem_iff.1 hx)⟩, fun s hs => ?_, ?_, ?_⟩
  · rw [sat_mk hs, sat_mk hs, cntI_eq, cntI_eq]
    unfold cntN
    rw [p1.countP_eq, p2.countP_eq]
  · rw [size_mk, size_mk]
    unfold wgt
    rw [p1.length_eq, p2.length_eq, sizeL_perm p2]
    omega
  · rw [dep_mk, dep_mk, depL_perm p2]
    omega
theorem fin_rel {t : Tr} (h : OkT t) : Rel t (finT t) := by
  obtain ⟨thr, n, i⟩ := t
  unfold finT
  simp only [Tr.nodes, Tr.inner]
  split
  · rename_i y
    obtain ⟨a, b, c, d, e⟩ := (okT_mk _ _ _).1 h
    simp only [List.length_nil, List.length_cons] at b
    obtain rfl : thr = 1 := by omega
    refine ⟨e y (by simp), fun s hs => ?_, ?_, ?_⟩
    · rw [sat_mk hs]
      simp only [cntI, cntN, List.countP_nil]
      by_cases hb : sat s y = true
      · simp [hb]
      · simp [hb]
    · rw [size_mk, wgt_one]; simp only [List.length_nil]; omega
    · rw [dep_mk]; simp only [depL]; omega
  · exact Rel.refl h

/-! ### The whole -/
mutual
theorem norm_rel : ∀ t : Tr, OkT t → Rel t (normT t)
  | .mk thr nodes inner, h => by
    obtain ⟨a, b, c, d, e⟩ := (okT_mk _ _ _).1 h
    obtain ⟨l1, l2, l3, l4, l5⟩ := norm_relL inner e
    obtain ⟨f1, f2, f3, f4, f5, f6, f7⟩ := lift_all (normL inner) (nodes, []) l2 d c (by simp)
    have h1 : Rel (.mk thr nodes inner) (.mk thr ((normL inner).foldl liftS (nodes, [])).1 ((normL inner).foldl liftS (nodes, [])).2) := by
      have hw : wgt ([] : List Tr) = 0 := by simp [wgt, sizeL]
      simp only [List.length_nil, Nat.add_zero, hw] at f2 f6
      refine ⟨(okT_mk _ _ _).2 ⟨a, by omega, f4, f3, f5⟩, fun s hs => ?_, ?_, ?_⟩
      · have e1 : cntN s ((normL inner).foldl liftS (nodes, [])).1 + cntI s ((normL inner).foldl liftS (nodes, [])).2 = cntN s nodes + cntI s inner := by
          rw [f1 s hs, l3 s hs]
          simp [cntI]
        rw [sat_mk hs, sat_mk hs, e1]
      · rw [size_mk, size_mk]; omega
      · rw [dep_mk, dep_mk]
        have := f7 (depL inner) (by simp [depL]) l5
        omega
    have h2 := mrg_rel h1.1
    have h3 := ord_rel h2.1
    have h4 := fin_rel h3.1
    simp only [normT]
    exact ((h1.trans h2).trans h3).trans h4
theorem norm_relL : ∀ L : List Tr, (∀ x ∈ L, OkT x) → (normL L).length = L.length ∧ (∀ x ∈ normL L, OkT x) ∧ (∀ s, validB s = true → cntI s (normL L) = cntI s L) ∧ wgt (normL L) ≤ wgt L ∧ depL (normL L) ≤ depL L
  | [], _ => by simp [normL]
  | x :: r, h => by
    obtain ⟨a1, a2, a3, a4⟩ := norm_rel x (h x (by simp))
    obtain ⟨b1, b2, b3, b4, b5⟩ := norm_relL r (fun y hy => h y (List.mem_cons_of_mem _ hy))
    simp only [normL]
    refine ⟨by simp [b1], fun y hy => ?_, fun s hs => ?_, ?_, ?_⟩
    · rcases List.mem_cons.1 hy with rfl | hy
      · exact a1
      · exact b2 y hy
    · simp only [cntI, a2 s hs, b3 s hs]
    · rw [wgt_cons, wgt_cons]; omega
    · simp only [depL]; omega
end
/-- The normal form of a valid trust: valid, the same meaning, no more entries and levels. -/
theorem norm_ok {t : Tr} (h : validE t = 0) : validE (normT t) = 0 ∧ (∀ s, validB s = true → sat s (normT t) = sat s t) ∧ (normT t).size ≤ t.size ∧ (normT t).dep ≤ t.dep := by
  unfold validE at h
  split at h
  · omega
  · rename_i h0
    obtain ⟨a, b, c, d⟩ := norm_rel t ((okT_iff t).1 h)
    refine ⟨?_, b, c, d⟩
    unfold validE
    rw [if_neg (by omega)]
    exact (okT_iff _).2 a
end Go.Proofs.YtpdhckbiioobhaaGreatDoor

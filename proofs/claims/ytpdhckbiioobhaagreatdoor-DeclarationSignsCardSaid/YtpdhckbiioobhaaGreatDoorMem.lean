/- Plain words for memory: frames ('Fr'), slices that read as lists of cells ('SlD', 'SlI'), own rows. No program in sight. -/
import Derived.WalkKit
import Derived.WalkSpells
import Derived.WalkLawsBesides
import Derived.Lib.Hide
import Derived.Maps.AppendAt
import Derived.Deep.AppendLies
import Derived.Deep.Draws
import Derived.Deep.LoopGhost
import Derived.BigQuiet
import Derived.Deep.QuietTactic
namespace Go.Proofs.YtpdhckbiioobhaaGreatDoor
open Go.RowKit

/-- From w to w' only the block r (if any) may have changed of what was there. -/
def Fr (r : Option Nat) (w w' : World) : Prop := w.grownBy w' r

theorem Fr.refl (r : Option Nat) (w : World) : Fr r w w := World.grownBy.refl w r
theorem Fr.size {r : Option Nat} {w w' : World} (h : Fr r w w') : w.heap.size ≤ w'.heap.size := World.grownBy.size h
theorem Fr.block {r : Option Nat} {w w' : World} (h : Fr r w w') (k : Nat) (hk : k < w.heap.size) (hr : some k ≠ r) : w'.heap[k]? = w.heap[k]? := World.grownBy.block h k hk hr
theorem Fr.trans {r r' : Option Nat} {a b c : World} (h : Fr r a b) (k : Fr r' b c) (hr : ∀ g, r' = some g → g < a.heap.size → r = some g) : Fr r a c :=
  ⟨(World.grownBy.os k).trans (World.grownBy.os h), (World.grownBy.tape k).trans (World.grownBy.tape h), (World.grownBy.output k).trans (World.grownBy.output h), Nat.le_trans h.size k.size, fun i hi hne =>
    (k.block i (Nat.lt_of_lt_of_le hi h.size) (fun e => hne ((hr i e.symm hi).symm))).trans (h.block i hi hne)⟩
theorem Fr.pure {r : Option Nat} {a b c : World} (h : Fr r a b) (k : Fr none b c) : Fr r a c := h.trans k (fun _ h => by cases h)
theorem Fr.same {r : Option Nat} {a b c : World} (h : Fr r a b) (k : Fr r b c) : Fr r a c := h.trans k (fun _ h _ => h)
theorem Fr.new {r : Option Nat} {a b c : World} {g : Nat} (h : Fr r a b) (k : Fr (some g) b c) (hg : a.heap.size ≤ g) : Fr r a c := h.trans k (fun x e hx => by injection e with e; omega)
theorem Fr.own {r r' : Option Nat} {a b c : World} (h : Fr r a b) (k : Fr r' b c) (hg : ∀ g, r' = some g → a.heap.size ≤ g) : Fr r a c := h.trans k (fun x e hx => by have := hg x e; omega)
theorem Fr.mono {r : Option Nat} {a b : World} (h : Fr none a b) : Fr r a b := (Fr.refl r a).pure h
theorem Fr.alloc {r : Option Nat} {a b : World} (h : Fr r a b) (o : Obj) : Fr r a (b.alloc o) := h.pure (World.grownBy_alloc b o none)
theorem Fr.drew {r : Option Nat} {a b : World} (h : Fr r a b) : Fr r a b.drew := ⟨World.grownBy.os (w' := b) h, World.grownBy.tape (w' := b) h, World.grownBy.output (w' := b) h, h.size, h.block⟩
theorem Fr.drewN {r : Option Nat} {a b : World} (h : Fr r a b) (n : Nat) : Fr r a (b.drewN n) := ⟨World.grownBy.os (w' := b) h, World.grownBy.tape (w' := b) h, World.grownBy.output (w' := b) h, h.size, h.block⟩
theorem Fr.set1 (w : World) (p : Addr) (u : Value) : Fr (some p.block) w (w.setCell p u) :=
  ⟨rfl, rfl, rfl, by simp [World.setCell], fun k hk hne => Below.heap_setCell w p u k (fun e => hne (by rw [e]))⟩
theorem Fr.setNew {r : Option Nat} {a b : World} (h : Fr r a b) {p : Addr} (hp : a.heap.size ≤ p.block) (u : Value) : Fr r a (b.setCell p u) := h.new (Fr.set1 b p u) hp
theorem Fr.setRow {a b : World} {g : Nat} (h : Fr (some g) a b) {p : Addr} (hp : p.block = g) (u : Value) : Fr (some g) a (b.setCell p u) := h.same (hp ▸ Fr.set1 b p u)
theorem Fr.cell {r : Option Nat} {w w' : World} (h : Fr r w w') {p : Addr} (hp : p.block < w.heap.size) (hr : some p.block ≠ r) : w'.cell? p = w.cell? p := World.cell?_of_block (h.block _ hp hr)
theorem Fr.frozen {r : Option Nat} {w w' : World} (h : Fr r w w') {p : Addr} (hp : p.block < w.heap.size) (hr : some p.block ≠ r) : w'.frozen? p = w.frozen? p := World.frozen?_of_block (h.block _ hp hr)
theorem Fr.below {w w' : World} (h : Fr none w w') : Below w.heap.size w w' := ⟨World.grownBy.os h, World.grownBy.tape h, World.grownBy.output h, h.size, fun k hk => h.block k hk (by simp)⟩
theorem Fr.of_below {w w' : World} (h : Below w.heap.size w w') : Fr none w w' := ⟨h.os, h.tape, h.output, h.size, fun k hk _ => h.block k hk⟩

/-- A cell of a block that is there, and is not the mutable one. -/
theorem Fr.keep {r : Option Nat} {w w' : World} (h : Fr r w w') {p : Addr} {u : Value} (hc : w.cell? p = some u) (hr : some p.block ≠ r) : w'.cell? p = some u := by
  rw [h.cell _ hr]; exact hc
  unfold World.cell? at hc
  rcases Nat.lt_or_ge p.block w.heap.size with h | h
  · exact h
  · rw [Array.getElem?_eq_none h] at hc; cases hc

/-- The blocks that count as data: those that are there, but for the mutable one. -/
def Dm (w : World) (r : Option Nat) : Nat → Prop := fun k => k < w.heap.size ∧ some k ≠ r
theorem Dm.up {r : Option Nat} {w w' : World} (h : w.heap.size ≤ w'.heap.size) {k : Nat} (hk : Dm w r k) : Dm w' r k := ⟨Nat.lt_of_lt_of_le hk.1 h, hk.2⟩

/-- A slice (elements of 'size' cells) whose cells are xs; its block is one of D. -/
def SlD (w : World) (D : Nat → Prop) (size : Nat) (v : Value) (xs : List Value) : Prop :=
  ∃ A n c, v = .slice A n c ∧ xs.length = n * size ∧ n ≤ c ∧ c ≤ maxLen ∧
    (0 < n → ∃ b off, A = some ⟨b, off, none⟩ ∧ D b ∧ ∀ j u, xs[j]? = some u → w.cell? ⟨b, off + j, none⟩ = some u)

theorem SlD.nil (w : World) (D : Nat → Prop) (size : Nat) : SlD w D size (.slice none 0 0) [] := ⟨none, 0, 0, rfl, by simp, by omega, by unfold maxLen; omega, by omega⟩
theorem SlD.keep {w w' : World} {D D' : Nat → Prop} {size : Nat} {v : Value} {xs : List Value} (h : SlD w D size v xs) (hD : ∀ k, D k → D' k ∧ w'.heap[k]? = w.heap[k]?) : SlD w' D' size v xs := by
  obtain ⟨A, n, c, rfl, hl, hc, hm, hx⟩ := h
  refine ⟨A, n, c, rfl, hl, hc, hm, fun hn => ?_⟩
  obtain ⟨b, off, rfl, hb, hx⟩ := hx hn
  exact ⟨b, off, rfl, (hD b hb).1, fun j u hu => (World.cell?_of_block (hD b hb).2).trans (hx j u hu)⟩

/-- A slice of ints. -/
def Wi (n : Int) : Prop := -9223372036854775808 ≤ n ∧ n ≤ 9223372036854775807
def SlI (w : World) (r : Option Nat) (v : Value) (l : List Int) : Prop := SlD w (Dm w r) 1 v (l.map (Value.int .i64)) ∧ (∀ n ∈ l, Wi n)

theorem SlD.cellI {w : World} {D : Nat → Prop} {A : Option Addr} {n c : Nat} {l : List Int} (h : SlD w D 1 (.slice A n c) (l.map (Value.int .i64))) (k : Nat) (hk : k < l.length) :
    ∃ b off, A = some ⟨b, off, none⟩ ∧ D b ∧ w.cell? ⟨b, off + k, none⟩ = some (.int .i64 l[k]) := by
  obtain ⟨A', n', c', e, hl, _, _, hx⟩ := h
  injection e with e1 e2 e3
  subst e1 e2 e3
  have hn : n = l.length := by simpa using hl.symm
  obtain ⟨b, off, rfl, hb, hx⟩ := hx (by omega)
  exact ⟨b, off, rfl, hb, hx k _ (by simp [hk])⟩
theorem SlD.formI {w : World} {D : Nat → Prop} {v : Value} {l : List Int} (h : SlD w D 1 v (l.map (Value.int .i64))) :
    ∃ A c, v = .slice A l.length c ∧ l.length ≤ c ∧ c ≤ 9223372036854775807 := by
  obtain ⟨A, n, c, rfl, hl, hc, hm, _⟩ := h
  unfold maxLen at hm
  have e : n = l.length := by simpa using hl.symm
  subst e
  exact ⟨A, c, rfl, hc, hm⟩

theorem fr_dm {r : Option Nat} {w w' : World} (h : Fr r w w') : ∀ k, Dm w r k → Dm w' r k ∧ w'.heap[k]? = w.heap[k]? := fun k hk => ⟨hk.up h.size, h.block k hk.1 hk.2⟩
theorem dm_none {r : Option Nat} {w : World} : ∀ k, Dm w r k → Dm w none k ∧ w.heap[k]? = w.heap[k]? := fun k hk => ⟨⟨hk.1, by simp⟩, rfl⟩
theorem fr_fresh {w w' : World} {g : Nat} (h : Fr none w w') (hg : w.heap.size ≤ g) : ∀ k, Dm w none k → Dm w' (some g) k ∧ w'.heap[k]? = w.heap[k]? :=
  fun k hk => ⟨⟨Nat.lt_of_lt_of_le hk.1 h.size, by have := hk.1; simp; omega⟩, h.block k hk.1 (by simp)⟩
theorem SlI.fresh {w w' : World} {g : Nat} {v : Value} {l : List Int} (h : SlI w none v l) (f : Fr none w w') (hg : w.heap.size ≤ g) : SlI w' (some g) v l := ⟨h.1.keep (fr_fresh f hg), h.2⟩
theorem SlI.fr {r : Option Nat} {w w' : World} {v : Value} {l : List Int} (h : SlI w r v l) (f : Fr r w w') : SlI w' r v l := ⟨h.1.keep (fr_dm f), h.2⟩
theorem SlI.weak {r : Option Nat} {w : World} {v : Value} {l : List Int} (h : SlI w r v l) : SlI w none v l := ⟨h.1.keep dm_none, h.2⟩
theorem SlI.nil (w : World) (r : Option Nat) : SlI w r (.slice none 0 0) [] := ⟨SlD.nil _ _ _, by simp⟩

/-- The form of a slice of ints for a walk: its parts, and its cells. -/
theorem SlI.open_ {r : Option Nat} {w : World} {v : Value} {l : List Int} (h : SlI w r v l) :
    ∃ A c, v = .slice A l.length c ∧ l.length ≤ c ∧ c ≤ 9223372036854775807 ∧ (0 < l.length → ∃ b off, A = some ⟨b, off, none⟩ ∧ b < w.heap.size ∧ some b ≠ r ∧ ∀ k (hk : k < l.length), w.cell? ⟨b, off + k, none⟩ = some (.int .i64 l[k])) := by
  obtain ⟨⟨A, n, c, rfl, hl, hc, hm, hx⟩, _⟩ := h
  unfold maxLen at hm
  have e : n = l.length := by simpa using hl.symm
  subst e
  refine ⟨A, c, rfl, hc, hm, fun hn => ?_⟩
  obtain ⟨b, off, rfl, hb, hx⟩ := hx hn
  exact ⟨b, off, rfl, hb.1, hb.2, fun k hk => hx k _ (by simp [hk])⟩

theorem SlD.take {w : World} {D : Nat → Prop} {size : Nat} {A : Option Addr} {n c : Nat} {xs : List Value} (h : SlD w D size (.slice A n c) xs) (m : Nat) (hm : m ≤ n) : SlD w D size (.slice A m c) (xs.take (m * size)) := by
  obtain ⟨A', n', c', e, hl, hc, hmx, hx⟩ := h
  injection e with e1 e2 e3
  subst e1 e2 e3
  refine ⟨A, m, c, rfl, ?_, by omega, hmx, fun hp => ?_⟩
  · rw [List.length_take, hl]
    exact Nat.min_eq_left (Nat.mul_le_mul_right _ hm)
  · obtain ⟨b, off, rfl, hb, hx⟩ := hx (by omega)
    refine ⟨b, off, rfl, hb, fun j u hu => hx j u ?_⟩
    rw [List.getElem?_take] at hu
    split at hu
    · exact hu
    · cases hu
theorem SlI.take {w : World} {r : Option Nat} {A : Option Addr} {n c : Nat} {l : List Int} (h : SlI w r (.slice A n c) l) (m : Nat) (hm : m ≤ n) : SlI w r (.slice A m c) (l.take m) :=
  ⟨by simpa using h.1.take m hm, fun x hx => h.2 x (List.mem_of_mem_take hx)⟩

/-- What the call owns reads as a slice. -/
theorem SlD.of_own {w : World} {base : Nat} {e : TypeId} {size : Nat} {v : Value} {n : Nat} {xs : List Value} {r : Option Nat} (h : w.ownsRow base e size v n xs) (hr : ∀ g, r = some g → g < base) :
    SlD w (Dm w r) size v xs := by
  obtain ⟨hl, h2⟩ := h
  have h0 : w.ownsRow base e size v n xs := ⟨hl, h2⟩
  rcases h2 with ⟨rfl, rfl⟩ | ⟨g, cap, cur, rfl, hg, hh, hnc, hm, hs, ht⟩
  · exact ⟨none, 0, 0, rfl, hl, by omega, by unfold maxLen; omega, by omega⟩
  · refine ⟨_, n, cap, rfl, hl, hnc, hm, fun hn => ⟨g, 0, rfl, ⟨(h0.lt g rfl).2, fun e => ?_⟩, fun j u hu => ?_⟩⟩
    · have := hr g e.symm; omega
    · have := h0.cells (g := g) rfl j u hu
      rw [Addr.add_lit] at this
      exact this
theorem SlI.of_own {w : World} {base : Nat} {e : TypeId} {v : Value} {n : Nat} {l : List Int} {r : Option Nat} (h : w.ownsRow base e 1 v n (l.map (Value.int .i64))) (hr : ∀ g, r = some g → g < base) (hw : ∀ n ∈ l, Wi n) : SlI w r v l :=
  ⟨SlD.of_own h hr, hw⟩

theorem cell_new (w : World) (cs : Array Value) (t : TypeId) (i : Nat) : (w.alloc (.cells cs t)).cell? ⟨w.heap.size, i, none⟩ = cs[i]? := World.cell?_alloc_new _ _ _ _
theorem frozen_new (w : World) (cs : Array Value) (t : TypeId) (i : Nat) : (w.alloc (.cells cs t)).frozen? ⟨w.heap.size, i, none⟩ = false := World.frozen?_alloc_new _ _ _ _

/-- A slice of uint64s. -/
def u64v (y : Nat) : Value := .int .u64 y
def SlU (w : World) (r : Option Nat) (v : Value) (l : List Nat) : Prop := SlD w (Dm w r) 1 v (l.map u64v) ∧ (∀ y ∈ l, y < 18446744073709551616)
theorem SlU.fr {r : Option Nat} {w w' : World} {v : Value} {l : List Nat} (h : SlU w r v l) (f : Fr r w w') : SlU w' r v l := ⟨h.1.keep (fr_dm f), h.2⟩
theorem SlU.weak {r : Option Nat} {w : World} {v : Value} {l : List Nat} (h : SlU w r v l) : SlU w none v l := ⟨h.1.keep dm_none, h.2⟩
theorem SlU.open_ {r : Option Nat} {w : World} {v : Value} {l : List Nat} (h : SlU w r v l) :
    ∃ A c, v = .slice A l.length c ∧ l.length ≤ c ∧ c ≤ 9223372036854775807 ∧ (0 < l.length → ∃ b off, A = some ⟨b, off, none⟩ ∧ b < w.heap.size ∧ some b ≠ r ∧ ∀ k, k < l.length → w.cell? ⟨b, off + k, none⟩ = some (.int .u64 ((l.getD k 0 : Nat) : Int))) := by
  obtain ⟨⟨A, n, c, rfl, hl, hc, hm, hx⟩, _⟩ := h
  unfold maxLen at hm
  have e : n = l.length := by simpa using hl.symm
  subst e
  refine ⟨A, c, rfl, hc, hm, fun hn => ?_⟩
  obtain ⟨b, off, rfl, hb, hx⟩ := hx hn
  exact ⟨b, off, rfl, hb.1, hb.2, fun k hk => hx k _ (by simp [hk, u64v])⟩
theorem SlU.of_own {w : World} {base : Nat} {e : TypeId} {v : Value} {n : Nat} {l : List Nat} {r : Option Nat} (h : w.ownsRow base e 1 v n (l.map u64v)) (hr : ∀ g, r = some g → g < base) (hw : ∀ y ∈ l, y < 18446744073709551616) : SlU w r v l :=
  ⟨SlD.of_own h hr, hw⟩

theorem u64_bd {n : Int} (h : (Lit.int .u64 n).wf = true) : 0 ≤ n ∧ n ≤ 18446744073709551615 := by
  simp only [Lit.wf, Bool.and_eq_true, decide_eq_true_eq] at h
  exact h
theorem i64_bd {n : Int} (h : (Lit.int .i64 n).wf = true) : Wi n := by
  simp only [Lit.wf, Bool.and_eq_true, decide_eq_true_eq] at h
  exact h

theorem ret_int {k : IntKind} {a b : Int} (h : a = b) : Ending.returned (.int k a) = .returned (.int k b) := by rw [h]
theorem ret_bool {a b : Bool} (h : a = b) : Ending.returned (.bool a) = .returned (.bool b) := by rw [h]
end Go.Proofs.YtpdhckbiioobhaaGreatDoor

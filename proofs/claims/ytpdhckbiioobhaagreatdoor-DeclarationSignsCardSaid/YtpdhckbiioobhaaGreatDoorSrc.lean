/- The sources of numbers (trustquorumplay.Src, trustquorummake.Tape): one block, a slice of ints that lies below it, and a place in it. -/
import Derived.Test.YtpdhckbiioobhaaGreatDoorMem
namespace Go.Proofs.YtpdhckbiioobhaaGreatDoor
open Go.RowKit

/-- Block g holds a source of type T: a slice, of an elder block, that reads as some ints, and a place. -/
def SrcR (T : TypeId) (w : World) (g : Nat) : Prop :=
  ∃ (v : Value) (l : List Int) (k : Nat), w.heap[g]? = some (.cells #[v, .int .i64 k] T (0, 0)) ∧ SlD w (fun b => b < g) 1 v (l.map (Value.int .i64)) ∧ (∀ n ∈ l, Wi n) ∧ l.length ≤ 800 ∧ k ≤ l.length

theorem SrcR.lt {T : TypeId} {w : World} {g : Nat} (h : SrcR T w g) : g < w.heap.size := by
  obtain ⟨v, l, k, h, _⟩ := h
  rcases Nat.lt_or_ge g w.heap.size with hh | hh
  · exact hh
  · rw [Array.getElem?_eq_none hh] at h; cases h

/-- A frame that spares g and what lies below it. -/
theorem SrcR.frs {T : TypeId} {w w' : World} {g : Nat} {r : Option Nat} (h : SrcR T w g) (f : Fr r w w') (hr : ∀ b, r = some b → g < b) : SrcR T w' g := by
  have hg := h.lt
  obtain ⟨v, l, k, h1, h2, h3, h4⟩ := h
  exact ⟨v, l, k, (f.block g hg (fun e => by have := hr _ e.symm; omega)).trans h1, h2.keep fun b hb => ⟨hb, f.block b (by omega) (fun e => by have := hr _ e.symm; omega)⟩, h3, h4⟩
theorem SrcR.fr {T : TypeId} {w w' : World} {g : Nat} (h : SrcR T w g) (f : Fr none w w') : SrcR T w' g := h.frs f (fun _ e => by cases e)

/-- For a walk: what a source's cells hold. -/
theorem SrcR.open_ {T : TypeId} {w : World} {g : Nat} (h : SrcR T w g) :
    ∃ (A : Option Addr) (c : Nat) (l : List Int) (k : Nat), w.heap[g]? = some (.cells #[.slice A l.length c, .int .i64 k] T (0, 0)) ∧ SlD w (fun b => b < g) 1 (.slice A l.length c) (l.map (Value.int .i64)) ∧ (∀ n ∈ l, Wi n) ∧ l.length ≤ 800 ∧ k ≤ l.length ∧
      l.length ≤ c ∧ c ≤ 9223372036854775807 ∧ (0 < l.length → ∃ b off, A = some ⟨b, off, none⟩ ∧ b < g ∧ ∀ j (hj : j < l.length), w.cell? ⟨b, off + j, none⟩ = some (.int .i64 l[j])) := by
  obtain ⟨v, l, k, h1, h2, h3, h4, h5⟩ := h
  have h2' := h2
  obtain ⟨A, n, c, rfl, hl, hc, hm, hx⟩ := h2
  unfold maxLen at hm
  have e : n = l.length := by simpa using hl.symm
  subst e
  refine ⟨A, c, l, k, h1, h2', h3, h4, h5, hc, hm, fun hn => ?_⟩
  obtain ⟨b, off, rfl, hb, hx⟩ := hx hn
  exact ⟨b, off, rfl, hb, fun j hj => hx j _ (by simp [hj])⟩

/-- The next place. -/
theorem SrcR.next {T : TypeId} {w : World} {g : Nat} {v : Value} {l : List Int} {k : Nat} (h1 : w.heap[g]? = some (.cells #[v, .int .i64 k] T (0, 0))) (h2 : SlD w (fun b => b < g) 1 v (l.map (Value.int .i64))) (h2' : ∀ n ∈ l, Wi n) (h3 : l.length ≤ 800) (h4 : k < l.length) (hg : g < w.heap.size) :
    SrcR T (w.setCell ⟨g, 1, none⟩ (.int .i64 ((k : Int) + 1))) g := by
  refine ⟨v, l, k + 1, ?_, h2.keep fun b hb => ⟨hb, (Fr.set1 w ⟨g, 1, none⟩ _).block b (by omega) (by simp; omega)⟩, h2', h3, by omega⟩
  simp [World.setCell, Array.getElem?_modify, h1]

theorem SrcR.made {T : TypeId} {w : World} {v : Value} {l : List Int} (h : SlI w none v l) (hl : l.length ≤ 800) : SrcR T (w.alloc (.cells #[v, .int .i64 0] T)) w.heap.size :=
  ⟨v, l, 0, heap_alloc_new w _, h.1.keep fun b hb => ⟨hb.1, ((Fr.refl none w).alloc _).block b hb.1 (by simp)⟩, h.2, hl, Nat.zero_le _⟩

/-- What a call that makes a source leaves. -/
def NewP (T : TypeId) (w : World) (e : Ending) (w' : World) : Prop :=
  ∃ g : Nat, e = .returned (.pointer (some ⟨g, 0, none⟩)) ∧ w.heap.size ≤ g ∧ SrcR T w' g ∧ Fr none w w'

/-- What a call that draws a number leaves. -/
def NumP (T : TypeId) (w : World) (g : Nat) (lo hi : Int) (e : Ending) (w' : World) : Prop :=
  ∃ x : Int, e = .returned (.int .i64 x) ∧ lo ≤ x ∧ x ≤ hi ∧ SrcR T w' g ∧ Fr (some g) w w'

theorem SrcR.drewN {T : TypeId} {w : World} {g : Nat} (h : SrcR T w g) (n : Nat) : SrcR T (w.drewN n) g := h.fr ((Fr.refl _ _).drewN n)
theorem SrcR.drew {T : TypeId} {w : World} {g : Nat} (h : SrcR T w g) : SrcR T w.drew g := h.fr (Fr.refl _ _).drew
end Go.Proofs.YtpdhckbiioobhaaGreatDoor

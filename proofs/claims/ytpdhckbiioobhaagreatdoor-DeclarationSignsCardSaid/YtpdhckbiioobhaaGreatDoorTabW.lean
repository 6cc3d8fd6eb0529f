/- The table that strconv.Itoa reads, carried along; Itoa at every int. -/
import Derived.Test.YtpdhckbiioobhaaGreatDoorProg
import Derived.Test.YtpdhckbiioobhaaGreatDoorShelf
import Derived.Lib.ItoaLen
import Derived.Test.YtpdhckbiioobhaaGreatDoorSrc
import Derived.Test.YtpdhckbiioobhaaGreatDoorApp
namespace Go.Proofs.YtpdhckbiioobhaaGreatDoor
open Go.RowKit

/-- strconv's table of the powers of ten reads as it should. -/
def Tab (w : World) : Prop := Lib.TabIs Tryz.prog w "internal/strconv.uint64pow10" .u64 Lib.pow10Tab
theorem tab_named : Tryz.prog.globalNamed "internal/strconv.uint64pow10" = some 3 := by kernel_rfl
theorem Tab.cells {w : World} (h : Tab w) : 3 < w.heap.size ∧ ∃ cs t fz, w.heap[3]? = some (.cells cs t fz) ∧ cs.size = 20 := by
  unfold Tab Lib.TabIs World.var? at h
  rw [tab_named] at h
  simp only [Option.bind_some] at h
  have hlt : 3 < w.heap.size := by
    rcases Nat.lt_or_ge 3 w.heap.size with h' | h'
    · exact h'
    · rw [Array.getElem?_eq_none h'] at h; cases h
  refine ⟨hlt, ?_⟩
  generalize w.heap[3]? = o at h
  cases o with
  | none => cases h
  | some o =>
    cases o with
    | cells cs t fz =>
      refine ⟨cs, t, fz, rfl, ?_⟩
      simp at h
      rw [h]
      simp [Lib.pow10Tab]
    | _ => simp at h
theorem Tab.frs {r : Option Nat} {w w' : World} (h : Tab w) (f : Fr r w w') (hr : r ≠ some 3) : Tab w' := by
  have hlt := h.cells.1
  unfold Tab Lib.TabIs World.var? at h ⊢
  rw [tab_named] at h ⊢
  simp only [Option.bind_some] at h ⊢
  rw [f.block _ hlt (fun e => hr e.symm)]
  exact h
theorem Tab.fr {w w' : World} (h : Tab w) (f : Fr none w w') : Tab w' := h.frs f (by simp)
theorem Tab.new {w w0 w' : World} {g : Nat} (h : Tab w0) (hg : w0.heap.size ≤ g) (f : Fr (some g) w w') (k : Tab w) : Tab w' := k.frs f (by have := h.cells.1; simp; omega)
theorem Tab.src {w w' : World} {T : TypeId} {g : Nat} (h : Tab w) (s : SrcR T w g) (f : Fr (some g) w w') : Tab w' := by
  refine h.frs f ?_
  intro e
  injection e with e
  subst e
  obtain ⟨_, cs, t, fz, h1, h2⟩ := h.cells
  obtain ⟨v, l, k, h3, _⟩ := s
  rw [h3] at h1
  injection h1 with h1
  injection h1 with h1 _ _
  rw [← h1] at h2
  simp at h2

theorem fr_grow (w : World) (k : Nat) (os : Array Obj) : Fr none w (Sort.grow (w.drewN k) os) :=
  ⟨rfl, rfl, rfl, by simp [Sort.grow, World.drewN], fun i hi _ => by
    rw [Sort.heap_grow_old _ _ (by simpa [World.drewN] using hi)]
    rfl⟩
theorem itoa_any (n : Int) (hn : Wi n) (w : World) (hT : Tab w) : Calls Tryz.prog 74 #[.int .i64 n] w fun e w' => ∃ S : ByteArray, e = .returned (.string S) ∧ S = ⟨(Lib.itoa n).toArray⟩ ∧ S.size ≤ 21 ∧ Fr none w w' := by
  refine (Tryz.strconv_Itoa n hn.1 hn.2 w hT).mono ?_
  rintro e w' ⟨rfl, k, os, rfl⟩
  refine ⟨_, rfl, rfl, ?_, fr_grow _ _ _⟩
  have := Lib.itoa_length_le n hn.1 hn.2
  simpa [ByteArray.size] using this
end Go.Proofs.YtpdhckbiioobhaaGreatDoor

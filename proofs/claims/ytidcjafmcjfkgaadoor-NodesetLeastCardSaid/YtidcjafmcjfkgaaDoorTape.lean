/- Walks: the tape trustquorummake.Tape: New, N, Range, Pick, Order. -/
import Derived.Test.YtidcjafmcjfkgaaDoorProg
import Derived.Test.YtidcjafmcjfkgaaDoorSrc
import Derived.Test.YtidcjafmcjfkgaaDoorEi
import Derived.RegionTactic
namespace Go.Proofs.YtidcjafmcjfkgaaDoor
open Go.RowKit

abbrev TapeT : TypeId := 45

theorem tapeNew_any (v : Value) (l : List Int) (w : World) (h : SlI w none v l) :
    Calls Tryd.prog 7 #[v] w (NewP 45 w) := by
  have h0 := h
  obtain ⟨A, c, rfl, q1, q2, hc⟩ := h.open_
  by_cases hl : l.length ≤ 400
  · go_enter Tryd.func7, Tryd.ntmps7
    go_wp2
    go_ret
    exact ⟨_, rfl, Nat.le_refl _, SrcR.made h0 (by omega), (Fr.refl _ _).alloc _⟩
  · go_enter Tryd.func7, Tryd.ntmps7
    go_wp2
    all_goals first | (exfalso; omega) | skip
    go_ret
    exact ⟨_, rfl, Nat.le_refl _, SrcR.made (h0.take 400 (by omega)) (by have := List.length_take_le 400 l; omega), (Fr.refl _ _).alloc _⟩

theorem tapeN_any (n : Int) (g : Nat) (w : World) (hn0 : 1 ≤ n) (hn : n ≤ 4294967296) (h : SrcR 45 w g) :
    Calls Tryd.prog 24 #[.pointer (some ⟨g, 0, none⟩), .int .i64 n] w (NumP 45 w g 0 (n - 1)) := by
  have h0 := h
  have hgl := h.lt
  obtain ⟨A, c, l, k, hb, hs, hw, hl, hk, q1, q2, hc⟩ := h.open_
  have c0 : w.cell? ⟨g, 0, none⟩ = some (.slice A l.length c) := cell_of_row w g 0 _ _ _ hb
  have c1 : w.cell? ⟨g, 1, none⟩ = some (.int .i64 k) := cell_of_row w g 1 _ _ _ hb
  have f1 : w.frozen? ⟨g, 1, none⟩ = false := by simp [World.frozen?, hb]
  have HB := Lib.hid hb
  clear hb
  by_cases hkl : k < l.length
  · obtain ⟨b, off, rfl, hb, hcc⟩ := hc (by omega)
    have d2 := hcc k hkl
    have m1 : l[k].tmod n < n := Int.tmod_lt_of_pos _ (by omega)
    have m2 : -n < l[k].tmod n := by have := Int.lt_tmod_of_pos l[k] (b := n) (by omega); omega
    clear hcc hc
    by_cases hx : l[k].tmod n < 0
    all_goals
      go_enter Tryd.func24, Tryd.ntmps24
      go_wp2_with fail
      go_quiet (fail)
      go_wp2_with fail
      go_quiet (fail)
      go_wp2
      go_ret
      exact ⟨_, rfl, by omega, by omega, SrcR.next (k := k) (by exact HB.out) hs hw hl hkl (by exact hgl), ((Fr.refl _ w).drewN _).setRow rfl _⟩
  · go_enter Tryd.func24, Tryd.ntmps24
    go_wp2_with fail
    go_quiet (fail)
    go_wp2
    go_ret
    exact ⟨0, rfl, by omega, by omega, h0.drewN _, (Fr.refl _ _).drewN _⟩
theorem tapeRange_any (lo hi : Int) (g : Nat) (w : World) (h1 : -1073741824 ≤ lo) (h2 : lo ≤ hi) (h4 : hi ≤ 1073741824) (h : SrcR 45 w g) :
    Calls Tryd.prog 9 #[.pointer (some ⟨g, 0, none⟩), .int .i64 lo, .int .i64 hi] w (NumP 45 w g lo hi) := by
  go_enter Tryd.func9, Tryd.ntmps9
  go_wp2_with fail
  refine (tapeN_any _ _ _ (by omega) (by omega) h).mono ?_
  rintro e w' ⟨x, rfl, x1, x2, S, F⟩
  go_wp2
  go_ret
  exact ⟨_, rfl, by omega, by omega, S, F⟩

/-- One of some numbers. -/
def PickP (T : TypeId) (w : World) (g : Nat) (l : List Int) (e : Ending) (w' : World) : Prop :=
  ∃ x : Int, e = .returned (.int .i64 x) ∧ x ∈ l ∧ SrcR T w' g ∧ Fr (some g) w w'

/-- The numbers below n, in some order. -/
def OrderP (T : TypeId) (w : World) (g n : Nat) (e : Ending) (w' : World) : Prop :=
  ∃ (v : Value) (l : List Int), e = .returned v ∧ l.Perm (ints n) ∧ SlD w' (Dn w.heap.size w') 1 v (l.map (Value.int .i64)) ∧ SrcR T w' g ∧ Fr (some g) w w'

end Go.Proofs.YtidcjafmcjfkgaaDoor

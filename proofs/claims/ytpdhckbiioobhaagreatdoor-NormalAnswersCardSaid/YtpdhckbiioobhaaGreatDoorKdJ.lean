/- What stays true of the world beside two declarations that lie in blocks of their own. -/
import Derived.Test.YtpdhckbiioobhaaGreatDoorJN1
set_option linter.unusedSimpArgs false
set_option linter.unusedVariables false
namespace Go.Proofs.YtpdhckbiioobhaaGreatDoor
open Go.RowKit

/-- What stays true of the world: two declarations' cells, the frame. -/
def Kd (w5 : World) (bd bx : Nat) (da xa : Array Value) (W : World) : Prop := (∀ i, W.cell? ⟨bd, i, none⟩ = da[i]?) ∧ (∀ i, W.cell? ⟨bx, i, none⟩ = xa[i]?) ∧ Fr none w5 W
theorem Kd.fr {w5 W W' : World} {bd bx : Nat} {da xa : Array Value} (h : Kd w5 bd bx da xa W) (hd : bd < w5.heap.size) (hx : bx < w5.heap.size) (F : Fr none W W') : Kd w5 bd bx da xa W' := by
  have hz := h.2.2.size
  refine ⟨fun i => ?_, fun i => ?_, h.2.2.pure F⟩
  · rw [F.cell (by simp; omega) (by simp)]; exact h.1 i
  · rw [F.cell (by simp; omega) (by simp)]; exact h.2.1 i
theorem Kd.frame {w5 W : World} {bd bx : Nat} {da xa : Array Value} (h : Kd w5 bd bx da xa W) : Fr none w5 W := h.2.2
theorem kd_three {w5 W : World} {bd bx : Nat} {da xa : Array Value} (h : Kd w5 bd bx da xa W) : (∀ i, W.cell? ⟨bd, i, none⟩ = da[i]?) ∧ (∀ i, W.cell? ⟨bx, i, none⟩ = xa[i]?) ∧ Kd w5 bd bx da xa W := ⟨h.1, h.2.1, h⟩

theorem Kd.alloc {w5 W : World} {bd bx : Nat} {da xa : Array Value} (h : Kd w5 bd bx da xa W) (hd : bd < w5.heap.size) (hx : bx < w5.heap.size) (o : Obj) : Kd w5 bd bx da xa (W.alloc o) := h.fr hd hx ((Fr.refl none W).alloc o)
end Go.Proofs.YtpdhckbiioobhaaGreatDoor

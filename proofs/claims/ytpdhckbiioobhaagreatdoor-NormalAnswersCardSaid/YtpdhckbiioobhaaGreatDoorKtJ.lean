/- What stays true of the world beside three values that lie in blocks of their own. -/
import Derived.Test.YtpdhckbiioobhaaGreatDoorJN1
set_option linter.unusedSimpArgs false
set_option linter.unusedVariables false
namespace Go.Proofs.YtpdhckbiioobhaaGreatDoor
open Go.RowKit

/-- What stays true of the world: three boxes, the frame. -/
def Kt (w0 : World) (p q s : Nat) (a b c : Array Value) (W : World) : Prop := (∀ i, W.cell? ⟨p, i, none⟩ = a[i]?) ∧ (∀ i, W.cell? ⟨q, i, none⟩ = b[i]?) ∧ (∀ i, W.cell? ⟨s, i, none⟩ = c[i]?) ∧ Fr none w0 W
theorem Kt.fr {w0 W W' : World} {p q s : Nat} {a b c : Array Value} (h : Kt w0 p q s a b c W) (hp : p < w0.heap.size) (hq : q < w0.heap.size) (hs : s < w0.heap.size) (F : Fr none W W') : Kt w0 p q s a b c W' := by
  have hz := h.2.2.2.size
  refine ⟨fun i => ?_, fun i => ?_, fun i => ?_, h.2.2.2.pure F⟩
  · rw [F.cell (by simp; omega) (by simp)]; exact h.1 i
  · rw [F.cell (by simp; omega) (by simp)]; exact h.2.1 i
  · rw [F.cell (by simp; omega) (by simp)]; exact h.2.2.1 i
theorem Kt.frame {w0 W : World} {p q s : Nat} {a b c : Array Value} (h : Kt w0 p q s a b c W) : Fr none w0 W := h.2.2.2
theorem kt_four {w0 W : World} {p q s : Nat} {a b c : Array Value} (h : Kt w0 p q s a b c W) : (∀ i, W.cell? ⟨p, i, none⟩ = a[i]?) ∧ (∀ i, W.cell? ⟨q, i, none⟩ = b[i]?) ∧ (∀ i, W.cell? ⟨s, i, none⟩ = c[i]?) ∧ Kt w0 p q s a b c W := ⟨h.1, h.2.1, h.2.2.1, h⟩
end Go.Proofs.YtpdhckbiioobhaaGreatDoor

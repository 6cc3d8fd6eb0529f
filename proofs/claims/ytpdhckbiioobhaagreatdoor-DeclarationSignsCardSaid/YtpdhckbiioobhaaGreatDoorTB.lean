/- A trust that is being filled, in a block of its own. -/
import Derived.Test.YtpdhckbiioobhaaGreatDoorEi
import Derived.Test.YtpdhckbiioobhaaGreatDoorTr
namespace Go.Proofs.YtpdhckbiioobhaaGreatDoor
open Go.RowKit

/-- The struct that the call fills: block b of w. -/
def TB (w : World) (b : Nat) (x y z : Value) : Prop := w.heap[b]? = some (.cells #[x, y, z] 31 (0, 0))
theorem TB.fr {w w' : World} {b : Nat} {x y z : Value} {r : Option Nat} (h : TB w b x y z) (f : Fr r w w') (hr : r ≠ some b) : TB w' b x y z := blk_fr h f hr
theorem TB.cell {w : World} {b : Nat} {x y z : Value} (h : TB w b x y z) : ∀ i, w.cell? ⟨b, i, none⟩ = #[x, y, z][i]? := blk_cell h
theorem TB.free {w : World} {b : Nat} {x y z : Value} (h : TB w b x y z) : ∀ i, w.frozen? ⟨b, i, none⟩ = false := blk_free h
theorem TB.set0 {w : World} {b : Nat} {x y z : Value} (h : TB w b x y z) (u : Value) : TB (w.setCell ⟨b, 0, none⟩ u) b u y z := by simpa [TB] using blk_set h 0 u
theorem TB.set1 {w : World} {b : Nat} {x y z : Value} (h : TB w b x y z) (u : Value) : TB (w.setCell ⟨b, 1, none⟩ u) b x u z := by simpa [TB] using blk_set h 1 u
theorem TB.set2 {w : World} {b : Nat} {x y z : Value} (h : TB w b x y z) (u : Value) : TB (w.setCell ⟨b, 2, none⟩ u) b x y u := by simpa [TB] using blk_set h 2 u

end Go.Proofs.YtpdhckbiioobhaaGreatDoor

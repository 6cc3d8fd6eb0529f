/- The law NodesetNext: why it holds (plain). -/
import Derived.Test.YtidnnjgiogklaaaDoorNs2
import Derived.Test.YtidnnjgiogklaaaDoorNsT
import Derived.Test.YtidnnjgiogklaaaDoorLeastP
namespace Go.Proofs.YtidnnjgiogklaaaDoor
open Go.RowKit

/-- What the law sees from s on, with f steps to go. -/
def goN (m : Nat) : Nat → Nat → Bool
  | s, 0 => (nextR s m).2 == false && s == 2 ^ m - 1
  | s, f + 1 => (nextR s m).2 && decide ((nextR s m).1 < 2 ^ m) && cmpS (s : Int) ((nextR s m).1 : Int) == -1 && goN m (nextR s m).1 f
set_option maxRecDepth 100000 in
theorem goN_all : ∀ m : Fin 11, goN m.val 0 (2 ^ m.val - 1) = true := by decide +kernel

theorem next37 : nextR 37 6 = (38, true) := by decide +kernel
theorem sorted_id (l : List Int) (h : l.Pairwise fun x y => (!decide (cmpS y x < 0)) = true) : sortS l = l := List.mergeSort_of_pairwise h
theorem least36 : leastS [3, 6] = [3, 6] := by
  unfold leastS
  rw [show List.filter validB [3, 6] = [3, 6] from by decide +kernel, sorted_id _ (by decide +kernel)]
  decide +kernel
theorem meet36 : meetS [3, 6] 3 = [2, 5] := by
  unfold meetS
  rw [least36, show List.filter (fun s => !([3, 6] : List Int).any (disI s)) (ints (2 ^ 3)) = [2, 3, 5, 6, 7] from by decide +kernel]
  unfold leastS
  rw [show List.filter validB [2, 3, 5, 6, 7] = [2, 3, 5, 6, 7] from by decide +kernel, sorted_id _ (by decide +kernel)]
  decide +kernel
theorem text37 : textS 37 = ⟨#[123, 48, 32, 50, 32, 53, 125]⟩ := by
  have h1 : validB 37 = true := by decide
  have h2 : nodesK 37 10 = [0, 2, 5] := by decide +kernel
  have d : ∀ k, k < 10 → Lib.decDigits k = [UInt8.ofNat (48 + k)] := fun k hk => by
    unfold Lib.decDigits
    rw [dif_pos hk]
  have w0 : word 0 = ⟨#[48]⟩ := by unfold word; rw [d _ (by decide)]; rfl
  have w2 : word 2 = ⟨#[50]⟩ := by unfold word; rw [d _ (by decide)]; rfl
  have w5 : word 5 = ⟨#[53]⟩ := by unfold word; rw [d _ (by decide)]; rfl
  simp only [textS, h1, if_true, h2, wordsOf, List.map_cons, List.map_nil, w0, w2, w5]
  rfl

end Go.Proofs.YtidnnjgiogklaaaDoor

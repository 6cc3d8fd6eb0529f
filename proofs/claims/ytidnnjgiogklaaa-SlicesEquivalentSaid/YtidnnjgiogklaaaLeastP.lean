/- The least sets, plain. -/
import Derived.Test.YtidnnjgiogklaaaNs2
import Derived.Test.YtidnnjgiogklaaaEi
namespace Go.Proofs.Ytidnnjgiogklaaa
open Go.RowKit

/-- t &^ s == 0. -/
def subI (t s : Int) : Bool := bits .andNot .i64 t s == 0
/-- s & t == 0. -/
def disI (s t : Int) : Bool := bits .and .i64 s t == 0
def leastGo (out : List Int) : List Int → List Int
  | [] => out
  | s :: r => leastGo (if out.any (fun t => subI t s) then out else out ++ [s]) r
def sortS (l : List Int) : List Int := l.mergeSort fun x y => !decide (cmpS y x < 0)
def leastS (l : List Int) : List Int := leastGo [] (sortS (l.filter validB))
def meetS (l : List Int) (n : Nat) : List Int := leastS ((ints (2 ^ n)).filter fun s => !(leastS l).any (disI s))

theorem leastGo_snoc (out : List Int) : ∀ (l : List Int) (s : Int), leastGo out (l ++ [s]) = (if (leastGo out l).any (fun t => subI t s) then leastGo out l else leastGo out l ++ [s])
  | [], s => rfl
  | x :: r, s => leastGo_snoc _ r s
theorem leastGo_len : ∀ (l out : List Int), (leastGo out l).length ≤ out.length + l.length
  | [], out => by simp [leastGo]
  | x :: r, out => by
    simp only [leastGo, List.length_cons]
    split
    · have := leastGo_len r out; omega
    · have := leastGo_len r (out ++ [x])
      simp only [List.length_append, List.length_cons, List.length_nil] at this
      omega
theorem leastGo_mem : ∀ (l out : List Int) (x : Int), x ∈ leastGo out l → x ∈ out ∨ x ∈ l
  | [], out, x, h => .inl h
  | y :: r, out, x, h => by
    rcases leastGo_mem r _ x h with h | h
    · split at h
      · exact .inl h
      · rcases List.mem_append.1 h with h | h
        · exact .inl h
        · exact .inr (by simp at h; simp [h])
    · exact .inr (List.mem_cons_of_mem _ h)
theorem sortS_mem (l : List Int) (x : Int) : x ∈ sortS l ↔ x ∈ l := (List.mergeSort_perm l _).mem_iff
theorem sortS_len (l : List Int) : (sortS l).length = l.length := (List.mergeSort_perm l _).length_eq
theorem leastS_mem {l : List Int} {x : Int} (h : x ∈ leastS l) : x ∈ l ∧ validB x = true := by
  rcases leastGo_mem _ _ x h with h | h
  · cases h
  · rw [sortS_mem] at h
    exact List.mem_filter.1 h
theorem leastS_len (l : List Int) : (leastS l).length ≤ l.length := by
  have h1 := leastGo_len (sortS (l.filter validB)) []
  rw [sortS_len] at h1
  have h2 := List.length_filter_le validB l
  simp only [List.length_nil] at h1
  unfold leastS
  omega
theorem valid_wi {x : Int} (h : validB x = true) : Wi x := by
  simp only [validB, decide_eq_true_eq] at h
  unfold Wi
  omega
end Go.Proofs.Ytidnnjgiogklaaa

/- Some texts of this claim, joined: contracts of the functions that it reaches, and plain laws. -/
import Derived.Test.YtpdhckbiioobhaaGreatDoorProg
import Derived.Test.YtpdhckbiioobhaaGreatDoorShelf
import Derived.Test.YtpdhckbiioobhaaGreatDoorJG8
import Derived.Test.YtpdhckbiioobhaaGreatDoorJG9
import Derived.Sort.OwnSortedInts

set_option linter.unusedSimpArgs false
set_option linter.unusedVariables false
/- Walks: nodeset.Least. -/
namespace Go.Proofs.YtpdhckbiioobhaaGreatDoor
open Go.RowKit

/-- A slice of ints in a row of the call's own, from block base on. -/
def OwnH (w : World) (base : Nat) (v : Value) (l : List Int) : Prop :=
  ∃ A c, v = .slice A l.length c ∧ l.length ≤ c ∧ c ≤ maxLen ∧ (0 < l.length → ∃ g, A = some ⟨g, 0, none⟩ ∧ base ≤ g ∧ g < w.heap.size ∧ Sort.Holds (Value.int .i64) w g 0 l.toArray)
theorem OwnH.sl {w : World} {base : Nat} {v : Value} {l : List Int} (h : OwnH w base v l) (hw : ∀ x ∈ l, Wi x) : SlI w none v l := by
  obtain ⟨A, c, rfl, h1, h2, h3⟩ := h
  refine ⟨⟨A, l.length, c, rfl, by simp, h1, h2, fun hn => ?_⟩, hw⟩
  obtain ⟨g, rfl, hb, hg, hh⟩ := h3 hn
  refine ⟨g, 0, rfl, ⟨hg, by simp⟩, fun j u hu => ?_⟩
  have hj : j < l.length := by
    have := (List.getElem?_eq_some_iff.1 hu).1
    simpa using this
  have := (hh j (by simpa using hj)).1
  rw [this, ← hu]
  simp [hj]
theorem OwnH.of_own {w : World} {base : Nat} {e : TypeId} {v : Value} {l : List Int} (h : w.ownsRow base e 1 v l.length (l.map (Value.int .i64))) : OwnH w base v l := by
  rcases h.2 with ⟨rfl, h0⟩ | ⟨g, cap, cur, rfl, hg, hb, hnc, hm, hs, ht⟩
  · exact ⟨none, 0, by rw [h0], by omega, by unfold maxLen; omega, fun h => by omega⟩
  · exact ⟨_, cap, rfl, hnc, hm, fun _ => ⟨g, rfl, hg, (Array.getElem?_eq_some_iff.1 hb).1, holds_of_blockI hb (by simpa using ht)⟩⟩

theorem clone_any (l : List Int) (v : Value) (w : World) (h : SlI w none v l) (hlen : l.length ≤ 1099511627776) :
    Calls Tryz.prog 131 #[v] w fun e w' => ∃ v', e = .returned v' ∧ OwnH w' w.heap.size v' l ∧ Fr none w w' := by
  obtain ⟨A, c, rfl, q1, q2, hc⟩ := h.open_
  rcases Nat.eq_zero_or_pos l.length with h0 | h0
  · have hl0 : l = [] := List.eq_nil_of_length_eq_zero h0
    subst hl0
    cases A with
    | none =>
      refine (Tryz.slices_Clone_int_nil 0 c w).mono ?_
      rintro e w' ⟨rfl, rfl⟩
      exact ⟨_, rfl, ⟨none, 0, rfl, by simp, by unfold maxLen; omega, by simp⟩, Fr.refl _ _⟩
    | some a =>
      refine (Tryz.slices_Clone_int_zero a c w).mono ?_
      rintro e w' ⟨v', rfl, own, _, F⟩
      exact ⟨_, rfl, OwnH.of_own (l := []) own, Fr.of_below F⟩
  · obtain ⟨b, off, rfl, hb, _, hcc⟩ := hc h0
    refine (Tryz.slices_Clone_int b off l.length c l w (Nat.le_refl _) (by omega) (fun j hj => by rw [hcc j hj]; simp [hj])).mono ?_
    rintro e w' ⟨v', rfl, own, _, F⟩
    exact ⟨_, rfl, OwnH.of_own (by simpa using own), Fr.of_below F⟩

theorem holds_pre {w : World} {g : Nat} {F R : List Int} (h : Sort.Holds (Value.int .i64) w g 0 (F ++ R).toArray) : Sort.Holds (Value.int .i64) w g 0 F.toArray := by
  intro j hj
  have hj' : j < F.length := by simpa using hj
  have := h j (by simp; omega)
  refine ⟨?_, this.2⟩
  rw [this.1]
  simp [hj', List.getElem_append_left, show j < F.length + R.length by omega]
theorem cmpS_lt (x y : Int) : cmpS x y < 0 ↔ rankI x < rankI y ∨ (rankI x = rankI y ∧ x < y) := by
  unfold cmpS cmpI
  generalize rankI x = a
  generalize rankI y = b
  by_cases h1 : a < b
  · simp [h1]
  · by_cases h2 : b < a
    · simp [h1, h2]; omega
    · by_cases h3 : x < y
      · simp [h1, h2, h3]; omega
      · by_cases h4 : y < x <;> simp [h1, h2, h3, h4]
theorem swoS : Sort.SWO (ltOf cmpS) where
  irrefl x := by simp only [ltOf, cmpS_lt, decide_eq_false_iff_not]; omega
  trans x y z h1 h2 := by simp only [ltOf, cmpS_lt, decide_eq_true_eq] at *; omega
  ntrans x y z h1 h2 := by simp only [ltOf, cmpS_lt, decide_eq_false_iff_not] at *; omega
theorem totS (x y : Int) (h1 : ltOf cmpS x y = false) (h2 : ltOf cmpS y x = false) : x = y := by
  simp only [ltOf, cmpS_lt, decide_eq_false_iff_not] at *; omega
end Go.Proofs.YtpdhckbiioobhaaGreatDoor

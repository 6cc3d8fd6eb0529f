/- Walks: nodeset.Nodes, Text. -/
import Derived.Test.YtonhhnedfjonoaaGreatDoorProg
import Derived.Test.YtonhhnedfjonoaaGreatDoorShelf
import Derived.Lib.ItoaNum
import Derived.Lib.Join
import Derived.Test.YtonhhnedfjonoaaGreatDoorJL21
import Derived.Test.YtonhhnedfjonoaaGreatDoorEiJ
set_option linter.unusedSimpArgs false
set_option linter.unusedVariables false
namespace Go.Proofs.YtonhhnedfjonoaaGreatDoor
open Go.RowKit

/-- The nodes below k of a set. -/
def nodesK (s : Int) (k : Nat) : List Int := (ints k).filter (hasB s)
theorem nodesK_succ (s : Int) (k : Nat) : nodesK s (k + 1) = nodesK s k ++ (if hasB s k then [(k : Int)] else []) := by
  simp [nodesK, ints_succ, List.filter_append, List.filter_cons]
theorem nodesK_len (s : Int) (k : Nat) : (nodesK s k).length ≤ k := by
  have h := List.length_filter_le (hasB s) (ints k)
  rw [ints_len] at h
  exact h
theorem nodesK_bd (s : Int) (k : Nat) : ∀ x ∈ nodesK s k, 0 ≤ x ∧ x < k := by
  intro x hx
  have := (List.mem_filter.1 hx).1
  simp only [ints, List.mem_map, List.mem_range] at this
  obtain ⟨a, ha, rfl⟩ := this
  exact ⟨Int.natCast_nonneg a, Int.ofNat_lt.2 ha⟩

/-- The words of some nodes. -/
def word (k : Int) : ByteArray := ⟨(Lib.decDigits k.toNat).toArray⟩
def wordsOf (l : List Int) : List ByteArray := l.map word
def joinB (l : List ByteArray) (sep : List UInt8) : List UInt8 := Lib.join (l.map (·.data.toList)) sep
def textS (s : Int) : ByteArray := if validB s then ⟨([123] ++ joinB (wordsOf (nodesK s 10)) [32] ++ [125]).toArray⟩ else ⟨#[63]⟩
theorem word_len (k : Int) (h0 : 0 ≤ k) (h1 : k < 10) : (word k).data.toList.length = 1 := by
  unfold word Lib.decDigits
  rw [dif_pos (by omega)]
  rfl
theorem lens_le (c : Nat) : ∀ l : List (List UInt8), (∀ x ∈ l, x.length ≤ c) → Lib.lens l ≤ c * l.length
  | [], _ => by simp [Lib.lens]
  | x :: r, h => by
    have h1 := h x (by simp)
    have h2 := lens_le c r (fun y hy => h y (by simp [hy]))
    simp only [Lib.lens, List.length_cons, Nat.mul_add, List.map_cons, List.sum_cons] at *
    omega
theorem joinB_len (c : Nat) (l : List ByteArray) (sep : List UInt8) (h : ∀ x ∈ l, x.data.toList.length ≤ c) : (joinB l sep).length ≤ sep.length * l.length + c * l.length := by
  unfold joinB
  cases l with
  | nil => simp [Lib.join]
  | cons x r =>
    have h2 := lens_le c ((x :: r).map (·.data.toList)) (fun y hy => by
      obtain ⟨z, hz, rfl⟩ := List.mem_map.1 hy
      exact h z hz)
    rw [List.map_cons, Lib.join_length, ← List.map_cons (f := fun x : ByteArray => x.data.toList)]
    simp only [List.length_map, List.length_cons] at *
    have : sep.length * r.length ≤ sep.length * (r.length + 1) := Nat.mul_le_mul_left _ (by omega)
    omega
theorem words_len (l : List Int) (h : ∀ x ∈ l, 0 ≤ x ∧ x < 10) : ∀ x ∈ wordsOf l, x.data.toList.length ≤ 1 := by
  intro x hx
  obtain ⟨k, hk, rfl⟩ := List.mem_map.1 hx
  have := h k hk
  exact Nat.le_of_eq (word_len k this.1 this.2)
theorem eiStr : EInfo Tryz.prog 82 9 1 16 := EInfo.mk_ (z := .string ⟨#[]⟩) (by kernel_rfl) (by kernel_rfl) rfl (by omega)

theorem ret_str {a b : ByteArray} (h : a = b) : Ending.returned (.string a) = .returned (.string b) := by rw [h]
theorem join_any (l : List ByteArray) (sep : ByteArray) (v : Value) (w : World) (h : SlD w (Dm w none) 1 v (l.map Value.string)) (hN : l.length ≤ 140737488355328) (hlen : (joinB l sep.data.toList).length ≤ 140737488355328) :
    Calls Tryz.prog 58 #[v, .string sep] w fun e w' => ∃ X : ByteArray, e = .returned (.string X) ∧ X = ⟨(joinB l sep.data.toList).toArray⟩ ∧ X.size ≤ 140737488355328 ∧ Fr none w w' := by
  obtain ⟨A, n, c, rfl, hl, hnc, hm, hx⟩ := h
  simp only [List.length_map, Nat.mul_one] at hl
  subst hl
  rcases Nat.eq_zero_or_pos l.length with h0 | h0
  · have hl0 : l = [] := List.eq_nil_of_length_eq_zero h0
    subst hl0
    refine (Tryz.strings_Join_none A c sep w).mono ?_
    rintro e w' ⟨rfl, rfl⟩
    exact ⟨_, rfl, rfl, by simp [ByteArray.size], Fr.refl _ _⟩
  · obtain ⟨b, off, rfl, hb, hc⟩ := hx h0
    refine (Tryz.strings_Join b off c l sep w (fun j x hj => hc j _ (by simp [hj])) hb.1 hN hnc hlen).mono ?_
    rintro e w' ⟨rfl, F⟩
    exact ⟨_, rfl, rfl, by simpa [ByteArray.size, joinB] using hlen, Fr.of_below F⟩

end Go.Proofs.YtonhhnedfjonoaaGreatDoor

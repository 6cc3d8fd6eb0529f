/- Plain: the line of the first error of a spoilt text. -/
import Derived.Test.YtoblhcieidljjaaGreatDoorProg
import Derived.Test.YtoblhcieidljjaaGreatDoorCprPJ
set_option linter.unusedSimpArgs false
set_option linter.unusedVariables false
namespace Go.Proofs.YtoblhcieidljjaaGreatDoor
open Go.RowKit

def dg (i : Nat) : UInt8 := UInt8.ofNat (48 + i)
def gT : List UInt8 := [58, 32, 49, 32, 111, 102, 32, 40, 48, 41]
def gN : List UInt8 := [58, 32, 45]
def b3L : List UInt8 := [48, 58, 49, 32, 111, 102, 32, 40, 48, 41]
def b4L : List UInt8 := [58, 32, 49, 32, 111, 102, 32, 40, 48]
def b5L : List UInt8 := [58, 32, 48, 32, 111, 102, 32, 40, 48, 41]
/-- A right line. -/
def goodL (i : Nat) (x : List UInt8) : Prop := x = dg i :: gT ∨ x = dg i :: gN
/-- A spoilt line. -/
def badL (i : Nat) (x : List UInt8) : Prop := x = [120] ∨ x = [] ∨ x = b3L ∨ x = dg i :: b4L ∨ x = dg i :: b5L
def flatL (ls : List (List UInt8)) : List UInt8 := (ls.map (· ++ [10])).flatten
theorem ten_cases {i : Nat} (h : i < 10) : i = 0 ∨ i = 1 ∨ i = 2 ∨ i = 3 ∨ i = 4 ∨ i = 5 ∨ i = 6 ∨ i = 7 ∨ i = 8 ∨ i = 9 := by omega
theorem line_gT {i : Nat} (h : i < 10) : lineP i (dg i :: gT) = (⟨true, .mk 1 [0] []⟩, 0) := by
  rcases ten_cases h with rfl | rfl | rfl | rfl | rfl | rfl | rfl | rfl | rfl | rfl <;> kernel_rfl
theorem line_gN {i : Nat} (h : i < 10) : lineP i (dg i :: gN) = (noMb, 0) := by
  rcases ten_cases h with rfl | rfl | rfl | rfl | rfl | rfl | rfl | rfl | rfl | rfl <;> kernel_rfl
theorem line_b1 {i : Nat} (h : i < 10) : (lineP i [120]).2 = 2 := by
  rcases ten_cases h with rfl | rfl | rfl | rfl | rfl | rfl | rfl | rfl | rfl | rfl <;> kernel_rfl
theorem line_b2 {i : Nat} (h : i < 10) : (lineP i []).2 = 2 := by
  rcases ten_cases h with rfl | rfl | rfl | rfl | rfl | rfl | rfl | rfl | rfl | rfl <;> kernel_rfl
theorem line_b3 {i : Nat} (h : i < 10) : (lineP i b3L).2 = 2 := by
  rcases ten_cases h with rfl | rfl | rfl | rfl | rfl | rfl | rfl | rfl | rfl | rfl <;> kernel_rfl
theorem line_b4 {i : Nat} (h : i < 10) : (lineP i (dg i :: b4L)).2 = 2 := by
  rcases ten_cases h with rfl | rfl | rfl | rfl | rfl | rfl | rfl | rfl | rfl | rfl <;> kernel_rfl
theorem line_b5 {i : Nat} (h : i < 10) : (lineP i (dg i :: b5L)).2 = 4 := by
  rcases ten_cases h with rfl | rfl | rfl | rfl | rfl | rfl | rfl | rfl | rfl | rfl <;> kernel_rfl
theorem good_lineP {i : Nat} (h : i < 10) {x : List UInt8} (g : goodL i x) : (lineP i x).2 = 0 ∧ ∀ n, 1 ≤ n → memE n (lineP i x).1 = 0 := by
  rcases g with rfl | rfl
  · rw [line_gT h]
    refine ⟨rfl, fun n hn => ?_⟩
    have h1 : validE (.mk 1 [0] []) = 0 := by kernel_rfl
    have h2 : usesT (.mk 1 [0] []) = 1 := by kernel_rfl
    have h3 : 2 ^ 1 ≤ 2 ^ n := Nat.pow_le_pow_right (by decide) hn
    unfold memE
    simp only [h1, h2]
    simp only [if_true]
    rw [if_neg (by omega)]
  · rw [line_gN h]
    exact ⟨rfl, fun n _ => memE_ok ⟨fun h => (by cases h), fun _ => rfl⟩⟩
theorem bad_lineP {i : Nat} (h : i < 10) {x : List UInt8} (g : badL i x) : (lineP i x).2 ≠ 0 := by
  rcases g with rfl | rfl | rfl | rfl | rfl
  · rw [line_b1 h]; decide
  · rw [line_b2 h]; decide
  · rw [line_b3 h]; decide
  · rw [line_b4 h]; decide
  · rw [line_b5 h]; decide
theorem dg_10 {i : Nat} (h : i < 10) : dg i ≠ 10 := by
  rcases ten_cases h with rfl | rfl | rfl | rfl | rfl | rfl | rfl | rfl | rfl | rfl <;> decide
theorem no10c {i : Nat} (h : i < 10) {r : List UInt8} (hr : ∀ c ∈ r, c ≠ 10) : No10 (dg i :: r) := fun c hc => by
  rcases List.mem_cons.1 hc with rfl | hc
  · exact dg_10 h
  · exact hr c hc
theorem good_10 {i : Nat} (h : i < 10) {x : List UInt8} (g : goodL i x) : No10 x := by
  rcases g with rfl | rfl
  · exact no10c h (by decide)
  · exact no10c h (by decide)
theorem bad_10 {i : Nat} (h : i < 10) {x : List UInt8} (g : badL i x) : No10 x := by
  rcases g with rfl | rfl | rfl | rfl | rfl
  · intro c hc; revert c; decide
  · intro c hc; cases hc
  · intro c hc; revert c; decide
  · exact no10c h (by decide)
  · exact no10c h (by decide)
theorem good_len {i : Nat} {x : List UInt8} (g : goodL i x) : x.length ≤ 11 := by
  rcases g with rfl | rfl <;> simp [gT, gN]
theorem bad_len {i : Nat} {x : List UInt8} (g : badL i x) : x.length ≤ 11 := by
  rcases g with rfl | rfl | rfl | rfl | rfl <;> simp [b3L, b4L, b5L]
theorem flat_len : ∀ ls : List (List UInt8), (∀ x ∈ ls, x.length ≤ 11) → (flatL ls).length ≤ ls.length * 12
  | [], _ => by simp [flatL]
  | x :: r, h => by
    have ih := flat_len r (fun y hy => h y (by simp [hy]))
    have h1 := h x (by simp)
    unfold flatL at ih ⊢
    simp only [List.map_cons, List.flatten_cons, List.length_append, List.length_cons, List.length_nil]
    omega
theorem flat_snoc (ls : List (List UInt8)) (x : List UInt8) : flatL (ls ++ [x]) = flatL ls ++ (x ++ [10]) := by
  unfold flatL
  simp
theorem linS_flat {ls : List (List UInt8)} (h0 : ls ≠ []) (h10 : ∀ x ∈ ls, No10 x) : linS (flatL ls) = ls.map bs := by
  unfold linS flatL
  rw [flat_inter _ h0, trimS]
  obtain ⟨h1, h2⟩ := split_inter _ h0 h10
  rw [show Lib.countB (bs (interL ls)) nlB = ls.length - 1 by omega]
  exact h2
theorem flat_ne {ls : List (List UInt8)} (h0 : ls ≠ []) : flatL ls ≠ [] := by
  unfold flatL
  rw [flat_inter _ h0]
  simp
theorem parseL_good {ls : List (List UInt8)} (h0 : ls ≠ []) (hn : ls.length ≤ 10) (h : ∀ i (hi : i < ls.length), goodL i ls[i]) : (parseC (flatL ls)).2 = (0, 0) := by
  have hmem : ∀ x ∈ ls, ∃ i, i < 10 ∧ goodL i x := fun x hx => by
    obtain ⟨i, hi, rfl⟩ := List.getElem_of_mem hx
    exact ⟨i, by omega, h i hi⟩
  have hls := linS_flat h0 (fun x hx => by obtain ⟨i, hi, g⟩ := hmem x hx; exact good_10 hi g)
  have hlen := flat_len ls (fun x hx => by obtain ⟨i, hi, g⟩ := hmem x hx; exact good_len g)
  have hl1 : 1 ≤ ls.length := by cases ls with
    | nil => exact absurd rfl h0
    | cons => simp
  unfold parseC
  rw [if_neg (by omega), if_neg (flat_ne h0), hls, fstE_miss _ _ (fun e he => by
    unfold errsOf at he
    obtain ⟨i, hi, rfl⟩ := List.mem_mapIdx.1 he
    simp only [List.getElem_map, bs_list]
    exact (good_lineP (by simp at hi; omega) (h i (by simpa using hi))).1)]
  simp only
  rw [fstE_miss _ _ (fun e he => by
    obtain ⟨m, hm, rfl⟩ := List.mem_map.1 he
    unfold mbsOf at hm ⊢
    obtain ⟨i, hi, rfl⟩ := List.mem_mapIdx.1 hm
    simp only [List.getElem_map, bs_list]
    exact (good_lineP (by simp at hi; omega) (h i (by simpa using hi))).2 _ (by simpa using hl1))]
theorem parseL_bad {ls : List (List UInt8)} {k : Nat} (hk : k < ls.length) (hn : ls.length ≤ 10) (h : ∀ i (hi : i < ls.length), i ≠ k → goodL i ls[i]) (hb : badL k ls[k]) :
    ∃ e : Int, e ≠ 0 ∧ parseC (flatL ls) = ([], k + 1, e) := by
  have h0 : ls ≠ [] := by intro e; rw [e] at hk; simp at hk
  have hmem : ∀ x ∈ ls, ∃ i, i < 10 ∧ (goodL i x ∨ badL i x) := fun x hx => by
    obtain ⟨i, hi, rfl⟩ := List.getElem_of_mem hx
    by_cases he : i = k
    · subst he; exact ⟨i, by omega, .inr hb⟩
    · exact ⟨i, by omega, .inl (h i hi he)⟩
  have hls := linS_flat h0 (fun x hx => by
    obtain ⟨i, hi, g | g⟩ := hmem x hx
    · exact good_10 hi g
    · exact bad_10 hi g)
  have hlen := flat_len ls (fun x hx => by
    obtain ⟨i, hi, g | g⟩ := hmem x hx
    · exact good_len g
    · exact bad_len g)
  have hel : (errsOf (ls.map bs)).length = ls.length := by unfold errsOf; simp
  have hget : ∀ i (hi : i < (errsOf (ls.map bs)).length), (errsOf (ls.map bs))[i] = (lineP i (ls[i]'(by omega))).2 := fun i hi => by
    simp [errsOf, bs_list]
  have hz : 0 + k + 1 = k + 1 := by omega
  refine ⟨(lineP k ls[k]).2, bad_lineP (by omega) hb, ?_⟩
  unfold parseC
  rw [if_neg (by omega), if_neg (flat_ne h0), hls, fstE_hit _ 0 k (by omega) (fun i hi hik => by
    rw [hget]
    exact (good_lineP (by omega) (h i (by omega) (by omega))).1) (by rw [hget]; exact bad_lineP (by omega) hb), hz, hget]
end Go.Proofs.YtoblhcieidljjaaGreatDoor

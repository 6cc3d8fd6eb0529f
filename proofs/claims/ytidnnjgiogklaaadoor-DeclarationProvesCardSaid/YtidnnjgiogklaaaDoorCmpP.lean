/- The order of strings and of three-way comparisons, plain. -/
import Derived.Test.YtidnnjgiogklaaaDoorNs2
namespace Go.Proofs.YtidnnjgiogklaaaDoor
open Go.RowKit

theorem bl_irrefl : ∀ a : List UInt8, Op.bytesLess a a = false
  | [] => rfl
  | x :: a => by simp [Op.bytesLess, bl_irrefl a]
theorem bl_trans : ∀ a b c : List UInt8, Op.bytesLess a b = true → Op.bytesLess b c = true → Op.bytesLess a c = true
  | _, [], _, h, _ => by simp [Op.bytesLess] at h
  | _, _ :: _, [], _, h => by simp [Op.bytesLess] at h
  | [], _ :: _, _ :: _, _, _ => by simp [Op.bytesLess]
  | x :: a, y :: b, z :: c, h, k => by
    simp only [Op.bytesLess, Bool.or_eq_true, decide_eq_true_eq, Bool.and_eq_true, beq_iff_eq] at *
    rcases h with h | ⟨rfl, h⟩
    · rcases k with k | ⟨rfl, k⟩
      · exact .inl (UInt8.lt_trans h k)
      · exact .inl h
    · rcases k with k | ⟨rfl, k⟩
      · exact .inl k
      · exact .inr ⟨rfl, bl_trans a b c h k⟩
theorem bl_total : ∀ a b : List UInt8, Op.bytesLess a b = false → Op.bytesLess b a = false → a = b
  | [], [], _, _ => rfl
  | [], _ :: _, h, _ => by simp [Op.bytesLess] at h
  | _ :: _, [], _, h => by simp [Op.bytesLess] at h
  | x :: a, y :: b, h, k => by
    simp only [Op.bytesLess, Bool.or_eq_false_iff, decide_eq_false_iff_not, Bool.and_eq_false_iff, beq_eq_false_iff_ne] at *
    have e : x = y := by
      have h1 := h.1
      have k1 := k.1
      rw [UInt8.lt_iff_toNat_lt] at h1 k1
      exact UInt8.toNat_inj.1 (by omega)
    subst e
    rw [bl_total a b (h.2.resolve_left (by simp)) (k.2.resolve_left (by simp))]
theorem bl_asymm {a b : List UInt8} (h : Op.bytesLess a b = true) : Op.bytesLess b a = false := by
  cases hb : Op.bytesLess b a
  · rfl
  · have := bl_trans a b a h hb
    rw [bl_irrefl] at this
    cases this
/-- cmp.Compare of strings. -/
def cmpL (a b : List UInt8) : Int := if Op.bytesLess a b then -1 else if Op.bytesLess b a then 1 else 0
theorem cmpL_zero {a b : List UInt8} : cmpL a b = 0 ↔ a = b := by
  unfold cmpL
  constructor
  · intro h
    cases h1 : Op.bytesLess a b
    · cases h2 : Op.bytesLess b a
      · exact bl_total a b h1 h2
      · rw [h1, h2] at h; simp at h
    · rw [h1] at h; simp at h
  · rintro rfl
    simp [bl_irrefl]
theorem cmpL_neg (a b : List UInt8) : cmpL b a = - cmpL a b := by
  unfold cmpL
  cases h1 : Op.bytesLess a b
  · cases h2 : Op.bytesLess b a <;> simp
  · rw [bl_asymm h1]; simp
theorem cmpL_cases (a b : List UInt8) : cmpL a b = -1 ∨ cmpL a b = 0 ∨ cmpL a b = 1 := by
  unfold cmpL
  split
  · exact .inl rfl
  · split
    · exact .inr (.inr rfl)
    · exact .inr (.inl rfl)
theorem cmpL_trans {a b c : List UInt8} (h : cmpL a b ≤ 0) (k : cmpL b c ≤ 0) : cmpL a c ≤ 0 := by
  have hle : ∀ x y : List UInt8, cmpL x y ≤ 0 ↔ Op.bytesLess y x = false := by
    intro x y
    unfold cmpL
    cases h1 : Op.bytesLess x y
    · cases h2 : Op.bytesLess y x <;> simp
    · rw [bl_asymm h1]; simp
  rw [hle] at *
  cases hc : Op.bytesLess c a
  · rfl
  · exfalso
    cases hab : Op.bytesLess a b
    · have := bl_total a b hab h
      subst this
      rw [k] at hc; cases hc
    · have := bl_trans c a b hc hab
      rw [k] at this; cases this
theorem cmpI_neg (a b : Int) : cmpI b a = - cmpI a b := by
  unfold cmpI
  by_cases h1 : a < b
  · simp [h1, show ¬ b < a from by omega]
  · by_cases h2 : b < a <;> simp [h1, h2]
theorem cmpI_zero {a b : Int} : cmpI a b = 0 ↔ a = b := by
  unfold cmpI
  by_cases h1 : a < b
  · simp [h1]; omega
  · by_cases h2 : b < a
    · simp [h1, h2]; omega
    · simp [h1, h2]; omega
theorem cmpI_le {a b : Int} : cmpI a b ≤ 0 ↔ a ≤ b := by
  unfold cmpI
  by_cases h1 : a < b
  · simp [h1]; omega
  · by_cases h2 : b < a
    · simp [h1, h2]
    · simp [h1, h2]; omega
end Go.Proofs.YtidnnjgiogklaaaDoor

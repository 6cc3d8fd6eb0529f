/- The order of declarations is total: plain. -/
import Derived.Test.YtidnnjgiogklaaaDoorDeclO
namespace Go.Proofs.YtidnnjgiogklaaaDoor
open Go.RowKit

theorem cmpI_cases (a b : Int) : cmpI a b = -1 ∨ cmpI a b = 0 ∨ cmpI a b = 1 := by
  unfold cmpI
  split
  · exact .inl rfl
  · split
    · exact .inr (.inr rfl)
    · exact .inr (.inl rfl)
theorem cmpD_neg (a b : De) : cmpD b a = - cmpD a b := by
  unfold cmpD
  rw [orL3, orL3, cmpI_neg a.node b.node, cmpI_neg a.seq b.seq, cmpL_neg]
  have h1 := cmpI_cases a.node b.node
  have h2 := cmpI_cases a.seq b.seq
  split <;> split <;> (try split) <;> (try split) <;> omega
theorem cmpD_cases (a b : De) : cmpD a b = -1 ∨ cmpD a b = 0 ∨ cmpD a b = 1 := by
  unfold cmpD
  rw [orL3]
  have h1 := cmpI_cases a.node b.node
  have h2 := cmpI_cases a.seq b.seq
  have h3 := cmpL_cases (bytesS a) (bytesS b)
  split
  · split
    · exact h3
    · exact h2
  · exact h1
theorem cmpD_lt {a b : De} (h : a.node < b.node) : cmpD a b = -1 := by
  unfold cmpD
  rw [orL3]
  have : cmpI a.node b.node = -1 := by simp [cmpI, h]
  rw [this]
  simp
theorem cmpD_seq {a b : De} (h : a.node = b.node) (h2 : a.seq < b.seq) : cmpD a b = -1 := by
  unfold cmpD
  rw [orL3]
  have e1 : cmpI a.node b.node = 0 := cmpI_zero.2 h
  have e2 : cmpI a.seq b.seq = -1 := by simp [cmpI, h2]
  rw [e1, e2]
  simp
theorem cmpD_le {a b : De} : cmpD a b ≤ 0 ↔ a.node < b.node ∨ (a.node = b.node ∧ (a.seq < b.seq ∨ (a.seq = b.seq ∧ cmpL (bytesS a) (bytesS b) ≤ 0))) := by
  unfold cmpD
  rw [orL3]
  have h1 : cmpI a.node b.node ≤ 0 ↔ _ := cmpI_le
  have h2 : cmpI a.seq b.seq ≤ 0 ↔ _ := cmpI_le
  have z1 : cmpI a.node b.node = 0 ↔ _ := cmpI_zero
  have z2 : cmpI a.seq b.seq = 0 ↔ _ := cmpI_zero
  split
  · rename_i h
    have e1 := z1.1 h
    split
    · rename_i h'
      have e2 := z2.1 h'
      omega
    · rename_i h'
      have e2 : ¬ a.seq = b.seq := fun e => h' (z2.2 e)
      omega
  · rename_i h
    have e1 : ¬ a.node = b.node := fun e => h (z1.2 e)
    omega
theorem cmpD_trans {a b c : De} (h : cmpD a b ≤ 0) (k : cmpD b c ≤ 0) : cmpD a c ≤ 0 := by
  rw [cmpD_le] at *
  rcases h with h | ⟨h, h2⟩
  · rcases k with k | ⟨k, _⟩ <;> exact .inl (by omega)
  · rcases k with k | ⟨k, k2⟩
    · exact .inl (by omega)
    · refine .inr ⟨by omega, ?_⟩
      rcases h2 with h2 | ⟨h2, h3⟩
      · rcases k2 with k2 | ⟨k2, _⟩ <;> exact .inl (by omega)
      · rcases k2 with k2 | ⟨k2, k3⟩
        · exact .inl (by omega)
        · exact .inr ⟨by omega, cmpL_trans h3 k3⟩
theorem itoa1 {n : Int} (h0 : 0 ≤ n) (h1 : n < 10) : Lib.itoa n = [UInt8.ofNat (48 + n.toNat)] := by
  obtain ⟨k, rfl⟩ := Int.eq_ofNat_of_zero_le h0
  rw [Lib.itoa_nonneg, Lib.decDigits_one (by omega)]
  rfl
theorem dig_inj {a b : Nat} (ha : a < 10) (hb : b < 10) (h : UInt8.ofNat (48 + a) = UInt8.ofNat (48 + b)) : a = b := by
  have := congrArg UInt8.toNat h
  simp only [UInt8.toNat_ofNat'] at this
  omega
/-- The order is 0 exactly where the bytes are equal. -/
theorem cmpD_zero {a b : De} (ha : plainE a = 0) (hb : plainE b = 0) (ha9 : a.seq < 10) (hb9 : b.seq < 10) : cmpD a b = 0 ↔ bytesS a = bytesS b := by
  obtain ⟨⟨p1, p2⟩, ⟨p3, _⟩, _⟩ := plain_parts ha
  obtain ⟨⟨q1, q2⟩, ⟨q3, _⟩, _⟩ := plain_parts hb
  constructor
  · intro h
    unfold cmpD at h
    rw [orL3] at h
    split at h
    · split at h
      · exact cmpL_zero.1 h
      · exact absurd h (by assumption)
    · exact absurd h (by assumption)
  · intro h
    have h0 := h
    unfold bytesS at h
    rw [if_pos ha, if_pos hb, itoa1 p1 p2, itoa1 q1 q2, itoa1 (by omega) ha9, itoa1 (by omega) hb9] at h
    simp only [List.cons_append, List.nil_append, List.cons.injEq, true_and] at h
    have e1 := dig_inj (by omega) (by omega) h.1
    have e2 := dig_inj (by omega) (by omega) h.2.1
    unfold cmpD
    rw [orL3, if_pos (cmpI_zero.2 (by omega)), if_pos (cmpI_zero.2 (by omega))]
    exact cmpL_zero.2 h0
end Go.Proofs.YtidnnjgiogklaaaDoor

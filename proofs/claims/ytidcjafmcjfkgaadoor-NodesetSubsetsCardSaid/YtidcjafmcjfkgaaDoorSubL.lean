/- What Subsets returns, plain. -/
import Derived.Test.YtidcjafmcjfkgaaDoorSubW
namespace Go.Proofs.YtidcjafmcjfkgaaDoor
open Go.RowKit

theorem sizS_nat (s : Nat) (hs : s ≤ 1023) : sizS (s : Int) = popB s 10 := by
  have : validB (s : Int) = true := by simp [validB]; omega
  simp [sizS, this]
theorem rawSub_nat (s k : Nat) (hk : k ≤ 1024) : rawSub s k = ((List.range k).filter fun t => t &&& s == t).map Int.ofNat := by
  unfold rawSub ints
  rw [List.filter_map]
  congr 1
  apply List.filter_congr
  intro t ht
  have := List.mem_range.1 ht
  exact subI_nat t s (by omega)
theorem land_le {t s : Nat} (h : t &&& s = t) : t ≤ s := by
  have := Nat.and_le_right (n := t) (m := s)
  omega
theorem sub_len (s : Nat) (hs : s ≤ 1023) : (subS s).length = 2 ^ sizS (s : Int) := by
  unfold subS
  rw [sortS_len, rawSub_nat s (s + 1) (by omega), List.length_map, sizS_nat s hs, ← cnt_sub s 10]
  have e : 2 ^ 10 = (s + 1) + (1023 - s) := by omega
  have er : List.range ((s + 1) + (1023 - s)) = List.range (s + 1) ++ (List.range (1023 - s)).map (s + 1 + ·) := List.range_add ..
  rw [e, er, List.filter_append, List.length_append]
  have hz : ((List.range (1023 - s)).map (s + 1 + ·)).filter (fun t => t &&& s == t) = [] := by
    rw [List.filter_eq_nil_iff]
    intro t ht h
    obtain ⟨a, _, rfl⟩ := List.mem_map.1 ht
    have := land_le (beq_iff_eq.1 h)
    omega
  rw [hz]
  rfl
theorem sub_mem (s : Nat) (hs : s ≤ 1023) (x : Int) : x ∈ subS s ↔ ∃ t : Nat, x = t ∧ t &&& s = t := by
  unfold subS
  rw [sortS_mem, rawSub_nat s (s + 1) (by omega)]
  simp only [List.mem_map, List.mem_filter, List.mem_range, beq_iff_eq]
  constructor
  · rintro ⟨t, ⟨_, h⟩, rfl⟩
    exact ⟨t, rfl, h⟩
  · rintro ⟨t, rfl, h⟩
    exact ⟨t, ⟨by have := land_le h; omega, h⟩, rfl⟩
theorem sub_nodup (s : Nat) (hs : s ≤ 1023) : (subS s).Nodup := by
  unfold subS
  rw [show (sortS (rawSub s (s + 1))).Nodup ↔ (rawSub s (s + 1)).Nodup from (List.mergeSort_perm _ _).nodup_iff, rawSub_nat s (s + 1) (by omega)]
  exact List.Pairwise.map _ (fun a b h e => h (Int.ofNat.inj e)) ((List.nodup_range).filter _)
theorem sort_pair (l : List Int) : (sortS l).Pairwise fun x y => ¬ cmpS y x < 0 := by
  have h := List.pairwise_mergeSort (le := fun x y => !decide (cmpS y x < 0)) (fun a b c h1 h2 => by
    simp only [Bool.not_eq_true', decide_eq_false_iff_not, cmpS_lt] at *
    omega) (fun a b => by
    simp only [Bool.or_eq_true, Bool.not_eq_true', decide_eq_false_iff_not, cmpS_lt]
    omega) l
  refine List.Pairwise.imp ?_ h
  intro a b h
  simpa using h
theorem cmpS_neg {x y : Int} (h : cmpS x y < 0) : cmpS x y = -1 := by
  unfold cmpS cmpI at *
  split at h <;> (try split at h) <;> (try split at h) <;> (try split at h) <;> simp_all <;> omega
theorem sub_lt (s : Nat) (hs : s ≤ 1023) : (subS s).Pairwise fun x y => cmpS x y = -1 := by
  have h1 := sort_pair (rawSub s (s + 1))
  have h2 := sub_nodup s hs
  have h3 := List.Pairwise.and h1 h2
  refine List.Pairwise.imp ?_ h3
  rintro a b ⟨h4, h5⟩
  apply cmpS_neg
  rw [cmpS_lt] at *
  omega
end Go.Proofs.YtidcjafmcjfkgaaDoor

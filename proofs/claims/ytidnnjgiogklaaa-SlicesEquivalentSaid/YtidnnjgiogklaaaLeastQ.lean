/- The least sets of a list, plain: which they are, and that they are in order. -/
import Derived.Test.YtidnnjgiogklaaaSubP
import Derived.Test.YtidnnjgiogklaaaLeastP
namespace Go.Proofs.Ytidnnjgiogklaaa
open Go.RowKit

/-- a is a subset of b, as bits. -/
def Sb (a b : Nat) : Prop := ∀ i, a.testBit i = true → b.testBit i = true
theorem Sb.refl (a : Nat) : Sb a a := fun _ h => h
theorem Sb.trans {a b c : Nat} (h : Sb a b) (k : Sb b c) : Sb a c := fun i hi => k i (h i hi)
theorem Sb.antisymm {a b : Nat} (h : Sb a b) (k : Sb b a) : a = b := by
  apply Nat.eq_of_testBit_eq
  intro i
  rw [Bool.eq_iff_iff]
  exact ⟨h i, k i⟩
theorem sb_land {a b : Nat} : (a &&& b = a) ↔ Sb a b := land_iff a b
theorem popB_mono {a b : Nat} (h : Sb a b) : ∀ k, popB a k ≤ popB b k
  | 0 => by simp [popB]
  | k + 1 => by
    have := popB_mono h k
    have hk := h k
    simp only [popB]
    cases ha : a.testBit k
    · simp; omega
    · rw [hk ha]; simp; omega
theorem popB_back {a b : Nat} (h : Sb a b) : ∀ k, popB b k ≤ popB a k → ∀ i, i < k → b.testBit i = true → a.testBit i = true
  | 0, _, i, hi, _ => by omega
  | k + 1, hp, i, hi, hb => by
    have hm := popB_mono h k
    have hk := h k
    simp only [popB] at hp
    by_cases e : i = k
    · subst e
      rw [hb] at hp
      cases ha : a.testBit i
      · rw [ha] at hp; simp at hp; omega
      · rfl
    · refine popB_back h k ?_ i (by omega) hb
      cases ha : a.testBit k
      · cases hb' : b.testBit k
        · rw [ha, hb'] at hp; simpa using hp
        · rw [ha, hb'] at hp; simp at hp; omega
      · rw [ha, hk ha] at hp; simpa using hp
theorem bit_lt10 {b i : Nat} (hb : b ≤ 1023) (h : b.testBit i = true) : i < 10 := by
  rcases Nat.lt_or_ge i 10 with h2 | h2
  · exact h2
  · have h3 : 2 ^ 10 ≤ 2 ^ i := Nat.pow_le_pow_right (by omega) h2
    rw [Nat.testBit_lt_two_pow (show b < 2 ^ i by omega)] at h
    cases h
/-- A subset that is not smaller is the set. -/
theorem sb_eq {a b : Nat} (hb : b ≤ 1023) (h : Sb a b) (hp : popB b 10 ≤ popB a 10) : a = b :=
  h.antisymm fun i hi => popB_back h 10 hp i (bit_lt10 hb hi) hi

theorem validB_nat {x : Int} (h : validB x = true) : ∃ n : Nat, x = n ∧ n ≤ 1023 := by
  simp only [validB, decide_eq_true_eq] at h
  obtain ⟨n, rfl⟩ := Int.eq_ofNat_of_zero_le h.1
  exact ⟨n, rfl, by omega⟩
theorem nat_validB {n : Nat} (h : n ≤ 1023) : validB (n : Int) = true := by simp [validB]; omega
theorem subI_sb {a b : Nat} (ha : a ≤ 1023) : subI (a : Int) (b : Int) = true ↔ Sb a b := by
  rw [subI_nat a b (by omega), beq_iff_eq]; exact sb_land
theorem subI_refl {x : Int} (h : validB x = true) : subI x x = true := by
  obtain ⟨n, rfl, hn⟩ := validB_nat h
  rw [subI_sb hn]; exact Sb.refl _
theorem subI_trans {x y z : Int} (hx : validB x = true) (hy : validB y = true) (hz : validB z = true) (h : subI x y = true) (k : subI y z = true) : subI x z = true := by
  obtain ⟨a, rfl, ha⟩ := validB_nat hx
  obtain ⟨b, rfl, hb⟩ := validB_nat hy
  obtain ⟨c, rfl, hc⟩ := validB_nat hz
  rw [subI_sb (by assumption)] at *
  exact h.trans k
theorem subI_anti {x y : Int} (hx : validB x = true) (hy : validB y = true) (h : subI x y = true) (k : subI y x = true) : x = y := by
  obtain ⟨a, rfl, ha⟩ := validB_nat hx
  obtain ⟨b, rfl, hb⟩ := validB_nat hy
  rw [subI_sb (by assumption)] at *
  rw [h.antisymm k]

theorem cmpS_ltQ (x y : Int) : cmpS x y < 0 ↔ rankI x < rankI y ∨ (rankI x = rankI y ∧ x < y) := by
  unfold cmpS cmpI
  generalize rankI x = a
  generalize rankI y = b
  by_cases h1 : a < b
  · simp [h1]
  · by_cases h2 : b < a
    · simp [h1, h2]; omega
    · by_cases h3 : x < y
      · simp [h1, h2, h3]; omega
      · by_cases h4 : y < x <;> simp [h1, h2, h3, h4]
theorem rankI_valid {n : Nat} (h : n ≤ 1023) : rankI (n : Int) = popB n 10 := by
  simp [rankI, sizS, nat_validB h]
/-- A subset that does not come before the set is the set. -/
theorem sub_late {x y : Int} (hx : validB x = true) (hy : validB y = true) (h : subI x y = true) (k : ¬ cmpS x y < 0) : x = y := by
  obtain ⟨a, rfl, ha⟩ := validB_nat hx
  obtain ⟨b, rfl, hb⟩ := validB_nat hy
  rw [subI_sb ha] at h
  rw [cmpS_ltQ, rankI_valid ha, rankI_valid hb] at k
  have hm := popB_mono h 10
  rw [sb_eq hb h (by omega)]
theorem sortQ_pair (l : List Int) : (sortS l).Pairwise fun x y => ¬ cmpS y x < 0 := by
  have h := List.pairwise_mergeSort (le := fun x y => !decide (cmpS y x < 0)) (fun a b c h1 h2 => by
    simp only [Bool.not_eq_true', decide_eq_false_iff_not, cmpS_ltQ] at *
    omega) (fun a b => by
    simp only [Bool.or_eq_true, Bool.not_eq_true', decide_eq_false_iff_not, cmpS_ltQ]
    omega) l
  refine List.Pairwise.imp ?_ h
  intro a b h
  simpa using h

theorem leastGo_sub : ∀ (l out : List Int), (leastGo out l).Sublist (out ++ l)
  | [], out => by simp [leastGo]
  | s :: r, out => by
    simp only [leastGo]
    split
    · exact (leastGo_sub r out).trans (List.Sublist.append_left (List.sublist_cons_self _ _) _)
    · have := leastGo_sub r (out ++ [s])
      simpa using this
theorem leastGo_apart : ∀ (l out : List Int), out.Pairwise (fun a b => subI a b = false) → (leastGo out l).Pairwise fun a b => subI a b = false
  | [], out, h => h
  | s :: r, out, h => by
    simp only [leastGo]
    split
    · exact leastGo_apart r out h
    · rename_i hn
      refine leastGo_apart r _ ?_
      rw [List.pairwise_append]
      refine ⟨h, List.pairwise_singleton _ _, fun a ha b hb => ?_⟩
      simp only [List.mem_singleton] at hb
      subst hb
      have := hn
      simp only [List.any_eq_true, not_exists, not_and, Bool.not_eq_true] at this
      exact this a ha
theorem leastGo_keep : ∀ (l out : List Int) (x : Int), x ∈ out → x ∈ leastGo out l
  | [], out, x, h => h
  | s :: r, out, x, h => by
    simp only [leastGo]
    split
    · exact leastGo_keep r out x h
    · exact leastGo_keep r _ x (List.mem_append_left _ h)
theorem leastGo_cover : ∀ (l out : List Int), (∀ x ∈ l, validB x = true) → ∀ x ∈ l, ∃ t ∈ leastGo out l, subI t x = true
  | [], out, _, x, h => by cases h
  | s :: r, out, hv, x, h => by
    simp only [leastGo]
    rcases List.mem_cons.1 h with rfl | h
    · by_cases hn : out.any (fun t => subI t x) = true
      · rw [if_pos hn]
        obtain ⟨t, ht, h2⟩ := List.any_eq_true.1 hn
        exact ⟨t, leastGo_keep _ _ _ ht, h2⟩
      · rw [if_neg hn]
        exact ⟨x, leastGo_keep _ _ _ (List.mem_append_right _ (by simp)), subI_refl (hv x (by simp))⟩
    · exact leastGo_cover r _ (fun y hy => hv y (List.mem_cons_of_mem _ hy)) x h

theorem leastS_cover {l : List Int} {x : Int} (h : x ∈ l) (hv : validB x = true) : ∃ t ∈ leastS l, subI t x = true := by
  refine leastGo_cover _ _ (fun y hy => ?_) x ?_
  · exact (List.mem_filter.1 ((sortS_mem _ _).1 hy)).2
  · rw [sortS_mem, List.mem_filter]; exact ⟨h, hv⟩
theorem leastS_apart (l : List Int) : (leastS l).Pairwise fun a b => subI a b = false := leastGo_apart _ _ List.Pairwise.nil
theorem leastS_le (l : List Int) : (leastS l).Pairwise fun x y => ¬ cmpS y x < 0 := by
  have h := leastGo_sub (sortS (l.filter validB)) []
  rw [List.nil_append] at h
  exact (sortQ_pair _).sublist h
theorem pairwise_two {α : Type} {R : α → α → Prop} {l : List α} (h : l.Pairwise R) {a b : α} (ha : a ∈ l) (hb : b ∈ l) (hne : a ≠ b) : R a b ∨ R b a := by
  obtain ⟨i, hi, rfl⟩ := List.getElem_of_mem ha
  obtain ⟨j, hj, rfl⟩ := List.getElem_of_mem hb
  rw [List.pairwise_iff_getElem] at h
  rcases Nat.lt_trichotomy i j with h1 | h1 | h1
  · exact .inl (h i j hi hj h1)
  · subst h1; exact absurd rfl hne
  · exact .inr (h j i hj hi h1)
/-- No one of the least sets is a subset of another one. -/
theorem leastS_anti {l : List Int} {x y : Int} (hx : x ∈ leastS l) (hy : y ∈ leastS l) (h : subI x y = true) : x = y := by
  by_cases hne : x = y
  · exact hne
  · have h3 := List.Pairwise.and (leastS_apart l) (leastS_le l)
    rcases pairwise_two h3 hx hy hne with h1 | h1
    · rw [h] at h1; cases h1.1
    · exact sub_late (leastS_mem hx).2 (leastS_mem hy).2 h h1.2
theorem mem_leastS {l : List Int} {x : Int} : x ∈ leastS l ↔ x ∈ l ∧ validB x = true ∧ ∀ y ∈ l, validB y = true → subI y x = true → y = x := by
  constructor
  · intro hx
    have h := leastS_mem hx
    refine ⟨h.1, h.2, fun y hy hv hs => ?_⟩
    obtain ⟨t, ht, hty⟩ := leastS_cover hy hv
    have htv := (leastS_mem ht).2
    have e := leastS_anti ht hx (subI_trans htv hv h.2 hty hs)
    subst e
    exact subI_anti hv h.2 hs hty
  · rintro ⟨h1, h2, h3⟩
    obtain ⟨t, ht, htx⟩ := leastS_cover h1 h2
    have := leastS_mem ht
    rw [← h3 t this.1 this.2 htx]
    exact ht
theorem leastS_strict (l : List Int) : (leastS l).Pairwise fun x y => cmpS x y < 0 := by
  have h3 := List.Pairwise.and (leastS_apart l) (leastS_le l)
  rw [List.pairwise_iff_getElem] at *
  intro i j hi hj hij
  obtain ⟨h1, h2⟩ := h3 i j hi hj hij
  have hne : (leastS l)[i] ≠ (leastS l)[j] := fun e => by
    rw [← e, subI_refl (leastS_mem (List.getElem_mem hi)).2] at h1
    cases h1
  rw [cmpS_ltQ] at *
  omega
theorem strict_ext {R : Int → Int → Prop} (irr : ∀ x, ¬ R x x) (tr : ∀ x y z, R x y → R y z → R x z) : ∀ (a b : List Int), a.Pairwise R → b.Pairwise R → (∀ x, x ∈ a ↔ x ∈ b) → a = b
  | [], [], _, _, _ => rfl
  | [], y :: b, _, _, h => by have := (h y).2 (by simp); cases this
  | x :: a, [], _, _, h => by have := (h x).1 (by simp); cases this
  | x :: a, y :: b, ha, hb, h => by
    rw [List.pairwise_cons] at ha hb
    have e : x = y := by
      have h1 := (h x).1 (by simp)
      have h2 := (h y).2 (by simp)
      rcases List.mem_cons.1 h1 with h1 | h1
      · exact h1
      · rcases List.mem_cons.1 h2 with h2 | h2
        · exact h2.symm
        · exact absurd (tr _ _ _ (hb.1 x h1) (ha.1 y h2)) (irr _)
    subst e
    rw [strict_ext irr tr a b ha.2 hb.2 fun z => ?_]
    constructor
    · intro hz
      rcases List.mem_cons.1 ((h z).1 (List.mem_cons_of_mem _ hz)) with e | h2
      · subst e; exact absurd (ha.1 z hz) (irr _)
      · exact h2
    · intro hz
      rcases List.mem_cons.1 ((h z).2 (List.mem_cons_of_mem _ hz)) with e | h2
      · subst e; exact absurd (hb.1 z hz) (irr _)
      · exact h2
theorem cmpS_ext {a b : List Int} (ha : a.Pairwise fun x y => cmpS x y < 0) (hb : b.Pairwise fun x y => cmpS x y < 0) (h : ∀ x, x ∈ a ↔ x ∈ b) : a = b :=
  strict_ext (R := fun x y => cmpS x y < 0) (fun x => by rw [cmpS_ltQ]; omega) (fun x y z h1 h2 => by rw [cmpS_ltQ] at *; omega) a b ha hb h
theorem leastS_ext {a b : List Int} (h : ∀ x, x ∈ leastS a ↔ x ∈ leastS b) : leastS a = leastS b := cmpS_ext (leastS_strict a) (leastS_strict b) h
end Go.Proofs.Ytidnnjgiogklaaa

/- The sets that meet all sets of a list, plain: the least ones, and that what meets all of these are the least sets again. -/
import Derived.Test.YtidnnjgiogklaaaLeastQ
namespace Go.Proofs.Ytidnnjgiogklaaa
open Go.RowKit

/-- a and b have a node in common. -/
def Mt (a b : Nat) : Prop := ∃ i, a.testBit i = true ∧ b.testBit i = true
theorem Mt.symm {a b : Nat} (h : Mt a b) : Mt b a := by obtain ⟨i, h1, h2⟩ := h; exact ⟨i, h2, h1⟩
theorem Mt.mono {a b c : Nat} (h : Mt a b) (k : Sb a c) : Mt c b := by obtain ⟨i, h1, h2⟩ := h; exact ⟨i, k i h1, h2⟩
theorem disI_nat {a b : Nat} (ha : a ≤ 1023) (hb : b ≤ 1023) : disI (a : Int) (b : Int) = false ↔ Mt a b := by
  unfold disI
  rw [and_i64 a b (by omega) (by omega), beq_eq_false_iff_ne]
  constructor
  · intro h
    have h2 : a &&& b ≠ 0 := fun e => h (by rw [e]; rfl)
    obtain ⟨i, hi⟩ := Nat.exists_testBit_of_ne_zero h2
    rw [Nat.testBit_and, Bool.and_eq_true] at hi
    exact ⟨i, hi⟩
  · rintro ⟨i, h1, h2⟩ e
    have e2 : a &&& b = 0 := by omega
    have := congrArg (fun x => x.testBit i) e2
    simp [Nat.testBit_and, h1, h2] at this
theorem mem_ints {x : Int} {k : Nat} : x ∈ ints k ↔ ∃ j : Nat, j < k ∧ x = j := by
  simp only [ints, List.mem_map, List.mem_range]
  constructor
  · rintro ⟨a, h, rfl⟩; exact ⟨a, h, rfl⟩
  · rintro ⟨a, h, rfl⟩; exact ⟨a, h, rfl⟩
/-- Sets of nodes below n, as a list of ints. -/
def Bel (n : Nat) (l : List Int) : Prop := ∀ x ∈ l, ∃ a : Nat, x = a ∧ a < 2 ^ n
theorem Bel.le {n : Nat} (hn : n ≤ 10) {a : Nat} (h : a < 2 ^ n) : a ≤ 1023 := by
  have := Nat.pow_le_pow_right (n := 2) (by omega) hn
  omega
theorem bel_least {n : Nat} {l : List Int} (h : Bel n l) : Bel n (leastS l) := fun x hx => h x (leastS_mem hx).1
theorem any_least {n : Nat} (hn : n ≤ 10) {l : List Int} (h : Bel n l) {a : Nat} (ha : a ≤ 1023) : ((leastS l).any (disI a)) = l.any (disI a) := by
  rw [Bool.eq_iff_iff, List.any_eq_true, List.any_eq_true]
  constructor
  · rintro ⟨z, hz, h2⟩
    exact ⟨z, (leastS_mem hz).1, h2⟩
  · rintro ⟨z, hz, h2⟩
    obtain ⟨b, rfl, hb⟩ := h z hz
    have hb' := Bel.le hn hb
    obtain ⟨t, ht, hs⟩ := leastS_cover hz (nat_validB hb')
    obtain ⟨c, rfl, hc⟩ := bel_least h t ht
    have hc' := Bel.le hn hc
    refine ⟨_, ht, ?_⟩
    rw [subI_sb hc'] at hs
    cases hd : disI (a : Int) (c : Int)
    · have h3 := (disI_nat ha hc').1 hd
      have := (disI_nat ha hb').2 (h3.symm.mono hs).symm
      rw [this] at h2
      cases h2
    · rfl
theorem mem_meetS {n : Nat} (hn : n ≤ 10) {l : List Int} (h : Bel n l) {x : Int} :
    x ∈ meetS l n ↔ ∃ a : Nat, x = a ∧ a < 2 ^ n ∧ l.any (disI a) = false ∧ ∀ b : Nat, b < 2 ^ n → l.any (disI b) = false → Sb b a → b = a := by
  unfold meetS
  rw [mem_leastS]
  have key : ∀ y : Int, y ∈ (ints (2 ^ n)).filter (fun s => !(leastS l).any (disI s)) ↔ ∃ a : Nat, y = a ∧ a < 2 ^ n ∧ l.any (disI a) = false := by
    intro y
    rw [List.mem_filter, mem_ints]
    constructor
    · rintro ⟨⟨a, ha, rfl⟩, h2⟩
      rw [any_least hn h (Bel.le hn ha)] at h2
      exact ⟨a, rfl, ha, by simpa using h2⟩
    · rintro ⟨a, rfl, ha, h2⟩
      refine ⟨⟨a, ha, rfl⟩, ?_⟩
      rw [any_least hn h (Bel.le hn ha), h2]; rfl
  constructor
  · rintro ⟨h1, h2, h3⟩
    obtain ⟨a, rfl, ha, hd⟩ := (key x).1 h1
    refine ⟨a, rfl, ha, hd, fun b hb hbd hs => ?_⟩
    have := h3 (b : Int) ((key _).2 ⟨b, rfl, hb, hbd⟩) (nat_validB (Bel.le hn hb)) ((subI_sb (Bel.le hn hb)).2 hs)
    omega
  · rintro ⟨a, rfl, ha, hd, h3⟩
    refine ⟨(key _).2 ⟨a, rfl, ha, hd⟩, nat_validB (Bel.le hn ha), fun y hy hv hs => ?_⟩
    obtain ⟨b, rfl, hb, hbd⟩ := (key y).1 hy
    rw [h3 b hb hbd ((subI_sb (Bel.le hn hb)).1 hs)]
theorem meet_cover {n : Nat} (hn : n ≤ 10) {l : List Int} (h : Bel n l) {a : Nat} (ha : a < 2 ^ n) (hd : l.any (disI a) = false) : ∃ b : Nat, (b : Int) ∈ meetS l n ∧ b < 2 ^ n ∧ Sb b a := by
  have h1 : (a : Int) ∈ (ints (2 ^ n)).filter (fun s => !(leastS l).any (disI s)) := by
    rw [List.mem_filter, mem_ints]
    refine ⟨⟨a, ha, rfl⟩, ?_⟩
    rw [any_least hn h (Bel.le hn ha), hd]; rfl
  obtain ⟨t, ht, hs⟩ := leastS_cover h1 (nat_validB (Bel.le hn ha))
  obtain ⟨b, rfl, hb, _, _⟩ := (mem_meetS hn h).1 ht
  exact ⟨b, ht, hb, (subI_sb (Bel.le hn hb)).1 hs⟩
theorem bel_meet {n : Nat} (hn : n ≤ 10) {l : List Int} (h : Bel n l) : Bel n (meetS l n) := fun x hx => by
  obtain ⟨a, rfl, ha, _⟩ := (mem_meetS hn h).1 hx
  exact ⟨a, rfl, ha⟩
theorem any_false {l : List Int} {a : Nat} : l.any (disI a) = false ↔ ∀ z ∈ l, disI a z = false := by
  rw [List.any_eq_false]
  constructor
  · intro h z hz; simpa using h z hz
  · intro h z hz; simp [h z hz]
theorem compl_bit {n a : Nat} (ha : a < 2 ^ n) (i : Nat) : (2 ^ n - (a + 1)).testBit i = (decide (i < n) && !a.testBit i) := Nat.testBit_two_pow_sub_succ ha i
/-- What meets all the meeting sets has one of the sets as a subset. -/
theorem meet_back {n : Nat} (hn : n ≤ 10) {l : List Int} (h : Bel n l) {a : Nat} (ha : a < 2 ^ n) (hd : (meetS l n).any (disI a) = false) : ∃ z : Nat, (z : Int) ∈ l ∧ z < 2 ^ n ∧ Sb z a := by
  apply Classical.byContradiction
  intro hno
  have hc : 2 ^ n - (a + 1) < 2 ^ n := by have := Nat.two_pow_pos n; omega
  have hcm : l.any (disI ((2 ^ n - (a + 1) : Nat) : Int)) = false := by
    rw [any_false]
    intro z hz
    obtain ⟨b, rfl, hb⟩ := h z hz
    rw [disI_nat (Bel.le hn hc) (Bel.le hn hb)]
    have hns : ¬ Sb b a := fun hs => hno ⟨b, hz, hb, hs⟩
    unfold Sb at hns
    simp only [Classical.not_forall] at hns
    obtain ⟨i, hi, hni⟩ := hns
    refine ⟨i, ?_, hi⟩
    rw [compl_bit ha]
    have hin : i < n := by
      rcases Nat.lt_or_ge i n with h2 | h2
      · exact h2
      · have h3 : 2 ^ n ≤ 2 ^ i := Nat.pow_le_pow_right (by omega) h2
        rw [Nat.testBit_lt_two_pow (show b < 2 ^ i by omega)] at hi
        cases hi
    simp [hin, hni]
  obtain ⟨b, hb, hbl, hs⟩ := meet_cover hn h hc hcm
  rw [any_false] at hd
  obtain ⟨i, h1, h2⟩ := (disI_nat (Bel.le hn ha) (Bel.le hn hbl)).1 (hd _ hb)
  have := hs i h2
  rw [compl_bit ha, h1] at this
  simp at this
theorem meet_meets {n : Nat} (hn : n ≤ 10) {l : List Int} (h : Bel n l) {z : Nat} (hz : (z : Int) ∈ l) (hzn : z < 2 ^ n) : (meetS l n).any (disI z) = false := by
  rw [any_false]
  intro x hx
  obtain ⟨a, rfl, ha, hd, _⟩ := (mem_meetS hn h).1 hx
  rw [any_false] at hd
  have := (disI_nat (Bel.le hn ha) (Bel.le hn hzn)).1 (hd _ hz)
  exact (disI_nat (Bel.le hn hzn) (Bel.le hn ha)).2 this.symm
/-- The least sets that meet the least meeting sets are the least sets. -/
theorem meet_meet {n : Nat} (hn : n ≤ 10) {l : List Int} (h : Bel n l) : meetS (meetS l n) n = leastS l := by
  have hm := bel_meet hn h
  refine cmpS_ext (leastS_strict _) (leastS_strict _) fun x => ?_
  change x ∈ meetS (meetS l n) n ↔ _
  rw [mem_meetS hn hm, mem_leastS]
  constructor
  · rintro ⟨a, rfl, ha, hd, hmin⟩
    obtain ⟨z, hz, hzn, hs⟩ := meet_back hn h ha hd
    have e := hmin z hzn (meet_meets hn h hz hzn) hs
    subst e
    refine ⟨hz, nat_validB (Bel.le hn ha), fun y hy hv hs2 => ?_⟩
    obtain ⟨b, rfl, hb⟩ := h y hy
    rw [hmin b hb (meet_meets hn h hy hb) ((subI_sb (Bel.le hn hb)).1 hs2)]
  · rintro ⟨h1, h2, h3⟩
    obtain ⟨a, rfl, ha⟩ := h x h1
    refine ⟨a, rfl, ha, meet_meets hn h h1 ha, fun b hb hbd hs => ?_⟩
    obtain ⟨z, hz, hzn, hzs⟩ := meet_back hn h hb hbd
    have e := h3 (z : Int) hz (nat_validB (Bel.le hn hzn)) ((subI_sb (Bel.le hn hzn)).2 (hzs.trans hs))
    have e2 : z = a := by omega
    subst e2
    exact hs.antisymm hzs
theorem sub_xor : ∀ (a : Fin 1024) (k : Fin 10), a.val.testBit k.val = true → a.val - 2 ^ k.val = a.val ^^^ 2 ^ k.val := by decide +kernel
/-- No node can be left out. -/
theorem meet_less {n : Nat} (hn : n ≤ 10) {l : List Int} (h : Bel n l) {a k : Nat} (hx : (a : Int) ∈ meetS l n) (hk : a.testBit k = true) : l.any (disI ((a - 2 ^ k : Nat) : Int)) = true := by
  obtain ⟨a', e, ha, hd, hmin⟩ := (mem_meetS hn h).1 hx
  have e2 : a' = a := by omega
  subst e2
  have hge : 2 ^ k ≤ a' := Nat.ge_two_pow_of_testBit hk
  have hp := Nat.two_pow_pos k
  cases hq : l.any (disI ((a' - 2 ^ k : Nat) : Int))
  · have hs : Sb (a' - 2 ^ k) a' := by
      intro i hi
      have e3 : a' - 2 ^ k = a' ^^^ 2 ^ k := sub_xor ⟨a', by have := Bel.le hn ha; omega⟩ ⟨k, bit_lt10 (Bel.le hn ha) hk⟩ hk
      rw [e3, Nat.testBit_xor] at hi
      rw [Nat.testBit_two_pow] at hi
      by_cases e4 : k = i
      · subst e4; exact hk
      · simpa [e4] using hi
    have := hmin _ (by omega) hq hs
    omega
  · rfl
end Go.Proofs.Ytidnnjgiogklaaa

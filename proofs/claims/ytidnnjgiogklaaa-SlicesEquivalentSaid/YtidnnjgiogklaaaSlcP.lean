/- The sets that satisfy a trust: slices and blocking sets, plain. -/
import Derived.Test.YtidnnjgiogklaaaMeetQ
namespace Go.Proofs.Ytidnnjgiogklaaa
open Go.RowKit

theorem hasB_at {a : Nat} (ha : a ≤ 1023) (k : Int) : hasB a k = (decide (0 ≤ k ∧ k < 10) && a.testBit k.toNat) := by
  simp [hasB, nat_validB ha]
theorem hasB_mono {a b : Nat} (ha : a ≤ 1023) (hb : b ≤ 1023) (h : Sb a b) (k : Int) (hk : hasB a k = true) : hasB b k = true := by
  rw [hasB_at ha] at hk
  rw [hasB_at hb]
  simp only [Bool.and_eq_true] at *
  exact ⟨hk.1, h _ hk.2⟩
theorem cntN_mono {a b : Nat} (ha : a ≤ 1023) (hb : b ≤ 1023) (h : Sb a b) (l : List Int) : cntN a l ≤ cntN b l :=
  List.countP_mono_left fun x _ hx => hasB_mono ha hb h x hx
mutual
theorem sat_mono {a b : Nat} (ha : a ≤ 1023) (hb : b ≤ 1023) (h : Sb a b) : ∀ t : Tr, sat a t = true → sat b t = true
  | .mk thr nodes inner, hs => by
    simp only [sat, Bool.and_eq_true, decide_eq_true_eq] at hs ⊢
    have h1 := cntN_mono ha hb h nodes
    have h2 := cntI_mono ha hb h inner
    exact ⟨nat_validB hb, by omega⟩
theorem cntI_mono {a b : Nat} (ha : a ≤ 1023) (hb : b ≤ 1023) (h : Sb a b) : ∀ l : List Tr, cntI a l ≤ cntI b l
  | [] => by simp [cntI]
  | x :: r => by
    have h1 := cntI_mono ha hb h r
    have h2 := sat_mono ha hb h x
    simp only [cntI]
    cases hx : sat a x
    · simp only [Bool.false_eq_true, if_false]; split <;> omega
    · rw [h2 hx]; simp only [if_true]; omega
end
theorem check_parts {thr : Int} {nodes : List Int} {inner : List Tr} (h : checkE (.mk thr nodes inner) = 0) : 1 ≤ thr ∧ thr ≤ ((nodes.length + inner.length : Nat) : Int) ∧ (∀ x ∈ nodes, 0 ≤ x ∧ x < 10) ∧ (ofS nodes 0).2 = 0 ∧ checkL inner = 0 := by
  simp only [checkE] at h
  by_cases h1 : thr < 1 ∨ ((nodes.length + inner.length : Nat) : Int) < thr
  · rw [if_pos h1] at h; cases h
  · rw [if_neg h1] at h
    by_cases h2 : nodes.any (fun k => decide (k < 0 ∨ 10 ≤ k)) = true
    · rw [if_pos h2] at h; cases h
    · rw [if_neg h2] at h
      by_cases h3 : (ofS nodes 0).2 ≠ 0
      · rw [if_pos h3] at h; exact absurd h h3
      · rw [if_neg h3] at h
        refine ⟨by omega, by omega, fun x hx => ?_, by simpa using h3, h⟩
        have h4 : ¬ (x < 0 ∨ 10 ≤ x) := by
          intro hc
          apply h2
          rw [List.any_eq_true]
          exact ⟨x, hx, by simpa using hc⟩
        exact ⟨by omega, by omega⟩
theorem checkL_parts {x : Tr} {r : List Tr} (h : checkL (x :: r) = 0) : checkE x = 0 ∧ checkL r = 0 := by
  simp only [checkL] at h
  by_cases h1 : checkE x ≠ 0
  · rw [if_pos h1] at h; exact absurd h h1
  · rw [if_neg h1] at h; exact ⟨by simpa using h1, h⟩
theorem bits_all : ∀ i : Fin 10, (1023 : Nat).testBit i.val = true := by decide
mutual
theorem sat_full : ∀ t : Tr, checkE t = 0 → sat ((1023 : Nat) : Int) t = true
  | .mk thr nodes inner, h => by
    obtain ⟨h1, h2, h3, _, h5⟩ := check_parts h
    have e1 : cntN ((1023 : Nat) : Int) nodes = nodes.length := by
      unfold cntN
      rw [List.countP_eq_length]
      intro x hx
      obtain ⟨x0, x1⟩ := h3 x hx
      rw [hasB_at (by omega)]
      obtain ⟨n, rfl⟩ := Int.eq_ofNat_of_zero_le x0
      have := bits_all ⟨n, by omega⟩
      simp only [Int.toNat_natCast, Bool.and_eq_true, decide_eq_true_eq]
      exact ⟨⟨x0, x1⟩, this⟩
    have e2 := cntI_full inner h5
    simp only [sat, Bool.and_eq_true, decide_eq_true_eq]
    rw [e1, e2]
    exact ⟨nat_validB (by omega), h2⟩
theorem cntI_full : ∀ l : List Tr, checkL l = 0 → cntI ((1023 : Nat) : Int) l = l.length
  | [], _ => by simp [cntI]
  | x :: r, h => by
    obtain ⟨h1, h2⟩ := checkL_parts h
    have e1 := sat_full x h1
    have e2 := cntI_full r h2
    simp only [cntI, List.length_cons]
    rw [e1, e2]
    simp only [if_true]
    omega
end
mutual
theorem sat_zero : ∀ t : Tr, checkE t = 0 → sat ((0 : Nat) : Int) t = false
  | .mk thr nodes inner, h => by
    obtain ⟨h1, h2, h3, _, h5⟩ := check_parts h
    have e1 : cntN ((0 : Nat) : Int) nodes = 0 := by
      unfold cntN
      rw [List.countP_eq_zero]
      intro x hx
      rw [hasB_at (by omega)]
      simp
    have e2 := cntI_zero inner h5
    simp only [sat]
    rw [e1, e2, Bool.and_eq_false_iff]
    right
    rw [decide_eq_false_iff_not]
    omega
theorem cntI_zero : ∀ l : List Tr, checkL l = 0 → cntI ((0 : Nat) : Int) l = 0
  | [], _ => by simp [cntI]
  | x :: r, h => by
    obtain ⟨h1, h2⟩ := checkL_parts h
    have e1 := sat_zero x h1
    have e2 := cntI_zero r h2
    simp only [cntI]
    rw [e1, e2]
    simp
end
mutual
/-- Whether a set satisfies a trust is told by the trust's own nodes. -/
theorem sat_bits {a b n : Nat} (ha : a ≤ 1023) (hb : b ≤ 1023) (h : ∀ i, i < n → a.testBit i = b.testBit i) : ∀ t : Tr, nodesIn n t → sat a t = sat b t
  | .mk thr nodes inner, hn => by
    simp only [nodesIn] at hn
    have e1 : cntN (a : Int) nodes = cntN (b : Int) nodes := by
      unfold cntN
      refine List.countP_congr fun x hx => ?_
      obtain ⟨x0, x1⟩ := hn.1 x hx
      rw [hasB_at ha, hasB_at hb, h x.toNat (by omega)]
    have e2 := cntI_bits ha hb h inner hn.2
    simp only [sat]
    rw [e1, e2, nat_validB ha, nat_validB hb]
theorem cntI_bits {a b n : Nat} (ha : a ≤ 1023) (hb : b ≤ 1023) (h : ∀ i, i < n → a.testBit i = b.testBit i) : ∀ l : List Tr, nodesInL n l → cntI (a : Int) l = cntI (b : Int) l
  | [], _ => by simp [cntI]
  | x :: r, hn => by
    simp only [nodesInL] at hn
    have e1 := sat_bits ha hb h x hn.1
    have e2 := cntI_bits ha hb h r hn.2
    simp only [cntI]
    rw [e1, e2]
end

/-- Does a set block a trust? -/
def blkB (s : Int) (t : Tr) : Bool := validB s && !sat (1023 - s) t
theorem blkB_nat {a : Nat} (ha : a ≤ 1023) (t : Tr) : blkB a t = !sat ((1023 - a : Nat) : Int) t := by
  have e : (1023 : Int) - a = ((1023 - a : Nat) : Int) := by omega
  simp [blkB, nat_validB ha, e]
/-- A list of all sets. -/
def AllS (L : List Int) : Prop := ∀ x : Int, x ∈ L ↔ validB x = true
def slcS (L : List Int) (t : Tr) : List Int := leastS (L.filter fun s => sat s t)
def blcS (L : List Int) (t : Tr) : List Int := leastS (L.filter fun s => blkB s t)
theorem sat_valid {s : Int} {t : Tr} (h : sat s t = true) : validB s = true := by
  obtain ⟨thr, nodes, inner⟩ := t
  simp only [sat, Bool.and_eq_true] at h
  exact h.1
theorem slc_mem {L : List Int} (hL : AllS L) {t : Tr} {x : Int} (h : x ∈ slcS L t) : ∃ a : Nat, x = a ∧ a ≤ 1023 ∧ sat a t = true := by
  have h1 := leastS_mem h
  obtain ⟨a, rfl, ha⟩ := validB_nat h1.2
  exact ⟨a, rfl, ha, by simpa using (List.mem_filter.1 h1.1).2⟩
theorem slc_cover {L : List Int} (hL : AllS L) {t : Tr} {a : Nat} (ha : a ≤ 1023) (h : sat a t = true) : ∃ z : Nat, (z : Int) ∈ slcS L t ∧ z ≤ 1023 ∧ Sb z a := by
  obtain ⟨x, hx, hs⟩ := leastS_cover (l := L.filter fun s => sat s t) (x := (a : Int)) (List.mem_filter.2 ⟨(hL _).2 (nat_validB ha), h⟩) (nat_validB ha)
  obtain ⟨z, rfl, hz⟩ := validB_nat (leastS_mem hx).2
  exact ⟨z, hx, hz, (subI_sb hz).1 hs⟩
/-- A set satisfies a trust exactly if it has a slice as a subset. -/
theorem slc_has {L : List Int} (hL : AllS L) {t : Tr} {a : Nat} (ha : a ≤ 1023) : sat a t = true ↔ ∃ z : Nat, (z : Int) ∈ slcS L t ∧ z ≤ 1023 ∧ Sb z a := by
  constructor
  · exact slc_cover hL ha
  · rintro ⟨z, hz, hz2, hs⟩
    obtain ⟨z', e, _, h⟩ := slc_mem hL hz
    obtain rfl : z = z' := by omega
    exact sat_mono hz2 ha hs t h
theorem compl_sb {a z : Nat} (ha : a ≤ 1023) (hz : z ≤ 1023) : Sb z (1023 - a) ↔ ¬ Mt a z := by
  have hb : ∀ i, (1023 - a).testBit i = (decide (i < 10) && !a.testBit i) := fun i => by
    have := compl_bit (n := 10) (a := a) (by omega) i
    rw [← this]
    congr 1
    omega
  constructor
  · rintro h ⟨i, h1, h2⟩
    have := h i h2
    rw [hb, h1] at this
    simp at this
  · intro h i hi
    rw [hb]
    have h1 := bit_lt10 hz hi
    cases hc : a.testBit i
    · simp [h1]
    · exact absurd ⟨i, hc, hi⟩ h
/-- A set blocks a trust exactly if it meets all slices. -/
theorem slc_meets {L : List Int} (hL : AllS L) {t : Tr} {a : Nat} (ha : a ≤ 1023) : blkB a t = true ↔ ∀ z : Nat, (z : Int) ∈ slcS L t → Mt a z := by
  rw [blkB_nat ha, Bool.not_eq_true']
  constructor
  · intro h z hz
    apply Classical.byContradiction
    intro hm
    obtain ⟨z', e, hz2, hs⟩ := slc_mem hL hz
    obtain rfl : z = z' := by omega
    rw [sat_mono hz2 (by omega) ((compl_sb ha hz2).2 hm) t hs] at h
    cases h
  · intro h
    cases hc : sat ((1023 - a : Nat) : Int) t
    · rfl
    · obtain ⟨z, hz, hz2, hs⟩ := slc_cover hL (by omega) hc
      exact absurd (h z hz) ((compl_sb ha hz2).1 hs)
theorem slc_ne {L : List Int} (hL : AllS L) {t : Tr} (h : checkE t = 0) : slcS L t ≠ [] := by
  obtain ⟨z, hz, _⟩ := slc_cover hL (a := 1023) (by omega) (sat_full t h)
  intro e
  rw [e] at hz
  cases hz

theorem mask_bits (n a i : Nat) (h : i < n) : (a % 2 ^ n).testBit i = a.testBit i := by
  rw [Nat.testBit_mod_two_pow]
  simp [h]
theorem mask_sb (n a : Nat) : Sb (a % 2 ^ n) a := fun i h => by
  rw [Nat.testBit_mod_two_pow] at h
  simp only [Bool.and_eq_true] at h
  exact h.2
theorem mask_le (n a : Nat) : a % 2 ^ n ≤ a := Nat.mod_le _ _
theorem slc_bel {L : List Int} (hL : AllS L) {t : Tr} {n : Nat} (hn : n ≤ 10) (ht : nodesIn n t) : Bel n (slcS L t) := fun x hx => by
  have h0 := mem_leastS.1 hx
  obtain ⟨a, rfl, ha, hs⟩ := slc_mem hL hx
  have hm := mask_le n a
  have h1 : sat ((a % 2 ^ n : Nat) : Int) t = true := by rw [sat_bits (by omega) ha (fun i hi => mask_bits n a i hi) t ht]; exact hs
  have h2 := h0.2.2 ((a % 2 ^ n : Nat) : Int) (List.mem_filter.2 ⟨(hL _).2 (nat_validB (by omega)), h1⟩) (nat_validB (by omega)) ((subI_sb (by omega)).2 (mask_sb n a))
  have e : a % 2 ^ n = a := by omega
  exact ⟨a, rfl, by rw [← e]; exact Nat.mod_lt _ (Nat.two_pow_pos n)⟩
theorem compl_bits {a b n : Nat} (ha : a ≤ 1023) (hb : b ≤ 1023) (h : ∀ i, i < n → a.testBit i = b.testBit i) : ∀ i, i < n → (1023 - a).testBit i = (1023 - b).testBit i := fun i hi => by
  have h1 := compl_bit (n := 10) (a := a) (by omega) i
  have h2 := compl_bit (n := 10) (a := b) (by omega) i
  rw [show (2 : Nat) ^ 10 - (a + 1) = 1023 - a by omega] at h1
  rw [show (2 : Nat) ^ 10 - (b + 1) = 1023 - b by omega] at h2
  rw [h1, h2, h i hi]
theorem blk_mask {t : Tr} {n a : Nat} (ha : a ≤ 1023) (ht : nodesIn n t) : blkB ((a % 2 ^ n : Nat) : Int) t = blkB a t := by
  have hm := mask_le n a
  rw [blkB_nat (by omega), blkB_nat ha, sat_bits (n := n) (by omega) (by omega) (compl_bits (by omega) ha (fun i hi => mask_bits n a i hi)) t ht]
theorem mem_blc {L : List Int} (hL : AllS L) {t : Tr} {x : Int} : x ∈ blcS L t ↔ ∃ a : Nat, x = a ∧ a ≤ 1023 ∧ blkB a t = true ∧ ∀ b : Nat, b ≤ 1023 → blkB b t = true → Sb b a → b = a := by
  unfold blcS
  rw [mem_leastS]
  constructor
  · rintro ⟨h1, h2, h3⟩
    obtain ⟨a, rfl, ha⟩ := validB_nat h2
    refine ⟨a, rfl, ha, by simpa using (List.mem_filter.1 h1).2, fun b hb hbb hs => ?_⟩
    have := h3 (b : Int) (List.mem_filter.2 ⟨(hL _).2 (nat_validB hb), hbb⟩) (nat_validB hb) ((subI_sb hb).2 hs)
    omega
  · rintro ⟨a, rfl, ha, hb, hmin⟩
    refine ⟨List.mem_filter.2 ⟨(hL _).2 (nat_validB ha), hb⟩, nat_validB ha, fun y hy hv hs => ?_⟩
    obtain ⟨b, rfl, hb2⟩ := validB_nat hv
    rw [hmin b hb2 (by simpa using (List.mem_filter.1 hy).2) ((subI_sb hb2).1 hs)]
theorem any_mt {L : List Int} (hL : AllS L) {t : Tr} {a : Nat} (ha : a ≤ 1023) : (slcS L t).any (disI a) = false ↔ blkB a t = true := by
  rw [slc_meets hL ha, any_false]
  constructor
  · intro h z hz
    obtain ⟨z', e, hz2, _⟩ := slc_mem hL hz
    obtain rfl : z = z' := by omega
    exact (disI_nat ha hz2).1 (h z hz)
  · intro h x hx
    obtain ⟨z, rfl, hz2, _⟩ := slc_mem hL hx
    exact (disI_nat ha hz2).2 (h z hx)
/-- The blocking sets are the least sets that meet all slices. -/
theorem blc_meet {L : List Int} (hL : AllS L) {t : Tr} {n : Nat} (hn : n ≤ 10) (ht : nodesIn n t) : meetS (slcS L t) n = blcS L t := by
  have hB := slc_bel hL hn ht
  refine cmpS_ext (leastS_strict _) (leastS_strict _) fun x => ?_
  change x ∈ meetS (slcS L t) n ↔ x ∈ blcS L t
  rw [mem_meetS hn hB, mem_blc hL]
  constructor
  · rintro ⟨a, rfl, ha, hd, hmin⟩
    have ha2 := Bel.le hn ha
    refine ⟨a, rfl, ha2, (any_mt hL ha2).1 hd, fun b hb hbb hs => ?_⟩
    have hm := mask_le n b
    have h1 := hmin (b % 2 ^ n) (Nat.mod_lt _ (Nat.two_pow_pos n)) ((any_mt hL (by omega)).2 (by rw [blk_mask hb ht]; exact hbb)) ((mask_sb n b).trans hs)
    refine Sb.antisymm hs ?_
    rw [← h1]
    exact mask_sb n b
  · rintro ⟨a, rfl, ha, hd, hmin⟩
    have hm := mask_le n a
    have h1 := hmin (a % 2 ^ n) (by omega) (by rw [blk_mask ha ht]; exact hd) (mask_sb n a)
    have hlt : a < 2 ^ n := by rw [← h1]; exact Nat.mod_lt _ (Nat.two_pow_pos n)
    refine ⟨a, rfl, hlt, (any_mt hL ha).2 hd, fun b hb hdb hs => ?_⟩
    have hb2 := Bel.le hn hb
    exact hmin b hb2 ((any_mt hL hb2).1 hdb) hs
/-- The slices are the least sets that meet all blocking sets. -/
theorem slc_meet {L : List Int} (hL : AllS L) {t : Tr} {n : Nat} (hn : n ≤ 10) (ht : nodesIn n t) : meetS (blcS L t) n = slcS L t := by
  rw [← blc_meet hL hn ht, meet_meet hn (slc_bel hL hn ht)]
  refine leastS_ext fun x => ?_
  rw [mem_leastS]
  constructor
  · rintro ⟨h1, _⟩; exact h1
  · intro h
    exact ⟨h, (leastS_mem h).2, fun y hy _ hs => leastS_anti hy h hs⟩
end Go.Proofs.Ytidnnjgiogklaaa

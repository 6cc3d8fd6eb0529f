/- Some texts of this claim, joined: contracts of the functions that it reaches, and plain laws. -/
import Derived.Test.YtpdhckbiioobhaaGreatJS5
import Derived.Test.YtpdhckbiioobhaaGreatProg
import Derived.Test.YtpdhckbiioobhaaGreatJS1
import Derived.Test.YtpdhckbiioobhaaGreatJS4
import Derived.Test.YtpdhckbiioobhaaGreatJS3

set_option linter.unusedSimpArgs false
set_option linter.unusedVariables false
/- The sets that satisfy a trust: slices and blocking sets, plain. -/
namespace Go.Proofs.YtpdhckbiioobhaaGreat
open Go.RowKit

theorem hasB_at {a : Nat} (ha : a ≤ 1023) (k : Int) : hasB a k = (decide (0 ≤ k ∧ k < 10) && a.testBit k.toNat) := by
  simp [hasB, nat_validB ha]
theorem hasB_mono {a b : Nat} (ha : a ≤ 1023) (hb : b ≤ 1023) (h : Sb a b) (k : Int) (hk : hasB a k = true) : hasB b k = true := by
  rw [hasB_at ha] at hk
  rw [hasB_at hb]
  simp only [Bool.and_eq_true] at *
  exact ⟨hk.1, h _ hk.2⟩
theorem cntN_mono {a b : Nat} (ha : a ≤ 1023) (hb : b ≤ 1023) (h : Sb a b) (l : List Int) : cntN a l ≤ cntN b l :=
  List.countP_mono_left fun x _ hx => hasB_mono ha hb h x hx
mutual
theorem sat_mono {a b : Nat} (ha : a ≤ 1023) (hb : b ≤ 1023) (h : Sb a b) : ∀ t : Tr, sat a t = true → sat b t = true
  | .mk thr nodes inner, hs => by
    simp only [sat, Bool.and_eq_true, decide_eq_true_eq] at hs ⊢
    have h1 := cntN_mono ha hb h nodes
    have h2 := cntI_mono ha hb h inner
    exact ⟨nat_validB hb, by omega⟩
theorem cntI_mono {a b : Nat} (ha : a ≤ 1023) (hb : b ≤ 1023) (h : Sb a b) : ∀ l : List Tr, cntI a l ≤ cntI b l
  | [] => by simp [cntI]
  | x :: r => by
    have h1 := cntI_mono ha hb h r
    have h2 := sat_mono ha hb h x
    simp only [cntI]
    cases hx : sat a x
    · simp only [Bool.false_eq_true, if_false]; split <;> omega
    · rw [h2 hx]; simp only [if_true]; omega
end
theorem check_parts {thr : Int} {nodes : List Int} {inner : List Tr} (h : checkE (.mk thr nodes inner) = 0) : 1 ≤ thr ∧ thr ≤ ((nodes.length + inner.length : Nat) : Int) ∧ (∀ x ∈ nodes, 0 ≤ x ∧ x < 10) ∧ (ofS nodes 0).2 = 0 ∧ checkL inner = 0 := by
  simp only [checkE] at h
  by_cases h1 : thr < 1 ∨ ((nodes.length + inner.length : Nat) : Int) < thr
  · rw [if_pos h1] at h; cases h
  · rw [if_neg h1] at h
    by_cases h2 : nodes.any (fun k => decide (k < 0 ∨ 10 ≤ k)) = true
    · rw [if_pos h2] at h; cases h
    · rw [if_neg h2] at h
      by_cases h3 : (ofS nodes 0).2 ≠ 0
      · rw [if_pos h3] at h; exact absurd h h3
      · rw [if_neg h3] at h
        refine ⟨by omega, by omega, fun x hx => ?_, by simpa using h3, h⟩
        have h4 : ¬ (x < 0 ∨ 10 ≤ x) := by
          intro hc
          apply h2
          rw [List.any_eq_true]
          exact ⟨x, hx, by simpa using hc⟩
        exact ⟨by omega, by omega⟩
theorem checkL_parts {x : Tr} {r : List Tr} (h : checkL (x :: r) = 0) : checkE x = 0 ∧ checkL r = 0 := by
  simp only [checkL] at h
  by_cases h1 : checkE x ≠ 0
  · rw [if_pos h1] at h; exact absurd h h1
  · rw [if_neg h1] at h; exact ⟨by simpa using h1, h⟩
theorem bits_all : ∀ i : Fin 10, (1023 : Nat).testBit i.val = true := by decide
mutual
theorem sat_full : ∀ t : Tr, checkE t = 0 → sat ((1023 : Nat) : Int) t = true
  | .mk thr nodes inner, h => by
    obtain ⟨h1, h2, h3, _, h5⟩ := check_parts h
    have e1 : cntN ((1023 : Nat) : Int) nodes = nodes.length := by
      unfold cntN
      rw [List.countP_eq_length]
      intro x hx
      obtain ⟨x0, x1⟩ := h3 x hx
      rw [hasB_at (by omega)]
      obtain ⟨n, rfl⟩ := Int.eq_ofNat_of_zero_le x0
      have := bits_all ⟨n, by omega⟩
      simp only [Int.toNat_natCast, Bool.and_eq_true, decide_eq_true_eq]
      exact ⟨⟨x0, x1⟩, this⟩
    have e2 := cntI_full inner h5
    simp only [sat, Bool.and_eq_true, decide_eq_true_eq]
    rw [e1, e2]
    exact ⟨nat_validB (by omega), h2⟩
theorem cntI_full : ∀ l : List Tr, checkL l = 0 → cntI ((1023 : Nat) : Int) l = l.length
  | [], _ => by simp [cntI]
  | x :: r, h => by
    obtain ⟨h1, h2⟩ := checkL_parts h
    have e1 := sat_full x h1
    have e2 := cntI_full r h2
    simp only [cntI, List.length_cons]
    rw [e1, e2]
    simp only [if_true]
    omega
end
mutual
theorem sat_zero : ∀ t : Tr, checkE t = 0 → sat ((0 : Nat) : Int) t = false
  | .mk thr nodes inner, h => by
    obtain ⟨h1, h2, h3, _, h5⟩ := check_parts h
    have e1 : cntN ((0 : Nat) : Int) nodes = 0 := by
      unfold cntN
      rw [List.countP_eq_zero]
      intro x hx
      rw [hasB_at (by omega)]
      simp
    have e2 := cntI_zero inner h5
    simp only [sat]
    rw [e1, e2, Bool.and_eq_false_iff]
    right
    rw [decide_eq_false_iff_not]
    omega
theorem cntI_zero : ∀ l : List Tr, checkL l = 0 → cntI ((0 : Nat) : Int) l = 0
  | [], _ => by simp [cntI]
  | x :: r, h => by
    obtain ⟨h1, h2⟩ := checkL_parts h
    have e1 := sat_zero x h1
    have e2 := cntI_zero r h2
    simp only [cntI]
    rw [e1, e2]
    simp
end
mutual
/-- Whether a set satisfies a trust is told by the trust's own nodes. -/
theorem sat_bits {a b n : Nat} (ha : a ≤ 1023) (hb : b ≤ 1023) (h : ∀ i, i < n → a.testBit i = b.testBit i) : ∀ t : Tr, nodesIn n t → sat a t = sat b t
  | .mk thr nodes inner, hn => by
    simp only [nodesIn] at hn
    have e1 : cntN (a : Int) nodes = cntN (b : Int) nodes := by
      unfold cntN
      refine List.countP_congr fun x hx => ?_
      obtain ⟨x0, x1⟩ := hn.1 x hx
      rw [hasB_at ha, hasB_at hb, h x.toNat (by omega)]
    have e2 := cntI_bits ha hb h inner hn.2
    simp only [sat]
    rw [e1, e2, nat_validB ha, nat_validB hb]
theorem cntI_bits {a b n : Nat} (ha : a ≤ 1023) (hb : b ≤ 1023) (h : ∀ i, i < n → a.testBit i = b.testBit i) : ∀ l : List Tr, nodesInL n l → cntI (a : Int) l = cntI (b : Int) l
  | [], _ => by simp [cntI]
  | x :: r, hn => by
    simp only [nodesInL] at hn
    have e1 := sat_bits ha hb h x hn.1
    have e2 := cntI_bits ha hb h r hn.2
    simp only [cntI]
    rw [e1, e2]
end

/-- Does a set block a trust? -/
def blkB (s : Int) (t : Tr) : Bool := validB s && !sat (1023 - s) t
theorem blkB_nat {a : Nat} (ha : a ≤ 1023) (t : Tr) : blkB a t = !sat ((1023 - a : Nat) : Int) t := by
  have e : (1023 : Int) - a = ((1023 - a : Nat) : Int) := by omega
  simp [blkB, nat_validB ha, e]
/-- A list of all sets. -/
def AllS (L : List Int) : Prop := ∀ x : Int, x ∈ L ↔ validB x = true
def slcS (L : List Int) (t : Tr) : List Int := leastS (L.filter fun s => sat s t)
def blcS (L : List Int) (t : Tr) : List Int := leastS (L.filter fun s => blkB s t)
theorem sat_valid {s : Int} {t : Tr} (h : sat s t = true) : validB s = true := by
  obtain ⟨thr, nodes, inner⟩ := t
  simp only [sat, Bool.and_eq_true] at h
  exact h.1
theorem slc_mem {L : List Int} (hL : AllS L) {t : Tr} {x : Int} (h : x ∈ slcS L t) : ∃ a : Nat, x = a ∧ a ≤ 1023 ∧ sat a t = true := by
  have h1 := leastS_mem h
  obtain ⟨a, rfl, ha⟩ := validB_nat h1.2
  exact ⟨a, rfl, ha, by simpa using (List.mem_filter.1 h1.1).2⟩
theorem slc_cover {L : List Int} (hL : AllS L) {t : Tr} {a : Nat} (ha : a ≤ 1023) (h : sat a t = true) : ∃ z : Nat, (z : Int) ∈ slcS L t ∧ z ≤ 1023 ∧ Sb z a := by
  obtain ⟨x, hx, hs⟩ := leastS_cover (l := L.filter fun s => sat s t) (x := (a : Int)) (List.mem_filter.2 ⟨(hL _).2 (nat_validB ha), h⟩) (nat_validB ha)
  obtain ⟨z, rfl, hz⟩ := validB_nat (leastS_mem hx).2
  exact ⟨z, hx, hz, (subI_sb hz).1 hs⟩
/-- A set satisfies a trust exactly if it has a slice as a subset. -/
theorem slc_has {L : List Int} (hL : AllS L) {t : Tr} {a : Nat} (ha : a ≤ 1023) : sat a t = true ↔ ∃ z : Nat, (z : Int) ∈ slcS L t ∧ z ≤ 1023 ∧ Sb z a := by
  constructor
  · exact slc_cover hL ha
  · rintro ⟨z, hz, hz2, hs⟩
    obtain ⟨z', e, _, h⟩ := slc_mem hL hz
    obtain rfl : z = z' := by omega
    exact sat_mono hz2 ha hs t h
theorem compl_sb {a z : Nat} (ha : a ≤ 1023) (hz : z ≤ 1023) : Sb z (1023 - a) ↔ ¬ Mt a z := by
  have hb : ∀ i, (1023 - a).testBit i = (decide (i < 10) && !a.testBit i) := fun i => by
    have := compl_bit (n := 10) (a := a) (by omega) i
    rw [← this]
    congr 1
    omega
  constructor
  · rintro h ⟨i, h1, h2⟩
    have := h i h2
    rw [hb, h1] at this
    simp at this
  · intro h i hi
    rw [hb]
    have h1 := bit_lt10 hz hi
    cases hc : a.testBit i
    · simp [h1]
    · exact absurd ⟨i, hc, hi⟩ h
/-- A set blocks a trust exactly if it meets all slices. -/
theorem slc_meets {L : List Int} (hL : AllS L) {t : Tr} {a : Nat} (ha : a ≤ 1023) : blkB a t = true ↔ ∀ z : Nat, (z : Int) ∈ slcS L t → Mt a z := by
  rw [blkB_nat ha, Bool.not_eq_true']
  constructor
  · intro h z hz
    apply Classical.byContradiction
    intro hm
    obtain ⟨z', e, hz2, hs⟩ := slc_mem hL hz
    obtain rfl : z = z' := by omega
    rw [sat_mono hz2 (by omega) ((compl_sb ha hz2).2 hm) t hs] at h
    cases h
  · intro h
    cases hc : sat ((1023 - a : Nat) : Int) t
    · rfl
    · obtain ⟨z, hz, hz2, hs⟩ := slc_cover hL (by omega) hc
      exact absurd (h z hz) ((compl_sb ha hz2).1 hs)
theorem slc_ne {L : List Int} (hL : AllS L) {t : Tr} (h : checkE t = 0) : slcS L t ≠ [] := by
  obtain ⟨z, hz, _⟩ := slc_cover hL (a := 1023) (by omega) (sat_full t h)
  intro e
  rw [e] at hz
  cases hz

theorem mask_bits (n a i : Nat) (h : i < n) : (a % 2 ^ n).testBit i = a.testBit i := by
  rw [Nat.testBit_mod_two_pow]
  simp [h]
theorem mask_sb (n a : Nat) : Sb (a % 2 ^ n) a := fun i h => by
  rw [Nat.testBit_mod_two_pow] at h
  simp only [Bool.and_eq_true] at h
  exact h.2
theorem mask_le (n a : Nat) : a % 2 ^ n ≤ a := Nat.mod_le _ _
theorem slc_bel {L : List Int} (hL : AllS L) {t : Tr} {n : Nat} (hn : n ≤ 10) (ht : nodesIn n t) : Bel n (slcS L t) := fun x hx => by
  have h0 := mem_leastS.1 hx
  obtain ⟨a, rfl, ha, hs⟩ := slc_mem hL hx
  have hm := mask_le n a
  have h1 : sat ((a % 2 ^ n : Nat) : Int) t = true := by rw [sat_bits (by omega) ha (fun i hi => mask_bits n a i hi) t ht]; exact hs
  have h2 := h0.2.2 ((a % 2 ^ n : Nat) : Int) (List.mem_filter.2 ⟨(hL _).2 (nat_validB (by omega)), h1⟩) (nat_validB (by omega)) ((subI_sb (by omega)).2 (mask_sb n a))
  have e : a % 2 ^ n = a := by omega
  exact ⟨a, rfl, by rw [← e]; exact Nat.mod_lt _ (Nat.two_pow_pos n)⟩
theorem compl_bits {a b n : Nat} (ha : a ≤ 1023) (hb : b ≤ 1023) (h : ∀ i, i < n → a.testBit i = b.testBit i) : ∀ i, i < n → (1023 - a).testBit i = (1023 - b).testBit i := fun i hi => by
  have h1 := compl_bit (n := 10) (a := a) (by omega) i
  have h2 := compl_bit (n := 10) (a := b) (by omega) i
  rw [show (2 : Nat) ^ 10 - (a + 1) = 1023 - a by omega] at h1
  rw [show (2 : Nat) ^ 10 - (b + 1) = 1023 - b by omega] at h2
  rw [h1, h2, h i hi]
theorem blk_mask {t : Tr} {n a : Nat} (ha : a ≤ 1023) (ht : nodesIn n t) : blkB ((a % 2 ^ n : Nat) : Int) t = blkB a t := by
  have hm := mask_le n a
  rw [blkB_nat (by omega), blkB_nat ha, sat_bits (n := n) (by omega) (by omega) (compl_bits (by omega) ha (fun i hi => mask_bits n a i hi)) t ht]
theorem mem_blc {L : List Int} (hL : AllS L) {t : Tr} {x : Int} : x ∈ blcS L t ↔ ∃ a : Nat, x = a ∧ a ≤ 1023 ∧ blkB a t = true ∧ ∀ b : Nat, b ≤ 1023 → blkB b t = true → Sb b a → b = a := by
  unfold blcS
  rw [mem_leastS]
  constructor
  · rintro ⟨h1, h2, h3⟩
    obtain ⟨a, rfl, ha⟩ := validB_nat h2
    refine ⟨a, rfl, ha, by simpa using (List.mem_filter.1 h1).2, fun b hb hbb hs => ?_⟩
    have := h3 (b : Int) (List.mem_filter.2 ⟨(hL _).2 (nat_validB hb), hbb⟩) (nat_validB hb) ((subI_sb hb).2 hs)
    omega
  · rintro ⟨a, rfl, ha, hb, hmin⟩
    refine ⟨List.mem_filter.2 ⟨(hL _).2 (nat_validB ha), hb⟩, nat_validB ha, fun y hy hv hs => ?_⟩
    obtain ⟨b, rfl, hb2⟩ := validB_nat hv
    rw [hmin b hb2 (by simpa using (List.mem_filter.1 hy).2) ((subI_sb hb2).1 hs)]
theorem any_mt {L : List Int} (hL : AllS L) {t : Tr} {a : Nat} (ha : a ≤ 1023) : (slcS L t).any (disI a) = false ↔ blkB a t = true := by
  rw [slc_meets hL ha, any_false]
  constructor
  · intro h z hz
    obtain ⟨z', e, hz2, _⟩ := slc_mem hL hz
    obtain rfl : z = z' := by omega
    exact (disI_nat ha hz2).1 (h z hz)
  · intro h x hx
    obtain ⟨z, rfl, hz2, _⟩ := slc_mem hL hx
    exact (disI_nat ha hz2).2 (h z hx)
/-- The blocking sets are the least sets that meet all slices. -/
theorem blc_meet {L : List Int} (hL : AllS L) {t : Tr} {n : Nat} (hn : n ≤ 10) (ht : nodesIn n t) : meetS (slcS L t) n = blcS L t := by
  have hB := slc_bel hL hn ht
  refine cmpS_ext (leastS_strict _) (leastS_strict _) fun x => ?_
  change x ∈ meetS (slcS L t) n ↔ x ∈ blcS L t
  rw [mem_meetS hn hB, mem_blc hL]
  constructor
  · rintro ⟨a, rfl, ha, hd, hmin⟩
    have ha2 := Bel.le hn ha
    refine ⟨a, rfl, ha2, (any_mt hL ha2).1 hd, fun b hb hbb hs => ?_⟩
    have hm := mask_le n b
    have h1 := hmin (b % 2 ^ n) (Nat.mod_lt _ (Nat.two_pow_pos n)) ((any_mt hL (by omega)).2 (by rw [blk_mask hb ht]; exact hbb)) ((mask_sb n b).trans hs)
    refine Sb.antisymm hs ?_
    rw [← h1]
    exact mask_sb n b
  · rintro ⟨a, rfl, ha, hd, hmin⟩
    have hm := mask_le n a
    have h1 := hmin (a % 2 ^ n) (by omega) (by rw [blk_mask ha ht]; exact hd) (mask_sb n a)
    have hlt : a < 2 ^ n := by rw [← h1]; exact Nat.mod_lt _ (Nat.two_pow_pos n)
    refine ⟨a, rfl, hlt, (any_mt hL ha).2 hd, fun b hb hdb hs => ?_⟩
    have hb2 := Bel.le hn hb
    exact hmin b hb2 ((any_mt hL hb2).1 hdb) hs
/-- The slices are the least sets that meet all blocking sets. -/
theorem slc_meet {L : List Int} (hL : AllS L) {t : Tr} {n : Nat} (hn : n ≤ 10) (ht : nodesIn n t) : meetS (blcS L t) n = slcS L t := by
  rw [← blc_meet hL hn ht, meet_meet hn (slc_bel hL hn ht)]
  refine leastS_ext fun x => ?_
  rw [mem_leastS]
  constructor
  · rintro ⟨h1, _⟩; exact h1
  · intro h
    exact ⟨h, (leastS_mem h).2, fun y hy _ hs => leastS_anti hy h hs⟩
end Go.Proofs.YtpdhckbiioobhaaGreat

/- The law NodesetNext: why it holds (plain). -/
namespace Go.Proofs.YtpdhckbiioobhaaGreat
open Go.RowKit

/-- What the law sees from s on, with f steps to go. -/
def goN (m : Nat) : Nat → Nat → Bool
  | s, 0 => (nextR s m).2 == false && s == 2 ^ m - 1
  | s, f + 1 => (nextR s m).2 && decide ((nextR s m).1 < 2 ^ m) && cmpS (s : Int) ((nextR s m).1 : Int) == -1 && goN m (nextR s m).1 f
set_option maxRecDepth 100000 in
theorem goN_all : ∀ m : Fin 11, goN m.val 0 (2 ^ m.val - 1) = true := by decide +kernel

end Go.Proofs.YtpdhckbiioobhaaGreat

/- Walks over trusts: Size, Depth of the program and of the reference. By gen_tr.py. -/
namespace Go.Proofs.YtpdhckbiioobhaaGreat
open Go.RowKit

theorem max_if (a b : Nat) : (if a < b then (b : Int) else (a : Int)) = ((max a b : Nat) : Int) := by split <;> omega

theorem rsize_any (d : Nat) : ∀ (t : Tr) (v : Value) (w : World) (r : Option Nat), t.dep ≤ d → t.size ≤ 1073741824 → TrR w r v t →
    Calls Tryz.prog 73 #[v] w fun e w' => e = .returned (.int .i64 (t.size : Nat)) ∧ Fr none w w' := by
  induction d with
  | zero =>
    intro t v w r hd
    cases t
    simp [Tr.dep] at hd
  | succ d ih =>
    intro t v w r hd hs h
    obtain ⟨thr, nodes, inner⟩ := t
    obtain ⟨A, c, A', c', rfl, hthr, hn, hn2, hi2, hi3, hi4, hcell⟩ := h.open_
    go_enter Tryz.func73, Tryz.ntmps73
    go_wp2_with fail
    generalize hW : w.alloc _ = w1
    have F1 : Fr none w w1 := hW ▸ (Fr.refl _ _).alloc _
    have B1 : Hid (w1.heap[w.heap.size]? = some (.cells #[.int .i64 thr, .slice A nodes.length c, .slice A' inner.length c'] 29 (0, 0))) := by rw [← hW]; exact blk_new _ _
    clear hW
    have hs' : nodes.length + inner.length + sizeL inner ≤ 1073741824 := by simpa [Tr.size] using hs
    go_loopw [3, 16] (fun n i wr => Fr none w1 wr ∧ ∃ k : Nat, k ≤ inner.length ∧ i = .int .i64 k ∧ n = .int .i64 ((nodes.length + inner.length + sizeL (inner.take k) : Nat) : Int)) (fun _ i _ => inner.length - (intOf i).toNat)
    case atStart => exact ⟨Fr.refl _ _, 0, Nat.zero_le _, rfl, by simp [sizeL]⟩
    case round =>
      obtain ⟨F2, k, hk, rfl, rfl⟩ := hrel
      have hle := sizeL_take_le inner k
      by_cases hlt : k < inner.length
      · have ht := sizeL_take inner k hlt
        have hle2 := sizeL_take_le inner (k + 1)
        have hg := sizeL_get inner k hlt
        have HT := Lib.hid ht
        have hb1 : sizeL (inner.take k) + (inner[k]).size ≤ sizeL inner := by omega
        clear ht hle2
        obtain ⟨b, off, rfl, hb, hbr, hc⟩ := hcell (by omega)
        obtain ⟨x, y, z, g0, g1, g2, gt⟩ := hc k hlt
        obtain ⟨th, A1, n1, c1, A2, n2, c2, rfl, rfl, rfl⟩ := gt.shape
        have F3 := F1.pure F2
        have g0' := F3.keep g0 (by simp)
        have g1' := F3.keep g1 (by simp)
        have g2' := F3.keep g2 (by simp)
        have hdd : (inner[k]).dep ≤ d := by have := depL_get inner k hlt; simp only [Tr.dep] at hd; omega
        have gt' := (gt.fr (F3.mono (r := r)))
        clear g0 g1 g2
        go_wp2_with fail
        refine (ih inner[k] _ _ r hdd (by omega) (gt'.fr ((Fr.refl _ _).alloc _))).mono ?_
        rintro e w2 ⟨rfl, F4⟩
        have F5 := (F2.alloc _).pure F4
        clear g0' g1' g2' F4
        go_wp2_with fail
        go_roundw
        case rel => exact ⟨F5, k + 1, by omega, by go_num, by rw [HT.out]; go_num⟩
        case measure => simp [intOf]; omega
      · obtain rfl : k = inner.length := by omega
        go_wp2
        go_ret
        exact ⟨ret_int (by simp [Tr.size]), F1.pure F2⟩

theorem tsize_any (d : Nat) : ∀ (t : Tr) (v : Value) (w : World) (r : Option Nat), t.dep ≤ d → t.size ≤ 1073741824 → TrR w r v t →
    Calls Tryz.prog 68 #[v] w fun e w' => e = .returned (.int .i64 (t.size : Nat)) ∧ Fr none w w' := by
  induction d with
  | zero =>
    intro t v w r hd
    cases t
    simp [Tr.dep] at hd
  | succ d ih =>
    intro t v w r hd hs h
    obtain ⟨thr, nodes, inner⟩ := t
    obtain ⟨A, c, A', c', rfl, hthr, hn, hn2, hi2, hi3, hi4, hcell⟩ := h.open_
    go_enter Tryz.func68, Tryz.ntmps68
    go_wp2_with fail
    generalize hW : w.alloc _ = w1
    have F1 : Fr none w w1 := hW ▸ (Fr.refl _ _).alloc _
    have B1 : Hid (w1.heap[w.heap.size]? = some (.cells #[.int .i64 thr, .slice A nodes.length c, .slice A' inner.length c'] 29 (0, 0))) := by rw [← hW]; exact blk_new _ _
    clear hW
    have hs' : nodes.length + inner.length + sizeL inner ≤ 1073741824 := by simpa [Tr.size] using hs
    go_loopw [3, 16] (fun n i wr => Fr none w1 wr ∧ ∃ k : Nat, k ≤ inner.length ∧ i = .int .i64 k ∧ n = .int .i64 ((nodes.length + inner.length + sizeL (inner.take k) : Nat) : Int)) (fun _ i _ => inner.length - (intOf i).toNat)
    case atStart => exact ⟨Fr.refl _ _, 0, Nat.zero_le _, rfl, by simp [sizeL]⟩
    case round =>
      obtain ⟨F2, k, hk, rfl, rfl⟩ := hrel
      have hle := sizeL_take_le inner k
      by_cases hlt : k < inner.length
      · have ht := sizeL_take inner k hlt
        have hle2 := sizeL_take_le inner (k + 1)
        have hg := sizeL_get inner k hlt
        have HT := Lib.hid ht
        have hb1 : sizeL (inner.take k) + (inner[k]).size ≤ sizeL inner := by omega
        clear ht hle2
        obtain ⟨b, off, rfl, hb, hbr, hc⟩ := hcell (by omega)
        obtain ⟨x, y, z, g0, g1, g2, gt⟩ := hc k hlt
        obtain ⟨th, A1, n1, c1, A2, n2, c2, rfl, rfl, rfl⟩ := gt.shape
        have F3 := F1.pure F2
        have g0' := F3.keep g0 (by simp)
        have g1' := F3.keep g1 (by simp)
        have g2' := F3.keep g2 (by simp)
        have hdd : (inner[k]).dep ≤ d := by have := depL_get inner k hlt; simp only [Tr.dep] at hd; omega
        have gt' := (gt.fr (F3.mono (r := r)))
        clear g0 g1 g2
        go_wp2_with fail
        refine (ih inner[k] _ _ r hdd (by omega) (gt'.fr ((Fr.refl _ _).alloc _))).mono ?_
        rintro e w2 ⟨rfl, F4⟩
        have F5 := (F2.alloc _).pure F4
        clear g0' g1' g2' F4
        go_wp2_with fail
        go_roundw
        case rel => exact ⟨F5, k + 1, by omega, by go_num, by rw [HT.out]; go_num⟩
        case measure => simp [intOf]; omega
      · obtain rfl : k = inner.length := by omega
        go_wp2
        go_ret
        exact ⟨ret_int (by simp [Tr.size]), F1.pure F2⟩

theorem rdepth_any (d : Nat) : ∀ (t : Tr) (v : Value) (w : World) (r : Option Nat), t.dep ≤ d → d ≤ 1073741824 → TrR w r v t →
    Calls Tryz.prog 72 #[v] w fun e w' => e = .returned (.int .i64 (t.dep : Nat)) ∧ Fr none w w' := by
  induction d with
  | zero =>
    intro t v w r hd
    cases t
    simp [Tr.dep] at hd
  | succ d ih =>
    intro t v w r hd hs h
    obtain ⟨thr, nodes, inner⟩ := t
    obtain ⟨A, c, A', c', rfl, hthr, hn, hn2, hi2, hi3, hi4, hcell⟩ := h.open_
    go_enter Tryz.func72, Tryz.ntmps72
    go_wp2_with fail
    generalize hW : w.alloc _ = w1
    have F1 : Fr none w w1 := hW ▸ (Fr.refl _ _).alloc _
    have B1 : Hid (w1.heap[w.heap.size]? = some (.cells #[.int .i64 thr, .slice A nodes.length c, .slice A' inner.length c'] 29 (0, 0))) := by rw [← hW]; exact blk_new _ _
    clear hW
    have hd' : depL inner ≤ d := by simp only [Tr.dep] at hd; omega
    go_loopw [3, 9] (fun n i wr => Fr none w1 wr ∧ ∃ k : Nat, k ≤ inner.length ∧ i = .int .i64 k ∧ n = .int .i64 ((depL (inner.take k) : Nat) : Int)) (fun _ i _ => inner.length - (intOf i).toNat)
    case atStart => exact ⟨Fr.refl _ _, 0, Nat.zero_le _, rfl, by simp [depL]⟩
    case round =>
      obtain ⟨F2, k, hk, rfl, rfl⟩ := hrel
      by_cases hlt : k < inner.length
      · have HT := Lib.hid (depL_take inner k hlt)
        obtain ⟨b, off, rfl, hb, hbr, hc⟩ := hcell (by omega)
        obtain ⟨x, y, z, g0, g1, g2, gt⟩ := hc k hlt
        obtain ⟨th, A1, n1, c1, A2, n2, c2, rfl, rfl, rfl⟩ := gt.shape
        have F3 := F1.pure F2
        have g0' := F3.keep g0 (by simp)
        have g1' := F3.keep g1 (by simp)
        have g2' := F3.keep g2 (by simp)
        have hdd : (inner[k]).dep ≤ d := by have := depL_get inner k hlt; simp only [Tr.dep] at hd; omega
        have gt' := (gt.fr (F3.mono (r := r)))
        clear g0 g1 g2
        go_wp2_with fail
        refine (ih inner[k] _ _ r hdd (by omega) (gt'.fr ((Fr.refl _ _).alloc _))).mono ?_
        rintro e w2 ⟨rfl, F4⟩
        have F5 := (F2.alloc _).pure F4
        clear g0' g1' g2' F4
        go_wp2_with fail
        go_roundw
        case rel => exact ⟨F5, k + 1, by omega, by go_num, by (rw [HT.out, ← max_if]; try (congr 1; split <;> omega))⟩
        case measure => simp [intOf]; omega
      · obtain rfl : k = inner.length := by omega
        have hle : depL (inner.take inner.length) ≤ d := by rw [List.take_length]; exact hd'
        go_wp2
        go_ret
        exact ⟨ret_int (by simp [Tr.dep]), F1.pure F2⟩

theorem depth_any (d : Nat) : ∀ (t : Tr) (v : Value) (w : World) (r : Option Nat), t.dep ≤ d → d ≤ 1073741824 → TrR w r v t →
    Calls Tryz.prog 67 #[v] w fun e w' => e = .returned (.int .i64 (t.dep : Nat)) ∧ Fr none w w' := by
  induction d with
  | zero =>
    intro t v w r hd
    cases t
    simp [Tr.dep] at hd
  | succ d ih =>
    intro t v w r hd hs h
    obtain ⟨thr, nodes, inner⟩ := t
    obtain ⟨A, c, A', c', rfl, hthr, hn, hn2, hi2, hi3, hi4, hcell⟩ := h.open_
    go_enter Tryz.func67, Tryz.ntmps67
    go_wp2_with fail
    generalize hW : w.alloc _ = w1
    have F1 : Fr none w w1 := hW ▸ (Fr.refl _ _).alloc _
    have B1 : Hid (w1.heap[w.heap.size]? = some (.cells #[.int .i64 thr, .slice A nodes.length c, .slice A' inner.length c'] 29 (0, 0))) := by rw [← hW]; exact blk_new _ _
    clear hW
    have hd' : depL inner ≤ d := by simp only [Tr.dep] at hd; omega
    go_loopw [3, 9] (fun n i wr => Fr none w1 wr ∧ ∃ k : Nat, k ≤ inner.length ∧ i = .int .i64 k ∧ n = .int .i64 ((depL (inner.take k) : Nat) : Int)) (fun _ i _ => inner.length - (intOf i).toNat)
    case atStart => exact ⟨Fr.refl _ _, 0, Nat.zero_le _, rfl, by simp [depL]⟩
    case round =>
      obtain ⟨F2, k, hk, rfl, rfl⟩ := hrel
      by_cases hlt : k < inner.length
      · have HT := Lib.hid (depL_take inner k hlt)
        obtain ⟨b, off, rfl, hb, hbr, hc⟩ := hcell (by omega)
        obtain ⟨x, y, z, g0, g1, g2, gt⟩ := hc k hlt
        obtain ⟨th, A1, n1, c1, A2, n2, c2, rfl, rfl, rfl⟩ := gt.shape
        have F3 := F1.pure F2
        have g0' := F3.keep g0 (by simp)
        have g1' := F3.keep g1 (by simp)
        have g2' := F3.keep g2 (by simp)
        have hdd : (inner[k]).dep ≤ d := by have := depL_get inner k hlt; simp only [Tr.dep] at hd; omega
        have gt' := (gt.fr (F3.mono (r := r)))
        clear g0 g1 g2
        go_wp2_with fail
        refine (ih inner[k] _ _ r hdd (by omega) (gt'.fr ((Fr.refl _ _).alloc _))).mono ?_
        rintro e w2 ⟨rfl, F4⟩
        have F5 := (F2.alloc _).pure F4
        clear g0' g1' g2' F4
        go_wp2_with fail
        go_roundw
        case rel => exact ⟨F5, k + 1, by omega, by go_num, by (rw [HT.out, ← max_if]; try (congr 1; split <;> omega))⟩
        case measure => simp [intOf]; omega
      · obtain rfl : k = inner.length := by omega
        have hle : depL (inner.take inner.length) ≤ d := by rw [List.take_length]; exact hd'
        go_wp2
        go_ret
        exact ⟨ret_int (by simp [Tr.dep]), F1.pure F2⟩

end Go.Proofs.YtpdhckbiioobhaaGreat

/- Walks: check, level, Valid of trusts (program and reference). By gen_tr.py. -/
namespace Go.Proofs.YtpdhckbiioobhaaGreat
open Go.RowKit

theorem node_any (k : Int) (w : World) : Calls Tryz.prog 97 #[.int .i64 k] w fun e w' => e = .returned (.bool (decide (0 ≤ k ∧ k < 10))) ∧ w = w' := by
  go_enter Tryz.func97, Tryz.ntmps97
  go_wp2
  all_goals
    go_ret
    exact ⟨ret_bool (by by_cases h1 : 0 ≤ k <;> by_cases h2 : k < 10 <;> simp [h1, h2] <;> omega), rfl⟩

theorem level1_any (k : Int) (w : World) (_ : Wi k) : Calls Tryz.prog 96 #[.int .i64 k] w fun e w' => e = .returned (.bool (decide (k < 0 ∨ 10 ≤ k))) ∧ w = w' := by
  have hb : decide (k < 0 ∨ 10 ≤ k) = !decide (0 ≤ k ∧ k < 10) := by
    by_cases h1 : 0 ≤ k <;> by_cases h2 : k < 10 <;> simp [h1, h2] <;> omega
  rw [hb]
  have H : ∀ b : Bool, b = decide (0 ≤ k ∧ k < 10) → Calls Tryz.prog 96 #[.int .i64 k] w fun e w' => e = .returned (.bool (!b)) ∧ w = w' := by
    intro b hb
    have HB := Lib.hid hb
    clear hb
    go_enter Tryz.func96, Tryz.ntmps96
    go_wp2_with (go_at_call 97; refine (node_any _ _).mono ?_; rintro e w' ⟨rfl, rfl⟩; rw [← HB.out])
    go_ret
    exact ⟨rfl, rfl⟩
  exact H _ rfl

set_option maxHeartbeats 2000000 in
set_option maxRecDepth 100000 in
theorem rcheck_any (d : Nat) : ∀ (t : Tr) (v : Value) (w : World) (r : Option Nat), t.dep ≤ d → TrR w r v t →
    Calls Tryz.prog 74 #[v] w fun e w' => e = .returned (.int .i64 (checkE t)) ∧ Fr none w w' := by
  induction d with
  | zero =>
    intro t v w r hd
    cases t
    simp [Tr.dep] at hd
  | succ d ih =>
    intro t v w r hd h
    obtain ⟨thr, nodes, inner⟩ := t
    obtain ⟨A, c, A', c', rfl, hthr, hn, hn2, hi2, hi3, hi4, hcell⟩ := h.open_
    have h0 : Hid (checkE (.mk thr nodes inner) = if thr < 1 ∨ ((nodes.length + inner.length : Nat) : Int) < thr then 4 else if nodes.any (fun k => decide (k < 0 ∨ 10 ≤ k)) then 5 else if (ofS nodes 0).2 ≠ 0 then (ofS nodes 0).2 else checkL inner) := by unfold Hid; simp only [checkE]
    by_cases ht : thr < 1 ∨ ((nodes.length + inner.length : Nat) : Int) < thr
    · have hfin : Hid (checkE (.mk thr nodes inner) = 4) := by unfold Hid; rw [h0.out, if_pos ht]
      have ht' : thr < 1 ∨ (nodes.length : Int) + inner.length < thr := by omega
      clear ht
      rcases ht' with ht | ht
      · go_enter Tryz.func74, Tryz.ntmps74
        go_wp2_with fail
        all_goals first | (exfalso; omega) | skip
        go_ret
        exact ⟨ret_int (by rw [hfin.out]; try rfl), (Fr.refl _ _).alloc _⟩
      · have ht1 : 1 ≤ thr := by omega
        go_enter Tryz.func74, Tryz.ntmps74
        go_wp2_with fail
        all_goals first | (exfalso; omega) | skip
        go_ret
        exact ⟨ret_int (by rw [hfin.out]; try rfl), (Fr.refl _ _).alloc _⟩
    · have h1 : Hid (checkE (.mk thr nodes inner) = if nodes.any (fun k => decide (k < 0 ∨ 10 ≤ k)) then 5 else if (ofS nodes 0).2 ≠ 0 then (ofS nodes 0).2 else checkL inner) := by unfold Hid; rw [h0.out, if_neg ht]
      have ht1 : 1 ≤ thr := by omega
      have ht2 : thr ≤ (nodes.length : Int) + inner.length := by omega
      clear ht h0
      go_enter Tryz.func74, Tryz.ntmps74
      go_wp2_with fail
      generalize hW : w.alloc _ = w1
      have F1 : Fr none w w1 := hW ▸ (Fr.refl _ _).alloc _
      have B1 : Hid (w1.heap[w.heap.size]? = some (.cells #[.int .i64 thr, .slice A nodes.length c, .slice A' inner.length c'] 29 (0, 0))) := by rw [← hW]; exact blk_new _ _
      clear hW
      have hn' := hn.fr (F1.mono (r := r))
      have R1 := blk_cell B1.out
      go_loop [28] (fun i => ∃ k : Nat, k ≤ nodes.length ∧ i = .int .i64 k ∧ Hid (nodes.any (fun k => decide (k < 0 ∨ 10 ≤ k)) = (nodes.drop k).any (fun k => decide (k < 0 ∨ 10 ≤ k)))) (fun i => nodes.length - (intOf i).toNat)
      case atStart => exact ⟨0, Nat.zero_le _, rfl, by simp [Hid]⟩
      case round =>
        obtain ⟨k, hk, rfl, hany⟩ := hrel
        by_cases hlt : k < nodes.length
        · obtain ⟨A0, c0, e0, q1, q2, hc1⟩ := hn'.open_
          injection e0 with e1 _ e3
          subst e1 e3
          obtain ⟨b, off, rfl, hb, hbr, hcc⟩ := hc1 (by omega)
          have hck := hcc k hlt
          have hd2 : Hid (nodes.drop k = nodes[k] :: nodes.drop (k + 1)) := List.drop_eq_getElem_cons hlt
          clear hcc hc1
          by_cases hr : nodes[k] < 0 ∨ 10 ≤ nodes[k]
          · have ha : nodes.any (fun k => decide (k < 0 ∨ 10 ≤ k)) = true := by
              rw [hany.out, hd2.out, List.any_cons, decide_eq_true hr]; rfl
            have hfin : Hid (checkE (.mk thr nodes inner) = 5) := by unfold Hid; rw [h1.out, if_pos ha]
            clear ha
            by_cases hr1 : nodes[k] < 0
            all_goals
              go_wp2_with fail
              all_goals first | (exfalso; omega) | skip
              all_goals (go_ret; exact ⟨ret_int (by rw [hfin.out]; try rfl), F1⟩)
          · have hr1 : 0 ≤ nodes[k] := by omega
            have hr2 : nodes[k] < 10 := by omega
            have hb2 : decide (nodes[k] < 0 ∨ 10 ≤ nodes[k]) = false := decide_eq_false hr
            have HB := Lib.hid hb2
            clear hr hb2
            go_wp2_with fail
            go_round
            case rel => exact ⟨k + 1, by omega, by go_num, by unfold Hid; rw [hany.out, hd2.out, List.any_cons, HB.out]; rfl⟩
            case measure => simp [intOf]; omega
        · obtain rfl : k = nodes.length := by omega
          have ha : nodes.any (fun k => decide (k < 0 ∨ 10 ≤ k)) = false := by rw [hany.out]; simp
          have h2 : Hid (checkE (.mk thr nodes inner) = if (ofS nodes 0).2 ≠ 0 then (ofS nodes 0).2 else checkL inner) := by unfold Hid; rw [h1.out, if_neg (by rw [ha]; simp)]
          clear h1 ha
          go_wp2_with fail
          refine (rof_any nodes _ _ r hn').mono ?_
          rintro e w' ⟨rfl, rfl⟩
          by_cases hof : (ofS nodes 0).2 = 0
          · have hfin : Hid (checkE (.mk thr nodes inner) = checkL inner) := by unfold Hid; rw [h2.out, if_neg (by rw [hof]; simp)]
            have ho0 : ((ofS nodes 0).2 != 0) = false := by rw [bne_eq_false_iff_eq]; exact hof
            clear hof h2
            go_wp2_with fail
            go_loopw [51] (fun i wr => Fr none w1 wr ∧ ∃ k : Nat, k ≤ inner.length ∧ i = .int .i64 k ∧ Hid (checkL inner = checkL (inner.drop k))) (fun i _ => inner.length - (intOf i).toNat)
            case atStart => exact ⟨Fr.refl _ _, 0, Nat.zero_le _, rfl, by simp [Hid]⟩
            case round =>
              obtain ⟨F2, k, hk, rfl, ho⟩ := hrel
              by_cases hlt : k < inner.length
              · have hd2 : Hid (inner.drop k = inner[k] :: inner.drop (k + 1)) := List.drop_eq_getElem_cons hlt
                obtain ⟨b, off, rfl, hb, hbr, hc⟩ := hcell (by omega)
                obtain ⟨x, y, z, g0, g1, g2, gt⟩ := hc k hlt
                obtain ⟨th, A1, n1, c1, A2, n2, c2, rfl, rfl, rfl⟩ := gt.shape
                have F3 := F1.pure F2
                have g0' := F3.keep g0 (by simp)
                have g1' := F3.keep g1 (by simp)
                have g2' := F3.keep g2 (by simp)
                have hdd : (inner[k]).dep ≤ d := by have := depL_get inner k hlt; simp only [Tr.dep] at hd; omega
                have gt' := (gt.fr (F3.mono (r := r)))
                clear g0 g1 g2
                go_wp2_with fail
                refine (ih inner[k] _ _ r hdd (gt'.fr ((Fr.refl _ _).alloc _))).mono ?_
                rintro e w2 ⟨rfl, F4⟩
                have F5 := (F2.alloc _).pure F4
                clear g0' g1' g2' F4
                by_cases he : checkE inner[k] = 0
                · have he0 : (checkE inner[k] != 0) = false := by rw [bne_eq_false_iff_eq]; exact he
                  have HE := Lib.hid he
                  clear he
                  go_wp2_with fail
                  go_roundw
                  case rel =>
                    refine ⟨F5, k + 1, by omega, by go_num, ?_⟩
                    unfold Hid
                    rw [ho.out, hd2.out]
                    simp only [checkL]
                    rw [if_neg (by rw [HE.out]; simp)]
                  case measure => simp [intOf]; omega
                · have he0 : (checkE inner[k] != 0) = true := by rw [bne_iff_ne]; exact he
                  have HE := Lib.hid he
                  clear he
                  go_wp2_with fail
                  go_ret
                  refine ⟨ret_int ?_, F1.pure F5⟩
                  rw [hfin.out, ho.out, hd2.out]
                  simp only [checkL]
                  rw [if_pos HE.out]
              · obtain rfl : k = inner.length := by omega
                go_wp2
                go_ret
                refine ⟨ret_int ?_, F1.pure F2⟩
                rw [hfin.out, ho.out]
                simp [checkL]
          · have hfin : Hid (checkE (.mk thr nodes inner) = (ofS nodes 0).2) := by unfold Hid; rw [h2.out, if_pos hof]
            have ho0 : ((ofS nodes 0).2 != 0) = true := by rw [bne_iff_ne]; exact hof
            clear hof h2
            go_wp2_with fail
            go_ret
            exact ⟨ret_int (by rw [hfin.out]; try rfl), F1⟩

set_option maxHeartbeats 2000000 in
set_option maxRecDepth 100000 in
theorem level_any (d : Nat) : ∀ (t : Tr) (v : Value) (w : World) (r : Option Nat), t.dep ≤ d → TrR w r v t →
    Calls Tryz.prog 69 #[v] w fun e w' => e = .returned (.int .i64 (checkE t)) ∧ Fr none w w' := by
  induction d with
  | zero =>
    intro t v w r hd
    cases t
    simp [Tr.dep] at hd
  | succ d ih =>
    intro t v w r hd h
    obtain ⟨thr, nodes, inner⟩ := t
    obtain ⟨A, c, A', c', rfl, hthr, hn, hn2, hi2, hi3, hi4, hcell⟩ := h.open_
    have h0 : Hid (checkE (.mk thr nodes inner) = if thr < 1 ∨ ((nodes.length + inner.length : Nat) : Int) < thr then 4 else if nodes.any (fun k => decide (k < 0 ∨ 10 ≤ k)) then 5 else if (ofS nodes 0).2 ≠ 0 then (ofS nodes 0).2 else checkL inner) := by unfold Hid; simp only [checkE]
    by_cases ht : thr < 1 ∨ ((nodes.length + inner.length : Nat) : Int) < thr
    · have hfin : Hid (checkE (.mk thr nodes inner) = 4) := by unfold Hid; rw [h0.out, if_pos ht]
      have ht' : thr < 1 ∨ (nodes.length : Int) + inner.length < thr := by omega
      clear ht
      rcases ht' with ht | ht
      · go_enter Tryz.func69, Tryz.ntmps69
        go_wp2_with fail
        all_goals first | (exfalso; omega) | skip
        go_ret
        exact ⟨ret_int (by rw [hfin.out]; try rfl), (Fr.refl _ _).alloc _⟩
      · have ht1 : 1 ≤ thr := by omega
        go_enter Tryz.func69, Tryz.ntmps69
        go_wp2_with fail
        all_goals first | (exfalso; omega) | skip
        go_ret
        exact ⟨ret_int (by rw [hfin.out]; try rfl), (Fr.refl _ _).alloc _⟩
    · have h1 : Hid (checkE (.mk thr nodes inner) = if nodes.any (fun k => decide (k < 0 ∨ 10 ≤ k)) then 5 else if (ofS nodes 0).2 ≠ 0 then (ofS nodes 0).2 else checkL inner) := by unfold Hid; rw [h0.out, if_neg ht]
      have ht1 : 1 ≤ thr := by omega
      have ht2 : thr ≤ (nodes.length : Int) + inner.length := by omega
      clear ht h0
      go_enter Tryz.func69, Tryz.ntmps69
      go_wp2_with fail
      generalize hW : w.alloc _ = w1
      have F1 : Fr none w w1 := hW ▸ (Fr.refl _ _).alloc _
      have B1 : Hid (w1.heap[w.heap.size]? = some (.cells #[.int .i64 thr, .slice A nodes.length c, .slice A' inner.length c'] 29 (0, 0))) := by rw [← hW]; exact blk_new _ _
      clear hW
      have hn' := hn.fr (F1.mono (r := r))
      have R1 := blk_cell B1.out
      refine (containsFunc_any 96 (fun k => decide (k < 0 ∨ 10 ≤ k)) (fun _ _ => by kernel_rfl) level1_any nodes _ _ r hn').mono ?_
      rintro e w' ⟨rfl, rfl⟩
      have HQ : ∃ q, Hid (nodes.any (fun k => decide (k < 0 ∨ 10 ≤ k)) = q) := ⟨_, rfl⟩
      obtain ⟨q, hq⟩ := HQ
      rw [hq.out]
      cases q
      rotate_left
      · have hfin : Hid (checkE (.mk thr nodes inner) = 5) := by unfold Hid; rw [h1.out, if_pos hq.out]
        go_wp2_with fail
        go_ret
        exact ⟨ret_int (by rw [hfin.out]; try rfl), F1⟩
      · have h2 : Hid (checkE (.mk thr nodes inner) = if (ofS nodes 0).2 ≠ 0 then (ofS nodes 0).2 else checkL inner) := by unfold Hid; rw [h1.out, if_neg (by rw [hq.out]; simp)]
        clear h1
        go_wp2_with fail
        refine (of_any nodes _ _ r hn').mono ?_
        rintro e w' ⟨rfl, rfl⟩
        by_cases hof : (ofS nodes 0).2 = 0
        · have hfin : Hid (checkE (.mk thr nodes inner) = checkL inner) := by unfold Hid; rw [h2.out, if_neg (by rw [hof]; simp)]
          have ho0 : ((ofS nodes 0).2 != 0) = false := by rw [bne_eq_false_iff_eq]; exact hof
          clear hof h2
          go_wp2_with fail
          go_loopw [38] (fun i wr => Fr none w1 wr ∧ ∃ k : Nat, k ≤ inner.length ∧ i = .int .i64 k ∧ Hid (checkL inner = checkL (inner.drop k))) (fun i _ => inner.length - (intOf i).toNat)
          case atStart => exact ⟨Fr.refl _ _, 0, Nat.zero_le _, rfl, by simp [Hid]⟩
          case round =>
            obtain ⟨F2, k, hk, rfl, ho⟩ := hrel
            by_cases hlt : k < inner.length
            · have hd2 : Hid (inner.drop k = inner[k] :: inner.drop (k + 1)) := List.drop_eq_getElem_cons hlt
              obtain ⟨b, off, rfl, hb, hbr, hc⟩ := hcell (by omega)
              obtain ⟨x, y, z, g0, g1, g2, gt⟩ := hc k hlt
              obtain ⟨th, A1, n1, c1, A2, n2, c2, rfl, rfl, rfl⟩ := gt.shape
              have F3 := F1.pure F2
              have g0' := F3.keep g0 (by simp)
              have g1' := F3.keep g1 (by simp)
              have g2' := F3.keep g2 (by simp)
              have hdd : (inner[k]).dep ≤ d := by have := depL_get inner k hlt; simp only [Tr.dep] at hd; omega
              have gt' := (gt.fr (F3.mono (r := r)))
              clear g0 g1 g2
              go_wp2_with fail
              refine (ih inner[k] _ _ r hdd (gt'.fr ((Fr.refl _ _).alloc _))).mono ?_
              rintro e w2 ⟨rfl, F4⟩
              have F5 := (F2.alloc _).pure F4
              clear g0' g1' g2' F4
              by_cases he : checkE inner[k] = 0
              · have he0 : (checkE inner[k] != 0) = false := by rw [bne_eq_false_iff_eq]; exact he
                have HE := Lib.hid he
                clear he
                go_wp2_with fail
                go_roundw
                case rel =>
                  refine ⟨F5, k + 1, by omega, by go_num, ?_⟩
                  unfold Hid
                  rw [ho.out, hd2.out]
                  simp only [checkL]
                  rw [if_neg (by rw [HE.out]; simp)]
                case measure => simp [intOf]; omega
              · have he0 : (checkE inner[k] != 0) = true := by rw [bne_iff_ne]; exact he
                have HE := Lib.hid he
                clear he
                go_wp2_with fail
                go_ret
                refine ⟨ret_int ?_, F1.pure F5⟩
                rw [hfin.out, ho.out, hd2.out]
                simp only [checkL]
                rw [if_pos HE.out]
            · obtain rfl : k = inner.length := by omega
              go_wp2
              go_ret
              refine ⟨ret_int ?_, F1.pure F2⟩
              rw [hfin.out, ho.out]
              simp [checkL]
        · have hfin : Hid (checkE (.mk thr nodes inner) = (ofS nodes 0).2) := by unfold Hid; rw [h2.out, if_pos hof]
          have ho0 : ((ofS nodes 0).2 != 0) = true := by rw [bne_iff_ne]; exact hof
          clear hof h2
          go_wp2_with fail
          go_ret
          exact ⟨ret_int (by rw [hfin.out]; try rfl), F1⟩

set_option maxHeartbeats 1000000 in
theorem rvalidT_any (t : Tr) (v : Value) (w : World) (r : Option Nat) (hs : t.size ≤ 1073741000) (h : TrR w r v t) :
    Calls Tryz.prog 39 #[v] w fun e w' => e = .returned (.int .i64 (validE t)) ∧ Fr none w w' := by
  have hd := dep_le_size t
  obtain ⟨A, c, A', c', rfl, -⟩ := (show ∃ A c A' c', v = .agg #[.int .i64 t.thr, .slice A t.nodes.length c, .slice A' t.inner.length c'] ∧ True by
    obtain ⟨thr, nodes, inner⟩ := t
    obtain ⟨A, c, A', c', rfl, _⟩ := h.open_
    exact ⟨A, c, A', c', rfl, trivial⟩)
  go_enter Tryz.func39, Tryz.ntmps39
  go_wp2_with fail
  generalize hW : w.alloc _ = w1
  have F1 : Fr none w w1 := hW ▸ (Fr.refl _ _).alloc _
  have B1 : Hid (w1.heap[w.heap.size]? = some (.cells #[.int .i64 t.thr, .slice A t.nodes.length c, .slice A' t.inner.length c'] 29 (0, 0))) := by rw [← hW]; exact blk_new _ _
  clear hW
  have h1 := h.fr (F1.mono (r := r))
  refine (rdepth_any t.dep t _ _ r (Nat.le_refl _) (by omega) h1).mono ?_
  rintro e w2 ⟨rfl, F2⟩
  have B2 := Lib.hid (blk_fr B1.out F2 (by simp))
  have h2 := h1.fr (F2.mono (r := r))
  have R2 := blk_cell B2.out
  by_cases h4 : 4 < t.dep
  · have hfin : Hid (validE t = 3) := by unfold Hid validE; rw [if_pos (.inl h4)]
    go_wp2_with fail
    go_ret
    exact ⟨ret_int (by rw [hfin.out]; try rfl), F1.pure F2⟩
  · go_wp2_with fail
    refine (rsize_any t.dep t _ _ r (Nat.le_refl _) (by omega) h2).mono ?_
    rintro e w3 ⟨rfl, F3⟩
    have h3 := h2.fr (F3.mono (r := r))
    have B3 := Lib.hid (blk_fr B2.out F3 (by simp))
    have R3 := blk_cell B3.out
    clear R2
    by_cases h5 : 200 < t.size
    · have hfin : Hid (validE t = 3) := by unfold Hid validE; rw [if_pos (.inr h5)]
      go_wp2_with fail
      go_ret
      exact ⟨ret_int (by rw [hfin.out]; try rfl), (F1.pure F2).pure F3⟩
    · have hfin : Hid (validE t = checkE t) := by unfold Hid validE; rw [if_neg (by omega)]
      go_wp2_with fail
      refine (rcheck_any t.dep t _ _ r (Nat.le_refl _) h3).mono ?_
      rintro e w4 ⟨rfl, F4⟩
      go_wp2_with fail
      go_ret
      exact ⟨ret_int (by rw [hfin.out]; try rfl), ((F1.pure F2).pure F3).pure F4⟩

set_option maxHeartbeats 1000000 in
theorem validT_any (t : Tr) (v : Value) (w : World) (r : Option Nat) (hs : t.size ≤ 1073741000) (h : TrR w r v t) :
    Calls Tryz.prog 34 #[v] w fun e w' => e = .returned (.int .i64 (validE t)) ∧ Fr none w w' := by
  have hd := dep_le_size t
  obtain ⟨A, c, A', c', rfl, -⟩ := (show ∃ A c A' c', v = .agg #[.int .i64 t.thr, .slice A t.nodes.length c, .slice A' t.inner.length c'] ∧ True by
    obtain ⟨thr, nodes, inner⟩ := t
    obtain ⟨A, c, A', c', rfl, _⟩ := h.open_
    exact ⟨A, c, A', c', rfl, trivial⟩)
  go_enter Tryz.func34, Tryz.ntmps34
  go_wp2_with fail
  generalize hW : w.alloc _ = w1
  have F1 : Fr none w w1 := hW ▸ (Fr.refl _ _).alloc _
  have B1 : Hid (w1.heap[w.heap.size]? = some (.cells #[.int .i64 t.thr, .slice A t.nodes.length c, .slice A' t.inner.length c'] 29 (0, 0))) := by rw [← hW]; exact blk_new _ _
  clear hW
  have h1 := h.fr (F1.mono (r := r))
  refine (depth_any t.dep t _ _ r (Nat.le_refl _) (by omega) h1).mono ?_
  rintro e w2 ⟨rfl, F2⟩
  have B2 := Lib.hid (blk_fr B1.out F2 (by simp))
  have h2 := h1.fr (F2.mono (r := r))
  have R2 := blk_cell B2.out
  by_cases h4 : 4 < t.dep
  · have hfin : Hid (validE t = 3) := by unfold Hid validE; rw [if_pos (.inl h4)]
    go_wp2_with fail
    go_ret
    exact ⟨ret_int (by rw [hfin.out]; try rfl), F1.pure F2⟩
  · go_wp2_with fail
    refine (tsize_any t.dep t _ _ r (Nat.le_refl _) (by omega) h2).mono ?_
    rintro e w3 ⟨rfl, F3⟩
    have h3 := h2.fr (F3.mono (r := r))
    have B3 := Lib.hid (blk_fr B2.out F3 (by simp))
    have R3 := blk_cell B3.out
    clear R2
    by_cases h5 : 200 < t.size
    · have hfin : Hid (validE t = 3) := by unfold Hid validE; rw [if_pos (.inr h5)]
      go_wp2_with fail
      go_ret
      exact ⟨ret_int (by rw [hfin.out]; try rfl), (F1.pure F2).pure F3⟩
    · have hfin : Hid (validE t = checkE t) := by unfold Hid validE; rw [if_neg (by omega)]
      go_wp2_with fail
      refine (level_any t.dep t _ _ r (Nat.le_refl _) h3).mono ?_
      rintro e w4 ⟨rfl, F4⟩
      go_wp2_with fail
      go_ret
      exact ⟨ret_int (by rw [hfin.out]; try rfl), ((F1.pure F2).pure F3).pure F4⟩

end Go.Proofs.YtpdhckbiioobhaaGreat

/- A trust that is being filled, in a block of its own. -/
namespace Go.Proofs.YtpdhckbiioobhaaGreat
open Go.RowKit

/-- The struct that the call fills: block b of w. -/
def TB (w : World) (b : Nat) (x y z : Value) : Prop := w.heap[b]? = some (.cells #[x, y, z] 29 (0, 0))
theorem TB.fr {w w' : World} {b : Nat} {x y z : Value} {r : Option Nat} (h : TB w b x y z) (f : Fr r w w') (hr : r ≠ some b) : TB w' b x y z := blk_fr h f hr
theorem TB.cell {w : World} {b : Nat} {x y z : Value} (h : TB w b x y z) : ∀ i, w.cell? ⟨b, i, none⟩ = #[x, y, z][i]? := blk_cell h
theorem TB.free {w : World} {b : Nat} {x y z : Value} (h : TB w b x y z) : ∀ i, w.frozen? ⟨b, i, none⟩ = false := blk_free h
theorem TB.set0 {w : World} {b : Nat} {x y z : Value} (h : TB w b x y z) (u : Value) : TB (w.setCell ⟨b, 0, none⟩ u) b u y z := by simpa [TB] using blk_set h 0 u
theorem TB.set1 {w : World} {b : Nat} {x y z : Value} (h : TB w b x y z) (u : Value) : TB (w.setCell ⟨b, 1, none⟩ u) b x u z := by simpa [TB] using blk_set h 1 u
theorem TB.set2 {w : World} {b : Nat} {x y z : Value} (h : TB w b x y z) (u : Value) : TB (w.setCell ⟨b, 2, none⟩ u) b x y u := by simpa [TB] using blk_set h 2 u

end Go.Proofs.YtpdhckbiioobhaaGreat

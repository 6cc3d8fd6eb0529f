/- Plain: configurations with other numbers. -/
import Derived.Test.YtoblhcieidljjaaGreatDoorJG22
import Derived.Test.YtoblhcieidljjaaGreatDoorJG20
import Derived.Test.YtoblhcieidljjaaGreatDoorJG2
set_option linter.unusedSimpArgs false
set_option linter.unusedVariables false
namespace Go.Proofs.YtoblhcieidljjaaGreatDoor
open Go.RowKit

def mapMb (p : List Int) (m : Mb) : Mb := ⟨m.dec, mapT (pf p) m.tr⟩
/-- The members, when the first k have got their new numbers. -/
def renS (p : List Int) (L : List Mb) : Nat → List Mb
  | 0 => List.replicate L.length noMb
  | k + 1 => (renS p L k).set (pf p (k : Int)).toNat (mapMb p (L.getD k noMb))
theorem renS_len (p : List Int) (L : List Mb) : ∀ k, (renS p L k).length = L.length
  | 0 => by simp [renS]
  | k + 1 => by simp only [renS, List.length_set, renS_len p L k]
/-- What Rename answers. -/
def renC (p : List Int) (L : List Mb) : List Mb × Int := if validC L ≠ 0 then ([], validC L) else if ordB p L.length then (renS p L L.length, 0) else ([], 1)
theorem renS_get {p : List Int} {L : List Mb} (h : Ord p L.length) : ∀ k, k ≤ L.length → ∀ j (_ : j < k) (hj : j < L.length), (renS p L k)[(pf p (j : Int)).toNat]? = some (mapMb p L[j])
  | 0, _, j, h0, _ => by omega
  | k + 1, hk, j, hjk, hj => by
    have hI := h.inj_
    have hbk := hI.bd (k : Int) (by omega) (by omega)
    have hbj := hI.bd (j : Int) (by omega) (by omega)
    simp only [renS]
    by_cases e : j = k
    · subst e
      rw [List.getElem?_set_self (by rw [renS_len]; omega)]
      simp [hj]
    · have hne : (pf p (k : Int)).toNat ≠ (pf p (j : Int)).toNat := fun e' => by
        have := hI.inj (k : Int) (j : Int) (by omega) (by omega) (by omega) (by omega) (by omega)
        omega
      rw [List.getElem?_set_ne hne]
      exact renS_get h k (by omega) j (by omega) hj
theorem mapT_zero (φ : Int → Int) : mapT φ zeroTr = zeroTr := by simp [zeroTr, mapT, mapTL]
theorem noMb_ok (n : Nat) : MbOk n noMb := ⟨fun h => (by cases h), fun _ => rfl⟩
theorem mapMb_ok {p : List Int} {n : Nat} (hn : n ≤ 10) (h : Ord p n) {m : Mb} (hm : MbOk n m) : MbOk n (mapMb p m) := by
  refine ⟨fun hd => ?_, fun hd => ?_⟩
  · obtain ⟨h1, h2, h3⟩ := hm.1 hd
    exact ⟨mapT_valid hn h.inj_ h2 h1, mapT_in h.inj_ _ h2, by show (mapT (pf p) m.tr).dep ≤ 2; rw [mapT_dep]; exact h3⟩
  · show mapT (pf p) m.tr = zeroTr
    rw [hm.2 hd, mapT_zero]
theorem renS_ok {p : List Int} {L : List Mb} (hn : L.length ≤ 10) (h : Ord p L.length) (hL : ∀ m ∈ L, MbOk L.length m) : ∀ k, k ≤ L.length → ∀ m ∈ renS p L k, MbOk L.length m
  | 0, _, m, hm => by
    simp only [renS] at hm
    rw [(List.mem_replicate.1 hm).2]
    exact noMb_ok _
  | k + 1, hk, m, hm => by
    simp only [renS] at hm
    rcases List.mem_or_eq_of_mem_set hm with hm | rfl
    · exact renS_ok hn h hL k (by omega) m hm
    · have e : L.getD k noMb = L[k]'(by omega) := by simp [show k < L.length by omega]
      rw [e]
      exact mapMb_ok hn h (hL _ (List.getElem_mem _))
theorem mbok_in {n : Nat} {m : Mb} (h : MbOk n m) : nodesIn n m.tr := by
  cases hd : m.dec with
  | true => exact (h.1 hd).2.1
  | false => rw [h.2 hd]; simp [zeroTr, nodesIn, nodesInL]
theorem pf_ofNat {l : List Nat} {i : Nat} (hi : i < l.length) : pf (l.map Int.ofNat) (i : Int) = (l[i] : Int) := by
  rw [pf_get (by simpa using hi)]; simp
/-- The inverse of an order. -/
structure Inv (l : List Nat) (q : List Int) (n : Nat) : Prop where
  perm : l.Perm (List.range n)
  len : q.length = n
  inv : ∀ i (hi : i < l.length), q.getD l[i] 0 = (i : Int)
theorem Inv.ord {l : List Nat} {q : List Int} {n : Nat} (h : Inv l q n) : Ord q n := by
  obtain ⟨_, hs⟩ := ord_perm h.perm
  have hll : l.length = n := by rw [h.perm.length_eq]; simp
  have key : ∀ i (hi : i < q.length), ∃ (a : Nat) (ha : a < l.length), l[a] = i ∧ q[i] = (a : Int) := fun i hi => by
    obtain ⟨a, ha, e⟩ := hs i (by rw [← h.len]; exact hi)
    refine ⟨a, ha, e, ?_⟩
    have := h.inv a ha
    rw [e] at this
    simpa [hi] using this
  refine ⟨h.len, List.pairwise_iff_getElem.2 fun i j hi hj hij e => ?_, fun x hx => ?_⟩
  · obtain ⟨a, ha, e1, e2⟩ := key i hi
    obtain ⟨b, hb, e3, e4⟩ := key j hj
    rw [e2, e4] at e
    have : a = b := by omega
    subst this
    omega
  · obtain ⟨i, hi, rfl⟩ := List.getElem_of_mem hx
    obtain ⟨a, ha, e1, e2⟩ := key i hi
    rw [e2]
    constructor <;> omega
theorem renS_back {l : List Nat} {q : List Int} {L : List Mb} (h : Inv l q L.length) (hL : ∀ m ∈ L, MbOk L.length m) : renS q (renS (l.map Int.ofNat) L L.length) L.length = L := by
  obtain ⟨R, hR⟩ : ∃ R, R = renS (l.map Int.ofNat) L L.length := ⟨_, rfl⟩
  have hRl : R.length = L.length := by rw [hR, renS_len]
  have hop := (ord_perm h.perm).1
  have hoq := h.ord
  have hll : l.length = L.length := by rw [h.perm.length_eq]; simp
  rw [← hR]
  apply List.ext_getElem?
  intro i
  by_cases hi : i < L.length
  · have hil : i < l.length := by omega
    have hj : l[i] < L.length := List.mem_range.1 (h.perm.mem_iff.1 (List.getElem_mem hil))
    have e1 := renS_get (L := R) (p := q) (by rw [hRl]; exact hoq) L.length (by omega) l[i] hj (by omega)
    have e2 := renS_get hop L.length (Nat.le_refl _) i hi hi
    rw [pf_ofNat hil, ← hR, Int.toNat_natCast] at e2
    have e3 : pf q (l[i] : Int) = (i : Int) := by
      unfold pf
      rw [Int.toNat_natCast]
      exact h.inv i hil
    rw [e3, Int.toNat_natCast] at e1
    rw [e1, List.getElem?_eq_getElem hi]
    rw [List.getElem?_eq_getElem (by omega)] at e2
    rw [Option.some.inj e2]
    congr 1
    have hm := mbok_in (hL _ (List.getElem_mem hi))
    show Mb.mk L[i].dec (mapT (pf q) (mapT (pf (l.map Int.ofNat)) L[i].tr)) = L[i]
    rw [mapT_back (n := L.length) (fun k h0 h1 => ?_) _ hm]
    obtain ⟨k, rfl⟩ := Int.eq_ofNat_of_zero_le h0
    have hkl : k < l.length := by omega
    rw [pf_ofNat hkl]
    unfold pf
    rw [Int.toNat_natCast]
    exact h.inv k hkl
  · rw [List.getElem?_eq_none (show (renS q R L.length).length ≤ i by rw [renS_len]; omega), List.getElem?_eq_none (show L.length ≤ i by omega)]
/-- A set with the new numbers, when the first k have been looked at. -/
def setY (l : List Nat) (x : Nat) : Nat → Nat
  | 0 => 0
  | k + 1 => setY l x k ||| (if x.testBit k then 2 ^ l.getD k 0 else 0)
theorem setY_lt {l : List Nat} {x n : Nat} (h : ∀ j ∈ l, j < n) : ∀ k, k ≤ l.length → setY l x k < 2 ^ n
  | 0, _ => Nat.two_pow_pos n
  | k + 1, hk => by
    have hlt : k < l.length := by omega
    simp only [setY]
    refine Nat.or_lt_two_pow (setY_lt h k (by omega)) ?_
    split
    · exact Nat.pow_lt_pow_right (by omega) (h _ (by simp [hlt]))
    · exact Nat.two_pow_pos n
theorem setY_bit {l : List Nat} {x n : Nat} (h : l.Perm (List.range n)) : ∀ k, k ≤ l.length → ∀ i (hi : i < l.length), (setY l x k).testBit l[i] = (decide (i < k) && x.testBit i)
  | 0, _, i, hi => by simp [setY]
  | k + 1, hk, i, hi => by
    have hlt : k < l.length := by omega
    have ih := setY_bit (x := x) h k (by omega) i hi
    simp only [setY, Nat.testBit_or, ih]
    have e : l.getD k 0 = l[k] := by simp [hlt]
    rw [e]
    by_cases hik : i = k
    · subst hik
      cases hb : x.testBit i <;> simp
    · have hne : l[k] ≠ l[i] := fun e' => hik (nodup_get (h.nodup_iff.2 List.nodup_range) i k hi hlt e'.symm)
      have h1 : decide (i < k + 1) = decide (i < k) := by rw [decide_eq_decide]; omega
      rw [h1]
      split
      · rw [Nat.testBit_two_pow]
        simp [hne]
      · simp
theorem ren_sat {l : List Nat} {L : List Mb} (hn : L.length ≤ 10) (h : l.Perm (List.range L.length)) (hL : ∀ m ∈ L, MbOk L.length m) {x : Nat} (hx : x < 2 ^ L.length) (k : Nat) (hk : k < L.length) (hk' : l.getD k 0 < (renS (l.map Int.ofNat) L L.length).length) :
    sat (setY l x L.length : Nat) ((renS (l.map Int.ofNat) L L.length)[l.getD k 0]).tr = sat (x : Int) L[k].tr := by
  have hll : l.length = L.length := by rw [h.length_eq]; simp
  have hkl : k < l.length := by omega
  have hb : ∀ j ∈ l, j < L.length := fun j hj => List.mem_range.1 (h.mem_iff.1 hj)
  have e2 := renS_get (ord_perm h).1 L.length (Nat.le_refl _) k hk hk
  rw [pf_ofNat hkl, Int.toNat_natCast] at e2
  have eg : l.getD k 0 = l[k] := by simp [hkl]
  have e3 : (renS (l.map Int.ofNat) L L.length)[l.getD k 0] = mapMb (l.map Int.ofNat) L[k] := by
    rw [List.getElem_eq_iff, eg]; exact e2
  rw [e3]
  have hp : 2 ^ L.length ≤ 2 ^ 10 := Nat.pow_le_pow_right (by omega) hn
  have hy := setY_lt (x := x) hb L.length (by omega)
  refine mapT_sat (n := L.length) ?_ (fun i h0 h1 => ?_) _ (mbok_in (hL _ (List.getElem_mem hk)))
  · unfold validB
    rw [decide_eq_true (by omega), decide_eq_true (by omega)]
  · obtain ⟨i, rfl⟩ := Int.eq_ofNat_of_zero_le h0
    have hil : i < l.length := by omega
    have hj := hb _ (List.getElem_mem hil)
    rw [pf_ofNat hil]
    unfold hasB validB
    rw [decide_eq_true (show (0 : Int) ≤ ((setY l x L.length : Nat) : Int) ∧ ((setY l x L.length : Nat) : Int) ≤ 1023 by omega), decide_eq_true (show (0 : Int) ≤ (x : Int) ∧ (x : Int) ≤ 1023 by omega), decide_eq_true (show (0 : Int) ≤ (i : Int) ∧ (i : Int) < 10 by omega), decide_eq_true (show (0 : Int) ≤ (l[i] : Int) ∧ (l[i] : Int) < 10 by omega)]
    simp only [Int.toNat_natCast, Bool.true_and]
    rw [setY_bit h L.length (by omega) i hil, decide_eq_true (show i < L.length by omega), Bool.true_and]
/-- What a right configuration says of its nodes. -/
theorem usesF_bit : ∀ (l : List Int) (s : Nat) (i : Nat), (s.testBit i = true ∨ (i : Int) ∈ l) → i < 10 → (l.foldl usesStep s).testBit i = true
  | [], s, i, h, _ => by
    rcases h with h | h
    · exact h
    · cases h
  | x :: r, s, i, h, hi => by
    refine usesF_bit r _ i ?_ hi
    rcases h with h | h
    · left
      unfold usesStep
      split
      · rw [Nat.testBit_or, h, Bool.true_or]
      · exact h
    · rcases List.mem_cons.1 h with rfl | h
      · left
        unfold usesStep
        rw [if_pos ⟨by omega, by omega⟩, Int.toNat_natCast, Nat.testBit_or, Nat.testBit_two_pow_self, Bool.or_true]
      · exact .inr h
mutual
theorem uses_in {n : Nat} : ∀ t, OkT t → usesT t < 2 ^ n → nodesIn n t
  | .mk th l i, ho, hu => by
    simp only [OkT] at ho
    simp only [usesT] at hu
    simp only [nodesIn]
    refine ⟨fun x hx => ⟨(ho.2.2.1 x hx).1, ?_⟩, usesL_in i ho.2.2.2.2 (Nat.lt_of_le_of_lt Nat.right_le_or hu)⟩
    obtain ⟨k, rfl⟩ := Int.eq_ofNat_of_zero_le (ho.2.2.1 x hx).1
    have hb := usesF_bit l 0 k (.inr hx) (by have := (ho.2.2.1 _ hx).2; omega)
    have h1 : 2 ^ k ≤ usesN l := Nat.ge_two_pow_of_testBit hb
    have h2 : usesN l ≤ usesN l ||| usesTL i := Nat.left_le_or
    rcases Nat.lt_or_ge k n with h | h
    · omega
    · have := Nat.pow_le_pow_right (n := 2) (by omega) h
      omega
theorem usesL_in {n : Nat} : ∀ l, OkTs l → usesTL l < 2 ^ n → nodesInL n l
  | [], _, _ => by simp [nodesInL]
  | x :: r, ho, hu => by
    simp only [OkTs] at ho
    simp only [usesTL] at hu
    simp only [nodesInL]
    exact ⟨uses_in x ho.1 (Nat.lt_of_le_of_lt Nat.left_le_or hu), usesL_in r ho.2 (Nat.lt_of_le_of_lt Nat.right_le_or hu)⟩
end
theorem firE_all : ∀ (l : List Int), firE l = 0 → ∀ x ∈ l, x = 0
  | [], _, x, hx => by cases hx
  | e :: r, h, x, hx => by
    simp only [firE] at h
    by_cases h0 : e = 0
    · rw [if_pos h0] at h
      rcases List.mem_cons.1 hx with rfl | hx
      · exact h0
      · exact firE_all r h x hx
    · rw [if_neg h0] at h; exact absurd h h0
theorem validC_in {L : List Mb} (h : validC L = 0) : L.length ≤ 10 ∧ ∀ m ∈ L, nodesIn L.length m.tr := by
  unfold validC at h
  by_cases h10 : 10 < L.length
  · rw [if_pos h10] at h; omega
  · rw [if_neg h10] at h
    refine ⟨by omega, fun m hm => ?_⟩
    have := firE_all _ h _ (List.mem_map_of_mem hm)
    unfold memE at this
    by_cases hd : m.dec = true
    · rw [if_pos hd] at this
      by_cases hv : validE m.tr = 0
      · rw [if_pos hv] at this
        by_cases hu : 2 ^ L.length ≤ usesT m.tr
        · rw [if_pos hu] at this; omega
        · refine uses_in _ ?_ (by omega)
          unfold validE at hv
          by_cases hc : 4 < m.tr.dep ∨ 200 < m.tr.size
          · rw [if_pos hc] at hv; omega
          · rw [if_neg hc] at hv; exact (okT_iff _).1 hv
      · rw [if_neg hv] at this; exact absurd this hv
    · rw [if_neg hd] at this
      by_cases hs : sameT m.tr zeroTr = true
      · rw [(sameT_iff _ _).1 hs]; simp [zeroTr, nodesIn, nodesInL]
      · rw [if_neg hs] at this; omega
end Go.Proofs.YtoblhcieidljjaaGreatDoor

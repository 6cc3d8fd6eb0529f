/- Some texts of this claim, joined: contracts of the functions that it reaches, and plain laws. -/
import Derived.Lib.Hide

set_option linter.unusedSimpArgs false
set_option linter.unusedVariables false
/- Plain: claims and lists of claims. -/
namespace Go.Proofs.YtkpgnhdmlikopaaGreatDoor

/-- A claim: its topic, its value. -/
abbrev Cl := Int × Int
def vCl (c : Cl) : Bool := decide (0 ≤ c.1 ∧ c.1 < 8 ∧ 0 ≤ c.2 ∧ c.2 ≤ 15)
def ltC (a b : Cl) : Bool := decide (a.1 < b.1 ∨ a.1 = b.1 ∧ a.2 < b.2)
def cmpC (a b : Cl) : Int := if a = b then 0 else if ltC a b then -1 else 1
def conC (a b : Cl) : Bool := decide (a.1 = b.1 ∧ a.2 ≠ b.2)
def clOf (k : Nat) : Cl := (((k / 16 : Nat) : Int), ((k % 16 : Nat) : Int))
/-- All claims, ascending. -/
def pairsC : List Cl := (List.range 128).map clOf
/-- The claims of a list, ascending. -/
def srtC (l : List Cl) : List Cl := pairsC.filter fun c => decide (c ∈ l)

theorem vCl_iff (c : Cl) : vCl c = true ↔ 0 ≤ c.1 ∧ c.1 < 8 ∧ 0 ≤ c.2 ∧ c.2 ≤ 15 := by unfold vCl; rw [decide_eq_true_iff]
theorem ltC_iff (a b : Cl) : ltC a b = true ↔ a.1 < b.1 ∨ a.1 = b.1 ∧ a.2 < b.2 := by unfold ltC; rw [decide_eq_true_iff]
theorem ltC_irr (a : Cl) : ¬ ltC a a = true := by rw [ltC_iff]; omega
theorem ltC_trans {a b c : Cl} (h : ltC a b = true) (k : ltC b c = true) : ltC a c = true := by rw [ltC_iff] at *; omega
theorem ltC_asym {a b : Cl} (h : ltC a b = true) : ¬ ltC b a = true := by rw [ltC_iff] at *; omega
theorem ltC_tot {a b : Cl} (h : a ≠ b) : ltC a b = true ∨ ltC b a = true := by
  rw [ltC_iff, ltC_iff]
  have : ¬ (a.1 = b.1 ∧ a.2 = b.2) := fun e => h (Prod.ext e.1 e.2)
  omega
theorem cmpC_neg (a b : Cl) : cmpC a b < 0 ↔ ltC a b = true := by
  unfold cmpC
  by_cases h : a = b
  · subst h; simp [ltC_irr]
  · rw [if_neg h]
    by_cases k : ltC a b = true
    · simp [k]
    · simp [k]
theorem cmpC_zero (a b : Cl) : cmpC a b = 0 ↔ a = b := by
  unfold cmpC
  by_cases h : a = b
  · simp [h]
  · rw [if_neg h]; simp only [h, iff_false]; split <;> omega
theorem cmpC_swap (a b : Cl) : cmpC b a = -cmpC a b := by
  unfold cmpC
  by_cases h : a = b
  · subst h; simp
  · rw [if_neg h, if_neg (fun e => h e.symm)]
    rcases ltC_tot h with k | k
    · rw [if_pos k, if_neg (ltC_asym k)]; rfl
    · rw [if_pos k, if_neg (ltC_asym k)]
theorem conC_comm (a b : Cl) : conC a b = conC b a := by
  unfold conC
  rw [decide_eq_decide]
  omega
theorem conC_self (a : Cl) : conC a a = false := by simp [conC]

theorem pairs_sorted : pairsC.Pairwise fun a b => ltC a b = true := by decide +kernel
theorem pairs_len : pairsC.length = 128 := by simp [pairsC]
theorem pairs_get (k : Nat) (hk : k < pairsC.length) : pairsC[k] = clOf k := by simp [pairsC]
theorem clOf_mk (i k : Nat) (hk : k < 16) : clOf (i * 16 + k) = ((i : Int), (k : Int)) := by
  unfold clOf
  rw [show (i * 16 + k) / 16 = i by omega, show (i * 16 + k) % 16 = k by omega]
theorem mem_pairs (c : Cl) : c ∈ pairsC ↔ vCl c = true := by
  rw [vCl_iff]
  unfold pairsC
  rw [List.mem_map]
  constructor
  · rintro ⟨k, hk, rfl⟩
    have := List.mem_range.1 hk
    unfold clOf
    simp only
    omega
  · rintro ⟨h1, h2, h3, h4⟩
    refine ⟨c.1.toNat * 16 + c.2.toNat, List.mem_range.2 (by omega), ?_⟩
    rw [clOf_mk _ _ (by omega)]
    exact Prod.ext (by simp only; omega) (by simp only; omega)
theorem mem_srtC (c : Cl) (l : List Cl) : c ∈ srtC l ↔ vCl c = true ∧ c ∈ l := by
  unfold srtC
  rw [List.mem_filter, mem_pairs, decide_eq_true_iff]
theorem srtC_sorted (l : List Cl) : (srtC l).Pairwise fun a b => ltC a b = true := pairs_sorted.sublist List.filter_sublist
theorem ext_sorted : ∀ {a b : List Cl}, (a.Pairwise fun x y => ltC x y = true) → (b.Pairwise fun x y => ltC x y = true) → (∀ c, c ∈ a ↔ c ∈ b) → a = b
  | [], [], _, _, _ => rfl
  | [], y :: b, _, _, h => absurd ((h y).2 (by simp)) (by simp)
  | x :: a, [], _, _, h => absurd ((h x).1 (by simp)) (by simp)
  | x :: a, y :: b, ha, hb, h => by
    rw [List.pairwise_cons] at ha hb
    have e : x = y := by
      rcases List.mem_cons.1 ((h x).1 (by simp)) with e | e
      · exact e
      · rcases List.mem_cons.1 ((h y).2 (by simp)) with f | f
        · exact f.symm
        · exact absurd (hb.1 x e) (ltC_asym (ha.1 y f))
    subst e
    congr 1
    refine ext_sorted ha.2 hb.2 (fun c => ?_)
    have hc := h c
    rw [List.mem_cons, List.mem_cons] at hc
    by_cases e : c = x
    · subst e
      exact ⟨fun m => absurd (ha.1 c m) (ltC_irr c), fun m => absurd (hb.1 c m) (ltC_irr c)⟩
    · simpa [e] using hc
theorem srtC_ext {a b : List Cl} (h : ∀ c, vCl c = true → (c ∈ a ↔ c ∈ b)) : srtC a = srtC b :=
  ext_sorted (srtC_sorted a) (srtC_sorted b) (fun c => by
    rw [mem_srtC, mem_srtC]
    constructor
    · exact fun m => ⟨m.1, (h c m.1).1 m.2⟩
    · exact fun m => ⟨m.1, (h c m.1).2 m.2⟩)
theorem srtC_again (l : List Cl) : srtC (srtC l) = srtC l := srtC_ext (fun c hc => by rw [mem_srtC]; simp [hc])
theorem srtC_len (l : List Cl) : (srtC l).length ≤ 128 := by
  have := (List.filter_sublist (l := pairsC) (p := fun c => decide (c ∈ l))).length_le
  rw [pairs_len] at this
  exact this

/-- A list is plain: claims only, strictly ascending. -/
def PlnC (l : List Cl) : Prop := ∀ i (h : i < l.length), vCl l[i] = true ∧ (∀ _ : 0 < i, ltC (l[i - 1]'(by omega)) l[i] = true)
def plnC (l : List Cl) : Bool := decide (srtC l = l)
theorem PlnC.pair {l : List Cl} (h : PlnC l) : l.Pairwise fun a b => ltC a b = true := by
  rw [List.pairwise_iff_getElem]
  intro i j hi hj hij
  induction j with
  | zero => omega
  | succ j ih =>
    have hs := (h (j + 1) hj).2 (by omega)
    by_cases e : i = j
    · subst e; exact hs
    · exact ltC_trans (ih (by omega) (by omega)) hs
theorem plnC_iff (l : List Cl) : plnC l = true ↔ PlnC l := by
  unfold plnC
  rw [decide_eq_true_iff]
  constructor
  · intro h i hi
    have hp : l.Pairwise fun a b => ltC a b = true := by rw [← h]; exact srtC_sorted l
    rw [List.pairwise_iff_getElem] at hp
    refine ⟨?_, fun h0 => hp (i - 1) i (by omega) hi (by omega)⟩
    have hm : l[i] ∈ srtC l := by rw [h]; exact List.getElem_mem hi
    exact ((mem_srtC _ _).1 hm).1
  · intro h
    refine ext_sorted (srtC_sorted l) h.pair (fun c => ?_)
    rw [mem_srtC]
    constructor
    · exact fun m => m.2
    · intro m
      obtain ⟨i, hi, rfl⟩ := List.getElem_of_mem m
      exact ⟨(h i hi).1, m⟩
theorem plnC_srt (l : List Cl) : plnC (srtC l) = true := by unfold plnC; rw [decide_eq_true_iff]; exact srtC_again l

theorem rev_ind {P : List Cl → Prop} (h0 : P []) (h1 : ∀ l x, P l → P (l ++ [x])) (l : List Cl) : P l := by
  rw [← List.reverse_reverse l]
  induction l.reverse with
  | nil => exact h0
  | cons x r ih => rw [List.reverse_cons]; exact h1 _ _ ih
/-- Equal neighbours once. -/
def cpcS (acc : List Cl) (x : Cl) : List Cl := if acc.getLast? = some x then acc else acc ++ [x]
def cpcC (l : List Cl) : List Cl := l.foldl cpcS []
theorem cpcC_snoc (l : List Cl) (x : Cl) : cpcC (l ++ [x]) = cpcS (cpcC l) x := by unfold cpcC; rw [List.foldl_append]; rfl
theorem cpcC_last : ∀ (l : List Cl), (cpcC l).getLast? = l.getLast? := by
  intro l
  induction l using rev_ind with
  | h0 => rfl
  | h1 l x ih =>
    rw [cpcC_snoc]
    unfold cpcS
    split
    · rename_i h; rw [h]; simp
    · simp
theorem cpcC_mem (l : List Cl) (c : Cl) : c ∈ cpcC l ↔ c ∈ l := by
  induction l using rev_ind with
  | h0 => simp [cpcC]
  | h1 l x ih =>
    rw [cpcC_snoc]
    unfold cpcS
    split
    · rename_i h
      rw [ih, List.mem_append, List.mem_singleton]
      constructor
      · exact fun m => .inl m
      · rintro (m | rfl)
        · exact m
        · rw [cpcC_last] at h
          exact List.mem_of_getLast? h
    · rw [List.mem_append, List.mem_append, ih]
theorem cpcC_sorted (l : List Cl) (h : l.Pairwise fun a b => ¬ ltC b a = true) : (cpcC l).Pairwise fun a b => ltC a b = true := by
  induction l using rev_ind with
  | h0 => simp [cpcC]
  | h1 l x ih =>
    rw [List.pairwise_append] at h
    obtain ⟨h1, _, h2⟩ := h
    have ih := ih h1
    rw [cpcC_snoc]
    unfold cpcS
    split
    · exact ih
    · rename_i hne
      rw [List.pairwise_append]
      refine ⟨ih, by simp, fun a ha b hb => ?_⟩
      obtain rfl := List.mem_singleton.1 hb
      have ha' := (cpcC_mem l a).1 ha
      by_cases e : a = b
      · subst e
        -- a is in the strictly ascending list, and nothing there is above it
        exfalso
        apply hne
        rw [cpcC_last]
        obtain ⟨i, hi, hia⟩ := List.getElem_of_mem ha
        have hL : cpcC l ≠ [] := List.ne_nil_of_mem ha
        have hll := List.getLast_mem hL
        have hle := h2 _ ((cpcC_mem l _).1 hll) a (by simp)
        rw [← cpcC_last, List.getLast?_eq_some_getLast hL]
        congr 1
        by_cases hq : i + 1 = (cpcC l).length
        · rw [List.getLast_eq_getElem]
          rw [← hia]
          congr 1
          omega
        · have := (List.pairwise_iff_getElem.1 ih) i ((cpcC l).length - 1) hi (by omega) (by omega)
          rw [hia, ← List.getLast_eq_getElem hL] at this
          exact absurd this hle
      · rcases ltC_tot e with k | k
        · exact k
        · exact absurd k (h2 a ha' b (by simp))
/-- What the program's sort hands back is the claims of the list, ascending. -/
theorem sort_srtC {l s : List Cl} (hp : s.Perm (l.filter vCl)) (h : s.Pairwise fun a b => ¬ ltC b a = true) : cpcC s = srtC l :=
  ext_sorted (cpcC_sorted s h) (srtC_sorted l) (fun c => by
    rw [cpcC_mem, hp.mem_iff, List.mem_filter, mem_srtC]
    exact ⟨fun m => ⟨m.2, m.1⟩, fun m => ⟨m.2, m.1⟩⟩)
end Go.Proofs.YtkpgnhdmlikopaaGreatDoor

/- Plain: what slices.DeleteFunc and slices.Compact do to a row, step by step. -/
namespace Go.Proofs.YtkpgnhdmlikopaaGreatDoor

theorem take_snocC (l : List Cl) (j : Nat) (hj : j < l.length) : l.take (j + 1) = l.take j ++ [l[j]] := List.take_succ_eq_append_getElem hj
/-- DeleteFunc: i kept so far, j looked at. -/
structure DelI (l : List Cl) (i j : Nat) (d : List Cl) : Prop where
  len : d.length = l.length
  lt : i < j
  le : j ≤ l.length
  low : d.take i = (l.take j).filter vCl
  high : d.drop j = l.drop j
theorem DelI.start {l : List Cl} {k : Nat} (hk : k < l.length) (hall : ∀ j (hj : j < l.length), j < k → vCl l[j] = true) (hno : vCl l[k] = false) : DelI l k (k + 1) l := by
  refine ⟨rfl, by omega, by omega, ?_, rfl⟩
  rw [take_snocC l k hk, List.filter_append]
  simp only [List.filter_cons, hno, List.filter_nil]
  rw [List.filter_eq_self.2 ?_]
  · simp
  · intro x hx
    obtain ⟨i, hi, rfl⟩ := List.getElem_of_mem hx
    rw [List.getElem_take]
    exact hall i _ (by simp at hi; omega)
theorem DelI.at_ {l d : List Cl} {i j : Nat} (h : DelI l i j d) (hj : j < l.length) : ∃ hj' : j < d.length, d[j] = l[j] := by
  refine ⟨by rw [h.len]; exact hj, ?_⟩
  have := congrArg (fun x => x[0]?) h.high
  simp only [List.getElem?_drop, Nat.add_zero] at this
  rw [List.getElem?_eq_getElem (by rw [h.len]; exact hj), List.getElem?_eq_getElem hj] at this
  exact Option.some.inj this
theorem drop_set_lt {d : List Cl} {i j : Nat} (x : Cl) (h : i < j) : (d.set i x).drop j = d.drop j := by
  rw [List.drop_set]; simp [h]
theorem take_set_end {d : List Cl} {i : Nat} (x : Cl) (h : i < d.length) : (d.set i x).take (i + 1) = d.take i ++ [x] := by
  rw [List.take_succ_eq_append_getElem (by simpa using h), List.take_set_of_le (Nat.le_refl _)]
  simp
theorem DelI.keep {l d : List Cl} {i j : Nat} (h : DelI l i j d) (hj : j < l.length) (hv : vCl l[j] = true) : DelI l (i + 1) (j + 1) (d.set i l[j]) := by
  have hl := h.len
  have hlt := h.lt
  refine ⟨by simp [hl], by omega, by omega, ?_, ?_⟩
  · rw [take_set_end _ (by omega), h.low, take_snocC l j hj, List.filter_append]
    simp [List.filter_cons, hv]
  · rw [drop_set_lt _ (by omega), ← List.drop_drop, h.high, List.drop_drop]
theorem DelI.skip {l d : List Cl} {i j : Nat} (h : DelI l i j d) (hj : j < l.length) (hv : vCl l[j] = false) : DelI l i (j + 1) d := by
  have hl := h.len
  have hlt := h.lt
  refine ⟨hl, by omega, by omega, ?_, ?_⟩
  · rw [h.low, take_snocC l j hj, List.filter_append]
    simp [List.filter_cons, hv]
  · rw [← List.drop_drop, h.high, List.drop_drop]
theorem DelI.done {l d : List Cl} {i : Nat} (h : DelI l i l.length d) : d.take i = l.filter vCl := by
  have := h.low
  rwa [List.take_length] at this
theorem filter_all_len {l : List Cl} {d : List Cl} {i : Nat} (h : DelI l i l.length d) : (l.filter vCl).length = i := by
  have h1 := h.low
  have h2 := h.lt
  have h3 := h.len
  have := congrArg List.length h1
  rw [List.take_length] at this
  rw [← this, List.length_take]
  omega

/-- Compact, ahead of the first pair of equal neighbours. -/
theorem cpc_ahead (l : List Cl) : ∀ k, k ≤ l.length → (∀ j (hj : j + 1 < l.length), j + 1 < k → l[j + 1] ≠ l[j]) → cpcC (l.take k) = l.take k
  | 0, _, _ => rfl
  | k + 1, hk, h => by
    have ih := cpc_ahead l k (by omega) (fun j hj hjk => h j hj (by omega))
    rw [take_snocC l k (by omega), cpcC_snoc, ih]
    unfold cpcS
    rw [if_neg]
    intro e
    rcases Nat.eq_zero_or_pos k with h0 | h0
    · subst h0; simp at e
    · obtain ⟨j, rfl⟩ : ∃ j, k = j + 1 := ⟨k - 1, by omega⟩
      rw [take_snocC l j (by omega), List.getLast?_append] at e
      simp at e
      exact h j (by omega) (by omega) e.symm
/-- Behind it: k kept so far, m looked at. -/
structure CpcI (l : List Cl) (k m : Nat) (d : List Cl) : Prop where
  len : d.length = l.length
  pos : 0 < k
  lt : k < m
  le : m ≤ l.length
  low : d.take k = cpcC (l.take m)
  high : d.drop (m - 1) = l.drop (m - 1)
theorem CpcI.start {l : List Cl} {k : Nat} (h0 : 0 < k) (hk : k < l.length) (h : ∀ j (hj : j + 1 < l.length), j + 1 < k → l[j + 1] ≠ l[j]) (he : l[k] = l[k - 1]) : CpcI l k (k + 1) l := by
  refine ⟨rfl, h0, by omega, by omega, ?_, rfl⟩
  have ih := cpc_ahead l k (by omega) h
  rw [take_snocC l k hk, cpcC_snoc, ih]
  unfold cpcS
  rw [if_pos]
  obtain ⟨j, rfl⟩ : ∃ j, k = j + 1 := ⟨k - 1, by omega⟩
  rw [take_snocC l j (by omega), List.getLast?_append]
  simp at he ⊢
  exact he.symm
theorem CpcI.at_ {l d : List Cl} {k m : Nat} (h : CpcI l k m d) (i : Nat) (hi : i < l.length) (hm : m - 1 ≤ i) : ∃ hi' : i < d.length, d[i] = l[i] := by
  refine ⟨by rw [h.len]; exact hi, ?_⟩
  have := congrArg (fun x => x[i - (m - 1)]?) h.high
  simp only [List.getElem?_drop] at this
  rw [show m - 1 + (i - (m - 1)) = i by omega, List.getElem?_eq_getElem (by rw [h.len]; exact hi), List.getElem?_eq_getElem hi] at this
  exact Option.some.inj this
theorem CpcI.last {l d : List Cl} {k m : Nat} (h : CpcI l k m d) : (cpcC (l.take m)).getLast? = some (l[m - 1]'(by have := h.lt; have := h.le; omega)) := by
  have h1 := h.lt
  have h2 := h.le
  obtain ⟨j, rfl⟩ : ∃ j, m = j + 1 := ⟨m - 1, by omega⟩
  rw [cpcC_last, take_snocC l j (by omega), List.getLast?_append]
  simp
theorem CpcI.keep {l d : List Cl} {k m : Nat} (h : CpcI l k m d) (hm : m < l.length) (hne : l[m] ≠ l[m - 1]) : CpcI l (k + 1) (m + 1) (d.set k l[m]) := by
  have hl := h.len
  have hlt := h.lt
  refine ⟨by simp [hl], by omega, by omega, by omega, ?_, ?_⟩
  · rw [take_set_end _ (by omega), h.low, take_snocC l m hm, cpcC_snoc]
    unfold cpcS
    rw [if_neg]
    rw [h.last]
    intro e
    exact hne (Option.some.inj e).symm
  · rw [show m + 1 - 1 = m - 1 + 1 by omega, ← List.drop_drop, ← List.drop_drop, ← h.high, List.drop_drop, List.drop_drop, drop_set_lt _ (by omega)]
theorem CpcI.skip {l d : List Cl} {k m : Nat} (h : CpcI l k m d) (hm : m < l.length) (he : l[m] = l[m - 1]) : CpcI l k (m + 1) d := by
  have hl := h.len
  have hlt := h.lt
  refine ⟨hl, h.pos, by omega, by omega, ?_, ?_⟩
  · rw [h.low, take_snocC l m hm, cpcC_snoc]
    unfold cpcS
    rw [if_pos]
    rw [h.last, he]
  · rw [show m + 1 - 1 = m - 1 + 1 by omega, ← List.drop_drop, ← List.drop_drop, ← h.high]
theorem CpcI.done {l d : List Cl} {k : Nat} (h : CpcI l k l.length d) : d.take k = cpcC l ∧ (cpcC l).length = k := by
  have h1 := h.low
  have h2 := h.lt
  have h3 := h.len
  rw [List.take_length] at h1
  refine ⟨h1, ?_⟩
  rw [← h1, List.length_take]
  omega
end Go.Proofs.YtkpgnhdmlikopaaGreatDoor

/- Plain: union, consistency and values of lists of claims. -/
namespace Go.Proofs.YtkpgnhdmlikopaaGreatDoor

def consC (l : List Cl) : Bool := decide (l.Pairwise fun a b => conC a b = false)
def ofC (l : List Cl) (t : Int) : List Int := ((srtC l).filter fun c => decide (c.1 = t)).map (·.2)
def uniC (a b : List Cl) : List Cl := srtC (a ++ b)
theorem uniC_comm (a b : List Cl) : uniC a b = uniC b a := srtC_ext (fun c _ => by rw [List.mem_append, List.mem_append]; exact Or.comm)
theorem uniC_assoc (a b c : List Cl) : uniC (uniC a b) c = uniC a (uniC b c) := srtC_ext (fun x hx => by
  unfold uniC
  simp only [List.mem_append, mem_srtC, hx, true_and]
  exact or_assoc)
theorem uniC_self (a b : List Cl) : uniC (uniC a b) (uniC a b) = uniC a b := by
  unfold uniC
  rw [← srtC_again (a ++ b)]
  refine srtC_ext (fun c hc => ?_)
  simp [mem_srtC, hc]
theorem mem_uniC (a b : List Cl) (x : Cl) : x ∈ uniC a b ↔ vCl x = true ∧ (x ∈ a ∨ x ∈ b) := by
  unfold uniC; rw [mem_srtC, List.mem_append]
theorem consC_snoc (l : List Cl) (x : Cl) : consC (l ++ [x]) = (consC l && l.all fun a => !conC a x) := by
  rw [Bool.eq_iff_iff]
  unfold consC
  rw [decide_eq_true_iff, Bool.and_eq_true, decide_eq_true_iff, List.pairwise_append, List.all_eq_true]
  simp
theorem few_iff (p : Cl → Bool) : ∀ l : List Cl, (l.filter p).length ≤ 1 ↔ l.Pairwise fun a b => ¬ (p a = true ∧ p b = true)
  | [] => by simp
  | a :: r => by
    rw [List.pairwise_cons, ← few_iff p r, List.filter_cons]
    by_cases h : p a = true
    · rw [if_pos h, List.length_cons]
      constructor
      · intro k
        have e : r.filter p = [] := List.eq_nil_of_length_eq_zero (by omega)
        rw [List.filter_eq_nil_iff] at e
        exact ⟨fun b hb => fun m => e b hb m.2, by rw [List.filter_eq_nil_iff.2 e]; simp⟩
      · rintro ⟨k, _⟩
        have e : r.filter p = [] := List.filter_eq_nil_iff.2 (fun b hb m => k b hb ⟨h, m⟩)
        rw [e]; simp
    · rw [if_neg h]
      exact ⟨fun k => ⟨fun b _ m => h m.1, k⟩, fun k => k.2⟩
theorem cons_of (l : List Cl) (h : srtC l = l) : consC l = true ↔ ∀ i : Nat, i < 8 → (ofC l (i : Int)).length ≤ 1 := by
  unfold consC ofC
  rw [decide_eq_true_iff, h]
  simp only [List.length_map]
  have hs : l.Pairwise fun a b => ltC a b = true := by rw [← h]; exact srtC_sorted l
  have hv : ∀ c ∈ l, vCl c = true := fun c hc => by rw [← h] at hc; exact ((mem_srtC c l).1 hc).1
  constructor
  · intro hp i hi
    rw [few_iff]
    rw [List.pairwise_iff_getElem] at hp hs ⊢
    intro a b ha hb hab
    rintro ⟨e1, e2⟩
    have e1 := of_decide_eq_true e1
    have e2 := of_decide_eq_true e2
    have c1 := hp a b ha hb hab
    have c2 := (ltC_iff _ _).1 (hs a b ha hb hab)
    unfold conC at c1
    rw [decide_eq_false_iff_not] at c1
    omega
  · intro hp
    rw [List.pairwise_iff_getElem]
    intro a b ha hb hab
    unfold conC
    rw [decide_eq_false_iff_not]
    rintro ⟨e1, e2⟩
    have v := (vCl_iff _).1 (hv _ (List.getElem_mem ha))
    have := hp (l[a].1).toNat (by omega)
    rw [few_iff, List.pairwise_iff_getElem] at this
    exact this a b ha hb hab ⟨decide_eq_true (by omega), decide_eq_true (by omega)⟩
end Go.Proofs.YtkpgnhdmlikopaaGreatDoor

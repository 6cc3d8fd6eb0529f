/- The normal form of a trust, plain: the order of trusts, the steps of the normal form, and that it means the same. -/
import Derived.Test.YtidnnjgiogklaaaTr
namespace Go.Proofs.Ytidnnjgiogklaaa
open Go.RowKit

/-- The order of numbers, of lists of numbers, of trusts. -/
def sgnI (a b : Int) : Int := if a < b then -1 else if b < a then 1 else 0
def cmpNs : List Int → List Int → Int
  | [], [] => 0
  | [], _ :: _ => -1
  | _ :: _, [] => 1
  | x :: r, y :: s => if sgnI x y ≠ 0 then sgnI x y else cmpNs r s
mutual
def cmpT : Tr → Tr → Int
  | .mk t n i, .mk t' n' i' => if sgnI t t' ≠ 0 then sgnI t t' else if cmpNs n n' ≠ 0 then cmpNs n n' else cmpTs i i'
def cmpTs : List Tr → List Tr → Int
  | [], [] => 0
  | [], _ :: _ => -1
  | _ :: _, [] => 1
  | x :: r, y :: s => if cmpT x y ≠ 0 then cmpT x y else cmpTs r s
end
theorem sgnI_zero (a b : Int) : sgnI a b = 0 ↔ a = b := by
  unfold sgnI
  split
  · constructor <;> intro h <;> omega
  · split
    · constructor <;> intro h <;> omega
    · constructor <;> intro h <;> omega
theorem cmpNs_zero : ∀ a b : List Int, cmpNs a b = 0 ↔ a = b
  | [], [] => by simp [cmpNs]
  | [], _ :: _ => by simp [cmpNs]
  | _ :: _, [] => by simp [cmpNs]
  | x :: r, y :: s => by
    have h1 := sgnI_zero x y
    have h2 := cmpNs_zero r s
    simp only [cmpNs, List.cons.injEq]
    by_cases h : sgnI x y = 0
    · rw [if_neg (by simpa using h)]
      rw [h2]
      exact ⟨fun e => ⟨h1.1 h, e⟩, fun e => e.2⟩
    · rw [if_pos h]
      exact ⟨fun e => absurd e h, fun e => absurd (h1.2 e.1) h⟩
mutual
theorem cmpT_zero : ∀ a b : Tr, cmpT a b = 0 ↔ a = b
  | .mk t n i, .mk t' n' i' => by
    have h1 := sgnI_zero t t'
    have h2 := cmpNs_zero n n'
    have h3 := cmpTs_zero i i'
    simp only [cmpT, Tr.mk.injEq]
    by_cases h : sgnI t t' = 0
    · rw [if_neg (by simpa using h)]
      by_cases h' : cmpNs n n' = 0
      · rw [if_neg (by simpa using h'), h3]
        exact ⟨fun e => ⟨h1.1 h, h2.1 h', e⟩, fun e => e.2.2⟩
      · rw [if_pos h']
        exact ⟨fun e => absurd e h', fun e => absurd (h2.2 e.2.1) h'⟩
    · rw [if_pos h]
      exact ⟨fun e => absurd e h, fun e => absurd (h1.2 e.1) h⟩
theorem cmpTs_zero : ∀ a b : List Tr, cmpTs a b = 0 ↔ a = b
  | [], [] => by simp [cmpTs]
  | [], _ :: _ => by simp [cmpTs]
  | _ :: _, [] => by simp [cmpTs]
  | x :: r, y :: s => by
    have h1 := cmpT_zero x y
    have h2 := cmpTs_zero r s
    simp only [cmpTs, List.cons.injEq]
    by_cases h : cmpT x y = 0
    · rw [if_neg (by simpa using h)]
      rw [h2]
      exact ⟨fun e => ⟨h1.1 h, e⟩, fun e => e.2⟩
    · rw [if_pos h]
      exact ⟨fun e => absurd e h, fun e => absurd (h1.2 e.1) h⟩
end

/-- One node more, if it is not there; one trust more, if none is equal to it. -/
def addN (l : List Int) (k : Int) : List Int := if l.any (fun x => decide (x = k)) then l else l ++ [k]
def withT (l : List Tr) (t : Tr) : List Tr := if l.any (fun x => decide (cmpT x t = 0)) then l else l ++ [t]
def cnt1 (t : Tr) : Nat := t.nodes.length + t.inner.length
/-- Is an inner trust of the sort that is taken in? -/
def tak (all : Bool) (x : Tr) : Bool := if all then decide (x.thr = (cnt1 x : Int)) else decide (x.thr = 1)
def mergeS (all : Bool) (st : List Int × List Tr) (x : Tr) : List Int × List Tr := if tak all x then (x.nodes.foldl addN st.1, x.inner.foldl withT st.2) else (st.1, withT st.2 x)
def mergeL (all : Bool) (st : List Int × List Tr) : List Int × List Tr := st.2.foldl (mergeS all) (st.1, [])
def mergedT (thr : Int) (st : List Int × List Tr) (all : Bool) : Tr := .mk (if all then (((mergeL all st).1.length + (mergeL all st).2.length : Nat) : Int) else thr) (mergeL all st).1 (mergeL all st).2
def sortN (l : List Int) : List Int := ((List.range 10).map Int.ofNat).filter fun k => l.any (fun x => decide (x = k))
/-- A trust put into its place. -/
def insT (l : List Tr) (x : Tr) : List Tr := l.take (l.length - (l.reverse.takeWhile fun y => decide (0 < cmpT y x)).length) ++ x :: l.drop (l.length - (l.reverse.takeWhile fun y => decide (0 < cmpT y x)).length)
def sortT (l : List Tr) : List Tr := l.foldl insT []
def liftS (st : List Int × List Tr) (x : Tr) : List Int × List Tr :=
  match x.nodes, x.inner with
  | [k], [] => if st.1.any (fun y => decide (y = k)) then (st.1, st.2 ++ [x]) else (st.1 ++ [k], st.2)
  | _, _ => (st.1, st.2 ++ [x])
def mrgT (thr : Int) (st : List Int × List Tr) : Tr := if thr = 1 then mergedT thr st false else if thr = ((st.1.length + st.2.length : Nat) : Int) then mergedT thr st true else .mk thr st.1 st.2
def ordT (t : Tr) : Tr := .mk t.thr (sortN t.nodes) (sortT t.inner)
def finT (t : Tr) : Tr :=
  match t.nodes, t.inner with
  | [], [y] => y
  | _, _ => t
mutual
/-- The normal form. -/
def normT : Tr → Tr
  | .mk thr nodes inner => finT (ordT (mrgT thr ((normL inner).foldl liftS (nodes, []))))
def normL : List Tr → List Tr
  | [] => []
  | x :: r => normT x :: normL r
end

mutual
/-- Valid at all levels. -/
def OkT : Tr → Prop
  | .mk thr nodes inner => 1 ≤ thr ∧ thr ≤ ((nodes.length + inner.length : Nat) : Int) ∧ (∀ x ∈ nodes, 0 ≤ x ∧ x < 10) ∧ nodes.Nodup ∧ OkTs inner
def OkTs : List Tr → Prop
  | [] => True
  | x :: r => OkT x ∧ OkTs r
end
theorem okTs_iff : ∀ l : List Tr, OkTs l ↔ ∀ x ∈ l, OkT x
  | [] => by simp [OkTs]
  | x :: r => by simp [OkTs, okTs_iff r]
theorem ofS_ok : ∀ (l : List Int) (s : Nat), (∀ x ∈ l, 0 ≤ x ∧ x < 10) → ((ofS l s).2 = 0 ↔ l.Nodup ∧ ∀ x ∈ l, s.testBit x.toNat = false)
  | [], s, _ => by simp [ofS]
  | k :: r, s, h => by
    have hk := h k (by simp)
    obtain ⟨n, rfl⟩ := Int.eq_ofNat_of_zero_le hk.1
    have hr : ∀ x ∈ r, 0 ≤ x ∧ x < 10 := fun x hx => h x (List.mem_cons_of_mem _ hx)
    have ih := ofS_ok r (s ||| 2 ^ n) hr
    simp only [ofS, Int.toNat_natCast]
    rw [if_neg (by omega)]
    cases hb : s.testBit n with
    | true => simp [hb]
    | false =>
      simp only [Bool.false_eq_true, if_false]
      rw [ih]
      simp only [List.nodup_cons, List.mem_cons, Nat.testBit_or, Bool.or_eq_false_iff, Nat.testBit_two_pow]
      constructor
      · rintro ⟨h1, h2⟩
        refine ⟨⟨fun hm => ?_, h1⟩, fun x hx => ?_⟩
        · have := (h2 _ hm).2
          simp at this
        · rcases hx with rfl | hx
          · simpa using hb
          · exact (h2 x hx).1
      · rintro ⟨⟨h1, h2⟩, h3⟩
        refine ⟨h2, fun x hx => ⟨h3 x (.inr hx), ?_⟩⟩
        obtain ⟨m, rfl⟩ := Int.eq_ofNat_of_zero_le (hr x hx).1
        simp only [Int.toNat_natCast, decide_eq_false_iff_not]
        intro e
        apply h1
        rw [e]
        exact hx
mutual
theorem okT_iff : ∀ t : Tr, checkE t = 0 ↔ OkT t
  | .mk thr nodes inner => by
    have ih := okTs_iffE inner
    simp only [checkE, OkT]
    by_cases h1 : thr < 1 ∨ ((nodes.length + inner.length : Nat) : Int) < thr
    · rw [if_pos h1]
      constructor
      · intro h; omega
      · rintro ⟨a, b, _⟩; omega
    · rw [if_neg h1]
      by_cases h2 : nodes.any (fun k => decide (k < 0 ∨ 10 ≤ k)) = true
      · rw [if_pos h2]
        constructor
        · intro h; omega
        · rintro ⟨_, _, c, _⟩
          obtain ⟨x, hx, hd⟩ := List.any_eq_true.1 h2
          have := c x hx
          have hd := of_decide_eq_true hd
          omega
      · rw [if_neg h2]
        have hr : ∀ x ∈ nodes, 0 ≤ x ∧ x < 10 := fun x hx => by
          have h4 : ¬ (x < 0 ∨ 10 ≤ x) := fun hc => h2 (List.any_eq_true.2 ⟨x, hx, decide_eq_true hc⟩)
          omega
        have ho := ofS_ok nodes 0 hr
        by_cases h3 : (ofS nodes 0).2 = 0
        · rw [if_neg (by simpa using h3), ih]
          exact ⟨fun h => ⟨by omega, by omega, hr, (ho.1 h3).1, h⟩, fun h => h.2.2.2.2⟩
        · rw [if_pos h3]
          exact ⟨fun h => absurd h h3, fun h => absurd (ho.2 ⟨h.2.2.2.1, by simp⟩) h3⟩
theorem okTs_iffE : ∀ l : List Tr, checkL l = 0 ↔ OkTs l
  | [] => by simp [checkL, OkTs]
  | x :: r => by
    have h1 := okT_iff x
    have h2 := okTs_iffE r
    simp only [checkL, OkTs]
    by_cases h : checkE x = 0
    · rw [if_neg (by simpa using h), h2]
      exact ⟨fun e => ⟨h1.1 h, e⟩, fun e => e.2⟩
    · rw [if_pos h]
      exact ⟨fun e => absurd e h, fun e => absurd (h1.2 e.1) h⟩
end

/-! ### What a set says of entries -/
theorem cntI_eq (s : Int) : ∀ l : List Tr, cntI s l = l.countP (sat s)
  | [] => by simp [cntI]
  | x :: r => by
    simp only [cntI, cntI_eq s r, List.countP_cons]
    omega
theorem sat_mk {s : Int} (hs : validB s = true) (thr : Int) (n : List Int) (i : List Tr) : sat s (.mk thr n i) = decide (thr ≤ ((cntN s n + cntI s i : Nat) : Int)) := by
  simp only [sat, hs, Bool.true_and]
/-- One entry is there. -/
def AnyE (s : Int) (n : List Int) (i : List Tr) : Prop := (∃ k ∈ n, hasB s k = true) ∨ ∃ x ∈ i, sat s x = true
def AllE (s : Int) (n : List Int) (i : List Tr) : Prop := (∀ k ∈ n, hasB s k = true) ∧ ∀ x ∈ i, sat s x = true
theorem cnt_any (s : Int) (n : List Int) (i : List Tr) : 1 ≤ ((cntN s n + cntI s i : Nat) : Int) ↔ AnyE s n i := by
  unfold AnyE cntN
  rw [cntI_eq, ← List.countP_pos_iff, ← List.countP_pos_iff]
  omega
theorem cnt_all (s : Int) (n : List Int) (i : List Tr) : ((n.length + i.length : Nat) : Int) ≤ ((cntN s n + cntI s i : Nat) : Int) ↔ AllE s n i := by
  unfold AllE cntN
  rw [cntI_eq, ← List.countP_eq_length, ← List.countP_eq_length]
  have h1 := List.countP_le_length (p := hasB s) (l := n)
  have h2 := List.countP_le_length (p := sat s) (l := i)
  omega
theorem sat_any1 {s : Int} (hs : validB s = true) (n : List Int) (i : List Tr) : sat s (.mk 1 n i) = true ↔ AnyE s n i := by
  rw [sat_mk hs, decide_eq_true_eq, cnt_any]
theorem sat_all1 {s : Int} (hs : validB s = true) {thr : Int} {n : List Int} {i : List Tr} (h : thr = ((n.length + i.length : Nat) : Int)) : sat s (.mk thr n i) = true ↔ AllE s n i := by
  rw [sat_mk hs, decide_eq_true_eq, h, cnt_all]

/-! ### Adding -/
theorem mem_addN (l : List Int) (k x : Int) : x ∈ addN l k ↔ x ∈ l ∨ x = k := by
  unfold addN
  split
  · rename_i h
    obtain ⟨y, hy, e⟩ := List.any_eq_true.1 h
    have e := of_decide_eq_true e
    subst e
    exact ⟨.inl, fun h => h.elim id (fun e => e ▸ hy)⟩
  · simp
theorem mem_addNs : ∀ (ns l : List Int) (x : Int), x ∈ ns.foldl addN l ↔ x ∈ l ∨ x ∈ ns
  | [], l, x => by simp
  | k :: r, l, x => by
    rw [List.foldl_cons, mem_addNs r, mem_addN, List.mem_cons]
    exact or_assoc
theorem nodup_addN {l : List Int} (h : l.Nodup) (k : Int) : (addN l k).Nodup := by
  unfold addN
  split
  · exact h
  · rename_i hk
    refine List.nodup_append.2 ⟨h, by simp, fun a ha b hb => ?_⟩
    simp only [List.mem_singleton] at hb
    rintro rfl
    exact hk (List.any_eq_true.2 ⟨a, ha, decide_eq_true hb⟩)
theorem nodup_addNs : ∀ (ns l : List Int), l.Nodup → (ns.foldl addN l).Nodup
  | [], l, h => h
  | k :: r, l, h => by rw [List.foldl_cons]; exact nodup_addNs r _ (nodup_addN h k)
theorem len_addN (l : List Int) (k : Int) : (addN l k).length ≤ l.length + 1 := by unfold addN; split <;> simp
theorem len_addNs : ∀ (ns l : List Int), (ns.foldl addN l).length ≤ l.length + ns.length
  | [], l => by simp
  | k :: r, l => by
    rw [List.foldl_cons, List.length_cons]
    have h1 := len_addNs r (addN l k)
    have h2 := len_addN l k
    omega
theorem mem_withT (l : List Tr) (t x : Tr) : x ∈ withT l t ↔ x ∈ l ∨ x = t := by
  unfold withT
  split
  · rename_i h
    obtain ⟨y, hy, e⟩ := List.any_eq_true.1 h
    have e := (cmpT_zero _ _).1 (of_decide_eq_true e)
    subst e
    exact ⟨.inl, fun h => h.elim id (fun e => e ▸ hy)⟩
  · simp
theorem mem_withTs : ∀ (ns l : List Tr) (x : Tr), x ∈ ns.foldl withT l ↔ x ∈ l ∨ x ∈ ns
  | [], l, x => by simp
  | k :: r, l, x => by
    rw [List.foldl_cons, mem_withTs r, mem_withT, List.mem_cons]
    exact or_assoc
/-- The weight of inner trusts. -/
def wgt (l : List Tr) : Nat := l.length + sizeL l
theorem wgt_append (l m : List Tr) : wgt (l ++ m) = wgt l + wgt m := by
  unfold wgt
  rw [sizeL_append, List.length_append]
  omega
theorem wgt_one (t : Tr) : wgt [t] = 1 + t.size := by simp [wgt, sizeL]
theorem wgt_cons (x : Tr) (r : List Tr) : wgt (x :: r) = 1 + x.size + wgt r := by simp [wgt, sizeL]; omega
theorem wgt_withT (l : List Tr) (t : Tr) : wgt (withT l t) ≤ wgt l + 1 + t.size := by
  unfold withT
  split
  · omega
  · rw [wgt_append, wgt_one]; omega
theorem wgt_withTs : ∀ (ns l : List Tr), wgt (ns.foldl withT l) ≤ wgt l + wgt ns
  | [], l => by simp
  | k :: r, l => by
    rw [List.foldl_cons]
    have h1 := wgt_withTs r (withT l k)
    have h2 := wgt_withT l k
    have h3 : wgt (k :: r) = 1 + k.size + wgt r := by simp [wgt, sizeL]; omega
    omega
theorem depL_le (l : List Tr) (d : Nat) : depL l ≤ d ↔ ∀ x ∈ l, x.dep ≤ d := by
  induction l with
  | nil => simp [depL]
  | cons x r ih => simp only [depL, List.mem_cons, forall_eq_or_imp, ← ih]; omega

/-! ### Merging -/
theorem merge_nodes (all : Bool) : ∀ (L : List Tr) (st : List Int × List Tr) (k : Int), k ∈ (L.foldl (mergeS all) st).1 ↔ k ∈ st.1 ∨ ∃ x ∈ L, tak all x = true ∧ k ∈ x.nodes
  | [], st, k => by simp
  | x :: r, st, k => by
    rw [List.foldl_cons, merge_nodes all r]
    unfold mergeS
    by_cases h : tak all x = true
    · rw [if_pos h]
      simp only [mem_addNs, List.mem_cons, exists_eq_or_imp, h, true_and]
      exact or_assoc
    · rw [if_neg h]
      simp [h]
theorem merge_inner (all : Bool) : ∀ (L : List Tr) (st : List Int × List Tr) (y : Tr), y ∈ (L.foldl (mergeS all) st).2 ↔ y ∈ st.2 ∨ ∃ x ∈ L, (tak all x = true ∧ y ∈ x.inner) ∨ (tak all x = false ∧ y = x)
  | [], st, y => by simp
  | x :: r, st, y => by
    rw [List.foldl_cons, merge_inner all r]
    unfold mergeS
    by_cases h : tak all x = true
    · rw [if_pos h]
      simp only [mem_withTs, List.mem_cons, exists_eq_or_imp, h, true_and, Bool.true_eq_false, false_and, or_false]
      exact or_assoc
    · have h' : tak all x = false := by simpa using h
      rw [if_neg h]
      simp only [mem_withT, List.mem_cons, exists_eq_or_imp, h', Bool.false_eq_true, false_and, true_and, false_or]
      exact or_assoc
theorem merge_nodup (all : Bool) : ∀ (L : List Tr) (st : List Int × List Tr), st.1.Nodup → (L.foldl (mergeS all) st).1.Nodup
  | [], st, h => h
  | x :: r, st, h => by
    rw [List.foldl_cons]
    refine merge_nodup all r _ ?_
    unfold mergeS
    split
    · exact nodup_addNs _ _ h
    · exact h
theorem merge_wgt (all : Bool) : ∀ (L : List Tr) (st : List Int × List Tr), (L.foldl (mergeS all) st).1.length + wgt (L.foldl (mergeS all) st).2 ≤ st.1.length + wgt st.2 + wgt L
  | [], st => by simp
  | x :: r, st => by
    rw [List.foldl_cons]
    have h1 := merge_wgt all r (mergeS all st x)
    have h3 : wgt (x :: r) = 1 + x.size + wgt r := by simp [wgt, sizeL]; omega
    have h2 : (mergeS all st x).1.length + wgt (mergeS all st x).2 ≤ st.1.length + wgt st.2 + 1 + x.size := by
      unfold mergeS
      split
      · have a := len_addNs x.nodes st.1
        have b := wgt_withTs x.inner st.2
        have c : x.size = x.nodes.length + wgt x.inner := by obtain ⟨t, n, i⟩ := x; simp [Tr.size, Tr.nodes, Tr.inner, wgt]; omega
        simp only
        omega
      · have b := wgt_withT st.2 x
        simp only
        omega
    omega
end Go.Proofs.Ytidnnjgiogklaaa

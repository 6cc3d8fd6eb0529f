/- Some texts of this claim, joined: contracts of the functions that it reaches, and plain laws. -/
import Derived.Test.YtoblhcieidljjaaGreatDoorJG1

set_option linter.unusedSimpArgs false
set_option linter.unusedVariables false
/- The normal form of a valid trust is valid, means the same, and is no larger. -/
namespace Go.Proofs.YtoblhcieidljjaaGreatDoor
open Go.RowKit

/-- t' means what t means, is valid, and no larger. -/
def Rel (t t' : Tr) : Prop := OkT t' ∧ (∀ s, validB s = true → sat s t' = sat s t) ∧ t'.size ≤ t.size ∧ t'.dep ≤ t.dep
theorem Rel.trans {a b c : Tr} (h : Rel a b) (k : Rel b c) : Rel a c := ⟨k.1, fun s hs => (k.2.1 s hs).trans (h.2.1 s hs), Nat.le_trans k.2.2.1 h.2.2.1, Nat.le_trans k.2.2.2 h.2.2.2⟩
theorem Rel.refl {a : Tr} (h : OkT a) : Rel a a := ⟨h, fun _ _ => rfl, Nat.le_refl _, Nat.le_refl _⟩
theorem size_mk (thr : Int) (n : List Int) (i : List Tr) : (Tr.mk thr n i).size = n.length + wgt i := by simp only [Tr.size, wgt]; omega
theorem dep_mk (thr : Int) (n : List Int) (i : List Tr) : (Tr.mk thr n i).dep = depL i + 1 := by simp only [Tr.dep]
theorem okT_mk (thr : Int) (n : List Int) (i : List Tr) : OkT (.mk thr n i) ↔ 1 ≤ thr ∧ thr ≤ ((n.length + i.length : Nat) : Int) ∧ (∀ x ∈ n, 0 ≤ x ∧ x < 10) ∧ n.Nodup ∧ ∀ x ∈ i, OkT x := by simp only [OkT, okTs_iff]

/-! ### Lifting -/
/-- What holds while single nodes are lifted. -/
def LiftI (st0 : List Int × List Tr) (L : List Tr) (st : List Int × List Tr) : Prop :=
  (∀ s, validB s = true → cntN s st.1 + cntI s st.2 = cntN s st0.1 + cntI s st0.2 + cntI s L) ∧ st.1.length + st.2.length = st0.1.length + st0.2.length + L.length ∧ st.1.Nodup ∧ (∀ x ∈ st.1, 0 ≤ x ∧ x < 10) ∧ (∀ x ∈ st.2, OkT x) ∧
    st.1.length + wgt st.2 ≤ st0.1.length + wgt st0.2 + wgt L ∧ (∀ d, depL st0.2 ≤ d → depL L ≤ d → depL st.2 ≤ d)
theorem any_false_mem {l : List Int} {k : Int} (h : ¬ l.any (fun y => decide (y = k)) = true) : k ∉ l := fun hm => h (List.any_eq_true.2 ⟨k, hm, decide_eq_true rfl⟩)
theorem lift_keep {st : List Int × List Tr} {x : Tr} (hx : OkT x) (h1 : st.1.Nodup) (h2 : ∀ x ∈ st.1, 0 ≤ x ∧ x < 10) (h3 : ∀ x ∈ st.2, OkT x) : LiftI st [x] (st.1, st.2 ++ [x]) :=
  ⟨fun s _ => by simp only [cntI_append]; omega, by simp; omega, h1, h2, fun y hy => by
    rcases List.mem_append.1 hy with h | h
    · exact h3 y h
    · simp only [List.mem_singleton] at h; exact h ▸ hx, by simp only [wgt_append]; omega, fun d a b => by simp only [depL_append]; omega⟩
theorem lift_one {st : List Int × List Tr} {x : Tr} (hx : OkT x) (h1 : st.1.Nodup) (h2 : ∀ x ∈ st.1, 0 ≤ x ∧ x < 10) (h3 : ∀ x ∈ st.2, OkT x) : LiftI st [x] (liftS st x) := by
  obtain ⟨thr, n, i⟩ := x
  unfold liftS
  simp only [Tr.nodes, Tr.inner]
  split
  · rename_i k
    split
    · exact lift_keep hx h1 h2 h3
    · rename_i hk
      have hk := any_false_mem hk
      obtain ⟨a, b, c, _⟩ := (okT_mk _ _ _).1 hx
      simp only [List.length_cons, List.length_nil] at b
      obtain rfl : thr = 1 := by omega
      refine ⟨fun s hs => ?_, by simp; omega, ?_, ?_, h3, ?_, fun d a _ => a⟩
      · have e : cntI s [Tr.mk 1 [k] []] = cntN s [k] := by
          simp only [cntI, sat_mk hs, Nat.add_zero]
          unfold cntN
          rw [List.countP_cons, List.countP_nil]
          cases hasB s k <;> simp
        rw [e]
        show cntN s (st.1 ++ [k]) + cntI s st.2 = _
        unfold cntN
        rw [List.countP_append]
        omega
      · refine List.nodup_append.2 ⟨h1, by simp, fun a ha b hb => ?_⟩
        simp only [List.mem_singleton] at hb
        rintro rfl
        exact hk (hb ▸ ha)
      · intro y hy
        rcases List.mem_append.1 hy with h | h
        · exact h2 y h
        · exact c y h
      · simp only [List.length_append, List.length_singleton, wgt_one, size_mk]
        omega
  · exact lift_keep hx h1 h2 h3
theorem lift_all : ∀ (L : List Tr) (st : List Int × List Tr), (∀ x ∈ L, OkT x) → st.1.Nodup → (∀ x ∈ st.1, 0 ≤ x ∧ x < 10) → (∀ x ∈ st.2, OkT x) → LiftI st L (L.foldl liftS st)
  | [], st, _, h1, h2, h3 => ⟨fun _ _ => by simp [cntI], by simp, h1, h2, h3, by simp [wgt, sizeL], fun d a _ => a⟩
  | x :: r, st, hL, h1, h2, h3 => by
    obtain ⟨a1, a2, a3, a4, a5, a6, a7⟩ := lift_one (hL x (by simp)) h1 h2 h3
    obtain ⟨b1, b2, b3, b4, b5, b6, b7⟩ := lift_all r (liftS st x) (fun y hy => hL y (List.mem_cons_of_mem _ hy)) a3 a4 a5
    rw [List.foldl_cons]
    refine ⟨fun s hs => ?_, ?_, b3, b4, b5, ?_, fun d c1 c2 => ?_⟩
    · have e1 := a1 s hs
      have e2 := b1 s hs
      simp only [cntI] at e1 ⊢
      omega
    · simp only [List.length_cons, List.length_nil] at a2 ⊢
      omega
    · rw [wgt_one] at a6
      rw [wgt_cons]
      omega
    · simp only [depL] at c2 a7
      exact b7 d (a7 d c1 (by omega)) (by omega)

/-! ### Merging -/
theorem tak_any {s : Int} (hs : validB s = true) {x : Tr} (h : tak false x = true) : sat s x = true ↔ AnyE s x.nodes x.inner := by
  obtain ⟨thr, n, i⟩ := x
  simp only [tak, Bool.false_eq_true, if_false, Tr.thr] at h
  have h := of_decide_eq_true h
  subst h
  exact sat_any1 hs n i
theorem tak_all {s : Int} (hs : validB s = true) {x : Tr} (h : tak true x = true) : sat s x = true ↔ AllE s x.nodes x.inner := by
  obtain ⟨thr, n, i⟩ := x
  simp only [tak, if_true, Tr.thr, cnt1, Tr.nodes, Tr.inner] at h
  exact sat_all1 hs (of_decide_eq_true h)
theorem merge_anyE {s : Int} (hs : validB s = true) (st : List Int × List Tr) : AnyE s (mergeL false st).1 (mergeL false st).2 ↔ AnyE s st.1 st.2 := by
  unfold AnyE mergeL
  simp only [merge_nodes, merge_inner, List.not_mem_nil, false_or]
  constructor
  · rintro (⟨k, hk | ⟨x, hx, ht, hk⟩, hh⟩ | ⟨y, ⟨x, hx, ⟨ht, hy⟩ | ⟨_, rfl⟩⟩, hh⟩)
    · exact .inl ⟨k, hk, hh⟩
    · exact .inr ⟨x, hx, (tak_any hs ht).2 (.inl ⟨k, hk, hh⟩)⟩
    · exact .inr ⟨x, hx, (tak_any hs ht).2 (.inr ⟨y, hy, hh⟩)⟩
    · exact .inr ⟨y, hx, hh⟩
  · rintro (⟨k, hk, hh⟩ | ⟨x, hx, hh⟩)
    · exact .inl ⟨k, .inl hk, hh⟩
    · cases ht : tak false x with
      | true =>
        rcases (tak_any hs ht).1 hh with ⟨k, hk, h⟩ | ⟨y, hy, h⟩
        · exact .inl ⟨k, .inr ⟨x, hx, ht, hk⟩, h⟩
        · exact .inr ⟨y, ⟨x, hx, .inl ⟨ht, hy⟩⟩, h⟩
      | false => exact .inr ⟨x, ⟨x, hx, .inr ⟨ht, rfl⟩⟩, hh⟩
theorem merge_allE {s : Int} (hs : validB s = true) (st : List Int × List Tr) : AllE s (mergeL true st).1 (mergeL true st).2 ↔ AllE s st.1 st.2 := by
  unfold AllE mergeL
  simp only [merge_nodes, merge_inner, List.not_mem_nil, false_or]
  constructor
  · rintro ⟨h1, h2⟩
    refine ⟨fun k hk => h1 k (.inl hk), fun x hx => ?_⟩
    cases ht : tak true x with
    | true => exact (tak_all hs ht).2 ⟨fun k hk => h1 k (.inr ⟨x, hx, ht, hk⟩), fun y hy => h2 y ⟨x, hx, .inl ⟨ht, hy⟩⟩⟩
    | false => exact h2 x ⟨x, hx, .inr ⟨ht, rfl⟩⟩
  · rintro ⟨h1, h2⟩
    constructor
    · rintro k (hk | ⟨x, hx, ht, hk⟩)
      · exact h1 k hk
      · exact ((tak_all hs ht).1 (h2 x hx)).1 k hk
    · rintro y ⟨x, hx, ⟨ht, hy⟩ | ⟨_, rfl⟩⟩
      · exact ((tak_all hs ht).1 (h2 x hx)).2 y hy
      · exact h2 y hx
theorem merge_ne (all : Bool) {st : List Int × List Tr} (h : 1 ≤ st.1.length + st.2.length) (ho : ∀ x ∈ st.2, OkT x) : 1 ≤ (mergeL all st).1.length + (mergeL all st).2.length := by
  have key : (∃ k, k ∈ (mergeL all st).1) ∨ ∃ y, y ∈ (mergeL all st).2 := by
    unfold mergeL
    simp only [merge_nodes, merge_inner, List.not_mem_nil, false_or]
    cases h1 : st.1 with
    | cons k r => exact .inl ⟨k, .inl (by simp)⟩
    | nil =>
      cases h2 : st.2 with
      | nil => rw [h1, h2] at h; simp at h
      | cons x r =>
        cases ht : tak all x with
        | false => exact .inr ⟨x, x, by simp, .inr ⟨ht, rfl⟩⟩
        | true =>
          have hx := ho x (by rw [h2]; simp)
          obtain ⟨thr, n, i⟩ := x
          obtain ⟨a, b, _⟩ := (okT_mk _ _ _).1 hx
          cases n with
          | cons k n => exact .inl ⟨k, .inr ⟨_, by simp, ht, by simp [Tr.nodes]⟩⟩
          | nil =>
            cases i with
            | cons y i => exact .inr ⟨y, _, by simp, .inl ⟨ht, by simp [Tr.inner]⟩⟩
            | nil => simp at b; omega
  rcases key with ⟨k, hk⟩ | ⟨y, hy⟩
  · have := List.length_pos_of_mem hk; omega
  · have := List.length_pos_of_mem hy; omega
theorem merge_rel (all : Bool) {thr : Int} {st : List Int × List Tr} (h : OkT (.mk thr st.1 st.2)) (hthr : if all then thr = ((st.1.length + st.2.length : Nat) : Int) else thr = 1) : Rel (.mk thr st.1 st.2) (mergedT thr st all) := by
  obtain ⟨a, b, c, d, e⟩ := (okT_mk _ _ _).1 h
  have hne := merge_ne all (st := st) (by omega) e
  have hin : ∀ y ∈ (mergeL all st).2, OkT y ∧ y.dep ≤ depL st.2 := fun y hy => by
    unfold mergeL at hy
    simp only [merge_inner, List.not_mem_nil, false_or] at hy
    obtain ⟨x, hx, ⟨_, hy⟩ | ⟨_, rfl⟩⟩ := hy
    · have hd := (depL_le st.2 _).1 (Nat.le_refl _) x hx
      have hx := e x hx
      obtain ⟨thr', n, i⟩ := x
      simp only [Tr.inner] at hy
      have := (depL_le i _).1 (Nat.le_refl _) y hy
      rw [dep_mk] at hd
      exact ⟨((okT_mk _ _ _).1 hx).2.2.2.2 y hy, by omega⟩
    · exact ⟨e y hx, (depL_le st.2 _).1 (Nat.le_refl _) y hx⟩
  have hnn : ∀ k ∈ (mergeL all st).1, 0 ≤ k ∧ k < 10 := fun k hk => by
    unfold mergeL at hk
    simp only [merge_nodes] at hk
    rcases hk with hk | ⟨x, hx, _, hk⟩
    · exact c k hk
    · have hx := e x hx
      obtain ⟨thr', n, i⟩ := x
      exact ((okT_mk _ _ _).1 hx).2.2.1 k hk
  have hnd : (mergeL all st).1.Nodup := merge_nodup all _ _ d
  have hw := merge_wgt all st.2 (st.1, [])
  unfold mergedT
  refine ⟨(okT_mk _ _ _).2 ⟨?_, ?_, hnn, hnd, fun x hx => (hin x hx).1⟩, fun s hs => ?_, ?_, ?_⟩
  · cases all
    · simp only [Bool.false_eq_true, if_false]; omega
    · simp only [if_true]; omega
  · cases all
    · simp only [Bool.false_eq_true, if_false] at hthr ⊢; omega
    · simp only [if_true]; omega
  · rw [Bool.eq_iff_iff]
    cases all
    · simp only [Bool.false_eq_true, if_false] at hthr ⊢
      subst hthr
      rw [sat_any1 hs, sat_any1 hs, merge_anyE hs]
    · simp only [if_true] at hthr ⊢
      rw [sat_all1 hs rfl, sat_all1 hs hthr, merge_allE hs]
  · rw [size_mk, size_mk]
    have : wgt ([] : List Tr) = 0 := by simp [wgt, sizeL]
    unfold mergeL
    simp only [this] at hw
    omega
  · rw [dep_mk, dep_mk]
    have := (depL_le (mergeL all st).2 (depL st.2)).2 (fun y hy => (hin y hy).2)
    omega
theorem mrg_rel {thr : Int} {st : List Int × List Tr} (h : OkT (.mk thr st.1 st.2)) : Rel (.mk thr st.1 st.2) (mrgT thr st) := by
  unfold mrgT
  split
  · exact merge_rel false h (by simpa)
  · split
    · exact merge_rel true h (by simpa)
    · exact Rel.refl h

/-! ### Sorting -/
theorem insT_perm (l : List Tr) (x : Tr) : (insT l x).Perm (x :: l) := by
  unfold insT
  generalize l.length - _ = m
  refine List.perm_middle.trans ?_
  rw [List.take_append_drop]
theorem sortT_perm' : ∀ (L l : List Tr), (L.foldl insT l).Perm (l ++ L)
  | [], l => by simp
  | x :: r, l => by
    rw [List.foldl_cons]
    refine (sortT_perm' r _).trans (((insT_perm l x).append_right r).trans ?_)
    exact List.perm_middle.symm
theorem sortT_perm (l : List Tr) : (sortT l).Perm l := by simpa [sortT] using sortT_perm' l []
theorem mem_sortN {l : List Int} (h : ∀ x ∈ l, 0 ≤ x ∧ x < 10) (k : Int) : k ∈ sortN l ↔ k ∈ l := by
  unfold sortN
  rw [List.mem_filter]
  constructor
  · rintro ⟨_, hk⟩
    obtain ⟨x, hx, e⟩ := List.any_eq_true.1 hk
    exact (of_decide_eq_true e) ▸ hx
  · intro hk
    refine ⟨?_, List.any_eq_true.2 ⟨k, hk, decide_eq_true rfl⟩⟩
    obtain ⟨a, b⟩ := h k hk
    obtain ⟨n, rfl⟩ := Int.eq_ofNat_of_zero_le a
    exact List.mem_map.2 ⟨n, by simp; omega, rfl⟩
theorem sortN_nodup (l : List Int) : (sortN l).Nodup := List.Pairwise.filter _ (by decide)
theorem sortN_perm {l : List Int} (h : ∀ x ∈ l, 0 ≤ x ∧ x < 10) (hd : l.Nodup) : (sortN l).Perm l :=
  (List.perm_ext_iff_of_nodup (sortN_nodup l) hd).2 (fun k => mem_sortN h k)
theorem sizeL_perm {l m : List Tr} (h : l.Perm m) : sizeL l = sizeL m := by
  induction h with
  | nil => rfl
  | cons x _ ih => simp only [sizeL, ih]
  | swap x y l => simp only [sizeL]; omega
  | trans _ _ a b => exact a.trans b
theorem depL_perm {l m : List Tr} (h : l.Perm m) : depL l = depL m := by
  induction h with
  | nil => rfl
  | cons x _ ih => simp only [depL, ih]
  | swap x y l => simp only [depL]; omega
  | trans _ _ a b => exact a.trans b
theorem ord_rel {t : Tr} (h : OkT t) : Rel t (ordT t) := by
  obtain ⟨thr, n, i⟩ := t
  obtain ⟨a, b, c, d, e⟩ := (okT_mk _ _ _).1 h
  have p1 := sortN_perm c d
  have p2 := sortT_perm i
  unfold ordT
  simp only [Tr.thr, Tr.nodes, Tr.inner]
  refine ⟨(okT_mk _ _ _).2 ⟨a, by rw [p1.length_eq, p2.length_eq]; exact b, fun x hx => c x ((mem_sortN c x).1 hx), sortN_nodup n, fun x hx => e x (p2.mem_iff.1 hx)⟩, fun s hs => ?_, ?_, ?_⟩
  · rw [sat_mk hs, sat_mk hs, cntI_eq, cntI_eq]
    unfold cntN
    rw [p1.countP_eq, p2.countP_eq]
  · rw [size_mk, size_mk]
    unfold wgt
    rw [p1.length_eq, p2.length_eq, sizeL_perm p2]
    omega
  · rw [dep_mk, dep_mk, depL_perm p2]
    omega
theorem fin_rel {t : Tr} (h : OkT t) : Rel t (finT t) := by
  obtain ⟨thr, n, i⟩ := t
  unfold finT
  simp only [Tr.nodes, Tr.inner]
  split
  · rename_i y
    obtain ⟨a, b, c, d, e⟩ := (okT_mk _ _ _).1 h
    simp only [List.length_nil, List.length_cons] at b
    obtain rfl : thr = 1 := by omega
    refine ⟨e y (by simp), fun s hs => ?_, ?_, ?_⟩
    · rw [sat_mk hs]
      simp only [cntI, cntN, List.countP_nil]
      by_cases hb : sat s y = true
      · simp [hb]
      · simp [hb]
    · rw [size_mk, wgt_one]; simp only [List.length_nil]; omega
    · rw [dep_mk]; simp only [depL]; omega
  · exact Rel.refl h

/-! ### The whole -/
mutual
theorem norm_rel : ∀ t : Tr, OkT t → Rel t (normT t)
  | .mk thr nodes inner, h => by
    obtain ⟨a, b, c, d, e⟩ := (okT_mk _ _ _).1 h
    obtain ⟨l1, l2, l3, l4, l5⟩ := norm_relL inner e
    obtain ⟨f1, f2, f3, f4, f5, f6, f7⟩ := lift_all (normL inner) (nodes, []) l2 d c (by simp)
    have h1 : Rel (.mk thr nodes inner) (.mk thr ((normL inner).foldl liftS (nodes, [])).1 ((normL inner).foldl liftS (nodes, [])).2) := by
      have hw : wgt ([] : List Tr) = 0 := by simp [wgt, sizeL]
      simp only [List.length_nil, Nat.add_zero, hw] at f2 f6
      refine ⟨(okT_mk _ _ _).2 ⟨a, by omega, f4, f3, f5⟩, fun s hs => ?_, ?_, ?_⟩
      · have e1 : cntN s ((normL inner).foldl liftS (nodes, [])).1 + cntI s ((normL inner).foldl liftS (nodes, [])).2 = cntN s nodes + cntI s inner := by
          rw [f1 s hs, l3 s hs]
          simp [cntI]
        rw [sat_mk hs, sat_mk hs, e1]
      · rw [size_mk, size_mk]; omega
      · rw [dep_mk, dep_mk]
        have := f7 (depL inner) (by simp [depL]) l5
        omega
    have h2 := mrg_rel h1.1
    have h3 := ord_rel h2.1
    have h4 := fin_rel h3.1
    simp only [normT]
    exact ((h1.trans h2).trans h3).trans h4
theorem norm_relL : ∀ L : List Tr, (∀ x ∈ L, OkT x) → (normL L).length = L.length ∧ (∀ x ∈ normL L, OkT x) ∧ (∀ s, validB s = true → cntI s (normL L) = cntI s L) ∧ wgt (normL L) ≤ wgt L ∧ depL (normL L) ≤ depL L
  | [], _ => by simp [normL]
  | x :: r, h => by
    obtain ⟨a1, a2, a3, a4⟩ := norm_rel x (h x (by simp))
    obtain ⟨b1, b2, b3, b4, b5⟩ := norm_relL r (fun y hy => h y (List.mem_cons_of_mem _ hy))
    simp only [normL]
    refine ⟨by simp [b1], fun y hy => ?_, fun s hs => ?_, ?_, ?_⟩
    · rcases List.mem_cons.1 hy with rfl | hy
      · exact a1
      · exact b2 y hy
    · simp only [cntI, a2 s hs, b3 s hs]
    · rw [wgt_cons, wgt_cons]; omega
    · simp only [depL]; omega
end
/-- The normal form of a valid trust: valid, the same meaning, no more entries and levels. -/
theorem norm_ok {t : Tr} (h : validE t = 0) : validE (normT t) = 0 ∧ (∀ s, validB s = true → sat s (normT t) = sat s t) ∧ (normT t).size ≤ t.size ∧ (normT t).dep ≤ t.dep := by
  unfold validE at h
  split at h
  · omega
  · rename_i h0
    obtain ⟨a, b, c, d⟩ := norm_rel t ((okT_iff t).1 h)
    refine ⟨?_, b, c, d⟩
    unfold validE
    rw [if_neg (by omega)]
    exact (okT_iff _).2 a
end Go.Proofs.YtoblhcieidljjaaGreatDoor

/- Plain: trusts with other nodes. -/
namespace Go.Proofs.YtoblhcieidljjaaGreatDoor
open Go.RowKit

mutual
/-- A trust with other nodes. -/
def mapT (φ : Int → Int) : Tr → Tr
  | .mk th n i => .mk th (n.map φ) (mapTL φ i)
def mapTL (φ : Int → Int) : List Tr → List Tr
  | [] => []
  | x :: r => mapT φ x :: mapTL φ r
end
theorem mapTL_map (φ : Int → Int) : ∀ l, mapTL φ l = l.map (mapT φ)
  | [] => by simp [mapTL]
  | x :: r => by simp [mapTL, mapTL_map φ r]
theorem mapT_mk (φ : Int → Int) (th : Int) (n : List Int) (i : List Tr) : mapT φ (.mk th n i) = .mk th (n.map φ) (mapTL φ i) := by simp only [mapT]
mutual
theorem mapT_id : ∀ t, mapT (fun x => x) t = t
  | .mk th n i => by simp only [mapT, List.map_id', mapTL_id i]
theorem mapTL_id : ∀ l, mapTL (fun x => x) l = l
  | [] => by simp [mapTL]
  | x :: r => by simp only [mapTL, mapT_id x, mapTL_id r]
end
mutual
/-- All nodes, at all levels. -/
def allN (P : Int → Prop) : Tr → Prop
  | .mk _ n i => (∀ x ∈ n, P x) ∧ allNL P i
def allNL (P : Int → Prop) : List Tr → Prop
  | [] => True
  | x :: r => allN P x ∧ allNL P r
end
theorem allNL_get {P : Int → Prop} : ∀ {l : List Tr}, allNL P l → ∀ k (hk : k < l.length), allN P l[k]
  | [], _, k, hk => absurd hk (by simp)
  | x :: r, h, k, hk => by
    simp only [allNL] at h
    cases k with
    | zero => exact h.1
    | succ k => exact allNL_get h.2 k (by simpa using hk)
mutual
theorem allN_all : ∀ t, allN (fun _ => True) t
  | .mk _ n i => by simp only [allN]; exact ⟨fun _ _ => trivial, allNL_all i⟩
theorem allNL_all : ∀ l, allNL (fun _ => True) l
  | [] => by simp [allNL]
  | x :: r => by simp only [allNL]; exact ⟨allN_all x, allNL_all r⟩
end


mutual
theorem mapT_dep (φ : Int → Int) : ∀ t, (mapT φ t).dep = t.dep
  | .mk th n i => by simp only [mapT, Tr.dep, mapTL_dep φ i]
theorem mapTL_dep (φ : Int → Int) : ∀ l, depL (mapTL φ l) = depL l
  | [] => by simp [mapTL]
  | x :: r => by simp only [mapTL, depL, mapT_dep φ x, mapTL_dep φ r]
end
theorem mapTL_len (φ : Int → Int) (l : List Tr) : (mapTL φ l).length = l.length := by rw [mapTL_map]; simp
mutual
theorem mapT_size (φ : Int → Int) : ∀ t, (mapT φ t).size = t.size
  | .mk th n i => by simp only [mapT, Tr.size, mapTL_size φ i, mapTL_len, List.length_map]
theorem mapTL_size (φ : Int → Int) : ∀ l, sizeL (mapTL φ l) = sizeL l
  | [] => by simp [mapTL]
  | x :: r => by simp only [mapTL, sizeL, mapT_size φ x, mapTL_size φ r]
end
/-- A map of the numbers below n into themselves, one to one. -/
structure Inj (φ : Int → Int) (n : Nat) : Prop where
  bd : ∀ x, 0 ≤ x → x < (n : Int) → 0 ≤ φ x ∧ φ x < (n : Int)
  inj : ∀ x y, 0 ≤ x → x < (n : Int) → 0 ≤ y → y < (n : Int) → φ x = φ y → x = y
theorem map_nodup {φ : Int → Int} {n : Nat} (h : Inj φ n) : ∀ l : List Int, (∀ x ∈ l, 0 ≤ x ∧ x < (n : Int)) → l.Nodup → (l.map φ).Nodup
  | [], _, _ => by simp
  | x :: r, hl, hd => by
    rw [List.nodup_cons] at hd
    rw [List.map_cons, List.nodup_cons]
    refine ⟨fun hm => ?_, map_nodup h r (fun y hy => hl y (List.mem_cons_of_mem _ hy)) hd.2⟩
    obtain ⟨y, hy, e⟩ := List.mem_map.1 hm
    have h1 := hl x (by simp)
    have h2 := hl y (List.mem_cons_of_mem _ hy)
    exact hd.1 (h.inj y x h2.1 h2.2 h1.1 h1.2 e ▸ hy)
mutual
theorem mapT_in {φ : Int → Int} {n : Nat} (h : Inj φ n) : ∀ t, nodesIn n t → nodesIn n (mapT φ t)
  | .mk th l i, ht => by
    simp only [nodesIn] at ht
    simp only [mapT, nodesIn]
    refine ⟨fun x hx => ?_, mapTL_in h i ht.2⟩
    obtain ⟨y, hy, rfl⟩ := List.mem_map.1 hx
    exact h.bd y (ht.1 y hy).1 (ht.1 y hy).2
theorem mapTL_in {φ : Int → Int} {n : Nat} (h : Inj φ n) : ∀ l, nodesInL n l → nodesInL n (mapTL φ l)
  | [], _ => by simp [mapTL, nodesInL]
  | x :: r, ht => by
    simp only [nodesInL] at ht
    simp only [mapTL, nodesInL]
    exact ⟨mapT_in h x ht.1, mapTL_in h r ht.2⟩
end
mutual
theorem mapT_ok {φ : Int → Int} {n : Nat} (hn : n ≤ 10) (h : Inj φ n) : ∀ t, nodesIn n t → OkT t → OkT (mapT φ t)
  | .mk th l i, ht, ho => by
    simp only [nodesIn] at ht
    simp only [OkT] at ho
    simp only [mapT, OkT, mapTL_len, List.length_map]
    refine ⟨ho.1, ho.2.1, fun x hx => ?_, map_nodup h l ht.1 ho.2.2.2.1, mapTL_ok hn h i ht.2 ho.2.2.2.2⟩
    obtain ⟨y, hy, rfl⟩ := List.mem_map.1 hx
    have := h.bd y (ht.1 y hy).1 (ht.1 y hy).2
    constructor <;> omega
theorem mapTL_ok {φ : Int → Int} {n : Nat} (hn : n ≤ 10) (h : Inj φ n) : ∀ l, nodesInL n l → OkTs l → OkTs (mapTL φ l)
  | [], _, _ => by simp [mapTL, OkTs]
  | x :: r, ht, ho => by
    simp only [nodesInL] at ht
    simp only [OkTs] at ho
    simp only [mapTL, OkTs]
    exact ⟨mapT_ok hn h x ht.1 ho.1, mapTL_ok hn h r ht.2 ho.2⟩
end
theorem mapT_valid {φ : Int → Int} {n : Nat} (hn : n ≤ 10) (h : Inj φ n) {t : Tr} (ht : nodesIn n t) (hv : validE t = 0) : validE (mapT φ t) = 0 := by
  unfold validE at hv ⊢
  rw [mapT_dep, mapT_size]
  by_cases hc : 4 < t.dep ∨ 200 < t.size
  · rw [if_pos hc] at hv; omega
  · rw [if_neg hc] at hv ⊢
    exact (okT_iff _).2 (mapT_ok hn h t ht ((okT_iff _).1 hv))
mutual
/-- A renamed trust is satisfied by a renamed set exactly if the trust is by the set. -/
theorem mapT_sat {φ : Int → Int} {n : Nat} {x y : Int} (hv : validB x = validB y) (h : ∀ k, 0 ≤ k → k < (n : Int) → hasB y (φ k) = hasB x k) : ∀ t, nodesIn n t → sat y (mapT φ t) = sat x t
  | .mk th l i, ht => by
    simp only [nodesIn] at ht
    have e : cntN y (l.map φ) = cntN x l := by
      unfold cntN
      rw [List.countP_map]
      exact List.countP_congr fun k hk => by simp only [Function.comp]; rw [h k (ht.1 k hk).1 (ht.1 k hk).2]
    simp only [mapT, sat, hv, e, mapTL_sat hv h i ht.2]
theorem mapTL_sat {φ : Int → Int} {n : Nat} {x y : Int} (hv : validB x = validB y) (h : ∀ k, 0 ≤ k → k < (n : Int) → hasB y (φ k) = hasB x k) : ∀ l, nodesInL n l → cntI y (mapTL φ l) = cntI x l
  | [], _ => by simp [mapTL, cntI]
  | t :: r, ht => by
    simp only [nodesInL] at ht
    simp only [mapTL, cntI, mapT_sat hv h t ht.1, mapTL_sat hv h r ht.2]
end
mutual
theorem mapT_back {φ ψ : Int → Int} {n : Nat} (h : ∀ k, 0 ≤ k → k < (n : Int) → ψ (φ k) = k) : ∀ t, nodesIn n t → mapT ψ (mapT φ t) = t
  | .mk th l i, ht => by
    simp only [nodesIn] at ht
    simp only [mapT, mapTL_back h i ht.2, List.map_map]
    rw [List.map_congr_left (g := fun x => x) fun k hk => by simp only [Function.comp]; exact h k (ht.1 k hk).1 (ht.1 k hk).2]
    simp
theorem mapTL_back {φ ψ : Int → Int} {n : Nat} (h : ∀ k, 0 ≤ k → k < (n : Int) → ψ (φ k) = k) : ∀ l, nodesInL n l → mapTL ψ (mapTL φ l) = l
  | [], _ => by simp [mapTL]
  | t :: r, ht => by
    simp only [nodesInL] at ht
    simp only [mapTL, mapT_back h t ht.1, mapTL_back h r ht.2]
end
/-! ### Orders -/
/-- The new number of a node. -/
def pf (p : List Int) (x : Int) : Int := p.getD x.toNat 0
/-- A list that puts n numbers into another order. -/
structure Ord (p : List Int) (n : Nat) : Prop where
  len : p.length = n
  nd : p.Nodup
  bd : ∀ x ∈ p, 0 ≤ x ∧ x < (n : Int)
def ordB (p : List Int) (n : Nat) : Bool := decide (p.length = n ∧ p.Nodup ∧ ∀ x ∈ p, 0 ≤ x ∧ x < (n : Int))
theorem ordB_iff (p : List Int) (n : Nat) : ordB p n = true ↔ Ord p n := by
  unfold ordB
  rw [decide_eq_true_eq]
  exact ⟨fun h => ⟨h.1, h.2.1, h.2.2⟩, fun h => ⟨h.len, h.nd, h.bd⟩⟩
theorem pf_get {p : List Int} {k : Nat} (hk : k < p.length) : pf p (k : Int) = p[k] := by
  unfold pf; simp [hk]
theorem nodup_get {α : Type} : ∀ {l : List α}, l.Nodup → ∀ (i j : Nat) (hi : i < l.length) (hj : j < l.length), l[i] = l[j] → i = j := by
  intro l h i j hi hj e
  have hp := List.pairwise_iff_getElem.1 h
  rcases Nat.lt_trichotomy i j with hh | hh | hh
  · exact absurd e (hp i j hi hj hh)
  · exact hh
  · exact absurd e.symm (hp j i hj hi hh)
theorem Ord.inj_ {p : List Int} {n : Nat} (h : Ord p n) : Inj (pf p) n := by
  constructor
  · intro x h0 h1
    obtain ⟨k, rfl⟩ := Int.eq_ofNat_of_zero_le h0
    have hk : k < p.length := by rw [h.len]; omega
    rw [pf_get hk]
    exact h.bd _ (List.getElem_mem hk)
  · intro x y h0 h1 h2 h3 e
    obtain ⟨k, rfl⟩ := Int.eq_ofNat_of_zero_le h0
    obtain ⟨j, rfl⟩ := Int.eq_ofNat_of_zero_le h2
    have hk : k < p.length := by rw [h.len]; omega
    have hj : j < p.length := by rw [h.len]; omega
    rw [pf_get hk, pf_get hj] at e
    rw [nodup_get h.nd k j hk hj e]
/-- An ascending list without twice the same lies above its places. -/
theorem asc_lo {z : List Int} (hs : z.Pairwise (· < ·)) (h0 : ∀ x ∈ z, 0 ≤ x) : ∀ k (hk : k < z.length), (k : Int) ≤ z[k]
  | 0, hk => h0 _ (List.getElem_mem hk)
  | k + 1, hk => by
    have h1 := asc_lo hs h0 k (by omega)
    have h2 := List.pairwise_iff_getElem.1 hs k (k + 1) (by omega) hk (by omega)
    omega
theorem asc_hi {z : List Int} {n : Nat} (hs : z.Pairwise (· < ·)) (hn : ∀ x ∈ z, x < (n : Int)) (hl : z.length = n) : ∀ d k (hk : k < z.length), k + d + 1 = n → z[k] ≤ (k : Int)
  | 0, k, hk, e => by have := hn _ (List.getElem_mem hk); omega
  | d + 1, k, hk, e => by
    have h1 := asc_hi hs hn hl d (k + 1) (by omega) (by omega)
    have h2 := List.pairwise_iff_getElem.1 hs k (k + 1) hk (by omega) (by omega)
    omega
/-- What Rename asks of the sorted list: exactly an order. -/
theorem ord_sorted {p z : List Int} {n : Nat} (hp : z.Perm p) (hs : z.Pairwise (· ≤ ·)) : ((∀ k (hk : k < z.length), z[k] = (k : Int)) ∧ p.length = n) ↔ Ord p n := by
  constructor
  · rintro ⟨h, hl⟩
    refine ⟨hl, hp.nodup_iff.1 (List.pairwise_iff_getElem.2 fun i j hi hj hij => ?_), fun x hx => ?_⟩
    · rw [h i hi, h j hj]; omega
    · obtain ⟨k, hk, rfl⟩ := List.getElem_of_mem (hp.mem_iff.2 hx)
      rw [h k hk]
      have := hp.length_eq
      constructor <;> omega
  · intro h
    refine ⟨?_, h.len⟩
    have hnd : z.Nodup := hp.nodup_iff.2 h.nd
    have hs' : z.Pairwise (· < ·) := List.pairwise_iff_getElem.2 fun i j hi hj hij => by
      have h1 := List.pairwise_iff_getElem.1 hs i j hi hj hij
      have h2 : z[i] ≠ z[j] := List.pairwise_iff_getElem.1 hnd i j hi hj hij
      omega
    have hl : z.length = n := by rw [hp.length_eq, h.len]
    intro k hk
    have h1 := asc_lo hs' (fun x hx => (h.bd x (hp.mem_iff.1 hx)).1) k hk
    have h2 := asc_hi (n := n) hs' (fun x hx => (h.bd x (hp.mem_iff.1 hx)).2) hl (n - k - 1) k hk (by omega)
    omega
theorem ord_perm {l : List Nat} {n : Nat} (h : l.Perm (List.range n)) : Ord (l.map Int.ofNat) n ∧ ∀ j, j < n → ∃ (i : Nat) (hi : i < l.length), l[i] = j := by
  refine ⟨⟨by simp [h.length_eq], ?_, fun x hx => ?_⟩, fun j hj => ?_⟩
  · refine List.Pairwise.map _ (fun a b hab => ?_) (h.nodup_iff.2 List.nodup_range)
    intro e; exact hab (Int.ofNat.inj e)
  · obtain ⟨y, hy, rfl⟩ := List.mem_map.1 hx
    have := List.mem_range.1 (h.mem_iff.1 hy)
    exact ⟨Int.natCast_nonneg y, by show (y : Int) < n; omega⟩
  · obtain ⟨i, hi, e⟩ := List.getElem_of_mem (h.mem_iff.2 (List.mem_range.2 hj))
    exact ⟨i, hi, e⟩
end Go.Proofs.YtoblhcieidljjaaGreatDoor

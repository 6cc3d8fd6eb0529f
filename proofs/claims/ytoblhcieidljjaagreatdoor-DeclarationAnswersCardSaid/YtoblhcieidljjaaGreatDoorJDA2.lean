/- Some texts of this claim, joined: contracts of the functions that it reaches, and plain laws. -/
import Derived.Test.YtoblhcieidljjaaGreatDoorJDA1

set_option linter.unusedSimpArgs false
set_option linter.unusedVariables false
/- The normal form of a valid trust is valid, means the same, and is no larger. -/
namespace Go.Proofs.YtoblhcieidljjaaGreatDoor
open Go.RowKit

/-- t' means what t means, is valid, and no larger. -/
def Rel (t t' : Tr) : Prop := OkT t' ∧ (∀ s, validB s = true → sat s t' = sat s t) ∧ t'.size ≤ t.size ∧ t'.dep ≤ t.dep
theorem Rel.trans {a b c : Tr} (h : Rel a b) (k : Rel b c) : Rel a c := ⟨k.1, fun s hs => (k.2.1 s hs).trans (h.2.1 s hs), Nat.le_trans k.2.2.1 h.2.2.1, Nat.le_trans k.2.2.2 h.2.2.2⟩
theorem Rel.refl {a : Tr} (h : OkT a) : Rel a a := ⟨h, fun _ _ => rfl, Nat.le_refl _, Nat.le_refl _⟩
theorem size_mk (thr : Int) (n : List Int) (i : List Tr) : (Tr.mk thr n i).size = n.length + wgt i := by simp only [Tr.size, wgt]; omega
theorem dep_mk (thr : Int) (n : List Int) (i : List Tr) : (Tr.mk thr n i).dep = depL i + 1 := by simp only [Tr.dep]
theorem okT_mk (thr : Int) (n : List Int) (i : List Tr) : OkT (.mk thr n i) ↔ 1 ≤ thr ∧ thr ≤ ((n.length + i.length : Nat) : Int) ∧ (∀ x ∈ n, 0 ≤ x ∧ x < 10) ∧ n.Nodup ∧ ∀ x ∈ i, OkT x := by simp only [OkT, okTs_iff]

/-! ### Lifting -/
/-- What holds while single nodes are lifted. -/
def LiftI (st0 : List Int × List Tr) (L : List Tr) (st : List Int × List Tr) : Prop :=
  (∀ s, validB s = true → cntN s st.1 + cntI s st.2 = cntN s st0.1 + cntI s st0.2 + cntI s L) ∧ st.1.length + st.2.length = st0.1.length + st0.2.length + L.length ∧ st.1.Nodup ∧ (∀ x ∈ st.1, 0 ≤ x ∧ x < 10) ∧ (∀ x ∈ st.2, OkT x) ∧
    st.1.length + wgt st.2 ≤ st0.1.length + wgt st0.2 + wgt L ∧ (∀ d, depL st0.2 ≤ d → depL L ≤ d → depL st.2 ≤ d)
theorem any_false_mem {l : List Int} {k : Int} (h : ¬ l.any (fun y => decide (y = k)) = true) : k ∉ l := fun hm => h (List.any_eq_true.2 ⟨k, hm, decide_eq_true rfl⟩)
theorem lift_keep {st : List Int × List Tr} {x : Tr} (hx : OkT x) (h1 : st.1.Nodup) (h2 : ∀ x ∈ st.1, 0 ≤ x ∧ x < 10) (h3 : ∀ x ∈ st.2, OkT x) : LiftI st [x] (st.1, st.2 ++ [x]) :=
  ⟨fun s _ => by simp only [cntI_append]; omega, by simp; omega, h1, h2, fun y hy => by
    rcases List.mem_append.1 hy with h | h
    · exact h3 y h
    · simp only [List.mem_singleton] at h; exact h ▸ hx, by simp only [wgt_append]; omega, fun d a b => by simp only [depL_append]; omega⟩
theorem lift_one {st : List Int × List Tr} {x : Tr} (hx : OkT x) (h1 : st.1.Nodup) (h2 : ∀ x ∈ st.1, 0 ≤ x ∧ x < 10) (h3 : ∀ x ∈ st.2, OkT x) : LiftI st [x] (liftS st x) := by
  obtain ⟨thr, n, i⟩ := x
  unfold liftS
  simp only [Tr.nodes, Tr.inner]
  split
  · rename_i k
    split
    · exact lift_keep hx h1 h2 h3
    · rename_i hk
      have hk := any_false_mem hk
      obtain ⟨a, b, c, _⟩ := (okT_mk _ _ _).1 hx
      simp only [List.length_cons, List.length_nil] at b
      obtain rfl : thr = 1 := by omega
      refine ⟨fun s hs => ?_, by simp; omega, ?_, ?_, h3, ?_, fun d a _ => a⟩
      · have e : cntI s [Tr.mk 1 [k] []] = cntN s [k] := by
          simp only [cntI, sat_mk hs, Nat.add_zero]
          unfold cntN
          rw [List.countP_cons, List.countP_nil]
          cases hasB s k <;> simp
        rw [e]
        show cntN s (st.1 ++ [k]) + cntI s st.2 = _
        unfold cntN
        rw [List.countP_append]
        omega
      · refine List.nodup_append.2 ⟨h1, by simp, fun a ha b hb => ?_⟩
        simp only [List.mem_singleton] at hb
        rintro rfl
        exact hk (hb ▸ ha)
      · intro y hy
        rcases List.mem_append.1 hy with h | h
        · exact h2 y h
        · exact c y h
      · simp only [List.length_append, List.length_singleton, wgt_one, size_mk]
        omega
  · exact lift_keep hx h1 h2 h3
theorem lift_all : ∀ (L : List Tr) (st : List Int × List Tr), (∀ x ∈ L, OkT x) → st.1.Nodup → (∀ x ∈ st.1, 0 ≤ x ∧ x < 10) → (∀ x ∈ st.2, OkT x) → LiftI st L (L.foldl liftS st)
  | [], st, _, h1, h2, h3 => ⟨fun _ _ => by simp [cntI], by simp, h1, h2, h3, by simp [wgt, sizeL], fun d a _ => a⟩
  | x :: r, st, hL, h1, h2, h3 => by
    obtain ⟨a1, a2, a3, a4, a5, a6, a7⟩ := lift_one (hL x (by simp)) h1 h2 h3
    obtain ⟨b1, b2, b3, b4, b5, b6, b7⟩ := lift_all r (liftS st x) (fun y hy => hL y (List.mem_cons_of_mem _ hy)) a3 a4 a5
    rw [List.foldl_cons]
    refine ⟨fun s hs => ?_, ?_, b3, b4, b5, ?_, fun d c1 c2 => ?_⟩
    · have e1 := a1 s hs
      have e2 := b1 s hs
      simp only [cntI] at e1 ⊢
      omega
    · simp only [List.length_cons, List.length_nil] at a2 ⊢
      omega
    · rw [wgt_one] at a6
      rw [wgt_cons]
      omega
    · simp only [depL] at c2 a7
      exact b7 d (a7 d c1 (by omega)) (by omega)

/-! ### Merging -/
theorem tak_any {s : Int} (hs : validB s = true) {x : Tr} (h : tak false x = true) : sat s x = true ↔ AnyE s x.nodes x.inner := by
  obtain ⟨thr, n, i⟩ := x
  simp only [tak, Bool.false_eq_true, if_false, Tr.thr] at h
  have h := of_decide_eq_true h
  subst h
  exact sat_any1 hs n i
theorem tak_all {s : Int} (hs : validB s = true) {x : Tr} (h : tak true x = true) : sat s x = true ↔ AllE s x.nodes x.inner := by
  obtain ⟨thr, n, i⟩ := x
  simp only [tak, if_true, Tr.thr, cnt1, Tr.nodes, Tr.inner] at h
  exact sat_all1 hs (of_decide_eq_true h)
theorem merge_anyE {s : Int} (hs : validB s = true) (st : List Int × List Tr) : AnyE s (mergeL false st).1 (mergeL false st).2 ↔ AnyE s st.1 st.2 := by
  unfold AnyE mergeL
  simp only [merge_nodes, merge_inner, List.not_mem_nil, false_or]
  constructor
  · rintro (⟨k, hk | ⟨x, hx, ht, hk⟩, hh⟩ | ⟨y, ⟨x, hx, ⟨ht, hy⟩ | ⟨_, rfl⟩⟩, hh⟩)
    · exact .inl ⟨k, hk, hh⟩
    · exact .inr ⟨x, hx, (tak_any hs ht).2 (.inl ⟨k, hk, hh⟩)⟩
    · exact .inr ⟨x, hx, (tak_any hs ht).2 (.inr ⟨y, hy, hh⟩)⟩
    · exact .inr ⟨y, hx, hh⟩
  · rintro (⟨k, hk, hh⟩ | ⟨x, hx, hh⟩)
    · exact .inl ⟨k, .inl hk, hh⟩
    · cases ht : tak false x with
      | true =>
        rcases (tak_any hs ht).1 hh with ⟨k, hk, h⟩ | ⟨y, hy, h⟩
        · exact .inl ⟨k, .inr ⟨x, hx, ht, hk⟩, h⟩
        · exact .inr ⟨y, ⟨x, hx, .inl ⟨ht, hy⟩⟩, h⟩
      | false => exact .inr ⟨x, ⟨x, hx, .inr ⟨ht, rfl⟩⟩, hh⟩
theorem merge_allE {s : Int} (hs : validB s = true) (st : List Int × List Tr) : AllE s (mergeL true st).1 (mergeL true st).2 ↔ AllE s st.1 st.2 := by
  unfold AllE mergeL
  simp only [merge_nodes, merge_inner, List.not_mem_nil, false_or]
  constructor
  · rintro ⟨h1, h2⟩
    refine ⟨fun k hk => h1 k (.inl hk), fun x hx => ?_⟩
    cases ht : tak true x with
    | true => exact (tak_all hs ht).2 ⟨fun k hk => h1 k (.inr ⟨x, hx, ht, hk⟩), fun y hy => h2 y ⟨x, hx, .inl ⟨ht, hy⟩⟩⟩
    | false => exact h2 x ⟨x, hx, .inr ⟨ht, rfl⟩⟩
  · rintro ⟨h1, h2⟩
    constructor
    · rintro k (hk | ⟨x, hx, ht, hk⟩)
      · exact h1 k hk
      · exact ((tak_all hs ht).1 (h2 x hx)).1 k hk
    · rintro y ⟨x, hx, ⟨ht, hy⟩ | ⟨_, rfl⟩⟩
      · exact ((tak_all hs ht).1 (h2 x hx)).2 y hy
      · exact h2 y hx
theorem merge_ne (all : Bool) {st : List Int × List Tr} (h : 1 ≤ st.1.length + st.2.length) (ho : ∀ x ∈ st.2, OkT x) : 1 ≤ (mergeL all st).1.length + (mergeL all st).2.length := by
  have key : (∃ k, k ∈ (mergeL all st).1) ∨ ∃ y, y ∈ (mergeL all st).2 := by
    unfold mergeL
    simp only [merge_nodes, merge_inner, List.not_mem_nil, false_or]
    cases h1 : st.1 with
    | cons k r => exact .inl ⟨k, .inl (by simp)⟩
    | nil =>
      cases h2 : st.2 with
      | nil => rw [h1, h2] at h; simp at h
      | cons x r =>
        cases ht : tak all x with
        | false => exact .inr ⟨x, x, by simp, .inr ⟨ht, rfl⟩⟩
        | true =>
          have hx := ho x (by rw [h2]; simp)
          obtain ⟨thr, n, i⟩ := x
          obtain ⟨a, b, _⟩ := (okT_mk _ _ _).1 hx
          cases n with
          | cons k n => exact .inl ⟨k, .inr ⟨_, by simp, ht, by simp [Tr.nodes]⟩⟩
          | nil =>
            cases i with
            | cons y i => exact .inr ⟨y, _, by simp, .inl ⟨ht, by simp [Tr.inner]⟩⟩
            | nil => simp at b; omega
  rcases key with ⟨k, hk⟩ | ⟨y, hy⟩
  · have := List.length_pos_of_mem hk; omega
  · have := List.length_pos_of_mem hy; omega
theorem merge_rel (all : Bool) {thr : Int} {st : List Int × List Tr} (h : OkT (.mk thr st.1 st.2)) (hthr : if all then thr = ((st.1.length + st.2.length : Nat) : Int) else thr = 1) : Rel (.mk thr st.1 st.2) (mergedT thr st all) := by
  obtain ⟨a, b, c, d, e⟩ := (okT_mk _ _ _).1 h
  have hne := merge_ne all (st := st) (by omega) e
  have hin : ∀ y ∈ (mergeL all st).2, OkT y ∧ y.dep ≤ depL st.2 := fun y hy => by
    unfold mergeL at hy
    simp only [merge_inner, List.not_mem_nil, false_or] at hy
    obtain ⟨x, hx, ⟨_, hy⟩ | ⟨_, rfl⟩⟩ := hy
    · have hd := (depL_le st.2 _).1 (Nat.le_refl _) x hx
      have hx := e x hx
      obtain ⟨thr', n, i⟩ := x
      simp only [Tr.inner] at hy
      have := (depL_le i _).1 (Nat.le_refl _) y hy
      rw [dep_mk] at hd
      exact ⟨((okT_mk _ _ _).1 hx).2.2.2.2 y hy, by omega⟩
    · exact ⟨e y hx, (depL_le st.2 _).1 (Nat.le_refl _) y hx⟩
  have hnn : ∀ k ∈ (mergeL all st).1, 0 ≤ k ∧ k < 10 := fun k hk => by
    unfold mergeL at hk
    simp only [merge_nodes] at hk
    rcases hk with hk | ⟨x, hx, _, hk⟩
    · exact c k hk
    · have hx := e x hx
      obtain ⟨thr', n, i⟩ := x
      exact ((okT_mk _ _ _).1 hx).2.2.1 k hk
  have hnd : (mergeL all st).1.Nodup := merge_nodup all _ _ d
  have hw := merge_wgt all st.2 (st.1, [])
  unfold mergedT
  refine ⟨(okT_mk _ _ _).2 ⟨?_, ?_, hnn, hnd, fun x hx => (hin x hx).1⟩, fun s hs => ?_, ?_, ?_⟩
  · cases all
    · simp only [Bool.false_eq_true, if_false]; omega
    · simp only [if_true]; omega
  · cases all
    · simp only [Bool.false_eq_true, if_false] at hthr ⊢; omega
    · simp only [if_true]; omega
  · rw [Bool.eq_iff_iff]
    cases all
    · simp only [Bool.false_eq_true, if_false] at hthr ⊢
      subst hthr
      rw [sat_any1 hs, sat_any1 hs, merge_anyE hs]
    · simp only [if_true] at hthr ⊢
      rw [sat_all1 hs rfl, sat_all1 hs hthr, merge_allE hs]
  · rw [size_mk, size_mk]
    have : wgt ([] : List Tr) = 0 := by simp [wgt, sizeL]
    unfold mergeL
    simp only [this] at hw
    omega
  · rw [dep_mk, dep_mk]
    have := (depL_le (mergeL all st).2 (depL st.2)).2 (fun y hy => (hin y hy).2)
    omega
theorem mrg_rel {thr : Int} {st : List Int × List Tr} (h : OkT (.mk thr st.1 st.2)) : Rel (.mk thr st.1 st.2) (mrgT thr st) := by
  unfold mrgT
  split
  · exact merge_rel false h (by simpa)
  · split
    · exact merge_rel true h (by simpa)
    · exact Rel.refl h

/-! ### Sorting -/
theorem insT_perm (l : List Tr) (x : Tr) : (insT l x).Perm (x :: l) := by
  unfold insT
  generalize l.length - _ = m
  refine List.perm_middle.trans ?_
  rw [List.take_append_drop]
theorem sortT_perm' : ∀ (L l : List Tr), (L.foldl insT l).Perm (l ++ L)
  | [], l => by simp
  | x :: r, l => by
    rw [List.foldl_cons]
    refine (sortT_perm' r _).trans (((insT_perm l x).append_right r).trans ?_)
    exact List.perm_middle.symm
theorem sortT_perm (l : List Tr) : (sortT l).Perm l := by simpa [sortT] using sortT_perm' l []
theorem mem_sortN {l : List Int} (h : ∀ x ∈ l, 0 ≤ x ∧ x < 10) (k : Int) : k ∈ sortN l ↔ k ∈ l := by
  unfold sortN
  rw [List.mem_filter]
  constructor
  · rintro ⟨_, hk⟩
    obtain ⟨x, hx, e⟩ := List.any_eq_true.1 hk
    exact (of_decide_eq_true e) ▸ hx
  · intro hk
    refine ⟨?_, List.any_eq_true.2 ⟨k, hk, decide_eq_true rfl⟩⟩
    obtain ⟨a, b⟩ := h k hk
    obtain ⟨n, rfl⟩ := Int.eq_ofNat_of_zero_le a
    exact List.mem_map.2 ⟨n, by simp; omega, rfl⟩
theorem sortN_nodup (l : List Int) : (sortN l).Nodup := List.Pairwise.filter _ (by decide)
theorem sortN_perm {l : List Int} (h : ∀ x ∈ l, 0 ≤ x ∧ x < 10) (hd : l.Nodup) : (sortN l).Perm l :=
  (List.perm_ext_iff_of_nodup (sortN_nodup l) hd).2 (fun k => mem_sortN h k)
theorem sizeL_perm {l m : List Tr} (h : l.Perm m) : sizeL l = sizeL m := by
  induction h with
  | nil => rfl
  | cons x _ ih => simp only [sizeL, ih]
  | swap x y l => simp only [sizeL]; omega
  | trans _ _ a b => exact a.trans b
theorem depL_perm {l m : List Tr} (h : l.Perm m) : depL l = depL m := by
  induction h with
  | nil => rfl
  | cons x _ ih => simp only [depL, ih]
  | swap x y l => simp only [depL]; omega
  | trans _ _ a b => exact a.trans b
theorem ord_rel {t : Tr} (h : OkT t) : Rel t (ordT t) := by
  obtain ⟨thr, n, i⟩ := t
  obtain ⟨a, b, c, d, e⟩ := (okT_mk _ _ _).1 h
  have p1 := sortN_perm c d
  have p2 := sortT_perm i
  unfold ordT
  simp only [Tr.thr, Tr.nodes, Tr.inner]
  refine ⟨(okT_mk _ _ _).2 ⟨a, by rw [p1.length_eq, p2.length_eq]; exact b, fun x hx => c x ((mem_sortN c x).1 hx), sortN_nodup n, fun x hx => e x (p2.mem_iff.1 hx)⟩, fun s hs => ?_, ?_, ?_⟩
  · rw [sat_mk hs, sat_mk hs, cntI_eq, cntI_eq]
    unfold cntN
    rw [p1.countP_eq, p2.countP_eq]
  · rw [size_mk, size_mk]
    unfold wgt
    rw [p1.length_eq, p2.length_eq, sizeL_perm p2]
    omega
  · rw [dep_mk, dep_mk, depL_perm p2]
    omega
theorem fin_rel {t : Tr} (h : OkT t) : Rel t (finT t) := by
  obtain ⟨thr, n, i⟩ := t
  unfold finT
  simp only [Tr.nodes, Tr.inner]
  split
  · rename_i y
    obtain ⟨a, b, c, d, e⟩ := (okT_mk _ _ _).1 h
    simp only [List.length_nil, List.length_cons] at b
    obtain rfl : thr = 1 := by omega
    refine ⟨e y (by simp), fun s hs => ?_, ?_, ?_⟩
    · rw [sat_mk hs]
      simp only [cntI, cntN, List.countP_nil]
      by_cases hb : sat s y = true
      · simp [hb]
      · simp [hb]
    · rw [size_mk, wgt_one]; simp only [List.length_nil]; omega
    · rw [dep_mk]; simp only [depL]; omega
  · exact Rel.refl h

/-! ### The whole -/
mutual
theorem norm_rel : ∀ t : Tr, OkT t → Rel t (normT t)
  | .mk thr nodes inner, h => by
    obtain ⟨a, b, c, d, e⟩ := (okT_mk _ _ _).1 h
    obtain ⟨l1, l2, l3, l4, l5⟩ := norm_relL inner e
    obtain ⟨f1, f2, f3, f4, f5, f6, f7⟩ := lift_all (normL inner) (nodes, []) l2 d c (by simp)
    have h1 : Rel (.mk thr nodes inner) (.mk thr ((normL inner).foldl liftS (nodes, [])).1 ((normL inner).foldl liftS (nodes, [])).2) := by
      have hw : wgt ([] : List Tr) = 0 := by simp [wgt, sizeL]
      simp only [List.length_nil, Nat.add_zero, hw] at f2 f6
      refine ⟨(okT_mk _ _ _).2 ⟨a, by omega, f4, f3, f5⟩, fun s hs => ?_, ?_, ?_⟩
      · have e1 : cntN s ((normL inner).foldl liftS (nodes, [])).1 + cntI s ((normL inner).foldl liftS (nodes, [])).2 = cntN s nodes + cntI s inner := by
          rw [f1 s hs, l3 s hs]
          simp [cntI]
        rw [sat_mk hs, sat_mk hs, e1]
      · rw [size_mk, size_mk]; omega
      · rw [dep_mk, dep_mk]
        have := f7 (depL inner) (by simp [depL]) l5
        omega
    have h2 := mrg_rel h1.1
    have h3 := ord_rel h2.1
    have h4 := fin_rel h3.1
    simp only [normT]
    exact ((h1.trans h2).trans h3).trans h4
theorem norm_relL : ∀ L : List Tr, (∀ x ∈ L, OkT x) → (normL L).length = L.length ∧ (∀ x ∈ normL L, OkT x) ∧ (∀ s, validB s = true → cntI s (normL L) = cntI s L) ∧ wgt (normL L) ≤ wgt L ∧ depL (normL L) ≤ depL L
  | [], _ => by simp [normL]
  | x :: r, h => by
    obtain ⟨a1, a2, a3, a4⟩ := norm_rel x (h x (by simp))
    obtain ⟨b1, b2, b3, b4, b5⟩ := norm_relL r (fun y hy => h y (List.mem_cons_of_mem _ hy))
    simp only [normL]
    refine ⟨by simp [b1], fun y hy => ?_, fun s hs => ?_, ?_, ?_⟩
    · rcases List.mem_cons.1 hy with rfl | hy
      · exact a1
      · exact b2 y hy
    · simp only [cntI, a2 s hs, b3 s hs]
    · rw [wgt_cons, wgt_cons]; omega
    · simp only [depL]; omega
end
/-- The normal form of a valid trust: valid, the same meaning, no more entries and levels. -/
theorem norm_ok {t : Tr} (h : validE t = 0) : validE (normT t) = 0 ∧ (∀ s, validB s = true → sat s (normT t) = sat s t) ∧ (normT t).size ≤ t.size ∧ (normT t).dep ≤ t.dep := by
  unfold validE at h
  split at h
  · omega
  · rename_i h0
    obtain ⟨a, b, c, d⟩ := norm_rel t ((okT_iff t).1 h)
    refine ⟨?_, b, c, d⟩
    unfold validE
    rw [if_neg (by omega)]
    exact (okT_iff _).2 a
end Go.Proofs.YtoblhcieidljjaaGreatDoor

/- What stays true of the world beside two declarations that lie in blocks of their own. -/
namespace Go.Proofs.YtoblhcieidljjaaGreatDoor
open Go.RowKit

/-- What stays true of the world: two declarations' cells, the frame. -/
def Kd (w5 : World) (bd bx : Nat) (da xa : Array Value) (W : World) : Prop := (∀ i, W.cell? ⟨bd, i, none⟩ = da[i]?) ∧ (∀ i, W.cell? ⟨bx, i, none⟩ = xa[i]?) ∧ Fr none w5 W
theorem Kd.fr {w5 W W' : World} {bd bx : Nat} {da xa : Array Value} (h : Kd w5 bd bx da xa W) (hd : bd < w5.heap.size) (hx : bx < w5.heap.size) (F : Fr none W W') : Kd w5 bd bx da xa W' := by
  have hz := h.2.2.size
  refine ⟨fun i => ?_, fun i => ?_, h.2.2.pure F⟩
  · rw [F.cell (by simp; omega) (by simp)]; exact h.1 i
  · rw [F.cell (by simp; omega) (by simp)]; exact h.2.1 i
theorem Kd.frame {w5 W : World} {bd bx : Nat} {da xa : Array Value} (h : Kd w5 bd bx da xa W) : Fr none w5 W := h.2.2
theorem kd_three {w5 W : World} {bd bx : Nat} {da xa : Array Value} (h : Kd w5 bd bx da xa W) : (∀ i, W.cell? ⟨bd, i, none⟩ = da[i]?) ∧ (∀ i, W.cell? ⟨bx, i, none⟩ = xa[i]?) ∧ Kd w5 bd bx da xa W := ⟨h.1, h.2.1, h⟩

theorem Kd.alloc {w5 W : World} {bd bx : Nat} {da xa : Array Value} (h : Kd w5 bd bx da xa W) (hd : bd < w5.heap.size) (hx : bx < w5.heap.size) (o : Obj) : Kd w5 bd bx da xa (W.alloc o) := h.fr hd hx ((Fr.refl none W).alloc o)
end Go.Proofs.YtoblhcieidljjaaGreatDoor

/- Trusts as they come in: of whatever size (each list shorter than 2^44). Small ones read as trusts (TrR). No program in sight. -/
namespace Go.Proofs.YtoblhcieidljjaaGreatDoor
open Go.RowKit

mutual
/-- The struct value v reads as the trust. -/
def RwD (w : World) : Value → Tr → Prop
  | v, .mk thr nodes inner => ∃ vn vi cells, v = .agg #[.int .i64 thr, vn, vi] ∧ Wi thr ∧ SlD w (Dm w none) 1 vn (nodes.map (Value.int .i64)) ∧ (∀ n ∈ nodes, Wi n) ∧ SlD w (Dm w none) 3 vi cells ∧
      nodes.length ≤ 17592186044416 ∧ inner.length ≤ 17592186044416 ∧ RwsD w cells inner
def RwsD (w : World) : List Value → List Tr → Prop
  | cells, [] => cells = []
  | cells, x :: r => ∃ a b c rest, cells = a :: b :: c :: rest ∧ RwD w (.agg #[a, b, c]) x ∧ RwsD w rest r
end
mutual
theorem RwD.keep {w w' : World} (F : Fr none w w') : ∀ (t : Tr) (v : Value), RwD w v t → RwD w' v t
  | .mk thr nodes inner, v, h => by
    simp only [RwD] at h ⊢
    obtain ⟨vn, vi, cells, e, h0, h1, h2, h3, h4, h5, h6⟩ := h
    exact ⟨vn, vi, cells, e, h0, h1.keep (fr_dm F), h2, h3.keep (fr_dm F), h4, h5, RwsD.keep F inner cells h6⟩
theorem RwsD.keep {w w' : World} (F : Fr none w w') : ∀ (l : List Tr) (cells : List Value), RwsD w cells l → RwsD w' cells l
  | [], cells, h => by simp only [RwsD] at h ⊢; exact h
  | x :: r, cells, h => by
    simp only [RwsD] at h ⊢
    obtain ⟨a, b, c, rest, e, h1, h2⟩ := h
    exact ⟨a, b, c, rest, e, RwD.keep F x _ h1, RwsD.keep F r rest h2⟩
end
theorem RwD.fr {w w' : World} {v : Value} {t : Tr} (h : RwD w v t) (F : Fr none w w') : RwD w' v t := RwD.keep F t v h
mutual
/-- A small one reads as a trust. -/
theorem RwD.trust {w : World} : ∀ (t : Tr) (v : Value), t.size ≤ 1073741824 → RwD w v t → TrD w (Dm w none) v t
  | .mk thr nodes inner, v, hs, h => by
    simp only [RwD] at h
    simp only [Tr.size] at hs
    obtain ⟨vn, vi, cells, e, h0, h1, h2, h3, h4, h5, h6⟩ := h
    simp only [TrD]
    exact ⟨vn, vi, cells, e, h0, h1, h2, h3, by unfold Few; omega, by unfold Few; omega, RwsD.trust inner cells (by omega) h6⟩
theorem RwsD.trust {w : World} : ∀ (l : List Tr) (cells : List Value), sizeL l ≤ 1073741824 → RwsD w cells l → TrsD w (Dm w none) cells l
  | [], cells, _, h => by simp only [RwsD] at h; simp only [TrsD]; exact h
  | x :: r, cells, hs, h => by
    simp only [RwsD] at h
    simp only [sizeL] at hs
    obtain ⟨a, b, c, rest, e, h1, h2⟩ := h
    simp only [TrsD]
    exact ⟨a, b, c, rest, e, RwD.trust x _ (by omega) h1, RwsD.trust r rest (by omega) h2⟩
end
theorem RwD.small {w : World} {t : Tr} {v : Value} (h : RwD w v t) (hs : t.size ≤ 1073741824) : TrR w none v t := RwD.trust t v hs h

theorem RwsD.len {w : World} : ∀ {l : List Tr} {cells : List Value}, RwsD w cells l → cells.length = l.length * 3
  | [], cells, h => by simp only [RwsD] at h; simp [h]
  | x :: r, cells, h => by
    simp only [RwsD] at h
    obtain ⟨a, b, c, rest, rfl, _, h2⟩ := h
    have := RwsD.len h2
    simp only [List.length_cons, this]
    omega
theorem RwsD.get {w : World} : ∀ {l : List Tr} {cells : List Value}, RwsD w cells l → ∀ k (hk : k < l.length),
    ∃ a b c, cells[k * 3]? = some a ∧ cells[k * 3 + 1]? = some b ∧ cells[k * 3 + 2]? = some c ∧ RwD w (.agg #[a, b, c]) l[k]
  | [], cells, h, k, hk => absurd hk (by simp)
  | x :: r, cells, h, k, hk => by
    simp only [RwsD] at h
    obtain ⟨a, b, c, rest, rfl, h1, h2⟩ := h
    cases k with
    | zero => exact ⟨a, b, c, rfl, rfl, rfl, h1⟩
    | succ k =>
      obtain ⟨a', b', c', g1, g2, g3, g4⟩ := RwsD.get h2 k (by simpa using hk)
      refine ⟨a', b', c', ?_, ?_, ?_, g4⟩
      · rw [show (k + 1) * 3 = k * 3 + 1 + 1 + 1 from by omega]; simpa using g1
      · rw [show (k + 1) * 3 + 1 = k * 3 + 1 + 1 + 1 + 1 from by omega]; simpa using g2
      · rw [show (k + 1) * 3 + 2 = k * 3 + 2 + 1 + 1 + 1 from by omega]; simpa using g3
theorem RwD.shape {w : World} {v : Value} {t : Tr} (h : RwD w v t) :
    ∃ (th : Int) (A1 : Option Addr) (n1 c1 : Nat) (A2 : Option Addr) (n2 c2 : Nat), v = .agg #[.int .i64 th, .slice A1 n1 c1, .slice A2 n2 c2] := by
  obtain ⟨thr, nodes, inner⟩ := t
  simp only [RwD] at h
  obtain ⟨vn, vi, cells, rfl, h0, h1, h2, h3, h4, h5, h6⟩ := h
  obtain ⟨A, n, c, rfl, _⟩ := h1
  obtain ⟨A', n', c', rfl, _⟩ := h3
  exact ⟨thr, A, n, c, A', n', c', rfl⟩
theorem RwD.shape3 {w : World} {x y z : Value} {t : Tr} (h : RwD w (.agg #[x, y, z]) t) :
    ∃ (th : Int) (A1 : Option Addr) (n1 c1 : Nat) (A2 : Option Addr) (n2 c2 : Nat), x = .int .i64 th ∧ y = .slice A1 n1 c1 ∧ z = .slice A2 n2 c2 := by
  obtain ⟨th, A1, n1, c1, A2, n2, c2, e⟩ := h.shape
  simp only [Value.agg.injEq, Array.mk.injEq, List.cons.injEq, and_true] at e
  exact ⟨th, A1, n1, c1, A2, n2, c2, e.1, e.2.1, e.2.2⟩
theorem RwD.open_ {w : World} {v : Value} {thr : Int} {nodes : List Int} {inner : List Tr} (h : RwD w v (.mk thr nodes inner)) :
    ∃ A c A' c', v = .agg #[.int .i64 thr, .slice A nodes.length c, .slice A' inner.length c'] ∧ Wi thr ∧ nodes.length ≤ 17592186044416 ∧ inner.length ≤ 17592186044416 ∧ inner.length ≤ c' ∧ c' ≤ 9223372036854775807 ∧
      (0 < inner.length → ∃ b off, A' = some ⟨b, off, none⟩ ∧ b < w.heap.size ∧ ∀ k (hk : k < inner.length), ∃ x y z, w.cell? ⟨b, off + k * 3, none⟩ = some x ∧ w.cell? ⟨b, off + k * 3 + 1, none⟩ = some y ∧ w.cell? ⟨b, off + k * 3 + 2, none⟩ = some z ∧ RwD w (.agg #[x, y, z]) inner[k]) := by
  simp only [RwD] at h
  obtain ⟨vn, vi, cells, rfl, h0, h1, h2, h3, h4, h5, h6⟩ := h
  obtain ⟨A, n, c, rfl, hl, hc, hm, hx⟩ := h1
  obtain ⟨A', n', c', rfl, hl', hc', hm', hx'⟩ := h3
  have hlen := h6.len
  have hn' : n' = inner.length := by omega
  have hn : n = nodes.length := by simpa using hl.symm
  subst hn' hn
  unfold maxLen at hm hm'
  refine ⟨A, c, A', c', rfl, h0, h4, h5, hc', hm', fun hp => ?_⟩
  obtain ⟨b, off, rfl, hb, hx⟩ := hx' hp
  refine ⟨b, off, rfl, hb.1, fun k hk => ?_⟩
  obtain ⟨x, y, z, g1, g2, g3, g4⟩ := h6.get k hk
  exact ⟨x, y, z, hx _ _ g1, hx _ _ g2, hx _ _ g3, g4⟩
end Go.Proofs.YtoblhcieidljjaaGreatDoor

/- Some texts of this claim, joined: contracts of the functions that it reaches, and plain laws. -/
import Derived.Test.YtpdhckbiioobhaaGreatDoorJN1

/- Plain: trusts that differ only in the order of their entries have one normal form. -/
namespace Go.Proofs.YtpdhckbiioobhaaGreatDoor

/-- Two pairs of entries that differ in their order. -/
def P2 (a b : List Int × List Tr) : Prop := a.1.Perm b.1 ∧ a.2.Perm b.2
theorem P2.trans {a b c : List Int × List Tr} (h : P2 a b) (k : P2 b c) : P2 a c := ⟨h.1.trans k.1, h.2.trans k.2⟩
theorem P2.refl (a : List Int × List Tr) : P2 a a := ⟨List.Perm.refl _, List.Perm.refl _⟩
theorem lif_perm {n m : List Int} (h : n.Perm m) (x : Tr) : Lif n x ↔ Lif m x :=
  ⟨fun ⟨t, k, e, hk⟩ => ⟨t, k, e, fun hm => hk (h.mem_iff.2 hm)⟩, fun ⟨t, k, e, hk⟩ => ⟨t, k, e, fun hm => hk (h.mem_iff.1 hm)⟩⟩
theorem lift_p2 {a b : List Int × List Tr} (h : P2 a b) (x : Tr) : P2 (liftS a x) (liftS b x) := by
  obtain ⟨n, i⟩ := a
  obtain ⟨m, j⟩ := b
  obtain ⟨h1, h2⟩ := h
  by_cases hl : Lif n x
  · have hl' := (lif_perm h1 x).1 hl
    obtain ⟨t, k, rfl, hk⟩ := hl
    obtain ⟨t', k', e, hk'⟩ := hl'
    injection e with _ e2 _
    injection e2 with e3 _
    subst e3
    rw [liftS_yes hk, liftS_yes hk']
    exact ⟨h1.append_right _, h2⟩
  · rw [liftS_no hl, liftS_no (fun hc => hl ((lif_perm h1 x).2 hc))]
    exact ⟨h1, h2.append_right _⟩
theorem lift_swap (a : List Int × List Tr) {x y : Tr} (hx : OkT x) (hy : OkT y) : P2 (liftS (liftS a x) y) (liftS (liftS a y) x) := by
  obtain ⟨n, i⟩ := a
  have thr1 : ∀ {t k : Int}, OkT (.mk t [k] []) → t = 1 := fun h => by
    obtain ⟨a, b, _⟩ := (okT_mk _ _ _).1 h
    simp at b
    omega
  by_cases lx : Lif n x
  · obtain ⟨t, k, rfl, hk⟩ := lx
    obtain rfl := thr1 hx
    by_cases ly : Lif n y
    · obtain ⟨t', k', rfl, hk'⟩ := ly
      obtain rfl := thr1 hy
      by_cases e : k = k'
      · subst e; exact P2.refl _
      · rw [liftS_yes hk, liftS_yes hk', liftS_yes (show k' ∉ n ++ [k] by simp [hk']; exact fun h => e h.symm), liftS_yes (show k ∉ n ++ [k'] by simp [hk]; exact e)]
        refine ⟨?_, List.Perm.refl _⟩
        rw [List.append_assoc, List.append_assoc]
        exact List.Perm.append_left n (List.Perm.swap _ _ _)
    · rw [liftS_yes hk, liftS_no ly, liftS_yes hk, liftS_no (Lif.mono (fun z hz => List.mem_append_left _ hz) ly)]
      exact P2.refl _
  · by_cases ly : Lif n y
    · obtain ⟨t', k', rfl, hk'⟩ := ly
      rw [liftS_no lx, liftS_yes hk', liftS_yes hk', liftS_no (Lif.mono (fun z hz => List.mem_append_left _ hz) lx)]
      exact P2.refl _
    · rw [liftS_no lx, liftS_no ly, liftS_no ly, liftS_no lx]
      refine ⟨List.Perm.refl _, ?_⟩
      rw [List.append_assoc, List.append_assoc]
      exact List.Perm.append_left i (List.Perm.swap _ _ _)
theorem lift_perm {L M : List Tr} (p : L.Perm M) : (∀ x ∈ L, OkT x) → ∀ a b : List Int × List Tr, P2 a b → P2 (L.foldl liftS a) (M.foldl liftS b) := by
  induction p with
  | nil => exact fun _ a b h => h
  | cons x _ ih => exact fun ho a b h => ih (fun y hy => ho y (List.mem_cons_of_mem _ hy)) _ _ (lift_p2 h x)
  | swap x y l =>
    intro ho a b h
    have hf : ∀ (l : List Tr) (a b : List Int × List Tr), P2 a b → P2 (l.foldl liftS a) (l.foldl liftS b) := by
      intro l
      induction l with
      | nil => exact fun a b h => h
      | cons z r ih => exact fun a b h => ih _ _ (lift_p2 h z)
    refine hf l _ _ ?_
    exact (lift_swap a (ho y (by simp)) (ho x (by simp))).trans (lift_p2 (lift_p2 h x) y)
  | trans p _ ih1 ih2 => exact fun ho a b h => (ih1 ho a a (P2.refl _)).trans (ih2 (fun x hx => ho x (p.mem_iff.2 hx)) a b h)
theorem merge_perm (all : Bool) {a b : List Int × List Tr} (h : P2 a b) (hd : a.1.Nodup) : P2 (mergeL all a) (mergeL all b) := by
  have hd' : b.1.Nodup := h.1.nodup_iff.1 hd
  unfold mergeL
  constructor
  · refine (List.perm_ext_iff_of_nodup (merge_nodup all a.2 (a.1, []) hd) (merge_nodup all b.2 (b.1, []) hd')).2 (fun k => ?_)
    rw [merge_nodes, merge_nodes, h.1.mem_iff]
    constructor
    · rintro (hk | ⟨x, hx, r⟩)
      · exact .inl hk
      · exact .inr ⟨x, h.2.mem_iff.1 hx, r⟩
    · rintro (hk | ⟨x, hx, r⟩)
      · exact .inl hk
      · exact .inr ⟨x, h.2.mem_iff.2 hx, r⟩
  · refine (List.perm_ext_iff_of_nodup (merge_inodup all a.2 (a.1, []) (by simp)) (merge_inodup all b.2 (b.1, []) (by simp))).2 (fun y => ?_)
    rw [merge_inner, merge_inner]
    constructor
    · rintro (hk | ⟨x, hx, r⟩)
      · exact .inl hk
      · exact .inr ⟨x, h.2.mem_iff.1 hx, r⟩
    · rintro (hk | ⟨x, hx, r⟩)
      · exact .inl hk
      · exact .inr ⟨x, h.2.mem_iff.2 hx, r⟩
theorem ord_perm {thr : Int} {a b : List Int × List Tr} (h : P2 a b) : ordT (.mk thr a.1 a.2) = ordT (.mk thr b.1 b.2) := by
  unfold ordT
  simp only [Tr.thr, Tr.nodes, Tr.inner]
  rw [sortN_congr (fun k => h.1.mem_iff), sortT_congr h.2]
theorem mrg_perm {thr : Int} {a b : List Int × List Tr} (h : P2 a b) (hd : a.1.Nodup) : ordT (mrgT thr a) = ordT (mrgT thr b) := by
  have hl : a.1.length + a.2.length = b.1.length + b.2.length := by rw [h.1.length_eq, h.2.length_eq]
  unfold mrgT
  by_cases c1 : thr = 1
  · rw [if_pos c1, if_pos c1]
    unfold mergedT
    exact ord_perm (merge_perm false h hd)
  · rw [if_neg c1, if_neg c1, hl]
    by_cases c2 : thr = ((b.1.length + b.2.length : Nat) : Int)
    · rw [if_pos c2, if_pos c2]
      have hm := merge_perm true h hd
      have hl2 : (mergeL true a).1.length + (mergeL true a).2.length = (mergeL true b).1.length + (mergeL true b).2.length := by rw [hm.1.length_eq, hm.2.length_eq]
      unfold mergedT
      rw [hl2]
      exact ord_perm hm
    · rw [if_neg c2, if_neg c2]
      exact ord_perm h
theorem normL_map : ∀ l : List Tr, normL l = l.map normT
  | [] => by simp [normL]
  | x :: r => by simp [normL, normL_map r]
theorem norm_perm {thr : Int} {n m : List Int} {i j : List Tr} (h : OkT (.mk thr n i)) (h1 : n.Perm m) (h2 : (normL i).Perm (normL j)) : normT (.mk thr n i) = normT (.mk thr m j) := by
  obtain ⟨_, _, _, d, e⟩ := (okT_mk _ _ _).1 h
  obtain ⟨_, l2, _⟩ := norm_relL i e
  obtain ⟨_, _, f3, _⟩ := lift_all (normL i) (n, []) l2 d ((okT_mk _ _ _).1 h).2.2.1 (by simp)
  simp only [normT]
  rw [mrg_perm (lift_perm h2 l2 (n, []) (m, []) ⟨h1, List.Perm.refl _⟩) f3]

/-- What mixing leaves: a trust that is as good, with the same normal form. -/
def MixR (a b : Tr) : Prop := (OkT a → OkT b ∧ normT a = normT b) ∧ b.size = a.size ∧ b.dep = a.dep
/-- Trusts in pairs. -/
def MixL : List Tr → List Tr → Prop
  | [], [] => True
  | x :: r, y :: s => MixR x y ∧ MixL r s
  | _, _ => False
theorem MixL.facts : ∀ {l m : List Tr}, MixL l m → l.length = m.length ∧ sizeL m = sizeL l ∧ depL m = depL l ∧ ((∀ x ∈ l, OkT x) → (∀ x ∈ m, OkT x) ∧ normL l = normL m)
  | [], [], _ => ⟨rfl, rfl, rfl, fun _ => ⟨by simp, rfl⟩⟩
  | x :: r, [], h => by simp [MixL] at h
  | [], y :: s, h => by simp [MixL] at h
  | x :: r, y :: s, h => by
    simp only [MixL] at h
    obtain ⟨⟨h1, h2, h3⟩, h⟩ := h
    obtain ⟨k1, k2, k3, k4⟩ := MixL.facts h
    refine ⟨by simp [k1], by simp only [sizeL]; omega, by simp only [depL]; omega, fun ho => ?_⟩
    obtain ⟨o1, o2⟩ := h1 (ho x (by simp))
    obtain ⟨p1, p2⟩ := k4 (fun z hz => ho z (List.mem_cons_of_mem _ hz))
    refine ⟨fun z hz => ?_, by simp only [normL]; rw [o2, p2]⟩
    rcases List.mem_cons.1 hz with rfl | hz
    · exact o1
    · exact p1 z hz
theorem MixL.append : ∀ {l m l' m' : List Tr}, MixL l m → MixL l' m' → MixL (l ++ l') (m ++ m')
  | [], [], _, _, _, h => h
  | x :: r, [], _, _, h, _ => by simp [MixL] at h
  | [], y :: s, _, _, h, _ => by simp [MixL] at h
  | x :: r, y :: s, _, _, h, h' => by
    simp only [MixL, List.cons_append] at h ⊢
    exact ⟨h.1, MixL.append h.2 h'⟩
theorem mix_mk {thr : Int} {n m : List Int} {i j k : List Tr} (h1 : m.Perm n) (h2 : j.Perm i) (h3 : MixL j k) : MixR (.mk thr n i) (.mk thr m k) := by
  obtain ⟨a, b, c, d⟩ := h3.facts
  refine ⟨fun ho => ?_, ?_, ?_⟩
  · obtain ⟨o1, o2, o3, o4, o5⟩ := (okT_mk _ _ _).1 ho
    obtain ⟨d1, d2⟩ := d (fun x hx => o5 x (h2.mem_iff.1 hx))
    refine ⟨(okT_mk _ _ _).2 ⟨o1, by rw [h1.length_eq, ← a, h2.length_eq]; exact o2, fun x hx => o3 x (h1.mem_iff.1 hx), h1.nodup_iff.2 o4, d1⟩, ?_⟩
    refine norm_perm ho h1.symm ?_
    rw [← d2, normL_map, normL_map]
    exact (h2.symm.map normT)
  · simp only [Tr.size]
    rw [b, sizeL_perm h2, h1.length_eq, ← a, h2.length_eq]
  · simp only [Tr.dep]
    rw [c, depL_perm h2]
end Go.Proofs.YtpdhckbiioobhaaGreatDoor

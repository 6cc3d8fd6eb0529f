/- Some texts of this claim, joined: contracts of the functions that it reaches, and plain laws. -/
import Derived.Test.YtoblhcieidljjaaGreatDoorJDA6

set_option linter.unusedSimpArgs false
set_option linter.unusedVariables false
/- A proper beginning of the text of a trust has no trust: plain. -/
namespace Go.Proofs.YtoblhcieidljjaaGreatDoor
open Go.RowKit

/-- A text that ends within the tokens ts. -/
def Ct : List (List UInt8) → List UInt8 → Prop
  | [], _ => False
  | t :: ts, u => (tok u = t ∧ Ct ts (nxt u)) ∨ u = [] ∨ (u = [111] ∧ t = [111, 102]) ∨ (nxt u = [] ∧ numB (tok u) = true ∧ ∃ k, Nu k ∧ t = Lib.itoa k)
theorem Ct.append : ∀ (a b : List (List UInt8)) (u : List UInt8), Ct (a ++ b) u → Ct a u ∨ ∃ v, Sp a u v ∧ Ct b v
  | [], b, u, h => .inr ⟨u, rfl, h⟩
  | t :: a, b, u, h => by
    rw [List.cons_append] at h
    simp only [Ct, Sp] at h ⊢
    rcases h with ⟨h1, h2⟩ | h
    · rcases Ct.append a b _ h2 with h3 | ⟨v, h3, h4⟩
      · exact .inl (.inl ⟨h1, h3⟩)
      · exact .inr ⟨v, ⟨h1, h3⟩, h4⟩
    · exact .inl (.inr h)
/-- A token of a trust. -/
def Tk (t : List UInt8) : Prop := t = [111, 102] ∨ (∃ c, t = [c] ∧ (c = 40 ∨ c = 41 ∨ c = 44)) ∨ ∃ k, Nu k ∧ t = Lib.itoa k

theorem tok_nil : tok [] = [] := by simp [tok]
theorem nxt_nil : nxt [] = [] := by simp [nxt, skp]
theorem skp_append {u : List UInt8} (z : List UInt8) (h : skp u ≠ []) : skp (u ++ z) = skp u ++ z := by
  induction u with
  | nil => exact absurd rfl h
  | cons c u ih =>
    by_cases hc : c = 32
    · subst hc
      rw [skp_blank] at h ⊢
      rw [List.cons_append, skp_blank]
      exact ih h
    · rw [List.cons_append, skp_cons _ hc, skp_cons _ hc]; rfl
theorem skp_nil_append {u : List UInt8} (z : List UInt8) (h : skp u = []) : skp (u ++ z) = skp z := by
  induction u with
  | nil => rfl
  | cons c u ih =>
    by_cases hc : c = 32
    · subst hc
      rw [skp_blank] at h
      rw [List.cons_append, skp_blank]
      exact ih h
    · rw [skp_cons _ hc] at h; cases h

theorem skp_all : ∀ {z : List UInt8}, skp z = [] → ∀ c ∈ z, c = 32
  | [], _, c, hc => by cases hc
  | x :: z, h, c, hc => by
    by_cases hx : x = 32
    · subst hx
      rw [skp_blank] at h
      rcases List.mem_cons.1 hc with rfl | hc
      · rfl
      · exact skp_all h c hc
    · rw [skp_cons _ hx] at h; cases h
theorem tw_all {p : UInt8 → Bool} : ∀ l : List UInt8, (∀ c ∈ l, p c = true) → l.takeWhile p = l
  | [], _ => rfl
  | c :: l, h => by rw [List.takeWhile_cons_of_pos (h c (by simp)), tw_all l fun x hx => h x (by simp [hx])]
theorem takeWhile_take {p : UInt8 → Bool} : ∀ (u z : List UInt8), ((u ++ z).takeWhile p).length ≤ u.length → u.takeWhile p = (u ++ z).takeWhile p ∨ ((u ++ z).takeWhile p = u ∧ u.takeWhile p = u)
  | [], z, h => by
    simp only [List.nil_append, List.length_nil] at h ⊢
    exact .inr ⟨List.eq_nil_of_length_eq_zero (by omega), rfl⟩
  | c :: u, z, h => by
    rw [List.cons_append] at h ⊢
    by_cases hc : p c = true
    · rw [List.takeWhile_cons_of_pos hc] at h ⊢
      rw [List.takeWhile_cons_of_pos hc]
      rcases takeWhile_take u z (by simpa using h) with h2 | ⟨h2, h3⟩
      · exact .inl (by rw [h2])
      · exact .inl (by rw [h2, h3])
    · rw [List.takeWhile_cons_of_neg hc, List.takeWhile_cons_of_neg hc]
      exact .inl rfl
/-- A token that is whole in the beginning u. -/
theorem tok_within {u z t : List UInt8} (h : tok (u ++ z) = t) (ht : Tk t) (hl : t.length ≤ u.length) (hu : u ≠ []) : tok u = t ∧ (u ++ z).drop (tokN (u ++ z)) = u.drop (tokN u) ++ z := by
  have key : tokN u = tokN (u ++ z) := by
    have hn : tokN (u ++ z) = t.length := by rw [← tok_len, h]
    rcases ht with rfl | ⟨c, rfl, hc⟩ | ⟨k, hk, rfl⟩
    · match u, hl, hu with
      | [], _, hu => exact absurd rfl hu
      | [a], hl, _ => simp at hl
      | a :: b :: u, _, _ =>
        have e1 : [a, b] = [111, 102] := by
          unfold tok at h
          rw [hn] at h
          simpa using h
        injection e1 with e2 e3
        injection e3 with e3 _
        subst e2 e3
        simp [tokN]
    · match u, hl, hu with
      | [], _, hu => exact absurd rfl hu
      | a :: u, _, _ =>
        have e1 : [a] = [c] := by
          unfold tok at h
          rw [hn] at h
          simpa using h
        injection e1 with e1 _
        subst e1
        rw [hn]
        have := tok_sign u hc
        rw [← tok_len, this.1]
    · obtain ⟨n, hn2⟩ := itoa_nu hk
      rw [hn2] at h hn hl
      have hd := dec_dg n
      have hne := dec_ne n
      generalize Lib.decDigits n = w at *
      have hw : u.take w.length = w := by
        unfold tok at h
        rw [hn, List.take_append_of_le_length hl] at h
        exact h
      obtain ⟨c, w', rfl⟩ : ∃ c w', w = c :: w' := by
        cases w with
        | nil => exact absurd rfl hne
        | cons c w' => exact ⟨c, w', rfl⟩
      have hc := dg_ne (hd c (by simp))
      obtain ⟨u', rfl⟩ : ∃ u', u = c :: u' := by
        cases u with
        | nil => exact absurd rfl hu
        | cons a u' =>
          simp only [List.length_cons, List.take_succ_cons] at hw
          injection hw with e _
          subst e
          exact ⟨u', rfl⟩
      have form : ∀ s : List UInt8, tokN (c :: s) = ((c :: s).takeWhile isDg).length := by
        intro s
        unfold tokN
        rw [if_neg (by
          intro e
          rw [List.take_succ_cons] at e
          injection e with e1 _
          exact hc.2.2.2.2.1 e1)]
        simp only
        rw [if_neg (by simp [hc])]
      rw [List.cons_append, form, form, ← List.cons_append]
      have hlen : (((c :: u') ++ z).takeWhile isDg).length ≤ (c :: u').length := by
        rw [List.cons_append, ← form, ← List.cons_append, hn]
        exact hl
      rcases takeWhile_take (c :: u') z hlen with h2 | ⟨h2, h3⟩
      · rw [h2]
      · rw [h2, h3]
  have hle := tokN_le u
  refine ⟨?_, ?_⟩
  · rw [← h]
    unfold tok
    rw [← key, List.take_append_of_le_length hle]
  · rw [← key, List.drop_append_of_le_length hle]
/-- A token that is cut. -/
theorem tok_cut {u z t : List UInt8} (h : tok (u ++ z) = t) (ht : Tk t) (hl : u.length < t.length) (hu : u ≠ []) : (u = [111] ∧ t = [111, 102]) ∨ (nxt u = [] ∧ numB (tok u) = true ∧ ∃ k, Nu k ∧ t = Lib.itoa k) := by
  have hn : tokN (u ++ z) = t.length := by rw [← tok_len, h]
  have hpre : u = t.take u.length := by
    rw [← h]
    unfold tok
    rw [hn, List.take_take, Nat.min_eq_left (by omega), List.take_left]
  rcases ht with rfl | ⟨c, rfl, hc⟩ | ⟨k, hk, rfl⟩
  · left
    match u, hl, hu with
    | [], _, hu => exact absurd rfl hu
    | [a], _, _ =>
      refine ⟨?_, rfl⟩
      simpa using hpre
    | a :: b :: u, hl, _ => simp at hl; omega
  · match u, hl, hu with
    | [], _, hu => exact absurd rfl hu
    | a :: u, hl, _ => simp at hl
  · right
    obtain ⟨n, rfl, hn9⟩ := nu_nat hk
    rw [Lib.itoa_nonneg] at hl hpre
    have hd := dec_dg n
    have h4 := dec_len4 hn9
    have hall : ∀ c ∈ u, isDg c = true := fun c hc => by
      rw [hpre] at hc
      exact hd c (List.mem_of_mem_take hc)
    obtain ⟨a, u', rfl⟩ : ∃ a u', u = a :: u' := by
      cases u with
      | nil => exact absurd rfl hu
      | cons a u' => exact ⟨a, u', rfl⟩
    have ha := dg_ne (hall a (by simp))
    have hN : tokN (a :: u') = (a :: u').length := by
      unfold tokN
      rw [if_neg (by
        intro e
        rw [List.take_succ_cons] at e
        injection e with e1 _
        exact ha.2.2.2.2.1 e1)]
      simp only
      rw [if_neg (by simp [ha]), tw_all _ hall]
    have hT : tok (a :: u') = a :: u' := by unfold tok; rw [hN, List.take_length]
    have hX : nxt (a :: u') = [] := by unfold nxt; rw [hN, List.drop_length]; rfl
    refine ⟨hX, ?_, _, hk, rfl⟩
    rw [hT]
    have hn1 : 1 ≤ n := by
      rcases Nat.eq_zero_or_pos n with h0 | h0
      · subst h0
        rw [Lib.decDigits_one (by omega)] at hl
        simp at hl
      · exact h0
    obtain ⟨c, r, e, hc⟩ := dec_head n hn1
    have eac : a = c := by
      rw [e] at hpre
      simp only [List.length_cons, List.take_succ_cons] at hpre
      injection hpre
    simp only [numB, hall a (by simp), Bool.true_and, Bool.and_eq_true, decide_eq_true_eq]
    refine ⟨by simp only [List.length_cons] at hl; omega, ?_⟩
    rw [eac]
    simp [hc]
/-- The tokens of a beginning. -/
theorem sp_cut : ∀ (ts : List (List UInt8)), (∀ t ∈ ts, Tk t) → ∀ u z : List UInt8, skp z ≠ [] → Sp ts (u ++ z) [] → Ct ts u
  | [], _, u, z, hz, h => by
    simp only [Sp] at h
    have := (List.append_eq_nil_iff.1 h).2
    subst this
    exact absurd rfl hz
  | t :: ts, hT, u, z, hz, h => by
    simp only [Sp, Ct] at h ⊢
    obtain ⟨h1, h2⟩ := h
    by_cases hu : u = []
    · exact .inr (.inl hu)
    · have ht := hT t (by simp)
      by_cases hl : t.length ≤ u.length
      · obtain ⟨h3, h4⟩ := tok_within h1 ht hl hu
        refine .inl ⟨h3, ?_⟩
        have hx : nxt (u ++ z) = skp (u.drop (tokN u) ++ z) := by unfold nxt; rw [h4]
        by_cases hs : skp (u.drop (tokN u)) = []
        · have hn : nxt u = [] := hs
          rw [hn]
          cases ts with
          | nil =>
            simp only [Sp] at h2
            rw [hx, skp_nil_append z hs] at h2
            exact absurd h2 hz
          | cons a b => simp only [Ct]; exact .inr (.inl trivial)
        · rw [hx, skp_append z hs] at h2
          exact sp_cut ts (fun a ha => hT a (by simp [ha])) _ z hz h2
      · exact .inr (.inr (tok_cut h1 ht (by omega) hu))

theorem itoa_ne_of {k : Int} (h : Nu k) : Lib.itoa k ≠ [111, 102] := by
  obtain ⟨n, hn⟩ := itoa_nu h
  rw [hn]
  intro e
  have := dec_dg n 111 (by rw [e]; simp)
  exact absurd this (by decide)
theorem itoa_ne_sign {k : Int} (h : Nu k) {c : UInt8} (hc : c = 40 ∨ c = 41 ∨ c = 44) : Lib.itoa k ≠ [c] := by
  obtain ⟨n, hn⟩ := itoa_nu h
  rw [hn]
  intro e
  have := dg_ne (dec_dg n c (by rw [e]; simp))
  rcases hc with rfl | rfl | rfl <;> simp at this
/-- Where a sign is asked for and the text ends. -/
theorem ct_sign {c : UInt8} (hc : c = 40 ∨ c = 41 ∨ c = 44) {ts : List (List UInt8)} {u : List UInt8} (h : Ct ([c] :: ts) u) : (tok u = [c] ∧ Ct ts (nxt u)) ∨ u = [] := by
  simp only [Ct] at h
  rcases h with h | h | ⟨_, h⟩ | ⟨_, _, k, hk, h⟩
  · exact .inl h
  · exact .inr h
  · injection h with h1 h2
    cases h2
  · exact absurd h.symm (itoa_ne_sign hk hc)
theorem ct_num {k : Int} (hk : Nu k) {ts : List (List UInt8)} {u : List UInt8} (h : Ct (Lib.itoa k :: ts) u) : (tok u = Lib.itoa k ∧ Ct ts (nxt u)) ∨ numP u = none ∧ u.length ≤ 1 ∨ ∃ n, numP u = some n ∧ nxt u = [] := by
  simp only [Ct] at h
  rcases h with h | h | ⟨_, h⟩ | ⟨h1, h2, _⟩
  · exact .inl h
  · subst h
    exact .inr (.inl ⟨by simp [numP, tok_nil, numB], by simp⟩)
  · exact absurd h (itoa_ne_of hk)
  · exact .inr (.inr ⟨_, by unfold numP; rw [h2]; rfl, h1⟩)
theorem ct_of {ts : List (List UInt8)} {u : List UInt8} (h : Ct ([111, 102] :: ts) u) : (tok u = [111, 102] ∧ Ct ts (nxt u)) ∨ (tok u = [] ∧ u.length ≤ 1) := by
  simp only [Ct] at h
  rcases h with h | h | ⟨h, _⟩ | ⟨_, _, k, hk, h⟩
  · exact .inl h
  · subst h; exact .inr ⟨tok_nil, by simp⟩
  · subst h; exact .inr ⟨by simp [tok, tokN, isDg], by simp⟩
  · exact absurd h.symm (itoa_ne_of hk)
theorem ct_nodes (is : List Tr) (hI : is ≠ [] → ∀ (f : Nat) (thr : Int) (dn : List Int) (u : List UInt8), Ct (sepT (tkL is)) u → u.length < f → ∃ v, loopP f thr dn [] u = (none, v) ∧ v.length ≤ 1) :
    ∀ (ns : List Int), (∀ x ∈ ns, Nu x) → (ns ≠ [] ∨ is ≠ []) → ∀ (f : Nat) (thr : Int) (dn : List Int) (u : List UInt8), Ct (sepT (tkN ns ++ tkL is)) u → u.length < f → ∃ v, loopP f thr dn [] u = (none, v) ∧ v.length ≤ 1
  | [], _, hne, f, thr, dn, u, h, hf => hI (by simpa using hne) f thr dn u (by simpa [tkN] using h) hf
  | k :: ns, hN, _, 0, thr, dn, u, h, hf => by omega
  | k :: ns, hN, _, f + 1, thr, dn, u, h, hf => by
    have hcons : tkN (k :: ns) ++ tkL is = [Lib.itoa k] :: (tkN ns ++ tkL is) := rfl
    rw [hcons] at h
    simp only [sepT, List.cons_append, List.nil_append] at h
    have hk := hN k (by simp)
    have hle := nxt_le (nxt u)
    rcases ct_num hk h with ⟨h1, h2⟩ | ⟨h1, h2⟩ | ⟨n, h1, h2⟩
    · obtain ⟨n, hn, hkn⟩ := numP_of hk h1
      have hlt := nxt_lt (u := u) (by rw [h1]; exact itoa_ne k)
      simp only [loopP, hn]
      by_cases hr : tkN ns ++ tkL is = []
      · rw [if_pos hr] at h2
        rcases ct_sign (by decide) h2 with ⟨_, h3⟩ | h3
        · simp only [Ct] at h3
        · rw [h3, tok_nil, if_neg (by decide), if_neg (by decide), if_neg (by decide)]
          exact ⟨_, rfl, by simp⟩
      · rw [if_neg hr] at h2
        rcases ct_sign (by decide) h2 with ⟨h3, h4⟩ | h3
        · rw [h3, if_neg c44_of, if_neg c44_41, if_pos rfl]
          have hne : ns ≠ [] ∨ is ≠ [] := by
            apply Classical.byContradiction
            intro hc
            apply hr
            have e1 : ns = [] := Classical.byContradiction fun h => hc (.inl h)
            have e2 : is = [] := Classical.byContradiction fun h => hc (.inr h)
            subst e1 e2
            simp [tkN, tkL]
          exact ct_nodes is hI ns (fun x hx => hN x (by simp [hx])) hne f thr _ _ h4 (by omega)
        · rw [h3, tok_nil, if_neg (by decide), if_neg (by decide), if_neg (by decide)]
          exact ⟨_, rfl, by simp⟩
    · simp only [loopP, h1]
      exact ⟨_, rfl, h2⟩
    · simp only [loopP, h1]
      rw [h2, tok_nil, if_neg (by decide), if_neg (by decide), if_neg (by decide)]
      exact ⟨_, rfl, by simp⟩
mutual
theorem ct_rest : ∀ (t : Tr), okT t → ∀ (f : Nat) (n : Int) (u : List UInt8), Ct (tkR t) u → u.length < f → ∃ v, restP f n u = (none, v) ∧ v.length ≤ 1
  | .mk thr nodes inner, ht, 0, n, u, h, hf => by omega
  | .mk thr nodes inner, ht, f + 1, n, u, h, hf => by
    simp only [okT] at ht
    simp only [tkR] at h
    simp only [restP]
    rcases ct_of h with ⟨h1, h2⟩ | ⟨h1, h2⟩
    · rw [if_pos h1]
      have l1 := nxt_lt (u := u) (by rw [h1]; simp)
      have l2 := nxt_le (nxt u)
      rcases ct_sign (by decide) h2 with ⟨h3, h4⟩ | h3
      · rw [if_pos h3]
        exact ct_nodes inner (fun hne f thr dn u h hf => ct_inner inner ht.2.2.2 hne f thr dn [] u h hf) nodes ht.2.1 ht.2.2.1 f n [] _ h4 (by omega)
      · rw [h3, tok_nil, if_neg (by decide)]
        exact ⟨_, rfl, by simp⟩
    · rw [h1, if_neg (by decide)]
      exact ⟨_, rfl, h2⟩
theorem ct_inner : ∀ (is : List Tr), okL is → is ≠ [] → ∀ (f : Nat) (thr : Int) (dn : List Int) (di : List Tr) (u : List UInt8), Ct (sepT (tkL is)) u → u.length < f → ∃ v, loopP f thr dn di u = (none, v) ∧ v.length ≤ 1
  | [], _, hne, f, thr, dn, di, u, h, hf => absurd rfl hne
  | x :: r, hx, _, 0, thr, dn, di, u, h, hf => by omega
  | x :: r, hx, _, f + 1, thr, dn, di, u, h, hf => by
    simp only [okL] at hx
    simp only [tkL, sepT, List.cons_append] at h
    rcases ct_num hx.1.thr h with ⟨h1, h2⟩ | ⟨h1, h2⟩ | ⟨n, h1, h2⟩
    · obtain ⟨n, hn, hk⟩ := numP_of hx.1.thr h1
      have hlt := nxt_lt (u := u) (by rw [h1]; exact itoa_ne _)
      simp only [loopP, hn]
      rcases Ct.append _ _ _ h2 with h3 | ⟨w, h3, h4⟩
      · obtain ⟨q, hq⟩ := tkR_head x
        have h3' := h3
        rw [hq] at h3'
        rcases ct_of h3' with ⟨h5, _⟩ | ⟨h5, h6⟩
        · rw [if_pos h5]
          obtain ⟨v, hv, hl⟩ := ct_rest x hx.1 f n _ h3 (by omega)
          rw [hv]
          exact ⟨v, rfl, hl⟩
        · rw [h5, if_neg (by decide), if_neg (by decide), if_neg (by decide)]
          exact ⟨_, rfl, h6⟩
      · have hlw := Sp.len _ _ _ h3
        have hle := nxt_le w
        have htok : tok (nxt u) = [111, 102] := by
          obtain ⟨q, hq⟩ := tkR_head x
          rw [hq] at h3
          exact h3.1
        rw [if_pos htok, hk, rest_ok x hx.1 f (nxt u) w h3 (by omega)]
        simp only
        by_cases hr : tkL r = []
        · rw [if_pos hr] at h4
          rcases ct_sign (by decide) h4 with ⟨_, h5⟩ | h5
          · simp only [Ct] at h5
          · rw [h5, tok_nil, if_neg (by decide), if_neg (by decide)]
            exact ⟨_, rfl, by simp⟩
        · rw [if_neg hr] at h4
          rcases ct_sign (by decide) h4 with ⟨h5, h6⟩ | h5
          · rw [h5, if_neg c44_41, if_pos rfl]
            have hne : r ≠ [] := fun e => hr (by subst e; simp [tkL])
            exact ct_inner r hx.2 hne f thr dn (di ++ [x]) _ h6 (by omega)
          · rw [h5, tok_nil, if_neg (by decide), if_neg (by decide)]
            exact ⟨_, rfl, by simp⟩
    · simp only [loopP, h1]
      exact ⟨_, rfl, h2⟩
    · simp only [loopP, h1]
      rw [h2, tok_nil, if_neg (by decide), if_neg (by decide), if_neg (by decide)]
      exact ⟨_, rfl, by simp⟩
end
theorem tk_sep : ∀ l : List (List (List UInt8)), (∀ x ∈ l, ∀ t ∈ x, Tk t) → ∀ t ∈ sepT l, Tk t
  | [], _, t, ht => by
    simp only [sepT, List.mem_singleton] at ht
    subst ht
    exact .inr (.inl ⟨41, rfl, by decide⟩)
  | x :: r, h, t, ht => by
    simp only [sepT, List.mem_append] at ht
    rcases ht with ht | ht
    · exact h x (by simp) t ht
    · split at ht
      · simp only [List.mem_singleton] at ht
        subst ht
        exact .inr (.inl ⟨41, rfl, by decide⟩)
      · rcases List.mem_cons.1 ht with rfl | ht
        · exact .inr (.inl ⟨44, rfl, by decide⟩)
        · exact tk_sep r (fun y hy => h y (by simp [hy])) t ht
mutual
theorem tk_rest : ∀ t : Tr, okT t → ∀ x ∈ tkR t, Tk x
  | .mk thr nodes inner, ht, x, hx => by
    simp only [okT] at ht
    simp only [tkR, List.mem_cons] at hx
    rcases hx with rfl | rfl | hx
    · exact .inl rfl
    · exact .inr (.inl ⟨40, rfl, by decide⟩)
    · refine tk_sep _ (fun y hy t hm => ?_) x hx
      rcases List.mem_append.1 hy with hy | hy
      · obtain ⟨k, hk, rfl⟩ := List.mem_map.1 hy
        simp only [List.mem_singleton] at hm
        subst hm
        exact .inr (.inr ⟨k, ht.2.1 k hk, rfl⟩)
      · exact tk_inner inner ht.2.2.2 y hy t hm
theorem tk_inner : ∀ is : List Tr, okL is → ∀ y ∈ tkL is, ∀ t ∈ y, Tk t
  | [], _, y, hy, t, ht => by simp [tkL] at hy
  | x :: r, h, y, hy, t, ht => by
    simp only [okL] at h
    simp only [tkL, List.mem_cons] at hy
    rcases hy with rfl | hy
    · rcases List.mem_cons.1 ht with rfl | ht
      · exact .inr (.inr ⟨x.thr, h.1.thr, rfl⟩)
      · exact tk_rest x h.1 t ht
    · exact tk_inner r h.2 y hy t ht
end
/-- A proper beginning of a trust's text: no trust, and the place is its end or the byte ahead of it. -/
theorem whole_cut (t : Tr) (h : okT t) (u z : List UInt8) (e : txT t = u ++ z) (hz : z ≠ []) : ∃ v, wholeP u = (none, v) ∧ v.length ≤ 1 := by
  have hlast : (41 : UInt8) ∈ z := by
    obtain ⟨thr, nodes, inner⟩ := t
    have h1 : (txT (.mk thr nodes inner)).getLast? = some 41 := by simp only [txT]; exact List.getLast?_concat
    rw [e, List.getLast?_append] at h1
    cases hq : z.getLast? with
    | none => exact absurd (List.getLast?_eq_none_iff.1 hq) hz
    | some x =>
      rw [hq] at h1
      simp at h1
      subst h1
      exact List.mem_of_getLast? hq
  have hsz : skp z ≠ [] := by
    intro hs
    have := skp_all hs
    exact absurd (this 41 hlast) (by decide)
  obtain ⟨z', hz', hs, hsp⟩ := txt_sp t h [] (txT t) (by simpa using BB.refl _)
  simp only [BB] at hz'
  subst hz'
  rw [hs] at hsp
  have hs0 : skp ([] : List UInt8) = [] := rfl
  rw [hs0, e] at hsp
  have hct := sp_cut _ (fun a ha => by
    rcases List.mem_cons.1 ha with rfl | ha
    · exact .inr (.inr ⟨_, h.thr, rfl⟩)
    · exact tk_rest t h a ha) u z hsz hsp
  have hsu : skp u = u := by
    cases u with
    | nil => rfl
    | cons c u =>
      rw [e, List.cons_append] at hs
      by_cases hc : c = 32
      · subst hc
        rw [skp_blank] at hs
        have h3 := skp_len (u ++ z)
        have h4 := congrArg List.length hs
        simp only [List.length_cons] at h4
        omega
      · exact skp_cons _ hc
  unfold wholeP
  rw [hsu]
  rcases ct_num h.thr hct with ⟨h1, h2⟩ | ⟨h1, h2⟩ | ⟨n, h1, h2⟩
  · obtain ⟨n, hn, hk⟩ := numP_of h.thr h1
    have h3 := nxt_le u
    rw [hn]
    exact ct_rest t h _ _ _ h2 (by omega)
  · rw [h1]
    exact ⟨_, rfl, h2⟩
  · rw [h1]
    simp only [restP]
    rw [h2, tok_nil, if_neg (by decide)]
    exact ⟨_, rfl, by simp⟩
end Go.Proofs.YtoblhcieidljjaaGreatDoor

/- Valid trusts: their texts can be read, and are short; when two trusts are the same: plain. -/
namespace Go.Proofs.YtoblhcieidljjaaGreatDoor
open Go.RowKit

mutual
theorem check_ok : ∀ t : Tr, checkE t = 0 → t.size ≤ 9999 → okT t
  | .mk thr nodes inner, h, hs => by
    simp only [checkE] at h
    simp only [Tr.size] at hs
    by_cases h1 : thr < 1 ∨ ((nodes.length + inner.length : Nat) : Int) < thr
    · rw [if_pos h1] at h; cases h
    · rw [if_neg h1] at h
      by_cases h2 : nodes.any (fun k => decide (k < 0 ∨ 10 ≤ k)) = true
      · rw [if_pos h2] at h; cases h
      · rw [if_neg h2] at h
        by_cases h3 : (ofS nodes 0).2 ≠ 0
        · rw [if_pos h3] at h; exact absurd h h3
        · rw [if_neg h3] at h
          simp only [okT]
          refine ⟨⟨by omega, by omega⟩, fun x hx => ?_, ?_, checkL_ok inner h (by omega)⟩
          · have h4 : ¬ (x < 0 ∨ 10 ≤ x) := by
              intro hc
              apply h2
              rw [List.any_eq_true]
              exact ⟨x, hx, by simpa using hc⟩
            exact ⟨by omega, by omega⟩
          · apply Classical.byContradiction
            intro hc
            have e1 : nodes = [] := Classical.byContradiction fun h => hc (.inl h)
            have e2 : inner = [] := Classical.byContradiction fun h => hc (.inr h)
            subst e1 e2
            simp at h1
            omega
theorem checkL_ok : ∀ l : List Tr, checkL l = 0 → sizeL l ≤ 9999 → okL l
  | [], _, _ => by simp only [okL]
  | x :: r, h, hs => by
    simp only [checkL] at h
    simp only [sizeL] at hs
    by_cases h1 : checkE x ≠ 0
    · rw [if_pos h1] at h; exact absurd h h1
    · rw [if_neg h1] at h
      simp only [okL]
      exact ⟨check_ok x (by simpa using h1) (by omega), checkL_ok r h (by omega)⟩
end
theorem valid_check {t : Tr} (h : validE t = 0) : checkE t = 0 ∧ t.size ≤ 200 ∧ t.dep ≤ 4 := by
  unfold validE at h
  by_cases h1 : 4 < t.dep ∨ 200 < t.size
  · rw [if_pos h1] at h; cases h
  · rw [if_neg h1] at h
    exact ⟨h, by omega, by omega⟩
theorem valid_ok {t : Tr} (h : validE t = 0) : okT t := check_ok t (valid_check h).1 (by have := (valid_check h).2.1; omega)
theorem itoa_len4 {k : Int} (h : Nu k) : (Lib.itoa k).length ≤ 4 := by
  obtain ⟨n, rfl, hn⟩ := nu_nat h
  rw [Lib.itoa_nonneg]
  exact dec_len4 hn
theorem ndW_lens4 : ∀ l : List Int, (∀ x ∈ l, Nu x) → Lib.lens (ndW l) ≤ 4 * l.length
  | [], _ => by simp [ndW, Lib.lens]
  | x :: r, h => by
    have h1 := itoa_len4 (h x (by simp))
    have h2 := ndW_lens4 r (fun y hy => h y (List.mem_cons_of_mem _ hy))
    simp only [ndW, Lib.lens, List.map_cons, List.sum_cons, List.length_cons] at *
    omega
mutual
theorem ok_len : ∀ t : Tr, okT t → (txT t).length ≤ 12 * t.size + 10
  | .mk thr nodes inner, h => by
    simp only [okT] at h
    have h1 := itoa_len4 h.1
    have h2 := ndW_lens4 nodes h.2.1
    have h3 := okL_lens inner h.2.2.2
    have h4 := join_len [44, 32] (ndW nodes ++ txL inner)
    rw [lens_append, List.length_append, ndW_len, txL_len] at h4
    simp only [txT, Tr.size, List.length_append, List.length_cons, List.length_nil] at *
    omega
theorem okL_lens : ∀ l : List Tr, okL l → Lib.lens (txL l) ≤ 12 * sizeL l + 10 * l.length
  | [], _ => by simp [txL, Lib.lens]
  | x :: r, h => by
    simp only [okL] at h
    have h1 := ok_len x h.1
    have h2 := okL_lens r h.2
    simp only [txL, sizeL, Lib.lens, List.map_cons, List.sum_cons, List.length_cons] at *
    omega
end
theorem valid_len {t : Tr} (h : validE t = 0) : (txT t).length ≤ 2410 := by
  have := ok_len t (valid_ok h)
  have := (valid_check h).2.1
  omega

mutual
/-- Are two trusts the same? -/
def sameT : Tr → Tr → Bool
  | .mk t1 n1 i1, .mk t2 n2 i2 => decide (t1 = t2) && decide (n1 = n2) && sameL i1 i2
def sameL : List Tr → List Tr → Bool
  | [], [] => true
  | x :: r, y :: s => sameT x y && sameL r s
  | [], _ :: _ => false
  | _ :: _, [] => false
end
mutual
theorem sameT_iff : ∀ a b : Tr, sameT a b = true ↔ a = b
  | .mk t1 n1 i1, .mk t2 n2 i2 => by
    simp only [sameT, Bool.and_eq_true, decide_eq_true_eq, sameL_iff i1 i2, Tr.mk.injEq, and_assoc]
theorem sameL_iff : ∀ a b : List Tr, sameL a b = true ↔ a = b
  | [], [] => by simp [sameL]
  | x :: r, y :: s => by simp only [sameL, Bool.and_eq_true, sameT_iff x y, sameL_iff r s, List.cons.injEq]
  | [], _ :: _ => by simp [sameL]
  | _ :: _, [] => by simp [sameL]
end
theorem sameL_len : ∀ a b : List Tr, sameL a b = true → a.length = b.length := fun a b h => by rw [(sameL_iff a b).1 h]
theorem sameL_drop : ∀ (a b : List Tr) (k : Nat) (h1 : k < a.length) (h2 : k < b.length), sameL (a.drop k) (b.drop k) = (sameT a[k] b[k] && sameL (a.drop (k + 1)) (b.drop (k + 1))) := fun a b k h1 h2 => by
  rw [List.drop_eq_getElem_cons h1, List.drop_eq_getElem_cons h2, sameL]
/-- Two valid trusts have the same text exactly if they are the same. -/
theorem text_same {a b : Tr} (ha : validE a = 0) (hb : validE b = 0) : decide (txT a = txT b) = sameT a b := by
  rw [Bool.eq_iff_iff, decide_eq_true_eq, sameT_iff]
  exact ⟨txT_inj (valid_ok ha) (valid_ok hb), fun h => by rw [h]⟩
end Go.Proofs.YtoblhcieidljjaaGreatDoor

/- Plain: the tokens of the reference's reader are those of the program's. -/
namespace Go.Proofs.YtoblhcieidljjaaGreatDoor

theorem tok_isof (u : List UInt8) : tok u = [111, 102] ↔ u.take 2 = [111, 102] := by
  constructor
  · intro h
    by_cases h1 : u.take 2 = [111, 102]
    · exact h1
    · exfalso
      cases u with
      | nil => simp [tok, tokN] at h
      | cons c r =>
        by_cases h2 : c = 40 ∨ c = 41 ∨ c = 44
        · have e : tok (c :: r) = [c] := by unfold tok tokN; rw [if_neg h1]; simp only; rw [if_pos h2]; simp
          rw [e] at h
          simp at h
        · have e : tok (c :: r) = (c :: r).takeWhile isDg := by
            unfold tok tokN
            rw [if_neg h1]
            simp only
            rw [if_neg h2]
            exact (List.prefix_iff_eq_take.1 (List.takeWhile_prefix isDg)).symm
          rw [e] at h
          have := List.all_eq_true.1 (List.all_takeWhile (l := c :: r) (p := isDg)) 111 (by rw [h]; simp)
          exact absurd this (by decide)
  · intro h
    unfold tok tokN
    rw [if_pos h, h]
theorem tok_isc {c : UInt8} (hc : c = 40 ∨ c = 41 ∨ c = 44) (u : List UInt8) : tok u = [c] ↔ u.take 1 = [c] := by
  have hd : isDg c = false := by rcases hc with rfl | rfl | rfl <;> decide
  have hne : c ≠ 111 := by rcases hc with rfl | rfl | rfl <;> decide
  cases u with
  | nil => simp [tok, tokN]
  | cons x r =>
    by_cases h1 : (x :: r).take 2 = [111, 102]
    · have e : tok (x :: r) = [111, 102] := (tok_isof _).2 h1
      rw [e]
      have hx : x = 111 := by
        have := congrArg List.head? h1
        simpa using this
      simp [hx, Ne.symm hne]
    · by_cases h2 : x = 40 ∨ x = 41 ∨ x = 44
      · have e : tok (x :: r) = [x] := by unfold tok tokN; rw [if_neg h1]; simp only; rw [if_pos h2]; simp
        rw [e]
        simp
      · have e : tok (x :: r) = (x :: r).takeWhile isDg := by
          unfold tok tokN
          rw [if_neg h1]
          simp only
          rw [if_neg h2]
          exact (List.prefix_iff_eq_take.1 (List.takeWhile_prefix isDg)).symm
        rw [e]
        have hx : x ≠ c := fun hh => h2 (hh ▸ hc)
        constructor
        · intro h
          have := List.all_eq_true.1 (List.all_takeWhile (l := x :: r) (p := isDg)) c (by rw [h]; simp)
          rw [hd] at this
          cases this
        · intro h
          simp at h
          exact absurd h hx
/-- The digits ahead. -/
def dgs (u : List UInt8) : List UInt8 := u.takeWhile isDg
def okD (d : List UInt8) : Bool := match d with
  | [] => false
  | c :: r => decide (r.length ≤ 3) && !(decide (1 ≤ r.length) && c == 48)
theorem numP_dgs (u : List UInt8) : numP u = (if okD (dgs u) then some (numV 0 (dgs u)) else none) ∧ (okD (dgs u) = true → nxt u = skp (u.drop (dgs u).length)) := by
  by_cases h1 : u.take 2 = [111, 102]
  · have e := (tok_isof u).2 h1
    have hd : dgs u = [] := by
      cases u with
      | nil => rfl
      | cons x r =>
        have hx : x = 111 := by
          have := congrArg List.head? h1
          simpa using this
        subst hx
        rfl
    rw [hd]
    refine ⟨?_, fun h => by simp [okD] at h⟩
    unfold numP
    rw [e]
    rfl
  · cases u with
    | nil => exact ⟨rfl, fun h => by simp [okD, dgs] at h⟩
    | cons x r =>
      by_cases h2 : x = 40 ∨ x = 41 ∨ x = 44
      · have hx : isDg x = false := by rcases h2 with rfl | rfl | rfl <;> decide
        have e : tok (x :: r) = [x] := by unfold tok tokN; rw [if_neg h1]; simp only; rw [if_pos h2]; simp
        have hd : dgs (x :: r) = [] := by simp [dgs, hx]
        rw [hd]
        refine ⟨?_, fun h => by simp [okD] at h⟩
        unfold numP
        rw [e]
        simp [numB, hx, okD]
      · have e0 : tokN (x :: r) = (dgs (x :: r)).length := by
          unfold tokN
          rw [if_neg h1]
          simp only
          rw [if_neg h2]
          rfl
        have e : tok (x :: r) = dgs (x :: r) := by
          unfold tok
          rw [e0]
          exact (List.prefix_iff_eq_take.1 (List.takeWhile_prefix isDg)).symm
        have hall := List.all_takeWhile (l := x :: r) (p := isDg)
        have hb : numB (dgs (x :: r)) = okD (dgs (x :: r)) := by
          unfold dgs
          generalize (x :: r).takeWhile isDg = d at *
          cases d with
          | nil => rfl
          | cons c s =>
            have hc : isDg c = true := List.all_eq_true.1 hall c (by simp)
            simp [numB, okD, hc]
        refine ⟨?_, fun _ => ?_⟩
        · unfold numP
          rw [e, hb]
        · unfold nxt
          rw [e0]
end Go.Proofs.YtoblhcieidljjaaGreatDoor

/- Some texts of this claim, joined: contracts of the functions that it reaches, and plain laws. -/
import Derived.Test.YtoblhcieidljjaaGreatDoorJG9

set_option linter.unusedSimpArgs false
set_option linter.unusedVariables false
/- Valid trusts: their texts can be read, and are short; when two trusts are the same: plain. -/
namespace Go.Proofs.YtoblhcieidljjaaGreatDoor
open Go.RowKit

mutual
theorem check_ok : ∀ t : Tr, checkE t = 0 → t.size ≤ 9999 → okT t
  | .mk thr nodes inner, h, hs => by
    simp only [checkE] at h
    simp only [Tr.size] at hs
    by_cases h1 : thr < 1 ∨ ((nodes.length + inner.length : Nat) : Int) < thr
    · rw [if_pos h1] at h; cases h
    · rw [if_neg h1] at h
      by_cases h2 : nodes.any (fun k => decide (k < 0 ∨ 10 ≤ k)) = true
      · rw [if_pos h2] at h; cases h
      · rw [if_neg h2] at h
        by_cases h3 : (ofS nodes 0).2 ≠ 0
        · rw [if_pos h3] at h; exact absurd h h3
        · rw [if_neg h3] at h
          simp only [okT]
          refine ⟨⟨by omega, by omega⟩, fun x hx => ?_, ?_, checkL_ok inner h (by omega)⟩
          · have h4 : ¬ (x < 0 ∨ 10 ≤ x) := by
              intro hc
              apply h2
              rw [List.any_eq_true]
              exact ⟨x, hx, by simpa using hc⟩
            exact ⟨by omega, by omega⟩
          · apply Classical.byContradiction
            intro hc
            have e1 : nodes = [] := Classical.byContradiction fun h => hc (.inl h)
            have e2 : inner = [] := Classical.byContradiction fun h => hc (.inr h)
            subst e1 e2
            simp at h1
            omega
theorem checkL_ok : ∀ l : List Tr, checkL l = 0 → sizeL l ≤ 9999 → okL l
  | [], _, _ => by simp only [okL]
  | x :: r, h, hs => by
    simp only [checkL] at h
    simp only [sizeL] at hs
    by_cases h1 : checkE x ≠ 0
    · rw [if_pos h1] at h; exact absurd h h1
    · rw [if_neg h1] at h
      simp only [okL]
      exact ⟨check_ok x (by simpa using h1) (by omega), checkL_ok r h (by omega)⟩
end
theorem valid_check {t : Tr} (h : validE t = 0) : checkE t = 0 ∧ t.size ≤ 200 ∧ t.dep ≤ 4 := by
  unfold validE at h
  by_cases h1 : 4 < t.dep ∨ 200 < t.size
  · rw [if_pos h1] at h; cases h
  · rw [if_neg h1] at h
    exact ⟨h, by omega, by omega⟩
theorem valid_ok {t : Tr} (h : validE t = 0) : okT t := check_ok t (valid_check h).1 (by have := (valid_check h).2.1; omega)
theorem itoa_len4 {k : Int} (h : Nu k) : (Lib.itoa k).length ≤ 4 := by
  obtain ⟨n, rfl, hn⟩ := nu_nat h
  rw [Lib.itoa_nonneg]
  exact dec_len4 hn
theorem ndW_lens4 : ∀ l : List Int, (∀ x ∈ l, Nu x) → Lib.lens (ndW l) ≤ 4 * l.length
  | [], _ => by simp [ndW, Lib.lens]
  | x :: r, h => by
    have h1 := itoa_len4 (h x (by simp))
    have h2 := ndW_lens4 r (fun y hy => h y (List.mem_cons_of_mem _ hy))
    simp only [ndW, Lib.lens, List.map_cons, List.sum_cons, List.length_cons] at *
    omega
mutual
theorem ok_len : ∀ t : Tr, okT t → (txT t).length ≤ 12 * t.size + 10
  | .mk thr nodes inner, h => by
    simp only [okT] at h
    have h1 := itoa_len4 h.1
    have h2 := ndW_lens4 nodes h.2.1
    have h3 := okL_lens inner h.2.2.2
    have h4 := join_len [44, 32] (ndW nodes ++ txL inner)
    rw [lens_append, List.length_append, ndW_len, txL_len] at h4
    simp only [txT, Tr.size, List.length_append, List.length_cons, List.length_nil] at *
    omega
theorem okL_lens : ∀ l : List Tr, okL l → Lib.lens (txL l) ≤ 12 * sizeL l + 10 * l.length
  | [], _ => by simp [txL, Lib.lens]
  | x :: r, h => by
    simp only [okL] at h
    have h1 := ok_len x h.1
    have h2 := okL_lens r h.2
    simp only [txL, sizeL, Lib.lens, List.map_cons, List.sum_cons, List.length_cons] at *
    omega
end
theorem valid_len {t : Tr} (h : validE t = 0) : (txT t).length ≤ 2410 := by
  have := ok_len t (valid_ok h)
  have := (valid_check h).2.1
  omega

mutual
/-- Are two trusts the same? -/
def sameT : Tr → Tr → Bool
  | .mk t1 n1 i1, .mk t2 n2 i2 => decide (t1 = t2) && decide (n1 = n2) && sameL i1 i2
def sameL : List Tr → List Tr → Bool
  | [], [] => true
  | x :: r, y :: s => sameT x y && sameL r s
  | [], _ :: _ => false
  | _ :: _, [] => false
end
mutual
theorem sameT_iff : ∀ a b : Tr, sameT a b = true ↔ a = b
  | .mk t1 n1 i1, .mk t2 n2 i2 => by
    simp only [sameT, Bool.and_eq_true, decide_eq_true_eq, sameL_iff i1 i2, Tr.mk.injEq, and_assoc]
theorem sameL_iff : ∀ a b : List Tr, sameL a b = true ↔ a = b
  | [], [] => by simp [sameL]
  | x :: r, y :: s => by simp only [sameL, Bool.and_eq_true, sameT_iff x y, sameL_iff r s, List.cons.injEq]
  | [], _ :: _ => by simp [sameL]
  | _ :: _, [] => by simp [sameL]
end
theorem sameL_len : ∀ a b : List Tr, sameL a b = true → a.length = b.length := fun a b h => by rw [(sameL_iff a b).1 h]
theorem sameL_drop : ∀ (a b : List Tr) (k : Nat) (h1 : k < a.length) (h2 : k < b.length), sameL (a.drop k) (b.drop k) = (sameT a[k] b[k] && sameL (a.drop (k + 1)) (b.drop (k + 1))) := fun a b k h1 h2 => by
  rw [List.drop_eq_getElem_cons h1, List.drop_eq_getElem_cons h2, sameL]
/-- Two valid trusts have the same text exactly if they are the same. -/
theorem text_same {a b : Tr} (ha : validE a = 0) (hb : validE b = 0) : decide (txT a = txT b) = sameT a b := by
  rw [Bool.eq_iff_iff, decide_eq_true_eq, sameT_iff]
  exact ⟨txT_inj (valid_ok ha) (valid_ok hb), fun h => by rw [h]⟩
end Go.Proofs.YtoblhcieidljjaaGreatDoor

/- Plain laws of the reader as a function of what is left. -/
namespace Go.Proofs.YtoblhcieidljjaaGreatDoor
open Go.RowKit

theorem size_list (S : ByteArray) : S.size = S.data.toList.length := (Array.length_toList).symm
theorem head_size {T : ByteArray} {c : UInt8} {r : List UInt8} (h : T.data.toList = c :: r) : T.size = r.length + 1 := by
  rw [size_list, h]; rfl
theorem head_get {T : ByteArray} {c : UInt8} {r : List UInt8} (h : T.data.toList = c :: r) (hz : 0 < T.size) : T[0] = c := by
  have : T[0] = T.data.toList[0]'(by simpa using hz) := rfl
  rw [this]
  simp [h]
theorem numP_eq (u : List UInt8) : numP u = if numB (tok u) then some (numV 0 (tok u)) else none := rfl
theorem tok_dg {u : List UInt8} (h : numB (tok u) = true) : ∀ c ∈ tok u, isDg c = true := by
  by_cases h1 : u.take 2 = [111, 102]
  · have e : tok u = [111, 102] := by unfold tok tokN; rw [if_pos h1, h1]
    rw [e] at h
    exact absurd h (by decide)
  · cases u with
    | nil => intro c hc; simp [tok] at hc
    | cons c r =>
      by_cases h2 : c = 40 ∨ c = 41 ∨ c = 44
      · have e : tok (c :: r) = [c] := by unfold tok tokN; rw [if_neg h1]; simp only; rw [if_pos h2]; simp
        rw [e] at h
        rcases h2 with rfl | rfl | rfl <;> exact absurd h (by decide)
      · have e : tok (c :: r) = (c :: r).takeWhile isDg := by
          unfold tok tokN
          rw [if_neg h1]
          simp only
          rw [if_neg h2]
          exact (List.prefix_iff_eq_take.1 (List.takeWhile_prefix isDg)).symm
        rw [e]
        intro x hx
        exact List.all_eq_true.1 List.all_takeWhile x hx
/-- Behind an entry. -/
def tailP (f : Nat) (n : Int) (nodes : List Int) (inner : List Tr) (v : List UInt8) : Option Tr × List UInt8 :=
  if tok v = [41] then (some (.mk n nodes inner), nxt v) else if tok v = [44] then loopP f n nodes inner (nxt v) else (none, v)
theorem loop_none {f : Nat} {n : Int} {nodes : List Int} {inner : List Tr} {u : List UInt8} (h : numP u = none) : loopP (f + 1) n nodes inner u = (none, u) := by
  simp only [loopP, h]
theorem loop_node {f : Nat} {n : Int} {nodes : List Int} {inner : List Tr} {u : List UInt8} {k : Nat} (h : numP u = some k) (ho : tok (nxt u) ≠ [111, 102]) : loopP (f + 1) n nodes inner u = tailP f n (nodes ++ [(k : Int)]) inner (nxt u) := by
  simp only [loopP, h, if_neg ho, tailP]
theorem loop_bad {f : Nat} {n : Int} {nodes : List Int} {inner : List Tr} {u v : List UInt8} {k : Nat} (h : numP u = some k) (ho : tok (nxt u) = [111, 102]) (hr : restP f k (nxt u) = (none, v)) : loopP (f + 1) n nodes inner u = (none, v) := by
  simp only [loopP, h, if_pos ho, hr]
theorem loop_inner {f : Nat} {n : Int} {nodes : List Int} {inner : List Tr} {u v : List UInt8} {k : Nat} {x : Tr} (h : numP u = some k) (ho : tok (nxt u) = [111, 102]) (hr : restP f k (nxt u) = (some x, v)) : loopP (f + 1) n nodes inner u = tailP f n nodes (inner ++ [x]) v := by
  simp only [loopP, h, if_pos ho, hr, tailP]
theorem tail_yes {f : Nat} {n : Int} {nodes : List Int} {inner : List Tr} {v : List UInt8} (h : tok v = [41]) : tailP f n nodes inner v = (some (.mk n nodes inner), nxt v) := by simp only [tailP, if_pos h]
theorem tail_more {f : Nat} {n : Int} {nodes : List Int} {inner : List Tr} {v : List UInt8} (h : tok v ≠ [41]) (h2 : tok v = [44]) : tailP f n nodes inner v = loopP f n nodes inner (nxt v) := by simp only [tailP, if_neg h, if_pos h2]
theorem tail_no {f : Nat} {n : Int} {nodes : List Int} {inner : List Tr} {v : List UInt8} (h : tok v ≠ [41]) (h2 : tok v ≠ [44]) : tailP f n nodes inner v = (none, v) := by simp only [tailP, if_neg h, if_neg h2]
theorem num_lt {u : List UInt8} {k : Nat} (h : numP u = some k) : (nxt u).length < u.length ∧ k ≤ 9999 := by
  rw [numP_eq] at h
  cases hb : numB (tok u) with
  | false => rw [hb] at h; simp at h
  | true =>
    rw [if_pos hb] at h
    injection h with h
    refine ⟨nxt_lt (numB_ne hb), ?_⟩
    have hd := tok_dg hb
    have h1 : ∀ (l : List UInt8) (a : Nat), (∀ c ∈ l, isDg c = true) → numV a l < (a + 1) * 10 ^ l.length := by
      intro l
      induction l with
      | nil => intro a _; simp [numV]
      | cons c r ih =>
        intro a hl
        have hc := hl c (by simp)
        simp only [isDg, decide_eq_true_eq] at hc
        have e : numV a (c :: r) = numV (10 * a + (c.toNat - 48)) r := rfl
        rw [e]
        have := ih (10 * a + (c.toNat - 48)) fun x hx => hl x (List.mem_cons_of_mem _ hx)
        refine Nat.lt_of_lt_of_le this ?_
        rw [List.length_cons, Nat.pow_succ, Nat.mul_comm (10 ^ r.length) 10, ← Nat.mul_assoc]
        exact Nat.mul_le_mul_right _ (by omega)
    have h2 := h1 (tok u) 0 hd
    rw [h] at h2
    cases ht : tok u with
    | nil => rw [ht] at hb; simp [numB] at hb
    | cons c r =>
      rw [ht] at hb h2
      simp only [numB, Bool.and_eq_true, decide_eq_true_eq] at hb
      have hl : (c :: r).length ≤ 4 := by simp; omega
      have : 10 ^ (c :: r).length ≤ 10 ^ 4 := Nat.pow_le_pow_right (by omega) hl
      omega

mutual
theorem restP_size : ∀ (f : Nat) (n : Int) (u : List UInt8) (t : Tr) (v : List UInt8), restP f n u = (some t, v) → t.size + v.length ≤ u.length
  | 0, _, u, t, v, h => by simp [restP] at h
  | f + 1, n, u, t, v, h => by
    simp only [restP] at h
    have h1 := nxt_le u
    have h2 := nxt_le (nxt u)
    split at h
    · split at h
      · have := loopP_size f n [] [] _ t v h
        simp only [List.length_nil, sizeL] at this
        omega
      · cases h
    · cases h
theorem loopP_size : ∀ (f : Nat) (n : Int) (a : List Int) (b : List Tr) (u : List UInt8) (t : Tr) (v : List UInt8), loopP f n a b u = (some t, v) → t.size + v.length ≤ a.length + b.length + sizeL b + u.length
  | 0, _, _, _, u, t, v, h => by simp [loopP] at h
  | f + 1, n, a, b, u, t, v, h => by
    cases hn : numP u with
    | none => rw [loop_none hn] at h; cases h
    | some k =>
      obtain ⟨h1, _⟩ := num_lt hn
      by_cases ho : tok (nxt u) = [111, 102]
      · cases hr : restP f k (nxt u) with
        | mk o v' =>
          cases o with
          | none => rw [loop_bad hn ho hr] at h; cases h
          | some x =>
            rw [loop_inner hn ho hr] at h
            have h2 := restP_size f k (nxt u) x v' hr
            have h3 := nxt_le v'
            by_cases h41 : tok v' = [41]
            · rw [tail_yes h41] at h
              injection h with e1 e2
              injection e1 with e1
              subst e1 e2
              simp only [Tr.size, List.length_append, List.length_cons, List.length_nil, sizeL_append, sizeL]
              omega
            · by_cases h44 : tok v' = [44]
              · rw [tail_more h41 h44] at h
                have := loopP_size f n a (b ++ [x]) _ t v h
                simp only [List.length_append, List.length_cons, List.length_nil, sizeL_append, sizeL] at this
                omega
              · rw [tail_no h41 h44] at h; cases h
      · rw [loop_node hn ho] at h
        have h3 := nxt_le (nxt u)
        by_cases h41 : tok (nxt u) = [41]
        · rw [tail_yes h41] at h
          injection h with e1 e2
          injection e1 with e1
          subst e1 e2
          simp only [Tr.size, List.length_append, List.length_cons, List.length_nil]
          omega
        · by_cases h44 : tok (nxt u) = [44]
          · rw [tail_more h41 h44] at h
            have := loopP_size f n (a ++ [(k : Int)]) b _ t v h
            simp only [List.length_append, List.length_cons, List.length_nil] at this
            omega
          · rw [tail_no h41 h44] at h; cases h
end

theorem parse_none {S : ByteArray} {v : List UInt8} (hl : S.size ≤ 6000) (h : wholeP S.data.toList = (none, v)) : parseP S.data.toList = .no (S.size - v.length) 2 := by
  unfold parseP
  rw [if_neg (by rw [← size_list]; omega), h, size_list]
theorem parse_more {S : ByteArray} {v : List UInt8} {t : Tr} (hl : S.size ≤ 6000) (h : wholeP S.data.toList = (some t, v)) (hv : v ≠ []) : parseP S.data.toList = .no (S.size - v.length) 2 := by
  unfold parseP
  rw [if_neg (by rw [← size_list]; omega), h, size_list]
  simp only
  rw [if_pos hv]
theorem parse_bad {S : ByteArray} {t : Tr} (hl : S.size ≤ 6000) (h : wholeP S.data.toList = (some t, [])) (hv : validE t ≠ 0) : parseP S.data.toList = .no 0 (validE t) := by
  unfold parseP
  rw [if_neg (by rw [← size_list]; omega), h]
  simp only
  rw [if_neg (by simp), if_pos hv]
theorem parse_good {S : ByteArray} {t : Tr} (hl : S.size ≤ 6000) (h : wholeP S.data.toList = (some t, [])) (hv : validE t = 0) : parseP S.data.toList = .ok t := by
  unfold parseP
  rw [if_neg (by rw [← size_list]; omega), h]
  simp only
  rw [if_neg (by simp), if_neg (by simpa using hv)]
def zeroT : Value := .agg #[.int .i64 0, .slice none 0 0, .slice none 0 0]
end Go.Proofs.YtoblhcieidljjaaGreatDoor

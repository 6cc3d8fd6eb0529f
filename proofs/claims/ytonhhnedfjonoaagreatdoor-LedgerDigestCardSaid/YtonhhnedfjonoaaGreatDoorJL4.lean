/- Some texts of this claim, joined: contracts of the functions that it reaches, and plain laws. -/
import Derived.Test.YtonhhnedfjonoaaGreatDoorJL1
import Derived.Lib.Join
import Derived.Lib.ItoaLen

set_option linter.unusedSimpArgs false
set_option linter.unusedVariables false
/- The text of a trust, plain: as it is written, how long it is. -/
namespace Go.Proofs.YtonhhnedfjonoaaGreatDoor
open Go.RowKit

/-- The words of the nodes. -/
def ndW (l : List Int) : List (List UInt8) := l.map Lib.itoa
mutual
/-- The text of a trust. -/
def txT : Tr → List UInt8
  | .mk thr nodes inner => Lib.itoa thr ++ [32, 111, 102, 32, 40] ++ Lib.join (ndW nodes ++ txL inner) [44, 32] ++ [41]
def txL : List Tr → List (List UInt8)
  | [] => []
  | x :: r => txT x :: txL r
end
theorem txL_map : ∀ l : List Tr, txL l = l.map txT
  | [] => by simp [txL]
  | x :: r => by simp [txL, txL_map r]
theorem txL_take (l : List Tr) (k : Nat) (hk : k < l.length) : txL (l.take (k + 1)) = txL (l.take k) ++ [txT l[k]] := by
  rw [List.take_succ_eq_append_getElem hk, txL_map, txL_map, List.map_append]; rfl
theorem ndW_take (l : List Int) (k : Nat) (hk : k < l.length) : ndW (l.take (k + 1)) = ndW (l.take k) ++ [Lib.itoa l[k]] := by
  rw [List.take_succ_eq_append_getElem hk, ndW, ndW, List.map_append]; rfl
theorem txL_len (l : List Tr) : (txL l).length = l.length := by rw [txL_map]; simp
theorem ndW_len (l : List Int) : (ndW l).length = l.length := by simp [ndW]

theorem join_snoc (sep x : List UInt8) : ∀ l : List (List UInt8), Lib.join (l ++ [x]) sep = Lib.join l sep ++ (if l = [] then [] else sep) ++ x
  | [] => by simp [Lib.join_one, Lib.join_nil]
  | y :: r => by
    rw [List.cons_append, Lib.join_cons, Lib.join_cons]
    simp [Lib.joinTail, List.append_assoc]
theorem join_len (sep : List UInt8) : ∀ l : List (List UInt8), (Lib.join l sep).length ≤ sep.length * l.length + Lib.lens l
  | [] => by simp [Lib.join_nil]
  | x :: r => by
    rw [Lib.join_length]
    have : sep.length * r.length ≤ sep.length * (r.length + 1) := Nat.mul_le_mul_left _ (by omega)
    simp only [List.length_cons]
    omega
theorem lens_append (a b : List (List UInt8)) : Lib.lens (a ++ b) = Lib.lens a + Lib.lens b := by simp [Lib.lens]
theorem itoa_len {n : Int} (h : Wi n) : (Lib.itoa n).length ≤ 21 := Lib.itoa_length_le n h.1 h.2
theorem ndW_lens : ∀ l : List Int, (∀ x ∈ l, Wi x) → Lib.lens (ndW l) ≤ 21 * l.length
  | [], _ => by simp [ndW, Lib.lens]
  | x :: r, h => by
    have h1 := itoa_len (h x (by simp))
    have h2 := ndW_lens r (fun y hy => h y (List.mem_cons_of_mem _ hy))
    simp only [ndW, Lib.lens, List.map_cons, List.sum_cons, List.length_cons] at *
    omega
mutual
/-- All numbers of a trust are ints. -/
def wiT : Tr → Prop
  | .mk thr nodes inner => Wi thr ∧ (∀ x ∈ nodes, Wi x) ∧ wiL inner
def wiL : List Tr → Prop
  | [] => True
  | x :: r => wiT x ∧ wiL r
end
mutual
theorem TrD.wi {w : World} {D : Nat → Prop} : ∀ (t : Tr) (v : Value), TrD w D v t → wiT t
  | .mk thr nodes inner, v, h => by
    simp only [TrD] at h
    obtain ⟨vn, vi, cells, e, h0, h1, h2, h3, h4, h5, h6⟩ := h
    simp only [wiT]
    exact ⟨h0, h2, TrsD.wi inner cells h6⟩
theorem TrsD.wi {w : World} {D : Nat → Prop} : ∀ (l : List Tr) (cells : List Value), TrsD w D cells l → wiL l
  | [], cells, h => by simp only [wiL]
  | x :: r, cells, h => by
    simp only [TrsD] at h
    obtain ⟨a, b, c, rest, e, h1, h2⟩ := h
    simp only [wiL]
    exact ⟨TrD.wi x _ h1, TrsD.wi r rest h2⟩
end
mutual
theorem txT_len : ∀ t : Tr, wiT t → (txT t).length ≤ 30 * t.size + 27
  | .mk thr nodes inner, h => by
    simp only [wiT] at h
    have h1 := itoa_len h.1
    have h2 := ndW_lens nodes h.2.1
    have h3 := txL_lens inner h.2.2
    have h4 := join_len [44, 32] (ndW nodes ++ txL inner)
    rw [lens_append, List.length_append, ndW_len, txL_len] at h4
    simp only [txT, Tr.size, List.length_append, List.length_cons, List.length_nil] at *
    omega
theorem txL_lens : ∀ l : List Tr, wiL l → Lib.lens (txL l) ≤ 30 * sizeL l + 27 * l.length
  | [], _ => by simp [txL, Lib.lens]
  | x :: r, h => by
    simp only [wiL] at h
    have h1 := txT_len x h.1
    have h2 := txL_lens r h.2
    simp only [txL, sizeL, Lib.lens, List.map_cons, List.sum_cons, List.length_cons] at *
    omega
end
theorem wiL_get : ∀ (l : List Tr) (k : Nat) (hk : k < l.length), wiL l → wiT l[k]
  | x :: r, 0, _, h => by simp only [wiL] at h; exact h.1
  | x :: r, k + 1, hk, h => by
    simp only [wiL] at h
    simpa using wiL_get r k (by simpa using hk) h.2
theorem wiL_take : ∀ (l : List Tr) (k : Nat), wiL l → wiL (l.take k)
  | [], k, h => by simpa using h
  | x :: r, 0, h => by simp only [List.take_zero, wiL]
  | x :: r, k + 1, h => by
    simp only [wiL, List.take_succ_cons] at h ⊢
    exact ⟨h.1, wiL_take r k h.2⟩
/-- The words of a trust, up to some of its nodes and inner trusts. -/
def wdT (nodes : List Int) (inner : List Tr) : List (List UInt8) := ndW nodes ++ txL inner
theorem wdT_lens (nodes : List Int) (inner : List Tr) (h1 : ∀ x ∈ nodes, Wi x) (h2 : wiL inner) : (Lib.join (wdT nodes inner) [44, 32]).length ≤ 30 * (nodes.length + inner.length + sizeL inner) := by
  have h3 := ndW_lens nodes h1
  have h4 := txL_lens inner h2
  have h5 := join_len [44, 32] (wdT nodes inner)
  unfold wdT at *
  rw [lens_append, List.length_append, ndW_len, txL_len] at h5
  simp only [List.length_cons, List.length_nil] at h5
  omega
end Go.Proofs.YtonhhnedfjonoaaGreatDoor

/- Reading a trust, plain: tokens, numbers, the reader of notation as a function of what is left of the text. -/
namespace Go.Proofs.YtonhhnedfjonoaaGreatDoor
open Go.RowKit

def isDg (c : UInt8) : Bool := decide (48 ≤ c.toNat ∧ c.toNat ≤ 57)
/-- Past the blanks. -/
def skp (u : List UInt8) : List UInt8 := u.dropWhile (· == 32)
/-- The length of the token with which a text begins. -/
def tokN (u : List UInt8) : Nat :=
  if u.take 2 = [111, 102] then 2 else match u with
    | [] => 0
    | c :: r => if c = 40 ∨ c = 41 ∨ c = 44 then 1 else ((c :: r).takeWhile isDg).length
def tok (u : List UInt8) : List UInt8 := u.take (tokN u)
def nxt (u : List UInt8) : List UInt8 := skp (u.drop (tokN u))
/-- The value of a numeral. -/
def numV (n : Nat) (l : List UInt8) : Nat := l.foldl (fun n c => 10 * n + (c.toNat - 48)) n
/-- May a token stand as a number? -/
def numB (w : List UInt8) : Bool := match w with
  | [] => false
  | c :: r => isDg c && decide (r.length ≤ 3) && !(decide (1 ≤ r.length) && c == 48)
def numP (u : List UInt8) : Option Nat := if numB (tok u) then some (numV 0 (tok u)) else none

mutual
/-- A trust behind its threshold; none: it has not its form. Beside it: what is left. -/
def restP : Nat → Int → List UInt8 → Option Tr × List UInt8
  | 0, _, u => (none, u)
  | f + 1, n, u => if tok u = [111, 102] then (if tok (nxt u) = [40] then loopP f n [] [] (nxt (nxt u)) else (none, nxt u)) else (none, u)
def loopP : Nat → Int → List Int → List Tr → List UInt8 → Option Tr × List UInt8
  | 0, _, _, _, u => (none, u)
  | f + 1, n, nodes, inner, u =>
    match numP u with
    | none => (none, u)
    | some k =>
      if tok (nxt u) = [111, 102] then
        match restP f k (nxt u) with
        | (none, v) => (none, v)
        | (some x, v) => if tok v = [41] then (some (.mk n nodes (inner ++ [x])), nxt v) else if tok v = [44] then loopP f n nodes (inner ++ [x]) (nxt v) else (none, v)
      else if tok (nxt u) = [41] then (some (.mk n (nodes ++ [(k : Int)]) inner), nxt (nxt u)) else if tok (nxt u) = [44] then loopP f n (nodes ++ [(k : Int)]) inner (nxt (nxt u)) else (none, nxt u)
end
/-- What Parse returns: a trust, or the place of an error and its code. -/
inductive Got where
  | ok (t : Tr)
  | no (at_ : Nat) (e : Int)
/-- Behind the first number. -/
def wholeP (s : List UInt8) : Option Tr × List UInt8 :=
  match numP (skp s) with
  | none => (none, skp s)
  | some n => restP (s.length + 1) n (nxt (skp s))
def parseP (s : List UInt8) : Got :=
  if 6000 < s.length then .no 0 3 else
    match wholeP s with
    | (none, v) => .no (s.length - v.length) 2
    | (some t, v) => if v ≠ [] then .no (s.length - v.length) 2 else if validE t ≠ 0 then .no 0 (validE t) else .ok t

theorem skp_len (u : List UInt8) : (skp u).length ≤ u.length := (List.dropWhile_suffix _).length_le
theorem tokN_le (u : List UInt8) : tokN u ≤ u.length := by
  unfold tokN
  split
  · rename_i h
    have := congrArg List.length h
    simp only [List.length_take, List.length_cons, List.length_nil] at this
    omega
  · split
    · simp
    · split
      · simp
      · exact (List.takeWhile_prefix _).length_le
theorem nxt_len (u : List UInt8) : (nxt u).length ≤ u.length - tokN u := by
  have := skp_len (u.drop (tokN u))
  rw [List.length_drop] at this
  exact this
theorem nxt_le (u : List UInt8) : (nxt u).length ≤ u.length := by have := nxt_len u; omega
theorem tok_len (u : List UInt8) : (tok u).length = tokN u := by
  unfold tok
  rw [List.length_take]
  exact Nat.min_eq_left (tokN_le u)
theorem nxt_lt {u : List UInt8} (h : tok u ≠ []) : (nxt u).length < u.length := by
  have h1 := tok_len u
  have h2 := nxt_len u
  have h3 := tokN_le u
  have : 0 < (tok u).length := List.length_pos_iff.2 h
  omega
theorem numB_ne {w : List UInt8} (h : numB w = true) : w ≠ [] := by
  intro e; subst e; simp [numB] at h
mutual
theorem restP_len : ∀ (f : Nat) (n : Int) (u : List UInt8), (restP f n u).2.length ≤ u.length
  | 0, _, u => by simp [restP]
  | f + 1, n, u => by
    simp only [restP]
    have h1 := nxt_le u
    have h2 := nxt_le (nxt u)
    split
    · split
      · have := loopP_len f n [] [] (nxt (nxt u)); omega
      · exact h1
    · exact Nat.le_refl _
theorem loopP_len : ∀ (f : Nat) (n : Int) (a : List Int) (b : List Tr) (u : List UInt8), (loopP f n a b u).2.length ≤ u.length
  | 0, _, _, _, u => by simp [loopP]
  | f + 1, n, a, b, u => by
    simp only [loopP]
    have h1 := nxt_le u
    have h2 := nxt_le (nxt u)
    split
    · exact Nat.le_refl _
    · rename_i k _
      have h3 := restP_len f k (nxt u)
      split
      · generalize restP f k (nxt u) = p at *
        obtain ⟨o, v⟩ := p
        simp only at h3
        have h4 := nxt_le v
        cases o with
        | none => simp only; omega
        | some x =>
          simp only
          split
          · simp only; omega
          · split
            · have := loopP_len f n a (b ++ [x]) (nxt v); omega
            · simp only; omega
      · split
        · simp only; omega
        · split
          · have := loopP_len f n (a ++ [(k : Int)]) b (nxt (nxt u)); omega
          · simp only; omega
end
end Go.Proofs.YtonhhnedfjonoaaGreatDoor

/- A trust comes back from its text, with any blanks between the tokens: plain. -/
namespace Go.Proofs.YtonhhnedfjonoaaGreatDoor
open Go.RowKit

/-- The tokens ts, and then v. -/
def Sp : List (List UInt8) → List UInt8 → List UInt8 → Prop
  | [], u, v => u = v
  | t :: ts, u, v => tok u = t ∧ Sp ts (nxt u) v
theorem Sp.append : ∀ (a b : List (List UInt8)) (u v : List UInt8), Sp (a ++ b) u v ↔ ∃ w, Sp a u w ∧ Sp b w v
  | [], b, u, v => by simp [Sp]
  | t :: a, b, u, v => by
    simp only [List.cons_append, Sp, Sp.append a b]
    constructor
    · rintro ⟨h, w, h1, h2⟩; exact ⟨w, ⟨h, h1⟩, h2⟩
    · rintro ⟨w, ⟨h, h1⟩, h2⟩; exact ⟨h, w, h1, h2⟩
theorem Sp.len : ∀ (a : List (List UInt8)) (u v : List UInt8), Sp a u v → v.length ≤ u.length
  | [], u, v, h => by simp only [Sp] at h; subst h; omega
  | t :: a, u, v, h => by
    simp only [Sp] at h
    have := Sp.len a _ _ h.2
    have := nxt_le u
    omega

def tkN (l : List Int) : List (List (List UInt8)) := l.map fun k => [Lib.itoa k]
/-- Entries with commas between them, and what shuts them. -/
def sepT : List (List (List UInt8)) → List (List UInt8)
  | [] => [[41]]
  | x :: r => x ++ (if r = [] then [[41]] else [44] :: sepT r)
mutual
/-- The tokens of a trust behind its threshold. -/
def tkR : Tr → List (List UInt8)
  | .mk _ nodes inner => [111, 102] :: [40] :: sepT (tkN nodes ++ tkL inner)
def tkL : List Tr → List (List (List UInt8))
  | [] => []
  | x :: r => (Lib.itoa x.thr :: tkR x) :: tkL r
end
/-- A number that can be read. -/
def Nu (k : Int) : Prop := 0 ≤ k ∧ k ≤ 9999
mutual
def okT : Tr → Prop
  | .mk thr nodes inner => Nu thr ∧ (∀ x ∈ nodes, Nu x) ∧ (nodes ≠ [] ∨ inner ≠ []) ∧ okL inner
def okL : List Tr → Prop
  | [] => True
  | x :: r => okT x ∧ okL r
end
theorem okT.thr : ∀ {t : Tr}, okT t → Nu t.thr
  | .mk _ _ _, h => by simp only [okT] at h; exact h.1

theorem numV_append (a b : List UInt8) (n : Nat) : numV n (a ++ b) = numV (numV n a) b := List.foldl_append
theorem numV_one (n : Nat) (c : UInt8) : numV n [c] = 10 * n + (c.toNat - 48) := rfl
theorem numV_dec (u : Nat) : numV 0 (Lib.decDigits u) = u := by
  induction u using Nat.strongRecOn with
  | _ u ih =>
    by_cases h : u < 10
    · rw [Lib.decDigits, dif_pos h]
      simp only [numV_one, UInt8.toNat_ofNat']
      omega
    · rw [Lib.decDigits, dif_neg h, numV_append, ih (u / 10) (by omega)]
      simp only [numV_one, UInt8.toNat_ofNat']
      omega
theorem dec_dg (u : Nat) : ∀ c ∈ Lib.decDigits u, isDg c = true := by
  induction u using Nat.strongRecOn with
  | _ u ih =>
    intro c hc
    by_cases h : u < 10
    · rw [Lib.decDigits, dif_pos h] at hc
      simp only [List.mem_singleton] at hc
      subst hc
      simp only [isDg, UInt8.toNat_ofNat', decide_eq_true_eq]
      omega
    · rw [Lib.decDigits, dif_neg h] at hc
      rcases List.mem_append.1 hc with hc | hc
      · exact ih (u / 10) (by omega) c hc
      · simp only [List.mem_singleton] at hc
        subst hc
        simp only [isDg, UInt8.toNat_ofNat', decide_eq_true_eq]
        omega
theorem dec_head (u : Nat) (h0 : 1 ≤ u) : ∃ c r, Lib.decDigits u = c :: r ∧ c ≠ 48 := by
  induction u using Nat.strongRecOn with
  | _ u ih =>
    by_cases h : u < 10
    · rw [Lib.decDigits, dif_pos h]
      refine ⟨_, _, rfl, fun e => ?_⟩
      have := congrArg UInt8.toNat e
      simp only [UInt8.toNat_ofNat'] at this
      have h48 : (48 : UInt8).toNat = 48 := rfl
      omega
    · obtain ⟨c, r, e, hc⟩ := ih (u / 10) (by omega) (by omega)
      rw [Lib.decDigits, dif_neg h, e]
      exact ⟨c, _, rfl, hc⟩
theorem dec_len4 {u : Nat} (h : u ≤ 9999) : (Lib.decDigits u).length ≤ 4 := by
  rw [Lib.decDigits_length]
  by_cases h1 : u < 10
  · rw [Lib.nDigits_small h1]; omega
  · rw [Lib.nDigits_big h1]
    by_cases h2 : u / 10 < 10
    · rw [Lib.nDigits_small h2]; omega
    · rw [Lib.nDigits_big h2]
      by_cases h3 : u / 10 / 10 < 10
      · rw [Lib.nDigits_small h3]; omega
      · rw [Lib.nDigits_big h3, Lib.nDigits_small (by omega)]; omega
theorem dec_ne (u : Nat) : Lib.decDigits u ≠ [] := by
  intro e
  have := congrArg List.length e
  rw [Lib.decDigits_length] at this
  have := Lib.nDigits_pos u
  simp only [List.length_nil] at *
  omega
theorem numB_dec {u : Nat} (h : u ≤ 9999) : numB (Lib.decDigits u) = true := by
  have hl := dec_len4 h
  have hd := dec_dg u
  by_cases h0 : u = 0
  · subst h0
    rw [Lib.decDigits_one (by omega)]
    rfl
  · obtain ⟨c, r, e, hc⟩ := dec_head u (by omega)
    rw [e] at hl hd ⊢
    simp only [numB, hd c (by simp), Bool.true_and, Bool.and_eq_true, decide_eq_true_eq]
    refine ⟨by simpa using hl, ?_⟩
    simp [hc]
theorem nu_nat {k : Int} (h : Nu k) : ∃ n : Nat, k = n ∧ n ≤ 9999 := by
  obtain ⟨n, rfl⟩ := Int.eq_ofNat_of_zero_le h.1
  exact ⟨n, rfl, by have := h.2; omega⟩
theorem numP_of {k : Int} (h : Nu k) {u : List UInt8} (e : tok u = Lib.itoa k) : ∃ n : Nat, numP u = some n ∧ (n : Int) = k := by
  obtain ⟨n, rfl, hn⟩ := nu_nat h
  rw [Lib.itoa_nonneg] at e
  refine ⟨n, ?_, rfl⟩
  unfold numP
  rw [e, numB_dec hn, numV_dec]
  rfl
theorem itoa_ne (k : Int) : Lib.itoa k ≠ [] := by
  unfold Lib.itoa
  split
  · simp
  · exact dec_ne _

theorem of_ne41 : ([111, 102] : List UInt8) ≠ [41] := by decide
theorem c41_of : ¬ ([41] : List UInt8) = [111, 102] := by decide
theorem c44_of : ¬ ([44] : List UInt8) = [111, 102] := by decide
theorem c44_41 : ¬ ([44] : List UInt8) = [41] := by decide
theorem tkR_head (t : Tr) : ∃ r, tkR t = [111, 102] :: r := by
  obtain ⟨thr, nodes, inner⟩ := t
  exact ⟨_, by simp only [tkR]; rfl⟩

/-- The nodes that are left, and then the inner trusts, of which the rest is known. -/
theorem loop_nodes (is : List Tr) (hI : is ≠ [] → ∀ (f : Nat) (thr : Int) (dn : List Int) (u v : List UInt8), Sp (sepT (tkL is)) u v → u.length < f → loopP f thr dn [] u = (some (.mk thr dn is), v)) :
    ∀ (ns : List Int), (∀ x ∈ ns, Nu x) → (ns ≠ [] ∨ is ≠ []) → ∀ (f : Nat) (thr : Int) (dn : List Int) (u v : List UInt8), Sp (sepT (tkN ns ++ tkL is)) u v → u.length < f → loopP f thr dn [] u = (some (.mk thr (dn ++ ns) is), v)
  | [], _, hne, f, thr, dn, u, v, h, hf => by
    rw [List.append_nil]
    exact hI (by simpa using hne) f thr dn u v (by simpa [tkN] using h) hf
  | k :: ns, hN, _, 0, thr, dn, u, v, h, hf => by omega
  | k :: ns, hN, _, f + 1, thr, dn, u, v, h, hf => by
    have hcons : tkN (k :: ns) ++ tkL is = [Lib.itoa k] :: (tkN ns ++ tkL is) := rfl
    rw [hcons] at h
    simp only [sepT, List.cons_append, List.nil_append, Sp] at h
    obtain ⟨h1, h2⟩ := h
    obtain ⟨n, hn, hk⟩ := numP_of (hN k (by simp)) h1
    have hlt := nxt_lt (u := u) (by rw [h1]; exact itoa_ne k)
    have hle := nxt_le (nxt u)
    simp only [loopP, hn]
    by_cases hr : tkN ns ++ tkL is = []
    · rw [if_pos hr] at h2
      simp only [Sp] at h2
      obtain ⟨h3, h4⟩ := h2
      rw [h3, if_neg c41_of, if_pos rfl, h4]
      have e1 : ns = [] := by
        have := (List.append_eq_nil_iff.1 hr).1
        simpa [tkN] using this
      have e2 : is = [] := by
        have := (List.append_eq_nil_iff.1 hr).2
        cases is with
        | nil => rfl
        | cons x r => simp [tkL] at this
      subst e1 e2
      rw [hk]
    · rw [if_neg hr] at h2
      simp only [Sp] at h2
      obtain ⟨h3, h4⟩ := h2
      rw [h3, if_neg c44_of, if_neg c44_41, if_pos rfl, hk]
      have hne : ns ≠ [] ∨ is ≠ [] := by
        apply Classical.byContradiction
        intro hc
        apply hr
        have e1 : ns = [] := Classical.byContradiction fun h => hc (.inl h)
        have e2 : is = [] := Classical.byContradiction fun h => hc (.inr h)
        subst e1 e2
        simp [tkN, tkL]
      rw [loop_nodes is hI ns (fun x hx => hN x (by simp [hx])) hne f thr (dn ++ [k]) _ v h4 (by omega)]
      simp

mutual
theorem rest_ok : ∀ (t : Tr), okT t → ∀ (f : Nat) (u v : List UInt8), Sp (tkR t) u v → u.length < f → restP f t.thr u = (some t, v)
  | .mk thr nodes inner, ht, 0, u, v, h, hf => by omega
  | .mk thr nodes inner, ht, f + 1, u, v, h, hf => by
    simp only [okT] at ht
    simp only [tkR, Sp] at h
    obtain ⟨h1, h2, h3⟩ := h
    have l1 := nxt_lt (u := u) (by rw [h1]; simp)
    have l2 := nxt_le (nxt u)
    simp only [restP, Tr.thr]
    rw [if_pos h1, if_pos h2]
    rw [loop_nodes inner (fun hne f thr dn u v h hf => by
      have := inner_ok inner ht.2.2.2 hne f thr dn [] u v h hf
      simpa using this) nodes ht.2.1 ht.2.2.1 f thr [] _ v h3 (by omega)]
    simp
theorem inner_ok : ∀ (is : List Tr), okL is → is ≠ [] → ∀ (f : Nat) (thr : Int) (dn : List Int) (di : List Tr) (u v : List UInt8), Sp (sepT (tkL is)) u v → u.length < f → loopP f thr dn di u = (some (.mk thr dn (di ++ is)), v)
  | [], _, hne, f, thr, dn, di, u, v, h, hf => absurd rfl hne
  | x :: r, hx, _, 0, thr, dn, di, u, v, h, hf => by omega
  | x :: r, hx, _, f + 1, thr, dn, di, u, v, h, hf => by
    simp only [okL] at hx
    simp only [tkL, sepT, List.cons_append, Sp] at h
    obtain ⟨h1, h2⟩ := h
    obtain ⟨w, h3, h4⟩ := (Sp.append _ _ _ _).1 h2
    obtain ⟨n, hn, hk⟩ := numP_of hx.1.thr h1
    have hlt := nxt_lt (u := u) (by rw [h1]; exact itoa_ne _)
    have hlw := Sp.len _ _ _ h3
    have hle := nxt_le w
    have htok : tok (nxt u) = [111, 102] := by
      obtain ⟨q, hq⟩ := tkR_head x
      rw [hq] at h3
      exact h3.1
    simp only [loopP, hn]
    rw [if_pos htok, hk, rest_ok x hx.1 f (nxt u) w h3 (by omega)]
    simp only
    by_cases hr : tkL r = []
    · rw [if_pos hr] at h4
      simp only [Sp] at h4
      rw [if_pos h4.1, h4.2]
      have e : r = [] := by
        cases r with
        | nil => rfl
        | cons y s => simp [tkL] at hr
      subst e
      rfl
    · rw [if_neg hr] at h4
      simp only [Sp] at h4
      rw [h4.1, if_neg c44_41, if_pos rfl]
      have hne : r ≠ [] := fun e => hr (by subst e; simp [tkL])
      rw [inner_ok r hx.2 hne f thr dn (di ++ [x]) _ v h4.2 (by omega)]
      simp
end

/-- Blanks. -/
def Bl (p : List UInt8) : Prop := ∀ c ∈ p, c = 32
theorem skp_bl : ∀ (p r : List UInt8), Bl p → skp (p ++ r) = skp r
  | [], r, _ => rfl
  | c :: p, r, h => by
    have hc := h c (by simp)
    subst hc
    rw [List.cons_append]
    unfold skp
    rw [List.dropWhile_cons_of_pos (by decide)]
    exact skp_bl p r fun x hx => h x (by simp [hx])
theorem skp_cons {c : UInt8} (r : List UInt8) (h : c ≠ 32) : skp (c :: r) = c :: r := by
  unfold skp
  rw [List.dropWhile_cons_of_neg (by simpa using h)]
/-- A text with more blanks: before '(', ')', ',' and 'o', and behind '(', ')', ',' and 'f'. -/
def BB : List UInt8 → List UInt8 → Prop
  | [], y => y = []
  | c :: x, y => ∃ p q z, y = p ++ c :: (q ++ z) ∧ BB x z ∧ Bl p ∧ Bl q ∧ (p = [] ∨ c = 40 ∨ c = 41 ∨ c = 44 ∨ c = 111) ∧ (q = [] ∨ c = 40 ∨ c = 41 ∨ c = 44 ∨ c = 102)
theorem BB.refl : ∀ x : List UInt8, BB x x
  | [] => by simp [BB]
  | c :: x => by
    simp only [BB]
    exact ⟨[], [], x, rfl, BB.refl x, by simp [Bl], by simp [Bl], .inl rfl, .inl rfl⟩
theorem BB.append : ∀ (a b y : List UInt8), BB (a ++ b) y → ∃ y1 y2, y = y1 ++ y2 ∧ BB a y1 ∧ BB b y2
  | [], b, y, h => ⟨[], y, rfl, by simp [BB], h⟩
  | c :: a, b, y, h => by
    rw [List.cons_append] at h
    simp only [BB] at h
    obtain ⟨p, q, z, rfl, hz, h1, h2, h3, h4⟩ := h
    obtain ⟨z1, z2, rfl, k1, k2⟩ := BB.append a b z hz
    refine ⟨p ++ c :: (q ++ z1), z2, by simp, ?_, k2⟩
    simp only [BB]
    exact ⟨p, q, z1, rfl, k1, h1, h2, h3, h4⟩
theorem BB.plain : ∀ (a y : List UInt8), (∀ c ∈ a, c ≠ 40 ∧ c ≠ 41 ∧ c ≠ 44 ∧ c ≠ 111 ∧ c ≠ 102) → BB a y → y = a
  | [], y, _, h => by simpa [BB] using h
  | c :: a, y, hc, h => by
    simp only [BB] at h
    obtain ⟨p, q, z, rfl, hz, h1, h2, h3, h4⟩ := h
    have := hc c (by simp)
    have e1 : p = [] := by
      rcases h3 with h | h | h | h | h
      · exact h
      all_goals simp_all
    have e2 : q = [] := by
      rcases h4 with h | h | h | h | h
      · exact h
      all_goals simp_all
    subst e1 e2
    rw [BB.plain a z (fun x hx => hc x (by simp [hx])) hz]
    rfl
theorem BB.one {c : UInt8} {a y : List UInt8} (h : BB (c :: a) y) : ∃ p q z, y = p ++ c :: (q ++ z) ∧ BB a z ∧ Bl p ∧ Bl q := by
  simp only [BB] at h
  obtain ⟨p, q, z, rfl, hz, h1, h2, h3, h4⟩ := h
  exact ⟨p, q, z, rfl, hz, h1, h2⟩
theorem BB.of {a y : List UInt8} (h : BB (111 :: 102 :: a) y) : ∃ p q z, y = p ++ 111 :: 102 :: (q ++ z) ∧ BB a z ∧ Bl p ∧ Bl q := by
  simp only [BB] at h
  obtain ⟨p, q, z, rfl, ⟨p', q', z', rfl, hz', h1', h2', h3', h4'⟩, h1, h2, h3, h4⟩ := h
  have e1 : q = [] := by
    rcases h4 with h | h | h | h | h
    · exact h
    all_goals exact absurd h (by decide)
  have e2 : p' = [] := by
    rcases h3' with h | h | h | h | h
    · exact h
    all_goals exact absurd h (by decide)
  subst e1 e2
  exact ⟨p, q', z', rfl, hz', h1, h2'⟩

theorem dg_ne {c : UInt8} (h : isDg c = true) : c ≠ 32 ∧ c ≠ 40 ∧ c ≠ 41 ∧ c ≠ 44 ∧ c ≠ 111 ∧ c ≠ 102 := by
  refine ⟨?_, ?_, ?_, ?_, ?_, ?_⟩ <;> (intro e; subst e; exact absurd h (by decide))
/-- A numeral, and no digit behind it. -/
theorem tok_num {n : Nat} {r : List UInt8} (hr : ∀ c s, r = c :: s → isDg c = false) : tok (Lib.decDigits n ++ r) = Lib.decDigits n ∧ nxt (Lib.decDigits n ++ r) = skp r := by
  have hd := dec_dg n
  have hne := dec_ne n
  generalize Lib.decDigits n = w at *
  have ht : (w ++ r).takeWhile isDg = w := by
    rw [List.takeWhile_append_of_pos hd]
    cases r with
    | nil => simp
    | cons c s => rw [List.takeWhile_cons_of_neg (by rw [hr c s rfl]; decide)]; simp
  obtain ⟨c, w', rfl⟩ : ∃ c w', w = c :: w' := by
    cases w with
    | nil => exact absurd rfl hne
    | cons c w' => exact ⟨c, w', rfl⟩
  have hc := dg_ne (hd c (by simp))
  have hN : tokN ((c :: w') ++ r) = (c :: w').length := by
    unfold tokN
    rw [if_neg (by
      rw [List.cons_append]
      intro e
      rw [List.take_succ_cons] at e
      injection e with e1 _
      exact hc.2.2.2.2.1 e1)]
    simp only [List.cons_append] at ht ⊢
    rw [if_neg (by simp [hc]), ht]
  unfold nxt tok
  rw [hN]
  exact ⟨by simp, by simp⟩
theorem tok_of (r : List UInt8) : tok (111 :: 102 :: r) = [111, 102] ∧ nxt (111 :: 102 :: r) = skp r := by
  have hN : tokN (111 :: 102 :: r) = 2 := by unfold tokN; rw [if_pos (by simp)]
  unfold nxt tok
  rw [hN]
  exact ⟨by simp, by simp⟩
theorem tok_sign {c : UInt8} (r : List UInt8) (h : c = 40 ∨ c = 41 ∨ c = 44) : tok (c :: r) = [c] ∧ nxt (c :: r) = skp r := by
  have h1 : c ≠ 111 := by rintro rfl; revert h; decide
  have hN : tokN (c :: r) = 1 := by
    unfold tokN
    rw [if_neg (by
      intro e
      rw [List.take_succ_cons] at e
      injection e with e1 _
      exact h1 e1)]
    simp only
    rw [if_pos h]
  unfold nxt tok
  rw [hN]
  exact ⟨by simp, by simp⟩
/-- The text of some entries, and what shuts them. -/
def jn : List (List UInt8) → List UInt8
  | [] => [41]
  | x :: r => x ++ (if r = [] then [41] else 44 :: 32 :: jn r)
theorem jn_join : ∀ l : List (List UInt8), Lib.join l [44, 32] ++ [41] = jn l
  | [] => rfl
  | [x] => by simp [Lib.join_one, jn]
  | x :: y :: r => by
    have ih := jn_join (y :: r)
    have e : Lib.join (x :: y :: r) [44, 32] = x ++ [44, 32] ++ Lib.join (y :: r) [44, 32] := by
      rw [Lib.join_cons, Lib.join_cons]
      simp [Lib.joinTail]
    rw [e]
    simp only [jn] at ih ⊢
    rw [if_neg (by simp), ← ih]
    simp
theorem nd_bl {p r : List UInt8} {c : UInt8} (hp : Bl p) (hc : isDg c = false) : ∀ d s, p ++ c :: r = d :: s → isDg d = false := by
  intro d s e
  cases p with
  | nil => injection e with e1 _; rw [← e1]; exact hc
  | cons x p => injection e with e1 _; rw [← e1, hp x (by simp)]; decide
theorem BB.char {c : UInt8} {a y : List UInt8} (hc : c ≠ 40 ∧ c ≠ 41 ∧ c ≠ 44 ∧ c ≠ 111 ∧ c ≠ 102) (h : BB (c :: a) y) : ∃ z, y = c :: z ∧ BB a z := by
  simp only [BB] at h
  obtain ⟨p, q, z, rfl, hz, h1, h2, h3, h4⟩ := h
  have e1 : p = [] := by
    rcases h3 with h | h | h | h | h
    · exact h
    all_goals simp_all
  have e2 : q = [] := by
    rcases h4 with h | h | h | h | h
    · exact h
    all_goals simp_all
  subst e1 e2
  exact ⟨z, rfl, hz⟩
theorem sep_last {r y : List UInt8} (h : BB (41 :: r) y) : (∀ c s, y = c :: s → isDg c = false) ∧ tok (skp y) = [41] ∧ ∃ z, BB r z ∧ nxt (skp y) = skp z := by
  obtain ⟨p, q, z, rfl, hz, hp, hq⟩ := h.one
  refine ⟨nd_bl hp (by decide), ?_⟩
  rw [skp_bl _ _ hp, skp_cons _ (by decide)]
  obtain ⟨t1, t2⟩ := tok_sign (c := 41) (q ++ z) (by decide)
  exact ⟨t1, z, hz, by rw [t2, skp_bl _ _ hq]⟩
theorem skp_blank (r : List UInt8) : skp (32 :: r) = skp r := skp_bl [32] r (by simp [Bl])
theorem sep_more {x y : List UInt8} (h : BB (44 :: 32 :: x) y) : (∀ c s, y = c :: s → isDg c = false) ∧ tok (skp y) = [44] ∧ ∃ z, BB x z ∧ nxt (skp y) = skp z := by
  obtain ⟨p, q, z, rfl, hz, hp, hq⟩ := h.one
  refine ⟨nd_bl hp (by decide), ?_⟩
  rw [skp_bl _ _ hp, skp_cons _ (by decide)]
  obtain ⟨t1, t2⟩ := tok_sign (c := 44) (q ++ z) (by decide)
  obtain ⟨z2, rfl, hz2⟩ := hz.char (by decide)
  exact ⟨t1, z2, hz2, by rw [t2, skp_bl _ _ hq, skp_blank]⟩
theorem itoa_nu {k : Int} (h : Nu k) : ∃ n : Nat, Lib.itoa k = Lib.decDigits n := by
  obtain ⟨n, rfl, _⟩ := nu_nat h
  exact ⟨n, Lib.itoa_nonneg n⟩
/-- A numeral at the beginning. -/
theorem num_begin {k : Int} (h : Nu k) {x y : List UInt8} (hb : BB (Lib.itoa k ++ x) y) : ∃ z, BB x z ∧ skp y = y ∧ ((∀ c s, z = c :: s → isDg c = false) → tok y = Lib.itoa k ∧ nxt y = skp z) := by
  obtain ⟨n, hn⟩ := itoa_nu h
  rw [hn] at hb ⊢
  obtain ⟨y1, y2, rfl, h1, h2⟩ := BB.append _ _ _ hb
  have hd := dec_dg n
  have e := BB.plain _ _ (fun c hc => by have := dg_ne (hd c hc); simp [this]) h1
  subst e
  refine ⟨y2, h2, ?_, fun hz => tok_num hz⟩
  have hne := dec_ne n
  cases hw : Lib.decDigits n with
  | nil => exact absurd hw hne
  | cons c w =>
    rw [hw] at hd
    exact skp_cons _ (dg_ne (hd c (by simp))).1
theorem jn_nodes (is : List Tr) (hI : is ≠ [] → ∀ r y, BB (jn (txL is) ++ r) y → ∃ z, BB r z ∧ Sp (sepT (tkL is)) (skp y) (skp z)) : ∀ ns : List Int, (∀ x ∈ ns, Nu x) → (ns ≠ [] ∨ is ≠ []) → ∀ r y, BB (jn (ndW ns ++ txL is) ++ r) y → ∃ z, BB r z ∧ Sp (sepT (tkN ns ++ tkL is)) (skp y) (skp z)
  | [], _, hne, r, y, h => hI (by simpa using hne) r y (by simpa [ndW] using h)
  | k :: ns, hN, _, r, y, h => by
    have e1 : ndW (k :: ns) ++ txL is = Lib.itoa k :: (ndW ns ++ txL is) := rfl
    have e2 : tkN (k :: ns) ++ tkL is = [Lib.itoa k] :: (tkN ns ++ tkL is) := rfl
    rw [e1] at h
    rw [e2]
    simp only [jn, sepT, List.append_assoc, List.cons_append, List.nil_append] at h ⊢
    obtain ⟨z, hz, hs, ht⟩ := num_begin (hN k (by simp)) h
    rw [hs]
    simp only [Sp]
    by_cases hr : ns = [] ∧ is = []
    · obtain ⟨rfl, rfl⟩ := hr
      simp only [ndW, List.map_nil, txL, List.append_nil, if_true, List.cons_append, List.nil_append, tkN, tkL] at hz ⊢
      obtain ⟨nd, t1, z2, hz2, t2⟩ := sep_last hz
      obtain ⟨t3, t4⟩ := ht nd
      refine ⟨z2, hz2, t3, ?_⟩
      simp only [Sp]
      rw [t4]
      exact ⟨t1, t2⟩
    · have hne : ns ≠ [] ∨ is ≠ [] := by
        apply Classical.byContradiction
        intro hc
        exact hr ⟨Classical.byContradiction fun h => hc (.inl h), Classical.byContradiction fun h => hc (.inr h)⟩
      have n1 : ¬ ndW ns ++ txL is = [] := by
        intro e
        have h2 := List.append_eq_nil_iff.1 e
        rcases hne with h | h
        · exact h (by simpa [ndW] using h2.1)
        · cases is with
          | nil => exact h rfl
          | cons x s => simp [txL] at h2
      have n2 : ¬ tkN ns ++ tkL is = [] := by
        intro e
        have h2 := List.append_eq_nil_iff.1 e
        rcases hne with h | h
        · exact h (by simpa [tkN] using h2.1)
        · cases is with
          | nil => exact h rfl
          | cons x s => simp [tkL] at h2
      rw [if_neg n1] at hz
      rw [if_neg n2]
      simp only [List.cons_append] at hz
      obtain ⟨nd, t1, z2, hz2, t2⟩ := sep_more hz
      obtain ⟨t3, t4⟩ := ht nd
      obtain ⟨z3, hz3, hsp⟩ := jn_nodes is hI ns (fun x hx => hN x (by simp [hx])) hne r z2 hz2
      refine ⟨z3, hz3, t3, ?_⟩
      simp only [Sp]
      rw [t4, t2]
      exact ⟨t1, hsp⟩
mutual
/-- The text of a trust, with any blanks between its tokens, is its tokens. -/
theorem txt_sp : ∀ t : Tr, okT t → ∀ r y, BB (txT t ++ r) y → ∃ z, BB r z ∧ skp y = y ∧ Sp (Lib.itoa t.thr :: tkR t) (skp y) (skp z)
  | .mk thr nodes inner, ht, r, y, h => by
    simp only [okT] at ht
    have e1 : txT (.mk thr nodes inner) ++ r = Lib.itoa thr ++ (32 :: 111 :: 102 :: 32 :: 40 :: (jn (ndW nodes ++ txL inner) ++ r)) := by
      rw [← jn_join]
      simp [txT]
    rw [e1] at h
    obtain ⟨z, hz, hs, hnum⟩ := num_begin ht.1 h
    obtain ⟨z1, rfl, hz1⟩ := hz.char (by decide)
    obtain ⟨p2, q2, z2, rfl, hz2, hp2, hq2⟩ := hz1.of
    obtain ⟨z3, rfl, hz3⟩ := hz2.char (by decide)
    obtain ⟨p4, q4, z4, rfl, hz4, hp4, hq4⟩ := hz3.one
    obtain ⟨t1, t2⟩ := hnum (by
      intro c s e
      injection e with e _
      subst e
      decide)
    obtain ⟨z5, hz5, hsp⟩ := jn_nodes inner (fun hne => jn_inner inner ht.2.2.2 hne) nodes ht.2.1 ht.2.2.1 r z4 hz4
    refine ⟨z5, hz5, hs, ?_⟩
    rw [hs]
    simp only [tkR, Tr.thr, Sp]
    obtain ⟨t3, t4⟩ := tok_of (q2 ++ 32 :: (p4 ++ 40 :: (q4 ++ z4)))
    obtain ⟨t5, t6⟩ := tok_sign (c := 40) (q4 ++ z4) (by decide)
    rw [t2, skp_blank, skp_bl _ _ hp2, skp_cons _ (by decide), t4, skp_bl _ _ hq2, skp_blank, skp_bl _ _ hp4, skp_cons _ (by decide), t6, skp_bl _ _ hq4]
    exact ⟨t1, t3, t5, hsp⟩
theorem jn_inner : ∀ is : List Tr, okL is → is ≠ [] → ∀ r y, BB (jn (txL is) ++ r) y → ∃ z, BB r z ∧ Sp (sepT (tkL is)) (skp y) (skp z)
  | [], _, hne, r, y, h => absurd rfl hne
  | x :: s, hx, _, r, y, h => by
    simp only [okL] at hx
    simp only [txL, jn, tkL, sepT, List.append_assoc] at h ⊢
    obtain ⟨z, hz, hs, hsp⟩ := txt_sp x hx.1 _ y h
    by_cases hr : s = []
    · subst hr
      simp only [txL, tkL, if_true, List.cons_append, List.nil_append] at hz ⊢
      obtain ⟨nd, t1, z2, hz2, t2⟩ := sep_last hz
      refine ⟨z2, hz2, ?_⟩
      rw [show Lib.itoa x.thr :: (tkR x ++ [[41]]) = (Lib.itoa x.thr :: tkR x) ++ [[41]] from rfl, Sp.append]
      exact ⟨_, hsp, t1, t2⟩
    · have n1 : ¬ txL s = [] := by
        cases s with
        | nil => exact absurd rfl hr
        | cons a b => simp [txL]
      have n2 : ¬ tkL s = [] := by
        cases s with
        | nil => exact absurd rfl hr
        | cons a b => simp [tkL]
      rw [if_neg n1] at hz
      rw [if_neg n2]
      simp only [List.cons_append] at hz ⊢
      obtain ⟨nd, t1, z2, hz2, t2⟩ := sep_more hz
      obtain ⟨z3, hz3, hsp2⟩ := jn_inner s hx.2 hr r z2 hz2
      refine ⟨z3, hz3, ?_⟩
      rw [show Lib.itoa x.thr :: (tkR x ++ [44] :: sepT (tkL s)) = (Lib.itoa x.thr :: tkR x) ++ ([44] :: sepT (tkL s)) from rfl, Sp.append]
      refine ⟨_, hsp, ?_⟩
      simp only [Sp]
      rw [t2]
      exact ⟨t1, hsp2⟩
end
/-- A trust comes back from its text with any blanks, and what stands behind it is left. -/
theorem whole_ok (t : Tr) (h : okT t) (r y : List UInt8) (hb : BB (txT t ++ r) y) : ∃ z, BB r z ∧ wholeP y = (some t, skp z) := by
  obtain ⟨z, hz, hs, hsp⟩ := txt_sp t h r y hb
  refine ⟨z, hz, ?_⟩
  simp only [Sp] at hsp
  obtain ⟨n, hn, hk⟩ := numP_of h.thr hsp.1
  have h1 := nxt_le (skp y)
  have h2 := skp_len y
  unfold wholeP
  rw [hn]
  simp only
  rw [hk, rest_ok t h _ _ _ hsp.2 (by omega)]
theorem parse_ok (t : Tr) (h : okT t) (hv : validE t = 0) (y : List UInt8) (hb : BB (txT t) y) (hl : y.length ≤ 6000) : parseP y = .ok t := by
  obtain ⟨z, hz, hw⟩ := whole_ok t h [] y (by simpa using hb)
  simp only [BB] at hz
  subst hz
  unfold parseP
  rw [if_neg (by omega), hw]
  simp [skp, hv]
/-- Texts of different trusts are different. -/
theorem txT_inj {a b : Tr} (ha : okT a) (hb : okT b) (h : txT a = txT b) : a = b := by
  obtain ⟨z, hz, h1⟩ := whole_ok a ha [] (txT a) (by simpa using BB.refl _)
  obtain ⟨z', hz', h2⟩ := whole_ok b hb [] (txT b) (by simpa using BB.refl _)
  rw [h, h2] at h1
  injection h1 with h1 _
  injection h1 with h1
  exact h1.symm
end Go.Proofs.YtonhhnedfjonoaaGreatDoor

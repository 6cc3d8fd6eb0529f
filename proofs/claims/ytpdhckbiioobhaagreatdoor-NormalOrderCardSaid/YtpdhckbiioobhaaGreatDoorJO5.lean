/- Some texts of this claim, joined: contracts of the functions that it reaches, and plain laws. -/
import Derived.Test.YtpdhckbiioobhaaGreatDoorJO4
import Derived.Test.YtpdhckbiioobhaaGreatDoorProg
import Derived.Test.YtpdhckbiioobhaaGreatDoorJO1
import Derived.StillTailTactics

/- Reading a trust, plain: tokens, numbers, the reader of notation as a function of what is left of the text. -/
namespace Go.Proofs.YtpdhckbiioobhaaGreatDoor
open Go.RowKit

def isDg (c : UInt8) : Bool := decide (48 ≤ c.toNat ∧ c.toNat ≤ 57)
/-- Past the blanks. -/
def skp (u : List UInt8) : List UInt8 := u.dropWhile (· == 32)
/-- The length of the token with which a text begins. -/
def tokN (u : List UInt8) : Nat :=
  if u.take 2 = [111, 102] then 2 else match u with
    | [] => 0
    | c :: r => if c = 40 ∨ c = 41 ∨ c = 44 then 1 else ((c :: r).takeWhile isDg).length
def tok (u : List UInt8) : List UInt8 := u.take (tokN u)
def nxt (u : List UInt8) : List UInt8 := skp (u.drop (tokN u))
/-- The value of a numeral. -/
def numV (n : Nat) (l : List UInt8) : Nat := l.foldl (fun n c => 10 * n + (c.toNat - 48)) n
/-- May a token stand as a number? -/
def numB (w : List UInt8) : Bool := match w with
  | [] => false
  | c :: r => isDg c && decide (r.length ≤ 3) && !(decide (1 ≤ r.length) && c == 48)
def numP (u : List UInt8) : Option Nat := if numB (tok u) then some (numV 0 (tok u)) else none

mutual
/-- A trust behind its threshold; none: it has not its form. Beside it: what is left. -/
def restP : Nat → Int → List UInt8 → Option Tr × List UInt8
  | 0, _, u => (none, u)
  | f + 1, n, u => if tok u = [111, 102] then (if tok (nxt u) = [40] then loopP f n [] [] (nxt (nxt u)) else (none, nxt u)) else (none, u)
def loopP : Nat → Int → List Int → List Tr → List UInt8 → Option Tr × List UInt8
  | 0, _, _, _, u => (none, u)
  | f + 1, n, nodes, inner, u =>
    match numP u with
    | none => (none, u)
    | some k =>
      if tok (nxt u) = [111, 102] then
        match restP f k (nxt u) with
        | (none, v) => (none, v)
        | (some x, v) => if tok v = [41] then (some (.mk n nodes (inner ++ [x])), nxt v) else if tok v = [44] then loopP f n nodes (inner ++ [x]) (nxt v) else (none, v)
      else if tok (nxt u) = [41] then (some (.mk n (nodes ++ [(k : Int)]) inner), nxt (nxt u)) else if tok (nxt u) = [44] then loopP f n (nodes ++ [(k : Int)]) inner (nxt (nxt u)) else (none, nxt u)
end
/-- What Parse returns: a trust, or the place of an error and its code. -/
inductive Got where
  | ok (t : Tr)
  | no (at_ : Nat) (e : Int)
/-- Behind the first number. -/
def wholeP (s : List UInt8) : Option Tr × List UInt8 :=
  match numP (skp s) with
  | none => (none, skp s)
  | some n => restP (s.length + 1) n (nxt (skp s))
def parseP (s : List UInt8) : Got :=
  if 6000 < s.length then .no 0 3 else
    match wholeP s with
    | (none, v) => .no (s.length - v.length) 2
    | (some t, v) => if v ≠ [] then .no (s.length - v.length) 2 else if validE t ≠ 0 then .no 0 (validE t) else .ok t

theorem skp_len (u : List UInt8) : (skp u).length ≤ u.length := (List.dropWhile_suffix _).length_le
theorem tokN_le (u : List UInt8) : tokN u ≤ u.length := by
  unfold tokN
  split
  · rename_i h
    have := congrArg List.length h
    simp only [List.length_take, List.length_cons, List.length_nil] at this
    omega
  · split
    · simp
    · split
      · simp
      · exact (List.takeWhile_prefix _).length_le
theorem nxt_len (u : List UInt8) : (nxt u).length ≤ u.length - tokN u := by
  have := skp_len (u.drop (tokN u))
  rw [List.length_drop] at this
  exact this
theorem nxt_le (u : List UInt8) : (nxt u).length ≤ u.length := by have := nxt_len u; omega
theorem tok_len (u : List UInt8) : (tok u).length = tokN u := by
  unfold tok
  rw [List.length_take]
  exact Nat.min_eq_left (tokN_le u)
theorem nxt_lt {u : List UInt8} (h : tok u ≠ []) : (nxt u).length < u.length := by
  have h1 := tok_len u
  have h2 := nxt_len u
  have h3 := tokN_le u
  have : 0 < (tok u).length := List.length_pos_iff.2 h
  omega
theorem numB_ne {w : List UInt8} (h : numB w = true) : w ≠ [] := by
  intro e; subst e; simp [numB] at h
mutual
theorem restP_len : ∀ (f : Nat) (n : Int) (u : List UInt8), (restP f n u).2.length ≤ u.length
  | 0, _, u => by simp [restP]
  | f + 1, n, u => by
    simp only [restP]
    have h1 := nxt_le u
    have h2 := nxt_le (nxt u)
    split
    · split
      · have := loopP_len f n [] [] (nxt (nxt u)); omega
      · exact h1
    · exact Nat.le_refl _
theorem loopP_len : ∀ (f : Nat) (n : Int) (a : List Int) (b : List Tr) (u : List UInt8), (loopP f n a b u).2.length ≤ u.length
  | 0, _, _, _, u => by simp [loopP]
  | f + 1, n, a, b, u => by
    simp only [loopP]
    have h1 := nxt_le u
    have h2 := nxt_le (nxt u)
    split
    · exact Nat.le_refl _
    · rename_i k _
      have h3 := restP_len f k (nxt u)
      split
      · generalize restP f k (nxt u) = p at *
        obtain ⟨o, v⟩ := p
        simp only at h3
        have h4 := nxt_le v
        cases o with
        | none => simp only; omega
        | some x =>
          simp only
          split
          · simp only; omega
          · split
            · have := loopP_len f n a (b ++ [x]) (nxt v); omega
            · simp only; omega
      · split
        · simp only; omega
        · split
          · have := loopP_len f n (a ++ [(k : Int)]) b (nxt (nxt u)); omega
          · simp only; omega
end
end Go.Proofs.YtpdhckbiioobhaaGreatDoor

/- A trust comes back from its text, with any blanks between the tokens: plain. -/
namespace Go.Proofs.YtpdhckbiioobhaaGreatDoor
open Go.RowKit

/-- The tokens ts, and then v. -/
def Sp : List (List UInt8) → List UInt8 → List UInt8 → Prop
  | [], u, v => u = v
  | t :: ts, u, v => tok u = t ∧ Sp ts (nxt u) v
theorem Sp.append : ∀ (a b : List (List UInt8)) (u v : List UInt8), Sp (a ++ b) u v ↔ ∃ w, Sp a u w ∧ Sp b w v
  | [], b, u, v => by simp [Sp]
  | t :: a, b, u, v => by
    simp only [List.cons_append, Sp, Sp.append a b]
    constructor
    · rintro ⟨h, w, h1, h2⟩; exact ⟨w, ⟨h, h1⟩, h2⟩
    · rintro ⟨w, ⟨h, h1⟩, h2⟩; exact ⟨h, w, h1, h2⟩
theorem Sp.len : ∀ (a : List (List UInt8)) (u v : List UInt8), Sp a u v → v.length ≤ u.length
  | [], u, v, h => by simp only [Sp] at h; subst h; omega
  | t :: a, u, v, h => by
    simp only [Sp] at h
    have := Sp.len a _ _ h.2
    have := nxt_le u
    omega

def tkN (l : List Int) : List (List (List UInt8)) := l.map fun k => [Lib.itoa k]
/-- Entries with commas between them, and what shuts them. -/
def sepT : List (List (List UInt8)) → List (List UInt8)
  | [] => [[41]]
  | x :: r => x ++ (if r = [] then [[41]] else [44] :: sepT r)
mutual
/-- The tokens of a trust behind its threshold. -/
def tkR : Tr → List (List UInt8)
  | .mk _ nodes inner => [111, 102] :: [40] :: sepT (tkN nodes ++ tkL inner)
def tkL : List Tr → List (List (List UInt8))
  | [] => []
  | x :: r => (Lib.itoa x.thr :: tkR x) :: tkL r
end
/-- A number that can be read. -/
def Nu (k : Int) : Prop := 0 ≤ k ∧ k ≤ 9999
mutual
def okT : Tr → Prop
  | .mk thr nodes inner => Nu thr ∧ (∀ x ∈ nodes, Nu x) ∧ (nodes ≠ [] ∨ inner ≠ []) ∧ okL inner
def okL : List Tr → Prop
  | [] => True
  | x :: r => okT x ∧ okL r
end
theorem okT.thr : ∀ {t : Tr}, okT t → Nu t.thr
  | .mk _ _ _, h => by simp only [okT] at h; exact h.1

theorem numV_append (a b : List UInt8) (n : Nat) : numV n (a ++ b) = numV (numV n a) b := List.foldl_append
theorem numV_one (n : Nat) (c : UInt8) : numV n [c] = 10 * n + (c.toNat - 48) := rfl
theorem numV_dec (u : Nat) : numV 0 (Lib.decDigits u) = u := by
  induction u using Nat.strongRecOn with
  | _ u ih =>
    by_cases h : u < 10
    · rw [Lib.decDigits, dif_pos h]
      simp only [numV_one, UInt8.toNat_ofNat']
      omega
    · rw [Lib.decDigits, dif_neg h, numV_append, ih (u / 10) (by omega)]
      simp only [numV_one, UInt8.toNat_ofNat']
      omega
theorem dec_dg (u : Nat) : ∀ c ∈ Lib.decDigits u, isDg c = true := by
  induction u using Nat.strongRecOn with
  | _ u ih =>
    intro c hc
    by_cases h : u < 10
    · rw [Lib.decDigits, dif_pos h] at hc
      simp only [List.mem_singleton] at hc
      subst hc
      simp only [isDg, UInt8.toNat_ofNat', decide_eq_true_eq]
      omega
    · rw [Lib.decDigits, dif_neg h] at hc
      rcases List.mem_append.1 hc with hc | hc
      · exact ih (u / 10) (by omega) c hc
      · simp only [List.mem_singleton] at hc
        subst hc
        simp only [isDg, UInt8.toNat_ofNat', decide_eq_true_eq]
        omega
theorem dec_head (u : Nat) (h0 : 1 ≤ u) : ∃ c r, Lib.decDigits u = c :: r ∧ c ≠ 48 := by
  induction u using Nat.strongRecOn with
  | _ u ih =>
    by_cases h : u < 10
    · rw [Lib.decDigits, dif_pos h]
      refine ⟨_, _, rfl, fun e => ?_⟩
      have := congrArg UInt8.toNat e
      simp only [UInt8.toNat_ofNat'] at this
      have h48 : (48 : UInt8).toNat = 48 := rfl
      omega
    · obtain ⟨c, r, e, hc⟩ := ih (u / 10) (by omega) (by omega)
      rw [Lib.decDigits, dif_neg h, e]
      exact ⟨c, _, rfl, hc⟩
theorem dec_len4 {u : Nat} (h : u ≤ 9999) : (Lib.decDigits u).length ≤ 4 := by
  rw [Lib.decDigits_length]
  by_cases h1 : u < 10
  · rw [Lib.nDigits_small h1]; omega
  · rw [Lib.nDigits_big h1]
    by_cases h2 : u / 10 < 10
    · rw [Lib.nDigits_small h2]; omega
    · rw [Lib.nDigits_big h2]
      by_cases h3 : u / 10 / 10 < 10
      · rw [Lib.nDigits_small h3]; omega
      · rw [Lib.nDigits_big h3, Lib.nDigits_small (by omega)]; omega
theorem dec_ne (u : Nat) : Lib.decDigits u ≠ [] := by
  intro e
  have := congrArg List.length e
  rw [Lib.decDigits_length] at this
  have := Lib.nDigits_pos u
  simp only [List.length_nil] at *
  omega
theorem numB_dec {u : Nat} (h : u ≤ 9999) : numB (Lib.decDigits u) = true := by
  have hl := dec_len4 h
  have hd := dec_dg u
  by_cases h0 : u = 0
  · subst h0
    rw [Lib.decDigits_one (by omega)]
    rfl
  · obtain ⟨c, r, e, hc⟩ := dec_head u (by omega)
    rw [e] at hl hd ⊢
    simp only [numB, hd c (by simp), Bool.true_and, Bool.and_eq_true, decide_eq_true_eq]
    refine ⟨by simpa using hl, ?_⟩
    simp [hc]
theorem nu_nat {k : Int} (h : Nu k) : ∃ n : Nat, k = n ∧ n ≤ 9999 := by
  obtain ⟨n, rfl⟩ := Int.eq_ofNat_of_zero_le h.1
  exact ⟨n, rfl, by have := h.2; omega⟩
theorem numP_of {k : Int} (h : Nu k) {u : List UInt8} (e : tok u = Lib.itoa k) : ∃ n : Nat, numP u = some n ∧ (n : Int) = k := by
  obtain ⟨n, rfl, hn⟩ := nu_nat h
  rw [Lib.itoa_nonneg] at e
  refine ⟨n, ?_, rfl⟩
  unfold numP
  rw [e, numB_dec hn, numV_dec]
  rfl
theorem itoa_ne (k : Int) : Lib.itoa k ≠ [] := by
  unfold Lib.itoa
  split
  · simp
  · exact dec_ne _

theorem of_ne41 : ([111, 102] : List UInt8) ≠ [41] := by decide
theorem c41_of : ¬ ([41] : List UInt8) = [111, 102] := by decide
theorem c44_of : ¬ ([44] : List UInt8) = [111, 102] := by decide
theorem c44_41 : ¬ ([44] : List UInt8) = [41] := by decide
theorem tkR_head (t : Tr) : ∃ r, tkR t = [111, 102] :: r := by
  obtain ⟨thr, nodes, inner⟩ := t
  exact ⟨_, by simp only [tkR]; rfl⟩

/-- The nodes that are left, and then the inner trusts, of which the rest is known. -/
theorem loop_nodes (is : List Tr) (hI : is ≠ [] → ∀ (f : Nat) (thr : Int) (dn : List Int) (u v : List UInt8), Sp (sepT (tkL is)) u v → u.length < f → loopP f thr dn [] u = (some (.mk thr dn is), v)) :
    ∀ (ns : List Int), (∀ x ∈ ns, Nu x) → (ns ≠ [] ∨ is ≠ []) → ∀ (f : Nat) (thr : Int) (dn : List Int) (u v : List UInt8), Sp (sepT (tkN ns ++ tkL is)) u v → u.length < f → loopP f thr dn [] u = (some (.mk thr (dn ++ ns) is), v)
  | [], _, hne, f, thr, dn, u, v, h, hf => by
    rw [List.append_nil]
    exact hI (by simpa using hne) f thr dn u v (by simpa [tkN] using h) hf
  | k :: ns, hN, _, 0, thr, dn, u, v, h, hf => by omega
  | k :: ns, hN, _, f + 1, thr, dn, u, v, h, hf => by
    have hcons : tkN (k :: ns) ++ tkL is = [Lib.itoa k] :: (tkN ns ++ tkL is) := rfl
    rw [hcons] at h
    simp only [sepT, List.cons_append, List.nil_append, Sp] at h
    obtain ⟨h1, h2⟩ := h
    obtain ⟨n, hn, hk⟩ := numP_of (hN k (by simp)) h1
    have hlt := nxt_lt (u := u) (by rw [h1]; exact itoa_ne k)
    have hle := nxt_le (nxt u)
    simp only [loopP, hn]
    by_cases hr : tkN ns ++ tkL is = []
    · rw [if_pos hr] at h2
      simp only [Sp] at h2
      obtain ⟨h3, h4⟩ := h2
      rw [h3, if_neg c41_of, if_pos rfl, h4]
      have e1 : ns = [] := by
        have := (List.append_eq_nil_iff.1 hr).1
        simpa [tkN] using this
      have e2 : is = [] := by
        have := (List.append_eq_nil_iff.1 hr).2
        cases is with
        | nil => rfl
        | cons x r => simp [tkL] at this
      subst e1 e2
      rw [hk]
    · rw [if_neg hr] at h2
      simp only [Sp] at h2
      obtain ⟨h3, h4⟩ := h2
      rw [h3, if_neg c44_of, if_neg c44_41, if_pos rfl, hk]
      have hne : ns ≠ [] ∨ is ≠ [] := by
        apply Classical.byContradiction
        intro hc
        apply hr
        have e1 : ns = [] := Classical.byContradiction fun h => hc (.inl h)
        have e2 : is = [] := Classical.byContradiction fun h => hc (.inr h)
        subst e1 e2
        simp [tkN, tkL]
      rw [loop_nodes is hI ns (fun x hx => hN x (by simp [hx])) hne f thr (dn ++ [k]) _ v h4 (by omega)]
      simp

mutual
theorem rest_ok : ∀ (t : Tr), okT t → ∀ (f : Nat) (u v : List UInt8), Sp (tkR t) u v → u.length < f → restP f t.thr u = (some t, v)
  | .mk thr nodes inner, ht, 0, u, v, h, hf => by omega
  | .mk thr nodes inner, ht, f + 1, u, v, h, hf => by
    simp only [okT] at ht
    simp only [tkR, Sp] at h
    obtain ⟨h1, h2, h3⟩ := h
    have l1 := nxt_lt (u := u) (by rw [h1]; simp)
    have l2 := nxt_le (nxt u)
    simp only [restP, Tr.thr]
    rw [if_pos h1, if_pos h2]
    rw [loop_nodes inner (fun hne f thr dn u v h hf => by
      have := inner_ok inner ht.2.2.2 hne f thr dn [] u v h hf
      simpa using this) nodes ht.2.1 ht.2.2.1 f thr [] _ v h3 (by omega)]
    simp
theorem inner_ok : ∀ (is : List Tr), okL is → is ≠ [] → ∀ (f : Nat) (thr : Int) (dn : List Int) (di : List Tr) (u v : List UInt8), Sp (sepT (tkL is)) u v → u.length < f → loopP f thr dn di u = (some (.mk thr dn (di ++ is)), v)
  | [], _, hne, f, thr, dn, di, u, v, h, hf => absurd rfl hne
  | x :: r, hx, _, 0, thr, dn, di, u, v, h, hf => by omega
  | x :: r, hx, _, f + 1, thr, dn, di, u, v, h, hf => by
    simp only [okL] at hx
    simp only [tkL, sepT, List.cons_append, Sp] at h
    obtain ⟨h1, h2⟩ := h
    obtain ⟨w, h3, h4⟩ := (Sp.append _ _ _ _).1 h2
    obtain ⟨n, hn, hk⟩ := numP_of hx.1.thr h1
    have hlt := nxt_lt (u := u) (by rw [h1]; exact itoa_ne _)
    have hlw := Sp.len _ _ _ h3
    have hle := nxt_le w
    have htok : tok (nxt u) = [111, 102] := by
      obtain ⟨q, hq⟩ := tkR_head x
      rw [hq] at h3
      exact h3.1
    simp only [loopP, hn]
    rw [if_pos htok, hk, rest_ok x hx.1 f (nxt u) w h3 (by omega)]
    simp only
    by_cases hr : tkL r = []
    · rw [if_pos hr] at h4
      simp only [Sp] at h4
      rw [if_pos h4.1, h4.2]
      have e : r = [] := by
        cases r with
        | nil => rfl
        | cons y s => simp [tkL] at hr
      subst e
      rfl
    · rw [if_neg hr] at h4
      simp only [Sp] at h4
      rw [h4.1, if_neg c44_41, if_pos rfl]
      have hne : r ≠ [] := fun e => hr (by subst e; simp [tkL])
      rw [inner_ok r hx.2 hne f thr dn (di ++ [x]) _ v h4.2 (by omega)]
      simp
end

/-- Blanks. -/
def Bl (p : List UInt8) : Prop := ∀ c ∈ p, c = 32
theorem skp_bl : ∀ (p r : List UInt8), Bl p → skp (p ++ r) = skp r
  | [], r, _ => rfl
  | c :: p, r, h => by
    have hc := h c (by simp)
    subst hc
    rw [List.cons_append]
    unfold skp
    rw [List.dropWhile_cons_of_pos (by decide)]
    exact skp_bl p r fun x hx => h x (by simp [hx])
theorem skp_cons {c : UInt8} (r : List UInt8) (h : c ≠ 32) : skp (c :: r) = c :: r := by
  unfold skp
  rw [List.dropWhile_cons_of_neg (by simpa using h)]
/-- A text with more blanks: before '(', ')', ',' and 'o', and behind '(', ')', ',' and 'f'. -/
def BB : List UInt8 → List UInt8 → Prop
  | [], y => y = []
  | c :: x, y => ∃ p q z, y = p ++ c :: (q ++ z) ∧ BB x z ∧ Bl p ∧ Bl q ∧ (p = [] ∨ c = 40 ∨ c = 41 ∨ c = 44 ∨ c = 111) ∧ (q = [] ∨ c = 40 ∨ c = 41 ∨ c = 44 ∨ c = 102)
theorem BB.refl : ∀ x : List UInt8, BB x x
  | [] => by simp [BB]
  | c :: x => by
    simp only [BB]
    exact ⟨[], [], x, rfl, BB.refl x, by simp [Bl], by simp [Bl], .inl rfl, .inl rfl⟩
theorem BB.append : ∀ (a b y : List UInt8), BB (a ++ b) y → ∃ y1 y2, y = y1 ++ y2 ∧ BB a y1 ∧ BB b y2
  | [], b, y, h => ⟨[], y, rfl, by simp [BB], h⟩
  | c :: a, b, y, h => by
    rw [List.cons_append] at h
    simp only [BB] at h
    obtain ⟨p, q, z, rfl, hz, h1, h2, h3, h4⟩ := h
    obtain ⟨z1, z2, rfl, k1, k2⟩ := BB.append a b z hz
    refine ⟨p ++ c :: (q ++ z1), z2, by simp, ?_, k2⟩
    simp only [BB]
    exact ⟨p, q, z1, rfl, k1, h1, h2, h3, h4⟩
theorem BB.plain : ∀ (a y : List UInt8), (∀ c ∈ a, c ≠ 40 ∧ c ≠ 41 ∧ c ≠ 44 ∧ c ≠ 111 ∧ c ≠ 102) → BB a y → y = a
  | [], y, _, h => by simpa [BB] using h
  | c :: a, y, hc, h => by
    simp only [BB] at h
    obtain ⟨p, q, z, rfl, hz, h1, h2, h3, h4⟩ := h
    have := hc c (by simp)
    have e1 : p = [] := by
      rcases h3 with h | h | h | h | h
      · exact h
      all_goals simp_all
    have e2 : q = [] := by
      rcases h4 with h | h | h | h | h
      · exact h
      all_goals simp_all
    subst e1 e2
    rw [BB.plain a z (fun x hx => hc x (by simp [hx])) hz]
    rfl
theorem BB.one {c : UInt8} {a y : List UInt8} (h : BB (c :: a) y) : ∃ p q z, y = p ++ c :: (q ++ z) ∧ BB a z ∧ Bl p ∧ Bl q := by
  simp only [BB] at h
  obtain ⟨p, q, z, rfl, hz, h1, h2, h3, h4⟩ := h
  exact ⟨p, q, z, rfl, hz, h1, h2⟩
theorem BB.of {a y : List UInt8} (h : BB (111 :: 102 :: a) y) : ∃ p q z, y = p ++ 111 :: 102 :: (q ++ z) ∧ BB a z ∧ Bl p ∧ Bl q := by
  simp only [BB] at h
  obtain ⟨p, q, z, rfl, ⟨p', q', z', rfl, hz', h1', h2', h3', h4'⟩, h1, h2, h3, h4⟩ := h
  have e1 : q = [] := by
    rcases h4 with h | h | h | h | h
    · exact h
    all_goals exact absurd h (by decide)
  have e2 : p' = [] := by
    rcases h3' with h | h | h | h | h
    · exact h
    all_goals exact absurd h (by decide)
  subst e1 e2
  exact ⟨p, q', z', rfl, hz', h1, h2'⟩

theorem dg_ne {c : UInt8} (h : isDg c = true) : c ≠ 32 ∧ c ≠ 40 ∧ c ≠ 41 ∧ c ≠ 44 ∧ c ≠ 111 ∧ c ≠ 102 := by
  refine ⟨?_, ?_, ?_, ?_, ?_, ?_⟩ <;> (intro e; subst e; exact absurd h (by decide))
/-- A numeral, and no digit behind it. -/
theorem tok_num {n : Nat} {r : List UInt8} (hr : ∀ c s, r = c :: s → isDg c = false) : tok (Lib.decDigits n ++ r) = Lib.decDigits n ∧ nxt (Lib.decDigits n ++ r) = skp r := by
  have hd := dec_dg n
  have hne := dec_ne n
  generalize Lib.decDigits n = w at *
  have ht : (w ++ r).takeWhile isDg = w := by
    rw [List.takeWhile_append_of_pos hd]
    cases r with
    | nil => simp
    | cons c s => rw [List.takeWhile_cons_of_neg (by rw [hr c s rfl]; decide)]; simp
  obtain ⟨c, w', rfl⟩ : ∃ c w', w = c :: w' := by
    cases w with
    | nil => exact absurd rfl hne
    | cons c w' => exact ⟨c, w', rfl⟩
  have hc := dg_ne (hd c (by simp))
  have hN : tokN ((c :: w') ++ r) = (c :: w').length := by
    unfold tokN
    rw [if_neg (by
      rw [List.cons_append]
      intro e
      rw [List.take_succ_cons] at e
      injection e with e1 _
      exact hc.2.2.2.2.1 e1)]
    simp only [List.cons_append] at ht ⊢
    rw [if_neg (by simp [hc]), ht]
  unfold nxt tok
  rw [hN]
  exact ⟨by simp, by simp⟩
theorem tok_of (r : List UInt8) : tok (111 :: 102 :: r) = [111, 102] ∧ nxt (111 :: 102 :: r) = skp r := by
  have hN : tokN (111 :: 102 :: r) = 2 := by unfold tokN; rw [if_pos (by simp)]
  unfold nxt tok
  rw [hN]
  exact ⟨by simp, by simp⟩
theorem tok_sign {c : UInt8} (r : List UInt8) (h : c = 40 ∨ c = 41 ∨ c = 44) : tok (c :: r) = [c] ∧ nxt (c :: r) = skp r := by
  have h1 : c ≠ 111 := by rintro rfl; revert h; decide
  have hN : tokN (c :: r) = 1 := by
    unfold tokN
    rw [if_neg (by
      intro e
      rw [List.take_succ_cons] at e
      injection e with e1 _
      exact h1 e1)]
    simp only
    rw [if_pos h]
  unfold nxt tok
  rw [hN]
  exact ⟨by simp, by simp⟩
/-- The text of some entries, and what shuts them. -/
def jn : List (List UInt8) → List UInt8
  | [] => [41]
  | x :: r => x ++ (if r = [] then [41] else 44 :: 32 :: jn r)
theorem jn_join : ∀ l : List (List UInt8), Lib.join l [44, 32] ++ [41] = jn l
  | [] => rfl
  | [x] => by simp [Lib.join_one, jn]
  | x :: y :: r => by
    have ih := jn_join (y :: r)
    have e : Lib.join (x :: y :: r) [44, 32] = x ++ [44, 32] ++ Lib.join (y :: r) [44, 32] := by
      rw [Lib.join_cons, Lib.join_cons]
      simp [Lib.joinTail]
    rw [e]
    simp only [jn] at ih ⊢
    rw [if_neg (by simp), ← ih]
    simp
theorem nd_bl {p r : List UInt8} {c : UInt8} (hp : Bl p) (hc : isDg c = false) : ∀ d s, p ++ c :: r = d :: s → isDg d = false := by
  intro d s e
  cases p with
  | nil => injection e with e1 _; rw [← e1]; exact hc
  | cons x p => injection e with e1 _; rw [← e1, hp x (by simp)]; decide
theorem BB.char {c : UInt8} {a y : List UInt8} (hc : c ≠ 40 ∧ c ≠ 41 ∧ c ≠ 44 ∧ c ≠ 111 ∧ c ≠ 102) (h : BB (c :: a) y) : ∃ z, y = c :: z ∧ BB a z := by
  simp only [BB] at h
  obtain ⟨p, q, z, rfl, hz, h1, h2, h3, h4⟩ := h
  have e1 : p = [] := by
    rcases h3 with h | h | h | h | h
    · exact h
    all_goals simp_all
  have e2 : q = [] := by
    rcases h4 with h | h | h | h | h
    · exact h
    all_goals simp_all
  subst e1 e2
  exact ⟨z, rfl, hz⟩
theorem sep_last {r y : List UInt8} (h : BB (41 :: r) y) : (∀ c s, y = c :: s → isDg c = false) ∧ tok (skp y) = [41] ∧ ∃ z, BB r z ∧ nxt (skp y) = skp z := by
  obtain ⟨p, q, z, rfl, hz, hp, hq⟩ := h.one
  refine ⟨nd_bl hp (by decide), ?_⟩
  rw [skp_bl _ _ hp, skp_cons _ (by decide)]
  obtain ⟨t1, t2⟩ := tok_sign (c := 41) (q ++ z) (by decide)
  exact ⟨t1, z, hz, by rw [t2, skp_bl _ _ hq]⟩
theorem skp_blank (r : List UInt8) : skp (32 :: r) = skp r := skp_bl [32] r (by simp [Bl])
theorem sep_more {x y : List UInt8} (h : BB (44 :: 32 :: x) y) : (∀ c s, y = c :: s → isDg c = false) ∧ tok (skp y) = [44] ∧ ∃ z, BB x z ∧ nxt (skp y) = skp z := by
  obtain ⟨p, q, z, rfl, hz, hp, hq⟩ := h.one
  refine ⟨nd_bl hp (by decide), ?_⟩
  rw [skp_bl _ _ hp, skp_cons _ (by decide)]
  obtain ⟨t1, t2⟩ := tok_sign (c := 44) (q ++ z) (by decide)
  obtain ⟨z2, rfl, hz2⟩ := hz.char (by decide)
  exact ⟨t1, z2, hz2, by rw [t2, skp_bl _ _ hq, skp_blank]⟩
theorem itoa_nu {k : Int} (h : Nu k) : ∃ n : Nat, Lib.itoa k = Lib.decDigits n := by
  obtain ⟨n, rfl, _⟩ := nu_nat h
  exact ⟨n, Lib.itoa_nonneg n⟩
/-- A numeral at the beginning. -/
theorem num_begin {k : Int} (h : Nu k) {x y : List UInt8} (hb : BB (Lib.itoa k ++ x) y) : ∃ z, BB x z ∧ skp y = y ∧ ((∀ c s, z = c :: s → isDg c = false) → tok y = Lib.itoa k ∧ nxt y = skp z) := by
  obtain ⟨n, hn⟩ := itoa_nu h
  rw [hn] at hb ⊢
  obtain ⟨y1, y2, rfl, h1, h2⟩ := BB.append _ _ _ hb
  have hd := dec_dg n
  have e := BB.plain _ _ (fun c hc => by have := dg_ne (hd c hc); simp [this]) h1
  subst e
  refine ⟨y2, h2, ?_, fun hz => tok_num hz⟩
  have hne := dec_ne n
  cases hw : Lib.decDigits n with
  | nil => exact absurd hw hne
  | cons c w =>
    rw [hw] at hd
    exact skp_cons _ (dg_ne (hd c (by simp))).1
theorem jn_nodes (is : List Tr) (hI : is ≠ [] → ∀ r y, BB (jn (txL is) ++ r) y → ∃ z, BB r z ∧ Sp (sepT (tkL is)) (skp y) (skp z)) : ∀ ns : List Int, (∀ x ∈ ns, Nu x) → (ns ≠ [] ∨ is ≠ []) → ∀ r y, BB (jn (ndW ns ++ txL is) ++ r) y → ∃ z, BB r z ∧ Sp (sepT (tkN ns ++ tkL is)) (skp y) (skp z)
  | [], _, hne, r, y, h => hI (by simpa using hne) r y (by simpa [ndW] using h)
  | k :: ns, hN, _, r, y, h => by
    have e1 : ndW (k :: ns) ++ txL is = Lib.itoa k :: (ndW ns ++ txL is) := rfl
    have e2 : tkN (k :: ns) ++ tkL is = [Lib.itoa k] :: (tkN ns ++ tkL is) := rfl
    rw [e1] at h
    rw [e2]
    simp only [jn, sepT, List.append_assoc, List.cons_append, List.nil_append] at h ⊢
    obtain ⟨z, hz, hs, ht⟩ := num_begin (hN k (by simp)) h
    rw [hs]
    simp only [Sp]
    by_cases hr : ns = [] ∧ is = []
    · obtain ⟨rfl, rfl⟩ := hr
      simp only [ndW, List.map_nil, txL, List.append_nil, if_true, List.cons_append, List.nil_append, tkN, tkL] at hz ⊢
      obtain ⟨nd, t1, z2, hz2, t2⟩ := sep_last hz
      obtain ⟨t3, t4⟩ := ht nd
      refine ⟨z2, hz2, t3, ?_⟩
      simp only [Sp]
      rw [t4]
      exact ⟨t1, t2⟩
    · have hne : ns ≠ [] ∨ is ≠ [] := by
        apply Classical.byContradiction
        intro hc
        exact hr ⟨Classical.byContradiction fun h => hc (.inl h), Classical.byContradiction fun h => hc (.inr h)⟩
      have n1 : ¬ ndW ns ++ txL is = [] := by
        intro e
        have h2 := List.append_eq_nil_iff.1 e
        rcases hne with h | h
        · exact h (by simpa [ndW] using h2.1)
        · cases is with
          | nil => exact h rfl
          | cons x s => simp [txL] at h2
      have n2 : ¬ tkN ns ++ tkL is = [] := by
        intro e
        have h2 := List.append_eq_nil_iff.1 e
        rcases hne with h | h
        · exact h (by simpa [tkN] using h2.1)
        · cases is with
          | nil => exact h rfl
          | cons x s => simp [tkL] at h2
      rw [if_neg n1] at hz
      rw [if_neg n2]
      simp only [List.cons_append] at hz
      obtain ⟨nd, t1, z2, hz2, t2⟩ := sep_more hz
      obtain ⟨t3, t4⟩ := ht nd
      obtain ⟨z3, hz3, hsp⟩ := jn_nodes is hI ns (fun x hx => hN x (by simp [hx])) hne r z2 hz2
      refine ⟨z3, hz3, t3, ?_⟩
      simp only [Sp]
      rw [t4, t2]
      exact ⟨t1, hsp⟩
mutual
/-- The text of a trust, with any blanks between its tokens, is its tokens. -/
theorem txt_sp : ∀ t : Tr, okT t → ∀ r y, BB (txT t ++ r) y → ∃ z, BB r z ∧ skp y = y ∧ Sp (Lib.itoa t.thr :: tkR t) (skp y) (skp z)
  | .mk thr nodes inner, ht, r, y, h => by
    simp only [okT] at ht
    have e1 : txT (.mk thr nodes inner) ++ r = Lib.itoa thr ++ (32 :: 111 :: 102 :: 32 :: 40 :: (jn (ndW nodes ++ txL inner) ++ r)) := by
      rw [← jn_join]
      simp [txT]
    rw [e1] at h
    obtain ⟨z, hz, hs, hnum⟩ := num_begin ht.1 h
    obtain ⟨z1, rfl, hz1⟩ := hz.char (by decide)
    obtain ⟨p2, q2, z2, rfl, hz2, hp2, hq2⟩ := hz1.of
    obtain ⟨z3, rfl, hz3⟩ := hz2.char (by decide)
    obtain ⟨p4, q4, z4, rfl, hz4, hp4, hq4⟩ := hz3.one
    obtain ⟨t1, t2⟩ := hnum (by
      intro c s e
      injection e with e _
      subst e
      decide)
    obtain ⟨z5, hz5, hsp⟩ := jn_nodes inner (fun hne => jn_inner inner ht.2.2.2 hne) nodes ht.2.1 ht.2.2.1 r z4 hz4
    refine ⟨z5, hz5, hs, ?_⟩
    rw [hs]
    simp only [tkR, Tr.thr, Sp]
    obtain ⟨t3, t4⟩ := tok_of (q2 ++ 32 :: (p4 ++ 40 :: (q4 ++ z4)))
    obtain ⟨t5, t6⟩ := tok_sign (c := 40) (q4 ++ z4) (by decide)
    rw [t2, skp_blank, skp_bl _ _ hp2, skp_cons _ (by decide), t4, skp_bl _ _ hq2, skp_blank, skp_bl _ _ hp4, skp_cons _ (by decide), t6, skp_bl _ _ hq4]
    exact ⟨t1, t3, t5, hsp⟩
theorem jn_inner : ∀ is : List Tr, okL is → is ≠ [] → ∀ r y, BB (jn (txL is) ++ r) y → ∃ z, BB r z ∧ Sp (sepT (tkL is)) (skp y) (skp z)
  | [], _, hne, r, y, h => absurd rfl hne
  | x :: s, hx, _, r, y, h => by
    simp only [okL] at hx
    simp only [txL, jn, tkL, sepT, List.append_assoc] at h ⊢
    obtain ⟨z, hz, hs, hsp⟩ := txt_sp x hx.1 _ y h
    by_cases hr : s = []
    · subst hr
      simp only [txL, tkL, if_true, List.cons_append, List.nil_append] at hz ⊢
      obtain ⟨nd, t1, z2, hz2, t2⟩ := sep_last hz
      refine ⟨z2, hz2, ?_⟩
      rw [show Lib.itoa x.thr :: (tkR x ++ [[41]]) = (Lib.itoa x.thr :: tkR x) ++ [[41]] from rfl, Sp.append]
      exact ⟨_, hsp, t1, t2⟩
    · have n1 : ¬ txL s = [] := by
        cases s with
        | nil => exact absurd rfl hr
        | cons a b => simp [txL]
      have n2 : ¬ tkL s = [] := by
        cases s with
        | nil => exact absurd rfl hr
        | cons a b => simp [tkL]
      rw [if_neg n1] at hz
      rw [if_neg n2]
      simp only [List.cons_append] at hz ⊢
      obtain ⟨nd, t1, z2, hz2, t2⟩ := sep_more hz
      obtain ⟨z3, hz3, hsp2⟩ := jn_inner s hx.2 hr r z2 hz2
      refine ⟨z3, hz3, ?_⟩
      rw [show Lib.itoa x.thr :: (tkR x ++ [44] :: sepT (tkL s)) = (Lib.itoa x.thr :: tkR x) ++ ([44] :: sepT (tkL s)) from rfl, Sp.append]
      refine ⟨_, hsp, ?_⟩
      simp only [Sp]
      rw [t2]
      exact ⟨t1, hsp2⟩
end
/-- A trust comes back from its text with any blanks, and what stands behind it is left. -/
theorem whole_ok (t : Tr) (h : okT t) (r y : List UInt8) (hb : BB (txT t ++ r) y) : ∃ z, BB r z ∧ wholeP y = (some t, skp z) := by
  obtain ⟨z, hz, hs, hsp⟩ := txt_sp t h r y hb
  refine ⟨z, hz, ?_⟩
  simp only [Sp] at hsp
  obtain ⟨n, hn, hk⟩ := numP_of h.thr hsp.1
  have h1 := nxt_le (skp y)
  have h2 := skp_len y
  unfold wholeP
  rw [hn]
  simp only
  rw [hk, rest_ok t h _ _ _ hsp.2 (by omega)]
theorem parse_ok (t : Tr) (h : okT t) (hv : validE t = 0) (y : List UInt8) (hb : BB (txT t) y) (hl : y.length ≤ 6000) : parseP y = .ok t := by
  obtain ⟨z, hz, hw⟩ := whole_ok t h [] y (by simpa using hb)
  simp only [BB] at hz
  subst hz
  unfold parseP
  rw [if_neg (by omega), hw]
  simp [skp, hv]
/-- Texts of different trusts are different. -/
theorem txT_inj {a b : Tr} (ha : okT a) (hb : okT b) (h : txT a = txT b) : a = b := by
  obtain ⟨z, hz, h1⟩ := whole_ok a ha [] (txT a) (by simpa using BB.refl _)
  obtain ⟨z', hz', h2⟩ := whole_ok b hb [] (txT b) (by simpa using BB.refl _)
  rw [h, h2] at h1
  injection h1 with h1 _
  injection h1 with h1
  exact h1.symm
end Go.Proofs.YtpdhckbiioobhaaGreatDoor

/- A proper beginning of the text of a trust has no trust: plain. -/
namespace Go.Proofs.YtpdhckbiioobhaaGreatDoor
open Go.RowKit

/-- A text that ends within the tokens ts. -/
def Ct : List (List UInt8) → List UInt8 → Prop
  | [], _ => False
  | t :: ts, u => (tok u = t ∧ Ct ts (nxt u)) ∨ u = [] ∨ (u = [111] ∧ t = [111, 102]) ∨ (nxt u = [] ∧ numB (tok u) = true ∧ ∃ k, Nu k ∧ t = Lib.itoa k)
theorem Ct.append : ∀ (a b : List (List UInt8)) (u : List UInt8), Ct (a ++ b) u → Ct a u ∨ ∃ v, Sp a u v ∧ Ct b v
  | [], b, u, h => .inr ⟨u, rfl, h⟩
  | t :: a, b, u, h => by
    rw [List.cons_append] at h
    simp only [Ct, Sp] at h ⊢
    rcases h with ⟨h1, h2⟩ | h
    · rcases Ct.append a b _ h2 with h3 | ⟨v, h3, h4⟩
      · exact .inl (.inl ⟨h1, h3⟩)
      · exact .inr ⟨v, ⟨h1, h3⟩, h4⟩
    · exact .inl (.inr h)
/-- A token of a trust. -/
def Tk (t : List UInt8) : Prop := t = [111, 102] ∨ (∃ c, t = [c] ∧ (c = 40 ∨ c = 41 ∨ c = 44)) ∨ ∃ k, Nu k ∧ t = Lib.itoa k

theorem tok_nil : tok [] = [] := by simp [tok]
theorem nxt_nil : nxt [] = [] := by simp [nxt, skp]
theorem skp_append {u : List UInt8} (z : List UInt8) (h : skp u ≠ []) : skp (u ++ z) = skp u ++ z := by
  induction u with
  | nil => exact absurd rfl h
  | cons c u ih =>
    by_cases hc : c = 32
    · subst hc
      rw [skp_blank] at h ⊢
      rw [List.cons_append, skp_blank]
      exact ih h
    · rw [List.cons_append, skp_cons _ hc, skp_cons _ hc]; rfl
theorem skp_nil_append {u : List UInt8} (z : List UInt8) (h : skp u = []) : skp (u ++ z) = skp z := by
  induction u with
  | nil => rfl
  | cons c u ih =>
    by_cases hc : c = 32
    · subst hc
      rw [skp_blank] at h
      rw [List.cons_append, skp_blank]
      exact ih h
    · rw [skp_cons _ hc] at h; cases h

theorem skp_all : ∀ {z : List UInt8}, skp z = [] → ∀ c ∈ z, c = 32
  | [], _, c, hc => by cases hc
  | x :: z, h, c, hc => by
    by_cases hx : x = 32
    · subst hx
      rw [skp_blank] at h
      rcases List.mem_cons.1 hc with rfl | hc
      · rfl
      · exact skp_all h c hc
    · rw [skp_cons _ hx] at h; cases h
theorem tw_all {p : UInt8 → Bool} : ∀ l : List UInt8, (∀ c ∈ l, p c = true) → l.takeWhile p = l
  | [], _ => rfl
  | c :: l, h => by rw [List.takeWhile_cons_of_pos (h c (by simp)), tw_all l fun x hx => h x (by simp [hx])]
theorem takeWhile_take {p : UInt8 → Bool} : ∀ (u z : List UInt8), ((u ++ z).takeWhile p).length ≤ u.length → u.takeWhile p = (u ++ z).takeWhile p ∨ ((u ++ z).takeWhile p = u ∧ u.takeWhile p = u)
  | [], z, h => by
    simp only [List.nil_append, List.length_nil] at h ⊢
    exact .inr ⟨List.eq_nil_of_length_eq_zero (by omega), rfl⟩
  | c :: u, z, h => by
    rw [List.cons_append] at h ⊢
    by_cases hc : p c = true
    · rw [List.takeWhile_cons_of_pos hc] at h ⊢
      rw [List.takeWhile_cons_of_pos hc]
      rcases takeWhile_take u z (by simpa using h) with h2 | ⟨h2, h3⟩
      · exact .inl (by rw [h2])
      · exact .inl (by rw [h2, h3])
    · rw [List.takeWhile_cons_of_neg hc, List.takeWhile_cons_of_neg hc]
      exact .inl rfl
/-- A token that is whole in the beginning u. -/
theorem tok_within {u z t : List UInt8} (h : tok (u ++ z) = t) (ht : Tk t) (hl : t.length ≤ u.length) (hu : u ≠ []) : tok u = t ∧ (u ++ z).drop (tokN (u ++ z)) = u.drop (tokN u) ++ z := by
  have key : tokN u = tokN (u ++ z) := by
    have hn : tokN (u ++ z) = t.length := by rw [← tok_len, h]
    rcases ht with rfl | ⟨c, rfl, hc⟩ | ⟨k, hk, rfl⟩
    · match u, hl, hu with
      | [], _, hu => exact absurd rfl hu
      | [a], hl, _ => simp at hl
      | a :: b :: u, _, _ =>
        have e1 : [a, b] = [111, 102] := by
          unfold tok at h
          rw [hn] at h
          simpa using h
        injection e1 with e2 e3
        injection e3 with e3 _
        subst e2 e3
        simp [tokN]
    · match u, hl, hu with
      | [], _, hu => exact absurd rfl hu
      | a :: u, _, _ =>
        have e1 : [a] = [c] := by
          unfold tok at h
          rw [hn] at h
          simpa using h
        injection e1 with e1 _
        subst e1
        rw [hn]
        have := tok_sign u hc
        rw [← tok_len, this.1]
    · obtain ⟨n, hn2⟩ := itoa_nu hk
      rw [hn2] at h hn hl
      have hd := dec_dg n
      have hne := dec_ne n
      generalize Lib.decDigits n = w at *
      have hw : u.take w.length = w := by
        unfold tok at h
        rw [hn, List.take_append_of_le_length hl] at h
        exact h
      obtain ⟨c, w', rfl⟩ : ∃ c w', w = c :: w' := by
        cases w with
        | nil => exact absurd rfl hne
        | cons c w' => exact ⟨c, w', rfl⟩
      have hc := dg_ne (hd c (by simp))
      obtain ⟨u', rfl⟩ : ∃ u', u = c :: u' := by
        cases u with
        | nil => exact absurd rfl hu
        | cons a u' =>
          simp only [List.length_cons, List.take_succ_cons] at hw
          injection hw with e _
          subst e
          exact ⟨u', rfl⟩
      have form : ∀ s : List UInt8, tokN (c :: s) = ((c :: s).takeWhile isDg).length := by
        intro s
        unfold tokN
        rw [if_neg (by
          intro e
          rw [List.take_succ_cons] at e
          injection e with e1 _
          exact hc.2.2.2.2.1 e1)]
        simp only
        rw [if_neg (by simp [hc])]
      rw [List.cons_append, form, form, ← List.cons_append]
      have hlen : (((c :: u') ++ z).takeWhile isDg).length ≤ (c :: u').length := by
        rw [List.cons_append, ← form, ← List.cons_append, hn]
        exact hl
      rcases takeWhile_take (c :: u') z hlen with h2 | ⟨h2, h3⟩
      · rw [h2]
      · rw [h2, h3]
  have hle := tokN_le u
  refine ⟨?_, ?_⟩
  · rw [← h]
    unfold tok
    rw [← key, List.take_append_of_le_length hle]
  · rw [← key, List.drop_append_of_le_length hle]
/-- A token that is cut. -/
theorem tok_cut {u z t : List UInt8} (h : tok (u ++ z) = t) (ht : Tk t) (hl : u.length < t.length) (hu : u ≠ []) : (u = [111] ∧ t = [111, 102]) ∨ (nxt u = [] ∧ numB (tok u) = true ∧ ∃ k, Nu k ∧ t = Lib.itoa k) := by
  have hn : tokN (u ++ z) = t.length := by rw [← tok_len, h]
  have hpre : u = t.take u.length := by
    rw [← h]
    unfold tok
    rw [hn, List.take_take, Nat.min_eq_left (by omega), List.take_left]
  rcases ht with rfl | ⟨c, rfl, hc⟩ | ⟨k, hk, rfl⟩
  · left
    match u, hl, hu with
    | [], _, hu => exact absurd rfl hu
    | [a], _, _ =>
      refine ⟨?_, rfl⟩
      simpa using hpre
    | a :: b :: u, hl, _ => simp at hl; omega
  · match u, hl, hu with
    | [], _, hu => exact absurd rfl hu
    | a :: u, hl, _ => simp at hl
  · right
    obtain ⟨n, rfl, hn9⟩ := nu_nat hk
    rw [Lib.itoa_nonneg] at hl hpre
    have hd := dec_dg n
    have h4 := dec_len4 hn9
    have hall : ∀ c ∈ u, isDg c = true := fun c hc => by
      rw [hpre] at hc
      exact hd c (List.mem_of_mem_take hc)
    obtain ⟨a, u', rfl⟩ : ∃ a u', u = a :: u' := by
      cases u with
      | nil => exact absurd rfl hu
      | cons a u' => exact ⟨a, u', rfl⟩
    have ha := dg_ne (hall a (by simp))
    have hN : tokN (a :: u') = (a :: u').length := by
      unfold tokN
      rw [if_neg (by
        intro e
        rw [List.take_succ_cons] at e
        injection e with e1 _
        exact ha.2.2.2.2.1 e1)]
      simp only
      rw [if_neg (by simp [ha]), tw_all _ hall]
    have hT : tok (a :: u') = a :: u' := by unfold tok; rw [hN, List.take_length]
    have hX : nxt (a :: u') = [] := by unfold nxt; rw [hN, List.drop_length]; rfl
    refine ⟨hX, ?_, _, hk, rfl⟩
    rw [hT]
    have hn1 : 1 ≤ n := by
      rcases Nat.eq_zero_or_pos n with h0 | h0
      · subst h0
        rw [Lib.decDigits_one (by omega)] at hl
        simp at hl
      · exact h0
    obtain ⟨c, r, e, hc⟩ := dec_head n hn1
    have eac : a = c := by
      rw [e] at hpre
      simp only [List.length_cons, List.take_succ_cons] at hpre
      injection hpre
    simp only [numB, hall a (by simp), Bool.true_and, Bool.and_eq_true, decide_eq_true_eq]
    refine ⟨by simp only [List.length_cons] at hl; omega, ?_⟩
    rw [eac]
    simp [hc]
/-- The tokens of a beginning. -/
theorem sp_cut : ∀ (ts : List (List UInt8)), (∀ t ∈ ts, Tk t) → ∀ u z : List UInt8, skp z ≠ [] → Sp ts (u ++ z) [] → Ct ts u
  | [], _, u, z, hz, h => by
    simp only [Sp] at h
    have := (List.append_eq_nil_iff.1 h).2
    subst this
    exact absurd rfl hz
  | t :: ts, hT, u, z, hz, h => by
    simp only [Sp, Ct] at h ⊢
    obtain ⟨h1, h2⟩ := h
    by_cases hu : u = []
    · exact .inr (.inl hu)
    · have ht := hT t (by simp)
      by_cases hl : t.length ≤ u.length
      · obtain ⟨h3, h4⟩ := tok_within h1 ht hl hu
        refine .inl ⟨h3, ?_⟩
        have hx : nxt (u ++ z) = skp (u.drop (tokN u) ++ z) := by unfold nxt; rw [h4]
        by_cases hs : skp (u.drop (tokN u)) = []
        · have hn : nxt u = [] := hs
          rw [hn]
          cases ts with
          | nil =>
            simp only [Sp] at h2
            rw [hx, skp_nil_append z hs] at h2
            exact absurd h2 hz
          | cons a b => simp only [Ct]; exact .inr (.inl trivial)
        · rw [hx, skp_append z hs] at h2
          exact sp_cut ts (fun a ha => hT a (by simp [ha])) _ z hz h2
      · exact .inr (.inr (tok_cut h1 ht (by omega) hu))

theorem itoa_ne_of {k : Int} (h : Nu k) : Lib.itoa k ≠ [111, 102] := by
  obtain ⟨n, hn⟩ := itoa_nu h
  rw [hn]
  intro e
  have := dec_dg n 111 (by rw [e]; simp)
  exact absurd this (by decide)
theorem itoa_ne_sign {k : Int} (h : Nu k) {c : UInt8} (hc : c = 40 ∨ c = 41 ∨ c = 44) : Lib.itoa k ≠ [c] := by
  obtain ⟨n, hn⟩ := itoa_nu h
  rw [hn]
  intro e
  have := dg_ne (dec_dg n c (by rw [e]; simp))
  rcases hc with rfl | rfl | rfl <;> simp at this
/-- Where a sign is asked for and the text ends. -/
theorem ct_sign {c : UInt8} (hc : c = 40 ∨ c = 41 ∨ c = 44) {ts : List (List UInt8)} {u : List UInt8} (h : Ct ([c] :: ts) u) : (tok u = [c] ∧ Ct ts (nxt u)) ∨ u = [] := by
  simp only [Ct] at h
  rcases h with h | h | ⟨_, h⟩ | ⟨_, _, k, hk, h⟩
  · exact .inl h
  · exact .inr h
  · injection h with h1 h2
    cases h2
  · exact absurd h.symm (itoa_ne_sign hk hc)
theorem ct_num {k : Int} (hk : Nu k) {ts : List (List UInt8)} {u : List UInt8} (h : Ct (Lib.itoa k :: ts) u) : (tok u = Lib.itoa k ∧ Ct ts (nxt u)) ∨ numP u = none ∧ u.length ≤ 1 ∨ ∃ n, numP u = some n ∧ nxt u = [] := by
  simp only [Ct] at h
  rcases h with h | h | ⟨_, h⟩ | ⟨h1, h2, _⟩
  · exact .inl h
  · subst h
    exact .inr (.inl ⟨by simp [numP, tok_nil, numB], by simp⟩)
  · exact absurd h (itoa_ne_of hk)
  · exact .inr (.inr ⟨_, by unfold numP; rw [h2]; rfl, h1⟩)
theorem ct_of {ts : List (List UInt8)} {u : List UInt8} (h : Ct ([111, 102] :: ts) u) : (tok u = [111, 102] ∧ Ct ts (nxt u)) ∨ (tok u = [] ∧ u.length ≤ 1) := by
  simp only [Ct] at h
  rcases h with h | h | ⟨h, _⟩ | ⟨_, _, k, hk, h⟩
  · exact .inl h
  · subst h; exact .inr ⟨tok_nil, by simp⟩
  · subst h; exact .inr ⟨by simp [tok, tokN, isDg], by simp⟩
  · exact absurd h.symm (itoa_ne_of hk)
theorem ct_nodes (is : List Tr) (hI : is ≠ [] → ∀ (f : Nat) (thr : Int) (dn : List Int) (u : List UInt8), Ct (sepT (tkL is)) u → u.length < f → ∃ v, loopP f thr dn [] u = (none, v) ∧ v.length ≤ 1) :
    ∀ (ns : List Int), (∀ x ∈ ns, Nu x) → (ns ≠ [] ∨ is ≠ []) → ∀ (f : Nat) (thr : Int) (dn : List Int) (u : List UInt8), Ct (sepT (tkN ns ++ tkL is)) u → u.length < f → ∃ v, loopP f thr dn [] u = (none, v) ∧ v.length ≤ 1
  | [], _, hne, f, thr, dn, u, h, hf => hI (by simpa using hne) f thr dn u (by simpa [tkN] using h) hf
  | k :: ns, hN, _, 0, thr, dn, u, h, hf => by omega
  | k :: ns, hN, _, f + 1, thr, dn, u, h, hf => by
    have hcons : tkN (k :: ns) ++ tkL is = [Lib.itoa k] :: (tkN ns ++ tkL is) := rfl
    rw [hcons] at h
    simp only [sepT, List.cons_append, List.nil_append] at h
    have hk := hN k (by simp)
    have hle := nxt_le (nxt u)
    rcases ct_num hk h with ⟨h1, h2⟩ | ⟨h1, h2⟩ | ⟨n, h1, h2⟩
    · obtain ⟨n, hn, hkn⟩ := numP_of hk h1
      have hlt := nxt_lt (u := u) (by rw [h1]; exact itoa_ne k)
      simp only [loopP, hn]
      by_cases hr : tkN ns ++ tkL is = []
      · rw [if_pos hr] at h2
        rcases ct_sign (by decide) h2 with ⟨_, h3⟩ | h3
        · simp only [Ct] at h3
        · rw [h3, tok_nil, if_neg (by decide), if_neg (by decide), if_neg (by decide)]
          exact ⟨_, rfl, by simp⟩
      · rw [if_neg hr] at h2
        rcases ct_sign (by decide) h2 with ⟨h3, h4⟩ | h3
        · rw [h3, if_neg c44_of, if_neg c44_41, if_pos rfl]
          have hne : ns ≠ [] ∨ is ≠ [] := by
            apply Classical.byContradiction
            intro hc
            apply hr
            have e1 : ns = [] := Classical.byContradiction fun h => hc (.inl h)
            have e2 : is = [] := Classical.byContradiction fun h => hc (.inr h)
            subst e1 e2
            simp [tkN, tkL]
          exact ct_nodes is hI ns (fun x hx => hN x (by simp [hx])) hne f thr _ _ h4 (by omega)
        · rw [h3, tok_nil, if_neg (by decide), if_neg (by decide), if_neg (by decide)]
          exact ⟨_, rfl, by simp⟩
    · simp only [loopP, h1]
      exact ⟨_, rfl, h2⟩
    · simp only [loopP, h1]
      rw [h2, tok_nil, if_neg (by decide), if_neg (by decide), if_neg (by decide)]
      exact ⟨_, rfl, by simp⟩
mutual
theorem ct_rest : ∀ (t : Tr), okT t → ∀ (f : Nat) (n : Int) (u : List UInt8), Ct (tkR t) u → u.length < f → ∃ v, restP f n u = (none, v) ∧ v.length ≤ 1
  | .mk thr nodes inner, ht, 0, n, u, h, hf => by omega
  | .mk thr nodes inner, ht, f + 1, n, u, h, hf => by
    simp only [okT] at ht
    simp only [tkR] at h
    simp only [restP]
    rcases ct_of h with ⟨h1, h2⟩ | ⟨h1, h2⟩
    · rw [if_pos h1]
      have l1 := nxt_lt (u := u) (by rw [h1]; simp)
      have l2 := nxt_le (nxt u)
      rcases ct_sign (by decide) h2 with ⟨h3, h4⟩ | h3
      · rw [if_pos h3]
        exact ct_nodes inner (fun hne f thr dn u h hf => ct_inner inner ht.2.2.2 hne f thr dn [] u h hf) nodes ht.2.1 ht.2.2.1 f n [] _ h4 (by omega)
      · rw [h3, tok_nil, if_neg (by decide)]
        exact ⟨_, rfl, by simp⟩
    · rw [h1, if_neg (by decide)]
      exact ⟨_, rfl, h2⟩
theorem ct_inner : ∀ (is : List Tr), okL is → is ≠ [] → ∀ (f : Nat) (thr : Int) (dn : List Int) (di : List Tr) (u : List UInt8), Ct (sepT (tkL is)) u → u.length < f → ∃ v, loopP f thr dn di u = (none, v) ∧ v.length ≤ 1
  | [], _, hne, f, thr, dn, di, u, h, hf => absurd rfl hne
  | x :: r, hx, _, 0, thr, dn, di, u, h, hf => by omega
  | x :: r, hx, _, f + 1, thr, dn, di, u, h, hf => by
    simp only [okL] at hx
    simp only [tkL, sepT, List.cons_append] at h
    rcases ct_num hx.1.thr h with ⟨h1, h2⟩ | ⟨h1, h2⟩ | ⟨n, h1, h2⟩
    · obtain ⟨n, hn, hk⟩ := numP_of hx.1.thr h1
      have hlt := nxt_lt (u := u) (by rw [h1]; exact itoa_ne _)
      simp only [loopP, hn]
      rcases Ct.append _ _ _ h2 with h3 | ⟨w, h3, h4⟩
      · obtain ⟨q, hq⟩ := tkR_head x
        have h3' := h3
        rw [hq] at h3'
        rcases ct_of h3' with ⟨h5, _⟩ | ⟨h5, h6⟩
        · rw [if_pos h5]
          obtain ⟨v, hv, hl⟩ := ct_rest x hx.1 f n _ h3 (by omega)
          rw [hv]
          exact ⟨v, rfl, hl⟩
        · rw [h5, if_neg (by decide), if_neg (by decide), if_neg (by decide)]
          exact ⟨_, rfl, h6⟩
      · have hlw := Sp.len _ _ _ h3
        have hle := nxt_le w
        have htok : tok (nxt u) = [111, 102] := by
          obtain ⟨q, hq⟩ := tkR_head x
          rw [hq] at h3
          exact h3.1
        rw [if_pos htok, hk, rest_ok x hx.1 f (nxt u) w h3 (by omega)]
        simp only
        by_cases hr : tkL r = []
        · rw [if_pos hr] at h4
          rcases ct_sign (by decide) h4 with ⟨_, h5⟩ | h5
          · simp only [Ct] at h5
          · rw [h5, tok_nil, if_neg (by decide), if_neg (by decide)]
            exact ⟨_, rfl, by simp⟩
        · rw [if_neg hr] at h4
          rcases ct_sign (by decide) h4 with ⟨h5, h6⟩ | h5
          · rw [h5, if_neg c44_41, if_pos rfl]
            have hne : r ≠ [] := fun e => hr (by subst e; simp [tkL])
            exact ct_inner r hx.2 hne f thr dn (di ++ [x]) _ h6 (by omega)
          · rw [h5, tok_nil, if_neg (by decide), if_neg (by decide)]
            exact ⟨_, rfl, by simp⟩
    · simp only [loopP, h1]
      exact ⟨_, rfl, h2⟩
    · simp only [loopP, h1]
      rw [h2, tok_nil, if_neg (by decide), if_neg (by decide), if_neg (by decide)]
      exact ⟨_, rfl, by simp⟩
end
theorem tk_sep : ∀ l : List (List (List UInt8)), (∀ x ∈ l, ∀ t ∈ x, Tk t) → ∀ t ∈ sepT l, Tk t
  | [], _, t, ht => by
    simp only [sepT, List.mem_singleton] at ht
    subst ht
    exact .inr (.inl ⟨41, rfl, by decide⟩)
  | x :: r, h, t, ht => by
    simp only [sepT, List.mem_append] at ht
    rcases ht with ht | ht
    · exact h x (by simp) t ht
    · split at ht
      · simp only [List.mem_singleton] at ht
        subst ht
        exact .inr (.inl ⟨41, rfl, by decide⟩)
      · rcases List.mem_cons.1 ht with rfl | ht
        · exact .inr (.inl ⟨44, rfl, by decide⟩)
        · exact tk_sep r (fun y hy => h y (by simp [hy])) t ht
mutual
theorem tk_rest : ∀ t : Tr, okT t → ∀ x ∈ tkR t, Tk x
  | .mk thr nodes inner, ht, x, hx => by
    simp only [okT] at ht
    simp only [tkR, List.mem_cons] at hx
    rcases hx with rfl | rfl | hx
    · exact .inl rfl
    · exact .inr (.inl ⟨40, rfl, by decide⟩)
    · refine tk_sep _ (fun y hy t hm => ?_) x hx
      rcases List.mem_append.1 hy with hy | hy
      · obtain ⟨k, hk, rfl⟩ := List.mem_map.1 hy
        simp only [List.mem_singleton] at hm
        subst hm
        exact .inr (.inr ⟨k, ht.2.1 k hk, rfl⟩)
      · exact tk_inner inner ht.2.2.2 y hy t hm
theorem tk_inner : ∀ is : List Tr, okL is → ∀ y ∈ tkL is, ∀ t ∈ y, Tk t
  | [], _, y, hy, t, ht => by simp [tkL] at hy
  | x :: r, h, y, hy, t, ht => by
    simp only [okL] at h
    simp only [tkL, List.mem_cons] at hy
    rcases hy with rfl | hy
    · rcases List.mem_cons.1 ht with rfl | ht
      · exact .inr (.inr ⟨x.thr, h.1.thr, rfl⟩)
      · exact tk_rest x h.1 t ht
    · exact tk_inner r h.2 y hy t ht
end
/-- A proper beginning of a trust's text: no trust, and the place is its end or the byte ahead of it. -/
theorem whole_cut (t : Tr) (h : okT t) (u z : List UInt8) (e : txT t = u ++ z) (hz : z ≠ []) : ∃ v, wholeP u = (none, v) ∧ v.length ≤ 1 := by
  have hlast : (41 : UInt8) ∈ z := by
    obtain ⟨thr, nodes, inner⟩ := t
    have h1 : (txT (.mk thr nodes inner)).getLast? = some 41 := by simp only [txT]; exact List.getLast?_concat
    rw [e, List.getLast?_append] at h1
    cases hq : z.getLast? with
    | none => exact absurd (List.getLast?_eq_none_iff.1 hq) hz
    | some x =>
      rw [hq] at h1
      simp at h1
      subst h1
      exact List.mem_of_getLast? hq
  have hsz : skp z ≠ [] := by
    intro hs
    have := skp_all hs
    exact absurd (this 41 hlast) (by decide)
  obtain ⟨z', hz', hs, hsp⟩ := txt_sp t h [] (txT t) (by simpa using BB.refl _)
  simp only [BB] at hz'
  subst hz'
  rw [hs] at hsp
  have hs0 : skp ([] : List UInt8) = [] := rfl
  rw [hs0, e] at hsp
  have hct := sp_cut _ (fun a ha => by
    rcases List.mem_cons.1 ha with rfl | ha
    · exact .inr (.inr ⟨_, h.thr, rfl⟩)
    · exact tk_rest t h a ha) u z hsz hsp
  have hsu : skp u = u := by
    cases u with
    | nil => rfl
    | cons c u =>
      rw [e, List.cons_append] at hs
      by_cases hc : c = 32
      · subst hc
        rw [skp_blank] at hs
        have h3 := skp_len (u ++ z)
        have h4 := congrArg List.length hs
        simp only [List.length_cons] at h4
        omega
      · exact skp_cons _ hc
  unfold wholeP
  rw [hsu]
  rcases ct_num h.thr hct with ⟨h1, h2⟩ | ⟨h1, h2⟩ | ⟨n, h1, h2⟩
  · obtain ⟨n, hn, hk⟩ := numP_of h.thr h1
    have h3 := nxt_le u
    rw [hn]
    exact ct_rest t h _ _ _ h2 (by omega)
  · rw [h1]
    exact ⟨_, rfl, h2⟩
  · rw [h1]
    simp only [restP]
    rw [h2, tok_nil, if_neg (by decide)]
    exact ⟨_, rfl, by simp⟩
end Go.Proofs.YtpdhckbiioobhaaGreatDoor

/- Valid trusts: their texts can be read, and are short; when two trusts are the same: plain. -/
namespace Go.Proofs.YtpdhckbiioobhaaGreatDoor
open Go.RowKit

mutual
theorem check_ok : ∀ t : Tr, checkE t = 0 → t.size ≤ 9999 → okT t
  | .mk thr nodes inner, h, hs => by
    simp only [checkE] at h
    simp only [Tr.size] at hs
    by_cases h1 : thr < 1 ∨ ((nodes.length + inner.length : Nat) : Int) < thr
    · rw [if_pos h1] at h; cases h
    · rw [if_neg h1] at h
      by_cases h2 : nodes.any (fun k => decide (k < 0 ∨ 10 ≤ k)) = true
      · rw [if_pos h2] at h; cases h
      · rw [if_neg h2] at h
        by_cases h3 : (ofS nodes 0).2 ≠ 0
        · rw [if_pos h3] at h; exact absurd h h3
        · rw [if_neg h3] at h
          simp only [okT]
          refine ⟨⟨by omega, by omega⟩, fun x hx => ?_, ?_, checkL_ok inner h (by omega)⟩
          · have h4 : ¬ (x < 0 ∨ 10 ≤ x) := by
              intro hc
              apply h2
              rw [List.any_eq_true]
              exact ⟨x, hx, by simpa using hc⟩
            exact ⟨by omega, by omega⟩
          · apply Classical.byContradiction
            intro hc
            have e1 : nodes = [] := Classical.byContradiction fun h => hc (.inl h)
            have e2 : inner = [] := Classical.byContradiction fun h => hc (.inr h)
            subst e1 e2
            simp at h1
            omega
theorem checkL_ok : ∀ l : List Tr, checkL l = 0 → sizeL l ≤ 9999 → okL l
  | [], _, _ => by simp only [okL]
  | x :: r, h, hs => by
    simp only [checkL] at h
    simp only [sizeL] at hs
    by_cases h1 : checkE x ≠ 0
    · rw [if_pos h1] at h; exact absurd h h1
    · rw [if_neg h1] at h
      simp only [okL]
      exact ⟨check_ok x (by simpa using h1) (by omega), checkL_ok r h (by omega)⟩
end
theorem valid_check {t : Tr} (h : validE t = 0) : checkE t = 0 ∧ t.size ≤ 200 ∧ t.dep ≤ 4 := by
  unfold validE at h
  by_cases h1 : 4 < t.dep ∨ 200 < t.size
  · rw [if_pos h1] at h; cases h
  · rw [if_neg h1] at h
    exact ⟨h, by omega, by omega⟩
theorem valid_ok {t : Tr} (h : validE t = 0) : okT t := check_ok t (valid_check h).1 (by have := (valid_check h).2.1; omega)
theorem itoa_len4 {k : Int} (h : Nu k) : (Lib.itoa k).length ≤ 4 := by
  obtain ⟨n, rfl, hn⟩ := nu_nat h
  rw [Lib.itoa_nonneg]
  exact dec_len4 hn
theorem ndW_lens4 : ∀ l : List Int, (∀ x ∈ l, Nu x) → Lib.lens (ndW l) ≤ 4 * l.length
  | [], _ => by simp [ndW, Lib.lens]
  | x :: r, h => by
    have h1 := itoa_len4 (h x (by simp))
    have h2 := ndW_lens4 r (fun y hy => h y (List.mem_cons_of_mem _ hy))
    simp only [ndW, Lib.lens, List.map_cons, List.sum_cons, List.length_cons] at *
    omega
mutual
theorem ok_len : ∀ t : Tr, okT t → (txT t).length ≤ 12 * t.size + 10
  | .mk thr nodes inner, h => by
    simp only [okT] at h
    have h1 := itoa_len4 h.1
    have h2 := ndW_lens4 nodes h.2.1
    have h3 := okL_lens inner h.2.2.2
    have h4 := join_len [44, 32] (ndW nodes ++ txL inner)
    rw [lens_append, List.length_append, ndW_len, txL_len] at h4
    simp only [txT, Tr.size, List.length_append, List.length_cons, List.length_nil] at *
    omega
theorem okL_lens : ∀ l : List Tr, okL l → Lib.lens (txL l) ≤ 12 * sizeL l + 10 * l.length
  | [], _ => by simp [txL, Lib.lens]
  | x :: r, h => by
    simp only [okL] at h
    have h1 := ok_len x h.1
    have h2 := okL_lens r h.2
    simp only [txL, sizeL, Lib.lens, List.map_cons, List.sum_cons, List.length_cons] at *
    omega
end
theorem valid_len {t : Tr} (h : validE t = 0) : (txT t).length ≤ 2410 := by
  have := ok_len t (valid_ok h)
  have := (valid_check h).2.1
  omega

mutual
/-- Are two trusts the same? -/
def sameT : Tr → Tr → Bool
  | .mk t1 n1 i1, .mk t2 n2 i2 => decide (t1 = t2) && decide (n1 = n2) && sameL i1 i2
def sameL : List Tr → List Tr → Bool
  | [], [] => true
  | x :: r, y :: s => sameT x y && sameL r s
  | [], _ :: _ => false
  | _ :: _, [] => false
end
mutual
theorem sameT_iff : ∀ a b : Tr, sameT a b = true ↔ a = b
  | .mk t1 n1 i1, .mk t2 n2 i2 => by
    simp only [sameT, Bool.and_eq_true, decide_eq_true_eq, sameL_iff i1 i2, Tr.mk.injEq, and_assoc]
theorem sameL_iff : ∀ a b : List Tr, sameL a b = true ↔ a = b
  | [], [] => by simp [sameL]
  | x :: r, y :: s => by simp only [sameL, Bool.and_eq_true, sameT_iff x y, sameL_iff r s, List.cons.injEq]
  | [], _ :: _ => by simp [sameL]
  | _ :: _, [] => by simp [sameL]
end
theorem sameL_len : ∀ a b : List Tr, sameL a b = true → a.length = b.length := fun a b h => by rw [(sameL_iff a b).1 h]
theorem sameL_drop : ∀ (a b : List Tr) (k : Nat) (h1 : k < a.length) (h2 : k < b.length), sameL (a.drop k) (b.drop k) = (sameT a[k] b[k] && sameL (a.drop (k + 1)) (b.drop (k + 1))) := fun a b k h1 h2 => by
  rw [List.drop_eq_getElem_cons h1, List.drop_eq_getElem_cons h2, sameL]
/-- Two valid trusts have the same text exactly if they are the same. -/
theorem text_same {a b : Tr} (ha : validE a = 0) (hb : validE b = 0) : decide (txT a = txT b) = sameT a b := by
  rw [Bool.eq_iff_iff, decide_eq_true_eq, sameT_iff]
  exact ⟨txT_inj (valid_ok ha) (valid_ok hb), fun h => by rw [h]⟩
end Go.Proofs.YtpdhckbiioobhaaGreatDoor

/- Walks: lists of trusts in memory; slices.Equal, slices.EqualFunc at trusts, threshold.Same. -/
namespace Go.Proofs.YtpdhckbiioobhaaGreatDoor
open Go.RowKit

/-- A slice of trusts in memory. -/
def TsR (w : World) (r : Option Nat) (v : Value) (i : List Tr) : Prop :=
  ∃ A c, v = .slice A i.length c ∧ i.length ≤ 1073741824 ∧ i.length ≤ c ∧ c ≤ 9223372036854775807 ∧
    (0 < i.length → ∃ b off, A = some ⟨b, off, none⟩ ∧ b < w.heap.size ∧ some b ≠ r ∧ ∀ k (hk : k < i.length), ∃ x y z, w.cell? ⟨b, off + k * 3, none⟩ = some x ∧ w.cell? ⟨b, off + k * 3 + 1, none⟩ = some y ∧ w.cell? ⟨b, off + k * 3 + 2, none⟩ = some z ∧ TrR w r (.agg #[x, y, z]) i[k])
theorem TsR.fr {w w' : World} {r : Option Nat} {v : Value} {i : List Tr} (h : TsR w r v i) (f : Fr r w w') : TsR w' r v i := by
  obtain ⟨A, c, e, h1, h2, h3, h4⟩ := h
  refine ⟨A, c, e, h1, h2, h3, fun hp => ?_⟩
  obtain ⟨b, off, e2, hb, hr, hc⟩ := h4 hp
  refine ⟨b, off, e2, Nat.lt_of_lt_of_le hb f.size, hr, fun k hk => ?_⟩
  obtain ⟨x, y, z, g0, g1, g2, gt⟩ := hc k hk
  exact ⟨x, y, z, f.keep g0 hr, f.keep g1 hr, f.keep g2 hr, gt.fr f⟩
theorem TrR.ts {r : Option Nat} {w : World} {v : Value} {thr : Int} {nodes : List Int} {inner : List Tr} (h : TrR w r v (.mk thr nodes inner)) :
    ∃ A c A' c', v = .agg #[.int .i64 thr, .slice A nodes.length c, .slice A' inner.length c'] ∧ Wi thr ∧ SlI w r (.slice A nodes.length c) nodes ∧ TsR w r (.slice A' inner.length c') inner := by
  obtain ⟨A, c, A', c', e, h0, h1, h2, h3, h4, h5, h6⟩ := h.open_
  exact ⟨A, c, A', c', e, h0, h1, A', c', rfl, h3, h4, h5, h6⟩
theorem TsR.of {w : World} {r : Option Nat} {v : Value} {cells : List Value} {i : List Tr} (h : SlD w (Dm w r) 3 v cells) (hl : i.length ≤ 1073741824) (ht : TrsD w (Dm w r) cells i) : TsR w r v i := by
  obtain ⟨A, n, c, rfl, hlen, hc, hm, hx⟩ := h
  have e := ht.len
  obtain rfl : n = i.length := by omega
  unfold maxLen at hm
  refine ⟨A, c, rfl, hl, hc, hm, fun hp => ?_⟩
  obtain ⟨b, off, e2, hb, hx⟩ := hx hp
  refine ⟨b, off, e2, hb.1, hb.2, fun k hk => ?_⟩
  obtain ⟨x, y, z, g0, g1, g2, gt⟩ := ht.get k hk
  exact ⟨x, y, z, hx _ _ g0, hx _ _ g1, hx _ _ g2, gt⟩

set_option maxRecDepth 100000 in
theorem eqI_any (a b : List Int) (va vb : Value) (w : World) (r : Option Nat) (ha : SlI w r va a) (hb : SlI w r vb b) :
    Calls Tryz.prog 159 #[va, vb] w fun e w' => e = .returned (.bool (decide (a = b))) ∧ Fr none w w' := by
  have HA := Lib.hid ha
  have HB := Lib.hid hb
  obtain ⟨A, c, rfl, q1, q2, hc⟩ := ha.open_
  obtain ⟨B, d, rfl, q3, q4, hd⟩ := hb.open_
  clear ha hb
  by_cases hl : a.length = b.length
  · have HL := Lib.hid hl
    obtain ⟨n, hn⟩ : ∃ n, n = a.length := ⟨_, rfl⟩
    have HN := Lib.hid hn
    have HN2 := Lib.hid (hn.trans hl)
    have hn2 : n = b.length := hn.trans hl
    have hc' : 0 < n → _ := fun h => hc (by omega)
    have hd' : 0 < n → _ := fun h => hd (by omega)
    rw [← hn] at HA q1 ⊢
    rw [← hn2] at HB q3 ⊢
    clear hl hn hn2 hc hd
    have hc := hc'
    have hd := hd'
    clear hc' hd'
    go_enter Tryz.func159, Tryz.ntmps159
    go_wp2_with fail
    go_loopw [13] (fun i wr => ∃ k : Nat, k ≤ n ∧ i = .int .i64 k ∧ Fr none w wr ∧ ∀ j (h1 : j < a.length) (h2 : j < b.length), j < k → a[j] = b[j]) (fun i _ => n - (intOf i).toNat)
    case atStart => exact ⟨0, Nat.zero_le _, rfl, Fr.refl _ _, fun j h1 h2 h => by omega⟩
    case round =>
      obtain ⟨k, hk, rfl, F, hall⟩ := hrel
      have HH := Lib.hid hall
      clear hall
      by_cases hlt : k < n
      · obtain ⟨b1, o1, rfl, hb1, hx1, hc1⟩ := hc (by omega)
        obtain ⟨b2, o2, rfl, hb2, hx2, hc2⟩ := hd (by omega)
        have k1 : k < a.length := by have := HN.out; omega
        have k2 : k < b.length := by have := HN2.out; omega
        have d1 : wr.cell? ⟨b1, o1 + k, none⟩ = some (.int .i64 a[k]) := F.keep (hc1 k k1) (by simp)
        have d2 : wr.cell? ⟨b2, o2 + k, none⟩ = some (.int .i64 b[k]) := F.keep (hc2 k k2) (by simp)
        clear hc hd hc1 hc2
        obtain ⟨x, hx⟩ : ∃ x, x = a[k] := ⟨_, rfl⟩
        obtain ⟨y, hy⟩ : ∃ y, y = b[k] := ⟨_, rfl⟩
        rw [← hx] at d1
        rw [← hy] at d2
        have HX := Lib.hid hx
        have HY := Lib.hid hy
        clear hx hy
        by_cases he : x = y
        · have HE := Lib.hid he
          subst he
          go_wp2_with fail
          go_quiet (fail)
          go_wp2_with fail
          go_roundw
          case rel => exact ⟨k + 1, by omega, by go_num, F.drewN _, fun j h1 h2 h => by
            by_cases e : j = k
            · subst e; rw [← HX.out, ← HY.out]
            · exact HH.out j h1 h2 (by omega)⟩
          case measure => simp [intOf]; omega
        · have hne : a ≠ b := fun h => by
            apply he
            rw [HX.out, HY.out]
            subst h
            rfl
          have HE := Lib.hid hne
          clear hne
          go_wp2_with fail
          go_quiet (fail)
          go_wp2_with fail
          go_ret
          exact ⟨ret_bool (by rw [decide_eq_false HE.out]), F.drewN _⟩
      · obtain rfl : k = n := by omega
        go_wp2_with fail
        go_ret
        refine ⟨ret_bool ?_, F⟩
        symm
        rw [decide_eq_true_eq]
        apply List.ext_getElem HL.out
        intro j h1 h2
        exact HH.out j h1 h2 (by rw [HN.out]; exact h1)
  · have hne : ¬ a = b := fun h => hl (by rw [h])
    have HE := Lib.hid hne
    clear hne
    have hl2 : ¬ ((a.length : Int) = (b.length : Int)) := by omega
    go_enter Tryz.func159, Tryz.ntmps159
    go_wp2_with fail
    go_ret
    exact ⟨ret_bool (by rw [decide_eq_false HE.out]), Fr.refl _ _⟩

/-- What Same does, of a trust that is not deeper than d. -/
def SameC (d : Nat) : Prop := ∀ (a b : Tr) (va vb : Value) (w : World) (r : Option Nat), a.dep ≤ d → TrR w r va a → TrR w r vb b →
    Calls Tryz.prog 104 #[va, vb] w fun e w' => e = .returned (.bool (sameT a b)) ∧ Fr none w w'
theorem sameL_ne {a b : List Tr} (h : a.length ≠ b.length) : sameL a b = false := by
  cases hc : sameL a b
  · rfl
  · exact absurd (sameL_len _ _ hc) h
set_option maxRecDepth 100000 in
set_option maxHeartbeats 2000000 in
theorem eqT_any (d : Nat) (ih : SameC d) (i1 i2 : List Tr) (v1 v2 : Value) (w : World) (r : Option Nat) (hdi : depL i1 ≤ d) (h1 : TsR w r v1 i1) (h2 : TsR w r v2 i2) :
    Calls Tryz.prog 160 #[v1, v2, .func (.func 104) #[] #[]] w fun e w' => e = .returned (.bool (sameL i1 i2)) ∧ Fr none w w' := by
  have IH := Lib.hid ih
  have hrun : ∀ args w, Sem.run Tryz.prog (callFunc 104 args) w = .ok (.enter 104 args) w := fun _ _ => by kernel_rfl
  obtain ⟨A, c, rfl, a1, a2, a3, hc⟩ := h1
  obtain ⟨B, e, rfl, b1, b2, b3, kc⟩ := h2
  clear ih
  by_cases hl : i1.length = i2.length
  · obtain ⟨n, hn0⟩ : ∃ n, n = i1.length := ⟨_, rfl⟩
    have hn3 : n = i2.length := hn0.trans hl
    have hcell' : 0 < n → _ := fun h => hc (by omega)
    have kcell' : 0 < n → _ := fun h => kc (by omega)
    have HN0 := Lib.hid hn0
    have HN3 := Lib.hid hn3
    rw [← hn0] at a1 a2
    rw [← hn3] at b1 b2
    rw [← hn0, ← hn3]
    clear hl hn0 hn3 hc kc
    go_enter Tryz.func160, Tryz.ntmps160
    go_wp2_with fail
    go_loopw [17] (fun i wr => ∃ k : Nat, k ≤ n ∧ i = .int .i64 k ∧ Fr none w wr ∧ Hid (sameL i1 i2 = sameL (i1.drop k) (i2.drop k))) (fun i _ => n - (intOf i).toNat)
    case atStart => exact ⟨0, Nat.zero_le _, rfl, Fr.refl _ _, by simp [Hid]⟩
    case round =>
      obtain ⟨k, hk, rfl, F, HS⟩ := hrel
      by_cases hlt : k < n
      · obtain ⟨p, o, rfl, p1, p2, hc⟩ := hcell' (by omega)
        obtain ⟨q, u, rfl, q1, q2, kc⟩ := kcell' (by omega)
        have k1 : k < i1.length := by have := HN0.out; omega
        have k2 : k < i2.length := by have := HN3.out; omega
        obtain ⟨x, y, z, g0, g1, g2, gt⟩ := hc k k1
        obtain ⟨th, A1, m1, c1, A2, m2, c2, rfl, rfl, rfl⟩ := gt.shape
        obtain ⟨x', y', z', l0, l1, l2, lt⟩ := kc k k2
        obtain ⟨th', x1, v1, e1, x2, v2, e2, rfl, rfl, rfl⟩ := lt.shape
        have g0' := F.keep g0 (by simp)
        have g1' := F.keep g1 (by simp)
        have g2' := F.keep g2 (by simp)
        have l0' := F.keep l0 (by simp)
        have l1' := F.keep l1 (by simp)
        have l2' := F.keep l2 (by simp)
        have hdd : (i1[k]).dep ≤ d := by have := depL_get i1 k k1; omega
        have hst := sameL_drop i1 i2 k k1 k2
        have HST := Lib.hid hst
        have gt' := gt.fr (F.mono (r := r))
        have lt' := lt.fr (F.mono (r := r))
        have hpw : p < wr.heap.size := Nat.lt_of_lt_of_le p1 F.size
        have hqw : q < wr.heap.size := Nat.lt_of_lt_of_le q1 F.size
        clear g0 g1 g2 l0 l1 l2 hc kc hst
        obtain ⟨X, hX⟩ : ∃ X, X = sameT i1[k] i2[k] := ⟨_, rfl⟩
        rw [← hX] at HST
        have HX := Lib.hid hX
        clear hX
        go_wp2_with fail
        have FA := (((Fr.refl none wr).alloc (.cells #[.int .i64 th, .slice A1 m1 c1, .slice A2 m2 c2] 31)).alloc (.cells #[.int .i64 th', .slice x1 v1 e1, .slice x2 v2 e2] 31))
        refine (IH.out i1[k] i2[k] _ _ _ r hdd (gt'.fr (FA.mono (r := r))) (lt'.fr (FA.mono (r := r)))).mono ?_
        rintro e3 w2 ⟨rfl, F2⟩
        rw [← HX.out]
        have F3 : Fr none wr w2 := FA.pure F2
        clear g0' g1' g2' l0' l1' l2'
        cases X with
        | true =>
          go_wp2_with fail
          go_roundw
          case rel => exact ⟨k + 1, by omega, by go_num, F.pure F3, by unfold Hid; rw [HS.out, HST.out]; simp⟩
          case measure => simp [intOf]; omega
        | false =>
          go_wp2_with fail
          go_ret
          exact ⟨ret_bool (by rw [HS.out, HST.out]; simp), F.pure F3⟩
      · obtain rfl : k = n := by omega
        go_wp2_with fail
        go_ret
        refine ⟨ret_bool ?_, F⟩
        rw [HS.out, List.drop_eq_nil_of_le (by have := HN0.out; omega), List.drop_eq_nil_of_le (by have := HN3.out; omega)]
        simp [sameL]
  · have HL := Lib.hid (sameL_ne hl)
    have h3' : ((i1.length : Int) != (i2.length : Int)) = true := by rw [bne_iff_ne]; omega
    clear hl
    go_enter Tryz.func160, Tryz.ntmps160
    go_wp2_with fail
    go_ret
    exact ⟨ret_bool (by rw [HL.out]), Fr.refl _ _⟩

set_option maxRecDepth 100000 in
set_option maxHeartbeats 2000000 in
theorem tsame_any : ∀ d, SameC d := by
  intro d
  induction d with
  | zero =>
    intro a b va vb w r hd
    cases a
    simp [Tr.dep] at hd
  | succ d ih =>
    intro a b va vb w r hd ha hb
    obtain ⟨t1, n1, i1⟩ := a
    obtain ⟨t2, n2, i2⟩ := b
    obtain ⟨A, c, A', c', rfl, hthr, hn, hi⟩ := ha.ts
    obtain ⟨B, e, B', e', rfl, kthr, kn, ki⟩ := hb.ts
    have hdi : depL i1 ≤ d := by simp only [Tr.dep] at hd; omega
    have HE : Hid (sameT (.mk t1 n1 i1) (.mk t2 n2 i2) = (decide (t1 = t2) && decide (n1 = n2) && sameL i1 i2)) := by unfold Hid; simp only [sameT]
    have IH := Lib.hid ih
    obtain ⟨N, hN⟩ : ∃ N, N = decide (n1 = n2) := ⟨_, rfl⟩
    obtain ⟨M, hM⟩ : ∃ M, M = sameL i1 i2 := ⟨_, rfl⟩
    rw [← hN, ← hM] at HE
    have HN := Lib.hid hN
    have HM := Lib.hid hM
    clear hd ha hb ih hN hM
    have F0 := ((Fr.refl none w).alloc (.cells #[.int .i64 t1, .slice A n1.length c, .slice A' i1.length c'] 31)).alloc (.cells #[.int .i64 t2, .slice B n2.length e, .slice B' i2.length e'] 31)
    by_cases h1 : t1 = t2
    · subst h1
      go_enter Tryz.func104, Tryz.ntmps104
      go_wp2_with fail
      refine (eqI_any n1 n2 _ _ _ r (hn.fr (F0.mono (r := r))) (kn.fr (F0.mono (r := r)))).mono ?_
      rintro e1 w1 ⟨rfl, F1⟩
      rw [← HN.out]
      have B0 : ((w.alloc (.cells #[.int .i64 t1, .slice A n1.length c, .slice A' i1.length c'] 31)).alloc (.cells #[.int .i64 t1, .slice B n2.length e, .slice B' i2.length e'] 31)).heap[w.heap.size]? = some (.cells #[.int .i64 t1, .slice A n1.length c, .slice A' i1.length c'] 31 (0, 0)) := (Below.heap_alloc _ _ _ (by simp)).trans (blk_new _ _)
      have B1 : ((w.alloc (.cells #[.int .i64 t1, .slice A n1.length c, .slice A' i1.length c'] 31)).alloc (.cells #[.int .i64 t1, .slice B n2.length e, .slice B' i2.length e'] 31)).heap[w.heap.size + 1]? = some (.cells #[.int .i64 t1, .slice B n2.length e, .slice B' i2.length e'] 31 (0, 0)) := blk_new_at (by simp) _
      have R0 := blk_cell (blk_fr B0 F1 (by simp))
      have R1 := blk_cell (blk_fr B1 F1 (by simp))
      have F01 := F0.pure F1
      clear B0 B1 F1 F0
      cases N with
      | true =>
        go_wp2_with fail
        refine (eqT_any d IH.out i1 i2 _ _ _ r hdi (hi.fr (F01.mono (r := r))) (ki.fr (F01.mono (r := r)))).mono ?_
        rintro e2 w2 ⟨rfl, F2⟩
        rw [← HM.out]
        go_wp2_with fail
        go_ret
        exact ⟨ret_bool (by rw [HE.out]; simp), F01.pure F2⟩
      | false =>
        go_wp2_with fail
        go_ret
        exact ⟨ret_bool (by rw [HE.out]; simp), F01⟩
    · have HF : Hid (sameT (.mk t1 n1 i1) (.mk t2 n2 i2) = false) := by
        unfold Hid
        rw [HE.out, decide_eq_false h1]; simp
      have h1' : (t1 == t2) = false := by rw [beq_eq_false_iff_ne]; exact h1
      clear HE h1
      go_enter Tryz.func104, Tryz.ntmps104
      go_wp2_with fail
      go_ret
      exact ⟨ret_bool (by rw [HF.out]), F0⟩
end Go.Proofs.YtpdhckbiioobhaaGreatDoor

/- Walks: slices.IndexFunc, ContainsFunc at []int with a plain function. -/
namespace Go.Proofs.YtpdhckbiioobhaaGreatDoor
open Go.RowKit

/-- The first place where p holds, or -1. -/
def idxF (p : Int → Bool) : List Int → Int
  | [] => -1
  | x :: r => if p x then 0 else (if idxF p r < 0 then -1 else idxF p r + 1)
theorem idxF_any (p : Int → Bool) : ∀ l, decide (0 ≤ idxF p l) = l.any p
  | [] => by simp [idxF]
  | x :: r => by
    have ih := idxF_any p r
    rw [Bool.eq_iff_iff, decide_eq_true_eq] at ih ⊢
    simp only [idxF, List.any_cons, Bool.or_eq_true, ← ih]
    by_cases hp : p x = true
    · simp [hp]
    · by_cases h : idxF p r < 0
      · simp [h, hp]
      · have h2 : 0 ≤ idxF p r := by omega
        simp [h, hp, h2]
        omega
theorem idxF_hit (p : Int → Bool) : ∀ (l : List Int) (k : Nat) (hk : k < l.length), (∀ i (hi : i < k), p (l[i]'(by omega)) = false) → p l[k] = true → idxF p l = k
  | [], k, hk, _, _ => absurd hk (by simp)
  | x :: r, 0, hk, _, h => by simp only [List.getElem_cons_zero] at h; simp [idxF, h]
  | x :: r, k + 1, hk, h0, h => by
    have hx := h0 0 (by omega)
    simp only [List.getElem_cons_zero] at hx
    have ih := idxF_hit p r k (by simpa using hk) (fun i hi => by
      have := h0 (i + 1) (by omega)
      simpa using this) (by simpa using h)
    simp only [idxF, hx, ih]
    simp
    omega
theorem idxF_miss (p : Int → Bool) : ∀ (l : List Int), (∀ i (hi : i < l.length), p l[i] = false) → idxF p l = -1
  | [], _ => rfl
  | x :: r, h => by
    have hx := h 0 (by simp)
    simp only [List.getElem_cons_zero] at hx
    have ih := idxF_miss p r (fun i hi => by
      have := h (i + 1) (by simpa using hi)
      simpa using this)
    simp [idxF, hx, ih]

set_option maxRecDepth 100000 in
theorem indexFunc_any (f : FuncId) (p : Int → Bool) (hrun : ∀ args w, Sem.run Tryz.prog (callFunc f args) w = .ok (.enter f args) w) (hf : ∀ x w, Wi x → Calls Tryz.prog f #[.int .i64 x] w fun e w' => e = .returned (.bool (p x)) ∧ w = w')
    (l : List Int) (v : Value) (w : World) (r : Option Nat) (h : SlI w r v l) :
    Calls Tryz.prog 212 #[v, .func (.func f) #[] #[]] w fun e w' => e = .returned (.int .i64 (idxF p l)) ∧ w = w' := by
  have hwi := h.2
  obtain ⟨A, c, rfl, q1, q2, hc⟩ := h.open_
  have HF := Lib.hid hf
  clear hf
  go_enter Tryz.func212, Tryz.ntmps212
  go_wp2_with fail
  go_loop [8] (fun i => ∃ k : Nat, k ≤ l.length ∧ i = .int .i64 k ∧ ∀ j (hj : j < l.length), j < k → p l[j] = false) (fun i => l.length - (intOf i).toNat)
  case atStart => exact ⟨0, Nat.zero_le _, rfl, fun j hj h => by omega⟩
  case round =>
    obtain ⟨k, hk, rfl, hno⟩ := hrel
    have HN := Lib.hid hno
    clear hno
    by_cases hlt : k < l.length
    · obtain ⟨b, off, rfl, hb, hbr, hcc⟩ := hc (by omega)
      have hck := hcc k hlt
      clear hcc hc
      go_wp2_with fail
      refine (HF.out l[k] _ (hwi _ (List.getElem_mem _))).mono ?_
      rintro e w' ⟨rfl, rfl⟩
      by_cases hp : p l[k] = true
      · have HP := Lib.hid hp
        go_wp2_with fail
        go_ret
        exact ⟨ret_int (idxF_hit p l k hlt (fun i hi => HN.out i (by omega) hi) HP.out).symm, rfl⟩
      · have hp' : p l[k] = false := by simpa using hp
        have HP := Lib.hid hp'
        clear hp
        go_wp2_with fail
        go_round
        case rel => exact ⟨k + 1, by omega, by go_num, fun j hj h => by
          by_cases e : j = k
          · subst e; exact HP.out
          · exact HN.out j hj (by omega)⟩
        case measure => simp [intOf]; omega
    · obtain rfl : k = l.length := by omega
      go_wp2_with fail
      go_ret
      exact ⟨ret_int (idxF_miss p l (fun i hi => HN.out i hi hi)).symm, rfl⟩

theorem containsFunc_any (f : FuncId) (p : Int → Bool) (hrun : ∀ args w, Sem.run Tryz.prog (callFunc f args) w = .ok (.enter f args) w) (hf : ∀ x w, Wi x → Calls Tryz.prog f #[.int .i64 x] w fun e w' => e = .returned (.bool (p x)) ∧ w = w')
    (l : List Int) (v : Value) (w : World) (r : Option Nat) (h : SlI w r v l) :
    Calls Tryz.prog 175 #[v, .func (.func f) #[] #[]] w fun e w' => e = .returned (.bool (l.any p)) ∧ w = w' := by
  have HF := Lib.hid hf
  clear hf
  go_enter Tryz.func175, Tryz.ntmps175
  go_wp2_with fail
  refine (indexFunc_any f p hrun HF.out l v _ r h).mono ?_
  rintro e w' ⟨rfl, rfl⟩
  go_wp2_with fail
  go_ret
  exact ⟨ret_bool (idxF_any p l), rfl⟩
end Go.Proofs.YtpdhckbiioobhaaGreatDoor

/- Walks: slices.Contains at ints; normal.equal; entries, anyOf, allOf. -/
namespace Go.Proofs.YtpdhckbiioobhaaGreatDoor
open Go.RowKit

set_option maxRecDepth 100000 in
theorem index_any (l : List Int) (k : Int) (v : Value) (w : World) (r : Option Nat) (h : SlI w r v l) :
    Calls Tryz.prog 213 #[v, .int .i64 k] w fun e w' => e = .returned (.int .i64 (idxF (fun x => decide (x = k)) l)) ∧ w = w' := by
  obtain ⟨A, c, rfl, q1, q2, hc⟩ := h.open_
  clear h
  go_enter Tryz.func213, Tryz.ntmps213
  go_wp2_with fail
  go_loop [8] (fun i => ∃ j : Nat, j ≤ l.length ∧ i = .int .i64 j ∧ Hid (∀ i (hi : i < l.length), i < j → l[i] ≠ k)) (fun i => l.length - (intOf i).toNat)
  case atStart => exact ⟨0, Nat.zero_le _, rfl, fun i _ h => by omega⟩
  case round =>
    obtain ⟨j, hj, rfl, HN⟩ := hrel
    by_cases hlt : j < l.length
    · obtain ⟨b, off, rfl, hb, hbr, hcc⟩ := hc (by omega)
      have hck := hcc j hlt
      obtain ⟨x, hx⟩ : ∃ x, x = l[j] := ⟨_, rfl⟩
      rw [← hx] at hck
      have HX := Lib.hid hx
      clear hcc hc hx
      by_cases he : k = x
      · subst he
        go_wp2_with fail
        go_ret
        exact ⟨ret_int (idxF_hit _ l j hlt (fun i hi => by rw [decide_eq_false_iff_not]; exact HN.out i (by omega) hi) (by rw [decide_eq_true_eq]; exact HX.out.symm)).symm, rfl⟩
      · have he1 : (k == x) = false := by rw [beq_eq_false_iff_ne]; exact he
        have HE := Lib.hid he
        clear he
        go_wp2_with fail
        go_round
        case rel => exact ⟨j + 1, by omega, by go_num, fun i hi h => by
          by_cases e : i = j
          · subst e; rw [← HX.out]; exact Ne.symm HE.out
          · exact HN.out i hi (by omega)⟩
        case measure => simp [intOf]; omega
    · obtain rfl : j = l.length := by omega
      go_wp2_with fail
      go_ret
      exact ⟨ret_int (idxF_miss _ l (fun i hi => by rw [decide_eq_false_iff_not]; exact HN.out i hi hi)).symm, rfl⟩
theorem contains_any (l : List Int) (k : Int) (v : Value) (w : World) (r : Option Nat) (h : SlI w r v l) :
    Calls Tryz.prog 178 #[v, .int .i64 k] w fun e w' => e = .returned (.bool (l.any fun x => decide (x = k))) ∧ w = w' := by
  go_enter Tryz.func178, Tryz.ntmps178
  go_wp2_with fail
  refine (index_any l k v _ r h).mono ?_
  rintro e w' ⟨rfl, rfl⟩
  go_wp2_with fail
  go_ret
  exact ⟨ret_bool (idxF_any _ l), rfl⟩

/-- The first place of a list at which something is true, or -1. -/
def idxA {α : Type} (p : α → Bool) : List α → Int
  | [] => -1
  | x :: r => if p x then 0 else if idxA p r < 0 then -1 else idxA p r + 1
theorem idxA_any {α : Type} (p : α → Bool) : ∀ l, decide (0 ≤ idxA p l) = l.any p
  | [] => rfl
  | x :: r => by
    have ih := idxA_any p r
    simp only [idxA, List.any_cons]
    by_cases hp : p x = true
    · simp [hp]
    · simp only [hp, if_false, Bool.false_or, Bool.false_eq_true]
      rw [← ih]
      by_cases h : idxA p r < 0
      · rw [if_pos h, decide_eq_false (by omega), decide_eq_false (by omega)]
      · rw [if_neg h, decide_eq_true (by omega), decide_eq_true (by omega)]
theorem idxA_hit {α : Type} (p : α → Bool) : ∀ (l : List α) (k : Nat) (hk : k < l.length), (∀ i (hi : i < k), p (l[i]'(by omega)) = false) → p l[k] = true → idxA p l = k
  | [], k, hk, _, _ => by simp at hk
  | x :: r, 0, _, _, h => by simp only [List.getElem_cons_zero] at h; simp [idxA, h]
  | x :: r, k + 1, hk, h0, h => by
    have hx := h0 0 (by omega)
    simp only [List.getElem_cons_zero] at hx
    have ih := idxA_hit p r k (by simpa using hk) (fun i hi => by
      have := h0 (i + 1) (by omega)
      simpa using this) (by simpa using h)
    simp only [idxA, hx, ih]
    simp
    omega
theorem idxA_miss {α : Type} (p : α → Bool) : ∀ (l : List α), (∀ i (hi : i < l.length), p l[i] = false) → idxA p l = -1
  | [], _ => rfl
  | x :: r, h => by
    have hx := h 0 (by simp)
    simp only [List.getElem_cons_zero] at hx
    have ih := idxA_miss p r (fun i hi => by
      have := h (i + 1) (by simpa using hi)
      simpa using this)
    simp [idxA, hx, ih]

theorem equal1_any (x t : Tr) (vx : Value) (b : Nat) (th : Int) (A1 : Option Addr) (n1 c1 : Nat) (A2 : Option Addr) (n2 c2 : Nat) (w : World) (r : Option Nat) (hb : TB w b (.int .i64 th) (.slice A1 n1 c1) (.slice A2 n2 c2)) (hx : TrR w r vx x) (ht : TrR w r (.agg #[.int .i64 th, .slice A1 n1 c1, .slice A2 n2 c2]) t) :
    Calls Tryz.prog 215 #[vx, .pointer (some ⟨b, 0, none⟩)] w fun e w' => e = .returned (.bool (sameT x t)) ∧ Fr none w w' := by
  obtain ⟨th', B1, m1, d1, B2, m2, d2, rfl⟩ := TrD.shape hx
  have R := hb.cell
  have hlb := blk_lt hb
  go_enter Tryz.func215, Tryz.ntmps215
  go_wp2_with fail
  have F := (Fr.refl none w).alloc (.cells #[.int .i64 th', .slice B1 m1 d1, .slice B2 m2 d2] 31)
  refine (tsame_any x.dep x t _ _ _ r (Nat.le_refl _) (hx.fr (F.mono (r := r))) (ht.fr (F.mono (r := r)))).mono ?_
  rintro e w' ⟨rfl, F2⟩
  go_wp2_with fail
  go_ret
  exact ⟨rfl, F.pure F2⟩
set_option maxRecDepth 100000 in
set_option maxHeartbeats 1000000 in
theorem idxT_any (l : List Tr) (t : Tr) (v : Value) (b : Nat) (th : Int) (A1 : Option Addr) (n1 c1 : Nat) (A2 : Option Addr) (n2 c2 : Nat) (w : World) (r : Option Nat) (h : TsR w r v l) (hb : TB w b (.int .i64 th) (.slice A1 n1 c1) (.slice A2 n2 c2)) (ht : TrR w r (.agg #[.int .i64 th, .slice A1 n1 c1, .slice A2 n2 c2]) t) :
    Calls Tryz.prog 248 #[v, .func (.func 215) #[] #[.pointer (some ⟨b, 0, none⟩)]] w fun e w' => e = .returned (.int .i64 (idxA (fun x => sameT x t) l)) ∧ Fr none w w' := by
  have hrun : ∀ args w, Sem.run Tryz.prog (callFunc 215 args) w = .ok (.enter 215 args) w := fun _ _ => by kernel_rfl
  obtain ⟨A, c, rfl, a1, a2, a3, hc⟩ := h
  have HT := Lib.hid ht
  have HB := Lib.hid hb
  clear ht hb
  go_enter Tryz.func248, Tryz.ntmps248
  go_wp2_with fail
  go_loopw [8] (fun i wr => ∃ k : Nat, k ≤ l.length ∧ i = .int .i64 k ∧ Fr none w wr ∧ Hid (∀ j (hj : j < l.length), j < k → sameT l[j] t = false)) (fun i _ => l.length - (intOf i).toNat)
  case atStart => exact ⟨0, Nat.zero_le _, rfl, Fr.refl _ _, fun j hj h => by omega⟩
  case round =>
    obtain ⟨k, hk, rfl, F, HN⟩ := hrel
    by_cases hlt : k < l.length
    · obtain ⟨p, o, rfl, p1, p2, hcc⟩ := hc (by omega)
      obtain ⟨x, y, z, g0, g1, g2, gt⟩ := hcc k hlt
      obtain ⟨th', B1, m1, d1, B2, m2, d2, rfl, rfl, rfl⟩ := gt.shape
      have g0' := F.keep g0 (by simp)
      have g1' := F.keep g1 (by simp)
      have g2' := F.keep g2 (by simp)
      have gt' := gt.fr (F.mono (r := r))
      obtain ⟨X, hX⟩ : ∃ X, X = sameT l[k] t := ⟨_, rfl⟩
      have HX := Lib.hid hX
      clear g0 g1 g2 hcc hc hX
      go_wp2_with fail
      refine (equal1_any l[k] t _ b th A1 n1 c1 A2 n2 c2 _ r (HB.out.fr F (by simp)) gt' (HT.out.fr (F.mono (r := r)))).mono ?_
      rintro e w2 ⟨rfl, F2⟩
      rw [← HX.out]
      clear g0' g1' g2'
      cases X with
      | true =>
        go_wp2_with fail
        go_ret
        exact ⟨ret_int (idxA_hit _ l k hlt (fun i hi => HN.out i (by omega) hi) HX.out.symm).symm, F.pure F2⟩
      | false =>
        go_wp2_with fail
        go_roundw
        case rel => exact ⟨k + 1, by omega, by go_num, F.pure F2, fun j hj h => by
          by_cases e : j = k
          · subst e; exact HX.out.symm
          · exact HN.out j hj (by omega)⟩
        case measure => simp [intOf]; omega
    · obtain rfl : k = l.length := by omega
      go_wp2_with fail
      go_ret
      exact ⟨ret_int (idxA_miss _ l (fun i hi => HN.out i hi hi)).symm, F⟩
theorem conT_any (l : List Tr) (t : Tr) (v : Value) (b : Nat) (th : Int) (A1 : Option Addr) (n1 c1 : Nat) (A2 : Option Addr) (n2 c2 : Nat) (w : World) (r : Option Nat) (h : TsR w r v l) (hb : TB w b (.int .i64 th) (.slice A1 n1 c1) (.slice A2 n2 c2)) (ht : TrR w r (.agg #[.int .i64 th, .slice A1 n1 c1, .slice A2 n2 c2]) t) :
    Calls Tryz.prog 214 #[v, .func (.func 215) #[] #[.pointer (some ⟨b, 0, none⟩)]] w fun e w' => e = .returned (.bool (l.any fun x => sameT x t)) ∧ Fr none w w' := by
  go_enter Tryz.func214, Tryz.ntmps214
  go_wp2_with fail
  refine (idxT_any l t v b th A1 n1 c1 A2 n2 c2 _ r h hb ht).mono ?_
  rintro e w' ⟨rfl, F⟩
  go_wp2_with fail
  go_ret
  exact ⟨ret_bool (idxA_any _ l), F⟩
theorem any_same (l : List Tr) (t : Tr) : (l.any fun x => sameT x t) = l.any fun x => decide (cmpT x t = 0) := by
  congr 1
  funext x
  rw [Bool.eq_iff_iff, sameT_iff, decide_eq_true_eq, cmpT_zero]
theorem equal_any (l : List Tr) (t : Tr) (v vt : Value) (w : World) (r : Option Nat) (h : TsR w r v l) (ht : TrR w r vt t) :
    Calls Tryz.prog 180 #[v, vt] w fun e w' => e = .returned (.bool (l.any fun x => decide (cmpT x t = 0))) ∧ Fr none w w' := by
  obtain ⟨th, A1, n1, c1, A2, n2, c2, rfl⟩ := TrD.shape ht
  go_enter Tryz.func180, Tryz.ntmps180
  go_wp2_with fail
  have F := (Fr.refl none w).alloc (.cells #[.int .i64 th, .slice A1 n1 c1, .slice A2 n2 c2] 31)
  refine (conT_any l t v w.heap.size th A1 n1 c1 A2 n2 c2 _ r (h.fr (F.mono (r := r))) (blk_new _ _) (TrR.fr ht (F.mono (r := r)))).mono ?_
  rintro e w' ⟨rfl, F2⟩
  go_wp2_with fail
  go_ret
  exact ⟨ret_bool (any_same l t), F.pure F2⟩

theorem nentries_any (t : Tr) (v : Value) (w : World) (D : Nat → Prop) (h : TrD w D v t) : Calls Tryz.prog 136 #[v] w fun e w' => e = .returned (.int .i64 ((cnt1 t : Nat) : Int)) ∧ Fr none w w' := by
  obtain ⟨thr, nodes, inner⟩ := t
  have hc : Hid (cnt1 (.mk thr nodes inner) = nodes.length + inner.length) := rfl
  simp only [TrD] at h
  obtain ⟨vn, vi, cells, rfl, h0, h1, h2, h3, h4, h5, h6⟩ := h
  have e1 := h6.len
  obtain ⟨A, n, c, rfl, l1, _, _, _⟩ := h1
  obtain ⟨A', n', c', rfl, l2, _, _, _⟩ := h3
  obtain rfl : n = nodes.length := by simpa using l1.symm
  obtain rfl : n' = inner.length := by omega
  unfold Few at h4 h5
  clear h2 h6 e1 l1 l2
  go_enter Tryz.func136, Tryz.ntmps136
  go_wp2_with fail
  go_ret
  exact ⟨ret_int (by rw [hc.out]; omega), (Fr.refl _ _).alloc _⟩
theorem anyOf_any (t : Tr) (v : Value) (w : World) (D : Nat → Prop) (h : TrD w D v t) : Calls Tryz.prog 133 #[v] w fun e w' => e = .returned (.bool (tak false t)) ∧ Fr none w w' := by
  obtain ⟨thr, nodes, inner⟩ := t
  have hc : Hid (tak false (.mk thr nodes inner) = decide (thr = 1)) := rfl
  simp only [TrD] at h
  obtain ⟨vn, vi, cells, rfl, h0, h1, h2, h3, h4, h5, h6⟩ := h
  obtain ⟨A, n, c, rfl, l1, _, _, _⟩ := h1
  obtain ⟨A', n', c', rfl, l2, _, _, _⟩ := h3
  clear h2 h6 l1 l2
  go_enter Tryz.func133, Tryz.ntmps133
  go_wp2_with fail
  go_ret
  exact ⟨ret_bool (by rw [hc.out]; rfl), (Fr.refl _ _).alloc _⟩
set_option maxHeartbeats 1000000 in
theorem allOf_any (t : Tr) (v : Value) (w : World) (D : Nat → Prop) (hD : ∀ b, D b → b < w.heap.size) (h : TrD w D v t) : Calls Tryz.prog 135 #[v] w fun e w' => e = .returned (.bool (tak true t)) ∧ Fr none w w' := by
  obtain ⟨thr, nodes, inner⟩ := t
  have hc : Hid (tak true (.mk thr nodes inner) = decide (thr = ((cnt1 (.mk thr nodes inner) : Nat) : Int))) := rfl
  have HT := Lib.hid h
  simp only [TrD] at h
  obtain ⟨vn, vi, cells, rfl, h0, h1, h2, h3, h4, h5, h6⟩ := h
  obtain ⟨A, n, c, rfl, l1, _, _, _⟩ := h1
  obtain ⟨A', n', c', rfl, l2, _, _, _⟩ := h3
  obtain ⟨N, hN⟩ : ∃ N, N = cnt1 (.mk thr nodes inner) := ⟨_, rfl⟩
  rw [← hN] at hc
  have HN := Lib.hid hN
  clear h2 h6 l1 l2 hN h4 h5
  go_enter Tryz.func135, Tryz.ntmps135
  go_upto_region 1 with (fail)
  generalize hW : w.alloc _ = w1
  have F1 : Fr none w w1 := hW ▸ (Fr.refl none w).alloc _
  have b1 : TB w1 w.heap.size (.int .i64 thr) (.slice A n c) (.slice A' n' c') := by rw [← hW]; exact blk_new _ _
  clear hW
  refine wp_region_held_drew (S := fun W => (∀ k, W.cell? ⟨w.heap.size, k, none⟩ = (#[.int .i64 thr, .slice A n c, .slice A' n' c'] : Array Value)[k]?) ∧ Fr none w1 W) (by kernel_rfl) ⟨b1.cell, (Fr.refl _ _).drew⟩ (fun hH0 => ?_)
  have HB1 := Lib.hid b1
  clear b1
  refine wpAnyH_take (i := 0) (v := ?_) rfl (by kernel_rfl) (by kernel_rfl) (by kernel_rfl) (fun _ _ _ h => h) (Or.inl ⟨by rfl, ?_⟩) (by assumption) ?_
  rotate_left
  · (intro W hW; (try dsimp only at hW); go_simp; try with_reducible rfl)
  try simp only [Act.put, List.setIfInBounds_toArray, List.set_cons_zero, List.set_cons_succ, List.getElem_toArray, List.getElem_cons_zero, List.getElem_cons_succ]
  refine wpAnyH_take (i := 1) (v := ?_) rfl (by kernel_rfl) (by kernel_rfl) (by kernel_rfl) (fun _ _ _ h => h) (Or.inl ⟨by rfl, ?_⟩) (by assumption) ?_
  rotate_left
  · (intro W hW; (try dsimp only at hW); go_simp; try with_reducible rfl)
  try simp only [Act.put, List.setIfInBounds_toArray, List.set_cons_zero, List.set_cons_succ, List.getElem_toArray, List.getElem_cons_zero, List.getElem_cons_succ]
  refine wpAnyH_take (i := 2) (v := ?_) rfl (by kernel_rfl) (by kernel_rfl) (by kernel_rfl) (fun _ _ _ h => h) (Or.inl ⟨by rfl, ?_⟩) (by assumption) ?_
  rotate_left
  · (intro W hW; (try dsimp only at hW); go_simp; try with_reducible rfl)
  try simp only [Act.put, List.setIfInBounds_toArray, List.set_cons_zero, List.set_cons_succ, List.getElem_toArray, List.getElem_cons_zero, List.getElem_cons_succ]
  refine wpAnyH_ready (rs := [3]) (by kernel_rfl) (by simp) ?_
  refine AllReadyH.cons rfl (fun K hK => ?_) AllReadyH.nil
  simp only [List.getElem_toArray, List.getElem_cons_zero, List.getElem_cons_succ]
  go_simp
  go_at_call 136
  refine (nentries_any (.mk thr nodes inner) _ _ D (TrD.keep (fun k hk => ⟨hk, (F1.pure hH0.2).block k (hD k hk) (by simp)⟩) _ _ HT.out)).mono ?_
  rintro e2 w2 ⟨rfl, F2⟩
  rw [← HN.out]
  have F12 := hH0.2.pure F2
  refine hK.out _ _ ⟨(HB1.out.fr F12 (by simp)).cell, F12⟩ (fun hH1 => ?_)
  clear hK K
  try simp only [Act.put, List.setIfInBounds_toArray, List.set_cons_zero, List.set_cons_succ, List.getElem_toArray, List.getElem_cons_zero, List.getElem_cons_succ]
  refine wpAnyH_take (i := 4) (v := ?_) rfl (by kernel_rfl) (by kernel_rfl) (by kernel_rfl) (fun _ _ _ h => h) (Or.inl ⟨by rfl, ?_⟩) (by assumption) ?_
  rotate_left
  · (intro W hW; (try dsimp only at hW); go_simp; try with_reducible rfl)
  try simp only [Act.put, List.setIfInBounds_toArray, List.set_cons_zero, List.set_cons_succ, List.getElem_toArray, List.getElem_cons_zero, List.getElem_cons_succ]
  refine wpAnyH_take (i := 5) (v := ?_) rfl (by kernel_rfl) (by kernel_rfl) (by kernel_rfl) (fun _ _ _ h => h) (Or.inl ⟨by rfl, ?_⟩) (by assumption) ?_
  rotate_left
  · (intro W hW; (try dsimp only at hW); go_simp; try with_reducible rfl)
  try simp only [Act.put, List.setIfInBounds_toArray, List.set_cons_zero, List.set_cons_succ, List.getElem_toArray, List.getElem_cons_zero, List.getElem_cons_succ]
  refine wpAnyH_done (by kernel_rfl) ?_ _
  go_wp2_with fail
  go_ret
  exact ⟨ret_bool (by rw [hc.out]; rfl), F1.pure F12⟩
end Go.Proofs.YtpdhckbiioobhaaGreatDoor

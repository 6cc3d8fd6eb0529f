/- Reading a trust, plain: tokens, numbers, the reader of notation as a function of what is left of the text. -/
import Derived.Test.YtpdhckbiioobhaaGreatDoorTxtP
namespace Go.Proofs.YtpdhckbiioobhaaGreatDoor
open Go.RowKit

def isDg (c : UInt8) : Bool := decide (48 ≤ c.toNat ∧ c.toNat ≤ 57)
/-- Past the blanks. -/
def skp (u : List UInt8) : List UInt8 := u.dropWhile (· == 32)
/-- The length of the token with which a text begins. -/
def tokN (u : List UInt8) : Nat :=
  if u.take 2 = [111, 102] then 2 else match u with
    | [] => 0
    | c :: r => if c = 40 ∨ c = 41 ∨ c = 44 then 1 else ((c :: r).takeWhile isDg).length
def tok (u : List UInt8) : List UInt8 := u.take (tokN u)
def nxt (u : List UInt8) : List UInt8 := skp (u.drop (tokN u))
/-- The value of a numeral. -/
def numV (n : Nat) (l : List UInt8) : Nat := l.foldl (fun n c => 10 * n + (c.toNat - 48)) n
/-- May a token stand as a number? -/
def numB (w : List UInt8) : Bool := match w with
  | [] => false
  | c :: r => isDg c && decide (r.length ≤ 3) && !(decide (1 ≤ r.length) && c == 48)
def numP (u : List UInt8) : Option Nat := if numB (tok u) then some (numV 0 (tok u)) else none

mutual
/-- A trust behind its threshold; none: it has not its form. Beside it: what is left. -/
def restP : Nat → Int → List UInt8 → Option Tr × List UInt8
  | 0, _, u => (none, u)
  | f + 1, n, u => if tok u = [111, 102] then (if tok (nxt u) = [40] then loopP f n [] [] (nxt (nxt u)) else (none, nxt u)) else (none, u)
def loopP : Nat → Int → List Int → List Tr → List UInt8 → Option Tr × List UInt8
  | 0, _, _, _, u => (none, u)
  | f + 1, n, nodes, inner, u =>
    match numP u with
    | none => (none, u)
    | some k =>
      if tok (nxt u) = [111, 102] then
        match restP f k (nxt u) with
        | (none, v) => (none, v)
        | (some x, v) => if tok v = [41] then (some (.mk n nodes (inner ++ [x])), nxt v) else if tok v = [44] then loopP f n nodes (inner ++ [x]) (nxt v) else (none, v)
      else if tok (nxt u) = [41] then (some (.mk n (nodes ++ [(k : Int)]) inner), nxt (nxt u)) else if tok (nxt u) = [44] then loopP f n (nodes ++ [(k : Int)]) inner (nxt (nxt u)) else (none, nxt u)
end
/-- What Parse returns: a trust, or the place of an error and its code. -/
inductive Got where
  | ok (t : Tr)
  | no (at_ : Nat) (e : Int)
/-- Behind the first number. -/
def wholeP (s : List UInt8) : Option Tr × List UInt8 :=
  match numP (skp s) with
  | none => (none, skp s)
  | some n => restP (s.length + 1) n (nxt (skp s))
def parseP (s : List UInt8) : Got :=
  if 6000 < s.length then .no 0 3 else
    match wholeP s with
    | (none, v) => .no (s.length - v.length) 2
    | (some t, v) => if v ≠ [] then .no (s.length - v.length) 2 else if validE t ≠ 0 then .no 0 (validE t) else .ok t

theorem skp_len (u : List UInt8) : (skp u).length ≤ u.length := (List.dropWhile_suffix _).length_le
theorem tokN_le (u : List UInt8) : tokN u ≤ u.length := by
  unfold tokN
  split
  · rename_i h
    have := congrArg List.length h
    simp only [List.length_take, List.length_cons, List.length_nil] at this
    omega
  · split
    · simp
    · split
      · simp
      · exact (List.takeWhile_prefix _).length_le
theorem nxt_len (u : List UInt8) : (nxt u).length ≤ u.length - tokN u := by
  have := skp_len (u.drop (tokN u))
  rw [List.length_drop] at this
  exact this
theorem nxt_le (u : List UInt8) : (nxt u).length ≤ u.length := by have := nxt_len u; omega
theorem tok_len (u : List UInt8) : (tok u).length = tokN u := by
  unfold tok
  rw [List.length_take]
  exact Nat.min_eq_left (tokN_le u)
theorem nxt_lt {u : List UInt8} (h : tok u ≠ []) : (nxt u).length < u.length := by
  have h1 := tok_len u
  have h2 := nxt_len u
  have h3 := tokN_le u
  have : 0 < (tok u).length := List.length_pos_iff.2 h
  omega
theorem numB_ne {w : List UInt8} (h : numB w = true) : w ≠ [] := by
  intro e; subst e; simp [numB] at h
mutual
theorem restP_len : ∀ (f : Nat) (n : Int) (u : List UInt8), (restP f n u).2.length ≤ u.length
  | 0, _, u => by simp [restP]
  | f + 1, n, u => by
    simp only [restP]
    have h1 := nxt_le u
    have h2 := nxt_le (nxt u)
    split
    · split
      · have := loopP_len f n [] [] (nxt (nxt u)); omega
      · exact h1
    · exact Nat.le_refl _
theorem loopP_len : ∀ (f : Nat) (n : Int) (a : List Int) (b : List Tr) (u : List UInt8), (loopP f n a b u).2.length ≤ u.length
  | 0, _, _, _, u => by simp [loopP]
  | f + 1, n, a, b, u => by
    simp only [loopP]
    have h1 := nxt_le u
    have h2 := nxt_le (nxt u)
    split
    · exact Nat.le_refl _
    · rename_i k _
      have h3 := restP_len f k (nxt u)
      split
      · generalize restP f k (nxt u) = p at *
        obtain ⟨o, v⟩ := p
        simp only at h3
        have h4 := nxt_le v
        cases o with
        | none => simp only; omega
        | some x =>
          simp only
          split
          · simp only; omega
          · split
            · have := loopP_len f n a (b ++ [x]) (nxt v); omega
            · simp only; omega
      · split
        · simp only; omega
        · split
          · have := loopP_len f n (a ++ [(k : Int)]) b (nxt (nxt u)); omega
          · simp only; omega
end
end Go.Proofs.YtpdhckbiioobhaaGreatDoor

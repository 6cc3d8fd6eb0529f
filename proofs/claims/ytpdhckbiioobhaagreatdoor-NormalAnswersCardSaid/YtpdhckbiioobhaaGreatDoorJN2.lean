/- Some texts of this claim, joined: contracts of the functions that it reaches, and plain laws. -/
import Derived.Test.YtpdhckbiioobhaaGreatDoorJN1

set_option linter.unusedSimpArgs false
set_option linter.unusedVariables false
/- Bits of Go's int, plain. -/
namespace Go.Proofs.YtpdhckbiioobhaaGreatDoor
open Go.RowKit

theorem toNat_i64 (a : Nat) (ha : a < 9223372036854775808) : (BitVec.ofInt 64 (a : Int)).toNat = a := by
  rw [BitVec.ofInt_natCast, BitVec.toNat_ofNat]; exact Nat.mod_eq_of_lt (by omega)
theorem and_i64 (a b : Nat) (ha : a < 9223372036854775808) (hb : b < 9223372036854775808) : bits .and .i64 (a : Int) (b : Int) = ((a &&& b : Nat) : Int) := by
  have hx : a &&& b < 2 ^ 63 := Nat.and_lt_two_pow _ (by omega)
  show IntKind.i64.wrap ((BitVec.ofInt 64 (a : Int) &&& BitVec.ofInt 64 (b : Int)).toNat : Int) = _
  rw [BitVec.toNat_and, toNat_i64 a ha, toNat_i64 b hb, IntKind.wrap_i64]
  omega
theorem or_i64 (a b : Nat) (ha : a < 9223372036854775808) (hb : b < 9223372036854775808) : bits .or .i64 (a : Int) (b : Int) = ((a ||| b : Nat) : Int) := by
  have hx : a ||| b < 2 ^ 63 := Nat.or_lt_two_pow (by omega) (by omega)
  show IntKind.i64.wrap ((BitVec.ofInt 64 (a : Int) ||| BitVec.ofInt 64 (b : Int)).toNat : Int) = _
  rw [BitVec.toNat_or, toNat_i64 a ha, toNat_i64 b hb, IntKind.wrap_i64]
  omega
theorem pow2_lt (j : Nat) (hj : j < 62) : 2 ^ j < 4611686018427387904 := by
  have := Nat.pow_lt_pow_right (a := 2) (by omega) hj
  simpa using this
theorem wrap_pow (j : Nat) (hj : j < 62) : wrap64 ((2 : Int) ^ j) = ((2 ^ j : Nat) : Int) := by
  have h := pow2_lt j hj
  have e : (2 : Int) ^ j = ((2 ^ j : Nat) : Int) := by simp
  rw [e]
  generalize 2 ^ j = x at *
  exact IntWalk.wrap64_in _ ⟨by omega, by omega⟩
theorem wrapI (n : Int) : IntKind.i64.wrap n = wrap64 n := by unfold wrap64; exact IntKind.wrap_i64 n
theorem and_pow (m j : Nat) : m &&& 2 ^ j = if m.testBit j then 2 ^ j else 0 := by
  apply Nat.eq_of_testBit_eq
  intro i
  rw [Nat.testBit_and, Nat.testBit_two_pow]
  by_cases h : j = i
  · subst h
    cases hb : m.testBit j <;> simp
  · cases hb : m.testBit j <;> simp [h]
theorem and_pow_ne (m j : Nat) : ((((m &&& 2 ^ j : Nat) : Int)) != 0) = m.testBit j := by
  rw [and_pow]
  have : 0 < 2 ^ j := Nat.two_pow_pos j
  cases h : m.testBit j
  · simp
  · rw [bne_iff_ne.2]
    simp only [if_true]
    omega
/-- s & (1 << j) != 0 -/
theorem bit_test (m j : Nat) (hm : m < 9223372036854775808) (hj : j < 62) : (bits .and .i64 (m : Int) (wrap64 (2 ^ j)) != 0) = m.testBit j := by
  rw [wrap_pow j hj, and_i64 m (2 ^ j) hm (by have := pow2_lt j hj; omega)]
  exact and_pow_ne m j
/-- s >> j & 1 == 1 -/
theorem shr_test (m j : Nat) (hm : m < 9223372036854775808) : (bits .and .i64 ((m : Int) / 2 ^ j) 1 == 1) = m.testBit j := by
  have e : ((m : Int) / 2 ^ j) = ((m / 2 ^ j : Nat) : Int) := by simp
  have hd : m / 2 ^ j ≤ m := Nat.div_le_self _ _
  rw [e]
  have h1 := and_i64 (m / 2 ^ j) 1 (by omega) (by omega)
  have h2 : ((1 : Nat) : Int) = 1 := rfl
  rw [h2] at h1
  rw [h1, Nat.testBit_eq_decide_div_mod_eq, Nat.and_one_is_mod]
  generalize m / 2 ^ j % 2 = x
  rw [Bool.eq_iff_iff]
  simp
  omega
end Go.Proofs.YtpdhckbiioobhaaGreatDoor

/- Plain: the order of trusts is total (opposite, transitive); sorting by it. -/
namespace Go.Proofs.YtpdhckbiioobhaaGreatDoor

theorem sgnI_neg (a b : Int) : sgnI b a = - sgnI a b := by
  unfold sgnI
  by_cases h1 : a < b
  · simp [h1, show ¬ b < a by omega]
  · by_cases h2 : b < a
    · simp [h1, h2]
    · simp [h1, h2]
theorem sgnI_trans (a b c : Int) : sgnI a b ≤ 0 → sgnI b c ≤ 0 → sgnI a c ≤ 0 := by
  have k : ∀ x y : Int, sgnI x y ≤ 0 ↔ x ≤ y := fun x y => by
    unfold sgnI
    by_cases h1 : x < y
    · rw [if_pos h1]; omega
    · by_cases h2 : y < x
      · rw [if_neg h1, if_pos h2]; omega
      · rw [if_neg h1, if_neg h2]; omega
  rw [k, k, k]
  omega
theorem cmpNs_neg : ∀ a b : List Int, cmpNs b a = - cmpNs a b
  | [], [] => by simp [cmpNs]
  | [], _ :: _ => by simp [cmpNs]
  | _ :: _, [] => by simp [cmpNs]
  | x :: r, y :: s => by
    have h1 := sgnI_neg x y
    have h2 := cmpNs_neg r s
    simp only [cmpNs]
    by_cases h : sgnI x y = 0
    · rw [if_neg (show ¬ sgnI y x ≠ 0 by omega), if_neg (show ¬ sgnI x y ≠ 0 by omega)]; exact h2
    · rw [if_pos (show sgnI y x ≠ 0 by omega), if_pos h]; exact h1
mutual
theorem cmpT_neg : ∀ a b : Tr, cmpT b a = - cmpT a b
  | .mk t n i, .mk t' n' i' => by
    have h1 := sgnI_neg t t'
    have h2 := cmpNs_neg n n'
    have h3 := cmpTs_neg i i'
    simp only [cmpT]
    by_cases h : sgnI t t' = 0
    · rw [if_neg (show ¬ sgnI t' t ≠ 0 by omega), if_neg (show ¬ sgnI t t' ≠ 0 by omega)]
      by_cases h' : cmpNs n n' = 0
      · rw [if_neg (show ¬ cmpNs n' n ≠ 0 by omega), if_neg (show ¬ cmpNs n n' ≠ 0 by omega)]; exact h3
      · rw [if_pos (show cmpNs n' n ≠ 0 by omega), if_pos h']; exact h2
    · rw [if_pos (show sgnI t' t ≠ 0 by omega), if_pos h]; exact h1
theorem cmpTs_neg : ∀ a b : List Tr, cmpTs b a = - cmpTs a b
  | [], [] => by simp [cmpTs]
  | [], _ :: _ => by simp [cmpTs]
  | _ :: _, [] => by simp [cmpTs]
  | x :: r, y :: s => by
    have h1 := cmpT_neg x y
    have h2 := cmpTs_neg r s
    simp only [cmpTs]
    by_cases h : cmpT x y = 0
    · rw [if_neg (show ¬ cmpT y x ≠ 0 by omega), if_neg (show ¬ cmpT x y ≠ 0 by omega)]; exact h2
    · rw [if_pos (show cmpT y x ≠ 0 by omega), if_pos h]; exact h1
end
theorem lex_trans {A B C p q r : Int} (h1 : A ≤ 0 → B ≤ 0 → C ≤ 0) (h2 : A = 0 → C = B) (h3 : B = 0 → C = A) (h4 : C = 0 → B = -A) (hr : p ≤ 0 → q ≤ 0 → r ≤ 0) :
    (if A ≠ 0 then A else p) ≤ 0 → (if B ≠ 0 then B else q) ≤ 0 → (if C ≠ 0 then C else r) ≤ 0 := by
  intro k1 k2
  by_cases hA : A = 0
  · rw [if_neg (show ¬ A ≠ 0 by omega)] at k1
    by_cases hB : B = 0
    · rw [if_neg (show ¬ B ≠ 0 by omega)] at k2
      have := h2 hA
      rw [if_neg (show ¬ C ≠ 0 by omega)]
      exact hr k1 k2
    · rw [if_pos hB] at k2
      have := h2 hA
      rw [if_pos (show C ≠ 0 by omega)]
      omega
  · rw [if_pos hA] at k1
    by_cases hB : B = 0
    · have := h3 hB
      rw [if_pos (show C ≠ 0 by omega)]
      omega
    · rw [if_pos hB] at k2
      have h5 := h1 k1 k2
      have h6 : C ≠ 0 := fun e => by have := h4 e; omega
      rw [if_pos h6]
      exact h5
theorem cmpNs_trans : ∀ a b c : List Int, cmpNs a b ≤ 0 → cmpNs b c ≤ 0 → cmpNs a c ≤ 0
  | [], [], c, _, h => h
  | [], _ :: _, [], _, h => by simp [cmpNs] at h
  | [], _ :: _, _ :: _, _, _ => by simp [cmpNs]
  | _ :: _, [], _, h, _ => by simp [cmpNs] at h
  | _ :: _, _ :: _, [], _, h => by simp [cmpNs] at h
  | x :: r, y :: s, z :: t, h, h' => by
    simp only [cmpNs] at h h' ⊢
    exact lex_trans (sgnI_trans x y z) (fun e => by rw [(sgnI_zero x y).1 e]) (fun e => by rw [(sgnI_zero y z).1 e]) (fun e => by rw [(sgnI_zero x z).1 e]; exact sgnI_neg z y) (cmpNs_trans r s t) h h'
mutual
theorem cmpT_trans : ∀ a b c : Tr, cmpT a b ≤ 0 → cmpT b c ≤ 0 → cmpT a c ≤ 0
  | .mk t n i, .mk t' n' i', .mk t'' n'' i'' => by
    have hr := cmpTs_trans i i' i''
    simp only [cmpT]
    exact lex_trans (sgnI_trans t t' t'') (fun e => by rw [(sgnI_zero t t').1 e]) (fun e => by rw [(sgnI_zero t' t'').1 e]) (fun e => by rw [(sgnI_zero t t'').1 e]; exact sgnI_neg t'' t')
      (lex_trans (cmpNs_trans n n' n'') (fun e => by rw [(cmpNs_zero n n').1 e]) (fun e => by rw [(cmpNs_zero n' n'').1 e]) (fun e => by rw [(cmpNs_zero n n'').1 e]; exact cmpNs_neg n'' n') hr)
theorem cmpTs_trans : ∀ a b c : List Tr, cmpTs a b ≤ 0 → cmpTs b c ≤ 0 → cmpTs a c ≤ 0
  | [], [], c => fun _ h => h
  | [], _ :: _, [] => fun _ h => by simp [cmpTs] at h
  | [], _ :: _, _ :: _ => fun _ _ => by simp [cmpTs]
  | _ :: _, [], _ => fun h _ => by simp [cmpTs] at h
  | _ :: _, _ :: _, [] => fun _ h => by simp [cmpTs] at h
  | x :: r, y :: s, z :: t => by
    have hr := cmpTs_trans r s t
    have h1 := cmpT_trans x y z
    simp only [cmpTs]
    exact lex_trans h1 (fun e => by rw [(cmpT_zero x y).1 e]) (fun e => by rw [(cmpT_zero y z).1 e]) (fun e => by rw [(cmpT_zero x z).1 e]; exact cmpT_neg z y) hr
end
theorem cmpT_self (a : Tr) : cmpT a a = 0 := (cmpT_zero a a).2 rfl

/-- Ascending. -/
def Asc (l : List Tr) : Prop := l.Pairwise fun x y => cmpT x y ≤ 0
theorem asc_uniq {l m : List Tr} (h : Asc l) (k : Asc m) (p : l.Perm m) : l = m := by
  induction l generalizing m with
  | nil => exact (List.nil_perm.1 p).symm
  | cons x r ih =>
    cases m with
    | nil => exact absurd p.length_eq (by simp)
    | cons y s =>
      obtain ⟨h1, h2⟩ := List.pairwise_cons.1 h
      obtain ⟨k1, k2⟩ := List.pairwise_cons.1 k
      have e : x = y := by
        have hx : x ∈ y :: s := p.mem_iff.1 (by simp)
        have hy : y ∈ x :: r := p.mem_iff.2 (by simp)
        rcases List.mem_cons.1 hx with e | hx
        · exact e
        rcases List.mem_cons.1 hy with e | hy
        · exact e.symm
        have a := k1 x hx
        have b := h1 y hy
        have c := cmpT_neg x y
        exact (cmpT_zero x y).1 (by omega)
      subst e
      rw [ih h2 k2 (List.Perm.cons_inv p)]
theorem insT_form (l : List Tr) (x : Tr) : insT l x = (l.reverse.dropWhile fun y => decide (0 < cmpT y x)).reverse ++ x :: (l.reverse.takeWhile fun y => decide (0 < cmpT y x)).reverse := by
  have e := List.takeWhile_append_dropWhile (p := fun y => decide (0 < cmpT y x)) (l := l.reverse)
  unfold insT
  generalize ht : l.reverse.takeWhile (fun y => decide (0 < cmpT y x)) = tw at *
  generalize hd : l.reverse.dropWhile (fun y => decide (0 < cmpT y x)) = dw at *
  have hl : l = dw.reverse ++ tw.reverse := by rw [← List.reverse_append, e, List.reverse_reverse]
  have hn : l.length - tw.length = dw.reverse.length := by rw [hl]; simp
  rw [hn]
  conv => lhs; rw [hl]
  rw [List.take_left, List.drop_left]
theorem dropWhile_head {p : Tr → Bool} : ∀ (l : List Tr) (y : Tr) (r : List Tr), l.dropWhile p = y :: r → p y = false
  | [], y, r, h => by simp at h
  | x :: l, y, r, h => by
    rw [List.dropWhile_cons] at h
    split at h
    · exact dropWhile_head l y r h
    · rename_i hp
      injection h with h1 h2
      subst h1
      simpa using hp
theorem takeWhile_mem {p : Tr → Bool} : ∀ (l : List Tr) (y : Tr), y ∈ l.takeWhile p → p y = true
  | [], y, h => by simp at h
  | x :: l, y, h => by
    rw [List.takeWhile_cons] at h
    split at h
    · rename_i hp
      rcases List.mem_cons.1 h with rfl | h
      · exact hp
      · exact takeWhile_mem l y h
    · simp at h
theorem insT_asc {l : List Tr} (h : Asc l) (x : Tr) : Asc (insT l x) := by
  rw [insT_form]
  have e := List.takeWhile_append_dropWhile (p := fun y => decide (0 < cmpT y x)) (l := l.reverse)
  have ht := takeWhile_mem (p := fun y => decide (0 < cmpT y x)) l.reverse
  have hd := dropWhile_head (p := fun y => decide (0 < cmpT y x)) l.reverse
  generalize l.reverse.takeWhile (fun y => decide (0 < cmpT y x)) = tw at *
  generalize l.reverse.dropWhile (fun y => decide (0 < cmpT y x)) = dw at *
  have hl : l = dw.reverse ++ tw.reverse := by rw [← List.reverse_append, e, List.reverse_reverse]
  have h' := h
  unfold Asc at h'
  rw [hl] at h'
  obtain ⟨a1, a2, a3⟩ := List.pairwise_append.1 h'
  have hdx : ∀ y ∈ dw, cmpT y x ≤ 0 := by
    intro y hy
    cases dw with
    | nil => cases hy
    | cons z r =>
      have hz : cmpT z x ≤ 0 := by have := hd z r rfl; simp at this; exact this
      rcases List.mem_cons.1 hy with rfl | hy
      · exact hz
      · rw [List.reverse_cons] at a1
        obtain ⟨_, _, b3⟩ := List.pairwise_append.1 a1
        exact cmpT_trans y z x (b3 y (by simpa using hy) z (by simp)) hz
  have htx : ∀ y ∈ tw, cmpT x y ≤ 0 := fun y hy => by
    have h1 := ht y hy
    have h2 := cmpT_neg x y
    simp at h1
    omega
  refine List.pairwise_append.2 ⟨a1, List.pairwise_cons.2 ⟨fun y hy => htx y (by simpa using hy), a2⟩, fun y hy z hz => ?_⟩
  rcases List.mem_cons.1 hz with rfl | hz
  · exact hdx y (by simpa using hy)
  · exact a3 y hy z hz
theorem sortT_asc (l : List Tr) : Asc (sortT l) := by
  have : ∀ (L l : List Tr), Asc l → Asc (L.foldl insT l) := by
    intro L
    induction L with
    | nil => exact fun l h => h
    | cons x r ih => exact fun l h => ih _ (insT_asc h x)
  exact this l [] List.Pairwise.nil
theorem sortT_congr {l m : List Tr} (p : l.Perm m) : sortT l = sortT m := asc_uniq (sortT_asc l) (sortT_asc m) ((sortT_perm l).trans (p.trans (sortT_perm m).symm))
theorem sortT_fix {l : List Tr} (h : Asc l) : sortT l = l := asc_uniq (sortT_asc l) h (sortT_perm l)
theorem sortN_congr {l m : List Int} (h : ∀ k, k ∈ l ↔ k ∈ m) : sortN l = sortN m := by
  unfold sortN
  congr 1
  funext k
  rw [Bool.eq_iff_iff, List.any_eq_true, List.any_eq_true]
  constructor
  · rintro ⟨x, hx, e⟩
    exact ⟨x, (h x).1 hx, e⟩
  · rintro ⟨x, hx, e⟩
    exact ⟨x, (h x).2 hx, e⟩
end Go.Proofs.YtpdhckbiioobhaaGreatDoor

/- The sources of numbers (trustquorumplay.Src, trustquorummake.Tape): one block, a slice of ints that lies below it, and a place in it. -/
namespace Go.Proofs.YtpdhckbiioobhaaGreatDoor
open Go.RowKit

/-- Block g holds a source of type T: a slice, of an elder block, that reads as some ints, and a place. -/
def SrcR (T : TypeId) (w : World) (g : Nat) : Prop :=
  ∃ (v : Value) (l : List Int) (k : Nat), w.heap[g]? = some (.cells #[v, .int .i64 k] T (0, 0)) ∧ SlD w (fun b => b < g) 1 v (l.map (Value.int .i64)) ∧ (∀ n ∈ l, Wi n) ∧ l.length ≤ 800 ∧ k ≤ l.length

theorem SrcR.lt {T : TypeId} {w : World} {g : Nat} (h : SrcR T w g) : g < w.heap.size := by
  obtain ⟨v, l, k, h, _⟩ := h
  rcases Nat.lt_or_ge g w.heap.size with hh | hh
  · exact hh
  · rw [Array.getElem?_eq_none hh] at h; cases h

/-- A frame that spares g and what lies below it. -/
theorem SrcR.frs {T : TypeId} {w w' : World} {g : Nat} {r : Option Nat} (h : SrcR T w g) (f : Fr r w w') (hr : ∀ b, r = some b → g < b) : SrcR T w' g := by
  have hg := h.lt
  obtain ⟨v, l, k, h1, h2, h3, h4⟩ := h
  exact ⟨v, l, k, (f.block g hg (fun e => by have := hr _ e.symm; omega)).trans h1, h2.keep fun b hb => ⟨hb, f.block b (by omega) (fun e => by have := hr _ e.symm; omega)⟩, h3, h4⟩
theorem SrcR.fr {T : TypeId} {w w' : World} {g : Nat} (h : SrcR T w g) (f : Fr none w w') : SrcR T w' g := h.frs f (fun _ e => by cases e)

/-- For a walk: what a source's cells hold. -/
theorem SrcR.open_ {T : TypeId} {w : World} {g : Nat} (h : SrcR T w g) :
    ∃ (A : Option Addr) (c : Nat) (l : List Int) (k : Nat), w.heap[g]? = some (.cells #[.slice A l.length c, .int .i64 k] T (0, 0)) ∧ SlD w (fun b => b < g) 1 (.slice A l.length c) (l.map (Value.int .i64)) ∧ (∀ n ∈ l, Wi n) ∧ l.length ≤ 800 ∧ k ≤ l.length ∧
      l.length ≤ c ∧ c ≤ 9223372036854775807 ∧ (0 < l.length → ∃ b off, A = some ⟨b, off, none⟩ ∧ b < g ∧ ∀ j (hj : j < l.length), w.cell? ⟨b, off + j, none⟩ = some (.int .i64 l[j])) := by
  obtain ⟨v, l, k, h1, h2, h3, h4, h5⟩ := h
  have h2' := h2
  obtain ⟨A, n, c, rfl, hl, hc, hm, hx⟩ := h2
  unfold maxLen at hm
  have e : n = l.length := by simpa using hl.symm
  subst e
  refine ⟨A, c, l, k, h1, h2', h3, h4, h5, hc, hm, fun hn => ?_⟩
  obtain ⟨b, off, rfl, hb, hx⟩ := hx hn
  exact ⟨b, off, rfl, hb, fun j hj => hx j _ (by simp [hj])⟩

/-- The next place. -/
theorem SrcR.next {T : TypeId} {w : World} {g : Nat} {v : Value} {l : List Int} {k : Nat} (h1 : w.heap[g]? = some (.cells #[v, .int .i64 k] T (0, 0))) (h2 : SlD w (fun b => b < g) 1 v (l.map (Value.int .i64))) (h2' : ∀ n ∈ l, Wi n) (h3 : l.length ≤ 800) (h4 : k < l.length) (hg : g < w.heap.size) :
    SrcR T (w.setCell ⟨g, 1, none⟩ (.int .i64 ((k : Int) + 1))) g := by
  refine ⟨v, l, k + 1, ?_, h2.keep fun b hb => ⟨hb, (Fr.set1 w ⟨g, 1, none⟩ _).block b (by omega) (by simp; omega)⟩, h2', h3, by omega⟩
  simp [World.setCell, Array.getElem?_modify, h1]

theorem SrcR.made {T : TypeId} {w : World} {v : Value} {l : List Int} (h : SlI w none v l) (hl : l.length ≤ 800) : SrcR T (w.alloc (.cells #[v, .int .i64 0] T)) w.heap.size :=
  ⟨v, l, 0, heap_alloc_new w _, h.1.keep fun b hb => ⟨hb.1, ((Fr.refl none w).alloc _).block b hb.1 (by simp)⟩, h.2, hl, Nat.zero_le _⟩

/-- What a call that makes a source leaves. -/
def NewP (T : TypeId) (w : World) (e : Ending) (w' : World) : Prop :=
  ∃ g : Nat, e = .returned (.pointer (some ⟨g, 0, none⟩)) ∧ w.heap.size ≤ g ∧ SrcR T w' g ∧ Fr none w w'

/-- What a call that draws a number leaves. -/
def NumP (T : TypeId) (w : World) (g : Nat) (lo hi : Int) (e : Ending) (w' : World) : Prop :=
  ∃ x : Int, e = .returned (.int .i64 x) ∧ lo ≤ x ∧ x ≤ hi ∧ SrcR T w' g ∧ Fr (some g) w w'

theorem SrcR.drewN {T : TypeId} {w : World} {g : Nat} (h : SrcR T w g) (n : Nat) : SrcR T (w.drewN n) g := h.fr ((Fr.refl _ _).drewN n)
theorem SrcR.drew {T : TypeId} {w : World} {g : Nat} (h : SrcR T w g) : SrcR T w.drew g := h.fr (Fr.refl _ _).drew
end Go.Proofs.YtpdhckbiioobhaaGreatDoor

/- Plain: the normal form of a normal form is itself. -/
namespace Go.Proofs.YtpdhckbiioobhaaGreatDoor

/-- A single node that is not among others. -/
def Lif (n : List Int) (x : Tr) : Prop := ∃ thr k, x = .mk thr [k] [] ∧ k ∉ n
theorem liftS_no {n : List Int} {x : Tr} (h : ¬ Lif n x) (i : List Tr) : liftS (n, i) x = (n, i ++ [x]) := by
  obtain ⟨thr, nodes, inner⟩ := x
  unfold liftS
  simp only [Tr.nodes, Tr.inner]
  split
  · rename_i k
    split
    · rfl
    · rename_i h2
      exact absurd ⟨thr, k, rfl, any_false_mem h2⟩ h
  · rfl
theorem liftS_yes {n : List Int} {thr : Int} {k : Int} (h : k ∉ n) (i : List Tr) : liftS (n, i) (.mk thr [k] []) = (n ++ [k], i) := by
  unfold liftS
  simp only [Tr.nodes, Tr.inner]
  rw [if_neg]
  intro hc
  obtain ⟨x, hx, e⟩ := List.any_eq_true.1 hc
  exact h ((of_decide_eq_true e) ▸ hx)
theorem Lif.mono {n m : List Int} {x : Tr} (hs : ∀ k ∈ n, k ∈ m) (h : ¬ Lif n x) : ¬ Lif m x := fun ⟨t, k, e, hk⟩ => h ⟨t, k, e, fun hm => hk (hs k hm)⟩
/-- What lifting leaves: nothing that can be lifted. -/
theorem lift_none : ∀ (L : List Tr) (st : List Int × List Tr), (∀ x ∈ st.2, ¬ Lif st.1 x) → (∀ k ∈ st.1, k ∈ (L.foldl liftS st).1) ∧ (∀ x ∈ (L.foldl liftS st).2, ¬ Lif (L.foldl liftS st).1 x) ∧ ∀ x ∈ (L.foldl liftS st).2, x ∈ st.2 ∨ x ∈ L
  | [], st, h => ⟨fun k hk => hk, h, fun x hx => .inl hx⟩
  | x :: r, (n, i), h => by
    rw [List.foldl_cons]
    by_cases hl : Lif n x
    · obtain ⟨thr, k, rfl, hk⟩ := hl
      rw [liftS_yes hk]
      obtain ⟨a, b, c⟩ := lift_none r (n ++ [k], i) (fun y hy => Lif.mono (fun z hz => List.mem_append_left _ hz) (h y hy))
      exact ⟨fun z hz => a z (List.mem_append_left _ hz), b, fun y hy => (c y hy).imp id (List.mem_cons_of_mem _)⟩
    · rw [liftS_no hl]
      obtain ⟨a, b, c⟩ := lift_none r (n, i ++ [x]) (fun y hy => by
        rcases List.mem_append.1 hy with hy | hy
        · exact h y hy
        · rw [List.mem_singleton.1 hy]; exact hl)
      refine ⟨a, b, fun y hy => ?_⟩
      rcases c y hy with hy | hy
      · rcases List.mem_append.1 hy with hy | hy
        · exact .inl hy
        · exact .inr (by rw [List.mem_singleton.1 hy]; simp)
      · exact .inr (List.mem_cons_of_mem _ hy)
theorem lift_fix : ∀ (L : List Tr) (n : List Int) (i : List Tr), (∀ x ∈ L, ¬ Lif n x) → L.foldl liftS (n, i) = (n, i ++ L)
  | [], n, i, _ => by simp
  | x :: r, n, i, h => by
    rw [List.foldl_cons, liftS_no (h x (by simp)), lift_fix r n _ (fun y hy => h y (List.mem_cons_of_mem _ hy))]
    simp

/-- The normal forms. -/
def NF1 (thr : Int) (n : List Int) (i : List Tr) : Prop :=
  sortN n = n ∧ Asc i ∧ (∀ x ∈ i, ¬ Lif n x) ∧ (thr = 1 ∨ thr = ((n.length + i.length : Nat) : Int) → i.Nodup ∧ ∀ x ∈ i, tak (decide (thr ≠ 1)) x = false) ∧ ¬ (n = [] ∧ i.length = 1)
mutual
def NF : Tr → Prop
  | .mk thr n i => NF1 thr n i ∧ NFs i
def NFs : List Tr → Prop
  | [] => True
  | x :: r => NF x ∧ NFs r
end
theorem nfs_iff : ∀ l : List Tr, NFs l ↔ ∀ x ∈ l, NF x
  | [] => by simp [NFs]
  | x :: r => by simp [NFs, nfs_iff r]
theorem withT_new {l : List Tr} {t : Tr} (h : t ∉ l) : withT l t = l ++ [t] := by
  unfold withT
  rw [if_neg]
  intro hc
  obtain ⟨x, hx, e⟩ := List.any_eq_true.1 hc
  exact h (((cmpT_zero x t).1 (of_decide_eq_true e)) ▸ hx)
theorem merge_fix (all : Bool) : ∀ (L : List Tr) (n : List Int) (i : List Tr), (i ++ L).Nodup → (∀ x ∈ L, tak all x = false) → L.foldl (mergeS all) (n, i) = (n, i ++ L)
  | [], n, i, _, _ => by simp
  | x :: r, n, i, h, ht => by
    have hx : x ∉ i := fun hi => by
      obtain ⟨_, _, h3⟩ := List.nodup_append.1 h
      exact h3 x hi x (by simp) rfl
    have e : mergeS all (n, i) x = (n, i ++ [x]) := by
      unfold mergeS
      rw [if_neg (by rw [ht x (by simp)]; simp), withT_new hx]
    rw [List.foldl_cons, e, merge_fix all r n _ (by simpa using h) (fun y hy => ht y (List.mem_cons_of_mem _ hy))]
    simp
theorem fin_no {thr : Int} {n : List Int} {i : List Tr} (h : ¬ (n = [] ∧ i.length = 1)) : finT (.mk thr n i) = .mk thr n i := by
  unfold finT
  simp only [Tr.nodes, Tr.inner]
  split
  · exact absurd ⟨rfl, rfl⟩ h
  · rfl
theorem fin_yes {thr : Int} {y : Tr} : finT (.mk thr [] [y]) = y := rfl
mutual
theorem nf_fix : ∀ t : Tr, NF t → normT t = t
  | .mk thr n i, h => by
    simp only [NF, nfs_iff] at h
    obtain ⟨⟨h1, h2, h3, h4, h5⟩, h6⟩ := h
    have hL := nf_fixL i h6
    simp only [normT]
    rw [hL, lift_fix i n [] h3, List.nil_append]
    have hm : mrgT thr (n, i) = .mk thr n i := by
      unfold mrgT
      by_cases c1 : thr = 1
      · rw [if_pos c1]
        obtain ⟨a, b⟩ := h4 (.inl c1)
        subst c1
        unfold mergedT mergeL
        simp only
        rw [merge_fix false i n [] (by simpa using a) (by simpa using b)]
        simp
      · rw [if_neg c1]
        by_cases c2 : thr = ((n.length + i.length : Nat) : Int)
        · rw [if_pos c2]
          obtain ⟨a, b⟩ := h4 (.inr c2)
          rw [decide_eq_true c1] at b
          unfold mergedT mergeL
          simp only
          rw [merge_fix true i n [] (by simpa using a) b]
          simp [c2]
        · rw [if_neg c2]
    rw [hm]
    unfold ordT
    simp only [Tr.thr, Tr.nodes, Tr.inner]
    rw [h1, sortT_fix h2, fin_no h5]
theorem nf_fixL : ∀ l : List Tr, (∀ x ∈ l, NF x) → normL l = l
  | [], _ => by simp [normL]
  | x :: r, h => by
    simp only [normL]
    rw [nf_fix x (h x (by simp)), nf_fixL r (fun y hy => h y (List.mem_cons_of_mem _ hy))]
end

theorem nodup_withT {l : List Tr} (h : l.Nodup) (t : Tr) : (withT l t).Nodup := by
  by_cases hm : t ∈ l
  · have : withT l t = l := by
      unfold withT
      rw [if_pos (List.any_eq_true.2 ⟨t, hm, decide_eq_true (cmpT_self t)⟩)]
    rw [this]; exact h
  · rw [withT_new hm]
    exact List.nodup_append.2 ⟨h, by simp, fun a ha b hb e => hm (by rw [← List.mem_singleton.1 hb, ← e]; exact ha)⟩
theorem nodup_withTs : ∀ (ns l : List Tr), l.Nodup → (ns.foldl withT l).Nodup
  | [], _, h => h
  | x :: r, l, h => nodup_withTs r _ (nodup_withT h x)
theorem merge_inodup (all : Bool) : ∀ (L : List Tr) (st : List Int × List Tr), st.2.Nodup → (L.foldl (mergeS all) st).2.Nodup
  | [], _, h => h
  | x :: r, st, h => by
    rw [List.foldl_cons]
    refine merge_inodup all r _ ?_
    unfold mergeS
    split
    · exact nodup_withTs _ _ h
    · exact nodup_withT h x
/-- What is not taken in, and what comes out of what is: not of the sort. -/
theorem merge_nf (all : Bool) {st : List Int × List Tr} (hN : ∀ x ∈ st.2, NF x) (hL : ∀ x ∈ st.2, ¬ Lif st.1 x) :
    (mergeL all st).2.Nodup ∧ ∀ y ∈ (mergeL all st).2, NF y ∧ tak all y = false ∧ ¬ Lif (mergeL all st).1 y := by
  have hn : ∀ k ∈ st.1, k ∈ (mergeL all st).1 := fun k hk => (merge_nodes all st.2 (st.1, []) k).2 (.inl hk)
  refine ⟨merge_inodup all st.2 (st.1, []) (by simp), fun y hy => ?_⟩
  rcases (merge_inner all st.2 (st.1, []) y).1 hy with hy | ⟨x, hx, ⟨ht, hyx⟩ | ⟨ht, he⟩⟩
  · cases hy
  · have hxn := hN x hx
    have hn2 : ∀ k ∈ x.nodes, k ∈ (mergeL all st).1 := fun k hk => (merge_nodes all st.2 (st.1, []) k).2 (.inr ⟨x, hx, ht, hk⟩)
    obtain ⟨thr, n, i⟩ := x
    simp only [NF, nfs_iff] at hxn
    obtain ⟨⟨h1, h2, h3, h4, h5⟩, h6⟩ := hxn
    refine ⟨h6 y hyx, ?_, Lif.mono hn2 (h3 y hyx)⟩
    cases all with
    | false =>
      have e : thr = 1 := of_decide_eq_true ht
      have := (h4 (.inl e)).2 y hyx
      simpa [e] using this
    | true =>
      have e : thr = ((n.length + i.length : Nat) : Int) := of_decide_eq_true ht
      have hi : 1 ≤ i.length := List.length_pos_iff.2 (List.ne_nil_of_mem hyx)
      have hne : thr ≠ 1 := fun e1 => h5 ⟨List.eq_nil_of_length_eq_zero (by omega), by omega⟩
      have := (h4 (.inr e)).2 y hyx
      rwa [decide_eq_true hne] at this
  · rw [he]
    exact ⟨hN x hx, ht, Lif.mono hn (hL x hx)⟩
theorem lif_sort {n : List Int} (h : ∀ x ∈ n, 0 ≤ x ∧ x < 10) {y : Tr} (hl : ¬ Lif n y) : ¬ Lif (sortN n) y := Lif.mono (fun k hk => (mem_sortN h k).2 hk) hl
theorem fin_nf {thr : Int} {n : List Int} {i : List Tr} (hr : ∀ x ∈ n, 0 ≤ x ∧ x < 10) (hd : n.Nodup) (hN : ∀ x ∈ i, NF x) (hL : ∀ x ∈ i, ¬ Lif n x)
    (hc : ¬ (n = [] ∧ i.length = 1) → (thr = 1 ∨ thr = ((n.length + i.length : Nat) : Int)) → i.Nodup ∧ ∀ x ∈ i, tak (decide (thr ≠ 1)) x = false) : NF (finT (ordT (.mk thr n i))) := by
  have p1 := sortN_perm hr hd
  have p2 := sortT_perm i
  unfold ordT
  simp only [Tr.thr, Tr.nodes, Tr.inner]
  by_cases hs : n = [] ∧ i.length = 1
  · obtain ⟨rfl, hl⟩ := hs
    obtain ⟨y, rfl⟩ := List.length_eq_one_iff.1 hl
    have e1 : sortN [] = [] := List.Perm.eq_nil p1
    have e2 : sortT [y] = [y] := sortT_fix (List.pairwise_singleton _ _)
    rw [e1, e2, fin_yes]
    exact hN y (by simp)
  · have hs' : ¬ (sortN n = [] ∧ (sortT i).length = 1) := fun ⟨a, b⟩ => hs ⟨by
      rw [a] at p1
      exact (List.nil_perm.1 p1), by rw [← p2.length_eq]; exact b⟩
    rw [fin_no hs']
    simp only [NF, nfs_iff]
    refine ⟨⟨sortN_congr (fun k => mem_sortN hr k), sortT_asc i, fun x hx => lif_sort hr (hL x (p2.mem_iff.1 hx)), fun ht => ?_, hs'⟩, fun x hx => hN x (p2.mem_iff.1 hx)⟩
    rw [p1.length_eq, p2.length_eq] at ht
    obtain ⟨a, b⟩ := hc hs ht
    exact ⟨p2.nodup_iff.2 a, fun x hx => b x (p2.mem_iff.1 hx)⟩
mutual
/-- The normal form is one. -/
theorem nf_norm : ∀ t : Tr, OkT t → NF (normT t)
  | .mk thr nodes inner, h => by
    obtain ⟨a, b, c, d, e⟩ := (okT_mk _ _ _).1 h
    obtain ⟨l1, l2, l3, l4, l5⟩ := norm_relL inner e
    obtain ⟨f1, f2, f3, f4, f5, f6, f7⟩ := lift_all (normL inner) (nodes, []) l2 d c (by simp)
    have hN := nf_normL inner e
    obtain ⟨g1, g2, g3⟩ := lift_none (normL inner) (nodes, []) (by simp)
    have hN' : ∀ x ∈ ((normL inner).foldl liftS (nodes, [])).2, NF x := fun x hx => by
      rcases g3 x hx with hx | hx
      · cases hx
      · exact hN x hx
    simp only [normT]
    generalize (normL inner).foldl liftS (nodes, []) = st at *
    have hO : ∀ k, (∀ x ∈ (mergeL k st).1, 0 ≤ x ∧ x < 10) ∧ (mergeL k st).1.Nodup := fun k => by
      refine ⟨fun x hx => ?_, merge_nodup k st.2 (st.1, []) f3⟩
      rcases (merge_nodes k st.2 (st.1, []) x).1 hx with hx | ⟨y, hy, _, hx⟩
      · exact f4 x hx
      · have hy2 := f5 y hy
        obtain ⟨t', n', i'⟩ := y
        exact ((okT_mk _ _ _).1 hy2).2.2.1 x hx
    unfold mrgT
    by_cases c1 : thr = 1
    · rw [if_pos c1]
      obtain ⟨m1, m2⟩ := merge_nf false hN' g2
      unfold mergedT
      refine fin_nf (hO false).1 (hO false).2 (fun x hx => (m2 x hx).1) (fun x hx => (m2 x hx).2.2) (fun _ _ => ⟨m1, fun x hx => ?_⟩)
      simpa [c1] using (m2 x hx).2.1
    · rw [if_neg c1]
      split
      · obtain ⟨m1, m2⟩ := merge_nf true hN' g2
        unfold mergedT
        refine fin_nf (hO true).1 (hO true).2 (fun x hx => (m2 x hx).1) (fun x hx => (m2 x hx).2.2) (fun hs _ => ⟨m1, fun x hx => ?_⟩)
        have hx2 := (m2 x hx).2.1
        have hi : 1 ≤ (mergeL true st).2.length := List.length_pos_iff.2 (List.ne_nil_of_mem hx)
        have hne : (((mergeL true st).1.length + (mergeL true st).2.length : Nat) : Int) ≠ 1 := fun e1 => hs ⟨List.eq_nil_of_length_eq_zero (by omega), by omega⟩
        rw [if_pos rfl, decide_eq_true hne]
        exact hx2
      · rename_i c2
        refine fin_nf f4 f3 hN' g2 (fun _ ht => ?_)
        rcases ht with ht | ht
        · exact absurd ht c1
        · exact absurd ht c2
theorem nf_normL : ∀ L : List Tr, (∀ x ∈ L, OkT x) → ∀ x ∈ normL L, NF x
  | [], _ => by simp [normL]
  | x :: r, h => by
    have h1 := nf_norm x (h x (by simp))
    have h2 := nf_normL r (fun y hy => h y (List.mem_cons_of_mem _ hy))
    simp only [normL]
    intro y hy
    rcases List.mem_cons.1 hy with rfl | hy
    · exact h1
    · exact h2 y hy
end
/-- Normal of normal. -/
theorem norm_norm {t : Tr} (h : OkT t) : normT (normT t) = normT t := nf_fix _ (nf_norm t h)
end Go.Proofs.YtpdhckbiioobhaaGreatDoor

/- Plain: trusts that differ only in the order of their entries have one normal form. -/
namespace Go.Proofs.YtpdhckbiioobhaaGreatDoor

/-- Two pairs of entries that differ in their order. -/
def P2 (a b : List Int × List Tr) : Prop := a.1.Perm b.1 ∧ a.2.Perm b.2
theorem P2.trans {a b c : List Int × List Tr} (h : P2 a b) (k : P2 b c) : P2 a c := ⟨h.1.trans k.1, h.2.trans k.2⟩
theorem P2.refl (a : List Int × List Tr) : P2 a a := ⟨List.Perm.refl _, List.Perm.refl _⟩
theorem lif_perm {n m : List Int} (h : n.Perm m) (x : Tr) : Lif n x ↔ Lif m x :=
  ⟨fun ⟨t, k, e, hk⟩ => ⟨t, k, e, fun hm => hk (h.mem_iff.2 hm)⟩, fun ⟨t, k, e, hk⟩ => ⟨t, k, e, fun hm => hk (h.mem_iff.1 hm)⟩⟩
theorem lift_p2 {a b : List Int × List Tr} (h : P2 a b) (x : Tr) : P2 (liftS a x) (liftS b x) := by
  obtain ⟨n, i⟩ := a
  obtain ⟨m, j⟩ := b
  obtain ⟨h1, h2⟩ := h
  by_cases hl : Lif n x
  · have hl' := (lif_perm h1 x).1 hl
    obtain ⟨t, k, rfl, hk⟩ := hl
    obtain ⟨t', k', e, hk'⟩ := hl'
    injection e with _ e2 _
    injection e2 with e3 _
    subst e3
    rw [liftS_yes hk, liftS_yes hk']
    exact ⟨h1.append_right _, h2⟩
  · rw [liftS_no hl, liftS_no (fun hc => hl ((lif_perm h1 x).2 hc))]
    exact ⟨h1, h2.append_right _⟩
theorem lift_swap (a : List Int × List Tr) {x y : Tr} (hx : OkT x) (hy : OkT y) : P2 (liftS (liftS a x) y) (liftS (liftS a y) x) := by
  obtain ⟨n, i⟩ := a
  have thr1 : ∀ {t k : Int}, OkT (.mk t [k] []) → t = 1 := fun h => by
    obtain ⟨a, b, _⟩ := (okT_mk _ _ _).1 h
    simp at b
    omega
  by_cases lx : Lif n x
  · obtain ⟨t, k, rfl, hk⟩ := lx
    obtain rfl := thr1 hx
    by_cases ly : Lif n y
    · obtain ⟨t', k', rfl, hk'⟩ := ly
      obtain rfl := thr1 hy
      by_cases e : k = k'
      · subst e; exact P2.refl _
      · rw [liftS_yes hk, liftS_yes hk', liftS_yes (show k' ∉ n ++ [k] by simp [hk']; exact fun h => e h.symm), liftS_yes (show k ∉ n ++ [k'] by simp [hk]; exact e)]
        refine ⟨?_, List.Perm.refl _⟩
        rw [List.append_assoc, List.append_assoc]
        exact List.Perm.append_left n (List.Perm.swap _ _ _)
    · rw [liftS_yes hk, liftS_no ly, liftS_yes hk, liftS_no (Lif.mono (fun z hz => List.mem_append_left _ hz) ly)]
      exact P2.refl _
  · by_cases ly : Lif n y
    · obtain ⟨t', k', rfl, hk'⟩ := ly
      rw [liftS_no lx, liftS_yes hk', liftS_yes hk', liftS_no (Lif.mono (fun z hz => List.mem_append_left _ hz) lx)]
      exact P2.refl _
    · rw [liftS_no lx, liftS_no ly, liftS_no ly, liftS_no lx]
      refine ⟨List.Perm.refl _, ?_⟩
      rw [List.append_assoc, List.append_assoc]
      exact List.Perm.append_left i (List.Perm.swap _ _ _)
theorem lift_perm {L M : List Tr} (p : L.Perm M) : (∀ x ∈ L, OkT x) → ∀ a b : List Int × List Tr, P2 a b → P2 (L.foldl liftS a) (M.foldl liftS b) := by
  induction p with
  | nil => exact fun _ a b h => h
  | cons x _ ih => exact fun ho a b h => ih (fun y hy => ho y (List.mem_cons_of_mem _ hy)) _ _ (lift_p2 h x)
  | swap x y l =>
    intro ho a b h
    have hf : ∀ (l : List Tr) (a b : List Int × List Tr), P2 a b → P2 (l.foldl liftS a) (l.foldl liftS b) := by
      intro l
      induction l with
      | nil => exact fun a b h => h
      | cons z r ih => exact fun a b h => ih _ _ (lift_p2 h z)
    refine hf l _ _ ?_
    exact (lift_swap a (ho y (by simp)) (ho x (by simp))).trans (lift_p2 (lift_p2 h x) y)
  | trans p _ ih1 ih2 => exact fun ho a b h => (ih1 ho a a (P2.refl _)).trans (ih2 (fun x hx => ho x (p.mem_iff.2 hx)) a b h)
theorem merge_perm (all : Bool) {a b : List Int × List Tr} (h : P2 a b) (hd : a.1.Nodup) : P2 (mergeL all a) (mergeL all b) := by
  have hd' : b.1.Nodup := h.1.nodup_iff.1 hd
  unfold mergeL
  constructor
  · refine (List.perm_ext_iff_of_nodup (merge_nodup all a.2 (a.1, []) hd) (merge_nodup all b.2 (b.1, []) hd')).2 (fun k => ?_)
    rw [merge_nodes, merge_nodes, h.1.mem_iff]
    constructor
    · rintro (hk | ⟨x, hx, r⟩)
      · exact .inl hk
      · exact .inr ⟨x, h.2.mem_iff.1 hx, r⟩
    · rintro (hk | ⟨x, hx, r⟩)
      · exact .inl hk
      · exact .inr ⟨x, h.2.mem_iff.2 hx, r⟩
  · refine (List.perm_ext_iff_of_nodup (merge_inodup all a.2 (a.1, []) (by simp)) (merge_inodup all b.2 (b.1, []) (by simp))).2 (fun y => ?_)
    rw [merge_inner, merge_inner]
    constructor
    · rintro (hk | ⟨x, hx, r⟩)
      · exact .inl hk
      · exact .inr ⟨x, h.2.mem_iff.1 hx, r⟩
    · rintro (hk | ⟨x, hx, r⟩)
      · exact .inl hk
      · exact .inr ⟨x, h.2.mem_iff.2 hx, r⟩
theorem ord_perm {thr : Int} {a b : List Int × List Tr} (h : P2 a b) : ordT (.mk thr a.1 a.2) = ordT (.mk thr b.1 b.2) := by
  unfold ordT
  simp only [Tr.thr, Tr.nodes, Tr.inner]
  rw [sortN_congr (fun k => h.1.mem_iff), sortT_congr h.2]
theorem mrg_perm {thr : Int} {a b : List Int × List Tr} (h : P2 a b) (hd : a.1.Nodup) : ordT (mrgT thr a) = ordT (mrgT thr b) := by
  have hl : a.1.length + a.2.length = b.1.length + b.2.length := by rw [h.1.length_eq, h.2.length_eq]
  unfold mrgT
  by_cases c1 : thr = 1
  · rw [if_pos c1, if_pos c1]
    unfold mergedT
    exact ord_perm (merge_perm false h hd)
  · rw [if_neg c1, if_neg c1, hl]
    by_cases c2 : thr = ((b.1.length + b.2.length : Nat) : Int)
    · rw [if_pos c2, if_pos c2]
      have hm := merge_perm true h hd
      have hl2 : (mergeL true a).1.length + (mergeL true a).2.length = (mergeL true b).1.length + (mergeL true b).2.length := by rw [hm.1.length_eq, hm.2.length_eq]
      unfold mergedT
      rw [hl2]
      exact ord_perm hm
    · rw [if_neg c2, if_neg c2]
      exact ord_perm h
theorem normL_map : ∀ l : List Tr, normL l = l.map normT
  | [] => by simp [normL]
  | x :: r => by simp [normL, normL_map r]
theorem norm_perm {thr : Int} {n m : List Int} {i j : List Tr} (h : OkT (.mk thr n i)) (h1 : n.Perm m) (h2 : (normL i).Perm (normL j)) : normT (.mk thr n i) = normT (.mk thr m j) := by
  obtain ⟨_, _, _, d, e⟩ := (okT_mk _ _ _).1 h
  obtain ⟨_, l2, _⟩ := norm_relL i e
  obtain ⟨_, _, f3, _⟩ := lift_all (normL i) (n, []) l2 d ((okT_mk _ _ _).1 h).2.2.1 (by simp)
  simp only [normT]
  rw [mrg_perm (lift_perm h2 l2 (n, []) (m, []) ⟨h1, List.Perm.refl _⟩) f3]

/-- What mixing leaves: a trust that is as good, with the same normal form. -/
def MixR (a b : Tr) : Prop := (OkT a → OkT b ∧ normT a = normT b) ∧ b.size = a.size ∧ b.dep = a.dep
/-- Trusts in pairs. -/
def MixL : List Tr → List Tr → Prop
  | [], [] => True
  | x :: r, y :: s => MixR x y ∧ MixL r s
  | _, _ => False
theorem MixL.facts : ∀ {l m : List Tr}, MixL l m → l.length = m.length ∧ sizeL m = sizeL l ∧ depL m = depL l ∧ ((∀ x ∈ l, OkT x) → (∀ x ∈ m, OkT x) ∧ normL l = normL m)
  | [], [], _ => ⟨rfl, rfl, rfl, fun _ => ⟨by simp, rfl⟩⟩
  | x :: r, [], h => by simp [MixL] at h
  | [], y :: s, h => by simp [MixL] at h
  | x :: r, y :: s, h => by
    simp only [MixL] at h
    obtain ⟨⟨h1, h2, h3⟩, h⟩ := h
    obtain ⟨k1, k2, k3, k4⟩ := MixL.facts h
    refine ⟨by simp [k1], by simp only [sizeL]; omega, by simp only [depL]; omega, fun ho => ?_⟩
    obtain ⟨o1, o2⟩ := h1 (ho x (by simp))
    obtain ⟨p1, p2⟩ := k4 (fun z hz => ho z (List.mem_cons_of_mem _ hz))
    refine ⟨fun z hz => ?_, by simp only [normL]; rw [o2, p2]⟩
    rcases List.mem_cons.1 hz with rfl | hz
    · exact o1
    · exact p1 z hz
theorem MixL.append : ∀ {l m l' m' : List Tr}, MixL l m → MixL l' m' → MixL (l ++ l') (m ++ m')
  | [], [], _, _, _, h => h
  | x :: r, [], _, _, h, _ => by simp [MixL] at h
  | [], y :: s, _, _, h, _ => by simp [MixL] at h
  | x :: r, y :: s, _, _, h, h' => by
    simp only [MixL, List.cons_append] at h ⊢
    exact ⟨h.1, MixL.append h.2 h'⟩
theorem mix_mk {thr : Int} {n m : List Int} {i j k : List Tr} (h1 : m.Perm n) (h2 : j.Perm i) (h3 : MixL j k) : MixR (.mk thr n i) (.mk thr m k) := by
  obtain ⟨a, b, c, d⟩ := h3.facts
  refine ⟨fun ho => ?_, ?_, ?_⟩
  · obtain ⟨o1, o2, o3, o4, o5⟩ := (okT_mk _ _ _).1 ho
    obtain ⟨d1, d2⟩ := d (fun x hx => o5 x (h2.mem_iff.1 hx))
    refine ⟨(okT_mk _ _ _).2 ⟨o1, by rw [h1.length_eq, ← a, h2.length_eq]; exact o2, fun x hx => o3 x (h1.mem_iff.1 hx), h1.nodup_iff.2 o4, d1⟩, ?_⟩
    refine norm_perm ho h1.symm ?_
    rw [← d2, normL_map, normL_map]
    exact (h2.symm.map normT)
  · simp only [Tr.size]
    rw [b, sizeL_perm h2, h1.length_eq, ← a, h2.length_eq]
  · simp only [Tr.dep]
    rw [c, depL_perm h2]
end Go.Proofs.YtpdhckbiioobhaaGreatDoor

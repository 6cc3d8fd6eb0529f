/- Some texts of this claim, joined: contracts of the functions that it reaches, and plain laws. -/
import Derived.RangeFuncBox
import Derived.RangeFuncLeaves
import Derived.RangeFuncCalls
import Derived.Shelf.Abstract
import Derived.WalkKit
import Derived.OwnWalkIn
import Derived.TacticsInMore
import Derived.LoopNIn
import Derived.LoopIn
import Derived.Maps.AppendAt
import Derived.Test.YtpdhckbiioobhaaGreatProg
import Derived.Test.YtpdhckbiioobhaaGreatJS6
import Derived.Test.YtpdhckbiioobhaaGreatJS11

set_option linter.unusedSimpArgs false
set_option linter.unusedVariables false
/- Walks: slices.inOrder and slices.least. -/
namespace Go.Proofs.YtpdhckbiioobhaaGreat
open Go.RowKit Go.Shelf

attribute [local go_sem] Oper.semAt_some

/-- The sets in order, from s on. -/
def ordF : Nat → Nat → List Nat
  | 0, s => [s]
  | f + 1, s => s :: ordF f (nextR s 10).1
def ordN : List Nat := ordF 1023 0
def ordI : List Int := ordN.map Int.ofNat
theorem ordF_len : ∀ f s, (ordF f s).length = f + 1
  | 0, _ => rfl
  | f + 1, s => by simp [ordF, ordF_len f]
theorem ordN_len : ordN.length = 1024 := ordF_len _ _
theorem go10 : goN 10 0 1023 = true := goN_all ⟨10, by omega⟩
theorem bit_fold : ∀ (l : List Nat) (a i : Nat), (l.foldl (fun a s => a ||| 2 ^ s) a).testBit i = true → a.testBit i = true ∨ i ∈ l
  | [], a, i, h => .inl h
  | s :: r, a, i, h => by
    rcases bit_fold r (a ||| 2 ^ s) i h with h | h
    · rw [Nat.testBit_or, Bool.or_eq_true] at h
      rcases h with h | h
      · exact .inl h
      · rw [Nat.testBit_two_pow] at h
        exact .inr (by simp at h; simp [h])
    · exact .inr (List.mem_cons_of_mem _ h)
def maskF : Nat → Nat → Nat → Nat
  | 0, s, a => a ||| 2 ^ s
  | f + 1, s, a => maskF f (nextR s 10).1 (a ||| 2 ^ s)
theorem maskF_eq : ∀ f s a, (ordF f s).foldl (fun a s => a ||| 2 ^ s) a = maskF f s a
  | 0, _, _ => rfl
  | f + 1, s, a => by simp only [ordF, List.foldl_cons, maskF]; exact maskF_eq f _ _
def n1024 : Nat := 1024
theorem mask_all : (maskF 1023 0 0 == 2 ^ n1024 - 1) = true := by kernel_rfl
theorem ord_lt : ∀ (f s : Nat), s < 1024 → goN 10 s f = true → ∀ x ∈ ordF f s, x < 1024
  | 0, s, hs, _, x, hx => by simp [ordF] at hx; omega
  | f + 1, s, hs, h, x, hx => by
    simp only [goN, Bool.and_eq_true, decide_eq_true_eq, beq_iff_eq] at h
    simp only [ordF, List.mem_cons] at hx
    rcases hx with rfl | hx
    · exact hs
    · exact ord_lt f _ (by have := h.1.1.2; omega) h.2 x hx
theorem ordN_all (i : Nat) (hi : i < 1024) : i ∈ ordN := by
  have h : (ordN.foldl (fun a s => a ||| 2 ^ s) 0).testBit i = true := by
    unfold ordN
    rw [maskF_eq, beq_iff_eq.1 mask_all, Nat.testBit_two_pow_sub_one, decide_eq_true_eq]
    exact hi
  rcases bit_fold _ _ _ h with h | h
  · simp at h
  · exact h
theorem ordI_all : AllS ordI := fun x => by
  unfold ordI
  rw [List.mem_map]
  constructor
  · rintro ⟨n, hn, rfl⟩
    have := ord_lt 1023 0 (by omega) go10 n hn
    exact nat_validB (by omega)
  · intro h
    obtain ⟨n, rfl, hn⟩ := validB_nat h
    exact ⟨n, ordN_all n (by omega), rfl⟩

/-- How many sets come behind s. -/
def aftN (s : Int) : Nat := ((List.range 1024).filter fun t : Nat => decide (cmpS s (t : Int) < 0)).length
theorem filter_lt {p q : Nat → Bool} : ∀ (l : List Nat), (∀ x ∈ l, p x = true → q x = true) → (∃ a ∈ l, q a = true ∧ p a = false) → (l.filter p).length < (l.filter q).length
  | [], _, h => by obtain ⟨a, h, _⟩ := h; cases h
  | x :: r, h, ⟨a, ha, h1, h2⟩ => by
    have hle : (r.filter p).length ≤ (r.filter q).length := by
      have hr : ∀ y ∈ r, p y = true → q y = true := fun y hy => h y (List.mem_cons_of_mem _ hy)
      clear h ha h1 h2
      induction r with
      | nil => simp
      | cons y s ih =>
        have h3 := hr y (by simp)
        have h4 := ih (fun z hz => hr z (List.mem_cons_of_mem _ hz))
        cases hp : p y
        · cases hq : q y <;> simp [List.filter_cons, hp, hq] <;> omega
        · simp [List.filter_cons, hp, h3 hp]; omega
    rcases List.mem_cons.1 ha with rfl | ha
    · simp [List.filter_cons, h1, h2]; omega
    · have ih := filter_lt r (fun y hy => h y (List.mem_cons_of_mem _ hy)) ⟨a, ha, h1, h2⟩
      have h3 := h x (by simp)
      cases hp : p x
      · cases hq : q x <;> simp [List.filter_cons, hp, hq] <;> omega
      · simp [List.filter_cons, hp, h3 hp]; omega
theorem aft_lt {s t : Nat} (ht : t < 1024) (h : cmpS (s : Int) (t : Int) = -1) : aftN (t : Int) < aftN (s : Int) := by
  refine filter_lt _ (fun x _ hx => ?_) ⟨t, by simpa using ht, ?_, ?_⟩
  · simp only [decide_eq_true_eq, cmpS_ltQ] at *
    have h2 : cmpS (s : Int) (t : Int) < 0 := by omega
    rw [cmpS_ltQ] at h2
    omega
  · simp [h]
  · simp only [decide_eq_false_iff_not, cmpS_ltQ]; omega
/-- What is still to come, read off the loop's variables. -/
def leftV (a b : Value) : Nat := match b with
  | .bool true => aftN (intOf a) + 1
  | _ => 0

abbrev S10 := { s : Nat // s < 1024 }
set_option maxRecDepth 100000 in
set_option maxHeartbeats 1000000 in
theorem inOrder_stops (w : World) : SeqStops Fence.wide 2 Tryz.prog 70 #[] (fun s : S10 => Value.int .i64 (s.1 : Int)) (fun xs => xs.map (·.1) = ordN) (fun pre => pre.map (·.1) <+: ordN) 1024 w := fun l J Jx W _ _ _ hY h0 => by
  refine callsIn_of_wp Tryz.func70 rfl trivial ?_ rfl
  simp only [Tryz.ntmps70, List.size_toArray, List.length_cons, List.length_nil, Nat.reduceAdd, Nat.reduceSub, Array.replicate_succ, Array.replicate_zero, List.push_toArray, List.append_toArray, List.nil_append, List.cons_append]
  have HG := Lib.hid go10
  gi_wp2
  gi_loopw [2, 3] (fun s ok wr => ∃ (pre : List S10), J pre wr ∧ ((∃ (f t : Nat), s = .int .i64 (t : Int) ∧ ok = .bool true ∧ ordN = pre.map (·.1) ++ ordF f t ∧ t < 1024 ∧ Hid (goN 10 t f = true)) ∨ (∃ t : Int, s = .int .i64 t ∧ ok = .bool false ∧ pre.map (·.1) = ordN)))
    (fun s ok _ => leftV s ok)
  case atStart => exact ⟨[], h0, .inl ⟨1023, 0, rfl, rfl, rfl, by omega, HG⟩⟩
  case round =>
    obtain ⟨pre, hJ, ⟨f, t, rfl, rfl, hx, ht, HT⟩ | ⟨t, rfl, rfl, hx⟩⟩ := hrel
    · have hlen : pre.length < 1024 := by
        have := congrArg List.length hx
        rw [ordN_len, List.length_append, ordF_len, List.length_map] at this
        omega
      obtain ⟨fn, tmps, assign, body, hy, hR⟩ := hY pre ⟨t, ht⟩ wr hJ hlen
      have HX := Lib.hid hx
      have HTT := Lib.hid ht
      clear hx
      gi_wp2
      refine hR.mono ?_
      rintro e W3 (⟨rfl, hJ3, _⟩ | ⟨rfl, hJx3⟩)
      · cases f with
        | zero =>
          have hg := HT.out
          simp only [goN, Bool.and_eq_true, beq_iff_eq] at hg
          obtain ⟨x, hx⟩ : ∃ x, x = nextR t 10 := ⟨_, rfl⟩
          rw [← hx] at hg
          obtain ⟨x, y⟩ := x
          simp only at hg
          obtain ⟨rfl, hg2⟩ := hg
          clear hg2
          have HX2 := Lib.hid hx.symm
          clear hx
          gi_wp2_with (refine ⟨trivial, ?_⟩; gi_at_call 99; refine (callsIn_wide.2 (next_any t 10 (by omega) (by omega) _)).mono ?_; rintro e w' ⟨rfl, rfl⟩; rw [HX2.out])
          go_roundw
          case rel => exact ⟨pre ++ [⟨t, HTT.out⟩], hJ3, .inr ⟨x, rfl, rfl, by rw [HX.out, List.map_append]; rfl⟩⟩
          case measure => simp [leftV]
        | succ f =>
          have hg := HT.out
          simp only [goN, Bool.and_eq_true, beq_iff_eq, decide_eq_true_eq] at hg
          obtain ⟨x, hx⟩ : ∃ x, x = nextR t 10 := ⟨_, rfl⟩
          have hxo : ordF (f + 1) t = t :: ordF f x.1 := by rw [hx]; rfl
          rw [← hx] at hg
          obtain ⟨x, y⟩ := x
          simp only at hg hxo
          obtain ⟨⟨⟨rfl, g2⟩, g3⟩, g4⟩ := hg
          have HX2 := Lib.hid hx.symm
          have HXO := Lib.hid hxo
          have G3 := Lib.hid g3
          have G4 := Lib.hid g4
          have g2' : x < 1024 := by omega
          clear hx hxo g3 g4 g2
          gi_wp2_with (refine ⟨trivial, ?_⟩; gi_at_call 99; refine (callsIn_wide.2 (next_any t 10 (by omega) (by omega) _)).mono ?_; rintro e w' ⟨rfl, rfl⟩; rw [HX2.out])
          go_roundw
          case rel => exact ⟨pre ++ [⟨t, HTT.out⟩], hJ3, .inl ⟨f, x, rfl, rfl, by rw [HX.out, HXO.out]; simp, g2', G4⟩⟩
          case measure => simpa [leftV, intOf] using aft_lt g2' G3.out
      · gi_wp2
        refine bodyPost_ret (results_none rfl _ _ _) rfl ?_
        refine ⟨⟨_, rfl⟩, .inr ⟨pre ++ [⟨t, HTT.out⟩], ?_, hJx3⟩⟩
        rw [HX.out, List.map_append]
        cases f with
        | zero => exact List.prefix_refl _
        | succ f => exact ⟨ordF f (nextR t 10).1, by simp [ordF]⟩
    · have HX := Lib.hid hx
      clear hx
      gi_wp2
      go_end0
      exact ⟨⟨_, rfl⟩, .inl ⟨pre, HX.out, hJ⟩⟩
end Go.Proofs.YtpdhckbiioobhaaGreat

/- Plain: what the reference of layer 5 computes: minimal by one node is least; the first in order. -/
namespace Go.Proofs.YtpdhckbiioobhaaGreat
open Go.RowKit

set_option maxRecDepth 100000 in
theorem sub_clear : ∀ a : Fin 1024, ∀ i : Fin 10, a.val.testBit i.val = true → a.val - 2 ^ i.val = a.val &&& (1023 ^^^ 2 ^ i.val) := by decide +kernel
theorem bits_1023 {i : Nat} (h : i < 10) : (1023 : Nat).testBit i = true := bits_all ⟨i, h⟩
theorem clr_bit {a i : Nat} (ha : a ≤ 1023) (hi : a.testBit i = true) (j : Nat) : (a - 2 ^ i).testBit j = (a.testBit j && decide (j ≠ i)) := by
  have hi10 := bit_lt10 ha hi
  have := sub_clear ⟨a, by omega⟩ ⟨i, hi10⟩ hi
  simp only at this
  rw [this, Nat.testBit_and, Nat.testBit_xor, Nat.testBit_two_pow]
  cases hj : a.testBit j with
  | false => simp
  | true =>
    rw [bits_1023 (bit_lt10 ha hj)]
    by_cases e : i = j
    · subst e; simp
    · have e' : j ≠ i := fun h => e h.symm
      simp [e, e']
theorem clr_le {a i : Nat} (ha : a ≤ 1023) : a - 2 ^ i ≤ 1023 := Nat.le_trans (Nat.sub_le _ _) ha
/-- No node can go. -/
def remB (p : Nat → Bool) (a : Nat) : Bool := (List.range 10).all fun i => !(a.testBit i && p (a - 2 ^ i))
def Mono (p : Nat → Bool) : Prop := ∀ a b : Nat, a ≤ 1023 → b ≤ 1023 → Sb a b → p a = true → p b = true
theorem rem_min {p : Nat → Bool} (hm : Mono p) {x y : Nat} (hx : x ≤ 1023) (hy : y ≤ 1023) (hr : remB p x = true) (hp : p y = true) (hs : Sb y x) : y = x := by
  by_cases hxy : Sb x y
  · exact hs.antisymm hxy
  · exfalso
    obtain ⟨i, hi, hiy⟩ : ∃ i, x.testBit i = true ∧ y.testBit i = false := by
      by_cases h : ∃ i, x.testBit i = true ∧ y.testBit i = false
      · exact h
      · exact absurd (fun i hi => by
          cases hy : y.testBit i with
          | true => rfl
          | false => exact absurd ⟨i, hi, hy⟩ h) hxy
    have h1 : p (x - 2 ^ i) = true := hm y (x - 2 ^ i) hy (clr_le hx) (fun j hj => by
      rw [clr_bit hx hi, hs j hj]
      have : j ≠ i := by intro e; subst e; rw [hiy] at hj; cases hj
      simp [this]) hp
    have h2 := List.all_eq_true.1 hr i (List.mem_range.2 (bit_lt10 hx hi))
    rw [hi, h1] at h2
    cases h2
theorem min_rem {p : Nat → Bool} {x : Nat} (hx : x ≤ 1023) (h : ∀ y : Nat, y ≤ 1023 → p y = true → Sb y x → y = x) : remB p x = true := by
  refine List.all_eq_true.2 fun i _ => ?_
  cases hi : x.testBit i with
  | false => rfl
  | true =>
    cases hp : p (x - 2 ^ i) with
    | false => rfl
    | true =>
      exfalso
      have e := h _ (clr_le hx) hp (fun j hj => by rw [clr_bit hx hi] at hj; simp at hj; exact hj.1)
      have := clr_bit hx hi i
      rw [e, hi] at this
      simp at this
/-- The least sets of those of which no node can go. -/
theorem least_rem {p : Nat → Bool} (hm : Mono p) : leastS (((List.range 1024).filter fun s => p s && remB p s).map Int.ofNat) = leastS ((ordN.filter p).map Int.ofNat) := by
  have hA : ∀ x : Int, x ∈ ((List.range 1024).filter fun s => p s && remB p s).map Int.ofNat ↔ ∃ a : Nat, x = a ∧ a ≤ 1023 ∧ p a = true ∧ remB p a = true := fun x => by
    rw [List.mem_map]
    constructor
    · rintro ⟨a, ha, rfl⟩
      rw [List.mem_filter, List.mem_range, Bool.and_eq_true] at ha
      exact ⟨a, rfl, by omega, ha.2.1, ha.2.2⟩
    · rintro ⟨a, rfl, ha, h1, h2⟩
      exact ⟨a, by rw [List.mem_filter, List.mem_range, Bool.and_eq_true]; exact ⟨by omega, h1, h2⟩, rfl⟩
  have hB : ∀ x : Int, x ∈ (ordN.filter p).map Int.ofNat ↔ ∃ a : Nat, x = a ∧ a ≤ 1023 ∧ p a = true := fun x => by
    rw [List.mem_map]
    constructor
    · rintro ⟨a, ha, rfl⟩
      rw [List.mem_filter] at ha
      obtain ⟨b, e, hb⟩ := validB_nat ((ordI_all _).1 (List.mem_map.2 ⟨a, ha.1, rfl⟩))
      have e' : a = b := by have : (a : Int) = b := e; omega
      exact ⟨a, rfl, by omega, ha.2⟩
    · rintro ⟨a, rfl, ha, h1⟩
      exact ⟨a, List.mem_filter.2 ⟨ordN_all a (by omega), h1⟩, rfl⟩
  refine leastS_ext fun x => ?_
  rw [mem_leastS, mem_leastS, hA, hB]
  constructor
  · rintro ⟨⟨a, rfl, ha, h1, h2⟩, hv, _⟩
    refine ⟨⟨a, rfl, ha, h1⟩, hv, fun y hy hyv hs => ?_⟩
    obtain ⟨b, rfl, hb, h3⟩ := (hB y).1 hy
    rw [rem_min hm ha hb h2 h3 ((subI_sb hb).1 hs)]
  · rintro ⟨⟨a, rfl, ha, h1⟩, hv, hmin⟩
    refine ⟨⟨a, rfl, ha, h1, min_rem ha fun y hy hp hs => ?_⟩, hv, fun y hy hyv hs => ?_⟩
    · have := hmin (y : Int) ((hB _).2 ⟨y, rfl, hy, hp⟩) (nat_validB hy) ((subI_sb hy).2 hs)
      omega
    · obtain ⟨b, rfl, hb, h3, _⟩ := (hA y).1 hy
      exact hmin (b : Int) ((hB _).2 ⟨b, rfl, hb, h3⟩) hyv hs
theorem sat_Mono (t : Tr) : Mono fun s => sat (s : Int) t := fun a b ha hb h hp => sat_mono ha hb h t hp
theorem blk_Mono (t : Tr) : Mono fun s => blkB (s : Int) t := fun a b ha hb h hp => by
  have hp : blkB (a : Int) t = true := hp
  show blkB (b : Int) t = true
  rw [blkB_nat ha] at hp
  rw [blkB_nat hb]
  cases hs : sat ((1023 - b : Nat) : Int) t with
  | false => rfl
  | true =>
    have hcc : Sb (1023 - b) (1023 - a) := fun i hi => by
      have h1 := compl_bit (n := 10) (a := b) (by omega) i
      have h2 := compl_bit (n := 10) (a := a) (by omega) i
      rw [show 2 ^ 10 - (b + 1) = 1023 - b by omega] at h1
      rw [show 2 ^ 10 - (a + 1) = 1023 - a by omega] at h2
      rw [h1] at hi
      rw [h2]
      simp only [Bool.and_eq_true] at hi ⊢
      refine ⟨hi.1, ?_⟩
      cases hab : a.testBit i with
      | false => rfl
      | true => rw [h i hab] at hi; simp at hi
    rw [sat_mono (by omega) (by omega) hcc t hs] at hp
    cases hp
/-- The sets in order ascend. -/
theorem ord_sorted : ∀ f s : Nat, goN 10 s f = true → (∀ x ∈ ordF f s, x = s ∨ cmpS (s : Int) (x : Int) < 0) ∧ (ordF f s).Pairwise fun (x y : Nat) => cmpS (x : Int) (y : Int) < 0
  | 0, s, _ => by simp [ordF]
  | f + 1, s, h => by
    simp only [goN, Bool.and_eq_true, beq_iff_eq] at h
    obtain ⟨⟨⟨_, _⟩, hc⟩, hg⟩ := h
    obtain ⟨h1, h2⟩ := ord_sorted f _ hg
    have hlt : cmpS (s : Int) ((nextR s 10).1 : Int) < 0 := by omega
    have hall : ∀ x ∈ ordF f (nextR s 10).1, cmpS (s : Int) (x : Int) < 0 := fun x hx => by
      rcases h1 x hx with e | e
      · rw [e]; exact hlt
      · rw [cmpS_ltQ] at *; omega
    refine ⟨fun x hx => ?_, ?_⟩
    · simp only [ordF, List.mem_cons] at hx
      rcases hx with e | e
      · exact .inl e
      · exact .inr (hall x e)
    · simp only [ordF, List.pairwise_cons]
      exact ⟨hall, h2⟩
/-- The best below n. -/
def fstC (p : Nat → Bool) : Nat → Option Nat
  | 0 => none
  | n + 1 => if p n then (match fstC p n with
      | none => some n
      | some b => if cmpS (n : Int) (b : Int) < 0 then some n else some b) else fstC p n
theorem fstC_none (p : Nat → Bool) : ∀ n, fstC p n = none → ∀ t, t < n → p t = false
  | 0, _, t, ht => by omega
  | n + 1, h, t, ht => by
    simp only [fstC] at h
    cases hp : p n with
    | true =>
      rw [hp] at h
      simp only [if_true] at h
      cases hf : fstC p n with
      | none => rw [hf] at h; cases h
      | some b =>
        rw [hf] at h
        simp only at h
        split at h <;> cases h
    | false =>
      rw [hp] at h
      simp only [Bool.false_eq_true, if_false] at h
      rcases Nat.lt_or_ge t n with hh | hh
      · exact fstC_none p n h t hh
      · obtain rfl : t = n := by omega
        exact hp
theorem fstC_some (p : Nat → Bool) : ∀ n b, fstC p n = some b → b < n ∧ p b = true ∧ ∀ t, t < n → p t = true → t = b ∨ cmpS (b : Int) (t : Int) < 0
  | 0, b, h => by simp [fstC] at h
  | n + 1, b, h => by
    simp only [fstC] at h
    cases hp : p n with
    | false =>
      rw [hp] at h
      simp only [Bool.false_eq_true, if_false] at h
      obtain ⟨h1, h2, h3⟩ := fstC_some p n b h
      refine ⟨by omega, h2, fun t ht hpt => ?_⟩
      rcases Nat.lt_or_ge t n with hh | hh
      · exact h3 t hh hpt
      · obtain rfl : t = n := by omega
        rw [hp] at hpt; cases hpt
    | true =>
      rw [hp] at h
      simp only [if_true] at h
      cases hf : fstC p n with
      | none =>
        rw [hf] at h
        simp only at h
        injection h with h
        subst h
        refine ⟨by omega, hp, fun t ht hpt => ?_⟩
        rcases Nat.lt_or_ge t n with hh | hh
        · rw [fstC_none p n hf t hh] at hpt; cases hpt
        · exact .inl (by omega)
      | some c =>
        rw [hf] at h
        simp only at h
        obtain ⟨h1, h2, h3⟩ := fstC_some p n c hf
        split at h
        · rename_i hlt
          injection h with h
          subst h
          refine ⟨by omega, hp, fun t ht hpt => ?_⟩
          rcases Nat.lt_or_ge t n with hh | hh
          · rcases h3 t hh hpt with e | e
            · rw [e]; exact .inr hlt
            · refine .inr ?_
              rw [cmpS_ltQ] at *; omega
          · exact .inl (by omega)
        · rename_i hlt
          injection h with h
          subst h
          refine ⟨by omega, h2, fun t ht hpt => ?_⟩
          rcases Nat.lt_or_ge t n with hh | hh
          · exact h3 t hh hpt
          · obtain rfl : t = n := by omega
            refine .inr ?_
            rw [cmpS_ltQ] at *
            omega
theorem fst_find (p : Nat → Bool) : fstC p 1024 = ordN.find? p := by
  have hs := (ord_sorted 1023 0 go10).2
  cases hf : fstC p 1024 with
  | none =>
    have h := fstC_none p 1024 hf
    refine (List.find?_eq_none.2 fun s hs => ?_).symm
    have : (s : Int) ∈ ordI := List.mem_map.2 ⟨s, hs, rfl⟩
    obtain ⟨a, e, ha⟩ := validB_nat ((ordI_all _).1 this)
    rw [h s (by omega)]; simp
  | some b =>
    obtain ⟨h1, h2, h3⟩ := fstC_some p 1024 b hf
    symm
    rw [List.find?_eq_some_iff_append]
    refine ⟨h2, ?_⟩
    obtain ⟨l1, l2, e⟩ := List.append_of_mem (ordN_all b h1)
    refine ⟨l1, l2, e, fun x hx => ?_⟩
    have hs' : (l1 ++ b :: l2).Pairwise fun (x y : Nat) => cmpS (x : Int) (y : Int) < 0 := e ▸ hs
    have hxb := (List.pairwise_append.1 hs').2.2 x hx b (by simp)
    cases hp : p x with
    | false => rfl
    | true =>
      exfalso
      have hx1 : x ∈ ordN := by rw [e]; simp [hx]
      obtain ⟨a, e', ha⟩ := validB_nat ((ordI_all _).1 (List.mem_map.2 ⟨x, hx1, rfl⟩))
      have e'' : x = a := by have : (x : Int) = a := e'; omega
      rcases h3 x (by omega) hp with e1 | e1
      · subst e1; rw [cmpS_ltQ] at hxb; omega
      · rw [cmpS_ltQ] at *; omega
end Go.Proofs.YtpdhckbiioobhaaGreat

/- Some texts of this claim, joined: contracts of the functions that it reaches, and plain laws. -/
import Derived.RangeFuncBox
import Derived.RangeFuncLeaves
import Derived.RangeFuncCalls
import Derived.Shelf.Abstract
import Derived.WalkKit
import Derived.OwnWalkIn
import Derived.TacticsInMore
import Derived.LoopNIn
import Derived.LoopIn
import Derived.Maps.AppendAt
import Derived.Test.YtpdhckbiioobhaaGreatProg
import Derived.Test.YtpdhckbiioobhaaGreatJS4
import Derived.Test.YtpdhckbiioobhaaGreatJS17
import Derived.Test.YtpdhckbiioobhaaGreatJS7

/- Walks: slices.inOrder and slices.least. -/
namespace Go.Proofs.YtpdhckbiioobhaaGreat
open Go.RowKit Go.Shelf

attribute [local go_sem] Oper.semAt_some

/-- The sets in order, from s on. -/
def ordF : Nat → Nat → List Nat
  | 0, s => [s]
  | f + 1, s => s :: ordF f (nextR s 10).1
def ordN : List Nat := ordF 1023 0
def ordI : List Int := ordN.map Int.ofNat
theorem ordF_len : ∀ f s, (ordF f s).length = f + 1
  | 0, _ => rfl
  | f + 1, s => by simp [ordF, ordF_len f]
theorem ordN_len : ordN.length = 1024 := ordF_len _ _
theorem go10 : goN 10 0 1023 = true := goN_all ⟨10, by omega⟩
theorem bit_fold : ∀ (l : List Nat) (a i : Nat), (l.foldl (fun a s => a ||| 2 ^ s) a).testBit i = true → a.testBit i = true ∨ i ∈ l
  | [], a, i, h => .inl h
  | s :: r, a, i, h => by
    rcases bit_fold r (a ||| 2 ^ s) i h with h | h
    · rw [Nat.testBit_or, Bool.or_eq_true] at h
      rcases h with h | h
      · exact .inl h
      · rw [Nat.testBit_two_pow] at h
        exact .inr (by simp at h; simp [h])
    · exact .inr (List.mem_cons_of_mem _ h)
def maskF : Nat → Nat → Nat → Nat
  | 0, s, a => a ||| 2 ^ s
  | f + 1, s, a => maskF f (nextR s 10).1 (a ||| 2 ^ s)
theorem maskF_eq : ∀ f s a, (ordF f s).foldl (fun a s => a ||| 2 ^ s) a = maskF f s a
  | 0, _, _ => rfl
  | f + 1, s, a => by simp only [ordF, List.foldl_cons, maskF]; exact maskF_eq f _ _
def n1024 : Nat := 1024
theorem mask_all : (maskF 1023 0 0 == 2 ^ n1024 - 1) = true := by kernel_rfl
theorem ord_lt : ∀ (f s : Nat), s < 1024 → goN 10 s f = true → ∀ x ∈ ordF f s, x < 1024
  | 0, s, hs, _, x, hx => by simp [ordF] at hx; omega
  | f + 1, s, hs, h, x, hx => by
    simp only [goN, Bool.and_eq_true, decide_eq_true_eq, beq_iff_eq] at h
    simp only [ordF, List.mem_cons] at hx
    rcases hx with rfl | hx
    · exact hs
    · exact ord_lt f _ (by have := h.1.1.2; omega) h.2 x hx
theorem ordN_all (i : Nat) (hi : i < 1024) : i ∈ ordN := by
  have h : (ordN.foldl (fun a s => a ||| 2 ^ s) 0).testBit i = true := by
    unfold ordN
    rw [maskF_eq, beq_iff_eq.1 mask_all, Nat.testBit_two_pow_sub_one, decide_eq_true_eq]
    exact hi
  rcases bit_fold _ _ _ h with h | h
  · simp at h
  · exact h
theorem ordI_all : AllS ordI := fun x => by
  unfold ordI
  rw [List.mem_map]
  constructor
  · rintro ⟨n, hn, rfl⟩
    have := ord_lt 1023 0 (by omega) go10 n hn
    exact nat_validB (by omega)
  · intro h
    obtain ⟨n, rfl, hn⟩ := validB_nat h
    exact ⟨n, ordN_all n (by omega), rfl⟩

/-- How many sets come behind s. -/
def aftN (s : Int) : Nat := ((List.range 1024).filter fun t : Nat => decide (cmpS s (t : Int) < 0)).length
theorem filter_lt {p q : Nat → Bool} : ∀ (l : List Nat), (∀ x ∈ l, p x = true → q x = true) → (∃ a ∈ l, q a = true ∧ p a = false) → (l.filter p).length < (l.filter q).length
  | [], _, h => by obtain ⟨a, h, _⟩ := h; cases h
  | x :: r, h, ⟨a, ha, h1, h2⟩ => by
    have hle : (r.filter p).length ≤ (r.filter q).length := by
      have hr : ∀ y ∈ r, p y = true → q y = true := fun y hy => h y (List.mem_cons_of_mem _ hy)
      clear h ha h1 h2
      induction r with
      | nil => simp
      | cons y s ih =>
        have h3 := hr y (by simp)
        have h4 := ih (fun z hz => hr z (List.mem_cons_of_mem _ hz))
        cases hp : p y
        · cases hq : q y <;> simp [List.filter_cons, hp, hq] <;> omega
        · simp [List.filter_cons, hp, h3 hp]; omega
    rcases List.mem_cons.1 ha with rfl | ha
    · simp [List.filter_cons, h1, h2]; omega
    · have ih := filter_lt r (fun y hy => h y (List.mem_cons_of_mem _ hy)) ⟨a, ha, h1, h2⟩
      have h3 := h x (by simp)
      cases hp : p x
      · cases hq : q x <;> simp [List.filter_cons, hp, hq] <;> omega
      · simp [List.filter_cons, hp, h3 hp]; omega
theorem aft_lt {s t : Nat} (ht : t < 1024) (h : cmpS (s : Int) (t : Int) = -1) : aftN (t : Int) < aftN (s : Int) := by
  refine filter_lt _ (fun x _ hx => ?_) ⟨t, by simpa using ht, ?_, ?_⟩
  · simp only [decide_eq_true_eq, cmpS_ltQ] at *
    have h2 : cmpS (s : Int) (t : Int) < 0 := by omega
    rw [cmpS_ltQ] at h2
    omega
  · simp [h]
  · simp only [decide_eq_false_iff_not, cmpS_ltQ]; omega
/-- What is still to come, read off the loop's variables. -/
def leftV (a b : Value) : Nat := match b with
  | .bool true => aftN (intOf a) + 1
  | _ => 0

abbrev S10 := { s : Nat // s < 1024 }
set_option maxRecDepth 100000 in
set_option maxHeartbeats 1000000 in
theorem inOrder_stops (w : World) : SeqStops Fence.wide 2 Tryz.prog 70 #[] (fun s : S10 => Value.int .i64 (s.1 : Int)) (fun xs => xs.map (·.1) = ordN) (fun pre => pre.map (·.1) <+: ordN) 1024 w := fun l J Jx W _ _ _ hY h0 => by
  refine callsIn_of_wp Tryz.func70 rfl trivial ?_ rfl
  simp only [Tryz.ntmps70, List.size_toArray, List.length_cons, List.length_nil, Nat.reduceAdd, Nat.reduceSub, Array.replicate_succ, Array.replicate_zero, List.push_toArray, List.append_toArray, List.nil_append, List.cons_append]
  have HG := Lib.hid go10
  gi_wp2
  gi_loopw [2, 3] (fun s ok wr => ∃ (pre : List S10), J pre wr ∧ ((∃ (f t : Nat), s = .int .i64 (t : Int) ∧ ok = .bool true ∧ ordN = pre.map (·.1) ++ ordF f t ∧ t < 1024 ∧ Hid (goN 10 t f = true)) ∨ (∃ t : Int, s = .int .i64 t ∧ ok = .bool false ∧ pre.map (·.1) = ordN)))
    (fun s ok _ => leftV s ok)
  case atStart => exact ⟨[], h0, .inl ⟨1023, 0, rfl, rfl, rfl, by omega, HG⟩⟩
  case round =>
    obtain ⟨pre, hJ, ⟨f, t, rfl, rfl, hx, ht, HT⟩ | ⟨t, rfl, rfl, hx⟩⟩ := hrel
    · have hlen : pre.length < 1024 := by
        have := congrArg List.length hx
        rw [ordN_len, List.length_append, ordF_len, List.length_map] at this
        omega
      obtain ⟨fn, tmps, assign, body, hy, hR⟩ := hY pre ⟨t, ht⟩ wr hJ hlen
      have HX := Lib.hid hx
      have HTT := Lib.hid ht
      clear hx
      gi_wp2
      refine hR.mono ?_
      rintro e W3 (⟨rfl, hJ3, _⟩ | ⟨rfl, hJx3⟩)
      · cases f with
        | zero =>
          have hg := HT.out
          simp only [goN, Bool.and_eq_true, beq_iff_eq] at hg
          obtain ⟨x, hx⟩ : ∃ x, x = nextR t 10 := ⟨_, rfl⟩
          rw [← hx] at hg
          obtain ⟨x, y⟩ := x
          simp only at hg
          obtain ⟨rfl, hg2⟩ := hg
          clear hg2
          have HX2 := Lib.hid hx.symm
          clear hx
          gi_wp2_with (refine ⟨trivial, ?_⟩; gi_at_call 99; refine (callsIn_wide.2 (next_any t 10 (by omega) (by omega) _)).mono ?_; rintro e w' ⟨rfl, rfl⟩; rw [HX2.out])
          go_roundw
          case rel => exact ⟨pre ++ [⟨t, HTT.out⟩], hJ3, .inr ⟨x, rfl, rfl, by rw [HX.out, List.map_append]; rfl⟩⟩
          case measure => simp [leftV]
        | succ f =>
          have hg := HT.out
          simp only [goN, Bool.and_eq_true, beq_iff_eq, decide_eq_true_eq] at hg
          obtain ⟨x, hx⟩ : ∃ x, x = nextR t 10 := ⟨_, rfl⟩
          have hxo : ordF (f + 1) t = t :: ordF f x.1 := by rw [hx]; rfl
          rw [← hx] at hg
          obtain ⟨x, y⟩ := x
          simp only at hg hxo
          obtain ⟨⟨⟨rfl, g2⟩, g3⟩, g4⟩ := hg
          have HX2 := Lib.hid hx.symm
          have HXO := Lib.hid hxo
          have G3 := Lib.hid g3
          have G4 := Lib.hid g4
          have g2' : x < 1024 := by omega
          clear hx hxo g3 g4 g2
          gi_wp2_with (refine ⟨trivial, ?_⟩; gi_at_call 99; refine (callsIn_wide.2 (next_any t 10 (by omega) (by omega) _)).mono ?_; rintro e w' ⟨rfl, rfl⟩; rw [HX2.out])
          go_roundw
          case rel => exact ⟨pre ++ [⟨t, HTT.out⟩], hJ3, .inl ⟨f, x, rfl, rfl, by rw [HX.out, HXO.out]; simp, g2', G4⟩⟩
          case measure => simpa [leftV, intOf] using aft_lt g2' G3.out
      · gi_wp2
        refine bodyPost_ret (results_none rfl _ _ _) rfl ?_
        refine ⟨⟨_, rfl⟩, .inr ⟨pre ++ [⟨t, HTT.out⟩], ?_, hJx3⟩⟩
        rw [HX.out, List.map_append]
        cases f with
        | zero => exact List.prefix_refl _
        | succ f => exact ⟨ordF f (nextR t 10).1, by simp [ordF]⟩
    · have HX := Lib.hid hx
      clear hx
      gi_wp2
      go_end0
      exact ⟨⟨_, rfl⟩, .inl ⟨pre, HX.out, hJ⟩⟩
end Go.Proofs.YtpdhckbiioobhaaGreat

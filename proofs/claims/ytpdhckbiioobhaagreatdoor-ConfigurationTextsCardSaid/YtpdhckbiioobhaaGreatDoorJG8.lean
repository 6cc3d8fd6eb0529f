/- Some texts of this claim, joined: contracts of the functions that it reaches, and plain laws. -/
import Derived.Test.YtpdhckbiioobhaaGreatDoorProg
import Derived.Test.YtpdhckbiioobhaaGreatDoorJG9
import Derived.Test.YtpdhckbiioobhaaGreatDoorJG3
import Derived.Test.YtpdhckbiioobhaaGreatDoorJG4
import Derived.Test.YtpdhckbiioobhaaGreatDoorJG1

set_option linter.unusedSimpArgs false
set_option linter.unusedVariables false
/- Walks: nodeset.below at every n, OnesCount at a set, Size, rank, cmp.Compare, cmp.Or, Compare; the reference's Size, Compare. -/
namespace Go.Proofs.YtpdhckbiioobhaaGreatDoor
open Go.RowKit

/-- The number of bits below k. -/
def popB (m : Nat) : Nat → Nat
  | 0 => 0
  | k + 1 => popB m k + (if m.testBit k then 1 else 0)
theorem popB_le (m : Nat) : ∀ k, popB m k ≤ k
  | 0 => by simp [popB]
  | k + 1 => by have := popB_le m k; simp only [popB]; split <;> omega
/-- The number of nodes of a set; 0 at what is none. -/
def sizS (s : Int) : Nat := if validB s then popB s.toNat 10 else 0
theorem sizS_le (s : Int) : sizS s ≤ 10 := by
  unfold sizS; split
  · exact popB_le _ _
  · omega
/-- s is a set of nodes below n. -/
def belB (s n : Int) : Bool := decide (0 ≤ s ∧ s < 2 ^ n.toNat)
def rankI (s : Int) : Int := if validB s then sizS s else -1
def cmpI (a b : Int) : Int := if a < b then -1 else if b < a then 1 else 0
/-- The order of sets. -/
def cmpS (a b : Int) : Int := if cmpI (rankI a) (rankI b) = 0 then cmpI a b else cmpI (rankI a) (rankI b)

theorem below_any (s : Int) (n : Nat) (hn : n ≤ 10) (w : World) : Calls Tryz.prog 204 #[.int .i64 s, .int .i64 n] w fun e w' => e = .returned (.bool (belB s n)) ∧ w = w' := by
  go_enter Tryz.func204, Tryz.ntmps204
  go_wp2
  all_goals
    go_ret
    refine ⟨ret_bool ?_, rfl⟩
    try rw [wrap_pow n (by omega)]
    simp only [belB, Int.toNat_natCast]
    try simp [*]
    try omega

def c1 (x : Int) : Int := IntKind.u64.wrap (bits .and .u64 (x / 2) 6148914691236517205 + bits .and .u64 x 6148914691236517205)
def c2 (x : Int) : Int := IntKind.u64.wrap (bits .and .u64 (x / 4) 3689348814741910323 + bits .and .u64 x 3689348814741910323)
def c3 (x : Int) : Int := bits .and .u64 (IntKind.u64.wrap (x / 16 + x)) 1085102592571150095
def c4 (x : Int) : Int := IntKind.u64.wrap (x + x / 256)
def c5 (x : Int) : Int := IntKind.u64.wrap (x + x / 65536)
def c6 (x : Int) : Int := IntKind.u64.wrap (x + x / 4294967296)
theorem pop64 : ∀ m : Fin 1024, bits .and .i64 (wrap64 (c6 (c5 (c4 (c3 (c2 (c1 (m.val : Int)))))))) 127 = (popB m.val 10 : Int) := by decide +kernel

theorem isNaN_any (a : Int) (w : World) : Calls Tryz.prog 140 #[.int .i64 a] w fun e w' => e = .returned (.bool false) ∧ w = w' := by
  go_enter Tryz.func140, Tryz.ntmps140
  go_wp2_with fail
  go_ret
  exact ⟨ret_bool (by simp), rfl⟩
theorem cmpCompare_any (a b : Int) (w : World) : Calls Tryz.prog 91 #[.int .i64 a, .int .i64 b] w fun e w' => e = .returned (.int .i64 (cmpI a b)) ∧ w = w' := by
  rcases Int.lt_trichotomy a b with h | h | h
  · have e1 : cmpI a b = -1 := by simp [cmpI, h]
    have E := Lib.hid e1
    clear e1
    go_enter Tryz.func91, Tryz.ntmps91
    go_wp2_with (go_at_call 140; refine (isNaN_any _ _).mono ?_; rintro e w' ⟨rfl, rfl⟩)
    all_goals (go_ret; exact ⟨ret_int (by rw [E.out]), rfl⟩)
  · subst h
    have e1 : cmpI a a = 0 := by simp [cmpI]
    have E := Lib.hid e1
    clear e1
    go_enter Tryz.func91, Tryz.ntmps91
    go_wp2_with (go_at_call 140; refine (isNaN_any _ _).mono ?_; rintro e w' ⟨rfl, rfl⟩)
    all_goals (go_ret; exact ⟨ret_int (by rw [E.out]), rfl⟩)
  · have e1 : cmpI a b = 1 := by simp [cmpI, h]; omega
    have h2 : ¬ a < b := by omega
    have E := Lib.hid e1
    clear e1
    go_enter Tryz.func91, Tryz.ntmps91
    go_wp2_with (go_at_call 140; refine (isNaN_any _ _).mono ?_; rintro e w' ⟨rfl, rfl⟩)
    all_goals (go_ret; exact ⟨ret_int (by rw [E.out]), rfl⟩)

end Go.Proofs.YtpdhckbiioobhaaGreatDoor

/- Walks: cmp.Or, nodeset.Compare, Next; the reference's Size, Compare. -/
namespace Go.Proofs.YtpdhckbiioobhaaGreatDoor
open Go.RowKit

/-- The first that is not 0, or 0. -/
def orL : List Int → Int
  | [] => 0
  | x :: r => if x = 0 then orL r else x
theorem orL_skip : ∀ (l : List Int) (k : Nat), (∀ j (hj : j < l.length), j < k → l[j] = 0) → orL l = orL (l.drop k)
  | l, 0, _ => by simp
  | [], k + 1, _ => by simp
  | x :: r, k + 1, h => by
    have h0 := h 0 (by simp) (by omega)
    simp only [List.getElem_cons_zero] at h0
    simp only [orL, h0, List.drop_succ_cons]
    exact orL_skip r k fun j hj hk => by
      have := h (j + 1) (by simpa using hj) (by omega)
      simpa only [List.getElem_cons_succ] using this

set_option maxRecDepth 100000 in
theorem or_any (l : List Int) (v : Value) (w : World) (r : Option Nat) (h : SlI w r v l) : Calls Tryz.prog 90 #[v] w fun e w' => e = .returned (.int .i64 (orL l)) ∧ w = w' := by
  have hwi := h.2
  obtain ⟨A, c, rfl, q1, q2, hc⟩ := h.open_
  go_enter Tryz.func90, Tryz.ntmps90
  go_wp2_with fail
  go_loop [8] (fun i => ∃ k : Nat, k ≤ l.length ∧ i = .int .i64 k ∧ ∀ j (hj : j < l.length), j < k → l[j] = 0) (fun i => l.length - (intOf i).toNat)
  case atStart => exact ⟨0, Nat.zero_le _, rfl, fun j hj h => by omega⟩
  case round =>
    obtain ⟨k, hk, rfl, hno⟩ := hrel
    have HN := Lib.hid hno
    clear hno
    by_cases hlt : k < l.length
    · obtain ⟨b, off, rfl, hb, hbr, hcc⟩ := hc (by omega)
      have hck := hcc k hlt
      clear hcc hc
      by_cases hp : l[k] = 0
      · have HP := Lib.hid hp
        go_wp2_with fail
        go_round
        case rel => exact ⟨k + 1, by omega, by go_num, fun j hj h => by
          by_cases e : j = k
          · subst e; exact HP.out
          · exact HN.out j hj (by omega)⟩
        case measure => simp [intOf]; omega
      · have e1 : orL l = l[k] := by
          rw [orL_skip l k HN.out, List.drop_eq_getElem_cons hlt]
          simp [orL, hp]
        have E := Lib.hid e1
        clear e1
        go_wp2_with fail
        go_ret
        exact ⟨ret_int (by rw [E.out]), rfl⟩
    · obtain rfl : k = l.length := by omega
      have e1 : orL l = 0 := by
        rw [orL_skip l l.length HN.out, List.drop_length]
        rfl
      have E := Lib.hid e1
      clear e1
      go_wp2_with fail
      go_ret
      exact ⟨ret_int (by rw [E.out]), rfl⟩

theorem cmpI_wi (a b : Int) : Wi (cmpI a b) := by
  unfold cmpI Wi
  split
  · omega
  · split <;> omega
theorem cmpS_or (a b : Int) : orL [cmpI (rankI a) (rankI b), cmpI a b] = cmpS a b := by
  unfold cmpS
  simp only [orL]
  by_cases h : cmpI (rankI a) (rankI b) = 0
  · simp only [h, if_true]
    by_cases h2 : cmpI a b = 0 <;> simp [h2]
  · simp only [h, if_false]

/-- The first from t on, among f, of size z. -/
def srch (z : Nat) (t : Nat) : Nat → Option Nat
  | 0 => none
  | f + 1 => if sizS (t : Int) = z then some t else srch z (t + 1) f
def nextR (s n : Nat) : Nat × Bool :=
  match srch (sizS (s : Int)) (s + 1) (2 ^ n - (s + 1)) with
  | some t => (t, true)
  | none => if sizS (s : Int) = n then (0, false) else (2 ^ (sizS (s : Int) + 1) - 1, true)
theorem p10 (n : Nat) (hn : n ≤ 10) : 2 ^ n ≤ 1024 := by
  have := Nat.pow_le_pow_right (n := 2) (by omega) hn
  simpa using this
theorem belB_nat (s n : Nat) : belB (s : Int) n = decide (s < 2 ^ n) := by
  simp only [belB, Int.toNat_natCast]
  have e : ((2 : Int) ^ n) = ((2 ^ n : Nat) : Int) := by simp
  rw [decide_eq_decide, e]
  omega

/-- The reference's Size. -/
def popI (s : Int) (k : Nat) : Nat := popB s.toNat k
theorem shr_bit (m j : Nat) (hm : m < 9223372036854775808) : bits .and .i64 ((m : Int) / 2 ^ j) 1 = ((if m.testBit j then 1 else 0 : Nat) : Int) := by
  have e : ((m : Int) / 2 ^ j) = ((m / 2 ^ j : Nat) : Int) := by simp
  have hd : m / 2 ^ j ≤ m := Nat.div_le_self _ _
  rw [e]
  have h1 := and_i64 (m / 2 ^ j) 1 (by omega) (by omega)
  have h2 : ((1 : Nat) : Int) = 1 := rfl
  rw [h2] at h1
  rw [h1, Nat.testBit_eq_decide_div_mod_eq, Nat.and_one_is_mod]
  generalize m / 2 ^ j = x
  rcases Nat.mod_two_eq_zero_or_one x with h | h <;> simp [h]



end Go.Proofs.YtpdhckbiioobhaaGreatDoor

/- The least sets, plain. -/
namespace Go.Proofs.YtpdhckbiioobhaaGreatDoor
open Go.RowKit

/-- t &^ s == 0. -/
def subI (t s : Int) : Bool := bits .andNot .i64 t s == 0
/-- s & t == 0. -/
def disI (s t : Int) : Bool := bits .and .i64 s t == 0
def leastGo (out : List Int) : List Int → List Int
  | [] => out
  | s :: r => leastGo (if out.any (fun t => subI t s) then out else out ++ [s]) r
def sortS (l : List Int) : List Int := l.mergeSort fun x y => !decide (cmpS y x < 0)
def leastS (l : List Int) : List Int := leastGo [] (sortS (l.filter validB))
def meetS (l : List Int) (n : Nat) : List Int := leastS ((ints (2 ^ n)).filter fun s => !(leastS l).any (disI s))

theorem leastGo_snoc (out : List Int) : ∀ (l : List Int) (s : Int), leastGo out (l ++ [s]) = (if (leastGo out l).any (fun t => subI t s) then leastGo out l else leastGo out l ++ [s])
  | [], s => rfl
  | x :: r, s => leastGo_snoc _ r s
theorem leastGo_len : ∀ (l out : List Int), (leastGo out l).length ≤ out.length + l.length
  | [], out => by simp [leastGo]
  | x :: r, out => by
    simp only [leastGo, List.length_cons]
    split
    · have := leastGo_len r out; omega
    · have := leastGo_len r (out ++ [x])
      simp only [List.length_append, List.length_cons, List.length_nil] at this
      omega
theorem leastGo_mem : ∀ (l out : List Int) (x : Int), x ∈ leastGo out l → x ∈ out ∨ x ∈ l
  | [], out, x, h => .inl h
  | y :: r, out, x, h => by
    rcases leastGo_mem r _ x h with h | h
    · split at h
      · exact .inl h
      · rcases List.mem_append.1 h with h | h
        · exact .inl h
        · exact .inr (by simp at h; simp [h])
    · exact .inr (List.mem_cons_of_mem _ h)
theorem sortS_mem (l : List Int) (x : Int) : x ∈ sortS l ↔ x ∈ l := (List.mergeSort_perm l _).mem_iff
theorem sortS_len (l : List Int) : (sortS l).length = l.length := (List.mergeSort_perm l _).length_eq
theorem leastS_mem {l : List Int} {x : Int} (h : x ∈ leastS l) : x ∈ l ∧ validB x = true := by
  rcases leastGo_mem _ _ x h with h | h
  · cases h
  · rw [sortS_mem] at h
    exact List.mem_filter.1 h
theorem leastS_len (l : List Int) : (leastS l).length ≤ l.length := by
  have h1 := leastGo_len (sortS (l.filter validB)) []
  rw [sortS_len] at h1
  have h2 := List.length_filter_le validB l
  simp only [List.length_nil] at h1
  unfold leastS
  omega
theorem valid_wi {x : Int} (h : validB x = true) : Wi x := by
  simp only [validB, decide_eq_true_eq] at h
  unfold Wi
  omega
end Go.Proofs.YtpdhckbiioobhaaGreatDoor

/- Walks: threshold.Uses of the program and of the reference. -/
namespace Go.Proofs.YtpdhckbiioobhaaGreatDoor
open Go.RowKit

def usesStep (s : Nat) (x : Int) : Nat := if 0 ≤ x ∧ x < 10 then s ||| 2 ^ x.toNat else s
def usesN (l : List Int) : Nat := l.foldl usesStep 0
mutual
def usesT : Tr → Nat
  | .mk _ n i => usesN n ||| usesTL i
def usesTL : List Tr → Nat
  | [] => 0
  | x :: r => usesT x ||| usesTL r
end
theorem usesStep_lt {s : Nat} (x : Int) (h : s < 1024) : usesStep s x < 1024 := by
  unfold usesStep
  split
  · rename_i hx
    refine Nat.or_lt_two_pow (n := 10) h ?_
    exact Nat.pow_lt_pow_right (by omega) (by omega)
  · exact h
theorem usesF_lt : ∀ (l : List Int) (s : Nat), s < 1024 → l.foldl usesStep s < 1024
  | [], s, h => h
  | x :: r, s, h => usesF_lt r _ (usesStep_lt x h)
theorem usesN_lt (l : List Int) : usesN l < 1024 := usesF_lt l 0 (by omega)
mutual
theorem usesT_lt : ∀ t, usesT t < 1024
  | .mk _ n i => by
    simp only [usesT]
    exact Nat.or_lt_two_pow (n := 10) (usesN_lt n) (usesTL_lt i)
theorem usesTL_lt : ∀ l, usesTL l < 1024
  | [] => by simp [usesTL]
  | x :: r => by
    simp only [usesTL]
    exact Nat.or_lt_two_pow (n := 10) (usesT_lt x) (usesTL_lt r)
end
theorem usesTL_app : ∀ a b, usesTL (a ++ b) = usesTL a ||| usesTL b
  | [], b => by simp [usesTL]
  | x :: r, b => by simp only [List.cons_append, usesTL, usesTL_app r b, Nat.or_assoc]
theorem usesTL_take (l : List Tr) (k : Nat) (hk : k < l.length) : usesTL (l.take (k + 1)) = usesTL (l.take k) ||| usesT l[k] := by
  rw [List.take_succ_eq_append_getElem hk, usesTL_app]
  simp [usesTL]
/-- All nodes below n: a mask below 2 to the n. -/
theorem usesF_lo {n : Nat} : ∀ (l : List Int) (s : Nat), (∀ x ∈ l, 0 ≤ x ∧ x < (n : Int)) → s < 2 ^ n → l.foldl usesStep s < 2 ^ n
  | [], s, _, h => h
  | x :: r, s, hl, h => by
    refine usesF_lo r _ (fun y hy => hl y (by simp [hy])) ?_
    have hx := hl x (by simp)
    unfold usesStep
    split
    · exact Nat.or_lt_two_pow h (Nat.pow_lt_pow_right (by omega) (by omega))
    · exact h
mutual
theorem usesT_lo {n : Nat} : ∀ t, nodesIn n t → usesT t < 2 ^ n
  | .mk _ l i, h => by
    simp only [nodesIn] at h
    simp only [usesT]
    exact Nat.or_lt_two_pow (usesF_lo l 0 h.1 (Nat.two_pow_pos n)) (usesTL_lo i h.2)
theorem usesTL_lo {n : Nat} : ∀ l, nodesInL n l → usesTL l < 2 ^ n
  | [], _ => by simp only [usesTL]; exact Nat.two_pow_pos n
  | x :: r, h => by
    simp only [nodesInL] at h
    simp only [usesTL]
    exact Nat.or_lt_two_pow (usesT_lo x h.1) (usesTL_lo r h.2)
end

set_option maxRecDepth 100000 in
set_option maxHeartbeats 2000000 in
theorem tuses_any (d : Nat) : ∀ (t : Tr) (v : Value) (w : World) (r : Option Nat), t.dep ≤ d → TrR w r v t →
    Calls Tryz.prog 129 #[v] w fun e w' => e = .returned (.int .i64 (usesT t : Nat)) ∧ Fr none w w' := by
  induction d with
  | zero =>
    intro t v w r hd
    cases t
    simp [Tr.dep] at hd
  | succ d ih =>
    intro t v w r hd h
    obtain ⟨thr, nodes, inner⟩ := t
    obtain ⟨A, c, A', c', rfl, hthr, hn, hn2, hi2, hi3, hi4, hcell⟩ := h.open_
    go_enter Tryz.func129, Tryz.ntmps129
    go_wp2_with fail
    generalize hW : w.alloc _ = w1
    have F1 : Fr none w w1 := hW ▸ (Fr.refl _ _).alloc _
    have b1 : TB w1 w.heap.size (.int .i64 thr) (.slice A nodes.length c) (.slice A' inner.length c') := by rw [← hW]; exact blk_new _ _
    clear hW
    have R1 := b1.cell
    have l1 := blk_lt b1
    have hn1 := hn.fr (F1.mono (r := r))
    go_loopw [3, 5, 11] (fun s3 _ i wr => wr = w1 ∧ ∃ j : Nat, j ≤ nodes.length ∧ i = .int .i64 (j : Int) ∧ s3 = .int .i64 ((usesN (nodes.take j) : Nat) : Int)) (fun _ _ i _ => nodes.length - (intOf i).toNat)
    case atStart => exact ⟨rfl, 0, Nat.zero_le _, rfl, by simp [usesN]⟩
    case round =>
      obtain ⟨rfl, j, hj, rfl, rfl⟩ := hrel
      by_cases hlt : j < nodes.length
      · obtain ⟨b, off, rfl, hb, hcj⟩ := hn1.1.cellI j hlt
        have HT : Hid (usesN (nodes.take (j + 1)) = usesStep (usesN (nodes.take j)) nodes[j]) := by
          unfold Hid; rw [List.take_succ_eq_append_getElem hlt]; unfold usesN; rw [List.foldl_append]; rfl
        have hub := usesN_lt (nodes.take j)
        generalize nodes[j] = x at *
        generalize usesN (nodes.take j) = u at *
        by_cases hx : 0 ≤ x ∧ x < 10
        · obtain ⟨k, rfl⟩ := Int.eq_ofNat_of_zero_le hx.1
          have hk10 : k < 10 := by omega
          have hdx : decide (0 ≤ (k : Int) ∧ (k : Int) < 10) = true := decide_eq_true hx
          have hp := pow2_lt k (by omega)
          have hw2 : wrap64 (2 ^ k) = ((2 ^ k : Nat) : Int) := wrap_pow k (by omega)
          have hbits : bits .or .i64 (u : Int) (wrap64 (2 ^ k)) = ((u ||| 2 ^ k : Nat) : Int) := by
            rw [hw2]; exact or_i64 _ _ (Nat.lt_trans hub (by decide)) (Nat.lt_trans hp (by decide))
          have HK : Hid (usesStep u (k : Int) = u ||| 2 ^ k) := by unfold Hid usesStep; rw [if_pos hx, Int.toNat_natCast]
          have HDX := Lib.hid hdx
          clear hw2 hdx hp
          have hxa := hx.1
          have hxb := hx.2
          go_wp2_with (go_at_call 174; refine (node_any _ _).mono ?_; rintro e w' ⟨rfl, rfl⟩; rw [HDX.out])
          go_roundw
          case rel => exact ⟨trivial, j + 1, by omega, by go_num, by rw [HT.out, HK.out]⟩
          case measure => simp [intOf]; omega
        · have hdx : decide (0 ≤ x ∧ x < 10) = false := decide_eq_false hx
          have HK : Hid (usesStep u x = u) := by unfold Hid usesStep; rw [if_neg hx]
          have HDX := Lib.hid hdx
          clear hdx
          go_wp2_with (go_at_call 174; refine (node_any _ _).mono ?_; rintro e w' ⟨rfl, rfl⟩; rw [HDX.out])
          all_goals
            go_roundw
            case rel => exact ⟨trivial, j + 1, by omega, by go_num, by rw [HT.out, HK.out]⟩
            case measure => simp [intOf]; omega
      · obtain rfl : j = nodes.length := by omega
        rw [List.take_length]
        have hub := usesN_lt nodes
        generalize hU : usesN nodes = U at *
        have HU := Lib.hid hU
        clear hU hn1
        go_wp2_with fail
        obtain ⟨wo, hwo⟩ : ∃ wo : World, wo = wr := ⟨_, rfl⟩
        go_loopw [3, 25] (fun s3 i wr' => Fr none wo wr' ∧ ∃ k : Nat, k ≤ inner.length ∧ i = .int .i64 (k : Int) ∧ s3 = .int .i64 ((U ||| usesTL (inner.take k) : Nat) : Int)) (fun _ i _ => inner.length - (intOf i).toNat)
        case atStart => exact ⟨by rw [hwo]; exact Fr.refl _ _, 0, Nat.zero_le _, rfl, by simp [usesTL]⟩
        case round =>
          subst hwo
          clear R1 l1
          obtain ⟨F2, k, hk, rfl, rfl⟩ := hrel
          by_cases hlt : k < inner.length
          · have htk := usesTL_take inner k hlt
            have HT := Lib.hid htk
            have hub2 := usesTL_lt (inner.take k)
            have hui := usesT_lt inner[k]
            obtain ⟨b, off, rfl, hb, hbr, hc⟩ := hcell (by omega)
            obtain ⟨x, y, z, g0, g1, g2, gt⟩ := hc k hlt
            obtain ⟨th, A1, n1, c1, A2, n2, c2, rfl, rfl, rfl⟩ := gt.shape
            have F3 := F1.pure F2
            have g0' := F3.keep g0 (by simp)
            have g1' := F3.keep g1 (by simp)
            have g2' := F3.keep g2 (by simp)
            have hdd : (inner[k]).dep ≤ d := by have := depL_get inner k hlt; simp only [Tr.dep] at hd; omega
            have gt' := (gt.fr (F3.mono (r := r)))
            obtain ⟨Y, hY⟩ : ∃ Y, usesT inner[k] = Y := ⟨_, rfl⟩
            rw [hY] at HT hui
            have HY := Lib.hid hY
            have hx2 : U ||| usesTL (inner.take k) < 1024 := Nat.or_lt_two_pow (n := 10) (by omega) (by omega)
            generalize hZ : U ||| usesTL (inner.take k) = Z at *
            have HZ := Lib.hid hZ
            have hbits : bits .or .i64 (Z : Int) (Y : Int) = ((Z ||| Y : Nat) : Int) := or_i64 _ _ (Nat.lt_trans hx2 (by decide)) (Nat.lt_trans hui (by decide))
            clear g0 g1 g2 htk hY hZ
            go_wp2_with fail
            refine (ih inner[k] _ _ r hdd (gt'.fr ((Fr.refl _ _).alloc _))).mono ?_
            rintro e w2 ⟨rfl, F4⟩
            rw [HY.out]
            have F5 := (F2.alloc _).pure F4
            clear g0' g1' g2' F4
            go_wp2_with fail
            go_roundw
            case rel => exact ⟨F5, k + 1, by omega, by go_num, by rw [HT.out, ← HZ.out, Nat.or_assoc]⟩
            case measure => simp [intOf]; omega
          · obtain rfl : k = inner.length := by omega
            go_wp2_with fail
            go_ret
            exact ⟨ret_int (by rw [List.take_length, ← HU.out]; simp only [usesT]), F1.pure F2⟩
set_option maxRecDepth 100000 in
set_option maxHeartbeats 2000000 in
theorem ruses_any (d : Nat) : ∀ (t : Tr) (v : Value) (w : World) (r : Option Nat), t.dep ≤ d → TrR w r v t →
    Calls Tryz.prog 122 #[v] w fun e w' => e = .returned (.int .i64 (usesT t : Nat)) ∧ Fr none w w' := by
  induction d with
  | zero =>
    intro t v w r hd
    cases t
    simp [Tr.dep] at hd
  | succ d ih =>
    intro t v w r hd h
    obtain ⟨thr, nodes, inner⟩ := t
    obtain ⟨A, c, A', c', rfl, hthr, hn, hn2, hi2, hi3, hi4, hcell⟩ := h.open_
    go_enter Tryz.func122, Tryz.ntmps122
    go_wp2_with fail
    generalize hW : w.alloc _ = w1
    have F1 : Fr none w w1 := hW ▸ (Fr.refl _ _).alloc _
    have b1 : TB w1 w.heap.size (.int .i64 thr) (.slice A nodes.length c) (.slice A' inner.length c') := by rw [← hW]; exact blk_new _ _
    clear hW
    have R1 := b1.cell
    have l1 := blk_lt b1
    have hn1 := hn.fr (F1.mono (r := r))
    go_loopw [3, 5, 11] (fun s3 _ i wr => wr = w1 ∧ ∃ j : Nat, j ≤ nodes.length ∧ i = .int .i64 (j : Int) ∧ s3 = .int .i64 ((usesN (nodes.take j) : Nat) : Int)) (fun _ _ i _ => nodes.length - (intOf i).toNat)
    case atStart => exact ⟨rfl, 0, Nat.zero_le _, rfl, by simp [usesN]⟩
    case round =>
      obtain ⟨rfl, j, hj, rfl, rfl⟩ := hrel
      by_cases hlt : j < nodes.length
      · obtain ⟨b, off, rfl, hb, hcj⟩ := hn1.1.cellI j hlt
        have HT : Hid (usesN (nodes.take (j + 1)) = usesStep (usesN (nodes.take j)) nodes[j]) := by
          unfold Hid; rw [List.take_succ_eq_append_getElem hlt]; unfold usesN; rw [List.foldl_append]; rfl
        have hub := usesN_lt (nodes.take j)
        generalize nodes[j] = x at *
        generalize usesN (nodes.take j) = u at *
        by_cases hx : 0 ≤ x ∧ x < 10
        · obtain ⟨k, rfl⟩ := Int.eq_ofNat_of_zero_le hx.1
          have hk10 : k < 10 := by omega
          have hdx : decide (0 ≤ (k : Int) ∧ (k : Int) < 10) = true := decide_eq_true hx
          have hp := pow2_lt k (by omega)
          have hw2 : wrap64 (2 ^ k) = ((2 ^ k : Nat) : Int) := wrap_pow k (by omega)
          have hbits : bits .or .i64 (u : Int) (wrap64 (2 ^ k)) = ((u ||| 2 ^ k : Nat) : Int) := by
            rw [hw2]; exact or_i64 _ _ (Nat.lt_trans hub (by decide)) (Nat.lt_trans hp (by decide))
          have HK : Hid (usesStep u (k : Int) = u ||| 2 ^ k) := by unfold Hid usesStep; rw [if_pos hx, Int.toNat_natCast]
          have HDX := Lib.hid hdx
          clear hw2 hdx hp
          have hxa := hx.1
          have hxb := hx.2
          go_wp2_with (fail)
          go_roundw
          case rel => exact ⟨trivial, j + 1, by omega, by go_num, by rw [HT.out, HK.out]⟩
          case measure => simp [intOf]; omega
        · have hdx : decide (0 ≤ x ∧ x < 10) = false := decide_eq_false hx
          have HK : Hid (usesStep u x = u) := by unfold Hid usesStep; rw [if_neg hx]
          have HDX := Lib.hid hdx
          clear hdx
          go_wp2_with (fail)
          all_goals
            go_roundw
            case rel => exact ⟨trivial, j + 1, by omega, by go_num, by rw [HT.out, HK.out]⟩
            case measure => simp [intOf]; omega
      · obtain rfl : j = nodes.length := by omega
        rw [List.take_length]
        have hub := usesN_lt nodes
        generalize hU : usesN nodes = U at *
        have HU := Lib.hid hU
        clear hU hn1
        go_wp2_with fail
        obtain ⟨wo, hwo⟩ : ∃ wo : World, wo = wr := ⟨_, rfl⟩
        go_loopw [3, 29] (fun s3 i wr' => Fr none wo wr' ∧ ∃ k : Nat, k ≤ inner.length ∧ i = .int .i64 (k : Int) ∧ s3 = .int .i64 ((U ||| usesTL (inner.take k) : Nat) : Int)) (fun _ i _ => inner.length - (intOf i).toNat)
        case atStart => exact ⟨by rw [hwo]; exact Fr.refl _ _, 0, Nat.zero_le _, rfl, by simp [usesTL]⟩
        case round =>
          subst hwo
          clear R1 l1
          obtain ⟨F2, k, hk, rfl, rfl⟩ := hrel
          by_cases hlt : k < inner.length
          · have htk := usesTL_take inner k hlt
            have HT := Lib.hid htk
            have hub2 := usesTL_lt (inner.take k)
            have hui := usesT_lt inner[k]
            obtain ⟨b, off, rfl, hb, hbr, hc⟩ := hcell (by omega)
            obtain ⟨x, y, z, g0, g1, g2, gt⟩ := hc k hlt
            obtain ⟨th, A1, n1, c1, A2, n2, c2, rfl, rfl, rfl⟩ := gt.shape
            have F3 := F1.pure F2
            have g0' := F3.keep g0 (by simp)
            have g1' := F3.keep g1 (by simp)
            have g2' := F3.keep g2 (by simp)
            have hdd : (inner[k]).dep ≤ d := by have := depL_get inner k hlt; simp only [Tr.dep] at hd; omega
            have gt' := (gt.fr (F3.mono (r := r)))
            obtain ⟨Y, hY⟩ : ∃ Y, usesT inner[k] = Y := ⟨_, rfl⟩
            rw [hY] at HT hui
            have HY := Lib.hid hY
            have hx2 : U ||| usesTL (inner.take k) < 1024 := Nat.or_lt_two_pow (n := 10) (by omega) (by omega)
            generalize hZ : U ||| usesTL (inner.take k) = Z at *
            have HZ := Lib.hid hZ
            have hbits : bits .or .i64 (Z : Int) (Y : Int) = ((Z ||| Y : Nat) : Int) := or_i64 _ _ (Nat.lt_trans hx2 (by decide)) (Nat.lt_trans hui (by decide))
            clear g0 g1 g2 htk hY hZ
            go_wp2_with fail
            refine (ih inner[k] _ _ r hdd (gt'.fr ((Fr.refl _ _).alloc _))).mono ?_
            rintro e w2 ⟨rfl, F4⟩
            rw [HY.out]
            have F5 := (F2.alloc _).pure F4
            clear g0' g1' g2' F4
            go_wp2_with fail
            go_roundw
            case rel => exact ⟨F5, k + 1, by omega, by go_num, by rw [HT.out, ← HZ.out, Nat.or_assoc]⟩
            case measure => simp [intOf]; omega
          · obtain rfl : k = inner.length := by omega
            go_wp2_with fail
            go_ret
            exact ⟨ret_int (by rw [List.take_length, ← HU.out]; simp only [usesT]), F1.pure F2⟩
end Go.Proofs.YtpdhckbiioobhaaGreatDoor

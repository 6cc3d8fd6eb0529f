/- Some texts of this claim, joined: contracts of the functions that it reaches, and plain laws. -/
import Derived.Test.YtoblhcieidljjaaGreatDoorProg
import Derived.Test.YtoblhcieidljjaaGreatDoorJG4
import Derived.Test.YtoblhcieidljjaaGreatDoorJG1

set_option linter.unusedSimpArgs false
set_option linter.unusedVariables false
/- Walks: threshold.Uses of the program and of the reference. -/
namespace Go.Proofs.YtoblhcieidljjaaGreatDoor
open Go.RowKit

def usesStep (s : Nat) (x : Int) : Nat := if 0 ≤ x ∧ x < 10 then s ||| 2 ^ x.toNat else s
def usesN (l : List Int) : Nat := l.foldl usesStep 0
mutual
def usesT : Tr → Nat
  | .mk _ n i => usesN n ||| usesTL i
def usesTL : List Tr → Nat
  | [] => 0
  | x :: r => usesT x ||| usesTL r
end
theorem usesStep_lt {s : Nat} (x : Int) (h : s < 1024) : usesStep s x < 1024 := by
  unfold usesStep
  split
  · rename_i hx
    refine Nat.or_lt_two_pow (n := 10) h ?_
    exact Nat.pow_lt_pow_right (by omega) (by omega)
  · exact h
theorem usesF_lt : ∀ (l : List Int) (s : Nat), s < 1024 → l.foldl usesStep s < 1024
  | [], s, h => h
  | x :: r, s, h => usesF_lt r _ (usesStep_lt x h)
theorem usesN_lt (l : List Int) : usesN l < 1024 := usesF_lt l 0 (by omega)
mutual
theorem usesT_lt : ∀ t, usesT t < 1024
  | .mk _ n i => by
    simp only [usesT]
    exact Nat.or_lt_two_pow (n := 10) (usesN_lt n) (usesTL_lt i)
theorem usesTL_lt : ∀ l, usesTL l < 1024
  | [] => by simp [usesTL]
  | x :: r => by
    simp only [usesTL]
    exact Nat.or_lt_two_pow (n := 10) (usesT_lt x) (usesTL_lt r)
end
theorem usesTL_app : ∀ a b, usesTL (a ++ b) = usesTL a ||| usesTL b
  | [], b => by simp [usesTL]
  | x :: r, b => by simp only [List.cons_append, usesTL, usesTL_app r b, Nat.or_assoc]
theorem usesTL_take (l : List Tr) (k : Nat) (hk : k < l.length) : usesTL (l.take (k + 1)) = usesTL (l.take k) ||| usesT l[k] := by
  rw [List.take_succ_eq_append_getElem hk, usesTL_app]
  simp [usesTL]
/-- All nodes below n: a mask below 2 to the n. -/
theorem usesF_lo {n : Nat} : ∀ (l : List Int) (s : Nat), (∀ x ∈ l, 0 ≤ x ∧ x < (n : Int)) → s < 2 ^ n → l.foldl usesStep s < 2 ^ n
  | [], s, _, h => h
  | x :: r, s, hl, h => by
    refine usesF_lo r _ (fun y hy => hl y (by simp [hy])) ?_
    have hx := hl x (by simp)
    unfold usesStep
    split
    · exact Nat.or_lt_two_pow h (Nat.pow_lt_pow_right (by omega) (by omega))
    · exact h
mutual
theorem usesT_lo {n : Nat} : ∀ t, nodesIn n t → usesT t < 2 ^ n
  | .mk _ l i, h => by
    simp only [nodesIn] at h
    simp only [usesT]
    exact Nat.or_lt_two_pow (usesF_lo l 0 h.1 (Nat.two_pow_pos n)) (usesTL_lo i h.2)
theorem usesTL_lo {n : Nat} : ∀ l, nodesInL n l → usesTL l < 2 ^ n
  | [], _ => by simp only [usesTL]; exact Nat.two_pow_pos n
  | x :: r, h => by
    simp only [nodesInL] at h
    simp only [usesTL]
    exact Nat.or_lt_two_pow (usesT_lo x h.1) (usesTL_lo r h.2)
end

set_option maxRecDepth 100000 in
set_option maxHeartbeats 2000000 in
theorem tuses_any (d : Nat) : ∀ (t : Tr) (v : Value) (w : World) (r : Option Nat), t.dep ≤ d → TrR w r v t →
    Calls Tryz.prog 118 #[v] w fun e w' => e = .returned (.int .i64 (usesT t : Nat)) ∧ Fr none w w' := by
  induction d with
  | zero =>
    intro t v w r hd
    cases t
    simp [Tr.dep] at hd
  | succ d ih =>
    intro t v w r hd h
    obtain ⟨thr, nodes, inner⟩ := t
    obtain ⟨A, c, A', c', rfl, hthr, hn, hn2, hi2, hi3, hi4, hcell⟩ := h.open_
    go_enter Tryz.func118, Tryz.ntmps118
    go_wp2_with fail
    generalize hW : w.alloc _ = w1
    have F1 : Fr none w w1 := hW ▸ (Fr.refl _ _).alloc _
    have b1 : TB w1 w.heap.size (.int .i64 thr) (.slice A nodes.length c) (.slice A' inner.length c') := by rw [← hW]; exact blk_new _ _
    clear hW
    have R1 := b1.cell
    have l1 := blk_lt b1
    have hn1 := hn.fr (F1.mono (r := r))
    go_loopw [3, 5, 11] (fun s3 _ i wr => wr = w1 ∧ ∃ j : Nat, j ≤ nodes.length ∧ i = .int .i64 (j : Int) ∧ s3 = .int .i64 ((usesN (nodes.take j) : Nat) : Int)) (fun _ _ i _ => nodes.length - (intOf i).toNat)
    case atStart => exact ⟨rfl, 0, Nat.zero_le _, rfl, by simp [usesN]⟩
    case round =>
      obtain ⟨rfl, j, hj, rfl, rfl⟩ := hrel
      by_cases hlt : j < nodes.length
      · obtain ⟨b, off, rfl, hb, hcj⟩ := hn1.1.cellI j hlt
        have HT : Hid (usesN (nodes.take (j + 1)) = usesStep (usesN (nodes.take j)) nodes[j]) := by
          unfold Hid; rw [List.take_succ_eq_append_getElem hlt]; unfold usesN; rw [List.foldl_append]; rfl
        have hub := usesN_lt (nodes.take j)
        generalize nodes[j] = x at *
        generalize usesN (nodes.take j) = u at *
        by_cases hx : 0 ≤ x ∧ x < 10
        · obtain ⟨k, rfl⟩ := Int.eq_ofNat_of_zero_le hx.1
          have hk10 : k < 10 := by omega
          have hdx : decide (0 ≤ (k : Int) ∧ (k : Int) < 10) = true := decide_eq_true hx
          have hp := pow2_lt k (by omega)
          have hw2 : wrap64 (2 ^ k) = ((2 ^ k : Nat) : Int) := wrap_pow k (by omega)
          have hbits : bits .or .i64 (u : Int) (wrap64 (2 ^ k)) = ((u ||| 2 ^ k : Nat) : Int) := by
            rw [hw2]; exact or_i64 _ _ (Nat.lt_trans hub (by decide)) (Nat.lt_trans hp (by decide))
          have HK : Hid (usesStep u (k : Int) = u ||| 2 ^ k) := by unfold Hid usesStep; rw [if_pos hx, Int.toNat_natCast]
          have HDX := Lib.hid hdx
          clear hw2 hdx hp
          have hxa := hx.1
          have hxb := hx.2
          go_wp2_with (go_at_call 155; refine (node_any _ _).mono ?_; rintro e w' ⟨rfl, rfl⟩; rw [HDX.out])
          go_roundw
          case rel => exact ⟨trivial, j + 1, by omega, by go_num, by rw [HT.out, HK.out]⟩
          case measure => simp [intOf]; omega
        · have hdx : decide (0 ≤ x ∧ x < 10) = false := decide_eq_false hx
          have HK : Hid (usesStep u x = u) := by unfold Hid usesStep; rw [if_neg hx]
          have HDX := Lib.hid hdx
          clear hdx
          go_wp2_with (go_at_call 155; refine (node_any _ _).mono ?_; rintro e w' ⟨rfl, rfl⟩; rw [HDX.out])
          all_goals
            go_roundw
            case rel => exact ⟨trivial, j + 1, by omega, by go_num, by rw [HT.out, HK.out]⟩
            case measure => simp [intOf]; omega
      · obtain rfl : j = nodes.length := by omega
        rw [List.take_length]
        have hub := usesN_lt nodes
        generalize hU : usesN nodes = U at *
        have HU := Lib.hid hU
        clear hU hn1
        go_wp2_with fail
        obtain ⟨wo, hwo⟩ : ∃ wo : World, wo = wr := ⟨_, rfl⟩
        go_loopw [3, 25] (fun s3 i wr' => Fr none wo wr' ∧ ∃ k : Nat, k ≤ inner.length ∧ i = .int .i64 (k : Int) ∧ s3 = .int .i64 ((U ||| usesTL (inner.take k) : Nat) : Int)) (fun _ i _ => inner.length - (intOf i).toNat)
        case atStart => exact ⟨by rw [hwo]; exact Fr.refl _ _, 0, Nat.zero_le _, rfl, by simp [usesTL]⟩
        case round =>
          subst hwo
          clear R1 l1
          obtain ⟨F2, k, hk, rfl, rfl⟩ := hrel
          by_cases hlt : k < inner.length
          · have htk := usesTL_take inner k hlt
            have HT := Lib.hid htk
            have hub2 := usesTL_lt (inner.take k)
            have hui := usesT_lt inner[k]
            obtain ⟨b, off, rfl, hb, hbr, hc⟩ := hcell (by omega)
            obtain ⟨x, y, z, g0, g1, g2, gt⟩ := hc k hlt
            obtain ⟨th, A1, n1, c1, A2, n2, c2, rfl, rfl, rfl⟩ := gt.shape
            have F3 := F1.pure F2
            have g0' := F3.keep g0 (by simp)
            have g1' := F3.keep g1 (by simp)
            have g2' := F3.keep g2 (by simp)
            have hdd : (inner[k]).dep ≤ d := by have := depL_get inner k hlt; simp only [Tr.dep] at hd; omega
            have gt' := (gt.fr (F3.mono (r := r)))
            obtain ⟨Y, hY⟩ : ∃ Y, usesT inner[k] = Y := ⟨_, rfl⟩
            rw [hY] at HT hui
            have HY := Lib.hid hY
            have hx2 : U ||| usesTL (inner.take k) < 1024 := Nat.or_lt_two_pow (n := 10) (by omega) (by omega)
            generalize hZ : U ||| usesTL (inner.take k) = Z at *
            have HZ := Lib.hid hZ
            have hbits : bits .or .i64 (Z : Int) (Y : Int) = ((Z ||| Y : Nat) : Int) := or_i64 _ _ (Nat.lt_trans hx2 (by decide)) (Nat.lt_trans hui (by decide))
            clear g0 g1 g2 htk hY hZ
            go_wp2_with fail
            refine (ih inner[k] _ _ r hdd (gt'.fr ((Fr.refl _ _).alloc _))).mono ?_
            rintro e w2 ⟨rfl, F4⟩
            rw [HY.out]
            have F5 := (F2.alloc _).pure F4
            clear g0' g1' g2' F4
            go_wp2_with fail
            go_roundw
            case rel => exact ⟨F5, k + 1, by omega, by go_num, by rw [HT.out, ← HZ.out, Nat.or_assoc]⟩
            case measure => simp [intOf]; omega
          · obtain rfl : k = inner.length := by omega
            go_wp2_with fail
            go_ret
            exact ⟨ret_int (by rw [List.take_length, ← HU.out]; simp only [usesT]), F1.pure F2⟩
set_option maxRecDepth 100000 in
set_option maxHeartbeats 2000000 in
theorem ruses_any (d : Nat) : ∀ (t : Tr) (v : Value) (w : World) (r : Option Nat), t.dep ≤ d → TrR w r v t →
    Calls Tryz.prog 101 #[v] w fun e w' => e = .returned (.int .i64 (usesT t : Nat)) ∧ Fr none w w' := by
  induction d with
  | zero =>
    intro t v w r hd
    cases t
    simp [Tr.dep] at hd
  | succ d ih =>
    intro t v w r hd h
    obtain ⟨thr, nodes, inner⟩ := t
    obtain ⟨A, c, A', c', rfl, hthr, hn, hn2, hi2, hi3, hi4, hcell⟩ := h.open_
    go_enter Tryz.func101, Tryz.ntmps101
    go_wp2_with fail
    generalize hW : w.alloc _ = w1
    have F1 : Fr none w w1 := hW ▸ (Fr.refl _ _).alloc _
    have b1 : TB w1 w.heap.size (.int .i64 thr) (.slice A nodes.length c) (.slice A' inner.length c') := by rw [← hW]; exact blk_new _ _
    clear hW
    have R1 := b1.cell
    have l1 := blk_lt b1
    have hn1 := hn.fr (F1.mono (r := r))
    go_loopw [3, 5, 11] (fun s3 _ i wr => wr = w1 ∧ ∃ j : Nat, j ≤ nodes.length ∧ i = .int .i64 (j : Int) ∧ s3 = .int .i64 ((usesN (nodes.take j) : Nat) : Int)) (fun _ _ i _ => nodes.length - (intOf i).toNat)
    case atStart => exact ⟨rfl, 0, Nat.zero_le _, rfl, by simp [usesN]⟩
    case round =>
      obtain ⟨rfl, j, hj, rfl, rfl⟩ := hrel
      by_cases hlt : j < nodes.length
      · obtain ⟨b, off, rfl, hb, hcj⟩ := hn1.1.cellI j hlt
        have HT : Hid (usesN (nodes.take (j + 1)) = usesStep (usesN (nodes.take j)) nodes[j]) := by
          unfold Hid; rw [List.take_succ_eq_append_getElem hlt]; unfold usesN; rw [List.foldl_append]; rfl
        have hub := usesN_lt (nodes.take j)
        generalize nodes[j] = x at *
        generalize usesN (nodes.take j) = u at *
        by_cases hx : 0 ≤ x ∧ x < 10
        · obtain ⟨k, rfl⟩ := Int.eq_ofNat_of_zero_le hx.1
          have hk10 : k < 10 := by omega
          have hdx : decide (0 ≤ (k : Int) ∧ (k : Int) < 10) = true := decide_eq_true hx
          have hp := pow2_lt k (by omega)
          have hw2 : wrap64 (2 ^ k) = ((2 ^ k : Nat) : Int) := wrap_pow k (by omega)
          have hbits : bits .or .i64 (u : Int) (wrap64 (2 ^ k)) = ((u ||| 2 ^ k : Nat) : Int) := by
            rw [hw2]; exact or_i64 _ _ (Nat.lt_trans hub (by decide)) (Nat.lt_trans hp (by decide))
          have HK : Hid (usesStep u (k : Int) = u ||| 2 ^ k) := by unfold Hid usesStep; rw [if_pos hx, Int.toNat_natCast]
          have HDX := Lib.hid hdx
          clear hw2 hdx hp
          have hxa := hx.1
          have hxb := hx.2
          go_wp2_with (fail)
          go_roundw
          case rel => exact ⟨trivial, j + 1, by omega, by go_num, by rw [HT.out, HK.out]⟩
          case measure => simp [intOf]; omega
        · have hdx : decide (0 ≤ x ∧ x < 10) = false := decide_eq_false hx
          have HK : Hid (usesStep u x = u) := by unfold Hid usesStep; rw [if_neg hx]
          have HDX := Lib.hid hdx
          clear hdx
          go_wp2_with (fail)
          all_goals
            go_roundw
            case rel => exact ⟨trivial, j + 1, by omega, by go_num, by rw [HT.out, HK.out]⟩
            case measure => simp [intOf]; omega
      · obtain rfl : j = nodes.length := by omega
        rw [List.take_length]
        have hub := usesN_lt nodes
        generalize hU : usesN nodes = U at *
        have HU := Lib.hid hU
        clear hU hn1
        go_wp2_with fail
        obtain ⟨wo, hwo⟩ : ∃ wo : World, wo = wr := ⟨_, rfl⟩
        go_loopw [3, 29] (fun s3 i wr' => Fr none wo wr' ∧ ∃ k : Nat, k ≤ inner.length ∧ i = .int .i64 (k : Int) ∧ s3 = .int .i64 ((U ||| usesTL (inner.take k) : Nat) : Int)) (fun _ i _ => inner.length - (intOf i).toNat)
        case atStart => exact ⟨by rw [hwo]; exact Fr.refl _ _, 0, Nat.zero_le _, rfl, by simp [usesTL]⟩
        case round =>
          subst hwo
          clear R1 l1
          obtain ⟨F2, k, hk, rfl, rfl⟩ := hrel
          by_cases hlt : k < inner.length
          · have htk := usesTL_take inner k hlt
            have HT := Lib.hid htk
            have hub2 := usesTL_lt (inner.take k)
            have hui := usesT_lt inner[k]
            obtain ⟨b, off, rfl, hb, hbr, hc⟩ := hcell (by omega)
            obtain ⟨x, y, z, g0, g1, g2, gt⟩ := hc k hlt
            obtain ⟨th, A1, n1, c1, A2, n2, c2, rfl, rfl, rfl⟩ := gt.shape
            have F3 := F1.pure F2
            have g0' := F3.keep g0 (by simp)
            have g1' := F3.keep g1 (by simp)
            have g2' := F3.keep g2 (by simp)
            have hdd : (inner[k]).dep ≤ d := by have := depL_get inner k hlt; simp only [Tr.dep] at hd; omega
            have gt' := (gt.fr (F3.mono (r := r)))
            obtain ⟨Y, hY⟩ : ∃ Y, usesT inner[k] = Y := ⟨_, rfl⟩
            rw [hY] at HT hui
            have HY := Lib.hid hY
            have hx2 : U ||| usesTL (inner.take k) < 1024 := Nat.or_lt_two_pow (n := 10) (by omega) (by omega)
            generalize hZ : U ||| usesTL (inner.take k) = Z at *
            have HZ := Lib.hid hZ
            have hbits : bits .or .i64 (Z : Int) (Y : Int) = ((Z ||| Y : Nat) : Int) := or_i64 _ _ (Nat.lt_trans hx2 (by decide)) (Nat.lt_trans hui (by decide))
            clear g0 g1 g2 htk hY hZ
            go_wp2_with fail
            refine (ih inner[k] _ _ r hdd (gt'.fr ((Fr.refl _ _).alloc _))).mono ?_
            rintro e w2 ⟨rfl, F4⟩
            rw [HY.out]
            have F5 := (F2.alloc _).pure F4
            clear g0' g1' g2' F4
            go_wp2_with fail
            go_roundw
            case rel => exact ⟨F5, k + 1, by omega, by go_num, by rw [HT.out, ← HZ.out, Nat.or_assoc]⟩
            case measure => simp [intOf]; omega
          · obtain rfl : k = inner.length := by omega
            go_wp2_with fail
            go_ret
            exact ⟨ret_int (by rw [List.take_length, ← HU.out]; simp only [usesT]), F1.pure F2⟩
end Go.Proofs.YtoblhcieidljjaaGreatDoor

/- Some texts of this claim, joined: contracts of the functions that it reaches, and plain laws. -/
import Derived.Test.YtpdhckbiioobhaaGreatProg
import Derived.Test.YtpdhckbiioobhaaGreatJS1
import Derived.Test.YtpdhckbiioobhaaGreatJS6
import Derived.StillTailTactics
import Derived.ArgAppend
import Derived.Deep.RegionHeld3

set_option linter.unusedSimpArgs false
set_option linter.unusedVariables false
/- Walks: the reference's order of trusts, has, with. -/
namespace Go.Proofs.YtpdhckbiioobhaaGreat
open Go.RowKit

theorem rsgn_any (a b : Int) (w : World) : Calls Tryz.prog 147 #[.int .i64 a, .int .i64 b] w fun e w' => e = .returned (.int .i64 (sgnI a b)) ∧ w = w' := by
  have H : Hid (sgnI a b = if a < b then -1 else if b < a then 1 else 0) := by unfold Hid sgnI; rfl
  by_cases h1 : a < b
  · go_enter Tryz.func147, Tryz.ntmps147
    go_wp2
    go_ret
    exact ⟨ret_int (by rw [H.out, if_pos h1]), rfl⟩
  · by_cases h2 : b < a
    · go_enter Tryz.func147, Tryz.ntmps147
      go_wp2
      go_ret
      exact ⟨ret_int (by rw [H.out, if_neg (by omega), if_pos (by omega)]), rfl⟩
    · go_enter Tryz.func147, Tryz.ntmps147
      go_wp2
      go_ret
      exact ⟨ret_int (by rw [H.out, if_neg (by omega), if_neg (by omega)]), rfl⟩

theorem rsign_fix (a b C : Int) (hC : Hid (C = sgnI a b)) (w : World) : Calls Tryz.prog 147 #[.int .i64 a, .int .i64 b] w fun e w' => e = .returned (.int .i64 C) ∧ w' = w :=
  (rsgn_any a b w).mono fun e w' ⟨h, hw⟩ => ⟨by rw [h, hC.out], hw.symm⟩

set_option maxRecDepth 100000 in
theorem rhasn_any (l : List Int) (k : Int) (v : Value) (w : World) (hl : SlI w none v l) : Calls Tryz.prog 92 #[v, .int .i64 k] w fun e w' => e = .returned (.bool (l.any fun x => decide (x = k))) ∧ w = w' := by
  obtain ⟨A, c, rfl, q1, q2, hc⟩ := hl.open_
  clear hl
  go_enter Tryz.func92, Tryz.ntmps92
  go_wp2
  go_loop [9] (fun i => ∃ j : Nat, j ≤ l.length ∧ i = .int .i64 (j : Int) ∧ Hid ((l.any fun x => decide (x = k)) = (l.drop j).any fun x => decide (x = k))) (fun i => l.length - (intOf i).toNat)
  case atStart => exact ⟨0, Nat.zero_le _, rfl, by simp [Hid]⟩
  case round =>
    obtain ⟨j, hj, rfl, HJ⟩ := hrel
    by_cases hlt : j < l.length
    · obtain ⟨b, off, rfl, hb, _, hcc⟩ := hc (by omega)
      have hck := hcc j hlt
      have hd2 : Hid (l.drop j = l[j] :: l.drop (j + 1)) := List.drop_eq_getElem_cons hlt
      clear hcc hc
      obtain ⟨x, hx⟩ : ∃ x, x = l[j] := ⟨_, rfl⟩
      rw [← hx] at hck hd2
      clear hx
      by_cases he : x = k
      · subst he
        go_wp2
        go_ret
        exact ⟨ret_bool (by rw [HJ.out, hd2.out]; simp), rfl⟩
      · have he1 : (x == k) = false := by rw [beq_eq_false_iff_ne]; exact he
        have HE := Lib.hid he
        clear he
        go_wp2
        go_round
        case rel => exact ⟨j + 1, by omega, by go_num, by unfold Hid; rw [HJ.out, hd2.out, List.any_cons, decide_eq_false HE.out]; rfl⟩
        case measure => simp [intOf]; omega
    · obtain rfl : j = l.length := by omega
      go_wp2
      go_ret
      exact ⟨ret_bool (by rw [HJ.out]; simp), rfl⟩

theorem cmpNs_end : ∀ (k : Nat) (a b : List Int), k ≤ a.length → k ≤ b.length → (a.length ≤ k ∨ b.length ≤ k) → cmpNs (a.drop k) (b.drop k) = sgnI a.length b.length := by
  intro k a b h1 h2 h3
  have e1 : a.length = k + (a.drop k).length := by simp; omega
  have e2 : b.length = k + (b.drop k).length := by simp; omega
  generalize a.drop k = x at *
  generalize b.drop k = y at *
  unfold sgnI
  cases x with
  | nil =>
    cases y with
    | nil => simp at e1 e2; simp [cmpNs, e1, e2]
    | cons y s => simp at e1 e2; rw [if_pos (by omega)]; simp [cmpNs]
  | cons x r =>
    cases y with
    | nil => simp at e1 e2; rw [if_neg (by omega), if_pos (by omega)]; simp [cmpNs]
    | cons y s => simp at e1 e2; omega
theorem cmpTs_end : ∀ (k : Nat) (a b : List Tr), k ≤ a.length → k ≤ b.length → (a.length ≤ k ∨ b.length ≤ k) → cmpTs (a.drop k) (b.drop k) = sgnI a.length b.length := by
  intro k a b h1 h2 h3
  have e1 : a.length = k + (a.drop k).length := by simp; omega
  have e2 : b.length = k + (b.drop k).length := by simp; omega
  generalize a.drop k = x at *
  generalize b.drop k = y at *
  unfold sgnI
  cases x with
  | nil =>
    cases y with
    | nil => simp at e1 e2; simp [cmpTs, e1, e2]
    | cons y s => simp at e1 e2; rw [if_pos (by omega)]; simp [cmpTs]
  | cons x r =>
    cases y with
    | nil => simp at e1 e2; rw [if_neg (by omega), if_pos (by omega)]; simp [cmpTs]
    | cons y s => simp at e1 e2; omega

set_option maxRecDepth 100000 in
set_option maxHeartbeats 4000000 in
theorem rcmp_any (d : Nat) : ∀ (a b : Tr) (va vb : Value) (w : World) (r : Option Nat), a.dep ≤ d → TrR w r va a → TrR w r vb b →
    Calls Tryz.prog 120 #[va, vb] w fun e w' => e = .returned (.int .i64 (cmpT a b)) ∧ Fr none w w' := by
  induction d with
  | zero =>
    intro a b va vb w r hd
    cases a
    simp [Tr.dep] at hd
  | succ d ih =>
    intro a b va vb w r hd ha hb
    obtain ⟨t1, n1, i1⟩ := a
    obtain ⟨t2, n2, i2⟩ := b
    obtain ⟨A, c, A', c', rfl, hthr, hn, hn2, hi2, hi3, hi4, hcell⟩ := ha.open_
    obtain ⟨B, e, B', e', rfl, kthr, kn, kn2, ki2, ki3, ki4, kcell⟩ := hb.open_
    have hdi : depL i1 ≤ d := by simp only [Tr.dep] at hd; omega
    have HE : Hid (cmpT (.mk t1 n1 i1) (.mk t2 n2 i2) = if sgnI t1 t2 ≠ 0 then sgnI t1 t2 else if cmpNs n1 n2 ≠ 0 then cmpNs n1 n2 else cmpTs i1 i2) := by unfold Hid; simp only [cmpT]
    clear hd ha hb
    go_enter Tryz.func120, Tryz.ntmps120
    go_upto_region 1 with (fail)
    generalize hW : (w.alloc _).alloc _ = w1
    have F1 : Fr none w w1 := hW ▸ ((Fr.refl none w).alloc _).alloc _
    have b0 : TB w1 w.heap.size (.int .i64 t1) (.slice A n1.length c) (.slice A' i1.length c') := by rw [← hW]; exact (Below.heap_alloc _ _ _ (by simp)).trans (blk_new _ _)
    have b1 : TB w1 (w.heap.size + 1) (.int .i64 t2) (.slice B n2.length e) (.slice B' i2.length e') := by rw [← hW]; exact blk_new_at (by simp) _
    clear hW
    have hn1 := hn.fr (F1.mono (r := r))
    have kn1 := kn.fr (F1.mono (r := r))
    obtain ⟨_, _, e0, _, _, hnc⟩ := hn1.open_
    injection e0 with e01 _ e03
    subst e01 e03
    obtain ⟨_, _, e0, _, _, knc⟩ := kn1.open_
    injection e0 with e01 _ e03
    subst e01 e03
    have R0 := b0.cell
    have R1 := b1.cell
    clear hn kn hn1 kn1
    obtain ⟨C1, hC1⟩ : ∃ C, C = sgnI t1 t2 := ⟨_, rfl⟩
    rw [← hC1] at HE
    have HC1 := Lib.hid hC1
    clear hC1
    by_cases hc1 : C1 = 0
    · subst hc1
      have HF : Hid (cmpT (.mk t1 n1 i1) (.mk t2 n2 i2) = if cmpNs n1 n2 ≠ 0 then cmpNs n1 n2 else cmpTs i1 i2) := by unfold Hid; rw [HE.out, if_neg (by simp)]
      clear HE
      go_wp2_with (go_at_call 147; (with_reducible refine (rsgn_any _ _ _).mono ?_); rintro e w' ⟨rfl, rfl⟩; rw [← HC1.out])
      go_loopw [6, 7] (fun s6 s7 wr => ∃ k : Nat, s6 = .int .i64 (k : Int) ∧ k ≤ n1.length ∧ k ≤ n2.length ∧ Fr none w1 wr ∧ Hid (cmpNs n1 n2 = cmpNs (n1.drop k) (n2.drop k))) (fun s6 _ _ => n1.length - (intOf s6).toNat)
      case atStart => exact ⟨0, rfl, Nat.zero_le _, Nat.zero_le _, Fr.refl _ _, by simp [Hid]⟩
      case round =>
        clear R0 R1
        obtain ⟨k, rfl, hk1, hk2, F, HK⟩ := hrel
        have R0 := (b0.fr F (by simp)).cell
        have R1 := (b1.fr F (by simp)).cell
        by_cases hlt : k < n1.length ∧ k < n2.length
        · obtain ⟨h1, h2⟩ := hlt
          obtain ⟨p, o, rfl, p1, p2, hcc⟩ := hnc (by omega)
          obtain ⟨q, u, rfl, q1, q2, kcc⟩ := knc (by omega)
          have d1 := F.keep (hcc k h1) (by simp)
          have d2 := F.keep (kcc k h2) (by simp)
          have hd1 : Hid (n1.drop k = n1[k] :: n1.drop (k + 1)) := List.drop_eq_getElem_cons h1
          have hd2 : Hid (n2.drop k = n2[k] :: n2.drop (k + 1)) := List.drop_eq_getElem_cons h2
          obtain ⟨x, hx⟩ : ∃ x, x = n1[k] := ⟨_, rfl⟩
          obtain ⟨y, hy⟩ : ∃ y, y = n2[k] := ⟨_, rfl⟩
          rw [← hx] at d1 hd1
          rw [← hy] at d2 hd2
          obtain ⟨C2, hC2⟩ : ∃ C, C = sgnI x y := ⟨_, rfl⟩
          have HC2 := Lib.hid hC2
          have HK2 : Hid (cmpNs n1 n2 = if C2 ≠ 0 then C2 else cmpNs (n1.drop (k + 1)) (n2.drop (k + 1))) := by unfold Hid; rw [HK.out, hd1.out, hd2.out, hC2]; rfl
          clear hx hy hC2 hnc knc hcc kcc HK
          by_cases hc2 : C2 = 0
          · subst hc2
            go_wp2_with fail
            go_quiet ((go_at_call 147; exact Calls.quiet_of_same (rsign_fix x y _ HC2 _)))
            go_wp2_with fail
            go_roundw
            case rel => exact ⟨k + 1, by go_num, by omega, by omega, F.drewN _, by unfold Hid; rw [HK2.out, if_neg (by simp)]⟩
            case measure => simp [intOf]; omega
          · have hb2 : (C2 != 0) = true := by rw [bne_iff_ne]; exact hc2
            have HFF : Hid (cmpT (.mk t1 n1 i1) (.mk t2 n2 i2) = C2) := by unfold Hid; rw [HF.out, HK2.out, if_pos hc2, if_pos hc2]
            clear hc2
            go_wp2_with fail
            go_quiet ((go_at_call 147; exact Calls.quiet_of_same (rsign_fix x y _ HC2 _)))
            go_wp2_with fail
            go_ret
            exact ⟨ret_int (by rw [HFF.out]), F1.pure (F.drewN _)⟩
        · have hend : cmpNs n1 n2 = sgnI n1.length n2.length := by rw [HK.out]; exact cmpNs_end k n1 n2 hk1 hk2 (by omega)
          obtain ⟨C3, hC3⟩ : ∃ C, C = sgnI n1.length n2.length := ⟨_, rfl⟩
          rw [← hC3] at hend
          have HC3 := Lib.hid hC3
          have HG : Hid (cmpT (.mk t1 n1 i1) (.mk t2 n2 i2) = if C3 ≠ 0 then C3 else cmpTs i1 i2) := by unfold Hid; rw [HF.out, hend]
          clear hC3 hend HK hnc knc HF
          by_cases hg1 : k < n1.length
          · have hg2 : ¬ k < n2.length := by omega
            clear hlt
            by_cases hc3 : C3 = 0
            · subst hc3
              have HH : Hid (cmpT (.mk t1 n1 i1) (.mk t2 n2 i2) = cmpTs i1 i2) := by unfold Hid; rw [HG.out, if_neg (by simp)]
              clear HG
              go_wp2_with (go_at_call 147; (with_reducible refine (rsgn_any _ _ _).mono ?_); rintro e w' ⟨rfl, rfl⟩; rw [← HC3.out])
              have F2 := F1.pure F
              have b0' := b0.fr F (by simp)
              have b1' := b1.fr F (by simp)
              clear R0 R1 b0 b1 F F1
              obtain ⟨wo, hwo⟩ : ∃ wo : World, wo = wr := ⟨_, rfl⟩
              subst hwo
              go_loopw [9, 10] (fun s9 s10 wr => ∃ k : Nat, s9 = .int .i64 (k : Int) ∧ k ≤ i1.length ∧ k ≤ i2.length ∧ Fr none wo wr ∧ Hid (cmpTs i1 i2 = cmpTs (i1.drop k) (i2.drop k))) (fun s9 _ _ => i1.length - (intOf s9).toNat)
              case atStart => exact ⟨0, rfl, Nat.zero_le _, Nat.zero_le _, Fr.refl _ _, by simp [Hid]⟩
              case round =>
                obtain ⟨k, rfl, hk1, hk2, F, HK⟩ := hrel
                have F3 := F2.pure F
                have R0 := (b0'.fr F (by simp)).cell
                have R1 := (b1'.fr F (by simp)).cell
                by_cases hlt : k < i1.length ∧ k < i2.length
                · obtain ⟨h1, h2⟩ := hlt
                  obtain ⟨p, o, rfl, p1, p2, hcc⟩ := hcell (by omega)
                  obtain ⟨q, u, rfl, q1, q2, kcc⟩ := kcell (by omega)
                  obtain ⟨x, y, z, g0, g1, g2, gt⟩ := hcc k h1
                  obtain ⟨th, X1, m1, y1, X2, m2, y2, rfl, rfl, rfl⟩ := gt.shape
                  obtain ⟨x', y', z', l0, l1, l2, lt⟩ := kcc k h2
                  obtain ⟨th', x1, v1, z1, x2, v2, z2, rfl, rfl, rfl⟩ := lt.shape
                  have g0' := F3.keep g0 (by simp)
                  have g1' := F3.keep g1 (by simp)
                  have g2' := F3.keep g2 (by simp)
                  have l0' := F3.keep l0 (by simp)
                  have l1' := F3.keep l1 (by simp)
                  have l2' := F3.keep l2 (by simp)
                  have hdd : (i1[k]).dep ≤ d := by have := depL_get i1 k h1; omega
                  have gt' := gt.fr (F3.mono (r := r))
                  have lt' := lt.fr (F3.mono (r := r))
                  have hd1 : i1.drop k = i1[k] :: i1.drop (k + 1) := List.drop_eq_getElem_cons h1
                  have hd2 : i2.drop k = i2[k] :: i2.drop (k + 1) := List.drop_eq_getElem_cons h2
                  obtain ⟨C4, hC4⟩ : ∃ C, C = cmpT i1[k] i2[k] := ⟨_, rfl⟩
                  have HC4 := Lib.hid hC4
                  have HK2 : Hid (cmpTs i1 i2 = if C4 ≠ 0 then C4 else cmpTs (i1.drop (k + 1)) (i2.drop (k + 1))) := by unfold Hid; rw [HK.out, hd1, hd2, hC4]; simp only [cmpTs]
                  clear hC4 hcell kcell hcc kcc HK g0 g1 g2 l0 l1 l2 hd1 hd2
                  go_wp2_with fail
                  go_still_tail 10, (by kernel_rfl)
                  change wpList _ _ _ _ _ wr.drew
                  go_wp2_with fail
                  refine (ih i1[k] i2[k] _ _ _ r hdd (gt'.fr (Fr.refl _ _).drew) (lt'.fr (Fr.refl _ _).drew)).mono ?_
                  rintro e3 w2 ⟨rfl, F4⟩
                  rw [← HC4.out]
                  have F5 : Fr none wr w2 := (Fr.refl _ _).drew.pure F4
                  clear g0' g1' g2' l0' l1' l2' R0 R1
                  by_cases hc4 : C4 = 0
                  · subst hc4
                    go_wp2_with fail
                    go_roundw
                    case rel => exact ⟨k + 1, by go_num, by omega, by omega, F.pure F5, by unfold Hid; rw [HK2.out, if_neg (by simp)]⟩
                    case measure => simp [intOf]; omega
                  · have hb4 : (C4 != 0) = true := by rw [bne_iff_ne]; exact hc4
                    have HFF : Hid (cmpT (.mk t1 n1 i1) (.mk t2 n2 i2) = C4) := by unfold Hid; rw [HH.out, HK2.out, if_pos hc4]
                    clear hc4
                    go_wp2_with fail
                    go_ret
                    exact ⟨ret_int (by rw [HFF.out]), F3.pure F5⟩
                · have hend : cmpTs i1 i2 = sgnI i1.length i2.length := by rw [HK.out]; exact cmpTs_end k i1 i2 hk1 hk2 (by omega)
                  obtain ⟨C5, hC5⟩ : ∃ C, C = sgnI i1.length i2.length := ⟨_, rfl⟩
                  have HC5 := Lib.hid hC5
                  have HZ : Hid (cmpT (.mk t1 n1 i1) (.mk t2 n2 i2) = C5) := by unfold Hid; rw [HH.out, hend, hC5]
                  clear hC5 hend HK
                  by_cases hg1 : k < i1.length
                  · have hg2 : ¬ k < i2.length := by omega
                    clear hlt
                    go_wp2_with (go_at_call 147; (with_reducible refine (rsgn_any _ _ _).mono ?_); rintro e w' ⟨rfl, rfl⟩; rw [← HC5.out])
                    go_ret
                    exact ⟨ret_int (by rw [HZ.out]), F3⟩
                  · clear hlt
                    go_wp2_with (go_at_call 147; (with_reducible refine (rsgn_any _ _ _).mono ?_); rintro e w' ⟨rfl, rfl⟩; rw [← HC5.out])
                    go_ret
                    exact ⟨ret_int (by rw [HZ.out]), F3⟩
            · have hb3 : (C3 != 0) = true := by rw [bne_iff_ne]; exact hc3
              have HFF : Hid (cmpT (.mk t1 n1 i1) (.mk t2 n2 i2) = C3) := by unfold Hid; rw [HG.out, if_pos hc3]
              clear hc3 HG
              go_wp2_with (go_at_call 147; (with_reducible refine (rsgn_any _ _ _).mono ?_); rintro e w' ⟨rfl, rfl⟩; rw [← HC3.out])
              go_ret
              exact ⟨ret_int (by rw [HFF.out]), F1.pure F⟩
          · clear hlt
            by_cases hc3 : C3 = 0
            · subst hc3
              have HH : Hid (cmpT (.mk t1 n1 i1) (.mk t2 n2 i2) = cmpTs i1 i2) := by unfold Hid; rw [HG.out, if_neg (by simp)]
              clear HG
              go_wp2_with (go_at_call 147; (with_reducible refine (rsgn_any _ _ _).mono ?_); rintro e w' ⟨rfl, rfl⟩; rw [← HC3.out])
              have F2 := F1.pure F
              have b0' := b0.fr F (by simp)
              have b1' := b1.fr F (by simp)
              clear R0 R1 b0 b1 F F1
              obtain ⟨wo, hwo⟩ : ∃ wo : World, wo = wr := ⟨_, rfl⟩
              subst hwo
              go_loopw [9, 10] (fun s9 s10 wr => ∃ k : Nat, s9 = .int .i64 (k : Int) ∧ k ≤ i1.length ∧ k ≤ i2.length ∧ Fr none wo wr ∧ Hid (cmpTs i1 i2 = cmpTs (i1.drop k) (i2.drop k))) (fun s9 _ _ => i1.length - (intOf s9).toNat)
              case atStart => exact ⟨0, rfl, Nat.zero_le _, Nat.zero_le _, Fr.refl _ _, by simp [Hid]⟩
              case round =>
                obtain ⟨k, rfl, hk1, hk2, F, HK⟩ := hrel
                have F3 := F2.pure F
                have R0 := (b0'.fr F (by simp)).cell
                have R1 := (b1'.fr F (by simp)).cell
                by_cases hlt : k < i1.length ∧ k < i2.length
                · obtain ⟨h1, h2⟩ := hlt
                  obtain ⟨p, o, rfl, p1, p2, hcc⟩ := hcell (by omega)
                  obtain ⟨q, u, rfl, q1, q2, kcc⟩ := kcell (by omega)
                  obtain ⟨x, y, z, g0, g1, g2, gt⟩ := hcc k h1
                  obtain ⟨th, X1, m1, y1, X2, m2, y2, rfl, rfl, rfl⟩ := gt.shape
                  obtain ⟨x', y', z', l0, l1, l2, lt⟩ := kcc k h2
                  obtain ⟨th', x1, v1, z1, x2, v2, z2, rfl, rfl, rfl⟩ := lt.shape
                  have g0' := F3.keep g0 (by simp)
                  have g1' := F3.keep g1 (by simp)
                  have g2' := F3.keep g2 (by simp)
                  have l0' := F3.keep l0 (by simp)
                  have l1' := F3.keep l1 (by simp)
                  have l2' := F3.keep l2 (by simp)
                  have hdd : (i1[k]).dep ≤ d := by have := depL_get i1 k h1; omega
                  have gt' := gt.fr (F3.mono (r := r))
                  have lt' := lt.fr (F3.mono (r := r))
                  have hd1 : i1.drop k = i1[k] :: i1.drop (k + 1) := List.drop_eq_getElem_cons h1
                  have hd2 : i2.drop k = i2[k] :: i2.drop (k + 1) := List.drop_eq_getElem_cons h2
                  obtain ⟨C4, hC4⟩ : ∃ C, C = cmpT i1[k] i2[k] := ⟨_, rfl⟩
                  have HC4 := Lib.hid hC4
                  have HK2 : Hid (cmpTs i1 i2 = if C4 ≠ 0 then C4 else cmpTs (i1.drop (k + 1)) (i2.drop (k + 1))) := by unfold Hid; rw [HK.out, hd1, hd2, hC4]; simp only [cmpTs]
                  clear hC4 hcell kcell hcc kcc HK g0 g1 g2 l0 l1 l2 hd1 hd2
                  go_wp2_with fail
                  go_still_tail 10, (by kernel_rfl)
                  change wpList _ _ _ _ _ wr.drew
                  go_wp2_with fail
                  refine (ih i1[k] i2[k] _ _ _ r hdd (gt'.fr (Fr.refl _ _).drew) (lt'.fr (Fr.refl _ _).drew)).mono ?_
                  rintro e3 w2 ⟨rfl, F4⟩
                  rw [← HC4.out]
                  have F5 : Fr none wr w2 := (Fr.refl _ _).drew.pure F4
                  clear g0' g1' g2' l0' l1' l2' R0 R1
                  by_cases hc4 : C4 = 0
                  · subst hc4
                    go_wp2_with fail
                    go_roundw
                    case rel => exact ⟨k + 1, by go_num, by omega, by omega, F.pure F5, by unfold Hid; rw [HK2.out, if_neg (by simp)]⟩
                    case measure => simp [intOf]; omega
                  · have hb4 : (C4 != 0) = true := by rw [bne_iff_ne]; exact hc4
                    have HFF : Hid (cmpT (.mk t1 n1 i1) (.mk t2 n2 i2) = C4) := by unfold Hid; rw [HH.out, HK2.out, if_pos hc4]
                    clear hc4
                    go_wp2_with fail
                    go_ret
                    exact ⟨ret_int (by rw [HFF.out]), F3.pure F5⟩
                · have hend : cmpTs i1 i2 = sgnI i1.length i2.length := by rw [HK.out]; exact cmpTs_end k i1 i2 hk1 hk2 (by omega)
                  obtain ⟨C5, hC5⟩ : ∃ C, C = sgnI i1.length i2.length := ⟨_, rfl⟩
                  have HC5 := Lib.hid hC5
                  have HZ : Hid (cmpT (.mk t1 n1 i1) (.mk t2 n2 i2) = C5) := by unfold Hid; rw [HH.out, hend, hC5]
                  clear hC5 hend HK
                  by_cases hg1 : k < i1.length
                  · have hg2 : ¬ k < i2.length := by omega
                    clear hlt
                    go_wp2_with (go_at_call 147; (with_reducible refine (rsgn_any _ _ _).mono ?_); rintro e w' ⟨rfl, rfl⟩; rw [← HC5.out])
                    go_ret
                    exact ⟨ret_int (by rw [HZ.out]), F3⟩
                  · clear hlt
                    go_wp2_with (go_at_call 147; (with_reducible refine (rsgn_any _ _ _).mono ?_); rintro e w' ⟨rfl, rfl⟩; rw [← HC5.out])
                    go_ret
                    exact ⟨ret_int (by rw [HZ.out]), F3⟩
            · have hb3 : (C3 != 0) = true := by rw [bne_iff_ne]; exact hc3
              have HFF : Hid (cmpT (.mk t1 n1 i1) (.mk t2 n2 i2) = C3) := by unfold Hid; rw [HG.out, if_pos hc3]
              clear hc3 HG
              go_wp2_with (go_at_call 147; (with_reducible refine (rsgn_any _ _ _).mono ?_); rintro e w' ⟨rfl, rfl⟩; rw [← HC3.out])
              go_ret
              exact ⟨ret_int (by rw [HFF.out]), F1.pure F⟩
    · have hb1 : (C1 != 0) = true := by rw [bne_iff_ne]; exact hc1
      have HFF : Hid (cmpT (.mk t1 n1 i1) (.mk t2 n2 i2) = C1) := by unfold Hid; rw [HE.out, if_pos hc1]
      clear hc1 HE
      go_wp2_with (go_at_call 147; (with_reducible refine (rsgn_any _ _ _).mono ?_); rintro e w' ⟨rfl, rfl⟩; rw [← HC1.out])
      go_ret
      exact ⟨ret_int (by rw [HFF.out]), F1⟩
end Go.Proofs.YtpdhckbiioobhaaGreat

/- Walks: the reference's with: one trust more, if none is equal to it. -/
namespace Go.Proofs.YtpdhckbiioobhaaGreat
open Go.RowKit

/-- The blocks D, and those laid between w and w'. -/
def Dw (D : Nat → Prop) (w w' : World) : Nat → Prop := fun b => D b ∨ (w.heap.size ≤ b ∧ b < w'.heap.size)
theorem dw_in {D : Nat → Prop} {w w' : World} {r : Option Nat} (hD : ∀ b, D b → b < w.heap.size ∧ r ≠ some b) (F : Fr r w w') : ∀ k, D k → Dw D w w' k ∧ w'.heap[k]? = w.heap[k]? := fun k hk =>
  ⟨.inl hk, F.block k (hD k hk).1 (fun e => (hD k hk).2 e.symm)⟩

theorem step_tm {P : Program} {ops : Array Oper} {o : Oper} {a : Act} {tm : Array Value} {w : World} {K : Act → World → Prop} {Q : Exit → Act → World → Prop} {E' : Prop} (htm : a.tmps = tm) (h : if Region.wanted o (yielded ops a.tmps) = true then Oper.wp P o a w K Q else E') :
    if Region.wanted o (yielded ops tm) = true then Oper.wp P o a w K Q else E' := htm ▸ h
/-- append of a literal that has just been laid, to a slice without room. -/
theorem step_app_full {P : Program} {t e : TypeId} {size bytes : Nat} (E : EInfo P t e size bytes) {w : World} {ops : Array Oper} {o : Oper} {a : Act} {K : Act → World → Prop} {Q : Exit → Act → World → Prop} {E' : Prop} (hgd : o.guard = none) (s x : Operand)
    (ho : o.op = .call { callee := .builtin .append, args := #[s, x], argTypes := #[t, t] })
    (b : Addr) (n : Nat) (olds : List Value) (hs : a.eval s = .slice (some b) n n) (hlo : olds.length = n * size) (holds : ∀ j u, olds[j]? = some u → w.cell? (b.add j) = some u)
    (m : Nat) (cs : List Value) (e' : TypeId) (bk : Nat) (hx : a.eval x = .slice (some ⟨bk, 0, none⟩) m m) (hbk : w.heap.size = bk) (hm : 0 < m) (hcs : cs.length = m * size) (hb : (n + m) * bytes ≤ 140737488355328) (h63 : n + m ≤ maxLen)
    (h : ∀ A' c' w', w'.ownsRow w.heap.size e size (.slice A' (n + m) c') (n + m) (olds ++ cs) → Fr none w w' → K (a.put o.dst (.slice A' (n + m) c')) w') :
    if Region.wanted o (yielded ops a.tmps) = true then Oper.wp P o a (w.alloc (.cells cs.toArray e')) K Q else E' := by
  have hw : Region.wanted o (yielded ops a.tmps) = true := by simp [Region.wanted, hgd]
  rw [if_pos hw]
  subst hbk
  obtain ⟨i, z, ht, hi, hz, hsize, hby, hzs, hsz⟩ := E
  have FA := (Fr.refl none w).alloc (.cells cs.toArray e')
  have hnews : ∀ j u, cs[j]? = some u → (w.alloc (.cells cs.toArray e')).cell? ((⟨w.heap.size, 0, none⟩ : Addr).add j) = some u := fun j u hu => by
    rw [Addr.add_lit, Nat.zero_add, cell_new]
    simpa using hu
  obtain ⟨v', w', hrun, hown, hgr⟩ := run_append_arg_grows (P := P) (w := w.alloc (.cells cs.toArray e')) t o.type e i z size bytes ht hi hz hsize hby hzs hsz b n n olds hlo (fun j u hu => FA.keep (holds j u hu) (by simp)) ⟨w.heap.size, 0, none⟩ m m cs hcs hnews (by omega) h63 hb
  unfold Oper.wp execOp
  simp only [ho, resolve, invoke, builtin, Sem.run_bind, Sem.run_pure, Result.andThen_ok, List.map_toArray, List.map_cons, List.map_nil, hs, hx, hrun]
  have hown' : w'.ownsRow w.heap.size e size v' (n + m) (olds ++ cs) := by
    refine ⟨hown.1, ?_⟩
    rcases hown.2 with h0 | ⟨g, cap, cur, hv, hg, rest⟩
    · exact .inl h0
    · exact .inr ⟨g, cap, cur, hv, by simp at hg; omega, rest⟩
  have hfr : Fr none w w' := FA.pure hgr
  rcases hown'.2 with ⟨rfl, e0⟩ | ⟨g, cap, cur, rfl, _⟩
  · omega
  · exact h _ _ w' hown' hfr

/-- What with hands back. -/
def WithP (w : World) (D : Nat → Prop) (l : List Tr) (t : Tr) (e : Ending) (w' : World) : Prop :=
  ∃ (A : Option Addr) (c : Nat) (cells : List Value), e = .returned (.slice A (withT l t).length c) ∧ (A = none → c = 0) ∧ SlD w' (Dw D w w') 3 (.slice A (withT l t).length c) cells ∧ TrsD w' (Dw D w w') cells (withT l t) ∧ Fr none w w'

set_option maxRecDepth 100000 in
set_option maxHeartbeats 4000000 in
theorem rwith_any (l : List Tr) (t : Tr) (A : Option Addr) (c : Nat) (v : Value) (cells : List Value) (D : Nat → Prop) (w : World) (hD : ∀ b, D b → b < w.heap.size) (hl : l.length ≤ 1000000) (hA : A = none → c = 0) (hs : SlD w D 3 (.slice A l.length c) cells) (hts : TrsD w D cells l) (ht : TrD w D v t) :
    Calls Tryz.prog 119 #[.slice A l.length c, v] w (WithP w D l t) := by
  obtain ⟨th, A1, n1, c1, A2, n2, c2, rfl⟩ := ht.shape
  obtain ⟨A', n', c', e0, hl', hnc, hm, hx⟩ := id hs
  injection e0 with e1 e2 e3
  subst e1 e2 e3
  have hnc' := hnc
  have HM := Lib.hid hm
  have hm9 : c ≤ 9223372036854775807 := by unfold maxLen at hm; omega
  clear hl' hm
  have HD := Lib.hid hD
  clear hD
  go_enter Tryz.func119, Tryz.ntmps119
  go_wp2_with fail
  generalize hW : w.alloc _ = w1
  have F1 : Fr none w w1 := hW ▸ (Fr.refl none w).alloc _
  have b3 : TB w1 w.heap.size (.int .i64 th) (.slice A1 n1 c1) (.slice A2 n2 c2) := by rw [← hW]; exact blk_new _ _
  clear hW
  go_loopw [9] (fun s9 wr => ∃ k : Nat, s9 = .int .i64 (k : Int) ∧ k ≤ l.length ∧ Fr none w1 wr ∧ Hid ((l.any fun x => decide (cmpT x t = 0)) = (l.drop k).any fun x => decide (cmpT x t = 0))) (fun s9 _ => l.length - (intOf s9).toNat)
  case atStart => exact ⟨0, rfl, Nat.zero_le _, Fr.refl _ _, by simp [Hid]⟩
  case round =>
    obtain ⟨k, rfl, hk, F, HK⟩ := hrel
    have F2 := F1.pure F
    have K3 := b3.fr F (by simp)
    have R3 := K3.cell
    have hlt3 := blk_lt K3
    by_cases hlt : k < l.length
    · obtain ⟨b, off, rfl, hb, hcc⟩ := hx (by omega)
      obtain ⟨x, y, z, e0, e1, e2, hy0⟩ := hts.get k hlt
      obtain ⟨ty, B1, m1, d1, B2, m2, d2, hsh⟩ := hy0.shape
      simp only [Value.agg.injEq, Array.mk.injEq, List.cons.injEq, and_true] at hsh
      obtain ⟨rfl, rfl, rfl⟩ := hsh
      have g0 := F2.keep (hcc _ _ e0) (by simp)
      have g1 := F2.keep (hcc _ _ e1) (by simp)
      have g2 := F2.keep (hcc _ _ e2) (by simp)
      rw [← Nat.add_assoc] at g1 g2
      have hyr : TrR wr none (.agg #[.int .i64 ty, .slice B1 m1 d1, .slice B2 m2 d2]) l[k] := TrD.keep (fun q hq => ⟨⟨by have := HD.out q hq; have := F2.size; omega, by simp⟩, F2.block q (HD.out q hq) (by simp)⟩) _ _ hy0
      have htr : TrR wr none (.agg #[.int .i64 th, .slice A1 n1 c1, .slice A2 n2 c2]) t := TrD.keep (fun q hq => ⟨⟨by have := HD.out q hq; have := F2.size; omega, by simp⟩, F2.block q (HD.out q hq) (by simp)⟩) _ _ ht
      have hd2 : l.drop k = l[k] :: l.drop (k + 1) := List.drop_eq_getElem_cons hlt
      obtain ⟨C, hC⟩ : ∃ C, C = cmpT l[k] t := ⟨_, rfl⟩
      have HC := Lib.hid hC
      have HK2 : Hid ((l.any fun x => decide (cmpT x t = 0)) = (decide (C = 0) || (l.drop (k + 1)).any fun x => decide (cmpT x t = 0))) := by unfold Hid; rw [HK.out, hd2, hC]; rfl
      clear hC hd2 e0 e1 e2 hcc hx HK
      go_wp2_with fail
      refine (rcmp_any (l[k]).dep l[k] t _ _ _ none (Nat.le_refl _) (hyr.fr ((Fr.refl none wr).alloc _)) (htr.fr ((Fr.refl none wr).alloc _))).mono ?_
      rintro e w3 ⟨rfl, F3⟩
      rw [← HC.out]
      have F4 := ((Fr.refl none wr).alloc _).pure F3
      clear g0 g1 g2 R3
      by_cases hc : C = 0
      · subst hc
        have HV : Hid (withT l t = l) := by unfold Hid withT; rw [if_pos (by rw [HK2.out]; simp)]
        go_wp2_with fail
        go_ret
        have F5 := F2.pure F4
        refine ⟨some ⟨b, off, none⟩, c, cells, by rw [HV.out]; rfl, by simp, ?_, ?_, F5⟩
        · rw [HV.out]; exact hs.keep (dw_in (r := none) (fun b hb => ⟨HD.out b hb, by simp⟩) F5)
        · rw [HV.out]; exact TrsD.keep (dw_in (r := none) (fun b hb => ⟨HD.out b hb, by simp⟩) F5) _ _ hts
      · have hc0 : (C == 0) = false := by rw [beq_eq_false_iff_ne]; exact hc
        have HC0 := Lib.hid hc
        clear hc
        go_wp2_with fail
        go_roundw
        case rel => exact ⟨k + 1, by go_num, by omega, F.pure F4, by unfold Hid; rw [HK2.out, decide_eq_false HC0.out]; rfl⟩
        case measure => simp [intOf]; omega
    · obtain rfl : k = l.length := by omega
      have HV : Hid (withT l t = l ++ [t]) := by unfold Hid withT; rw [if_neg (by rw [HK.out]; simp)]
      clear HK
      cases A with
      | none =>
        obtain rfl := hA rfl
        have hl0 : l.length = 0 := by
          rcases Nat.eq_zero_or_pos l.length with h | h
          · exact h
          · obtain ⟨_, _, h, _⟩ := hx h; cases h
        obtain rfl : l = [] := List.eq_nil_of_length_eq_zero hl0
        go_upto_region 7 with (fail)
        refine wp_region_held_drew (S := fun W => (∀ i, W.cell? ⟨w.heap.size, i, none⟩ = (#[.int .i64 th, .slice A1 n1 c1, .slice A2 n2 c2] : Array Value)[i]?) ∧ Fr none wr W) (by kernel_rfl) ⟨R3, (Fr.refl _ _).drew⟩ (fun hH0 => ?_)
        have Fd : Fr none wr wr.drew := (Fr.refl _ _).drew
        have Kd : TB wr.drew w.heap.size (.int .i64 th) (.slice A1 n1 c1) (.slice A2 n2 c2) := K3
        generalize wr.drew = wd at *
        refine wpAnyH_take (i := 0) (v := ?_) rfl (by kernel_rfl) (by kernel_rfl) (by kernel_rfl) (fun _ _ _ h => h) (Or.inl ⟨by rfl, ?_⟩) (by assumption) ?_
        rotate_left
        · (intro W hW; (try dsimp only at hW); go_simp; try with_reducible rfl)
        try simp only [Act.put, List.setIfInBounds_toArray, List.set_cons_zero, List.set_cons_succ, List.getElem_toArray, List.getElem_cons_zero, List.getElem_cons_succ]
        refine wpAnyH_take (i := 1) (v := ?_) rfl (by kernel_rfl) (by kernel_rfl) (by kernel_rfl) (fun _ _ _ h => h) (Or.inl ⟨by rfl, ?_⟩) (by assumption) ?_
        rotate_left
        · (intro W hW; (try dsimp only at hW); go_simp; try with_reducible rfl)
        try simp only [Act.put, List.setIfInBounds_toArray, List.set_cons_zero, List.set_cons_succ, List.getElem_toArray, List.getElem_cons_zero, List.getElem_cons_succ]
        refine wpAnyH_take (i := 2) (v := ?_) rfl (by kernel_rfl) (by kernel_rfl) (by kernel_rfl) (fun _ _ _ h => h) (Or.inl ⟨by rfl, ?_⟩) (by assumption) ?_
        rotate_left
        · (intro W hW; (try dsimp only at hW); go_simp; try with_reducible rfl)
        try simp only [Act.put, List.setIfInBounds_toArray, List.set_cons_zero, List.set_cons_succ, List.getElem_toArray, List.getElem_cons_zero, List.getElem_cons_succ]
        refine wpAnyH_take (i := 3) (v := ?_) rfl (by kernel_rfl) (by kernel_rfl) (by kernel_rfl) (fun _ _ _ h => h) (Or.inl ⟨by rfl, ?_⟩) (by assumption) ?_
        rotate_left
        · (intro W hW; (try dsimp only at hW); go_simp; try with_reducible rfl)
        try simp only [Act.put, List.setIfInBounds_toArray, List.set_cons_zero, List.set_cons_succ, List.getElem_toArray, List.getElem_cons_zero, List.getElem_cons_succ]
        refine wpAnyH_take (i := 4) (v := ?_) rfl (by kernel_rfl) (by kernel_rfl) (by kernel_rfl) (fun _ _ _ h => h) (Or.inl ⟨by rfl, ?_⟩) (by assumption) ?_
        rotate_left
        · (intro W hW; (try dsimp only at hW); go_simp; try with_reducible rfl)
        try simp only [Act.put, List.setIfInBounds_toArray, List.set_cons_zero, List.set_cons_succ, List.getElem_toArray, List.getElem_cons_zero, List.getElem_cons_succ]
        refine wpAnyH_take (i := 5) (v := ?_) rfl (by kernel_rfl) (by kernel_rfl) (by kernel_rfl) (fun _ _ _ h => h) (Or.inl ⟨by rfl, ?_⟩) (by assumption) ?_
        rotate_left
        · (intro W hW; (try dsimp only at hW); go_simp; try with_reducible rfl)
        try simp only [Act.put, List.setIfInBounds_toArray, List.set_cons_zero, List.set_cons_succ, List.getElem_toArray, List.getElem_cons_zero, List.getElem_cons_succ]
        refine wpAnyH_take (i := 6) (v := ?_) rfl (by kernel_rfl) (by kernel_rfl) (by kernel_rfl) (fun _ _ _ h => h) (Or.inl ⟨by rfl, ?_⟩) (by assumption) ?_
        rotate_left
        · (intro W hW; (try dsimp only at hW); go_simp; try with_reducible rfl)
        try simp only [Act.put, List.setIfInBounds_toArray, List.set_cons_zero, List.set_cons_succ, List.getElem_toArray, List.getElem_cons_zero, List.getElem_cons_succ]
        refine wpAnyH_ready (rs := [7]) (by kernel_rfl) (by simp) ?_
        refine AllReadyH.cons rfl (fun K hK => ?_) AllReadyH.nil
        simp only [List.getElem_toArray, List.getElem_cons_zero, List.getElem_cons_succ]
        go_simp
        have FL := (Fr.refl none wd).alloc (.cells #[.int .i64 th, .slice A1 n1 c1, .slice A2 n2 c2] 29)
        refine hK.out _ _ ⟨(Kd.fr FL (by simp)).cell, Fd.pure FL⟩ (fun hH1 => ?_)
        clear hK K hH0
        try simp only [Act.put, List.setIfInBounds_toArray, List.set_cons_zero, List.set_cons_succ, List.getElem_toArray, List.getElem_cons_zero, List.getElem_cons_succ]
        refine wpAnyH_ready (rs := [8]) (by kernel_rfl) (by simp) ?_
        refine AllReadyH.cons rfl (fun K hK => ?_) AllReadyH.nil
        simp only [List.getElem_toArray, List.getElem_cons_zero, List.getElem_cons_succ]
        refine step_tm rfl ?_
        refine step_app_lit eiTrust rfl _ _ rfl wd.heap.size none 0 0 [] rfl (World.ownsRow_nil _ _ _ _) 1 [.int .i64 th, .slice A1 n1 c1, .slice A2 n2 c2] 29 _ rfl rfl rfl (by simp [Value.oneCell']) (by omega) (by unfold maxLen; omega) (Nat.le_refl _) ?_
        intro A5 c5 w5 own5 F5 _
        have F5 : Fr none wd w5 := F5
        have F6 := Fd.pure F5
        refine hK.out _ _ ⟨(Kd.fr F5 (by simp)).cell, F6⟩ (fun hH2 => ?_)
        clear hK K hH1
        try simp only [Act.put, List.setIfInBounds_toArray, List.set_cons_zero, List.set_cons_succ, List.getElem_toArray, List.getElem_cons_zero, List.getElem_cons_succ]
        refine wpAnyH_take (i := 9) (v := ?_) rfl (by kernel_rfl) (by kernel_rfl) (by kernel_rfl) (fun _ _ _ h => h) (Or.inl ⟨by rfl, ?_⟩) (by assumption) ?_
        rotate_left
        · (intro W hW; (try dsimp only at hW); go_simp; try with_reducible rfl)
        try simp only [Act.put, List.setIfInBounds_toArray, List.set_cons_zero, List.set_cons_succ, List.getElem_toArray, List.getElem_cons_zero, List.getElem_cons_succ]
        refine wpAnyH_done (by kernel_rfl) ?_ _
        go_wp2_with fail
        go_ret
        have F7 := F2.pure F6
        have hz5 := F5.size
        have hzw := F2.size
        have hzd := Fd.size
        refine ⟨A5, c5, [.int .i64 th, .slice A1 n1 c1, .slice A2 n2 c2], by rw [HV.out]; rfl, fun h => ?_, ?_, ?_, F7⟩
        · subst h
          rcases own5.2 with ⟨h, _⟩ | ⟨_, _, _, h, _⟩
          · injection h
          · injection h with h; cases h
        · rw [HV.out]
          exact (SlD.own_dn own5).keep (fun k hk => ⟨.inr ⟨by have := hk.1; omega, hk.2⟩, rfl⟩)
        · rw [HV.out]
          simp only [List.nil_append, TrsD]
          exact ⟨_, _, _, [], rfl, TrD.keep (dw_in (r := none) (fun b hb => ⟨HD.out b hb, by simp⟩) F7) _ _ ht, rfl⟩
      | some a =>
        go_upto_region 7 with (fail)
        refine wp_region_held_drew (S := fun W => (∀ i, W.cell? ⟨w.heap.size, i, none⟩ = (#[.int .i64 th, .slice A1 n1 c1, .slice A2 n2 c2] : Array Value)[i]?) ∧ Fr none wr W) (by kernel_rfl) ⟨R3, (Fr.refl _ _).drew⟩ (fun hH0 => ?_)
        have Fd : Fr none wr wr.drew := (Fr.refl _ _).drew
        have Kd : TB wr.drew w.heap.size (.int .i64 th) (.slice A1 n1 c1) (.slice A2 n2 c2) := K3
        generalize wr.drew = wd at *
        refine wpAnyH_take (i := 0) (v := ?_) rfl (by kernel_rfl) (by kernel_rfl) (by kernel_rfl) (fun _ _ _ h => h) (Or.inl ⟨by rfl, ?_⟩) (by assumption) ?_
        rotate_left
        · (intro W hW; (try dsimp only at hW); go_simp; try with_reducible rfl)
        try simp only [Act.put, List.setIfInBounds_toArray, List.set_cons_zero, List.set_cons_succ, List.getElem_toArray, List.getElem_cons_zero, List.getElem_cons_succ]
        refine wpAnyH_take (i := 1) (v := ?_) rfl (by kernel_rfl) (by kernel_rfl) (by kernel_rfl) (fun _ _ _ h => h) (Or.inl ⟨by rfl, ?_⟩) (by assumption) ?_
        rotate_left
        · (intro W hW; (try dsimp only at hW); go_simp; try with_reducible rfl)
        try simp only [Act.put, List.setIfInBounds_toArray, List.set_cons_zero, List.set_cons_succ, List.getElem_toArray, List.getElem_cons_zero, List.getElem_cons_succ]
        refine wpAnyH_take (i := 2) (v := ?_) rfl (by kernel_rfl) (by kernel_rfl) (by kernel_rfl) (fun _ _ _ h => h) (Or.inl ⟨by rfl, ?_⟩) (by assumption) ?_
        rotate_left
        · (intro W hW; (try dsimp only at hW); go_simp; try with_reducible rfl)
        try simp only [Act.put, List.setIfInBounds_toArray, List.set_cons_zero, List.set_cons_succ, List.getElem_toArray, List.getElem_cons_zero, List.getElem_cons_succ]
        refine wpAnyH_take (i := 3) (v := ?_) rfl (by kernel_rfl) (by kernel_rfl) (by kernel_rfl) (fun _ _ _ h => h) (Or.inl ⟨by rfl, ?_⟩) (by assumption) ?_
        rotate_left
        · (intro W hW; (try dsimp only at hW); go_simp; try with_reducible rfl)
        try simp only [Act.put, List.setIfInBounds_toArray, List.set_cons_zero, List.set_cons_succ, List.getElem_toArray, List.getElem_cons_zero, List.getElem_cons_succ]
        refine wpAnyH_take (i := 4) (v := ?_) rfl (by kernel_rfl) (by kernel_rfl) (by kernel_rfl) (fun _ _ _ h => h) (Or.inl ⟨by rfl, ?_⟩) (by assumption) ?_
        rotate_left
        · (intro W hW; (try dsimp only at hW); go_simp; try with_reducible rfl)
        try simp only [Act.put, List.setIfInBounds_toArray, List.set_cons_zero, List.set_cons_succ, List.getElem_toArray, List.getElem_cons_zero, List.getElem_cons_succ]
        refine wpAnyH_take (i := 5) (v := ?_) rfl (by kernel_rfl) (by kernel_rfl) (by kernel_rfl) (fun _ _ _ h => h) (Or.inl ⟨by rfl, ?_⟩) (by assumption) ?_
        rotate_left
        · (intro W hW; (try dsimp only at hW); go_simp; try with_reducible rfl)
        try simp only [Act.put, List.setIfInBounds_toArray, List.set_cons_zero, List.set_cons_succ, List.getElem_toArray, List.getElem_cons_zero, List.getElem_cons_succ]
        refine wpAnyH_take (i := 6) (v := ?_) rfl (by kernel_rfl) (by kernel_rfl) (by kernel_rfl) (fun _ _ _ h => h) (Or.inl ⟨by rfl, ?_⟩) (by assumption) ?_
        rotate_left
        · (intro W hW; (try dsimp only at hW); go_simp; try with_reducible rfl)
        try simp only [Act.put, List.setIfInBounds_toArray, List.set_cons_zero, List.set_cons_succ, List.getElem_toArray, List.getElem_cons_zero, List.getElem_cons_succ]
        refine wpAnyH_ready (rs := [7]) (by kernel_rfl) (by simp) ?_
        refine AllReadyH.cons rfl (fun K hK => ?_) AllReadyH.nil
        simp only [List.getElem_toArray, List.getElem_cons_zero, List.getElem_cons_succ]
        go_simp
        have FL := (Fr.refl none wd).alloc (.cells #[.int .i64 th, .slice A1 n1 c1, .slice A2 n2 c2] 29)
        refine hK.out _ _ ⟨(Kd.fr FL (by simp)).cell, Fd.pure FL⟩ (fun hH1 => ?_)
        clear hK K hH0
        try simp only [Act.put, List.setIfInBounds_toArray, List.set_cons_zero, List.set_cons_succ, List.getElem_toArray, List.getElem_cons_zero, List.getElem_cons_succ]
        refine wpAnyH_ready (rs := [8]) (by kernel_rfl) (by simp) ?_
        refine AllReadyH.cons rfl (fun K hK => ?_) AllReadyH.nil
        simp only [List.getElem_toArray, List.getElem_cons_zero, List.getElem_cons_succ]
        have F2d := F2.pure Fd
        have holds : ∀ j u, cells[j]? = some u → wd.cell? (a.add j) = some u := fun j u hu => by
          have hj : 0 < l.length := by
            have := hts.len
            have := (List.getElem?_eq_some_iff.1 hu).1
            omega
          obtain ⟨b, off, h, hb, hc⟩ := hx hj
          injection h with h
          subst h
          rw [Addr.add_lit]
          exact F2d.keep (hc j u hu) (by simp)
        refine step_tm rfl ?_
        refine step_app_full eiTrust rfl _ _ rfl a l.length cells rfl hts.len holds 1 [.int .i64 th, .slice A1 n1 c1, .slice A2 n2 c2] 29 _ rfl rfl (by omega) rfl (by omega) (by unfold maxLen; omega) ?_
        intro A5 c5 w5 own5 F5
        have F6 := Fd.pure F5
        refine hK.out _ _ ⟨(Kd.fr F5 (by simp)).cell, F6⟩ (fun hH2 => ?_)
        clear hK K hH1
        try simp only [Act.put, List.setIfInBounds_toArray, List.set_cons_zero, List.set_cons_succ, List.getElem_toArray, List.getElem_cons_zero, List.getElem_cons_succ]
        refine wpAnyH_take (i := 9) (v := ?_) rfl (by kernel_rfl) (by kernel_rfl) (by kernel_rfl) (fun _ _ _ h => h) (Or.inl ⟨by rfl, ?_⟩) (by assumption) ?_
        rotate_left
        · (intro W hW; (try dsimp only at hW); go_simp; try with_reducible rfl)
        try simp only [Act.put, List.setIfInBounds_toArray, List.set_cons_zero, List.set_cons_succ, List.getElem_toArray, List.getElem_cons_zero, List.getElem_cons_succ]
        refine wpAnyH_done (by kernel_rfl) ?_ _
        go_wp2_with fail
        go_ret
        have F7 := F2.pure F6
        have hz5 := F5.size
        have hzw := F2.size
        have hzd := Fd.size
        have hln : (l ++ [t]).length = l.length + 1 := by simp
        refine ⟨A5, c5, cells ++ [.int .i64 th, .slice A1 n1 c1, .slice A2 n2 c2], by rw [HV.out, hln]; rfl, fun h => ?_, ?_, ?_, F7⟩
        · subst h
          rcases own5.2 with ⟨h, _⟩ | ⟨_, _, _, h, _⟩
          · injection h
          · injection h with h; cases h
        · rw [HV.out, hln]
          exact (SlD.own_dn own5).keep (fun k hk => ⟨.inr ⟨by have := hk.1; omega, hk.2⟩, rfl⟩)
        · rw [HV.out]
          have kk := dw_in (r := none) (fun b hb => ⟨HD.out b hb, by simp⟩) F7
          exact TrsD.append (TrsD.keep kk _ _ hts) (by simp only [TrsD]; exact ⟨_, _, _, [], rfl, TrD.keep kk _ _ ht, rfl⟩)
end Go.Proofs.YtpdhckbiioobhaaGreat

/- Walks: the reference's order of trusts, has, with. -/
import Derived.Test.YtidnnjgiogklaaaProg
import Derived.Test.YtidnnjgiogklaaaNrmP
import Derived.Test.YtidnnjgiogklaaaTB
import Derived.StillTailTactics
namespace Go.Proofs.Ytidnnjgiogklaaa
open Go.RowKit

theorem rsgn_any (a b : Int) (w : World) : Calls Try.prog 76 #[.int .i64 a, .int .i64 b] w fun e w' => e = .returned (.int .i64 (sgnI a b)) ∧ w = w' := by
  have H : Hid (sgnI a b = if a < b then -1 else if b < a then 1 else 0) := by unfold Hid sgnI; rfl
  by_cases h1 : a < b
  · go_enter Try.func76, Try.ntmps76
    go_wp2
    go_ret
    exact ⟨ret_int (by rw [H.out, if_pos h1]), rfl⟩
  · by_cases h2 : b < a
    · go_enter Try.func76, Try.ntmps76
      go_wp2
      go_ret
      exact ⟨ret_int (by rw [H.out, if_neg (by omega), if_pos (by omega)]), rfl⟩
    · go_enter Try.func76, Try.ntmps76
      go_wp2
      go_ret
      exact ⟨ret_int (by rw [H.out, if_neg (by omega), if_neg (by omega)]), rfl⟩

theorem rsign_fix (a b C : Int) (hC : Hid (C = sgnI a b)) (w : World) : Calls Try.prog 76 #[.int .i64 a, .int .i64 b] w fun e w' => e = .returned (.int .i64 C) ∧ w' = w :=
  (rsgn_any a b w).mono fun e w' ⟨h, hw⟩ => ⟨by rw [h, hC.out], hw.symm⟩

set_option maxRecDepth 100000 in
theorem rhasn_any (l : List Int) (k : Int) (v : Value) (w : World) (hl : SlI w none v l) : Calls Try.prog 49 #[v, .int .i64 k] w fun e w' => e = .returned (.bool (l.any fun x => decide (x = k))) ∧ w = w' := by
  obtain ⟨A, c, rfl, q1, q2, hc⟩ := hl.open_
  clear hl
  go_enter Try.func49, Try.ntmps49
  go_wp2
  go_loop [9] (fun i => ∃ j : Nat, j ≤ l.length ∧ i = .int .i64 (j : Int) ∧ Hid ((l.any fun x => decide (x = k)) = (l.drop j).any fun x => decide (x = k))) (fun i => l.length - (intOf i).toNat)
  case atStart => exact ⟨0, Nat.zero_le _, rfl, by simp [Hid]⟩
  case round =>
    obtain ⟨j, hj, rfl, HJ⟩ := hrel
    by_cases hlt : j < l.length
    · obtain ⟨b, off, rfl, hb, _, hcc⟩ := hc (by omega)
      have hck := hcc j hlt
      have hd2 : Hid (l.drop j = l[j] :: l.drop (j + 1)) := List.drop_eq_getElem_cons hlt
      clear hcc hc
      obtain ⟨x, hx⟩ : ∃ x, x = l[j] := ⟨_, rfl⟩
      rw [← hx] at hck hd2
      clear hx
      by_cases he : x = k
      · subst he
        go_wp2
        go_ret
        exact ⟨ret_bool (by rw [HJ.out, hd2.out]; simp), rfl⟩
      · have he1 : (x == k) = false := by rw [beq_eq_false_iff_ne]; exact he
        have HE := Lib.hid he
        clear he
        go_wp2
        go_round
        case rel => exact ⟨j + 1, by omega, by go_num, by unfold Hid; rw [HJ.out, hd2.out, List.any_cons, decide_eq_false HE.out]; rfl⟩
        case measure => simp [intOf]; omega
    · obtain rfl : j = l.length := by omega
      go_wp2
      go_ret
      exact ⟨ret_bool (by rw [HJ.out]; simp), rfl⟩

theorem cmpNs_end : ∀ (k : Nat) (a b : List Int), k ≤ a.length → k ≤ b.length → (a.length ≤ k ∨ b.length ≤ k) → cmpNs (a.drop k) (b.drop k) = sgnI a.length b.length := by
  intro k a b h1 h2 h3
  have e1 : a.length = k + (a.drop k).length := by simp; omega
  have e2 : b.length = k + (b.drop k).length := by simp; omega
  generalize a.drop k = x at *
  generalize b.drop k = y at *
  unfold sgnI
  cases x with
  | nil =>
    cases y with
    | nil => simp at e1 e2; simp [cmpNs, e1, e2]
    | cons y s => simp at e1 e2; rw [if_pos (by omega)]; simp [cmpNs]
  | cons x r =>
    cases y with
    | nil => simp at e1 e2; rw [if_neg (by omega), if_pos (by omega)]; simp [cmpNs]
    | cons y s => simp at e1 e2; omega
theorem cmpTs_end : ∀ (k : Nat) (a b : List Tr), k ≤ a.length → k ≤ b.length → (a.length ≤ k ∨ b.length ≤ k) → cmpTs (a.drop k) (b.drop k) = sgnI a.length b.length := by
  intro k a b h1 h2 h3
  have e1 : a.length = k + (a.drop k).length := by simp; omega
  have e2 : b.length = k + (b.drop k).length := by simp; omega
  generalize a.drop k = x at *
  generalize b.drop k = y at *
  unfold sgnI
  cases x with
  | nil =>
    cases y with
    | nil => simp at e1 e2; simp [cmpTs, e1, e2]
    | cons y s => simp at e1 e2; rw [if_pos (by omega)]; simp [cmpTs]
  | cons x r =>
    cases y with
    | nil => simp at e1 e2; rw [if_neg (by omega), if_pos (by omega)]; simp [cmpTs]
    | cons y s => simp at e1 e2; omega

set_option maxRecDepth 100000 in
set_option maxHeartbeats 4000000 in
theorem rcmp_any (d : Nat) : ∀ (a b : Tr) (va vb : Value) (w : World) (r : Option Nat), a.dep ≤ d → TrR w r va a → TrR w r vb b →
    Calls Try.prog 68 #[va, vb] w fun e w' => e = .returned (.int .i64 (cmpT a b)) ∧ Fr none w w' := by
  induction d with
  | zero =>
    intro a b va vb w r hd
    cases a
    simp [Tr.dep] at hd
  | succ d ih =>
    intro a b va vb w r hd ha hb
    obtain ⟨t1, n1, i1⟩ := a
    obtain ⟨t2, n2, i2⟩ := b
    obtain ⟨A, c, A', c', rfl, hthr, hn, hn2, hi2, hi3, hi4, hcell⟩ := ha.open_
    obtain ⟨B, e, B', e', rfl, kthr, kn, kn2, ki2, ki3, ki4, kcell⟩ := hb.open_
    have hdi : depL i1 ≤ d := by simp only [Tr.dep] at hd; omega
    have HE : Hid (cmpT (.mk t1 n1 i1) (.mk t2 n2 i2) = if sgnI t1 t2 ≠ 0 then sgnI t1 t2 else if cmpNs n1 n2 ≠ 0 then cmpNs n1 n2 else cmpTs i1 i2) := by unfold Hid; simp only [cmpT]
    clear hd ha hb
    go_enter Try.func68, Try.ntmps68
    go_upto_region 1 with (fail)
    generalize hW : (w.alloc _).alloc _ = w1
    have F1 : Fr none w w1 := hW ▸ ((Fr.refl none w).alloc _).alloc _
    have b0 : TB w1 w.heap.size (.int .i64 t1) (.slice A n1.length c) (.slice A' i1.length c') := by rw [← hW]; exact (Below.heap_alloc _ _ _ (by simp)).trans (blk_new _ _)
    have b1 : TB w1 (w.heap.size + 1) (.int .i64 t2) (.slice B n2.length e) (.slice B' i2.length e') := by rw [← hW]; exact blk_new_at (by simp) _
    clear hW
    have hn1 := hn.fr (F1.mono (r := r))
    have kn1 := kn.fr (F1.mono (r := r))
    obtain ⟨_, _, e0, _, _, hnc⟩ := hn1.open_
    injection e0 with e01 _ e03
    subst e01 e03
    obtain ⟨_, _, e0, _, _, knc⟩ := kn1.open_
    injection e0 with e01 _ e03
    subst e01 e03
    have R0 := b0.cell
    have R1 := b1.cell
    clear hn kn hn1 kn1
    obtain ⟨C1, hC1⟩ : ∃ C, C = sgnI t1 t2 := ⟨_, rfl⟩
    rw [← hC1] at HE
    have HC1 := Lib.hid hC1
    clear hC1
    by_cases hc1 : C1 = 0
    · subst hc1
      have HF : Hid (cmpT (.mk t1 n1 i1) (.mk t2 n2 i2) = if cmpNs n1 n2 ≠ 0 then cmpNs n1 n2 else cmpTs i1 i2) := by unfold Hid; rw [HE.out, if_neg (by simp)]
      clear HE
      go_wp2_with (go_at_call 76; (with_reducible refine (rsgn_any _ _ _).mono ?_); rintro e w' ⟨rfl, rfl⟩; rw [← HC1.out])
      go_loopw [6, 7] (fun s6 s7 wr => ∃ k : Nat, s6 = .int .i64 (k : Int) ∧ k ≤ n1.length ∧ k ≤ n2.length ∧ Fr none w1 wr ∧ Hid (cmpNs n1 n2 = cmpNs (n1.drop k) (n2.drop k))) (fun s6 _ _ => n1.length - (intOf s6).toNat)
      case atStart => exact ⟨0, rfl, Nat.zero_le _, Nat.zero_le _, Fr.refl _ _, by simp [Hid]⟩
      case round =>
        clear R0 R1
        obtain ⟨k, rfl, hk1, hk2, F, HK⟩ := hrel
        have R0 := (b0.fr F (by simp)).cell
        have R1 := (b1.fr F (by simp)).cell
        by_cases hlt : k < n1.length ∧ k < n2.length
        · obtain ⟨h1, h2⟩ := hlt
          obtain ⟨p, o, rfl, p1, p2, hcc⟩ := hnc (by omega)
          obtain ⟨q, u, rfl, q1, q2, kcc⟩ := knc (by omega)
          have d1 := F.keep (hcc k h1) (by simp)
          have d2 := F.keep (kcc k h2) (by simp)
          have hd1 : Hid (n1.drop k = n1[k] :: n1.drop (k + 1)) := List.drop_eq_getElem_cons h1
          have hd2 : Hid (n2.drop k = n2[k] :: n2.drop (k + 1)) := List.drop_eq_getElem_cons h2
          obtain ⟨x, hx⟩ : ∃ x, x = n1[k] := ⟨_, rfl⟩
          obtain ⟨y, hy⟩ : ∃ y, y = n2[k] := ⟨_, rfl⟩
          rw [← hx] at d1 hd1
          rw [← hy] at d2 hd2
          obtain ⟨C2, hC2⟩ : ∃ C, C = sgnI x y := ⟨_, rfl⟩
          have HC2 := Lib.hid hC2
          have HK2 : Hid (cmpNs n1 n2 = if C2 ≠ 0 then C2 else cmpNs (n1.drop (k + 1)) (n2.drop (k + 1))) := by unfold Hid; rw [HK.out, hd1.out, hd2.out, hC2]; rfl
          clear hx hy hC2 hnc knc hcc kcc HK
          by_cases hc2 : C2 = 0
          · subst hc2
            go_wp2_with fail
            go_quiet ((go_at_call 76; exact Calls.quiet_of_same (rsign_fix x y _ HC2 _)))
            go_wp2_with fail
            go_roundw
            case rel => exact ⟨k + 1, by go_num, by omega, by omega, F.drewN _, by unfold Hid; rw [HK2.out, if_neg (by simp)]⟩
            case measure => simp [intOf]; omega
          · have hb2 : (C2 != 0) = true := by rw [bne_iff_ne]; exact hc2
            have HFF : Hid (cmpT (.mk t1 n1 i1) (.mk t2 n2 i2) = C2) := by unfold Hid; rw [HF.out, HK2.out, if_pos hc2, if_pos hc2]
            clear hc2
            go_wp2_with fail
            go_quiet ((go_at_call 76; exact Calls.quiet_of_same (rsign_fix x y _ HC2 _)))
            go_wp2_with fail
            go_ret
            exact ⟨ret_int (by rw [HFF.out]), F1.pure (F.drewN _)⟩
        · have hend : cmpNs n1 n2 = sgnI n1.length n2.length := by rw [HK.out]; exact cmpNs_end k n1 n2 hk1 hk2 (by omega)
          obtain ⟨C3, hC3⟩ : ∃ C, C = sgnI n1.length n2.length := ⟨_, rfl⟩
          rw [← hC3] at hend
          have HC3 := Lib.hid hC3
          have HG : Hid (cmpT (.mk t1 n1 i1) (.mk t2 n2 i2) = if C3 ≠ 0 then C3 else cmpTs i1 i2) := by unfold Hid; rw [HF.out, hend]
          clear hC3 hend HK hnc knc HF
          by_cases hg1 : k < n1.length
          · have hg2 : ¬ k < n2.length := by omega
            clear hlt
            by_cases hc3 : C3 = 0
            · subst hc3
              have HH : Hid (cmpT (.mk t1 n1 i1) (.mk t2 n2 i2) = cmpTs i1 i2) := by unfold Hid; rw [HG.out, if_neg (by simp)]
              clear HG
              go_wp2_with (go_at_call 76; (with_reducible refine (rsgn_any _ _ _).mono ?_); rintro e w' ⟨rfl, rfl⟩; rw [← HC3.out])
              have F2 := F1.pure F
              have b0' := b0.fr F (by simp)
              have b1' := b1.fr F (by simp)
              clear R0 R1 b0 b1 F F1
              obtain ⟨wo, hwo⟩ : ∃ wo : World, wo = wr := ⟨_, rfl⟩
              subst hwo
              go_loopw [9, 10] (fun s9 s10 wr => ∃ k : Nat, s9 = .int .i64 (k : Int) ∧ k ≤ i1.length ∧ k ≤ i2.length ∧ Fr none wo wr ∧ Hid (cmpTs i1 i2 = cmpTs (i1.drop k) (i2.drop k))) (fun s9 _ _ => i1.length - (intOf s9).toNat)
              case atStart => exact ⟨0, rfl, Nat.zero_le _, Nat.zero_le _, Fr.refl _ _, by simp [Hid]⟩
              case round =>
                obtain ⟨k, rfl, hk1, hk2, F, HK⟩ := hrel
                have F3 := F2.pure F
                have R0 := (b0'.fr F (by simp)).cell
                have R1 := (b1'.fr F (by simp)).cell
                by_cases hlt : k < i1.length ∧ k < i2.length
                · obtain ⟨h1, h2⟩ := hlt
                  obtain ⟨p, o, rfl, p1, p2, hcc⟩ := hcell (by omega)
                  obtain ⟨q, u, rfl, q1, q2, kcc⟩ := kcell (by omega)
                  obtain ⟨x, y, z, g0, g1, g2, gt⟩ := hcc k h1
                  obtain ⟨th, X1, m1, y1, X2, m2, y2, rfl, rfl, rfl⟩ := gt.shape
                  obtain ⟨x', y', z', l0, l1, l2, lt⟩ := kcc k h2
                  obtain ⟨th', x1, v1, z1, x2, v2, z2, rfl, rfl, rfl⟩ := lt.shape
                  have g0' := F3.keep g0 (by simp)
                  have g1' := F3.keep g1 (by simp)
                  have g2' := F3.keep g2 (by simp)
                  have l0' := F3.keep l0 (by simp)
                  have l1' := F3.keep l1 (by simp)
                  have l2' := F3.keep l2 (by simp)
                  have hdd : (i1[k]).dep ≤ d := by have := depL_get i1 k h1; omega
                  have gt' := gt.fr (F3.mono (r := r))
                  have lt' := lt.fr (F3.mono (r := r))
                  have hd1 : i1.drop k = i1[k] :: i1.drop (k + 1) := List.drop_eq_getElem_cons h1
                  have hd2 : i2.drop k = i2[k] :: i2.drop (k + 1) := List.drop_eq_getElem_cons h2
                  obtain ⟨C4, hC4⟩ : ∃ C, C = cmpT i1[k] i2[k] := ⟨_, rfl⟩
                  have HC4 := Lib.hid hC4
                  have HK2 : Hid (cmpTs i1 i2 = if C4 ≠ 0 then C4 else cmpTs (i1.drop (k + 1)) (i2.drop (k + 1))) := by unfold Hid; rw [HK.out, hd1, hd2, hC4]; simp only [cmpTs]
                  clear hC4 hcell kcell hcc kcc HK g0 g1 g2 l0 l1 l2 hd1 hd2
                  go_wp2_with fail
                  go_still_tail 10, (by kernel_rfl)
                  change wpList _ _ _ _ _ wr.drew
                  go_wp2_with fail
                  refine (ih i1[k] i2[k] _ _ _ r hdd (gt'.fr (Fr.refl _ _).drew) (lt'.fr (Fr.refl _ _).drew)).mono ?_
                  rintro e3 w2 ⟨rfl, F4⟩
                  rw [← HC4.out]
                  have F5 : Fr none wr w2 := (Fr.refl _ _).drew.pure F4
                  clear g0' g1' g2' l0' l1' l2' R0 R1
                  by_cases hc4 : C4 = 0
                  · subst hc4
                    go_wp2_with fail
                    go_roundw
                    case rel => exact ⟨k + 1, by go_num, by omega, by omega, F.pure F5, by unfold Hid; rw [HK2.out, if_neg (by simp)]⟩
                    case measure => simp [intOf]; omega
                  · have hb4 : (C4 != 0) = true := by rw [bne_iff_ne]; exact hc4
                    have HFF : Hid (cmpT (.mk t1 n1 i1) (.mk t2 n2 i2) = C4) := by unfold Hid; rw [HH.out, HK2.out, if_pos hc4]
                    clear hc4
                    go_wp2_with fail
                    go_ret
                    exact ⟨ret_int (by rw [HFF.out]), F3.pure F5⟩
                · have hend : cmpTs i1 i2 = sgnI i1.length i2.length := by rw [HK.out]; exact cmpTs_end k i1 i2 hk1 hk2 (by omega)
                  obtain ⟨C5, hC5⟩ : ∃ C, C = sgnI i1.length i2.length := ⟨_, rfl⟩
                  have HC5 := Lib.hid hC5
                  have HZ : Hid (cmpT (.mk t1 n1 i1) (.mk t2 n2 i2) = C5) := by unfold Hid; rw [HH.out, hend, hC5]
                  clear hC5 hend HK
                  by_cases hg1 : k < i1.length
                  · have hg2 : ¬ k < i2.length := by omega
                    clear hlt
                    go_wp2_with (go_at_call 76; (with_reducible refine (rsgn_any _ _ _).mono ?_); rintro e w' ⟨rfl, rfl⟩; rw [← HC5.out])
                    go_ret
                    exact ⟨ret_int (by rw [HZ.out]), F3⟩
                  · clear hlt
                    go_wp2_with (go_at_call 76; (with_reducible refine (rsgn_any _ _ _).mono ?_); rintro e w' ⟨rfl, rfl⟩; rw [← HC5.out])
                    go_ret
                    exact ⟨ret_int (by rw [HZ.out]), F3⟩
            · have hb3 : (C3 != 0) = true := by rw [bne_iff_ne]; exact hc3
              have HFF : Hid (cmpT (.mk t1 n1 i1) (.mk t2 n2 i2) = C3) := by unfold Hid; rw [HG.out, if_pos hc3]
              clear hc3 HG
              go_wp2_with (go_at_call 76; (with_reducible refine (rsgn_any _ _ _).mono ?_); rintro e w' ⟨rfl, rfl⟩; rw [← HC3.out])
              go_ret
              exact ⟨ret_int (by rw [HFF.out]), F1.pure F⟩
          · clear hlt
            by_cases hc3 : C3 = 0
            · subst hc3
              have HH : Hid (cmpT (.mk t1 n1 i1) (.mk t2 n2 i2) = cmpTs i1 i2) := by unfold Hid; rw [HG.out, if_neg (by simp)]
              clear HG
              go_wp2_with (go_at_call 76; (with_reducible refine (rsgn_any _ _ _).mono ?_); rintro e w' ⟨rfl, rfl⟩; rw [← HC3.out])
              have F2 := F1.pure F
              have b0' := b0.fr F (by simp)
              have b1' := b1.fr F (by simp)
              clear R0 R1 b0 b1 F F1
              obtain ⟨wo, hwo⟩ : ∃ wo : World, wo = wr := ⟨_, rfl⟩
              subst hwo
              go_loopw [9, 10] (fun s9 s10 wr => ∃ k : Nat, s9 = .int .i64 (k : Int) ∧ k ≤ i1.length ∧ k ≤ i2.length ∧ Fr none wo wr ∧ Hid (cmpTs i1 i2 = cmpTs (i1.drop k) (i2.drop k))) (fun s9 _ _ => i1.length - (intOf s9).toNat)
              case atStart => exact ⟨0, rfl, Nat.zero_le _, Nat.zero_le _, Fr.refl _ _, by simp [Hid]⟩
              case round =>
                obtain ⟨k, rfl, hk1, hk2, F, HK⟩ := hrel
                have F3 := F2.pure F
                have R0 := (b0'.fr F (by simp)).cell
                have R1 := (b1'.fr F (by simp)).cell
                by_cases hlt : k < i1.length ∧ k < i2.length
                · obtain ⟨h1, h2⟩ := hlt
                  obtain ⟨p, o, rfl, p1, p2, hcc⟩ := hcell (by omega)
                  obtain ⟨q, u, rfl, q1, q2, kcc⟩ := kcell (by omega)
                  obtain ⟨x, y, z, g0, g1, g2, gt⟩ := hcc k h1
                  obtain ⟨th, X1, m1, y1, X2, m2, y2, rfl, rfl, rfl⟩ := gt.shape
                  obtain ⟨x', y', z', l0, l1, l2, lt⟩ := kcc k h2
                  obtain ⟨th', x1, v1, z1, x2, v2, z2, rfl, rfl, rfl⟩ := lt.shape
                  have g0' := F3.keep g0 (by simp)
                  have g1' := F3.keep g1 (by simp)
                  have g2' := F3.keep g2 (by simp)
                  have l0' := F3.keep l0 (by simp)
                  have l1' := F3.keep l1 (by simp)
                  have l2' := F3.keep l2 (by simp)
                  have hdd : (i1[k]).dep ≤ d := by have := depL_get i1 k h1; omega
                  have gt' := gt.fr (F3.mono (r := r))
                  have lt' := lt.fr (F3.mono (r := r))
                  have hd1 : i1.drop k = i1[k] :: i1.drop (k + 1) := List.drop_eq_getElem_cons h1
                  have hd2 : i2.drop k = i2[k] :: i2.drop (k + 1) := List.drop_eq_getElem_cons h2
                  obtain ⟨C4, hC4⟩ : ∃ C, C = cmpT i1[k] i2[k] := ⟨_, rfl⟩
                  have HC4 := Lib.hid hC4
                  have HK2 : Hid (cmpTs i1 i2 = if C4 ≠ 0 then C4 else cmpTs (i1.drop (k + 1)) (i2.drop (k + 1))) := by unfold Hid; rw [HK.out, hd1, hd2, hC4]; simp only [cmpTs]
                  clear hC4 hcell kcell hcc kcc HK g0 g1 g2 l0 l1 l2 hd1 hd2
                  go_wp2_with fail
                  go_still_tail 10, (by kernel_rfl)
                  change wpList _ _ _ _ _ wr.drew
                  go_wp2_with fail
                  refine (ih i1[k] i2[k] _ _ _ r hdd (gt'.fr (Fr.refl _ _).drew) (lt'.fr (Fr.refl _ _).drew)).mono ?_
                  rintro e3 w2 ⟨rfl, F4⟩
                  rw [← HC4.out]
                  have F5 : Fr none wr w2 := (Fr.refl _ _).drew.pure F4
                  clear g0' g1' g2' l0' l1' l2' R0 R1
                  by_cases hc4 : C4 = 0
                  · subst hc4
                    go_wp2_with fail
                    go_roundw
                    case rel => exact ⟨k + 1, by go_num, by omega, by omega, F.pure F5, by unfold Hid; rw [HK2.out, if_neg (by simp)]⟩
                    case measure => simp [intOf]; omega
                  · have hb4 : (C4 != 0) = true := by rw [bne_iff_ne]; exact hc4
                    have HFF : Hid (cmpT (.mk t1 n1 i1) (.mk t2 n2 i2) = C4) := by unfold Hid; rw [HH.out, HK2.out, if_pos hc4]
                    clear hc4
                    go_wp2_with fail
                    go_ret
                    exact ⟨ret_int (by rw [HFF.out]), F3.pure F5⟩
                · have hend : cmpTs i1 i2 = sgnI i1.length i2.length := by rw [HK.out]; exact cmpTs_end k i1 i2 hk1 hk2 (by omega)
                  obtain ⟨C5, hC5⟩ : ∃ C, C = sgnI i1.length i2.length := ⟨_, rfl⟩
                  have HC5 := Lib.hid hC5
                  have HZ : Hid (cmpT (.mk t1 n1 i1) (.mk t2 n2 i2) = C5) := by unfold Hid; rw [HH.out, hend, hC5]
                  clear hC5 hend HK
                  by_cases hg1 : k < i1.length
                  · have hg2 : ¬ k < i2.length := by omega
                    clear hlt
                    go_wp2_with (go_at_call 76; (with_reducible refine (rsgn_any _ _ _).mono ?_); rintro e w' ⟨rfl, rfl⟩; rw [← HC5.out])
                    go_ret
                    exact ⟨ret_int (by rw [HZ.out]), F3⟩
                  · clear hlt
                    go_wp2_with (go_at_call 76; (with_reducible refine (rsgn_any _ _ _).mono ?_); rintro e w' ⟨rfl, rfl⟩; rw [← HC5.out])
                    go_ret
                    exact ⟨ret_int (by rw [HZ.out]), F3⟩
            · have hb3 : (C3 != 0) = true := by rw [bne_iff_ne]; exact hc3
              have HFF : Hid (cmpT (.mk t1 n1 i1) (.mk t2 n2 i2) = C3) := by unfold Hid; rw [HG.out, if_pos hc3]
              clear hc3 HG
              go_wp2_with (go_at_call 76; (with_reducible refine (rsgn_any _ _ _).mono ?_); rintro e w' ⟨rfl, rfl⟩; rw [← HC3.out])
              go_ret
              exact ⟨ret_int (by rw [HFF.out]), F1.pure F⟩
    · have hb1 : (C1 != 0) = true := by rw [bne_iff_ne]; exact hc1
      have HFF : Hid (cmpT (.mk t1 n1 i1) (.mk t2 n2 i2) = C1) := by unfold Hid; rw [HE.out, if_pos hc1]
      clear hc1 HE
      go_wp2_with (go_at_call 76; (with_reducible refine (rsgn_any _ _ _).mono ?_); rintro e w' ⟨rfl, rfl⟩; rw [← HC1.out])
      go_ret
      exact ⟨ret_int (by rw [HFF.out]), F1⟩
end Go.Proofs.Ytidnnjgiogklaaa

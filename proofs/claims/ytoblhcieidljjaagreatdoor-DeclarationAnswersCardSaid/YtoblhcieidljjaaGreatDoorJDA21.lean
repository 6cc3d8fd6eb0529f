/- Some texts of this claim, joined: contracts of the functions that it reaches, and plain laws. -/
import Derived.Test.YtoblhcieidljjaaGreatDoorProg
import Derived.Test.YtoblhcieidljjaaGreatDoorJDA1
import Derived.Test.YtoblhcieidljjaaGreatDoorJDA3
import Derived.Test.YtoblhcieidljjaaGreatDoorJDA7
import Derived.StillTailTactics

set_option linter.unusedSimpArgs false
set_option linter.unusedVariables false
/- Walks: the reference's Same of lists and of trusts. -/
namespace Go.Proofs.YtoblhcieidljjaaGreatDoor
open Go.RowKit

set_option maxRecDepth 100000 in
theorem rsameI_any (a b : List Int) (va vb : Value) (w : World) (ha : SlI w none va a) (hb : SlI w none vb b) :
    Calls Tryz.prog 129 #[va, vb] w fun e w' => e = .returned (.bool (decide (a = b))) ∧ Fr none w w' := by
  have HA := Lib.hid ha
  have HB := Lib.hid hb
  obtain ⟨A, c, rfl, q1, q2, hc⟩ := ha.open_
  obtain ⟨B, d, rfl, q3, q4, hd⟩ := hb.open_
  clear ha hb
  by_cases hl : a.length = b.length
  · have HL := Lib.hid hl
    obtain ⟨n, hn⟩ : ∃ n, n = a.length := ⟨_, rfl⟩
    have HN := Lib.hid hn
    have HN2 := Lib.hid (hn.trans hl)
    have hn2 : n = b.length := hn.trans hl
    have hc' : 0 < n → _ := fun h => hc (by omega)
    have hd' : 0 < n → _ := fun h => hd (by omega)
    rw [← hn] at HA q1 ⊢
    rw [← hn2] at HB q3 ⊢
    clear hl hn hn2 hc hd
    have hc := hc'
    have hd := hd'
    clear hc' hd'
    go_enter Tryz.func129, Tryz.ntmps129
    go_wp2_with fail
    go_loopw [13, 5, 15, 16, 17, 18, 19, 20, 21, 22, 23, 24, 14] (fun i s5 s15 s16 s17 s18 s19 s20 s21 s22 s23 s24 s14 wr => ∃ k : Nat, k ≤ n ∧ i = .int .i64 k ∧ Fr none w wr ∧ ∀ j (h1 : j < a.length) (h2 : j < b.length), j < k → a[j] = b[j]) (fun i _ _ _ _ _ _ _ _ _ _ _ _ _ => n - (intOf i).toNat)
    case atStart => exact ⟨0, Nat.zero_le _, rfl, Fr.refl _ _, fun j h1 h2 h => by omega⟩
    case round =>
      obtain ⟨k, hk, rfl, F, hall⟩ := hrel
      have HH := Lib.hid hall
      clear hall
      by_cases hlt : k < n
      · obtain ⟨b1, o1, rfl, hb1, hx1, hc1⟩ := hc (by omega)
        obtain ⟨b2, o2, rfl, hb2, hx2, hc2⟩ := hd (by omega)
        have k1 : k < a.length := by have := HN.out; omega
        have k2 : k < b.length := by have := HN2.out; omega
        have d1 : wr.cell? ⟨b1, o1 + k, none⟩ = some (.int .i64 a[k]) := F.keep (hc1 k k1) (by simp)
        have d2 : wr.cell? ⟨b2, o2 + k, none⟩ = some (.int .i64 b[k]) := F.keep (hc2 k k2) (by simp)
        clear hc hd hc1 hc2
        obtain ⟨x, hx⟩ : ∃ x, x = a[k] := ⟨_, rfl⟩
        obtain ⟨y, hy⟩ : ∃ y, y = b[k] := ⟨_, rfl⟩
        rw [← hx] at d1
        rw [← hy] at d2
        have HX := Lib.hid hx
        have HY := Lib.hid hy
        clear hx hy
        by_cases he : x = y
        · have HE := Lib.hid he
          subst he
          go_wp2_with fail
          go_quiet (fail)
          go_wp2_with fail
          go_roundw
          case rel => exact ⟨k + 1, by omega, by go_num, F.drewN _, fun j h1 h2 h => by
            by_cases e : j = k
            · subst e; rw [← HX.out, ← HY.out]
            · exact HH.out j h1 h2 (by omega)⟩
          case measure => simp [intOf]; omega
        · have hne : a ≠ b := fun h => by
            apply he
            rw [HX.out, HY.out]
            subst h
            rfl
          have HE := Lib.hid hne
          clear hne
          go_wp2_with fail
          go_quiet (fail)
          go_wp2_with fail
          go_ret
          exact ⟨ret_bool (by rw [decide_eq_false HE.out]), F.drewN _⟩
      · obtain rfl : k = n := by omega
        go_wp2_with fail
        go_ret
        refine ⟨ret_bool ?_, F⟩
        symm
        rw [decide_eq_true_eq]
        apply List.ext_getElem HL.out
        intro j h1 h2
        exact HH.out j h1 h2 (by rw [HN.out]; exact h1)
  · have hne : ¬ a = b := fun h => hl (by rw [h])
    have HE := Lib.hid hne
    clear hne
    have hl2 : ¬ ((a.length : Int) = (b.length : Int)) := by omega
    go_enter Tryz.func129, Tryz.ntmps129
    go_wp2_with fail
    go_ret
    exact ⟨ret_bool (by rw [decide_eq_false HE.out]), Fr.refl _ _⟩

set_option maxRecDepth 100000 in
set_option maxHeartbeats 2000000 in
theorem rsame_any (d : Nat) : ∀ (a b : Tr) (va vb : Value) (w : World) (r : Option Nat), a.dep ≤ d → TrR w r va a → TrR w r vb b →
    Calls Tryz.prog 85 #[va, vb] w fun e w' => e = .returned (.bool (sameT a b)) ∧ Fr none w w' := by
  induction d with
  | zero =>
    intro a b va vb w r hd
    cases a
    simp [Tr.dep] at hd
  | succ d ih =>
    intro a b va vb w r hd ha hb
    obtain ⟨t1, n1, i1⟩ := a
    obtain ⟨t2, n2, i2⟩ := b
    obtain ⟨A, c, A', c', rfl, hthr, hn, hn2, hi2, hi3, hi4, hcell⟩ := ha.open_
    obtain ⟨B, e, B', e', rfl, kthr, kn, kn2, ki2, ki3, ki4, kcell⟩ := hb.open_
    have F0 := ((Fr.refl none w).alloc (.cells #[.int .i64 t1, .slice A n1.length c, .slice A' i1.length c'] 31)).alloc (.cells #[.int .i64 t2, .slice B n2.length e, .slice B' i2.length e'] 31)
    have hn' := (hn.weak).fr F0
    have kn' := (kn.weak).fr F0
    have hdi : depL i1 ≤ d := by simp only [Tr.dep] at hd; omega
    have HE : Hid (sameT (.mk t1 n1 i1) (.mk t2 n2 i2) = (decide (t1 = t2) && decide (n1 = n2) && sameL i1 i2)) := by unfold Hid; simp only [sameT]
    clear hd
    by_cases h1 : t1 = t2
    · subst h1
      by_cases h2 : n1 = n2
      · have H2 := Lib.hid h2
        by_cases h3 : i1.length = i2.length
        · have H3 := Lib.hid h3
          obtain ⟨n, hn0⟩ : ∃ n, n = i1.length := ⟨_, rfl⟩
          have hn3 : n = i2.length := hn0.trans h3
          have HF : Hid (sameT (.mk t1 n1 i1) (.mk t1 n2 i2) = sameL i1 i2) := by
            unfold Hid
            rw [HE.out, decide_eq_true h2]; simp
          have hd2 : decide (n1 = n2) = true := decide_eq_true h2
          have HD := Lib.hid hd2
          have hcell' : 0 < n → _ := fun h => hcell (by omega)
          have kcell' : 0 < n → _ := fun h => kcell (by omega)
          have HN0 := Lib.hid hn0
          have HN3 := Lib.hid hn3
          rw [← hn0, ← hn3] at F0 hn' kn'
          rw [← hn0] at hi2 hi3
          rw [← hn3] at ki2 ki3
          rw [← hn0, ← hn3]
          clear HE h3 h2 hd2 hcell kcell hn0 hn3 ha hb hn kn
          go_enter Tryz.func85, Tryz.ntmps85
          go_wp2_with fail
          refine (rsameI_any n1 n2 _ _ _ hn' kn').mono ?_
          rintro e1 w1 ⟨rfl, F1⟩
          rw [HD.out]
          have B0 : Hid (((w.alloc (.cells #[.int .i64 t1, .slice A n1.length c, .slice A' n c'] 31)).alloc (.cells #[.int .i64 t1, .slice B n2.length e, .slice B' n e'] 31)).heap[w.heap.size]? = some (.cells #[.int .i64 t1, .slice A n1.length c, .slice A' n c'] 31 (0, 0))) := (Below.heap_alloc _ _ _ (by simp)).trans (blk_new _ _)
          have B1 : Hid (((w.alloc (.cells #[.int .i64 t1, .slice A n1.length c, .slice A' n c'] 31)).alloc (.cells #[.int .i64 t1, .slice B n2.length e, .slice B' n e'] 31)).heap[w.heap.size + 1]? = some (.cells #[.int .i64 t1, .slice B n2.length e, .slice B' n e'] 31 (0, 0))) := blk_new_at (by simp) _
          have b0 := blk_fr B0.out F1 (by simp)
          have b1 := blk_fr B1.out F1 (by simp)
          have F01 := F0.pure F1
          have C0 := Lib.hid b0
          have C1 := Lib.hid b1
          have R0 := blk_cell b0
          have R1 := blk_cell b1
          clear B0 B1 b0 b1 F0 F1 hn' kn'
          go_wp2_with fail
          go_loopw [31, 5] (fun i s5 wr => ∃ k : Nat, k ≤ n ∧ i = .int .i64 k ∧ Fr none w1 wr ∧ Hid (sameL i1 i2 = sameL (i1.drop k) (i2.drop k))) (fun i _ _ => n - (intOf i).toNat)
          case atStart => exact ⟨0, Nat.zero_le _, rfl, Fr.refl _ _, by simp [Hid]⟩
          case round =>
            obtain ⟨k, hk, rfl, F, HS⟩ := hrel
            have F02 := F01.pure F
            by_cases hlt : k < n
            · obtain ⟨p, o, rfl, p1, p2, hc⟩ := hcell' (by omega)
              obtain ⟨q, u, rfl, q1, q2, kc⟩ := kcell' (by omega)
              have k1 : k < i1.length := by have := HN0.out; omega
              have k2 : k < i2.length := by have := HN3.out; omega
              obtain ⟨x, y, z, g0, g1, g2, gt⟩ := hc k k1
              obtain ⟨th, A1, m1, c1, A2, m2, c2, rfl, rfl, rfl⟩ := gt.shape
              obtain ⟨x', y', z', l0, l1, l2, lt⟩ := kc k k2
              obtain ⟨th', a1, v1, e1, a2, v2, e2, rfl, rfl, rfl⟩ := lt.shape
              have r0 := blk_cell (blk_fr C0.out F (by simp))
              have r1 := blk_cell (blk_fr C1.out F (by simp))
              have g0' := F02.keep g0 (by simp)
              have g1' := F02.keep g1 (by simp)
              have g2' := F02.keep g2 (by simp)
              have l0' := F02.keep l0 (by simp)
              have l1' := F02.keep l1 (by simp)
              have l2' := F02.keep l2 (by simp)
              have hdd : (i1[k]).dep ≤ d := by have := depL_get i1 k k1; omega
              have hst := sameL_drop i1 i2 k k1 k2
              have HST := Lib.hid hst
              have gt' := gt.fr (F02.mono (r := r))
              have lt' := lt.fr (F02.mono (r := r))
              clear g0 g1 g2 l0 l1 l2 hc kc hst R0 R1
              obtain ⟨X, hX⟩ : ∃ X, X = sameT i1[k] i2[k] := ⟨_, rfl⟩
              rw [← hX] at HST
              have HX := Lib.hid hX
              clear hX
              go_wp2_with fail
              go_still_tail 10, (by kernel_rfl)
              change wpList _ _ _ _ _ wr.drew
              go_wp2_with fail
              refine (ih i1[k] i2[k] _ _ _ r hdd (gt'.fr (Fr.refl _ _).drew) (lt'.fr (Fr.refl _ _).drew)).mono ?_
              rintro e3 w2 ⟨rfl, F2⟩
              rw [← HX.out]
              have F3 : Fr none wr w2 := (Fr.refl _ _).drew.pure F2
              clear g0' g1' g2' l0' l1' l2' r0 r1
              cases X with
              | true =>
                go_wp2_with fail
                go_roundw
                case rel => exact ⟨k + 1, by omega, by go_num, F.pure F3, by unfold Hid; rw [HS.out, HST.out]; simp⟩
                case measure => simp [intOf]; omega
              | false =>
                go_wp2_with fail
                go_ret
                exact ⟨ret_bool (by rw [HF.out, HS.out, HST.out]; simp), F02.pure F3⟩
            · obtain rfl : k = n := by omega
              go_wp2_with fail
              go_ret
              refine ⟨ret_bool ?_, F02⟩
              rw [HF.out, HS.out, List.drop_eq_nil_of_le (by have := HN0.out; omega), List.drop_eq_nil_of_le (by have := HN3.out; omega)]
              simp [sameL]
        · have HF : Hid (sameT (.mk t1 n1 i1) (.mk t1 n2 i2) = false) := by
            unfold Hid
            rw [HE.out]
            have : sameL i1 i2 = false := by
              cases hc : sameL i1 i2
              · rfl
              · exact absurd (sameL_len _ _ hc) h3
            rw [this]; simp
          have h3' : ((i1.length : Int) != (i2.length : Int)) = true := by rw [bne_iff_ne]; omega
          have hd2 : decide (n1 = n2) = true := decide_eq_true h2
          have HD := Lib.hid hd2
          clear HE h3 h2 hd2
          go_enter Tryz.func85, Tryz.ntmps85
          go_wp2_with fail
          refine (rsameI_any n1 n2 _ _ _ hn' kn').mono ?_
          rintro e1 w1 ⟨rfl, F1⟩
          rw [HD.out]
          have B0 := blk_cell (blk_fr ((Below.heap_alloc _ _ _ (by simp)).trans (blk_new w (.cells #[.int .i64 t1, .slice A n1.length c, .slice A' i1.length c'] 31))) F1 (by simp))
          have B1 := blk_cell (blk_fr (blk_new_at (by simp) _) F1 (by simp) : w1.heap[w.heap.size + 1]? = some (.cells #[.int .i64 t1, .slice B n2.length e, .slice B' i2.length e'] 31 (0, 0)))
          go_wp2_with fail
          go_ret
          exact ⟨ret_bool (by rw [HF.out]), F0.pure F1⟩
      · have HF : Hid (sameT (.mk t1 n1 i1) (.mk t1 n2 i2) = false) := by
          unfold Hid
          rw [HE.out, decide_eq_false h2]; simp
        have hd2 : decide (n1 = n2) = false := decide_eq_false h2
        have HD := Lib.hid hd2
        clear HE h2 hd2
        go_enter Tryz.func85, Tryz.ntmps85
        go_wp2_with fail
        refine (rsameI_any n1 n2 _ _ _ hn' kn').mono ?_
        rintro e1 w1 ⟨rfl, F1⟩
        rw [HD.out]
        go_wp2_with fail
        go_ret
        exact ⟨ret_bool (by rw [HF.out]), F0.pure F1⟩
    · have HF : Hid (sameT (.mk t1 n1 i1) (.mk t2 n2 i2) = false) := by
        unfold Hid
        rw [HE.out, decide_eq_false h1]; simp
      have h1' : (t1 != t2) = true := by rw [bne_iff_ne]; exact h1
      clear HE h1
      go_enter Tryz.func85, Tryz.ntmps85
      go_wp2_with fail
      go_ret
      exact ⟨ret_bool (by rw [HF.out]), F0⟩
end Go.Proofs.YtoblhcieidljjaaGreatDoor

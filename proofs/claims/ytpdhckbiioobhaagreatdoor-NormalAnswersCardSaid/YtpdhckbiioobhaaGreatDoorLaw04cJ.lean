/- The law NormalCompares: its walk. -/
import Derived.Test.YtpdhckbiioobhaaGreatDoorProg
import Derived.Test.YtpdhckbiioobhaaGreatDoorJN20
import Derived.Test.YtpdhckbiioobhaaGreatDoorSmallWJ
import Derived.Test.YtpdhckbiioobhaaGreatDoorKtJ
set_option linter.unusedSimpArgs false
set_option linter.unusedVariables false
namespace Go.Proofs.YtpdhckbiioobhaaGreatDoor
open Go.RowKit

theorem cmp_fix (a b : Tr) (X : Int) (hX : Hid (X = cmpT a b)) (va vb : Value) (w : World) (ha : TrR w none va a) (hb : TrR w none vb b) :
    Calls Tryz.prog 29 #[va, vb] w fun e w' => e = .returned (.int .i64 X) ∧ Fr none w w' :=
  (cmp_any a.dep a b va vb w none (Nat.le_refl _) ha hb).mono fun e w' h => ⟨by rw [hX.out]; exact h.1, h.2.1⟩
theorem sgnI_val (a b : Int) : sgnI a b = -1 ∨ sgnI a b = 0 ∨ sgnI a b = 1 := by
  unfold sgnI
  split
  · exact .inl rfl
  · split
    · exact .inr (.inr rfl)
    · exact .inr (.inl rfl)
theorem cmpNs_val : ∀ a b : List Int, cmpNs a b = -1 ∨ cmpNs a b = 0 ∨ cmpNs a b = 1
  | [], [] => by simp [cmpNs]
  | [], _ :: _ => by simp [cmpNs]
  | _ :: _, [] => by simp [cmpNs]
  | x :: r, y :: s => by
    simp only [cmpNs]
    split
    · exact sgnI_val x y
    · exact cmpNs_val r s
mutual
theorem cmpT_val : ∀ a b : Tr, cmpT a b = -1 ∨ cmpT a b = 0 ∨ cmpT a b = 1
  | .mk t n i, .mk t' n' i' => by
    simp only [cmpT]
    split
    · exact sgnI_val t t'
    · split
      · exact cmpNs_val n n'
      · exact cmpTs_val i i'
theorem cmpTs_val : ∀ a b : List Tr, cmpTs a b = -1 ∨ cmpTs a b = 0 ∨ cmpTs a b = 1
  | [], [] => by simp [cmpTs]
  | [], _ :: _ => by simp [cmpTs]
  | _ :: _, [] => by simp [cmpTs]
  | x :: r, y :: s => by
    simp only [cmpTs]
    split
    · exact cmpT_val x y
    · exact cmpTs_val r s
end
theorem same_cmp (a b : Tr) : sameT a b = (cmpT a b == 0) := by
  by_cases h : a = b
  · rw [(sameT_iff a b).2 h, (cmpT_zero a b).2 h]; rfl
  · have h1 : sameT a b = false := by
      cases hc : sameT a b
      · rfl
      · exact absurd ((sameT_iff a b).1 hc) h
    rw [h1]
    exact (beq_eq_false_iff_ne.2 (fun e => h ((cmpT_zero a b).1 e))).symm

set_option maxRecDepth 100000 in
set_option maxHeartbeats 8000000 in
theorem law04c_any (va vb vc : Value) (a b c : Tr) (w : World) (ha : RwD w va a) (hb : RwD w vb b) (hc : RwD w vc c) (hT : Tab w) : Calls Tryz.prog 6 #[va, vb, vc] w fun e w' => e = .returned (.bool true) ∧ Fr none w w' := by
  obtain ⟨t1, A1, n1, c1, A2, n2, c2, rfl⟩ := ha.shape
  obtain ⟨t2, B1, m1, d1, B2, m2, d2, rfl⟩ := hb.shape
  obtain ⟨t3, C1, k1, e1, C2, k2, e2, rfl⟩ := hc.shape
  go_enter Tryz.func6, Tryz.ntmps6
  go_wp2_with fail
  generalize hW : ((w.alloc _).alloc _).alloc _ = w1
  have F1 : Fr none w w1 := hW ▸ (((Fr.refl _ w).alloc _).alloc _).alloc _
  have p1 : TB w1 w.heap.size (.int .i64 t1) (.slice A1 n1 c1) (.slice A2 n2 c2) := by
    rw [← hW]; exact (Below.heap_alloc _ _ _ (by simp; omega)).trans ((Below.heap_alloc _ _ _ (by simp)).trans (blk_new _ _))
  have p2 : TB w1 (w.heap.size + 1) (.int .i64 t2) (.slice B1 m1 d1) (.slice B2 m2 d2) := by
    rw [← hW]; exact (Below.heap_alloc _ _ _ (by simp)).trans (blk_new_at (by simp) _)
  have p3 : TB w1 (w.heap.size + 1 + 1) (.int .i64 t3) (.slice C1 k1 e1) (.slice C2 k2 e2) := by
    rw [← hW]; exact blk_new_at (by simp) _
  have ha1 := ha.fr F1
  have hb1 := hb.fr F1
  have hc1 := hc.fr F1
  have T1 := hT.fr F1
  have R1 := p1.cell
  clear hW ha hb hc hT
  refine (small_any a _ _ ha1).mono ?_
  rintro e w2 ⟨x, rfl, hx, F2⟩
  have p1 := p1.fr F2 (by simp)
  have p2 := p2.fr F2 (by simp)
  have p3 := p3.fr F2 (by simp)
  have F02 := F1.pure F2
  have T2 := T1.fr F2
  clear R1 T1
  cases x with
  | false =>
    clear hx
    go_wp2_with fail
    refine (awake4_any _ T2).mono ?_
    rintro e w3 ⟨rfl, F3⟩
    go_wp2_with fail
    go_ret
    exact ⟨rfl, F02.pure F3⟩
  | true =>
    have hsa := hx rfl
    have ha2 := (ha1.fr F2).small (by omega)
    have hb2 := hb1.fr F2
    have hc2 := hc1.fr F2
    have R2 := p2.cell
    clear hx ha1 hb1 hc1 F1 F2
    go_wp2_with fail
    refine (small_any b _ _ hb2).mono ?_
    rintro e w3 ⟨x, rfl, hx, F3⟩
    have p1 := p1.fr F3 (by simp)
    have p2 := p2.fr F3 (by simp)
    have p3 := p3.fr F3 (by simp)
    have F03 := F02.pure F3
    have T3 := T2.fr F3
    clear R2 T2 F02
    cases x with
    | false =>
      clear hx
      go_wp2_with fail
      refine (awake4_any _ T3).mono ?_
      rintro e w4 ⟨rfl, F4⟩
      go_wp2_with fail
      go_ret
      exact ⟨rfl, F03.pure F4⟩
    | true =>
      have hsb := hx rfl
      have ha3 := ha2.fr F3
      have hb3 := (hb2.fr F3).small (by omega)
      have hc3 := hc2.fr F3
      have R3 := p3.cell
      clear hx ha2 hb2 hc2 F3
      go_wp2_with fail
      refine (small_any c _ _ hc3).mono ?_
      rintro e w4 ⟨x, rfl, hx, F4⟩
      have p1 := p1.fr F4 (by simp)
      have p2 := p2.fr F4 (by simp)
      have p3 := p3.fr F4 (by simp)
      have F04 := F03.pure F4
      have T4 := T3.fr F4
      clear R3 T3 F03
      cases x with
      | false =>
        clear hx
        go_wp2_with fail
        refine (awake4_any _ T4).mono ?_
        rintro e w5 ⟨rfl, F5⟩
        go_wp2_with fail
        go_ret
        exact ⟨rfl, F04.pure F5⟩
      | true =>
        have hsc := hx rfl
        have ha4 := ha3.fr F4
        have hb4 := hb3.fr F4
        have hc4 := (hc3.fr F4).small (by omega)
        obtain ⟨X, hX⟩ : ∃ X, X = cmpT a b := ⟨_, rfl⟩
        obtain ⟨Y, hY⟩ : ∃ Y, Y = cmpT b c := ⟨_, rfl⟩
        obtain ⟨Z, hZ⟩ : ∃ Z, Z = cmpT a c := ⟨_, rfl⟩
        have HX := Lib.hid hX
        have HY := Lib.hid hY
        have HZ := Lib.hid hZ
        have hnx := cmpT_neg a b
        have hny := cmpT_neg b c
        have hnz := cmpT_neg a c
        have ht1 := cmpT_trans a b c
        have ht2 := cmpT_trans c b a
        rw [hny, hnx, hnz] at ht2
        have hvx := cmpT_val a b
        have hvy := cmpT_val b c
        have hvz := cmpT_val a c
        rw [← hX] at hnx ht1 ht2 hvx
        rw [← hY] at ht1 ht2 hvy
        rw [← hZ] at ht1 ht2 hvz
        have HNX := Lib.hid hnx
        have l1 := blk_lt p1
        have l2 := blk_lt p2
        have l3 := blk_lt p3
        have R1 := p1.cell
        have R2 := p2.cell
        have R3 := p3.cell
        have HSM : Hid (sameT a b = (X == 0)) := by unfold Hid; rw [same_cmp, ← hX]
        have HSF := Lib.hid (cmpT_self a)
        have K0 : Kt w4 w.heap.size (w.heap.size + 1) (w.heap.size + 1 + 1) #[.int .i64 t1, .slice A1 n1 c1, .slice A2 n2 c2] #[.int .i64 t2, .slice B1 m1 d1, .slice B2 m2 d2] #[.int .i64 t3, .slice C1 k1 e1, .slice C2 k2 e2] w4.drew := ⟨R1, R2, R3, (Fr.refl _ _).drew⟩
        clear hx ha3 hb3 hc3 F4 hX hY hZ hnx hny hnz
        go_wp2_with fail
        go_cut [7, 8, 9, 24, 25, 26, 27, 28, 29, 30, 31, 32] (fun s7 s8 s9 _ _ _ _ _ _ _ _ _ wq => s7 = .int .i64 X ∧ s8 = .int .i64 Y ∧ s9 = .int .i64 Z ∧ Fr none w4 wq)
        case first =>
          go_region_held3 (fun w' => (∀ i, w'.cell? ⟨w.heap.size, i, none⟩ = (#[.int .i64 t1, .slice A1 n1 c1, .slice A2 n2 c2] : Array Value)[i]?) ∧ (∀ i, w'.cell? ⟨w.heap.size + 1, i, none⟩ = (#[.int .i64 t2, .slice B1 m1 d1, .slice B2 m2 d2] : Array Value)[i]?) ∧ (∀ i, w'.cell? ⟨w.heap.size + 1 + 1, i, none⟩ = (#[.int .i64 t3, .slice C1 k1 e1, .slice C2 k2 e2] : Array Value)[i]?) ∧ Kt w4 w.heap.size (w.heap.size + 1) (w.heap.size + 1 + 1) #[.int .i64 t1, .slice A1 n1 c1, .slice A2 n2 c2] #[.int .i64 t2, .slice B1 m1 d1, .slice B2 m2 d2] #[.int .i64 t3, .slice C1 k1 e1, .slice C2 k2 e2] w') (first | (with_reducible exact kt_four K0) | (with_reducible exact kt_four KK)) (first | (go_at_call 29; (with_reducible refine (cmp_fix a b X HX (.agg #[.int .i64 t1, .slice A1 n1 c1, .slice A2 n2 c2]) (.agg #[.int .i64 t2, .slice B1 m1 d1, .slice B2 m2 d2]) _ (ha4.fr (‹_ ∧ _ ∧ _ ∧ Kt w4 w.heap.size (w.heap.size + 1) (w.heap.size + 1 + 1) _ _ _ _›).2.2.2.frame) (hb4.fr (‹_ ∧ _ ∧ _ ∧ Kt w4 w.heap.size (w.heap.size + 1) (w.heap.size + 1 + 1) _ _ _ _›).2.2.2.frame)).mono ?_); rintro e w6 ⟨rfl, F6⟩; have KK := (‹_ ∧ _ ∧ _ ∧ Kt w4 w.heap.size (w.heap.size + 1) (w.heap.size + 1 + 1) _ _ _ _›).2.2.2.fr l1 l2 l3 F6) | (go_at_call 29; (with_reducible refine (cmp_fix b c Y HY (.agg #[.int .i64 t2, .slice B1 m1 d1, .slice B2 m2 d2]) (.agg #[.int .i64 t3, .slice C1 k1 e1, .slice C2 k2 e2]) _ (hb4.fr (‹_ ∧ _ ∧ _ ∧ Kt w4 w.heap.size (w.heap.size + 1) (w.heap.size + 1 + 1) _ _ _ _›).2.2.2.frame) (hc4.fr (‹_ ∧ _ ∧ _ ∧ Kt w4 w.heap.size (w.heap.size + 1) (w.heap.size + 1 + 1) _ _ _ _›).2.2.2.frame)).mono ?_); rintro e w6 ⟨rfl, F6⟩; have KK := (‹_ ∧ _ ∧ _ ∧ Kt w4 w.heap.size (w.heap.size + 1) (w.heap.size + 1 + 1) _ _ _ _›).2.2.2.fr l1 l2 l3 F6) | (go_at_call 29; (with_reducible refine (cmp_fix a c Z HZ (.agg #[.int .i64 t1, .slice A1 n1 c1, .slice A2 n2 c2]) (.agg #[.int .i64 t3, .slice C1 k1 e1, .slice C2 k2 e2]) _ (ha4.fr (‹_ ∧ _ ∧ _ ∧ Kt w4 w.heap.size (w.heap.size + 1) (w.heap.size + 1 + 1) _ _ _ _›).2.2.2.frame) (hc4.fr (‹_ ∧ _ ∧ _ ∧ Kt w4 w.heap.size (w.heap.size + 1) (w.heap.size + 1 + 1) _ _ _ _›).2.2.2.frame)).mono ?_); rintro e w6 ⟨rfl, F6⟩; have KK := (‹_ ∧ _ ∧ _ ∧ Kt w4 w.heap.size (w.heap.size + 1) (w.heap.size + 1 + 1) _ _ _ _›).2.2.2.fr l1 l2 l3 F6))
          all_goals
            go_wp2_with fail
            go_meet
            exact ⟨rfl, rfl, rfl, KK.frame⟩
        case rest =>
          obtain ⟨rfl, rfl, rfl, F5⟩ := hcut
          obtain ⟨w5, hw5⟩ : ∃ w5 : World, w5 = wc := ⟨_, rfl⟩
          subst hw5
          have p1 := p1.fr F5 (by simp)
          have p2 := p2.fr F5 (by simp)
          have ha5 := ha4.fr F5
          have hb5 := hb4.fr F5
          have T5 := T4.fr F5
          have F05 := F04.pure F5
          have HNXX : Hid (-X = cmpT b a) := HNX.out.symm
          have q1 := p1.cell
          have q2 := p2.cell
          clear K0 R1 R2 R3 F5 F04 T4 ha4 hb4 hc4 p3
          go_wp2_with fail
          refine (cmp_fix b a (-X) HNXX _ _ _ hb5 ha5).mono ?_
          rintro e w6 ⟨rfl, F6⟩
          have p1 := p1.fr F6 (by simp)
          have p2 := p2.fr F6 (by simp)
          have ha6 := ha5.fr F6
          have hb6 := hb5.fr F6
          have T6 := T5.fr F6
          have F06 := F05.pure F6
          have r1 := p1.cell
          have r2 := p2.cell
          have hwn : IntKind.i64.wrap (- (-X)) = X := by rw [Int.neg_neg]; exact IntWalk.i64_in _ (by omega)
          have hxx : (X != X) = false := by simp
          clear q1 q2 ha5 hb5 T5 F05 F6
          go_wp2_with fail
          refine (rsame_any _ a b _ _ _ none (Nat.le_refl _) ha6 hb6).mono ?_
          rintro e w7 ⟨rfl, F7⟩
          rw [HSM.out]
          have p1 := p1.fr F7 (by simp)
          have ha7 := ha6.fr F7
          have T7 := T6.fr F7
          have F07 := F06.pure F7
          have r3 := p1.cell
          have hbb : ((X == 0) != (X == 0)) = false := by simp
          clear r1 r2 ha6 hb6 T6 F06 F7
          go_wp2_with fail
          refine (cmp_fix a a 0 (show Hid ((0 : Int) = cmpT a a) from HSF.out.symm) _ _ _ ha7 ha7).mono ?_
          rintro e w8 ⟨rfl, F8⟩
          have T8 := T7.fr F8
          have F08 := F07.pure F8
          clear r3 ha7 T7 F07 F8 hwn hxx hbb HNX HNXX HSM
          rcases hvx with rfl | rfl | rfl <;> rcases hvy with rfl | rfl | rfl <;> rcases hvz with rfl | rfl | rfl
          all_goals first | (exfalso; omega) | skip
          all_goals
            clear ht1 ht2
            go_wp2_with fail
            refine (awake4_any _ T8).mono ?_
            rintro e w9 ⟨rfl, F9⟩
            go_wp2_with fail
            go_ret
            exact ⟨rfl, F08.pure F9⟩
theorem law04c_card (va : Value) (a : Tr) (vb : Value) (b : Tr) (vc : Value) (c : Tr) (w : World) (ha : RwD w va a) (hb : RwD w vb b) (hc : RwD w vc c) (hT : Tab w) : Calls Tryz.prog 6 #[va, vb, vc] w fun e w' => e = .returned (.bool true) ∧ Fr none w w' := law04c_any va vb vc a b c w ha hb hc hT
end Go.Proofs.YtpdhckbiioobhaaGreatDoor

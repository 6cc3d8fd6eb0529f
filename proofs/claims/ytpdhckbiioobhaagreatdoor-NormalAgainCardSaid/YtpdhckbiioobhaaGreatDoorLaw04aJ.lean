/- The law NormalAgain: its walk. -/
import Derived.Test.YtpdhckbiioobhaaGreatDoorProg
import Derived.Test.YtpdhckbiioobhaaGreatDoorJN21
import Derived.Test.YtpdhckbiioobhaaGreatDoorJN2
import Derived.Test.YtpdhckbiioobhaaGreatDoorKtJ
set_option linter.unusedSimpArgs false
set_option linter.unusedVariables false
namespace Go.Proofs.YtpdhckbiioobhaaGreatDoor
open Go.RowKit

theorem sameT_comm (a b : Tr) : sameT b a = sameT a b := by
  rw [Bool.eq_iff_iff, sameT_iff, sameT_iff]
  exact eq_comm
theorem same_fix (a b : Tr) (B : Bool) (hB : Hid (B = sameT a b)) (va vb : Value) (w : World) (ha : TrR w none va a) (hb : TrR w none vb b) : Calls Tryz.prog 27 #[va, vb] w fun e w' => e = .returned (.bool B) ∧ Fr none w w' :=
  (rsame_any a.dep a b va vb w none (Nat.le_refl _) ha hb).mono fun e w' k => ⟨by rw [hB.out]; exact k.1, k.2⟩
theorem nis_fix (a : Tr) (B : Bool) (hB : Hid (B = isN a)) (va : Value) (w : World) (hs : a.size ≤ 200) (ha : TrR w none va a) : Calls Tryz.prog 42 #[va] w fun e w' => e = .returned (.bool B) ∧ Fr none w w' :=
  (nis_any a va w ha (by omega)).mono fun e w' k => ⟨by rw [hB.out]; exact k.1, k.2⟩
set_option maxRecDepth 100000 in
set_option maxHeartbeats 8000000 in
theorem law04a_any (v : Value) (l : List Int) (w : World) (hl : SlI w none v l) (hT : Tab w) : Calls Tryz.prog 9 #[v] w fun e w' => e = .returned (.bool true) ∧ Fr none w w' := by
  go_enter Tryz.func9, Tryz.ntmps9
  go_wp2_with fail
  refine (tapeNew_any _ _ _ hl).mono ?_
  rintro e w1 ⟨g, rfl, hg, S1, F1⟩
  clear hl
  go_wp2_with fail
  have hg1 := S1.lt
  refine (trust4_any g _ S1).mono ?_
  rintro e w2 ⟨v2, x, rfl, hD, hv, S2, F2⟩
  obtain ⟨th, A1, n1, c1, A2, n2, c2, rfl⟩ := hD.shape
  have F02 := F1.own F2 (fun q hq => by injection hq with hq; omega)
  have FA := (Fr.refl none w2).alloc (.cells #[.int .i64 th, .slice A1 n1 c1, .slice A2 n2 c2] 31)
  have hD0 : TrR w2 none (.agg #[.int .i64 th, .slice A1 n1 c1, .slice A2 n2 c2]) x := TrD.keep (dn_dm (by simp)) _ _ hD
  have hDg : TrR w2 (some g) (.agg #[.int .i64 th, .slice A1 n1 c1, .slice A2 n2 c2]) x := TrD.keep (dn_dm (by simp; omega)) _ _ hD
  have B3 : TB (w2.alloc (.cells #[.int .i64 th, .slice A1 n1 c1, .slice A2 n2 c2] 31)) w2.heap.size (.int .i64 th) (.slice A1 n1 c1) (.slice A2 n2 c2) := blk_new _ _
  have hz2 := F2.size
  obtain ⟨hok, hsz, hdp⟩ := valid_facts hv
  have D3 := hD0.fr FA
  have G3 := hDg.fr (FA.mono (r := some g))
  have S3 := S2.fr FA
  have F03 := F02.pure FA
  have HV := Lib.hid hv
  have hv0 : (validE x == 0) = true := by rw [beq_iff_eq]; exact hv
  clear hv hD hD0 hDg S1 S2 F1 F2 F02
  go_wp2_with fail
  generalize hW : w2.alloc _ = w3 at *
  have hz3 : w3.heap.size = w2.heap.size + 1 := by rw [← hW]; simp
  clear hW FA
  refine (normal_any x _ _ none (by simp) D3 (by omega)).mono ?_
  rintro e w4 ⟨v4, rfl, hT4, F4⟩
  have hnx : nrmV x = normT x := by unfold nrmV; rw [if_pos HV.out]
  rw [hnx] at hT4
  obtain ⟨hvy, hsat, hsy, hdy⟩ := norm_ok HV.out
  obtain ⟨y, hy⟩ : ∃ y, y = normT x := ⟨_, rfl⟩
  rw [← hy] at hT4 hvy hsat hsy hdy
  obtain ⟨th4, X1, m1, k1, X2, m2, k2, rfl⟩ := TrD.shape hT4
  have FB := (Fr.refl none w4).alloc (.cells #[.int .i64 th4, .slice X1 m1 k1, .slice X2 m2 k2] 31)
  have B5 : TB (w4.alloc (.cells #[.int .i64 th4, .slice X1 m1 k1, .slice X2 m2 k2] 31)) w4.heap.size (.int .i64 th4) (.slice X1 m1 k1) (.slice X2 m2 k2) := blk_new _ _
  have K4 := B3.fr F4 (by simp)
  have K5 := K4.fr FB (by simp)
  have hl4 : w2.heap.size < w4.heap.size := blk_lt K4
  have F45 := F4.pure FB
  have D5 := D3.fr F45
  have Y5 := hT4.fr FB
  have F05 := F03.pure F45
  have HY := Lib.hid hy
  have HVY := Lib.hid hvy
  have hszy : y.size ≤ 200 := by omega
  have hvy0 : (validE y == 0) = true := by rw [beq_iff_eq]; exact hvy
  have hny : nrmV y = y := by unfold nrmV; rw [if_pos hvy, hy]; exact norm_norm hok
  have hiy : isN y = true := by unfold isN; rw [hvy0, hny, sameT_self]; rfl
  have HIY := Lib.hid hiy.symm
  obtain ⟨B, hB⟩ : ∃ B, B = sameT x y := ⟨_, rfl⟩
  have HBS := Lib.hid hB
  have HBI : Hid (B = isN x) := by
    unfold Hid isN
    rw [hv0, hnx, ← hy, hB, Bool.true_and]
    exact sameT_comm y x
  clear hsat hT4 hnx hy hvy G3 S3 F4 D3 F03 hsy hdy hiy hB
  go_wp2_with fail
  generalize hW : w4.alloc _ = w5 at *
  clear hW FB F45
  have R2 := B5.cell
  refine (normal_any y _ _ none (by simp) Y5 (by omega)).mono ?_
  rintro e w6 ⟨v6, rfl, hT6, F6⟩
  rw [hny] at hT6
  have HNY := Lib.hid hny
  obtain ⟨th6, Z1, m6, k6, Z2, q6, j6, rfl⟩ := TrD.shape hT6
  have FC := (Fr.refl none w6).alloc (.cells #[.int .i64 th6, .slice Z1 m6 k6, .slice Z2 q6 j6] 31)
  have C7 : TB (w6.alloc (.cells #[.int .i64 th6, .slice Z1 m6 k6, .slice Z2 q6 j6] 31)) w6.heap.size (.int .i64 th6) (.slice Z1 m6 k6) (.slice Z2 q6 j6) := blk_new _ _
  have F67 := F6.pure FC
  have K7 := K5.fr F67 (by simp)
  have B7 := B5.fr F67 (by simp)
  have D7 := D5.fr F67
  have Y7 := Y5.fr F67
  have Z7 := hT6.fr FC
  have F07 := F05.pure F67
  clear hny D5 Y5 hT6 F05 K5 B5 R2 F6
  go_wp2_with fail
  generalize hW : w6.alloc _ = w7 at *
  clear hW FC F67
  have T7 := hT.fr F07
  have R1 := K7.cell
  have R2 := B7.cell
  have R3 := C7.cell
  have l1 := blk_lt K7
  have l2 := blk_lt B7
  have l3 := blk_lt C7
  have K0 : Kt w7 w2.heap.size w4.heap.size w6.heap.size #[.int .i64 th, .slice A1 n1 c1, .slice A2 n2 c2] #[.int .i64 th4, .slice X1 m1 k1, .slice X2 m2 k2] #[.int .i64 th6, .slice Z1 m6 k6, .slice Z2 q6 j6] w7.drew := ⟨R1, R2, R3, (Fr.refl _ _).drew⟩
  have HSYZ : Hid (true = sameT y y) := (sameT_self y).symm
  go_region_held3 (fun w' => (∀ i, w'.cell? ⟨w2.heap.size, i, none⟩ = (#[.int .i64 th, .slice A1 n1 c1, .slice A2 n2 c2] : Array Value)[i]?) ∧ (∀ i, w'.cell? ⟨w4.heap.size, i, none⟩ = (#[.int .i64 th4, .slice X1 m1 k1, .slice X2 m2 k2] : Array Value)[i]?) ∧ (∀ i, w'.cell? ⟨w6.heap.size, i, none⟩ = (#[.int .i64 th6, .slice Z1 m6 k6, .slice Z2 q6 j6] : Array Value)[i]?) ∧ Kt w7 w2.heap.size w4.heap.size w6.heap.size #[.int .i64 th, .slice A1 n1 c1, .slice A2 n2 c2] #[.int .i64 th4, .slice X1 m1 k1, .slice X2 m2 k2] #[.int .i64 th6, .slice Z1 m6 k6, .slice Z2 q6 j6] w') (first | (with_reducible exact kt_four K0) | (with_reducible exact kt_four KK)) (first | (go_at_call 27; (with_reducible refine (same_fix y y true HSYZ (.agg #[.int .i64 th4, .slice X1 m1 k1, .slice X2 m2 k2]) (.agg #[.int .i64 th6, .slice Z1 m6 k6, .slice Z2 q6 j6]) _ (Y7.fr (‹_ ∧ _ ∧ _ ∧ Kt w7 w2.heap.size w4.heap.size w6.heap.size _ _ _ _›).2.2.2.frame) (Z7.fr (‹_ ∧ _ ∧ _ ∧ Kt w7 w2.heap.size w4.heap.size w6.heap.size _ _ _ _›).2.2.2.frame)).mono ?_); rintro e w8 ⟨rfl, F8⟩; have KK := (‹_ ∧ _ ∧ _ ∧ Kt w7 w2.heap.size w4.heap.size w6.heap.size _ _ _ _›).2.2.2.fr l1 l2 l3 F8) | (go_at_call 27; (with_reducible refine (same_fix x y B HBS (.agg #[.int .i64 th, .slice A1 n1 c1, .slice A2 n2 c2]) (.agg #[.int .i64 th4, .slice X1 m1 k1, .slice X2 m2 k2]) _ (D7.fr (‹_ ∧ _ ∧ _ ∧ Kt w7 w2.heap.size w4.heap.size w6.heap.size _ _ _ _›).2.2.2.frame) (Y7.fr (‹_ ∧ _ ∧ _ ∧ Kt w7 w2.heap.size w4.heap.size w6.heap.size _ _ _ _›).2.2.2.frame)).mono ?_); rintro e w8 ⟨rfl, F8⟩; have KK := (‹_ ∧ _ ∧ _ ∧ Kt w7 w2.heap.size w4.heap.size w6.heap.size _ _ _ _›).2.2.2.fr l1 l2 l3 F8) | (go_at_call 42; (with_reducible refine (nis_fix y true HIY (.agg #[.int .i64 th4, .slice X1 m1 k1, .slice X2 m2 k2]) _ hszy (Y7.fr (‹_ ∧ _ ∧ _ ∧ Kt w7 w2.heap.size w4.heap.size w6.heap.size _ _ _ _›).2.2.2.frame)).mono ?_); rintro e w8 ⟨rfl, F8⟩; have KK := (‹_ ∧ _ ∧ _ ∧ Kt w7 w2.heap.size w4.heap.size w6.heap.size _ _ _ _›).2.2.2.fr l1 l2 l3 F8) | (go_at_call 42; (with_reducible refine (nis_fix x B HBI (.agg #[.int .i64 th, .slice A1 n1 c1, .slice A2 n2 c2]) _ hsz (D7.fr (‹_ ∧ _ ∧ _ ∧ Kt w7 w2.heap.size w4.heap.size w6.heap.size _ _ _ _›).2.2.2.frame)).mono ?_); rintro e w8 ⟨rfl, F8⟩; have KK := (‹_ ∧ _ ∧ _ ∧ Kt w7 w2.heap.size w4.heap.size w6.heap.size _ _ _ _›).2.2.2.fr l1 l2 l3 F8) | (go_at_call 25; (with_reducible refine (awake4_any _ (T7.fr (‹_ ∧ _ ∧ _ ∧ Kt w7 w2.heap.size w4.heap.size w6.heap.size _ _ _ _›).2.2.2.frame)).mono ?_); rintro e w8 ⟨rfl, F8⟩; have KK := (‹_ ∧ _ ∧ _ ∧ Kt w7 w2.heap.size w4.heap.size w6.heap.size _ _ _ _›).2.2.2.fr l1 l2 l3 F8))
  all_goals
    go_wp2_with fail
    go_ret
    exact ⟨rfl, F07.pure KK.frame⟩
end Go.Proofs.YtpdhckbiioobhaaGreatDoor

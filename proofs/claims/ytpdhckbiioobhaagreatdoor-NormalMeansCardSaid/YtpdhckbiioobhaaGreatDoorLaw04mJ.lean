/- The law NormalMeans: its walk. -/
import Derived.Test.YtpdhckbiioobhaaGreatDoorProg
import Derived.Test.YtpdhckbiioobhaaGreatDoorJN20
import Derived.Test.YtpdhckbiioobhaaGreatDoorJN7
import Derived.Test.YtpdhckbiioobhaaGreatDoorSatJ
import Derived.Test.YtpdhckbiioobhaaGreatDoorKdJ
set_option linter.unusedSimpArgs false
set_option linter.unusedVariables false
namespace Go.Proofs.YtpdhckbiioobhaaGreatDoor
open Go.RowKit

theorem valid_fix (y : Tr) (hv : Hid (validE y = 0)) (v : Value) (w : World) (hs : y.size ≤ 200) (h : TrR w none v y) : Calls Tryz.prog 21 #[v] w fun e w' => e = .returned (.int .i64 0) ∧ Fr none w w' :=
  (rvalidT_any y v w none (by omega) h).mono fun e w' k => ⟨by rw [← hv.out]; exact k.1, k.2⟩
theorem size_fix (y : Tr) (s : Int) (hv : Hid (s = (y.size : Nat))) (v : Value) (w : World) (hs : y.size ≤ 200) (h : TrR w none v y) : Calls Tryz.prog 22 #[v] w fun e w' => e = .returned (.int .i64 s) ∧ Fr none w w' :=
  (rsize_any y.dep y v w none (Nat.le_refl _) (by omega) h).mono fun e w' k => ⟨by rw [hv.out]; exact k.1, k.2⟩
theorem dep_fix (y : Tr) (s : Int) (hv : Hid (s = (y.dep : Nat))) (v : Value) (w : World) (hs : y.size ≤ 200) (h : TrR w none v y) : Calls Tryz.prog 23 #[v] w fun e w' => e = .returned (.int .i64 s) ∧ Fr none w w' :=
  (rdepth_any y.dep y v w none (Nat.le_refl _) (by have := dep_le_size y; omega) h).mono fun e w' k => ⟨by rw [hv.out]; exact k.1, k.2⟩
theorem sat_fix (y : Tr) (s : Int) (B : Bool) (hv : Hid (B = sat s y)) (v : Value) (w : World) (h : TrR w none v y) : Calls Tryz.prog 24 #[v, .int .i64 s] w fun e w' => e = .returned (.bool B) ∧ Fr none w w' :=
  (rsat_any y.dep y s v w none (Nat.le_refl _) h).mono fun e w' k => ⟨by rw [hv.out]; exact k.1, k.2⟩
set_option maxRecDepth 100000 in
set_option maxHeartbeats 8000000 in
theorem law04m_any (v : Value) (l : List Int) (w : World) (hl : SlI w none v l) (hT : Tab w) : Calls Tryz.prog 4 #[v] w fun e w' => e = .returned (.bool true) ∧ Fr none w w' := by
  go_enter Tryz.func4, Tryz.ntmps4
  go_wp2_with fail
  refine (tapeNew_any _ _ _ hl).mono ?_
  rintro e w1 ⟨g, rfl, hg, S1, F1⟩
  clear hl
  go_wp2_with fail
  have hg1 := S1.lt
  refine (trust4_any g _ S1).mono ?_
  rintro e w2 ⟨v2, x, rfl, hD, hv, S2, F2⟩
  obtain ⟨th, A1, n1, c1, A2, n2, c2, rfl⟩ := hD.shape
  have F02 := F1.own F2 (fun q hq => by injection hq with hq; omega)
  have FA := (Fr.refl none w2).alloc (.cells #[.int .i64 th, .slice A1 n1 c1, .slice A2 n2 c2] 31)
  have hD0 : TrR w2 none (.agg #[.int .i64 th, .slice A1 n1 c1, .slice A2 n2 c2]) x := TrD.keep (dn_dm (by simp)) _ _ hD
  have hDg : TrR w2 (some g) (.agg #[.int .i64 th, .slice A1 n1 c1, .slice A2 n2 c2]) x := TrD.keep (dn_dm (by simp; omega)) _ _ hD
  have B3 : TB (w2.alloc (.cells #[.int .i64 th, .slice A1 n1 c1, .slice A2 n2 c2] 31)) w2.heap.size (.int .i64 th) (.slice A1 n1 c1) (.slice A2 n2 c2) := blk_new _ _
  have hz2 := F2.size
  obtain ⟨hok, hsz, hdp⟩ := valid_facts hv
  have D3 := hD0.fr FA
  have G3 := hDg.fr (FA.mono (r := some g))
  have S3 := S2.fr FA
  have F03 := F02.pure FA
  have HV := Lib.hid hv
  have hv0 : (validE x == 0) = true := by rw [beq_iff_eq]; exact hv
  clear hv hD hD0 hDg S1 S2 F1 F2 F02
  go_wp2_with fail
  generalize hW : w2.alloc _ = w3 at *
  have hz3 : w3.heap.size = w2.heap.size + 1 := by rw [← hW]; simp
  clear hW FA
  refine (normal_any x _ _ none (by simp) D3 (by omega)).mono ?_
  rintro e w4 ⟨v4, rfl, hT4, F4⟩
  have hnx : nrmV x = normT x := by unfold nrmV; rw [if_pos HV.out]
  rw [hnx] at hT4
  obtain ⟨hvy, hsat, hsy, hdy⟩ := norm_ok HV.out
  obtain ⟨y, hy⟩ : ∃ y, y = normT x := ⟨_, rfl⟩
  rw [← hy] at hT4 hvy hsat hsy hdy
  obtain ⟨th4, X1, m1, k1, X2, m2, k2, rfl⟩ := TrD.shape hT4
  have FB := (Fr.refl none w4).alloc (.cells #[.int .i64 th4, .slice X1 m1 k1, .slice X2 m2 k2] 31)
  have B5 : TB (w4.alloc (.cells #[.int .i64 th4, .slice X1 m1 k1, .slice X2 m2 k2] 31)) w4.heap.size (.int .i64 th4) (.slice X1 m1 k1) (.slice X2 m2 k2) := blk_new _ _
  have K4 := B3.fr F4 (by simp)
  have K5 := K4.fr FB (by simp)
  have hl4 : w2.heap.size < w4.heap.size := blk_lt K4
  have F45 := F4.pure FB
  have D5 := D3.fr F45
  have Y5 := hT4.fr FB
  have F05 := F03.pure F45
  have HY := Lib.hid hy
  have HVY := Lib.hid hvy
  obtain ⟨sx, hsx⟩ : ∃ sx : Int, sx = (x.size : Nat) := ⟨_, rfl⟩
  obtain ⟨sy, hsy'⟩ : ∃ sy : Int, sy = (y.size : Nat) := ⟨_, rfl⟩
  obtain ⟨dx, hdx⟩ : ∃ dx : Int, dx = (x.dep : Nat) := ⟨_, rfl⟩
  obtain ⟨dy, hdy'⟩ : ∃ dy : Int, dy = (y.dep : Nat) := ⟨_, rfl⟩
  have hc1 : decide (sx < sy) = false := decide_eq_false (by omega)
  have hc2 : decide (dx < dy) = false := decide_eq_false (by omega)
  have HSX := Lib.hid hsx
  have HSY := Lib.hid hsy'
  have HDX := Lib.hid hdx
  have HDY := Lib.hid hdy'
  have hv1 : (validE x != 0) = false := by rw [bne_eq_false_iff_eq]; exact HV.out
  have HSAT : Hid (∀ k : Nat, k < 64 → sat (k : Int) y = sat (k : Int) x) := fun k hk => hsat k (by unfold validB; exact decide_eq_true (by omega))
  have hszy : y.size ≤ 200 := by omega
  clear hsat hsx hsy' hdx hdy' hT4 hnx hy hvy G3 S3 F4 D3 F03 hsy hdy
  go_wp2_with fail
  generalize hW : w4.alloc _ = w5 at *
  clear hW FB F45
  have R1 := K5.cell
  have R2 := B5.cell
  have l1 := blk_lt K5
  have l2 := blk_lt B5
  have K0 : Kd w5 w2.heap.size w4.heap.size #[.int .i64 th, .slice A1 n1 c1, .slice A2 n2 c2] #[.int .i64 th4, .slice X1 m1 k1, .slice X2 m2 k2] w5.drew := ⟨R1, R2, (Fr.refl _ _).drew⟩
  go_cut [37] (fun s37 wq => s37 = .bool false ∧ Fr none w5 wq)
  case first =>
    go_region_held3 (fun w' => (∀ i, w'.cell? ⟨w2.heap.size, i, none⟩ = (#[.int .i64 th, .slice A1 n1 c1, .slice A2 n2 c2] : Array Value)[i]?) ∧ (∀ i, w'.cell? ⟨w4.heap.size, i, none⟩ = (#[.int .i64 th4, .slice X1 m1 k1, .slice X2 m2 k2] : Array Value)[i]?) ∧ Kd w5 w2.heap.size w4.heap.size #[.int .i64 th, .slice A1 n1 c1, .slice A2 n2 c2] #[.int .i64 th4, .slice X1 m1 k1, .slice X2 m2 k2] w') (first | (with_reducible exact kd_three K0) | (with_reducible exact kd_three KK)) (first | (go_at_call 21; (with_reducible refine (valid_fix y HVY (.agg #[.int .i64 th4, .slice X1 m1 k1, .slice X2 m2 k2]) _ hszy (Y5.fr (‹_ ∧ _ ∧ Kd w5 w2.heap.size w4.heap.size _ _ _›).2.2.frame)).mono ?_); rintro e w6 ⟨rfl, F6⟩; have KK := (‹_ ∧ _ ∧ Kd w5 w2.heap.size w4.heap.size _ _ _›).2.2.fr l1 l2 F6) | (go_at_call 22; (with_reducible refine (size_fix y sy HSY (.agg #[.int .i64 th4, .slice X1 m1 k1, .slice X2 m2 k2]) _ hszy (Y5.fr (‹_ ∧ _ ∧ Kd w5 w2.heap.size w4.heap.size _ _ _›).2.2.frame)).mono ?_); rintro e w6 ⟨rfl, F6⟩; have KK := (‹_ ∧ _ ∧ Kd w5 w2.heap.size w4.heap.size _ _ _›).2.2.fr l1 l2 F6) | (go_at_call 22; (with_reducible refine (size_fix x sx HSX (.agg #[.int .i64 th, .slice A1 n1 c1, .slice A2 n2 c2]) _ hsz (D5.fr (‹_ ∧ _ ∧ Kd w5 w2.heap.size w4.heap.size _ _ _›).2.2.frame)).mono ?_); rintro e w6 ⟨rfl, F6⟩; have KK := (‹_ ∧ _ ∧ Kd w5 w2.heap.size w4.heap.size _ _ _›).2.2.fr l1 l2 F6) | (go_at_call 23; (with_reducible refine (dep_fix y dy HDY (.agg #[.int .i64 th4, .slice X1 m1 k1, .slice X2 m2 k2]) _ hszy (Y5.fr (‹_ ∧ _ ∧ Kd w5 w2.heap.size w4.heap.size _ _ _›).2.2.frame)).mono ?_); rintro e w6 ⟨rfl, F6⟩; have KK := (‹_ ∧ _ ∧ Kd w5 w2.heap.size w4.heap.size _ _ _›).2.2.fr l1 l2 F6) | (go_at_call 23; (with_reducible refine (dep_fix x dx HDX (.agg #[.int .i64 th, .slice A1 n1 c1, .slice A2 n2 c2]) _ hsz (D5.fr (‹_ ∧ _ ∧ Kd w5 w2.heap.size w4.heap.size _ _ _›).2.2.frame)).mono ?_); rintro e w6 ⟨rfl, F6⟩; have KK := (‹_ ∧ _ ∧ Kd w5 w2.heap.size w4.heap.size _ _ _›).2.2.fr l1 l2 F6))
    all_goals
      go_wp2_with fail
      go_meet
      exact ⟨rfl, KK.frame⟩
  case rest =>
    obtain ⟨rfl, F6⟩ := hcut
    obtain ⟨wq, hwq⟩ : ∃ wq : World, wq = wc := ⟨_, rfl⟩
    subst hwq
    clear K0 R1 R2
    go_wp2_with fail
    go_loopw [7] (fun s7 wr => ∃ k : Nat, s7 = .int .i64 (k : Int) ∧ k ≤ 64 ∧ Fr none w5 wr) (fun s7 _ => 64 - (intOf s7).toNat)
    case atStart => exact ⟨0, rfl, by omega, F6⟩
    case round =>
      clear F6
      obtain ⟨k, rfl, hk, F7⟩ := hrel
      have R1 := (K5.fr F7 (by simp)).cell
      have R2 := (B5.fr F7 (by simp)).cell
      by_cases hlt : k < 64
      · obtain ⟨B, hB⟩ : ∃ B, B = sat (k : Int) x := ⟨_, rfl⟩
        have HBX := Lib.hid hB
        have HBY : Hid (B = sat (k : Int) y) := by unfold Hid; rw [HSAT.out k hlt, hB]
        have K0 : Kd w5 w2.heap.size w4.heap.size #[.int .i64 th, .slice A1 n1 c1, .slice A2 n2 c2] #[.int .i64 th4, .slice X1 m1 k1, .slice X2 m2 k2] wr.drew := ⟨R1, R2, F7.drew⟩
        clear hB
        go_wp2_with fail
        go_region_held3 (fun w' => (∀ i, w'.cell? ⟨w2.heap.size, i, none⟩ = (#[.int .i64 th, .slice A1 n1 c1, .slice A2 n2 c2] : Array Value)[i]?) ∧ (∀ i, w'.cell? ⟨w4.heap.size, i, none⟩ = (#[.int .i64 th4, .slice X1 m1 k1, .slice X2 m2 k2] : Array Value)[i]?) ∧ Kd w5 w2.heap.size w4.heap.size #[.int .i64 th, .slice A1 n1 c1, .slice A2 n2 c2] #[.int .i64 th4, .slice X1 m1 k1, .slice X2 m2 k2] w') (first | (with_reducible exact kd_three K0) | (with_reducible exact kd_three KK)) (first | (go_at_call 24; (with_reducible refine (sat_fix x (k : Int) B HBX (.agg #[.int .i64 th, .slice A1 n1 c1, .slice A2 n2 c2]) _ (D5.fr (‹_ ∧ _ ∧ Kd w5 w2.heap.size w4.heap.size _ _ _›).2.2.frame)).mono ?_); rintro e w6 ⟨rfl, F6⟩; have KK := (‹_ ∧ _ ∧ Kd w5 w2.heap.size w4.heap.size _ _ _›).2.2.fr l1 l2 F6) | (go_at_call 24; (with_reducible refine (sat_fix y (k : Int) B HBY (.agg #[.int .i64 th4, .slice X1 m1 k1, .slice X2 m2 k2]) _ (Y5.fr (‹_ ∧ _ ∧ Kd w5 w2.heap.size w4.heap.size _ _ _›).2.2.frame)).mono ?_); rintro e w6 ⟨rfl, F6⟩; have KK := (‹_ ∧ _ ∧ Kd w5 w2.heap.size w4.heap.size _ _ _›).2.2.fr l1 l2 F6))
        all_goals
          go_wp2_with fail
          go_roundw
          case rel => exact ⟨k + 1, by go_num, by omega, KK.frame⟩
          case measure => simp [intOf]; omega
      · obtain rfl : k = 64 := by omega
        have F07 := F05.pure F7
        have T7 := hT.fr F07
        clear R1 R2
        go_wp2_with fail
        refine (awake4_any _ T7).mono ?_
        rintro e w8 ⟨rfl, F8⟩
        go_wp2_with fail
        go_ret
        exact ⟨rfl, F07.pure F8⟩
end Go.Proofs.YtpdhckbiioobhaaGreatDoor

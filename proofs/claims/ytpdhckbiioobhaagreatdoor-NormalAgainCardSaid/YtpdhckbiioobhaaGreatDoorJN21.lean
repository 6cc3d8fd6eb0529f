/- Some texts of this claim, joined: contracts of the functions that it reaches, and plain laws. -/
import Derived.Test.YtpdhckbiioobhaaGreatDoorProg
import Derived.Test.YtpdhckbiioobhaaGreatDoorJN20
import Derived.Test.YtpdhckbiioobhaaGreatDoorJN7
import Derived.Test.YtpdhckbiioobhaaGreatDoorJN8
import Derived.Test.YtpdhckbiioobhaaGreatDoorJN13

set_option linter.unusedSimpArgs false
set_option linter.unusedVariables false
/- The law NormalOrder: its walk. -/
namespace Go.Proofs.YtpdhckbiioobhaaGreatDoor
open Go.RowKit

theorem MixR.valid {a b : Tr} (h : MixR a b) (hv : validE a = 0) : validE b = 0 ∧ normT a = normT b := by
  obtain ⟨hok, hs, hd⟩ := valid_facts hv
  obtain ⟨h1, h2, h3⟩ := h
  obtain ⟨h4, h5⟩ := h1 hok
  refine ⟨?_, h5⟩
  unfold validE
  rw [if_neg (by omega)]
  exact (okT_iff b).2 h4
theorem sameT_self (a : Tr) : sameT a a = true := by
  exact (sameT_iff a a).2 rfl
set_option maxRecDepth 100000 in
set_option maxHeartbeats 4000000 in
theorem law04o_any (v : Value) (l : List Int) (w : World) (hl : SlI w none v l) (hT : Tab w) : Calls Tryz.prog 5 #[v] w fun e w' => e = .returned (.bool true) ∧ Fr none w w' := by
  go_enter Tryz.func5, Tryz.ntmps5
  go_wp2_with fail
  refine (tapeNew_any _ _ _ hl).mono ?_
  rintro e w1 ⟨g, rfl, hg, S1, F1⟩
  clear hl
  go_wp2_with fail
  have hg1 := S1.lt
  refine (trust4_any g _ S1).mono ?_
  rintro e w2 ⟨v2, x, rfl, hD, hv, S2, F2⟩
  obtain ⟨th, A1, n1, c1, A2, n2, c2, rfl⟩ := hD.shape
  have F02 := F1.own F2 (fun q hq => by injection hq with hq; omega)
  have FA := (Fr.refl none w2).alloc (.cells #[.int .i64 th, .slice A1 n1 c1, .slice A2 n2 c2] 31)
  have hD0 : TrR w2 none (.agg #[.int .i64 th, .slice A1 n1 c1, .slice A2 n2 c2]) x := TrD.keep (dn_dm (by simp)) _ _ hD
  have hDg : TrR w2 (some g) (.agg #[.int .i64 th, .slice A1 n1 c1, .slice A2 n2 c2]) x := TrD.keep (dn_dm (by simp; omega)) _ _ hD
  have B3 : TB (w2.alloc (.cells #[.int .i64 th, .slice A1 n1 c1, .slice A2 n2 c2] 31)) w2.heap.size (.int .i64 th) (.slice A1 n1 c1) (.slice A2 n2 c2) := blk_new _ _
  have hz2 := F2.size
  obtain ⟨hok, hsz, hdp⟩ := valid_facts hv
  have D3 := hD0.fr FA
  have G3 := hDg.fr (FA.mono (r := some g))
  have S3 := S2.fr FA
  have F03 := F02.pure FA
  have HV := Lib.hid hv
  have hv0 : (validE x == 0) = true := by rw [beq_iff_eq]; exact hv
  clear hv hD hD0 hDg S1 S2 F1 F2 F02
  go_wp2_with fail
  generalize hW : w2.alloc _ = w3 at *
  have hz3 : w3.heap.size = w2.heap.size + 1 := by rw [← hW]; simp
  clear hW FA
  have hgz : g < w3.heap.size := by omega
  refine (normal_any x _ _ (some g) (by intro q e; injection e; omega) G3 (by omega)).mono ?_
  rintro e w4 ⟨v4, rfl, hT4, F4⟩
  obtain ⟨th4, X1, m1, k1, X2, m2, k2, rfl⟩ := TrD.shape hT4
  have FB := (Fr.refl none w4).alloc (.cells #[.int .i64 th4, .slice X1 m1 k1, .slice X2 m2 k2] 31)
  have B5 : TB (w4.alloc (.cells #[.int .i64 th4, .slice X1 m1 k1, .slice X2 m2 k2] 31)) w4.heap.size (.int .i64 th4) (.slice X1 m1 k1) (.slice X2 m2 k2) := blk_new _ _
  have K4 := B3.fr F4 (by simp)
  have R4 := K4.cell
  have hl4 : w2.heap.size < w4.heap.size := blk_lt K4
  have F45 := F4.pure FB
  have G5 := G3.fr (F45.mono (r := some g))
  have S5 := S3.fr F45
  have F05 := F03.pure F45
  have hA5 := hT4.fr (FB.mono (r := some g))
  have hz4 := F4.size
  clear G3 S3 F03 D3 hT4
  go_wp2_with fail
  generalize hW : w4.alloc _ = w5 at *
  clear hW FB F4 R4
  refine (mixed_any x.dep x _ g _ (Nat.le_refl _) G5 S5).mono ?_
  rintro e w6 ⟨v6, y, rfl, hY, hmx, S6, F6⟩
  obtain ⟨hvy, hny⟩ := hmx.valid HV.out
  obtain ⟨_, hsy, _⟩ := valid_facts hvy
  have hY0 : TrR w6 none v6 y := TrD.keep (dn_dm (by simp)) _ _ hY
  obtain ⟨th6, Y1, m6, k6, Y2, q6, j6, rfl⟩ := TrD.shape hY0
  have F06 := F05.own F6 (fun q hq => by injection hq with hq; omega)
  have B6 := B5.fr F6 (by simp; omega)
  have A6 := (hA5.fr F6).weak
  have hvy0 : (validE y == 0) = true := by rw [beq_iff_eq]; exact hvy
  have HSM : Hid (sameT (nrmV x) (nrmV y) = true) := by unfold Hid nrmV; rw [if_pos HV.out, if_pos hvy, hny]; exact sameT_self _
  have hz6 := F6.size
  clear hY hmx hny hvy hA5 G5 S5 S6 F05
  go_wp2_with fail
  refine (normal_any y _ _ none (by simp) hY0 (by omega)).mono ?_
  rintro e w7 ⟨v7, rfl, hT7, F7⟩
  obtain ⟨th7, Z1, m7, k7, Z2, q7, j7, rfl⟩ := TrD.shape hT7
  have FC := (Fr.refl none w7).alloc (.cells #[.int .i64 th7, .slice Z1 m7 k7, .slice Z2 q7 j7] 31)
  have B7 := B6.fr F7 (by simp)
  have R7 := B7.cell
  have hl7 : w4.heap.size < w7.heap.size := blk_lt B7
  have A8 := (A6.fr F7).fr FC
  have Y8 := hT7.fr FC
  have F08 := (F06.pure F7).pure FC
  clear A6 hT7 F06 F7 hY0
  go_wp2_with fail
  refine (rsame_any _ _ _ _ _ _ none (Nat.le_refl _) A8 Y8).mono ?_
  rintro e w9 ⟨rfl, F9⟩
  rw [HSM.out]
  have F09 := F08.pure F9
  have T9 := hT.fr F09
  go_wp2_with fail
  refine (awake4_any _ T9).mono ?_
  rintro e w10 ⟨rfl, F10⟩
  go_wp2_with fail
  go_ret
  exact ⟨rfl, F09.pure F10⟩
end Go.Proofs.YtpdhckbiioobhaaGreatDoor

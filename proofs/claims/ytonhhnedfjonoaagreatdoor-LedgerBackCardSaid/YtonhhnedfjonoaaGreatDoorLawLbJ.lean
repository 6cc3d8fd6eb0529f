/- The law LedgerBack: its walk. -/
import Derived.Test.YtonhhnedfjonoaaGreatDoorProg
import Derived.Test.YtonhhnedfjonoaaGreatDoorLgXmJ
import Derived.Test.YtonhhnedfjonoaaGreatDoorLgTqJ
import Derived.Test.YtonhhnedfjonoaaGreatDoorJM17
import Derived.Test.YtonhhnedfjonoaaGreatDoorLgAcJ
set_option linter.unusedSimpArgs false
set_option linter.unusedVariables false
namespace Go.Proofs.YtonhhnedfjonoaaGreatDoor
open Go.RowKit

theorem txtS_pos {l : List Txn} : 1 ≤ (txtS l).length := by
  unfold txtS
  split
  · decide
  · rename_i h
    cases l with
    | nil => exact absurd rfl h
    | cons t r =>
      have : (32 : UInt8) ∈ Lib.join ((t :: r).map txtT) [124] := by
        rw [List.map_cons, Lib.join_cons]
        exact List.mem_append_left _ txtT_has
      exact List.length_pos_of_mem this
theorem fmS_ok {l : List Txn} (h : chkT l = 0) (h2 : (txtS l).length ≤ 200) : fmS l = (txtS l, 0) := by
  unfold fmS
  rw [if_neg (by rw [h]; simp), if_neg (by omega)]
theorem fmS_big {l : List Txn} (h : chkT l = 0) (h2 : 200 < (txtS l).length) : fmS l = ([], 3) := by
  unfold fmS
  rw [if_neg (by rw [h]; simp), if_pos h2]
set_option maxRecDepth 100000 in
set_option maxHeartbeats 4000000 in
theorem lawLb_any (v : Value) (t : List Int) (w : World) (ht : SlI w none v t) (hT : Tab w) (hE : Errs w) (hM : Mxl w) :
    Calls Tryz.prog 4 #[v] w fun e w' => e = .returned (.bool true) ∧ Fr none w w' := by
  have HT := Lib.hid hT
  have HE := Lib.hid hE
  have HM := Lib.hid hM
  have HMX : Hid (1 < w.heap.size) := by obtain ⟨m, h⟩ := hM; exact World.block_lt_of_cell? w _ h
  clear hT hE hM
  go_enter Tryz.func4, Tryz.ntmps4
  go_wp2_with fail
  refine (srcNew_any v t w ht).mono ?_
  rintro e w1 ⟨sb, rfl, hsb, S1, F1⟩
  go_wp2_with fail
  refine (srcLed_any sb w1 S1).mono ?_
  rintro e w2 ⟨va, vl, vo, G, rfl, hG, hok, S2, F2⟩
  unfold bxv
  have hs1 := S1.lt
  obtain ⟨A1, ca, rfl, _, _, _⟩ := accR_open (hG.lgs none (by simp)).1
  obtain ⟨A2, cl, rfl, _, _, _⟩ := lnR_open (hG.lgs none (by simp)).2.1
  obtain ⟨A3, co, rfl, _, _, _⟩ := ofR_open (hG.lgs none (by simp)).2.2.1
  have HAC : Hid (SlR accR w2 (some sb) (.slice A1 G.accs.length ca) G.accs) := (hG.lgs (some sb) (by intro q e; injection e with e; omega)).1
  have HGA := Lib.hid hok.ga
  have FX : Fr none w w2 := F1.new F2 hsb
  have hs2 := F2.size
  clear S1 F1 F2 ht hG hok
  go_upto_region 3 with (fail)
  obtain ⟨gb, hgb⟩ : ∃ gb, gb = w2.heap.size := ⟨_, rfl⟩
  rw [← hgb]
  generalize hW : w2.alloc _ = w3
  have F3 : Fr none w2 w3 := hW ▸ (Fr.refl none w2).alloc _
  have bg : w3.heap[gb]? = some (.cells #[.int .i64 G.num, .slice A1 G.accs.length ca, .slice A2 G.lines.length cl, .slice A3 G.offers.length co, .int .i64 G.nid, .int .i64 G.fees, .int .u64 (G.link : Int)] 30 (0, 0)) := by rw [← hW, hgb]; exact blk_new _ _
  have hgb2 : sb < gb := by omega
  clear hW hgb
  have S3 := S2.fr F3
  have HAC := Lib.hid (HAC.out.fr F3.mono)
  have FX := FX.pure F3
  clear S2 F3 hs2
  obtain ⟨k0, k1, k2, k3, k4, k5, k6⟩ := lgcells bg
  go_wp2_with fail
  refine (srcTxs_any sb G A1 A2 A3 G.lines.length G.offers.length ca cl co 3 w3 (by omega) S3 HAC.out HGA.out).mono ?_
  rintro e w4 ⟨vt, l, rfl, hSl, hl3, hl5, hvt, hpw, S4, F4⟩
  have hw3 := FX.size
  have FX4 : Fr none w w4 := FX.new F4 hsb
  have HSL := Lib.hid (hSl.t none (by simp))
  have HC : Hid (chkT (plT l) = 0) := chkT_up (by unfold plT; rw [List.length_map]; omega) (by intro x hx; unfold plT at hx; obtain ⟨y, hy, rfl⟩ := List.mem_map.1 hx; exact (hvt y hy).1) (pw_pl hpw)
  have HSRT : Hid (srtL ltTx (plT l.reverse) = plT l) := by unfold Hid; rw [show plT l.reverse = (plT l).reverse from List.map_reverse]; exact srtL_rev (pw_pl hpw)
  have HVT := Lib.hid hvt
  obtain ⟨At, ct, rfl, q1, q2, hcc⟩ := txR_open (hSl.t none (by simp)).1
  have HCC := Lib.hid hcc
  have HTX : Hid (∀ y ∈ l, TxW y) := HSL.out.1.2
  clear hSl hvt hpw hcc F4 k0 k1 k2 k3 k4 k5 k6 bg S3 S4 HAC HGA FX
  have hTAB : Tab w4 := HT.out.fr FX4
  have HTW : Hid (∀ W, Fr none w4 W → Tab W ∧ Errs W ∧ Mxl W ∧ 1 < W.heap.size) := fun W F => ⟨HT.out.fr (FX4.pure F), HE.out.frs (FX4.pure F) (by simp) (by simp), HM.out.frs (FX4.pure F) (by simp), Nat.lt_of_lt_of_le HMX.out (FX4.pure F).size⟩
  obtain ⟨L, hL⟩ : ∃ L, L = plT l := ⟨_, rfl⟩
  have HLP := Lib.hid hL
  rw [← hL] at HC HSRT
  clear hL
  go_wp2_with fail
  refine (pform_any l _ w4 HSL.out hTAB).mono ?_
  rw [← HLP.out]
  clear hTAB
  rintro e w5 ⟨rfl, F5⟩
  by_cases h200 : 200 < (txtS L).length
  · have HF := Lib.hid (fmS_big HC.out h200)
    have hl0 : 0 < l.length := by
      rcases Nat.eq_zero_or_pos l.length with h | h
      · obtain rfl := List.eq_nil_of_length_eq_zero h
        rw [HLP.out] at h200
        exact absurd h200 (by decide)
      · exact h
    have d0 : decide ((0 : Int) < (l.length : Int)) = true := decide_eq_true (by omega)
    clear h200
    rw [HF.out]
    dsimp only
    go_wp2_with fail
    refine (pparse_any [] w5 (HTW.out w5 F5).2.1 (HTW.out w5 F5).2.2.1 (HTW.out w5 F5).1 (by simp) (HTW.out w5 F5).2.2.2).mono ?_
    rintro e w6 ⟨vm, m, rfl, hSm, hPm, F6⟩
    have HSm := Lib.hid hSm
    have F56 := F5.pure F6
    clear hSm hPm F5 F6
    generalize (rdS []).2 = ER
    go_wp2_with fail
    refine (pform_any m _ w6 HSm.out (HTW.out w6 F56).1).mono ?_
    rintro e w7 ⟨rfl, F7⟩
    have F57 := F56.pure F7
    generalize (fmS (plT m)).1 = X1
    generalize (fmS (plT m)).2 = X2
    clear F56 F7
    go_wp2_with fail
    refine (sane40_any w7 (HTW.out w7 F57).2.1 (HTW.out w7 F57).2.2.1 (HTW.out w7 F57).1 (HTW.out w7 F57).2.2.2).mono ?_
    rintro e w8 ⟨rfl, F8⟩
    go_wp2_with fail
    go_ret
    exact ⟨rfl, (FX4.pure F57).pure F8⟩
  · have HF := Lib.hid (fmS_ok HC.out (by omega))
    have HL200 : Hid ((txtS L).length ≤ 200) := by unfold Hid; omega
    have HAS : Hid (∀ c ∈ txtS L, c.toNat < 128) := txtS_ac (chk_all HC.out)
    clear h200
    rw [HF.out]
    dsimp only
    go_wp2_with fail
    refine (pparse_any (txtS L) w5 (HTW.out w5 F5).2.1 (HTW.out w5 F5).2.2.1 (HTW.out w5 F5).1 HAS.out (HTW.out w5 F5).2.2.2).mono ?_
    rw [rdS_txt HC.out HL200.out]
    rintro e w6 ⟨vm, m, rfl, hSm, hPm, F6⟩
    dsimp only at hPm
    have HSm := Lib.hid hSm
    have HPm := Lib.hid hPm
    obtain ⟨Am, cm, rfl, _, _, _⟩ := txR_open hSm.1
    have F56 := F5.pure F6
    clear hSm hPm F5 F6
    dsimp only
    go_wp2_with fail
    refine (pform_any m _ w6 HSm.out (HTW.out w6 F56).1).mono ?_
    rw [HPm.out, HF.out]
    rintro e w7 ⟨rfl, F7⟩
    have F57 := F56.pure F7
    have HSm7 := Lib.hid (HSm.out.fr F7)
    clear F56 F7 HSm
    dsimp only
    obtain ⟨S, hS⟩ : ∃ S, S = txtS L := ⟨_, rfl⟩
    have HSZ : Hid (1 ≤ S.length ∧ S.length ≤ 200) := by unfold Hid; rw [hS]; exact ⟨txtS_pos, HL200.out⟩
    rw [← hS]
    clear hS HF HL200 HAS
    have hm1 : IntKind.i64.wrap ((l.length : Int) - 1) = (l.length : Int) - 1 := by rw [IntKind.wrap_i64]; omega
    go_wp2_with fail
    go_loopw [12, 13] (fun s12 s13 wr => ∃ (k : Nat) (M : List TxX) (Ap : Option Addr) (cp : Nat), k ≤ l.length ∧ s13 = .int .i64 ((l.length : Int) - 1 - (k : Int)) ∧ s12 = .slice Ap M.length cp ∧ Hid (M = (l.drop (l.length - k)).reverse) ∧ Hid (M.length = k) ∧ Fr none w7 wr ∧ wr.ownsRow w7.heap.size 57 4 (.slice Ap M.length cp) M.length (flR txR M)) (fun _ s13 _ => (intOf s13 + 1).toNat)
    case atStart => exact ⟨0, [], none, 0, Nat.zero_le _, by go_num, rfl, by unfold Hid; simp, rfl, Fr.refl _ _, World.ownsRow_nil _ _ _ _⟩
    case round =>
      obtain ⟨k, M, Ap, cp, hk, rfl, rfl, HMM, HML, F, own⟩ := hrel
      by_cases hlt : k < l.length
      · obtain ⟨j, hj⟩ : ∃ j, l.length = j + 1 + k := ⟨l.length - 1 - k, by omega⟩
        have hjl : j < l.length := by omega
        have hi1 : ((l.length : Int) - 1 - (k : Int)) = (j : Int) := by omega
        rw [hi1]
        have hd : decide ((0 : Int) ≤ (j : Int)) = true := decide_eq_true (by omega)
        have hs1 : IntKind.i64.wrap ((j : Int) - 1) = (j : Int) - 1 := by rw [IntKind.wrap_i64]; omega
        obtain ⟨b, off, rfl, _, _, hcc⟩ := HCC.out (by omega)
        obtain ⟨c0, c1, c2, c3⟩ := hcc j hjl
        have F47 := F57.pure F
        have c0 := F47.keep c0 (by simp)
        have c1 := F47.keep c1 (by simp)
        have c2 := F47.keep c2 (by simp)
        have c3 := F47.keep c3 (by simp)
        have HNX : Hid ((l.drop (l.length - (k + 1))).reverse = (l.drop (l.length - k)).reverse ++ [l[j]]) := by
          unfold Hid
          rw [show l.length - (k + 1) = j by omega, show l.length - k = j + 1 by omega, List.drop_eq_getElem_cons hjl, List.reverse_cons]
        clear hcc
        generalize l[j] = y at *
        have hML := HML.out
        have hcp := own_cap own
        have HJ := Lib.hid hj
        have HI := Lib.hid hi1
        unfold TxX.v at c3
        have hws := F.size
        clear hj hi1 hML
        go_wp2_with (at_builtin; refine app_lit eiTx rfl _ _ rfl w7.heap.size Ap M.length cp _ rfl own 1 [.int .i64 y.src, .int .i64 y.seq, .int .i64 y.fee, .slice y.A y.ops.length y.c] _ _ rfl (by simp) rfl (by simp [Value.oneCell']) (by have := HML.out; omega) (by unfold maxLen; have := HML.out; omega) (by omega) ?_; intro A8 c8 w8 own8 F8 nb8)
        go_roundw
        case rel =>
          refine ⟨k + 1, M ++ [y], A8, c8, by omega, ?_, by rw [List.length_append]; rfl, by unfold Hid; rw [HNX.out, HMM.out], ?_, F.own F8 (fun g e => own_blk_ge own g e), ?_⟩
          · have := HJ.out
            simp only [Value.int.injEq, true_and]
            omega
          · have := HML.out
            unfold Hid
            rw [List.length_append]
            simp only [List.length_cons, List.length_nil]
            omega
          · rw [List.length_append]
            simp only [List.length_cons, List.length_nil]
            rw [flR_snoc]
            exact own8
        case measure => simp [intOf]
      · obtain rfl : k = l.length := by omega
        have hi1 : ((l.length : Int) - 1 - (l.length : Int)) = -1 := by omega
        rw [hi1]
        clear hi1
        have HMR : Hid (M = l.reverse) := by unfold Hid; rw [HMM.out, Nat.sub_self, List.drop_zero]
        have HSM : Hid (SlT wr none (.slice Ap M.length cp) M) := by
          have F47 := F57.pure F
          refine ⟨SlR.of_own (R := txR) own (by simp) (fun y hy => HTX.out y (by rw [HMR.out] at hy; simpa using hy)), fun y hy => ?_⟩
          exact ((HSL.out.2 y (by rw [HMR.out] at hy; simpa using hy)).fr F47)
        have HLE : Hid (M.length < 20) := by have := HML.out; unfold Hid; omega
        clear own HMM
        have F47 := F57.pure F
        have HSmr := Lib.hid (HSm7.out.fr F)
        have HSr := Lib.hid (HSL.out.fr F47)
        have z1 : decide ((1 : Int) ≤ (S.length : Int)) = true := decide_eq_true (by have := HSZ.out; omega)
        have z2 : decide ((S.length : Int) ≤ 200) = true := decide_eq_true (by have := HSZ.out; omega)
        have z3 : ((bL S).size : Int) = (S.length : Int) := by rw [bL_size]
        clear F hm1
        go_wp2_with fail
        refine (rtxs_any l m _ _ wr HSr.out HSmr.out (by rw [HPm.out, HLP.out])).mono ?_
        rintro e w8 ⟨rfl, F8⟩
        go_wp2_with fail
        refine (psort_any M _ w8 (HSM.out.fr F8) HLE.out (fun y hy => (HVT.out y (by rw [HMR.out] at hy; simpa using hy)).2)).mono ?_
        rintro e w9 ⟨v', l', rfl, hS', hP', F9⟩
        have HS' := Lib.hid hS'
        have HP' := Lib.hid hP'
        obtain ⟨Aq, cq, rfl, _, _, _⟩ := txR_open (hS'.t none (by simp)).1
        clear hS' hP'
        go_wp2_with fail
        refine (rtxs_any l' l _ _ w9 (HS'.out.t none (by simp)) ((HSr.out.fr F8).fr F9) (by rw [HP'.out, HMR.out, HSRT.out, HLP.out])).mono ?_
        rintro e w10 ⟨rfl, F10⟩
        have FW := ((F47.pure F8).pure F9).pure F10
        clear F8 F9 F10 F47
        go_wp2_with fail
        refine (sane40_any w10 (HTW.out w10 FW).2.1 (HTW.out w10 FW).2.2.1 (HTW.out w10 FW).1 (HTW.out w10 FW).2.2.2).mono ?_
        rintro e w11 ⟨rfl, F11⟩
        go_wp2_with fail
        go_ret
        exact ⟨rfl, (FX4.pure FW).pure F11⟩
end Go.Proofs.YtonhhnedfjonoaaGreatDoor

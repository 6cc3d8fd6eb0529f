/- The law LedgerOrder: its walk. -/
import Derived.Test.YtonhhnedfjonoaaGreatDoorProg
import Derived.Test.YtonhhnedfjonoaaGreatDoorLgOp2J
import Derived.Test.YtonhhnedfjonoaaGreatDoorLgTqJ
import Derived.Test.YtonhhnedfjonoaaGreatDoorJM17
set_option linter.unusedSimpArgs false
set_option linter.unusedVariables false
namespace Go.Proofs.YtonhhnedfjonoaaGreatDoor
open Go.RowKit

def TxsQ (B : Nat) (w : World) (v : Value) (l : List TxX) : Prop := ∀ t ∈ l, vTx t.pl = true ∧ TxO B w v t
theorem TxsQ.keep {B B' : Nat} {w w' : World} {v v' : Value} {l : List TxX} (h : TxsQ B w v l) (hD : ∀ z, Dx B w v z → Dx B' w' v' z ∧ w'.heap[z]? = w.heap[z]?) : TxsQ B' w' v' l := fun t ht => ⟨(h t ht).1, (h t ht).2.keep hD⟩
set_option maxRecDepth 100000 in
set_option maxHeartbeats 8000000 in
theorem lawLo_any (v : Value) (t : List Int) (w : World) (ht : SlI w none v t) (hT : Tab w) (hE : Errs w) (hM : Mxl w) :
    Calls Tryz.prog 5 #[v] w fun e w' => e = .returned (.bool true) ∧ Fr none w w' := by
  have HT := Lib.hid hT
  have HE := Lib.hid hE
  have HM := Lib.hid hM
  have HMX : Hid (1 < w.heap.size) := by obtain ⟨m, h⟩ := hM; exact World.block_lt_of_cell? w _ h
  clear hT hE hM
  go_enter Tryz.func5, Tryz.ntmps5
  go_wp2_with fail
  refine (srcNew_any v t w ht).mono ?_
  rintro e w1 ⟨sb, rfl, hsb, S1, F1⟩
  go_wp2_with fail
  refine (srcLed_any sb w1 S1).mono ?_
  rintro e w2 ⟨va, vl, vo, G, rfl, hG, hok, S2, F2⟩
  unfold bxv
  have hs1 := S1.lt
  obtain ⟨A1, ca, rfl, _, _, _⟩ := accR_open (hG.lgs none (by simp)).1
  obtain ⟨A2, cl, rfl, _, _, _⟩ := lnR_open (hG.lgs none (by simp)).2.1
  obtain ⟨A3, co, rfl, _, _, _⟩ := ofR_open (hG.lgs none (by simp)).2.2.1
  have HAC : Hid (SlR accR w2 (some sb) (.slice A1 G.accs.length ca) G.accs) := (hG.lgs (some sb) (by intro q e; injection e with e; omega)).1
  have HGA := Lib.hid hok.ga
  have FX : Fr none w w2 := F1.new F2 hsb
  have hs2 := F2.size
  clear S1 F1 F2 ht hG hok
  go_upto_region 3 with (fail)
  obtain ⟨gb, hgb⟩ : ∃ gb, gb = w2.heap.size := ⟨_, rfl⟩
  rw [← hgb]
  generalize hW : w2.alloc _ = w3
  have F3 : Fr none w2 w3 := hW ▸ (Fr.refl none w2).alloc _
  have bg : w3.heap[gb]? = some (.cells #[.int .i64 G.num, .slice A1 G.accs.length ca, .slice A2 G.lines.length cl, .slice A3 G.offers.length co, .int .i64 G.nid, .int .i64 G.fees, .int .u64 (G.link : Int)] 30 (0, 0)) := by rw [← hW, hgb]; exact blk_new _ _
  have hgb2 : sb < gb := by omega
  clear hW hgb
  have S3 := S2.fr F3
  have HAC := Lib.hid (HAC.out.fr F3.mono)
  have FX := FX.pure F3
  clear S2 F3 hs2
  obtain ⟨k0, k1, k2, k3, k4, k5, k6⟩ := lgcells bg
  go_wp2_with fail
  refine (srcN_any 6 sb w3 (by omega) S3).mono ?_
  rintro e w4 ⟨x, rfl, x1, x2, S4, F4⟩
  have x2 : x ≤ 5 := by omega
  have bg := blk_fr bg F4 (by intro e; injection e with e; omega)
  have hw3 := FX.size
  have FX4 : Fr none w w4 := FX.new F4 hsb
  have HA4 := Lib.hid (HAC.out.fr F4)
  have hs4 : gb < w4.heap.size := blk_lt bg
  clear k0 k1 k2 k3 k4 k5 k6 S3 HAC FX F4
  obtain ⟨B, hB⟩ : ∃ B, B = w4.heap.size := ⟨_, rfl⟩
  have hB1 : gb < B ∧ B ≤ w4.heap.size ∧ w4.heap.size ≤ B ∧ w.heap.size ≤ B := by have := FX4.size; omega
  clear hB
  go_wp2_with fail
  go_loopw [5, 6] (fun s5 s6 wr => ∃ (j : Int) (l : List TxX) (Ap : Option Addr) (cp : Nat), (0 ≤ j ∧ j + (l.length : Int) ≤ 5) ∧ s6 = .int .i64 j ∧ s5 = .slice Ap l.length cp ∧ wr.heap[gb]? = some (.cells #[.int .i64 G.num, .slice A1 G.accs.length ca, .slice A2 G.lines.length cl, .slice A3 G.offers.length co, .int .i64 G.nid, .int .i64 G.fees, .int .u64 (G.link : Int)] 30 (0, 0)) ∧ wr.ownsRow B 57 4 (.slice Ap l.length cp) l.length (flR txR l) ∧ Hid (TxsQ B wr (.slice Ap l.length cp) l) ∧ SrcR 63 wr sb ∧ Fr (some sb) w4 wr) (fun _ s6 _ => (intOf s6).toNat)
  case atStart => exact ⟨x, [], none, 0, by simp; omega, rfl, rfl, bg, World.ownsRow_nil _ _ _ _, (fun t ht => by cases ht), S4, Fr.refl _ _⟩
  case round =>
    clear bg S4
    obtain ⟨j, l, Ap, cp, hj, rfl, rfl, bg, own, HQ, S, F⟩ := hrel
    have hsF := F.size
    by_cases hlt : 0 < j
    · have hd : decide ((0 : Int) < j) = true := decide_eq_true hlt
      have hm1 : IntKind.i64.wrap (j - 1) = j - 1 := by rw [IntKind.wrap_i64]; omega
      obtain ⟨k0, k1, k2, k3, k4, k5, k6⟩ := lgcells bg
      have hcp := own_cap own
      go_wp2_with fail
      refine (srcTx_any sb G A1 A2 A3 G.lines.length G.offers.length ca cl co wr S (HA4.out.fr F) HGA.out).mono ?_
      rintro e w5 ⟨⟨ts, tq, tf, tops, tA, tc⟩, rfl, ht1, ht2, ht3, ht4, hops, hTN, S5, F5⟩
      dsimp only at ht1 ht2 ht3 ht4 hops
      have own5 := own_fr own F5 (by intro b e; injection e with e; omega)
      have HOB : Hid (∀ b, (Value.slice Ap l.length cp).ownBlock = some b → b < wr.heap.size) := fun b hb => (own.lt b hb).2
      have HQ5 : Hid (TxsQ B w5 (.slice Ap l.length cp) l) := HQ.out.keep (dx_fr F5 (by intro b e; injection e with e; omega))
      have bg5 := blk_fr bg F5 (by intro e; injection e with e; omega)
      have HTN := Lib.hid hTN
      have HTV : Hid (vTx (TxX.pl ⟨ts, tq, tf, tops, tA, tc⟩) = true ∧ TxW ⟨ts, tq, tf, tops, tA, tc⟩) := by
        have h := vTx_of (t := ⟨ts, tq, tf, tops, tA, tc⟩) (show 1 ≤ ts ∧ ts ≤ 1000 by omega) (show 1 ≤ tq ∧ tq ≤ 1000000 by omega) (show 1 ≤ tf ∧ tf ≤ 100000 by omega) (show 1 ≤ tops.length ∧ tops.length ≤ 4 by omega) hops
        have h2 := vTx_parts h
        exact ⟨h, h2.1, h2.2.1, h2.2.2.1⟩
      have FF5 := F.same F5
      have hs5 := F5.size
      unfold txV
      dsimp only
      clear own HQ S F F5 bg hTN hops k0 k1 k2 k3 k4 k5 k6
      go_wp2_with (at_builtin; refine app_lit eiTx rfl _ _ rfl B Ap l.length cp _ rfl own5 1 [.int .i64 ts, .int .i64 tq, .int .i64 tf, .slice tA tops.length tc] _ _ rfl (by simp) rfl (by simp [Value.oneCell']) (by omega) (by unfold maxLen; omega) (by omega) ?_; intro A7 c7 w7 own7 F7 nb7)
      go_roundw
      case rel =>
        have hdx : ∀ z : Nat, Dx B w5 (.slice Ap l.length cp) z → Dx B w7 (.slice A7 (l.length + 1) c7) z ∧ w7.heap[z]? = w5.heap[z]? := dx_app F7 nb7
        have hge := own_blk_ge own5
        refine ⟨j - 1, l ++ [⟨ts, tq, tf, tops, tA, tc⟩], A7, c7, ?_, by go_num, ?_, blk_fr bg5 F7 (fun e => by have := hge _ e; omega), ?_, ?_, S5.frs F7 (fun b e => by have := hge b e; omega), FF5.own F7 (fun b e => by have := hge b e; omega)⟩
        · rw [List.length_append]; simp only [List.length_cons, List.length_nil]; omega
        · rw [List.length_append]; rfl
        · rw [List.length_append]
          simp only [List.length_cons, List.length_nil]
          rw [flR_snoc]
          exact own7
        · rw [List.length_append]
          simp only [List.length_cons, List.length_nil]
          intro z hz
          rcases List.mem_append.1 hz with hz | hz
          · exact (HQ5.out.keep hdx) z hz
          · rw [List.mem_singleton.1 hz]
            exact ⟨HTV.out.1, (TxO.of HTN.out (dn_dx (by omega) HOB.out)).keep hdx⟩
      case measure => simp [intOf]; omega
    · have hd : decide ((0 : Int) < j) = false := decide_eq_false hlt
      have hl5 : l.length ≤ 5 := by omega
      have HSL : Hid (SlT wr none (.slice Ap l.length cp) l) := ⟨SlR.of_own (R := txR) own (by simp) (fun y hy => by have := vTx_parts (HQ.out y hy).1; exact ⟨this.1, this.2.1, this.2.2.1⟩), fun y hy => (HQ.out y hy).2.d⟩
      have HV : Hid (∀ y ∈ l, vTx y.pl = true) := fun y hy => (HQ.out y hy).1
      have FXr : Fr none w wr := FX4.new F hsb
      have HTW : Hid (∀ W, Fr none wr W → Tab W ∧ Errs W ∧ Mxl W ∧ 1 < W.heap.size) := fun W F => ⟨HT.out.fr (FXr.pure F), HE.out.frs (FXr.pure F) (by simp) (by simp), HM.out.frs (FXr.pure F) (by simp), Nat.lt_of_lt_of_le HMX.out (FXr.pure F).size⟩
      clear own HQ S F bg hlt hj
      go_wp2_with fail
      refine (psort_any l _ wr HSL.out (by omega) (fun y hy => TxSm.of (HV.out y hy))).mono ?_
      rintro e w5 ⟨vm, m, rfl, hSm, hPm, F5⟩
      obtain ⟨Am, cm, rfl, qm1, qm2, hmc⟩ := txR_open (hSm.t none (by simp)).1
      have hlen : m.length = l.length := by
        have := congrArg List.length hPm
        rw [srtL_len] at this
        unfold plT at this
        simpa using this
      rw [← hlen]
      have HMV : Hid (∀ y ∈ plT m, vTx y = true) := fun y hy => by
        rw [hPm, srtL_mem] at hy
        unfold plT at hy
        obtain ⟨z, hz, rfl⟩ := List.mem_map.1 hy
        exact HV.out z hz
      have HASC : Hid ((plT m).Pairwise (fun a b => ltTx b a = false)) := by
        unfold Hid
        rw [hPm]
        exact srtL_asc ltTx_asymm ltTx_trans _
      have hm5 : m.length ≤ 5 := by omega
      have HSm := Lib.hid (hSm.t none (by simp))
      have HMC := Lib.hid hmc
      have HMT : Hid (∀ y ∈ m, TxSm y) := fun y hy => TxSm.of (plT_mem HMV.out y hy)
      clear hSm hPm hlen hmc hl5
      go_wp2_with fail
      refine (psort_any m _ w5 HSm.out (by omega) HMT.out).mono ?_
      rintro e w6 ⟨vn, n, rfl, hSn, hPn, F6⟩
      have HSn := Lib.hid (hSn.t none (by simp))
      obtain ⟨An, cn, rfl, _, _, _⟩ := txR_open HSn.out.1
      have HPn : Hid (plT n = plT m) := by unfold Hid; rw [hPn]; exact srtL_of HASC.out
      clear hSn hPn
      go_wp2_with fail
      refine (rtxs_any n m _ _ w6 HSn.out (HSm.out.fr F6) HPn.out).mono ?_
      rintro e w7 ⟨rfl, F7⟩
      have F57 := F6.pure F7
      have Fr7 := F5.pure F57
      clear F5 F6 F7
      go_wp2_with fail
      go_loopw [8, 45] (fun s8 s45 wr2 => ∃ (i : Nat) (tw : Bool), i ≤ m.length ∧ s45 = .int .i64 (i : Int) ∧ s8 = .bool tw ∧ Hid (tw = twB (plT m) i) ∧ Fr none w7 wr2) (fun _ s45 _ => m.length - (intOf s45).toNat)
      case atStart => exact ⟨0, false, Nat.zero_le _, rfl, rfl, rfl, Fr.refl _ _⟩
      case round =>
        obtain ⟨i, tw, hi, rfl, rfl, HTB, F⟩ := hrel
        by_cases hil : i < m.length
        · cases i with
          | zero =>
            rw [show ((0 : Nat) : Int) = 0 from rfl]
            go_wp2_with fail
            go_roundw
            case rel => exact ⟨1, tw, by omega, by go_num, rfl, by unfold Hid; rw [HTB.out]; simp [twB], F⟩
            case measure => simp [intOf]; omega
          | succ p =>
            rw [show ((p + 1 : Nat) : Int) = (p : Int) + 1 from rfl]
            have hpm : p < m.length := by omega
            obtain ⟨b, off, rfl, _, _, hcc⟩ := HMC.out (by omega)
            obtain ⟨c0, c1, c2, c3⟩ := hcc p hpm
            obtain ⟨d0, d1, d2, d3⟩ := hcc (p + 1) hil
            have F5r := F57.pure F
            have c0 := F5r.keep c0 (by simp)
            have c1 := F5r.keep c1 (by simp)
            have c2 := F5r.keep c2 (by simp)
            have c3 := F5r.keep c3 (by simp)
            have d0 := F5r.keep d0 (by simp)
            have d1 := F5r.keep d1 (by simp)
            have d2 := F5r.keep d2 (by simp)
            have d3 := F5r.keep d3 (by simp)
            have HG1 : Hid ((plT m).getD (p + 1 - 1) tx00 = m[p].pl) := plT_getD hpm
            have HG2 : Hid ((plT m).getD (p + 1) tx00 = m[p + 1].pl) := plT_getD hil
            have hlt2 : ltTx m[p + 1].pl m[p].pl = false := by
              have := List.pairwise_iff_getElem.1 HASC.out p (p + 1) (by unfold plT; rw [List.length_map]; exact hpm) (by unfold plT; rw [List.length_map]; exact hil) (by omega)
              unfold plT at this
              simpa using this
            generalize m[p] = x at *
            generalize m[p + 1] = y at *
            have HLT : Hid (x.src < y.src ∨ x.src = y.src ∧ x.seq ≤ y.seq) := by
              unfold ltTx TxX.pl at hlt2
              simp only [decide_eq_false_iff_not] at hlt2
              unfold Hid
              omega
            unfold TxX.v at c3 d3
            have g1 : decide ((0 : Int) < (p : Int) + 1) = true := decide_eq_true (by omega)
            have g2 : IntKind.i64.wrap (p : Int) = (p : Int) := by rw [IntKind.wrap_i64]; omega
            have g3 : (p : Int) + 1 < (m.length : Int) := by omega
            have g4 : (p : Int) < (m.length : Int) := by omega
            have g5 : (0 : Int) ≤ (p : Int) + 1 := by omega
            have g6 : ((p : Int) + 1).toNat = p + 1 := by omega
            clear hcc hlt2
            go_upto_region 16 with (fail)
            go_cut [10, 11] (fun s10 s11 W => ∃ b1 b2 : Nat, s10 = .pointer (some ⟨b1, 0, none⟩) ∧ s11 = .pointer (some ⟨b2, 0, none⟩) ∧ TxB W b1 x ∧ TxB W b2 y ∧ Fr none wr W)
            case first =>
              have KW : ∀ W, Fr none wr W → (W.cell? ⟨b, off + p * 4, none⟩ = some (.int .i64 x.src) ∧ W.cell? ⟨b, off + p * 4 + 1, none⟩ = some (.int .i64 x.seq) ∧ W.cell? ⟨b, off + p * 4 + 2, none⟩ = some (.int .i64 x.fee) ∧ W.cell? ⟨b, off + p * 4 + 3, none⟩ = some (.slice x.A x.ops.length x.c)) ∧ (W.cell? ⟨b, off + (p + 1) * 4, none⟩ = some (.int .i64 y.src) ∧ W.cell? ⟨b, off + (p + 1) * 4 + 1, none⟩ = some (.int .i64 y.seq) ∧ W.cell? ⟨b, off + (p + 1) * 4 + 2, none⟩ = some (.int .i64 y.fee) ∧ W.cell? ⟨b, off + (p + 1) * 4 + 3, none⟩ = some (.slice y.A y.ops.length y.c)) ∧ Fr none wr W := fun W FW => ⟨⟨FW.keep c0 (by simp), FW.keep c1 (by simp), FW.keep c2 (by simp), FW.keep c3 (by simp)⟩, ⟨FW.keep d0 (by simp), FW.keep d1 (by simp), FW.keep d2 (by simp), FW.keep d3 (by simp)⟩, FW⟩
              clear c0 c1 c2 c3 d0 d1 d2 d3
              first | (go_region_held3 (fun W => (W.cell? ⟨b, off + p * 4, none⟩ = some (.int .i64 x.src) ∧ W.cell? ⟨b, off + p * 4 + 1, none⟩ = some (.int .i64 x.seq) ∧ W.cell? ⟨b, off + p * 4 + 2, none⟩ = some (.int .i64 x.fee) ∧ W.cell? ⟨b, off + p * 4 + 3, none⟩ = some (.slice x.A x.ops.length x.c)) ∧ (W.cell? ⟨b, off + (p + 1) * 4, none⟩ = some (.int .i64 y.src) ∧ W.cell? ⟨b, off + (p + 1) * 4 + 1, none⟩ = some (.int .i64 y.seq) ∧ W.cell? ⟨b, off + (p + 1) * 4 + 2, none⟩ = some (.int .i64 y.fee) ∧ W.cell? ⟨b, off + (p + 1) * 4 + 3, none⟩ = some (.slice y.A y.ops.length y.c)) ∧ Fr none wr W) (first | exact KW _ (Fr.refl _ _).drew | exact KW _ ((Fr.refl _ _).drew.alloc _) | exact KW _ (((Fr.refl _ _).drew.alloc _).alloc _)) (first | fail)) | fail
              · go_wp2_with fail
                go_meet
                obtain ⟨h1, h2, h3⟩ := alloc2 wr (.cells #[.int .i64 x.src, .int .i64 x.seq, .int .i64 x.fee, .slice x.A x.ops.length x.c] 57) (.cells #[.int .i64 y.src, .int .i64 y.seq, .int .i64 y.fee, .slice y.A y.ops.length y.c] 57)
                exact ⟨_, _, rfl, rfl, h1, h2, h3⟩
              · go_wp2_with fail
                go_meet
                obtain ⟨h1, h2, h3⟩ := alloc2 wr (.cells #[.int .i64 y.src, .int .i64 y.seq, .int .i64 y.fee, .slice y.A y.ops.length y.c] 57) (.cells #[.int .i64 x.src, .int .i64 x.seq, .int .i64 x.fee, .slice x.A x.ops.length x.c] 57)
                exact ⟨_, _, rfl, rfl, h2, h1, h3⟩
            case rest =>
              obtain ⟨b1, b2, rfl, rfl, hX, hY, Fc⟩ := hcut
              have FF := F.pure Fc
              clear c0 c1 c2 c3 d0 d1 d2 d3 F Fc F5r
              obtain ⟨c0, c1, c2, c3⟩ := txcells hX
              obtain ⟨d0, d1, d2, d3⟩ := txcells hY
              have r1 : decide (y.src < x.src) = false := decide_eq_false (by have := HLT.out; omega)
              by_cases hs1 : x.src = y.src
              · have q1 : (x.src == y.src) = true := by rw [beq_iff_eq]; exact hs1
                have r2 : decide (y.seq < x.seq) = false := decide_eq_false (by have := HLT.out; omega)
                have HS1 := Lib.hid hs1
                clear hs1
                by_cases hs2 : x.seq = y.seq
                · have q2 : (x.seq == y.seq) = true := by rw [beq_iff_eq]; exact hs2
                  have HV2 : Hid (twB (plT m) (p + 1 + 1) = true) := by unfold Hid; rw [twB, HG1.out, HG2.out]; unfold sameK TxX.pl; simp [HS1.out, hs2]
                  clear hs2
                  cases tw with
                  | true =>
                    go_wp2_with fail
                    go_roundw
                    case rel => exact ⟨p + 2, true, by omega, by go_num, rfl, HV2.out.symm, FF⟩
                    case measure => simp [intOf]; omega
                  | false =>
                    go_wp2_with fail
                    go_roundw
                    case rel => exact ⟨p + 2, true, by omega, by go_num, rfl, HV2.out.symm, FF⟩
                    case measure => simp [intOf]; omega
                · have q2 : (x.seq == y.seq) = false := by rw [beq_eq_false_iff_ne]; exact hs2
                  have HV2 : Hid (twB (plT m) (p + 1 + 1) = twB (plT m) (p + 1)) := by unfold Hid; rw [twB, HG1.out, HG2.out]; unfold sameK TxX.pl; simp [hs2]
                  clear hs2
                  cases tw with
                  | true =>
                    go_wp2_with fail
                    go_roundw
                    case rel => exact ⟨p + 2, true, by omega, by go_num, rfl, HTB.out.trans HV2.out.symm, FF⟩
                    case measure => simp [intOf]; omega
                  | false =>
                    go_wp2_with fail
                    go_roundw
                    case rel => exact ⟨p + 2, false, by omega, by go_num, rfl, HTB.out.trans HV2.out.symm, FF⟩
                    case measure => simp [intOf]; omega
              · have q1 : (x.src == y.src) = false := by rw [beq_eq_false_iff_ne]; exact hs1
                have HV2 : Hid (twB (plT m) (p + 1 + 1) = twB (plT m) (p + 1)) := by unfold Hid; rw [twB, HG1.out, HG2.out]; unfold sameK TxX.pl; simp [hs1]
                clear hs1
                cases tw with
                | true =>
                  go_wp2_with fail
                  go_roundw
                  case rel => exact ⟨p + 2, true, by omega, by go_num, rfl, HTB.out.trans HV2.out.symm, FF⟩
                  case measure => simp [intOf]; omega
                | false =>
                  go_wp2_with fail
                  go_roundw
                  case rel => exact ⟨p + 2, false, by omega, by go_num, rfl, HTB.out.trans HV2.out.symm, FF⟩
                  case measure => simp [intOf]; omega
        · obtain rfl : i = m.length := by omega
          have HCK : Hid (chkT (plT m) = if tw = true then 7 else 0) := by
            have := chk_tw (L := plT m) (by unfold plT; rw [List.length_map]; omega) HMV.out HASC.out
            rw [show (plT m).length = m.length by unfold plT; rw [List.length_map], ← HTB.out] at this
            exact this
          have FW := Fr7.pure F
          go_wp2_with fail
          refine (pchk_any m _ wr (HSm.out.fr (F57.pure F))).mono ?_
          rw [HCK.out]
          rintro e w8 ⟨rfl, F8⟩
          have FW8 := FW.pure F8
          cases tw with
          | true =>
            rw [if_pos rfl]
            go_wp2_with fail
            refine (sane40_any w8 (HTW.out w8 FW8).2.1 (HTW.out w8 FW8).2.2.1 (HTW.out w8 FW8).1 (HTW.out w8 FW8).2.2.2).mono ?_
            rintro e w9 ⟨rfl, F9⟩
            go_wp2_with fail
            go_ret
            exact ⟨rfl, (FXr.pure FW8).pure F9⟩
          | false =>
            rw [if_neg (by simp)]
            go_wp2_with fail
            refine (sane40_any w8 (HTW.out w8 FW8).2.1 (HTW.out w8 FW8).2.2.1 (HTW.out w8 FW8).1 (HTW.out w8 FW8).2.2.2).mono ?_
            rintro e w9 ⟨rfl, F9⟩
            go_wp2_with fail
            go_ret
            exact ⟨rfl, (FXr.pure FW8).pure F9⟩
end Go.Proofs.YtonhhnedfjonoaaGreatDoor

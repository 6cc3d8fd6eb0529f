/- The law ClaimsTexts: its walk. -/
import Derived.Test.YtkpgnhdmlikopaaDoorProg
import Derived.Test.YtkpgnhdmlikopaaDoorJC12
import Derived.Test.YtkpgnhdmlikopaaDoorJC5
set_option linter.unusedSimpArgs false
set_option linter.unusedVariables false
namespace Go.Proofs.YtkpgnhdmlikopaaDoor
open Go.RowKit

/-- Lists of claims, in a block of slices. -/
def LsC (w : World) (bk n : Nat) : Prop := ∀ k, k < n → ∃ (A : Option Addr) (c : Nat) (L : List Cl), w.cell? ⟨bk, k, none⟩ = some (.slice A L.length c) ∧ SlC w none (.slice A L.length c) L ∧ L.length ≤ 200
theorem LsC.fr {w w' : World} {bk n : Nat} (h : LsC w bk n) (F : Fr none w w') : LsC w' bk n := fun k hk => by
  obtain ⟨A, c, L, h1, h2, h3⟩ := h k hk
  exact ⟨A, c, L, F.keep h1 (by simp), h2.fr F, h3⟩
theorem pln_dec (L : List Cl) : plnC L = decide (L = srtC L) := by
  unfold plnC
  rw [decide_eq_decide]
  exact eq_comm
set_option maxRecDepth 100000 in
set_option maxHeartbeats 4000000 in
theorem lawCt_any (vt : Value) (tl : List Int) (v : Value) (l : List Cl) (w : World) (ht : SlI w none vt tl) (h : SlC w none v l) (hE : Errs w) (hM : Mxl w) (hP : Spc w) :
    Calls Tryd.prog 3 #[vt, v] w fun e w' => e = .returned (.bool true) ∧ Fr none w w' := by
  obtain ⟨A0, c0, rfl, q1, q2, _⟩ := h.open_
  by_cases h60 : 60 < l.length
  · have hd : decide ((60 : Int) < (l.length : Int)) = true := decide_eq_true (by omega)
    clear h60
    go_enter Tryd.func3, Tryd.ntmps3
    go_wp2_with fail
    refine (awakeC_any w hE hM hP).mono ?_
    rintro e w1 ⟨rfl, F1⟩
    go_wp2_with fail
    go_ret
    exact ⟨rfl, F1⟩
  · have hd : decide ((60 : Int) < (l.length : Int)) = false := decide_eq_false (by omega)
    have hl : l.length ≤ 60 := by omega
    clear h60
    go_enter Tryd.func3, Tryd.ntmps3
    go_wp2_with fail
    refine (tapeNew_any _ tl _ ht).mono ?_
    rintro e w1 ⟨g, rfl, hg, S1, F1⟩
    have hg1 := S1.lt
    have H0 := h.fresh F1 hg
    clear hd ht h
    go_wp2_with fail
    refine (csrt_any l _ _ H0.weak (by omega)).mono ?_
    rintro e w2 ⟨v2, rfl, hs2, F2⟩
    have H1 := NwC.sl hs2 (srtC_wc l) (some g) (fun q e => by injection e with e; omega)
    have H0 := H0.fr (F2.mono (r := some g))
    have S2 := S1.fr F2
    have hz2 := F2.size
    have hl1 := srtC_len l
    obtain ⟨A1, c1, rfl, _, _, _⟩ := H1.open_
    clear hs2 S1
    go_wp2_with fail
    refine (mkclms_any g 10 w2 (by omega) S2).mono ?_
    rintro e w3 ⟨v3, m, rfl, hs3, hW3, hl3, S3, F3⟩
    have Hm : SlC w3 none v3 m := ⟨hs3.keep (dn_dm (by simp)), hW3⟩
    have H0 := H0.fr F3
    have H1 := H1.fr F3
    have hz3 := F3.size
    clear hs3 hW3 S2
    obtain ⟨A3, c3, rfl, _, _, _⟩ := Hm.open_
    go_wp2_with fail
    refine (csrt_any m _ w3 Hm (by omega)).mono ?_
    rintro e w4 ⟨v4, rfl, hs4, F4⟩
    have H2 := NwC.sl hs4 (srtC_wc m) none (by simp)
    have H0 := H0.weak.fr F4
    have H1 := H1.weak.fr F4
    have hl2 := srtC_len m
    obtain ⟨A2, c2, rfl, _, _, _⟩ := H2.open_
    have F04 : Fr none w w4 := ((F1.pure F2).own F3 (fun q e => by injection e with e; omega)).pure F4
    clear hs4 S3 Hm F1 F2 F3 F4
    go_upto_region 5 with (fail)
    generalize hW : w4.alloc _ = w5
    have F5 : Fr none w4 w5 := hW ▸ (Fr.refl none w4).alloc _
    have bk : w5.heap[w4.heap.size]? = some (.cells #[.slice A0 l.length c0, .slice A1 (srtC l).length c1, .slice A2 (srtC m).length c2] 23) := by rw [← hW]; exact blk_new _ _
    clear hW
    have HL : Hid (LsC w5 w4.heap.size 3) := fun k hk => by
      rcases (show k = 0 ∨ k = 1 ∨ k = 2 by omega) with rfl | rfl | rfl
      · exact ⟨_, _, l, by rw [blk_cell bk]; rfl, H0.fr F5, by omega⟩
      · exact ⟨_, _, srtC l, by rw [blk_cell bk]; rfl, H1.fr F5, by omega⟩
      · exact ⟨_, _, srtC m, by rw [blk_cell bk]; rfl, H2.fr F5, by omega⟩
    have F05 := F04.pure F5
    clear bk H0 H1 H2 F5 F04
    go_wp2_with fail
    go_loopw [24] (fun s24 wr => ∃ j : Nat, j ≤ 3 ∧ s24 = .int .i64 (j : Int) ∧ Fr none w5 wr) (fun s24 _ => 3 - (intOf s24).toNat)
    case atStart => exact ⟨0, by omega, rfl, Fr.refl _ _⟩
    case round =>
      obtain ⟨j, hj, rfl, F⟩ := hrel
      obtain ⟨wz, hwz⟩ : ∃ wz : World, wz = wr := ⟨_, rfl⟩
      subst hwz
      have F0z := F05.pure F
      by_cases hlt : j < 3
      · obtain ⟨A, c, L, e1, hL, hll⟩ := HL.out.fr F j hlt
        have HLL := Lib.hid hL
        clear hL
        go_wp2_with fail
        refine (ctxt_any L _ _ HLL.out (by omega)).mono ?_
        rintro e w6 ⟨rfl, F6⟩
        have F06 := F0z.pure F6
        have hpar := cpar_any (bC (textC L)) w6 (by rw [bC_size]; have := textC_len L; omega) (hE.fr F06) (hM.fr F06) (hP.fr F06)
        rw [bC_list, parC_text] at hpar
        have HPar := Lib.hid hpar
        clear hpar e1
        go_wp2_with fail
        refine HPar.out.mono ?_
        rintro e w7 ⟨v7, rfl, hs7, hw7, F7⟩
        have H7 := NwC.sl hs7 hw7 none (by simp)
        have hL7 := Lib.hid ((HLL.out.fr F6).fr F7)
        obtain ⟨A7, c7, rfl, _, _, _⟩ := H7.open_
        clear hs7 hw7 HPar
        go_wp2_with fail
        refine (rsrt_any L _ w7 hL7.out).mono ?_
        rintro e w8 ⟨v8, rfl, hs8, F8⟩
        have H8 := NwC.sl hs8 (srtC_wc L) none (by simp)
        have H78 := H7.fr F8
        have hL8 := Lib.hid (hL7.out.fr F8)
        clear hs8 H7
        go_wp2_with fail
        refine (rsm_any (srtC L) (srtC L) _ _ w8 H78 H8).mono ?_
        rintro e w9 ⟨rfl, F9⟩
        have hL9 := Lib.hid (hL8.out.fr F9)
        have hde : decide (srtC L = srtC L) = true := decide_eq_true rfl
        rw [hde]
        clear hde H78 H8
        go_wp2_with fail
        refine (cpln_any L _ w9 hL9.out).mono ?_
        rintro e w10 ⟨rfl, F10⟩
        have hL10 := Lib.hid (hL9.out.fr F10)
        rw [pln_dec]
        obtain ⟨D, hD⟩ : ∃ D, D = decide (L = srtC L) := ⟨_, rfl⟩
        rw [← hD]
        have HD := Lib.hid hD
        clear hD
        go_wp2_with fail
        refine (rsrt_any L _ w10 hL10.out).mono ?_
        rintro e w11 ⟨v11, rfl, hs11, F11⟩
        have H11 := NwC.sl hs11 (srtC_wc L) none (by simp)
        have hL11 := Lib.hid (hL10.out.fr F11)
        clear hs11
        go_wp2_with fail
        refine (rsm_any L (srtC L) _ _ w11 hL11.out H11).mono ?_
        rintro e w12 ⟨rfl, F12⟩
        rw [← HD.out]
        have FF := (((((F.pure F6).pure F7).pure F8).pure F9).pure F10).pure (F11.pure F12)
        clear H11 HD
        cases D
        all_goals
          go_wp2_with fail
          go_roundw
          case rel => exact ⟨j + 1, by omega, by go_num, FF⟩
          case measure => simp [intOf]; omega
      · obtain rfl : j = 3 := by omega
        go_wp2_with fail
        refine (awakeC_any _ (hE.fr F0z) (hM.fr F0z) (hP.fr F0z)).mono ?_
        rintro e w6 ⟨rfl, F6⟩
        go_wp2_with fail
        go_ret
        exact ⟨rfl, F0z.pure F6⟩
end Go.Proofs.YtkpgnhdmlikopaaDoor

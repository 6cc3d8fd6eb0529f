/- The law ClaimsUnion: its walk. -/
import Derived.Test.YtkpgnhdmlikopaaDoorProg
import Derived.Test.YtkpgnhdmlikopaaDoorJC12
set_option linter.unusedSimpArgs false
set_option linter.unusedVariables false
namespace Go.Proofs.YtkpgnhdmlikopaaDoor
open Go.RowKit

theorem uniC_len (a b : List Cl) : (uniC a b).length ≤ 128 := srtC_len _
theorem uniC_pln (a b : List Cl) : plnC (uniC a b) = true := plnC_srt _
set_option maxRecDepth 100000 in
set_option maxHeartbeats 4000000 in
theorem lawCu_any (va : Value) (a : List Cl) (vb : Value) (b : List Cl) (vc : Value) (c : List Cl) (x : Cl) (w : World) (ha : SlC w none va a) (hb : SlC w none vb b) (hc : SlC w none vc c) (hE : Errs w) (hM : Mxl w) (hP : Spc w) :
    Calls Tryd.prog 5 #[va, vb, vc, .agg #[.int .i64 x.1, .int .i64 x.2]] w fun e w' => e = .returned (.bool true) ∧ Fr none w w' := by
  obtain ⟨A, ca, rfl, _, _, _⟩ := ha.open_
  obtain ⟨B, cb, rfl, _, _, _⟩ := hb.open_
  obtain ⟨C, cc, rfl, _, _, _⟩ := hc.open_
  go_enter Tryd.func5, Tryd.ntmps5
  go_upto_region 1 with (fail)
  generalize hW : w.alloc _ = w1
  have F1 : Fr none w w1 := hW ▸ (Fr.refl none w).alloc _
  have b7 : CB2 w1 w.heap.size (.int .i64 x.1) (.int .i64 x.2) 38 := by rw [← hW]; exact blk_new _ _
  clear hW
  by_cases h1 : 30 < a.length
  · have hd : decide ((30 : Int) < (a.length : Int)) = true := decide_eq_true (by omega)
    clear h1
    go_wp2_with fail
    refine (awakeC_any _ (hE.fr F1) (hM.fr F1) (hP.fr F1)).mono ?_
    rintro e w2 ⟨rfl, F2⟩
    go_wp2_with fail
    go_ret
    exact ⟨rfl, F1.pure F2⟩
  · have hd1 : decide ((30 : Int) < (a.length : Int)) = false := decide_eq_false (by omega)
    by_cases h2 : 30 < b.length
    · have hd : decide ((30 : Int) < (b.length : Int)) = true := decide_eq_true (by omega)
      clear h1 h2
      go_wp2_with fail
      refine (awakeC_any _ (hE.fr F1) (hM.fr F1) (hP.fr F1)).mono ?_
      rintro e w2 ⟨rfl, F2⟩
      go_wp2_with fail
      go_ret
      exact ⟨rfl, F1.pure F2⟩
    · have hd2 : decide ((30 : Int) < (b.length : Int)) = false := decide_eq_false (by omega)
      by_cases h3 : 30 < c.length
      · have hd : decide ((30 : Int) < (c.length : Int)) = true := decide_eq_true (by omega)
        clear h1 h2 h3
        go_wp2_with fail
        refine (awakeC_any _ (hE.fr F1) (hM.fr F1) (hP.fr F1)).mono ?_
        rintro e w2 ⟨rfl, F2⟩
        go_wp2_with fail
        go_ret
        exact ⟨rfl, F1.pure F2⟩
      · have hd3 : decide ((30 : Int) < (c.length : Int)) = false := decide_eq_false (by omega)
        have hl1 : a.length ≤ 30 := by omega
        have hl2 : b.length ≤ 30 := by omega
        have hl3 : c.length ≤ 30 := by omega
        have hu1 := uniC_len a b
        have hu2 := uniC_len b c
        have ha := ha.fr F1
        have hb := hb.fr F1
        have hc := hc.fr F1
        clear h1 h2 h3
        go_wp2_with fail
        refine (cuni_any a b _ _ w1 ha hb (by omega)).mono ?_
        rintro e w2 ⟨v2, rfl, hs2, F2⟩
        have HU := NwC.sl hs2 (srtC_wc _) none (by simp)
        obtain ⟨Au, cu, rfl, _, _, _⟩ := HU.open_
        have F02 := F1.pure F2
        have ha := ha.fr F2
        have hb := hb.fr F2
        have hc := hc.fr F2
        have b7 := b7.fr F2 (by simp)
        clear hs2 hd1 hd2 hd3 F1 F2
        go_wp2_with fail
        refine (cuni_any b a _ _ w2 hb ha (by omega)).mono ?_
        rintro e w3 ⟨v3, rfl, hs3, F3⟩
        have H3 := NwC.sl hs3 (srtC_wc _) none (by simp)
        have HU := HU.fr F3
        clear hs3
        go_wp2_with fail
        refine (rsm_any (uniC a b) (uniC b a) _ _ w3 HU H3).mono ?_
        rintro e w4 ⟨rfl, F4⟩
        have hde : decide (uniC a b = uniC b a) = true := decide_eq_true (uniC_comm a b)
        rw [hde]
        have F24 := F3.pure F4
        have HU := HU.fr F4
        have ha := ha.fr F24
        have hb := hb.fr F24
        have hc := hc.fr F24
        clear hde H3
        go_wp2_with fail
        refine (cuni_any (uniC a b) c _ _ w4 HU hc (by omega)).mono ?_
        rintro e w5 ⟨v5, rfl, hs5, F5⟩
        have H5 := NwC.sl hs5 (srtC_wc _) none (by simp)
        have HU := HU.fr F5
        have ha := ha.fr F5
        have hb := hb.fr F5
        have hc := hc.fr F5
        clear hs5
        go_wp2_with fail
        refine (cuni_any b c _ _ w5 hb hc (by omega)).mono ?_
        rintro e w6 ⟨v6, rfl, hs6, F6⟩
        have H6 := NwC.sl hs6 (srtC_wc _) none (by simp)
        have HU := HU.fr F6
        have H5 := H5.fr F6
        have ha := ha.fr F6
        have hb := hb.fr F6
        clear hs6
        go_wp2_with fail
        refine (cuni_any a (uniC b c) _ _ w6 ha H6 (by omega)).mono ?_
        rintro e w7 ⟨v7, rfl, hs7, F7⟩
        have H7 := NwC.sl hs7 (srtC_wc _) none (by simp)
        have HU := HU.fr F7
        have H5 := H5.fr F7
        have ha := ha.fr F7
        have hb := hb.fr F7
        clear hs7 H6
        go_wp2_with fail
        refine (rsm_any (uniC (uniC a b) c) (uniC a (uniC b c)) _ _ w7 H5 H7).mono ?_
        rintro e w8 ⟨rfl, F8⟩
        have hde : decide (uniC (uniC a b) c = uniC a (uniC b c)) = true := decide_eq_true (uniC_assoc a b c)
        rw [hde]
        have HU := HU.fr F8
        have ha := ha.fr F8
        have hb := hb.fr F8
        clear hde H5 H7
        go_wp2_with fail
        refine (cuni_any (uniC a b) (uniC a b) _ _ w8 HU HU (by omega)).mono ?_
        rintro e w9 ⟨v9, rfl, hs9, F9⟩
        have H9 := NwC.sl hs9 (srtC_wc _) none (by simp)
        have HU := HU.fr F9
        have ha := ha.fr F9
        have hb := hb.fr F9
        clear hs9
        go_wp2_with fail
        refine (rsm_any (uniC (uniC a b) (uniC a b)) (uniC a b) _ _ w9 H9 HU).mono ?_
        rintro e wa ⟨rfl, Fa⟩
        have hde : decide (uniC (uniC a b) (uniC a b) = uniC a b) = true := decide_eq_true (uniC_self a b)
        rw [hde]
        have HU := HU.fr Fa
        have ha := ha.fr Fa
        have hb := hb.fr Fa
        clear hde H9
        go_wp2_with fail
        refine (cpln_any (uniC a b) _ wa HU).mono ?_
        rintro e wk ⟨rfl, Fk⟩
        rw [uniC_pln]
        have F2k := ((F24.pure (F5.pure F6)).pure (F7.pure F8)).pure ((F9.pure Fa).pure Fk)
        have F0 := F02.pure F2k
        have HU := Lib.hid (HU.fr Fk)
        have HA := Lib.hid (ha.fr Fk)
        have HB := Lib.hid (hb.fr Fk)
        have b7 := b7.fr F2k (by simp)
        have HT := Lib.hid (show Errs wk ∧ Mxl wk ∧ Spc wk from ⟨hE.fr F0, hM.fr F0, hP.fr F0⟩)
        clear F24 F5 F6 F7 F8 F9 Fa Fk F2k F3 F4 ha hb hc hE hM hP F02
        go_upto_region 6 with (fail)
        cases hv : vCl x with
        | false =>
          have hu : Hid (decide (x ∈ uniC a b) = false) := by unfold Hid; rw [decide_eq_false_iff_not, mem_uniC]; simp [hv]
          have HV := Lib.hid hv
          clear hv
          refine wp_region_held_drew (S := fun W => (W.cell? ⟨w.heap.size, 0, none⟩ = some (.int .i64 x.1) ∧ W.cell? ⟨w.heap.size, 1, none⟩ = some (.int .i64 x.2)) ∧ Fr none wk W) (by kernel_rfl) ⟨b7.cell, (Fr.refl _ _).drew⟩ (fun hH0 => ?_)
          refine wpAnyH_take (i := 0) (v := ?_) rfl (by kernel_rfl) (by kernel_rfl) (by kernel_rfl) (fun _ _ _ h => h) (Or.inl ⟨by rfl, ?_⟩) (by assumption) ?_
          rotate_left
          · (intro W hW; (try dsimp only at hW); go_simp; try with_reducible rfl)
          try simp only [Act.put, List.setIfInBounds_toArray, List.set_cons_zero, List.set_cons_succ, List.getElem_toArray, List.getElem_cons_zero, List.getElem_cons_succ]
          refine wpAnyH_take (i := 1) (v := ?_) rfl (by kernel_rfl) (by kernel_rfl) (by kernel_rfl) (fun _ _ _ h => h) (Or.inl ⟨by rfl, ?_⟩) (by assumption) ?_
          rotate_left
          · (intro W hW; (try dsimp only at hW); go_simp; try with_reducible rfl)
          try simp only [Act.put, List.setIfInBounds_toArray, List.set_cons_zero, List.set_cons_succ, List.getElem_toArray, List.getElem_cons_zero, List.getElem_cons_succ]
          refine wpAnyH_take (i := 3) (v := ?_) rfl (by kernel_rfl) (by kernel_rfl) (by kernel_rfl) (fun _ _ _ h => h) (Or.inl ⟨by rfl, ?_⟩) (by assumption) ?_
          rotate_left
          · (intro W hW; (try dsimp only at hW); go_simp; try with_reducible rfl)
          try simp only [Act.put, List.setIfInBounds_toArray, List.set_cons_zero, List.set_cons_succ, List.getElem_toArray, List.getElem_cons_zero, List.getElem_cons_succ]
          refine wpAnyH_ready (rs := [2]) (by kernel_rfl) (by simp) ?_
          refine AllReadyH.cons rfl (fun K hK => ?_) AllReadyH.nil
          simp only [List.getElem_toArray, List.getElem_cons_zero, List.getElem_cons_succ]
          go_simp
          go_at_call 20
          refine (chas_any (uniC a b) _ x _ (HU.out.fr hH0.2)).mono ?_
          rintro e wN ⟨rfl, FN⟩
          have FN := hH0.2.pure FN
          refine hK.out _ _ ⟨(b7.fr FN (by simp)).cell, FN⟩ (fun hH1 => ?_)
          clear hK K hH0 FN
          have hH0 := hH1
          clear hH1
          rw [hu.out]
          try simp only [Act.put, List.setIfInBounds_toArray, List.set_cons_zero, List.set_cons_succ, List.getElem_toArray, List.getElem_cons_zero, List.getElem_cons_succ]
          refine wpAnyH_ready (rs := [4]) (by kernel_rfl) (by simp) ?_
          refine AllReadyH.cons rfl (fun K hK => ?_) AllReadyH.nil
          simp only [List.getElem_toArray, List.getElem_cons_zero, List.getElem_cons_succ]
          go_simp
          go_at_call 21
          refine (rcvl_any x _).mono ?_
          rintro e wN ⟨rfl, FN⟩
          have FN := hH0.2.pure FN
          refine hK.out _ _ ⟨(b7.fr FN (by simp)).cell, FN⟩ (fun hH1 => ?_)
          clear hK K hH0 FN
          have hH0 := hH1
          clear hH1
          rw [HV.out]
          try simp only [Act.put, List.setIfInBounds_toArray, List.set_cons_zero, List.set_cons_succ, List.getElem_toArray, List.getElem_cons_zero, List.getElem_cons_succ]
          refine wpAnyH_take (i := 5) (v := ?_) rfl (by kernel_rfl) (by kernel_rfl) (by kernel_rfl) (fun _ _ _ h => h) (Or.inl ⟨by rfl, ?_⟩) (by assumption) ?_
          rotate_left
          · (intro W hW; (try dsimp only at hW); go_simp; try with_reducible rfl)
          try simp only [Act.put, List.setIfInBounds_toArray, List.set_cons_zero, List.set_cons_succ, List.getElem_toArray, List.getElem_cons_zero, List.getElem_cons_succ]
          refine wpAnyH_take (i := 6) (v := undef) rfl (by kernel_rfl) (by kernel_rfl) (by kernel_rfl) (fun _ _ _ h => h) (Or.inr ⟨by rfl, rfl⟩) (by assumption) ?_
          try simp only [Act.put, List.setIfInBounds_toArray, List.set_cons_zero, List.set_cons_succ, List.getElem_toArray, List.getElem_cons_zero, List.getElem_cons_succ]
          refine wpAnyH_take (i := 7) (v := undef) rfl (by kernel_rfl) (by kernel_rfl) (by kernel_rfl) (fun _ _ _ h => h) (Or.inr ⟨by rfl, rfl⟩) (by assumption) ?_
          try simp only [Act.put, List.setIfInBounds_toArray, List.set_cons_zero, List.set_cons_succ, List.getElem_toArray, List.getElem_cons_zero, List.getElem_cons_succ]
          refine wpAnyH_take (i := 8) (v := undef) rfl (by kernel_rfl) (by kernel_rfl) (by kernel_rfl) (fun _ _ _ h => h) (Or.inr ⟨by rfl, rfl⟩) (by assumption) ?_
          try simp only [Act.put, List.setIfInBounds_toArray, List.set_cons_zero, List.set_cons_succ, List.getElem_toArray, List.getElem_cons_zero, List.getElem_cons_succ]
          refine wpAnyH_take (i := 9) (v := undef) rfl (by kernel_rfl) (by kernel_rfl) (by kernel_rfl) (fun _ _ _ h => h) (Or.inr ⟨by rfl, rfl⟩) (by assumption) ?_
          try simp only [Act.put, List.setIfInBounds_toArray, List.set_cons_zero, List.set_cons_succ, List.getElem_toArray, List.getElem_cons_zero, List.getElem_cons_succ]
          refine wpAnyH_take (i := 10) (v := undef) rfl (by kernel_rfl) (by kernel_rfl) (by kernel_rfl) (fun _ _ _ h => h) (Or.inr ⟨by rfl, rfl⟩) (by assumption) ?_
          try simp only [Act.put, List.setIfInBounds_toArray, List.set_cons_zero, List.set_cons_succ, List.getElem_toArray, List.getElem_cons_zero, List.getElem_cons_succ]
          refine wpAnyH_take (i := 11) (v := undef) rfl (by kernel_rfl) (by kernel_rfl) (by kernel_rfl) (fun _ _ _ h => h) (Or.inr ⟨by rfl, rfl⟩) (by assumption) ?_
          try simp only [Act.put, List.setIfInBounds_toArray, List.set_cons_zero, List.set_cons_succ, List.getElem_toArray, List.getElem_cons_zero, List.getElem_cons_succ]
          refine wpAnyH_take (i := 12) (v := undef) rfl (by kernel_rfl) (by kernel_rfl) (by kernel_rfl) (fun _ _ _ h => h) (Or.inr ⟨by rfl, rfl⟩) (by assumption) ?_
          try simp only [Act.put, List.setIfInBounds_toArray, List.set_cons_zero, List.set_cons_succ, List.getElem_toArray, List.getElem_cons_zero, List.getElem_cons_succ]
          refine wpAnyH_take (i := 13) (v := undef) rfl (by kernel_rfl) (by kernel_rfl) (by kernel_rfl) (fun _ _ _ h => h) (Or.inr ⟨by rfl, rfl⟩) (by assumption) ?_
          try simp only [Act.put, List.setIfInBounds_toArray, List.set_cons_zero, List.set_cons_succ, List.getElem_toArray, List.getElem_cons_zero, List.getElem_cons_succ]
          refine wpAnyH_take (i := 14) (v := ?_) rfl (by kernel_rfl) (by kernel_rfl) (by kernel_rfl) (fun _ _ _ h => h) (Or.inl ⟨by rfl, ?_⟩) (by assumption) ?_
          rotate_left
          · (intro W hW; (try dsimp only at hW); go_simp; try with_reducible rfl)
          try simp only [Act.put, List.setIfInBounds_toArray, List.set_cons_zero, List.set_cons_succ, List.getElem_toArray, List.getElem_cons_zero, List.getElem_cons_succ]
          refine wpAnyH_take (i := 15) (v := ?_) rfl (by kernel_rfl) (by kernel_rfl) (by kernel_rfl) (fun _ _ _ h => h) (Or.inl ⟨by rfl, ?_⟩) (by assumption) ?_
          rotate_left
          · (intro W hW; (try dsimp only at hW); go_simp; try with_reducible rfl)
          try simp only [Act.put, List.setIfInBounds_toArray, List.set_cons_zero, List.set_cons_succ, List.getElem_toArray, List.getElem_cons_zero, List.getElem_cons_succ]
          refine wpAnyH_take (i := 16) (v := ?_) rfl (by kernel_rfl) (by kernel_rfl) (by kernel_rfl) (fun _ _ _ h => h) (Or.inl ⟨by rfl, ?_⟩) (by assumption) ?_
          rotate_left
          · (intro W hW; (try dsimp only at hW); go_simp; try with_reducible rfl)
          try simp only [Act.put, List.setIfInBounds_toArray, List.set_cons_zero, List.set_cons_succ, List.getElem_toArray, List.getElem_cons_zero, List.getElem_cons_succ]
          refine wpAnyH_ready (rs := [17]) (by kernel_rfl) (by simp) ?_
          refine AllReadyH.cons rfl (fun K hK => ?_) AllReadyH.nil
          simp only [List.getElem_toArray, List.getElem_cons_zero, List.getElem_cons_succ]
          go_simp
          go_at_call 6
          refine (awakeC_any _ (HT.out.1.fr hH0.2) (HT.out.2.1.fr hH0.2) (HT.out.2.2.fr hH0.2)).mono ?_
          rintro e wN ⟨rfl, FN⟩
          have FN := hH0.2.pure FN
          refine hK.out _ _ ⟨(b7.fr FN (by simp)).cell, FN⟩ (fun hH1 => ?_)
          clear hK K hH0 FN
          have hH0 := hH1
          clear hH1
          try simp only [Act.put, List.setIfInBounds_toArray, List.set_cons_zero, List.set_cons_succ, List.getElem_toArray, List.getElem_cons_zero, List.getElem_cons_succ]
          refine wpAnyH_take (i := 18) (v := ?_) rfl (by kernel_rfl) (by kernel_rfl) (by kernel_rfl) (fun _ _ _ h => h) (Or.inl ⟨by rfl, ?_⟩) (by assumption) ?_
          rotate_left
          · (intro W hW; (try dsimp only at hW); go_simp; try with_reducible rfl)
          try simp only [Act.put, List.setIfInBounds_toArray, List.set_cons_zero, List.set_cons_succ, List.getElem_toArray, List.getElem_cons_zero, List.getElem_cons_succ]
          refine wpAnyH_take (i := 19) (v := ?_) rfl (by kernel_rfl) (by kernel_rfl) (by kernel_rfl) (fun _ _ _ h => h) (Or.inl ⟨by rfl, ?_⟩) (by assumption) ?_
          rotate_left
          · (intro W hW; (try dsimp only at hW); go_simp; try with_reducible rfl)
          try simp only [Act.put, List.setIfInBounds_toArray, List.set_cons_zero, List.set_cons_succ, List.getElem_toArray, List.getElem_cons_zero, List.getElem_cons_succ]
          refine wpAnyH_done (by kernel_rfl) ?_ _
          go_wp2_with fail
          go_ret
          exact ⟨rfl, F0.pure hH0.2⟩
        | true =>
          have HV := Lib.hid hv
          cases hm : decide (x ∈ a) with
          | true =>
            have hu : Hid (decide (x ∈ uniC a b) = true) := by unfold Hid; rw [decide_eq_true_iff, mem_uniC]; exact ⟨hv, .inl (of_decide_eq_true hm)⟩
            have HMm := Lib.hid hm
            clear hv hm
            refine wp_region_held_drew (S := fun W => (W.cell? ⟨w.heap.size, 0, none⟩ = some (.int .i64 x.1) ∧ W.cell? ⟨w.heap.size, 1, none⟩ = some (.int .i64 x.2)) ∧ Fr none wk W) (by kernel_rfl) ⟨b7.cell, (Fr.refl _ _).drew⟩ (fun hH0 => ?_)
            refine wpAnyH_take (i := 0) (v := ?_) rfl (by kernel_rfl) (by kernel_rfl) (by kernel_rfl) (fun _ _ _ h => h) (Or.inl ⟨by rfl, ?_⟩) (by assumption) ?_
            rotate_left
            · (intro W hW; (try dsimp only at hW); go_simp; try with_reducible rfl)
            try simp only [Act.put, List.setIfInBounds_toArray, List.set_cons_zero, List.set_cons_succ, List.getElem_toArray, List.getElem_cons_zero, List.getElem_cons_succ]
            refine wpAnyH_take (i := 1) (v := ?_) rfl (by kernel_rfl) (by kernel_rfl) (by kernel_rfl) (fun _ _ _ h => h) (Or.inl ⟨by rfl, ?_⟩) (by assumption) ?_
            rotate_left
            · (intro W hW; (try dsimp only at hW); go_simp; try with_reducible rfl)
            try simp only [Act.put, List.setIfInBounds_toArray, List.set_cons_zero, List.set_cons_succ, List.getElem_toArray, List.getElem_cons_zero, List.getElem_cons_succ]
            refine wpAnyH_take (i := 3) (v := ?_) rfl (by kernel_rfl) (by kernel_rfl) (by kernel_rfl) (fun _ _ _ h => h) (Or.inl ⟨by rfl, ?_⟩) (by assumption) ?_
            rotate_left
            · (intro W hW; (try dsimp only at hW); go_simp; try with_reducible rfl)
            try simp only [Act.put, List.setIfInBounds_toArray, List.set_cons_zero, List.set_cons_succ, List.getElem_toArray, List.getElem_cons_zero, List.getElem_cons_succ]
            refine wpAnyH_ready (rs := [2]) (by kernel_rfl) (by simp) ?_
            refine AllReadyH.cons rfl (fun K hK => ?_) AllReadyH.nil
            simp only [List.getElem_toArray, List.getElem_cons_zero, List.getElem_cons_succ]
            go_simp
            go_at_call 20
            refine (chas_any (uniC a b) _ x _ (HU.out.fr hH0.2)).mono ?_
            rintro e wN ⟨rfl, FN⟩
            have FN := hH0.2.pure FN
            refine hK.out _ _ ⟨(b7.fr FN (by simp)).cell, FN⟩ (fun hH1 => ?_)
            clear hK K hH0 FN
            have hH0 := hH1
            clear hH1
            rw [hu.out]
            try simp only [Act.put, List.setIfInBounds_toArray, List.set_cons_zero, List.set_cons_succ, List.getElem_toArray, List.getElem_cons_zero, List.getElem_cons_succ]
            refine wpAnyH_ready (rs := [4]) (by kernel_rfl) (by simp) ?_
            refine AllReadyH.cons rfl (fun K hK => ?_) AllReadyH.nil
            simp only [List.getElem_toArray, List.getElem_cons_zero, List.getElem_cons_succ]
            go_simp
            go_at_call 21
            refine (rcvl_any x _).mono ?_
            rintro e wN ⟨rfl, FN⟩
            have FN := hH0.2.pure FN
            refine hK.out _ _ ⟨(b7.fr FN (by simp)).cell, FN⟩ (fun hH1 => ?_)
            clear hK K hH0 FN
            have hH0 := hH1
            clear hH1
            rw [HV.out]
            try simp only [Act.put, List.setIfInBounds_toArray, List.set_cons_zero, List.set_cons_succ, List.getElem_toArray, List.getElem_cons_zero, List.getElem_cons_succ]
            refine wpAnyH_take (i := 5) (v := ?_) rfl (by kernel_rfl) (by kernel_rfl) (by kernel_rfl) (fun _ _ _ h => h) (Or.inl ⟨by rfl, ?_⟩) (by assumption) ?_
            rotate_left
            · (intro W hW; (try dsimp only at hW); go_simp; try with_reducible rfl)
            try simp only [Act.put, List.setIfInBounds_toArray, List.set_cons_zero, List.set_cons_succ, List.getElem_toArray, List.getElem_cons_zero, List.getElem_cons_succ]
            refine wpAnyH_take (i := 6) (v := ?_) rfl (by kernel_rfl) (by kernel_rfl) (by kernel_rfl) (fun _ _ _ h => h) (Or.inl ⟨by rfl, ?_⟩) (by assumption) ?_
            rotate_left
            · (intro W hW; (try dsimp only at hW); go_simp; try with_reducible rfl)
            try simp only [Act.put, List.setIfInBounds_toArray, List.set_cons_zero, List.set_cons_succ, List.getElem_toArray, List.getElem_cons_zero, List.getElem_cons_succ]
            refine wpAnyH_take (i := 7) (v := ?_) rfl (by kernel_rfl) (by kernel_rfl) (by kernel_rfl) (fun _ _ _ h => h) (Or.inl ⟨by rfl, ?_⟩) (by assumption) ?_
            rotate_left
            · (intro W hW; (try dsimp only at hW); go_simp; try with_reducible rfl)
            try simp only [Act.put, List.setIfInBounds_toArray, List.set_cons_zero, List.set_cons_succ, List.getElem_toArray, List.getElem_cons_zero, List.getElem_cons_succ]
            refine wpAnyH_ready (rs := [8]) (by kernel_rfl) (by simp) ?_
            refine AllReadyH.cons rfl (fun K hK => ?_) AllReadyH.nil
            simp only [List.getElem_toArray, List.getElem_cons_zero, List.getElem_cons_succ]
            go_simp
            go_at_call 22
            refine (rhas_any a _ x _ (HA.out.fr hH0.2)).mono ?_
            rintro e wN ⟨rfl, FN⟩
            have FN := hH0.2.pure FN
            refine hK.out _ _ ⟨(b7.fr FN (by simp)).cell, FN⟩ (fun hH1 => ?_)
            clear hK K hH0 FN
            have hH0 := hH1
            clear hH1
            rw [HMm.out]
            try simp only [Act.put, List.setIfInBounds_toArray, List.set_cons_zero, List.set_cons_succ, List.getElem_toArray, List.getElem_cons_zero, List.getElem_cons_succ]
            refine wpAnyH_take (i := 9) (v := ?_) rfl (by kernel_rfl) (by kernel_rfl) (by kernel_rfl) (fun _ _ _ h => h) (Or.inl ⟨by rfl, ?_⟩) (by assumption) ?_
            rotate_left
            · (intro W hW; (try dsimp only at hW); go_simp; try with_reducible rfl)
            try simp only [Act.put, List.setIfInBounds_toArray, List.set_cons_zero, List.set_cons_succ, List.getElem_toArray, List.getElem_cons_zero, List.getElem_cons_succ]
            refine wpAnyH_take (i := 10) (v := undef) rfl (by kernel_rfl) (by kernel_rfl) (by kernel_rfl) (fun _ _ _ h => h) (Or.inr ⟨by rfl, rfl⟩) (by assumption) ?_
            try simp only [Act.put, List.setIfInBounds_toArray, List.set_cons_zero, List.set_cons_succ, List.getElem_toArray, List.getElem_cons_zero, List.getElem_cons_succ]
            refine wpAnyH_take (i := 11) (v := undef) rfl (by kernel_rfl) (by kernel_rfl) (by kernel_rfl) (fun _ _ _ h => h) (Or.inr ⟨by rfl, rfl⟩) (by assumption) ?_
            try simp only [Act.put, List.setIfInBounds_toArray, List.set_cons_zero, List.set_cons_succ, List.getElem_toArray, List.getElem_cons_zero, List.getElem_cons_succ]
            refine wpAnyH_take (i := 12) (v := undef) rfl (by kernel_rfl) (by kernel_rfl) (by kernel_rfl) (fun _ _ _ h => h) (Or.inr ⟨by rfl, rfl⟩) (by assumption) ?_
            try simp only [Act.put, List.setIfInBounds_toArray, List.set_cons_zero, List.set_cons_succ, List.getElem_toArray, List.getElem_cons_zero, List.getElem_cons_succ]
            refine wpAnyH_take (i := 13) (v := ?_) rfl (by kernel_rfl) (by kernel_rfl) (by kernel_rfl) (fun _ _ _ h => h) (Or.inl ⟨by rfl, ?_⟩) (by assumption) ?_
            rotate_left
            · (intro W hW; (try dsimp only at hW); go_simp; try with_reducible rfl)
            try simp only [Act.put, List.setIfInBounds_toArray, List.set_cons_zero, List.set_cons_succ, List.getElem_toArray, List.getElem_cons_zero, List.getElem_cons_succ]
            refine wpAnyH_take (i := 14) (v := ?_) rfl (by kernel_rfl) (by kernel_rfl) (by kernel_rfl) (fun _ _ _ h => h) (Or.inl ⟨by rfl, ?_⟩) (by assumption) ?_
            rotate_left
            · (intro W hW; (try dsimp only at hW); go_simp; try with_reducible rfl)
            try simp only [Act.put, List.setIfInBounds_toArray, List.set_cons_zero, List.set_cons_succ, List.getElem_toArray, List.getElem_cons_zero, List.getElem_cons_succ]
            refine wpAnyH_take (i := 15) (v := ?_) rfl (by kernel_rfl) (by kernel_rfl) (by kernel_rfl) (fun _ _ _ h => h) (Or.inl ⟨by rfl, ?_⟩) (by assumption) ?_
            rotate_left
            · (intro W hW; (try dsimp only at hW); go_simp; try with_reducible rfl)
            try simp only [Act.put, List.setIfInBounds_toArray, List.set_cons_zero, List.set_cons_succ, List.getElem_toArray, List.getElem_cons_zero, List.getElem_cons_succ]
            refine wpAnyH_take (i := 16) (v := ?_) rfl (by kernel_rfl) (by kernel_rfl) (by kernel_rfl) (fun _ _ _ h => h) (Or.inl ⟨by rfl, ?_⟩) (by assumption) ?_
            rotate_left
            · (intro W hW; (try dsimp only at hW); go_simp; try with_reducible rfl)
            try simp only [Act.put, List.setIfInBounds_toArray, List.set_cons_zero, List.set_cons_succ, List.getElem_toArray, List.getElem_cons_zero, List.getElem_cons_succ]
            refine wpAnyH_ready (rs := [17]) (by kernel_rfl) (by simp) ?_
            refine AllReadyH.cons rfl (fun K hK => ?_) AllReadyH.nil
            simp only [List.getElem_toArray, List.getElem_cons_zero, List.getElem_cons_succ]
            go_simp
            go_at_call 6
            refine (awakeC_any _ (HT.out.1.fr hH0.2) (HT.out.2.1.fr hH0.2) (HT.out.2.2.fr hH0.2)).mono ?_
            rintro e wN ⟨rfl, FN⟩
            have FN := hH0.2.pure FN
            refine hK.out _ _ ⟨(b7.fr FN (by simp)).cell, FN⟩ (fun hH1 => ?_)
            clear hK K hH0 FN
            have hH0 := hH1
            clear hH1
            try simp only [Act.put, List.setIfInBounds_toArray, List.set_cons_zero, List.set_cons_succ, List.getElem_toArray, List.getElem_cons_zero, List.getElem_cons_succ]
            refine wpAnyH_take (i := 18) (v := ?_) rfl (by kernel_rfl) (by kernel_rfl) (by kernel_rfl) (fun _ _ _ h => h) (Or.inl ⟨by rfl, ?_⟩) (by assumption) ?_
            rotate_left
            · (intro W hW; (try dsimp only at hW); go_simp; try with_reducible rfl)
            try simp only [Act.put, List.setIfInBounds_toArray, List.set_cons_zero, List.set_cons_succ, List.getElem_toArray, List.getElem_cons_zero, List.getElem_cons_succ]
            refine wpAnyH_take (i := 19) (v := ?_) rfl (by kernel_rfl) (by kernel_rfl) (by kernel_rfl) (fun _ _ _ h => h) (Or.inl ⟨by rfl, ?_⟩) (by assumption) ?_
            rotate_left
            · (intro W hW; (try dsimp only at hW); go_simp; try with_reducible rfl)
            try simp only [Act.put, List.setIfInBounds_toArray, List.set_cons_zero, List.set_cons_succ, List.getElem_toArray, List.getElem_cons_zero, List.getElem_cons_succ]
            refine wpAnyH_done (by kernel_rfl) ?_ _
            go_wp2_with fail
            go_ret
            exact ⟨rfl, F0.pure hH0.2⟩
          | false =>
            obtain ⟨Y, hY⟩ : ∃ Y, Y = decide (x ∈ b) := ⟨_, rfl⟩
            have hu : Hid (decide (x ∈ uniC a b) = Y) := by
              unfold Hid
              rw [hY, decide_eq_decide, mem_uniC]
              have := of_decide_eq_false hm
              simp [hv, this]
            have HMm := Lib.hid hm
            have HYy := Lib.hid hY
            clear hv hm hY
            cases Y
            all_goals
              refine wp_region_held_drew (S := fun W => (W.cell? ⟨w.heap.size, 0, none⟩ = some (.int .i64 x.1) ∧ W.cell? ⟨w.heap.size, 1, none⟩ = some (.int .i64 x.2)) ∧ Fr none wk W) (by kernel_rfl) ⟨b7.cell, (Fr.refl _ _).drew⟩ (fun hH0 => ?_)
              refine wpAnyH_take (i := 0) (v := ?_) rfl (by kernel_rfl) (by kernel_rfl) (by kernel_rfl) (fun _ _ _ h => h) (Or.inl ⟨by rfl, ?_⟩) (by assumption) ?_
              rotate_left
              · (intro W hW; (try dsimp only at hW); go_simp; try with_reducible rfl)
              try simp only [Act.put, List.setIfInBounds_toArray, List.set_cons_zero, List.set_cons_succ, List.getElem_toArray, List.getElem_cons_zero, List.getElem_cons_succ]
              refine wpAnyH_take (i := 1) (v := ?_) rfl (by kernel_rfl) (by kernel_rfl) (by kernel_rfl) (fun _ _ _ h => h) (Or.inl ⟨by rfl, ?_⟩) (by assumption) ?_
              rotate_left
              · (intro W hW; (try dsimp only at hW); go_simp; try with_reducible rfl)
              try simp only [Act.put, List.setIfInBounds_toArray, List.set_cons_zero, List.set_cons_succ, List.getElem_toArray, List.getElem_cons_zero, List.getElem_cons_succ]
              refine wpAnyH_take (i := 3) (v := ?_) rfl (by kernel_rfl) (by kernel_rfl) (by kernel_rfl) (fun _ _ _ h => h) (Or.inl ⟨by rfl, ?_⟩) (by assumption) ?_
              rotate_left
              · (intro W hW; (try dsimp only at hW); go_simp; try with_reducible rfl)
              try simp only [Act.put, List.setIfInBounds_toArray, List.set_cons_zero, List.set_cons_succ, List.getElem_toArray, List.getElem_cons_zero, List.getElem_cons_succ]
              refine wpAnyH_ready (rs := [2]) (by kernel_rfl) (by simp) ?_
              refine AllReadyH.cons rfl (fun K hK => ?_) AllReadyH.nil
              simp only [List.getElem_toArray, List.getElem_cons_zero, List.getElem_cons_succ]
              go_simp
              go_at_call 20
              refine (chas_any (uniC a b) _ x _ (HU.out.fr hH0.2)).mono ?_
              rintro e wN ⟨rfl, FN⟩
              have FN := hH0.2.pure FN
              refine hK.out _ _ ⟨(b7.fr FN (by simp)).cell, FN⟩ (fun hH1 => ?_)
              clear hK K hH0 FN
              have hH0 := hH1
              clear hH1
              rw [hu.out]
              try simp only [Act.put, List.setIfInBounds_toArray, List.set_cons_zero, List.set_cons_succ, List.getElem_toArray, List.getElem_cons_zero, List.getElem_cons_succ]
              refine wpAnyH_ready (rs := [4]) (by kernel_rfl) (by simp) ?_
              refine AllReadyH.cons rfl (fun K hK => ?_) AllReadyH.nil
              simp only [List.getElem_toArray, List.getElem_cons_zero, List.getElem_cons_succ]
              go_simp
              go_at_call 21
              refine (rcvl_any x _).mono ?_
              rintro e wN ⟨rfl, FN⟩
              have FN := hH0.2.pure FN
              refine hK.out _ _ ⟨(b7.fr FN (by simp)).cell, FN⟩ (fun hH1 => ?_)
              clear hK K hH0 FN
              have hH0 := hH1
              clear hH1
              rw [HV.out]
              try simp only [Act.put, List.setIfInBounds_toArray, List.set_cons_zero, List.set_cons_succ, List.getElem_toArray, List.getElem_cons_zero, List.getElem_cons_succ]
              refine wpAnyH_take (i := 5) (v := ?_) rfl (by kernel_rfl) (by kernel_rfl) (by kernel_rfl) (fun _ _ _ h => h) (Or.inl ⟨by rfl, ?_⟩) (by assumption) ?_
              rotate_left
              · (intro W hW; (try dsimp only at hW); go_simp; try with_reducible rfl)
              try simp only [Act.put, List.setIfInBounds_toArray, List.set_cons_zero, List.set_cons_succ, List.getElem_toArray, List.getElem_cons_zero, List.getElem_cons_succ]
              refine wpAnyH_take (i := 6) (v := ?_) rfl (by kernel_rfl) (by kernel_rfl) (by kernel_rfl) (fun _ _ _ h => h) (Or.inl ⟨by rfl, ?_⟩) (by assumption) ?_
              rotate_left
              · (intro W hW; (try dsimp only at hW); go_simp; try with_reducible rfl)
              try simp only [Act.put, List.setIfInBounds_toArray, List.set_cons_zero, List.set_cons_succ, List.getElem_toArray, List.getElem_cons_zero, List.getElem_cons_succ]
              refine wpAnyH_take (i := 7) (v := ?_) rfl (by kernel_rfl) (by kernel_rfl) (by kernel_rfl) (fun _ _ _ h => h) (Or.inl ⟨by rfl, ?_⟩) (by assumption) ?_
              rotate_left
              · (intro W hW; (try dsimp only at hW); go_simp; try with_reducible rfl)
              try simp only [Act.put, List.setIfInBounds_toArray, List.set_cons_zero, List.set_cons_succ, List.getElem_toArray, List.getElem_cons_zero, List.getElem_cons_succ]
              refine wpAnyH_ready (rs := [8]) (by kernel_rfl) (by simp) ?_
              refine AllReadyH.cons rfl (fun K hK => ?_) AllReadyH.nil
              simp only [List.getElem_toArray, List.getElem_cons_zero, List.getElem_cons_succ]
              go_simp
              go_at_call 22
              refine (rhas_any a _ x _ (HA.out.fr hH0.2)).mono ?_
              rintro e wN ⟨rfl, FN⟩
              have FN := hH0.2.pure FN
              refine hK.out _ _ ⟨(b7.fr FN (by simp)).cell, FN⟩ (fun hH1 => ?_)
              clear hK K hH0 FN
              have hH0 := hH1
              clear hH1
              rw [HMm.out]
              try simp only [Act.put, List.setIfInBounds_toArray, List.set_cons_zero, List.set_cons_succ, List.getElem_toArray, List.getElem_cons_zero, List.getElem_cons_succ]
              refine wpAnyH_take (i := 9) (v := ?_) rfl (by kernel_rfl) (by kernel_rfl) (by kernel_rfl) (fun _ _ _ h => h) (Or.inl ⟨by rfl, ?_⟩) (by assumption) ?_
              rotate_left
              · (intro W hW; (try dsimp only at hW); go_simp; try with_reducible rfl)
              try simp only [Act.put, List.setIfInBounds_toArray, List.set_cons_zero, List.set_cons_succ, List.getElem_toArray, List.getElem_cons_zero, List.getElem_cons_succ]
              refine wpAnyH_take (i := 10) (v := ?_) rfl (by kernel_rfl) (by kernel_rfl) (by kernel_rfl) (fun _ _ _ h => h) (Or.inl ⟨by rfl, ?_⟩) (by assumption) ?_
              rotate_left
              · (intro W hW; (try dsimp only at hW); go_simp; try with_reducible rfl)
              try simp only [Act.put, List.setIfInBounds_toArray, List.set_cons_zero, List.set_cons_succ, List.getElem_toArray, List.getElem_cons_zero, List.getElem_cons_succ]
              refine wpAnyH_take (i := 11) (v := ?_) rfl (by kernel_rfl) (by kernel_rfl) (by kernel_rfl) (fun _ _ _ h => h) (Or.inl ⟨by rfl, ?_⟩) (by assumption) ?_
              rotate_left
              · (intro W hW; (try dsimp only at hW); go_simp; try with_reducible rfl)
              try simp only [Act.put, List.setIfInBounds_toArray, List.set_cons_zero, List.set_cons_succ, List.getElem_toArray, List.getElem_cons_zero, List.getElem_cons_succ]
              refine wpAnyH_ready (rs := [12]) (by kernel_rfl) (by simp) ?_
              refine AllReadyH.cons rfl (fun K hK => ?_) AllReadyH.nil
              simp only [List.getElem_toArray, List.getElem_cons_zero, List.getElem_cons_succ]
              go_simp
              go_at_call 22
              refine (rhas_any b _ x _ (HB.out.fr hH0.2)).mono ?_
              rintro e wN ⟨rfl, FN⟩
              have FN := hH0.2.pure FN
              refine hK.out _ _ ⟨(b7.fr FN (by simp)).cell, FN⟩ (fun hH1 => ?_)
              clear hK K hH0 FN
              have hH0 := hH1
              clear hH1
              rw [← HYy.out]
              try simp only [Act.put, List.setIfInBounds_toArray, List.set_cons_zero, List.set_cons_succ, List.getElem_toArray, List.getElem_cons_zero, List.getElem_cons_succ]
              refine wpAnyH_take (i := 13) (v := ?_) rfl (by kernel_rfl) (by kernel_rfl) (by kernel_rfl) (fun _ _ _ h => h) (Or.inl ⟨by rfl, ?_⟩) (by assumption) ?_
              rotate_left
              · (intro W hW; (try dsimp only at hW); go_simp; try with_reducible rfl)
              try simp only [Act.put, List.setIfInBounds_toArray, List.set_cons_zero, List.set_cons_succ, List.getElem_toArray, List.getElem_cons_zero, List.getElem_cons_succ]
              refine wpAnyH_take (i := 14) (v := ?_) rfl (by kernel_rfl) (by kernel_rfl) (by kernel_rfl) (fun _ _ _ h => h) (Or.inl ⟨by rfl, ?_⟩) (by assumption) ?_
              rotate_left
              · (intro W hW; (try dsimp only at hW); go_simp; try with_reducible rfl)
              try simp only [Act.put, List.setIfInBounds_toArray, List.set_cons_zero, List.set_cons_succ, List.getElem_toArray, List.getElem_cons_zero, List.getElem_cons_succ]
              refine wpAnyH_take (i := 15) (v := ?_) rfl (by kernel_rfl) (by kernel_rfl) (by kernel_rfl) (fun _ _ _ h => h) (Or.inl ⟨by rfl, ?_⟩) (by assumption) ?_
              rotate_left
              · (intro W hW; (try dsimp only at hW); go_simp; try with_reducible rfl)
              try simp only [Act.put, List.setIfInBounds_toArray, List.set_cons_zero, List.set_cons_succ, List.getElem_toArray, List.getElem_cons_zero, List.getElem_cons_succ]
              refine wpAnyH_take (i := 16) (v := ?_) rfl (by kernel_rfl) (by kernel_rfl) (by kernel_rfl) (fun _ _ _ h => h) (Or.inl ⟨by rfl, ?_⟩) (by assumption) ?_
              rotate_left
              · (intro W hW; (try dsimp only at hW); go_simp; try with_reducible rfl)
              try simp only [Act.put, List.setIfInBounds_toArray, List.set_cons_zero, List.set_cons_succ, List.getElem_toArray, List.getElem_cons_zero, List.getElem_cons_succ]
              refine wpAnyH_ready (rs := [17]) (by kernel_rfl) (by simp) ?_
              refine AllReadyH.cons rfl (fun K hK => ?_) AllReadyH.nil
              simp only [List.getElem_toArray, List.getElem_cons_zero, List.getElem_cons_succ]
              go_simp
              go_at_call 6
              refine (awakeC_any _ (HT.out.1.fr hH0.2) (HT.out.2.1.fr hH0.2) (HT.out.2.2.fr hH0.2)).mono ?_
              rintro e wN ⟨rfl, FN⟩
              have FN := hH0.2.pure FN
              refine hK.out _ _ ⟨(b7.fr FN (by simp)).cell, FN⟩ (fun hH1 => ?_)
              clear hK K hH0 FN
              have hH0 := hH1
              clear hH1
              try simp only [Act.put, List.setIfInBounds_toArray, List.set_cons_zero, List.set_cons_succ, List.getElem_toArray, List.getElem_cons_zero, List.getElem_cons_succ]
              refine wpAnyH_take (i := 18) (v := ?_) rfl (by kernel_rfl) (by kernel_rfl) (by kernel_rfl) (fun _ _ _ h => h) (Or.inl ⟨by rfl, ?_⟩) (by assumption) ?_
              rotate_left
              · (intro W hW; (try dsimp only at hW); go_simp; try with_reducible rfl)
              try simp only [Act.put, List.setIfInBounds_toArray, List.set_cons_zero, List.set_cons_succ, List.getElem_toArray, List.getElem_cons_zero, List.getElem_cons_succ]
              refine wpAnyH_take (i := 19) (v := ?_) rfl (by kernel_rfl) (by kernel_rfl) (by kernel_rfl) (fun _ _ _ h => h) (Or.inl ⟨by rfl, ?_⟩) (by assumption) ?_
              rotate_left
              · (intro W hW; (try dsimp only at hW); go_simp; try with_reducible rfl)
              try simp only [Act.put, List.setIfInBounds_toArray, List.set_cons_zero, List.set_cons_succ, List.getElem_toArray, List.getElem_cons_zero, List.getElem_cons_succ]
              refine wpAnyH_done (by kernel_rfl) ?_ _
              go_wp2_with fail
              go_ret
              exact ⟨rfl, F0.pure hH0.2⟩
end Go.Proofs.YtkpgnhdmlikopaaDoor

/- Walks: slices.Clone of operations and of assets; ledger.copied. -/
import Derived.Test.YtonhhnedfjonoaaGreatDoorProg
import Derived.Test.YtonhhnedfjonoaaGreatDoorJM10
import Derived.Test.YtonhhnedfjonoaaGreatDoorOrdPJ
set_option linter.unusedSimpArgs false
set_option linter.unusedVariables false
namespace Go.Proofs.YtonhhnedfjonoaaGreatDoor
open Go.RowKit

set_option maxRecDepth 100000 in
set_option maxHeartbeats 1000000 in
theorem pclnO_any (l : List OpX) (v : Value) (w : World) (h : SlR opR w none v l) (hl : l.length ≤ 1000000) :
    Calls Tryz.prog 62 #[v] w fun e w' => ∃ A c, e = .returned (.slice A l.length c) ∧ w'.ownsRow w.heap.size 92 12 (.slice A l.length c) l.length (flR opR l) ∧ Fr none w w' := by
  obtain ⟨A, c, rfl, q1, q2, hcc⟩ := h.open_
  cases A with
  | none =>
    have h0 : l.length = 0 := by
      rcases Nat.eq_zero_or_pos l.length with h | h
      · exact h
      · obtain ⟨b, off, e, _⟩ := hcc h; cases e
    obtain rfl := List.eq_nil_of_length_eq_zero h0
    have hnil : ∀ w, Sem.run Tryz.prog (binOp .eql 55 (.slice none 0 c) (.slice none 0 0)) w = .ok (.bool true) w := fun w => Lib.run_eql_slice_nil w _ _ none _ _ _ _ (by kernel_rfl : Tryz.prog.underlying 55 = some (.slice 92))
    clear h hcc
    have e0 : ([] : List OpX).length = 0 := rfl
    rw [e0]
    clear e0
    go_enter Tryz.func62, Tryz.ntmps62
    go_wp2_with fail
    go_ret
    exact ⟨none, 0, rfl, World.ownsRow_nil _ _ _ _, Fr.refl _ _⟩
  | some a =>
    have own0 := own_emp (w := w) 92 12 w.heap.size (Nat.le_refl _) rfl
    have HO := Lib.hid own0
    have HS := Lib.hid (h.fr ((Fr.refl none w).alloc (.cells #[] 92))).1.any
    clear own0 hcc
    have hnil : ∀ w, Sem.run Tryz.prog (binOp .eql 55 (.slice (some a) l.length c) (.slice none 0 0)) w = .ok (.bool false) w := fun w => Lib.run_eql_slice_nil w _ _ (some a) _ _ _ _ (by kernel_rfl : Tryz.prog.underlying 55 = some (.slice 92))
    go_enter Tryz.func62, Tryz.ntmps62
    go_wp2_with (at_builtin; refine app_any eiOp rfl _ _ rfl w.heap.size (some ⟨w.heap.size, 0, none⟩) 0 0 [] rfl HO.out (some a) l.length c (flR opR l) rfl HS.out (flR_one opR l) (by omega) (by unfold maxLen; omega) (by simp) ?_; intro C' c' w' own' F' bl')
    go_ret
    have ow : w'.ownsRow w.heap.size 92 12 (.slice C' l.length c') l.length (flR opR l) := by
      have := own'
      rw [Nat.zero_add] at this
      exact this
    exact ⟨C', c', rfl, ow, ((Fr.refl none w).alloc _).own F' (own_blk_ge HO.out)⟩
set_option maxRecDepth 100000 in
set_option maxHeartbeats 1000000 in
theorem pclnA_any (l : List Ast) (v : Value) (w : World) (h : SlR astR w none v l) (hl : l.length ≤ 1000000) :
    Calls Tryz.prog 63 #[v] w fun e w' => ∃ A c, e = .returned (.slice A l.length c) ∧ w'.ownsRow w.heap.size 36 2 (.slice A l.length c) l.length (flR astR l) ∧ Fr none w w' := by
  obtain ⟨A, c, rfl, q1, q2, hcc⟩ := h.open_
  cases A with
  | none =>
    have h0 : l.length = 0 := by
      rcases Nat.eq_zero_or_pos l.length with h | h
      · exact h
      · obtain ⟨b, off, e, _⟩ := hcc h; cases e
    obtain rfl := List.eq_nil_of_length_eq_zero h0
    have hnil : ∀ w, Sem.run Tryz.prog (binOp .eql 90 (.slice none 0 c) (.slice none 0 0)) w = .ok (.bool true) w := fun w => Lib.run_eql_slice_nil w _ _ none _ _ _ _ (by kernel_rfl : Tryz.prog.underlying 90 = some (.slice 36))
    clear h hcc
    have e0 : ([] : List Ast).length = 0 := rfl
    rw [e0]
    clear e0
    go_enter Tryz.func63, Tryz.ntmps63
    go_wp2_with fail
    go_ret
    exact ⟨none, 0, rfl, World.ownsRow_nil _ _ _ _, Fr.refl _ _⟩
  | some a =>
    have own0 := own_emp (w := w) 36 2 w.heap.size (Nat.le_refl _) rfl
    have HO := Lib.hid own0
    have HS := Lib.hid (h.fr ((Fr.refl none w).alloc (.cells #[] 36))).1.any
    clear own0 hcc
    have hnil : ∀ w, Sem.run Tryz.prog (binOp .eql 90 (.slice (some a) l.length c) (.slice none 0 0)) w = .ok (.bool false) w := fun w => Lib.run_eql_slice_nil w _ _ (some a) _ _ _ _ (by kernel_rfl : Tryz.prog.underlying 90 = some (.slice 36))
    go_enter Tryz.func63, Tryz.ntmps63
    go_wp2_with (at_builtin; refine app_any eiAst rfl _ _ rfl w.heap.size (some ⟨w.heap.size, 0, none⟩) 0 0 [] rfl HO.out (some a) l.length c (flR astR l) rfl HS.out (flR_one astR l) (by omega) (by unfold maxLen; omega) (by simp) ?_; intro C' c' w' own' F' bl')
    go_ret
    have ow : w'.ownsRow w.heap.size 36 2 (.slice C' l.length c') l.length (flR astR l) := by
      have := own'
      rw [Nat.zero_add] at this
      exact this
    exact ⟨C', c', rfl, ow, ((Fr.refl none w).alloc _).own F' (own_blk_ge HO.out)⟩
/-- What a transaction's copying keeps small. -/
def TxSm (t : TxX) : Prop := t.ops.length ≤ 1000 ∧ ∀ x ∈ t.ops, x.o.path.length ≤ 1000
theorem map_o_set {l : List OpX} {k : Nat} {x : OpX} (hk : k < l.length) (h : x.o = l[k].o) : (l.set k x).map (·.o) = l.map (·.o) := by
  rw [List.map_set, h]
  apply List.ext_getElem
  · simp
  · intro i h1 h2
    rw [List.getElem_set]
    split
    · rename_i e; subst e; simp
    · rfl
set_option maxRecDepth 100000 in
set_option maxHeartbeats 4000000 in
theorem pcopied_any (t : TxX) (w : World) (h : TxD w none t) (hsm : TxSm t) : Calls Tryz.prog 38 #[txV t] w fun e w' => ∃ t', e = .returned (txV t') ∧ t'.pl = t.pl ∧ TxN w.heap.size w' t' ∧ Fr none w w' := by
  obtain ⟨ts, tq, tf, tops, tA, tc⟩ := t
  have HD := Lib.hid h
  have HSM := Lib.hid hsm
  have hn : tops.length ≤ 1000 := hsm.1
  clear h hsm
  unfold txV
  dsimp only
  go_enter Tryz.func38, Tryz.ntmps38
  go_upto_region 1 with (fail)
  generalize hW : w.alloc _ = w1
  have F1 : Fr none w w1 := hW ▸ (Fr.refl none w).alloc _
  have b1 : TxB w1 w.heap.size ⟨ts, tq, tf, tops, tA, tc⟩ := by rw [← hW]; exact blk_new _ _
  have s1 : w.heap.size + 1 = w1.heap.size := by rw [← hW]; exact (Array.size_push _).symm
  clear hW
  generalize hW : w1.alloc _ = w2
  have F2 : Fr none w1 w2 := hW ▸ (Fr.refl none w1).alloc _
  have b2 : TxB w2 (w.heap.size + 1) tx0 := by rw [← hW, s1]; exact blk_new _ _
  have s2 : w.heap.size + 2 = w2.heap.size := by rw [← hW]; simp only [World.alloc, Array.size_push]; omega
  have b1 := b1.fr F2 (by simp)
  clear hW s1
  have FF := F1.pure F2
  clear F1 F2
  obtain ⟨e0, e1, e2, e3⟩ := txcells b1
  dsimp only at e0 e1 e2 e3
  go_wp2_with fail
  refine (pclnO_any tops _ w2 (HD.out.1.fr FF) (by omega)).mono ?_
  rintro e w3 ⟨A3, c3, rfl, own3, F3⟩
  have b1 := b1.fr F3 (by simp)
  have b2 := b2.fr F3 (by simp)
  have FF := FF.pure F3
  clear F3 e0 e1 e2 e3
  have hz := txfrees b1
  obtain ⟨e0, e1, e2, e3⟩ := txcells b1
  dsimp only at e0 e1 e2 e3
  go_wp2_with fail
  generalize hW : World.setCell _ _ _ = w4
  have G4 : Fr (some w.heap.size) w3 w4 := hW ▸ Fr.set1 w3 ⟨w.heap.size, 3, none⟩ (.slice A3 tops.length c3)
  have b1 : TxB w4 w.heap.size ⟨ts, tq, tf, tops, A3, c3⟩ := by rw [← hW]; exact blk_set b1 3 _
  have b2 := b2.fr G4 (by intro e; injection e with e; omega)
  have FF := FF.new G4 (Nat.le_refl _)
  have own4 := own_fr own3 G4 (by intro g e; injection e with e; omega)
  clear hW G4 own3 e0 e1 e2 e3 hz
  have hs2 : w.heap.size + 2 ≤ w2.heap.size := by omega
  clear s2
  obtain ⟨B2, hB2⟩ : ∃ B, B = w2.heap.size := ⟨_, rfl⟩
  rw [← hB2] at own4 hs2
  clear hB2
  go_loopw [11] (fun s11 wr => ∃ (j : Nat) (l : List OpX), j ≤ tops.length ∧ s11 = .int .i64 (j : Int) ∧ Hid (l.length = tops.length) ∧ TxB wr w.heap.size ⟨ts, tq, tf, tops, A3, c3⟩ ∧ TxB wr (w.heap.size + 1) tx0 ∧ wr.ownsRow B2 92 12 (.slice A3 tops.length c3) tops.length (flR opR l) ∧ Hid (l.map (·.o) = tops.map (·.o)) ∧ Hid (∀ k (hk : k < l.length), k < j → SlD wr (Dx B2 wr (.slice A3 tops.length c3)) 2 l[k].v (flR astR l[k].o.path)) ∧ Hid (∀ k (hk : k < l.length) (hk' : k < tops.length), j ≤ k → l[k] = tops[k]) ∧ Fr none w wr) (fun s11 _ => tops.length - (intOf s11).toNat)
  case atStart => exact ⟨0, tops, Nat.zero_le _, rfl, rfl, b1, b2, own4, rfl, fun k _ h => by omega, fun k _ _ _ => rfl, FF⟩
  case round =>
    clear b1 b2 own4 FF
    obtain ⟨j, l, hj, rfl, HL, b1, b2, own, HM, HP, HR, F⟩ := hrel
    by_cases hlt : j < tops.length
    · obtain ⟨rb, rfl⟩ := own_some own (by omega)
      have hjl : j < l.length := by have := HL.out; omega
      have hxe : l[j] = tops[j] := HR.out j hjl hlt (Nat.le_refl _)
      obtain ⟨hfz, hcs, hrb, hrB, hcap, hcap2⟩ := own_free7 own
      unfold maxLen at hcap2
      have c11 : wr.cell? ⟨rb, j * 12 + 11, none⟩ = some (.slice l[j].A l[j].o.path.length l[j].c) := hcs (j * 12 + 11) _ ((flR_get opR l j hjl 11 (by decide)).trans rfl)
      have HX1 : Hid (OpD w none l[j] ∧ l[j].o.path.length ≤ 1000) := by unfold Hid; rw [hxe]; exact ⟨HD.out.2 _ (List.getElem_mem hlt), HSM.out.2 _ (List.getElem_mem hlt)⟩
      obtain ⟨x, hx⟩ : ∃ x, x = l[j] := ⟨_, rfl⟩
      rw [← hx] at c11 HX1
      have HXE := Lib.hid hx
      clear hxe hcs hx
      have HOWN := Lib.hid own
      clear own
      go_upto_region 5 with (fail)
      refine wp_region_fxP (fun W => Fr none wr W) (fun W => Fr none wr W) [9, 12] [0, 1, 2, 3, 4, 5, 6, 7, 8, 9, 10, 11, 12] 28 [none, some 25, some 24, some 23, some 22, some 21, some 20, some 19, some 18, some 17, some 16, some 15, some 14] (by kernel_rfl) (by kernel_rfl) (by kernel_rfl) (Nat.le_refl _) (show (fun W => Fr none wr W) _ from (Fr.refl _ _).drew) (fun W h => h) ?_
      refine FxP.pure (v := ?_) rfl rfl rfl (fun ev w E => ?_) ?_; rotate_left
      · obtain ⟨t1, ec, ef, eg⟩ := E.get [] [1] (by kernel_rfl); clear E; go_simp; try with_reducible rfl
      refine FxP.load (v := ?_) rfl rfl rfl (fun ev w hS E => ?_) ?_; rotate_left
      · obtain ⟨d0, d1, d2, d3⟩ := txcells (b1.fr hS (by simp))
        dsimp only at d0 d1 d2 d3
        have d11 := hS.keep c11 (by simp)
        obtain ⟨t14, ec, ef, eg⟩ := E.get [(0, 0, 14)] [] (by kernel_rfl); clear E; simp only [nthV] at t14; go_simp; try with_reducible rfl
      refine FxP.pure (v := ?_) rfl rfl rfl (fun ev w E => ?_) ?_; rotate_left
      · obtain ⟨t3, ec, ef, eg⟩ := E.get [] [3] (by kernel_rfl); clear E; go_simp; try with_reducible rfl
      refine FxP.pure (v := ?_) rfl rfl rfl (fun ev w E => ?_) ?_; rotate_left
      · obtain ⟨t1, ec, ef, eg⟩ := E.get [] [1] (by kernel_rfl); clear E; go_simp; try with_reducible rfl
      refine FxP.load (v := ?_) rfl rfl rfl (fun ev w hS E => ?_) ?_; rotate_left
      · obtain ⟨d0, d1, d2, d3⟩ := txcells (b1.fr hS (by simp))
        dsimp only at d0 d1 d2 d3
        have d11 := hS.keep c11 (by simp)
        obtain ⟨t17, ec, ef, eg⟩ := E.get [(0, 3, 17)] [] (by kernel_rfl); clear E; simp only [nthV] at t17; go_simp; try with_reducible rfl
      refine FxP.pure (v := ?_) rfl rfl rfl (fun ev w E => ?_) ?_; rotate_left
      · obtain ⟨t3, ec, ef, eg⟩ := E.get [] [3] (by kernel_rfl); clear E; go_simp; try with_reducible rfl
      refine FxP.pure (v := ?_) rfl rfl rfl (fun ev w E => ?_) ?_; rotate_left
      · obtain ⟨t18, t19, ec, ef, eg⟩ := E.get [(1, 4, 18), (0, 5, 19)] [] (by kernel_rfl); clear E; simp only [nthV] at t18 t19; go_simp; try with_reducible rfl
      refine FxP.pure (v := ?_) rfl rfl rfl (fun ev w E => ?_) ?_; rotate_left
      · obtain ⟨t20, ec, ef, eg⟩ := E.get [(0, 6, 20)] [] (by kernel_rfl); clear E; simp only [nthV] at t20; go_simp; try with_reducible rfl
      refine FxP.load (v := ?_) rfl rfl rfl (fun ev w hS E => ?_) ?_; rotate_left
      · obtain ⟨d0, d1, d2, d3⟩ := txcells (b1.fr hS (by simp))
        dsimp only at d0 d1 d2 d3
        have d11 := hS.keep c11 (by simp)
        obtain ⟨t21, ec, ef, eg⟩ := E.get [(0, 7, 21)] [] (by kernel_rfl); clear E; simp only [nthV] at t21; go_simp; try with_reducible rfl
      refine FxP.call (f := ?_) (args := ?_) (fun v W => Fr none wr W ∧ ∃ (Ap : Option Addr) (cp : Nat), v = .slice Ap x.o.path.length cp ∧ W.ownsRow wr.heap.size 36 2 (.slice Ap x.o.path.length cp) x.o.path.length (flR astR x.o.path)) rfl rfl rfl (by kernel_rfl) (fun ev w hS E => ?_) (fun w hS => ?_) (fun v W h => h.1) ?_; rotate_left 2
      · obtain ⟨t22, ec, ef, eg⟩ := E.get [(0, 8, 22)] [] (by kernel_rfl); clear E; simp only [nthV] at t22; go_simp; first | (refine And.intro ?_ ?_ <;> with_reducible rfl) | with_reducible rfl
      · refine (pclnA_any x.o.path _ w (SlR.fr HX1.out.1 (F.pure hS)) (by have := HX1.out.2; omega)).mono ?_
        rintro e w2 ⟨Ap, cp, rfl, ow, F2⟩
        exact ⟨_, rfl, hS.pure F2, Ap, cp, rfl, own_bs ow hS.size⟩
      rintro v23 wq hT23
      clear hT23 wq
      refine FxP.pure (v := ?_) rfl rfl rfl (fun ev w E => ?_) ?_; rotate_left
      · obtain ⟨t15, t16, ec, ef, eg⟩ := E.get [(8, 1, 15), (7, 2, 16)] [] (by kernel_rfl); clear E; simp only [nthV] at t15 t16; go_simp; try with_reducible rfl
      refine FxP.pure (v := ?_) rfl rfl rfl (fun ev w E => ?_) ?_; rotate_left
      · obtain ⟨t24, ec, ef, eg⟩ := E.get [(0, 10, 24)] [] (by kernel_rfl); clear E; simp only [nthV] at t24; go_simp; try with_reducible rfl
      refine FxP.store (S' := (fun W => ∃ (Ap : Option Addr) (cp : Nat) (W0 : World), Fr none wr W0 ∧ W0.ownsRow wr.heap.size 36 2 (.slice Ap x.o.path.length cp) x.o.path.length (flR astR x.o.path) ∧ W = W0.setCell ⟨rb, j * 12 + 11, none⟩ (.slice Ap x.o.path.length cp))) rfl rfl rfl (by kernel_rfl) (fun ev w hS E => ?_) (NextP.new (G' := fun _ => True) (by kernel_rfl) (fun _ _ => trivial)) ?_
      · obtain ⟨hF0, Ap, cp, rfl, ow⟩ := hS
        have hz := (own_free7 (own_fr HOWN.out hF0 (by simp))).1
        have d11 := hF0.keep c11 (by simp)
        obtain ⟨t25, t23, ec, ef, eg⟩ := E.get [(0, 11, 25), (2, 9, 23)] [] (by kernel_rfl); clear E; simp only [nthV] at t25 t23
        refine ⟨?_, ?_, ?_⟩
        rotate_left
        · go_simp; try with_reducible rfl
        · exact ⟨Ap, cp, _, hF0, ow, rfl⟩
      refine FxP.done (fun W hW => ?_)
      simp only [fillZ]
      try simp only [Act.put, List.setIfInBounds_toArray, List.set_cons_zero, List.set_cons_succ, List.getElem_toArray, List.getElem_cons_zero, List.getElem_cons_succ]
      obtain ⟨Ap, cp, W0, hF0, ow, hWe⟩ := hW
      have G0 : Fr (some rb) W0 W := hWe ▸ Fr.set1 W0 ⟨rb, j * 12 + 11, none⟩ (.slice Ap x.o.path.length cp)
      have own1 := own_set7 (own_fr HOWN.out hF0 (by simp)) (j * 12 + 11) (.slice Ap x.o.path.length cp)
      have hq : (flR opR l).set (j * 12 + 11) (.slice Ap x.o.path.length cp) = flR opR (l.set j ⟨x.o, Ap, cp⟩) := flR_set opR (.slice Ap x.o.path.length cp) ⟨x.o, Ap, cp⟩ 11 (by decide) l j hjl (by rw [← HXE.out]; rfl)
      rw [← hWe, hq] at own1
      clear hq hWe
      go_wp2_with fail
      go_roundw
      case rel =>
        refine ⟨j + 1, l.set j ⟨x.o, Ap, cp⟩, by omega, by go_num, by unfold Hid; rw [List.length_set]; exact HL.out, (b1.fr hF0 (by simp)).fr G0 (by intro e; injection e with e; omega), (b2.fr hF0 (by simp)).fr G0 (by intro e; injection e with e; omega), own1, ?_, ?_, ?_, (F.pure hF0).new G0 (by omega)⟩
        · unfold Hid
          rw [map_o_set hjl (by rw [← HXE.out]), HM.out]
        · intro k hk hkj
          rw [List.getElem_set]
          split
          · have := SlD.own_dn ow
            exact (this.keep (dn_dx (v := .slice (some ⟨rb, 0, none⟩) tops.length c3) (by omega) (fun b hb => (HOWN.out.lt b hb).2))).keep (dx_app G0 (.inl rfl))
          · rename_i hne
            have hk' : k < l.length := by simpa using hk
            exact ((HP.out k hk' (by omega)).keep (dx_fr hF0 (by simp))).keep (dx_app G0 (.inl rfl))
        · intro k hk hk' hkj
          rw [List.getElem_set, if_neg (by omega)]
          exact HR.out k (by simpa using hk) hk' (by omega)
      case measure => simp [intOf]; omega
    · obtain rfl : j = tops.length := by omega
      have hz := txfrees b2
      have el := b2.lt
      obtain ⟨e0, e1, e2, e3⟩ := txcells b1
      obtain ⟨f0, f1, f2, f3⟩ := txcells b2
      dsimp only at e0 e1 e2 e3
      simp only [tx0, List.length_nil] at f0 f1 f2 f3
      have HOWN := Lib.hid own
      clear own
      go_wp2_with fail
      generalize hW5 : World.setCell _ _ _ = w9
      obtain ⟨R9, G9⟩ := txw4 b2 ⟨ts, tq, tf, tops, A3, c3⟩ w9 hW5.symm
      clear hW5 e0 e1 e2 e3 f0 f1 f2 f3
      obtain ⟨e0, e1, e2, e3⟩ := txcells R9
      dsimp only at e0 e1 e2 e3
      have hll := HL.out
      refine bodyPost_ret (v := txV ⟨ts, tq, tf, l, A3, c3⟩) (by simp [results, Tryz.results38, go_sem, txV, e0, e1, e2, e3, hll]) rfl ?_
      have ho : ∀ x ∈ l, ∃ y ∈ tops, x.o = y.o := fun x hx => by
        have : x.o ∈ l.map (·.o) := List.mem_map_of_mem hx
        rw [HM.out] at this
        obtain ⟨y, hy, e⟩ := List.mem_map.1 this
        exact ⟨y, hy, e.symm⟩
      refine ⟨⟨ts, tq, tf, l, A3, c3⟩, rfl, ?_, ⟨?_, fun x hx => ?_⟩, F.new G9 (by omega)⟩
      · unfold TxX.pl
        dsimp only
        rw [HM.out]
      · have ow := own_fr HOWN.out G9 (fun b hb => by injection hb with hb; omega)
        rw [← hll] at ow
        exact (SlN.of_own (R := opR) ow (fun x hx => by
          obtain ⟨y, hy, e⟩ := ho x hx
          show OpW x.o
          rw [e]; exact HD.out.1.2 y hy)).mono (by omega)
      · obtain ⟨k, hk, rfl⟩ := List.getElem_of_mem hx
        have hk : k < l.length := hk
        refine ⟨(((HP.out k hk (by have := HL.out; omega)).keep (dx_fr G9 (fun b hb => by injection hb with hb; omega))).keep dx_dn).keep (dn_mono (by omega)), ?_⟩
        obtain ⟨y, hy, e⟩ := ho _ hx
        show ∀ a ∈ l[k].o.path, Wi a.iss
        rw [e]; exact (HD.out.2 y hy).2
end Go.Proofs.YtonhhnedfjonoaaGreatDoor

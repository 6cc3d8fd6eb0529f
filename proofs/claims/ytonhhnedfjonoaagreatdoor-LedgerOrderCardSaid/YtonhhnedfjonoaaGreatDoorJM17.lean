/- Some texts of this claim, joined: contracts of the functions that it reaches, and plain laws. -/
import Derived.Test.YtonhhnedfjonoaaGreatDoorProg
import Derived.Test.YtonhhnedfjonoaaGreatDoorJM13
import Derived.Test.YtonhhnedfjonoaaGreatDoorJM14
import Derived.Test.YtonhhnedfjonoaaGreatDoorJM15
import Derived.Test.YtonhhnedfjonoaaGreatDoorJM16
import Derived.Test.YtonhhnedfjonoaaGreatDoorJM9
import Derived.Test.YtonhhnedfjonoaaGreatDoorJM12
import Derived.Test.YtonhhnedfjonoaaGreatDoorJM10

set_option linter.unusedSimpArgs false
set_option linter.unusedVariables false
/- Walks: ledger.plain whole; operation, valid, compare, Check. -/
namespace Go.Proofs.YtonhhnedfjonoaaGreatDoor
open Go.RowKit

theorem pplain_any (x : OpX) (w : World) (hx : OpD w none x) : Calls Tryz.prog 93 #[opV x.o x.v] w fun e w' => e = .returned (plV x) ∧ Fr none w w' := by
  by_cases k1 : x.o.kind = 1
  · exact pplain1_any x w hx k1
  by_cases k2 : x.o.kind = 2
  · exact pplain2_any x w hx k2
  by_cases k3 : x.o.kind = 3
  · exact pplain3_any x w hx k3
  by_cases k4 : x.o.kind = 4
  · exact pplain4_any x w hx k4
  by_cases k5 : x.o.kind = 5
  · exact pplain5_any x w hx k5
  by_cases k6 : x.o.kind = 6
  · exact pplain6_any x w hx k6
  exact pplain0_any x w hx ⟨k1, k2, k3, k4, k5, k6⟩
/-- What plain hands back, as an operation in memory. -/
def plX (x : OpX) : OpX := if x.o.kind = 6 then ⟨(plO x.o).1, x.A, x.c⟩ else ⟨(plO x.o).1, none, 0⟩
theorem plO_path (o : Opr) : (plO o).1.path = if o.kind = 6 then o.path else [] := by
  unfold plO
  by_cases k1 : o.kind = 1
  · rw [if_pos k1, if_neg (by omega)]; rfl
  rw [if_neg k1]
  by_cases k2 : o.kind = 2
  · rw [if_pos k2, if_neg (by omega)]; rfl
  rw [if_neg k2]
  by_cases k3 : o.kind = 3
  · rw [if_pos k3, if_neg (by omega)]; rfl
  rw [if_neg k3]
  by_cases k4 : o.kind = 4
  · rw [if_pos k4, if_neg (by omega)]; rfl
  rw [if_neg k4]
  by_cases k5 : o.kind = 5
  · rw [if_pos k5, if_neg (by omega)]; rfl
  rw [if_neg k5]
  by_cases k6 : o.kind = 6
  · rw [if_pos k6, if_pos k6]
  rw [if_neg k6, if_neg k6]; rfl
theorem plX_o (x : OpX) : (plX x).o = (plO x.o).1 := by unfold plX; split <;> rfl
theorem plX_v (x : OpX) : (plX x).v = if x.o.kind = 6 then x.v else .slice none 0 0 := by
  unfold plX
  by_cases k : x.o.kind = 6
  · rw [if_pos k, if_pos k]
    unfold OpX.v
    simp only
    rw [plO_path, if_pos k]
  · rw [if_neg k, if_neg k]
    unfold OpX.v
    simp only
    rw [plO_path, if_neg k]
    rfl
theorem plX_D {w : World} {x : OpX} (h : OpD w none x) : OpD w none (plX x) := by
  unfold OpD
  rw [plX_v, plX_o, plO_path]
  by_cases k : x.o.kind = 6
  · rw [if_pos k, if_pos k]; exact h
  · rw [if_neg k, if_neg k]; exact SlR.nil _ _ _
theorem plV_X (x : OpX) : plV x = .tuple #[opV (plX x).o (plX x).v, .bool (plO x.o).2] := by
  unfold plV
  rw [plX_o, plX_v]
set_option maxRecDepth 100000 in
set_option maxHeartbeats 4000000 in
theorem poper_any (x : OpX) (w : World) (hx : OpD w none x) : Calls Tryz.prog 71 #[opV x.o x.v] w fun e w' => e = .returned (.bool (vOp x.o)) ∧ Fr none w w' := by
  have HX := Lib.hid hx
  clear hx
  unfold opV
  simp only [opL]
  go_enter Tryz.func71, Tryz.ntmps71
  go_upto_region 1 with (fail)
  generalize hW : w.alloc _ = w1
  have F1 : Fr none w w1 := hW ▸ (Fr.refl none w).alloc _
  have b1 : OpB w1 w.heap.size x.o x.v := by rw [← hW]; exact blk_new _ _
  clear hW
  obtain ⟨e0, e1, e2, e3, e4, e5, e6, e7, e8, e9, e10, e11⟩ := b1.cells
  go_wp2_with fail
  refine (pplain_any x w1 (SlR.fr HX.out F1)).mono ?_
  rintro e w2 ⟨rfl, F2⟩
  rw [plV_X]
  have HY := Lib.hid (plX_D (SlR.fr (SlR.fr HX.out F1) F2) : OpD w2 none (plX x))
  have HVO : Hid (vOp x.o = ((plO x.o).2 && decide ((plX x).o = x.o))) := by unfold Hid vOp; rw [plX_o]
  have b1 := b1.fr F2 (by simp)
  generalize plX x = y at *
  generalize (plO x.o).2 = t at *
  obtain ⟨u, hu⟩ : ∃ u, u = decide (y.o = x.o) := ⟨_, rfl⟩
  have HU := Lib.hid hu
  clear hu
  clear e0 e1 e2 e3 e4 e5 e6 e7 e8 e9 e10 e11
  obtain ⟨e0, e1, e2, e3, e4, e5, e6, e7, e8, e9, e10, e11⟩ := b1.cells
  unfold opV
  simp only [opL]
  have yv : y.v = .slice y.A y.o.path.length y.c := rfl
  rw [yv]
  go_upto_region 2 with (fail)
  generalize hW : w2.alloc _ = w3
  have F3 : Fr none w2 w3 := hW ▸ (Fr.refl none w2).alloc _
  have b2 : OpB w3 w2.heap.size y.o y.v := by rw [← hW]; exact blk_new _ _
  have b1 := b1.fr F3 (by simp)
  clear hW yv
  clear e0 e1 e2 e3 e4 e5 e6 e7 e8 e9 e10 e11
  obtain ⟨e0, e1, e2, e3, e4, e5, e6, e7, e8, e9, e10, e11⟩ := b1.cells
  obtain ⟨d0, d1, d2, d3, d4, d5, d6, d7, d8, d9, d10, d11⟩ := b2.cells
  cases t with
  | false =>
    go_wp2_with fail
    go_ret
    refine ⟨ret_bool ?_, (F1.pure F2).pure F3⟩
    rw [HVO.out]; rfl
  | true =>
    go_wp2_with fail
    refine (psame_any y x w3 (SlR.fr HY.out F3) (SlR.fr (SlR.fr (SlR.fr HX.out F1) F2) F3)).mono ?_
    rintro e w4 ⟨rfl, F4⟩
    go_wp2_with fail
    go_ret
    refine ⟨ret_bool ?_, ((F1.pure F2).pure F3).pure F4⟩
    rw [HVO.out]; rfl
end Go.Proofs.YtonhhnedfjonoaaGreatDoor

/- Walks: ledger.valid, Check. -/
namespace Go.Proofs.YtonhhnedfjonoaaGreatDoor
open Go.RowKit

set_option maxRecDepth 100000 in
theorem pval1_any (x : OpX) (w : World) (hx : OpD w none x) : Calls Tryz.prog 70 #[opV x.o x.v] w fun e w' => e = .returned (.bool (!vOp x.o)) ∧ Fr none w w' := by
  have HX := Lib.hid hx
  clear hx
  unfold opV
  simp only [opL]
  go_enter Tryz.func70, Tryz.ntmps70
  go_upto_region 1 with (fail)
  generalize hW : w.alloc _ = w1
  have F1 : Fr none w w1 := hW ▸ (Fr.refl none w).alloc _
  have b1 : OpB w1 w.heap.size x.o x.v := by rw [← hW]; exact blk_new _ _
  clear hW
  obtain ⟨e0, e1, e2, e3, e4, e5, e6, e7, e8, e9, e10, e11⟩ := b1.cells
  go_wp2_with fail
  refine (poper_any x w1 (SlR.fr HX.out F1)).mono ?_
  rintro e w2 ⟨rfl, F2⟩
  go_wp2_with fail
  go_ret
  exact ⟨rfl, F1.pure F2⟩
theorem pval1_enters : ∀ args w, Sem.run Tryz.prog (callFunc 70 args) w = .ok (.enter 70 args) w := fun _ _ => by kernel_rfl
theorem vTx_pl (t : TxX) : vTx t.pl = (inR t.src 1 1000 && (inR t.seq 1 1000000 && (inR t.fee 1 100000 && (inR (t.ops.length : Int) 1 4 && !(t.ops.any fun x => !vOp x.o))))) := by
  unfold vTx TxX.pl
  simp only [List.length_map]
  rw [not_any_all, List.all_map]
  rfl
set_option maxRecDepth 100000 in
set_option maxHeartbeats 1000000 in
theorem pvtx_any (t : TxX) (w : World) (h : TxD w none t) : Calls Tryz.prog 44 #[txV t] w fun e w' => e = .returned (.bool (vTx t.pl)) ∧ Fr none w w' := by
  have hX := vTx_pl t
  obtain ⟨V, hV⟩ : ∃ V, V = vTx t.pl := ⟨_, rfl⟩
  rw [← hV] at hX ⊢
  clear hV
  have HX := Lib.hid hX
  clear hX
  have HD := Lib.hid h
  clear h
  unfold txV
  go_enter Tryz.func44, Tryz.ntmps44
  go_upto_region 1 with (fail)
  generalize hW : w.alloc _ = w1
  have F1 : Fr none w w1 := hW ▸ (Fr.refl none w).alloc _
  have b1 : TxB w1 w.heap.size t := by rw [← hW]; exact blk_new _ _
  clear hW
  obtain ⟨e0, e1, e2, e3⟩ := txcells b1
  clear b1
  go_wp2_with fail
  refine (among_any t.src 1 1000 w1).mono ?_
  rintro e w2 ⟨rfl, rfl⟩
  generalize inR t.src 1 1000 = a1 at *
  cases a1 with
  | false =>
    go_wp2_with fail
    go_ret
    exact ⟨ret_bool (by rw [HX.out]; rfl), F1⟩
  | true =>
    go_wp2_with fail
    refine (among_any t.seq 1 1000000 _).mono ?_
    rintro e w3 ⟨rfl, rfl⟩
    generalize inR t.seq 1 1000000 = a2 at *
    cases a2 with
    | false =>
      go_wp2_with fail
      go_ret
      exact ⟨ret_bool (by rw [HX.out]; rfl), F1⟩
    | true =>
      go_wp2_with fail
      refine (among_any t.fee 1 100000 _).mono ?_
      rintro e w3 ⟨rfl, rfl⟩
      generalize inR t.fee 1 100000 = a3 at *
      cases a3 with
      | false =>
        go_wp2_with fail
        go_ret
        exact ⟨ret_bool (by rw [HX.out]; rfl), F1⟩
      | true =>
        go_wp2_with fail
        refine (among_any (t.ops.length : Int) 1 4 _).mono ?_
        rintro e w3 ⟨rfl, rfl⟩
        generalize inR (t.ops.length : Int) 1 4 = a4 at *
        cases a4 with
        | false =>
          go_wp2_with fail
          go_ret
          exact ⟨ret_bool (by rw [HX.out]; rfl), F1⟩
        | true =>
          go_wp2_with fail
          refine (ctO_any (fun x => !vOp x.o) 70 #[] pval1_enters t.ops _ _ (HD.out.1.fr F1) (fun y hy W FW => pval1_any y W ((HD.out.2 y hy).fr (F1.pure FW)))).mono ?_
          rintro e w3 ⟨rfl, F3⟩
          generalize (t.ops.any fun x => !vOp x.o) = a5 at *
          go_wp2_with fail
          go_ret
          exact ⟨ret_bool (by rw [HX.out]; rfl), F1.pure F3⟩
set_option maxRecDepth 100000 in
theorem pchk1_any (t : TxX) (w : World) (h : TxD w none t) : Calls Tryz.prog 43 #[txV t] w fun e w' => e = .returned (.bool (!vTx t.pl)) ∧ Fr none w w' := by
  have HD := Lib.hid h
  clear h
  unfold txV
  go_enter Tryz.func43, Tryz.ntmps43
  go_upto_region 1 with (fail)
  generalize hW : w.alloc _ = w1
  have F1 : Fr none w w1 := hW ▸ (Fr.refl none w).alloc _
  have b1 : TxB w1 w.heap.size t := by rw [← hW]; exact blk_new _ _
  clear hW
  obtain ⟨e0, e1, e2, e3⟩ := txcells b1
  clear b1
  go_wp2_with fail
  refine (pvtx_any t w1 (HD.out.fr F1)).mono ?_
  rintro e w2 ⟨rfl, F2⟩
  go_wp2_with fail
  go_ret
  exact ⟨rfl, F1.pure F2⟩
theorem pchk1_enters : ∀ args w, Sem.run Tryz.prog (callFunc 43 args) w = .ok (.enter 43 args) w := fun _ _ => by kernel_rfl
end Go.Proofs.YtonhhnedfjonoaaGreatDoor

/- Walk: ledger.Check. -/
namespace Go.Proofs.YtonhhnedfjonoaaGreatDoor
open Go.RowKit

theorem chkT_len {l : List TxX} (h : 12 < l.length) : chkT (plT l) = 3 := by unfold chkT plT; rw [List.length_map, if_pos h]
theorem chkT_inv {l : List TxX} (h : ¬ 12 < l.length) (k : (l.any fun t => !vTx t.pl) = true) : chkT (plT l) = 1 := by
  unfold chkT plT
  rw [List.length_map, if_neg h, if_pos]
  rw [List.all_map]
  rw [← Bool.not_eq_true', ← not_any_all] 
  simpa using k
theorem plT_get {l : List TxX} {k : Nat} (hk : k < l.length) : (plT l)[k]'(by unfold plT; simpa using hk) = l[k].pl := by unfold plT; simp
theorem chkT_ok {l : List TxX} (h : ¬ 12 < l.length) (k : (l.any fun t => !vTx t.pl) = false) (ho : ∀ j (hj : j < l.length) (h0 : 0 < j), ltTx (l[j - 1]'(by omega)).pl l[j].pl = true) : chkT (plT l) = 0 := by
  unfold chkT
  have hall : (plT l).all vTx = true := by
    unfold plT
    rw [List.all_map]
    have := not_any_all (fun t : TxX => vTx t.pl) l
    rw [k] at this
    exact this.symm
  rw [show (plT l).length = l.length by unfold plT; simp, if_neg h, hall, if_neg (by simp), if_pos]
  refine okAll_all fun j hj => ?_
  have hj' : j < l.length := by unfold plT at hj; simpa using hj
  rw [plT_get hj']
  unfold prevOf
  by_cases h0 : j = 0
  · rw [if_pos h0]; rfl
  · rw [if_neg h0]
    have : (plT l)[j - 1]? = some (l[j - 1]'(by omega)).pl := by
      rw [List.getElem?_eq_getElem (by unfold plT; simp; omega), plT_get (by omega)]
    rw [this]
    exact ho j hj' (by omega)
theorem chkT_ord {l : List TxX} (h : ¬ 12 < l.length) (k : (l.any fun t => !vTx t.pl) = false) (j : Nat) (hj : j < l.length) (h0 : 0 < j) (ho : ltTx (l[j - 1]'(by omega)).pl l[j].pl = false) : chkT (plT l) = 7 := by
  unfold chkT
  have hall : (plT l).all vTx = true := by
    unfold plT
    rw [List.all_map]
    have := not_any_all (fun t : TxX => vTx t.pl) l
    rw [k] at this
    exact this.symm
  rw [show (plT l).length = l.length by unfold plT; simp, if_neg h, hall, if_neg (by simp), if_neg]
  have hj2 : j < (plT l).length := by unfold plT; simpa using hj
  rw [okAll_not hj2]
  · simp
  · rw [plT_get hj]
    unfold prevOf
    rw [if_neg (by omega)]
    have : (plT l)[j - 1]? = some (l[j - 1]'(by omega)).pl := by
      rw [List.getElem?_eq_getElem (by unfold plT; simp; omega), plT_get (by omega)]
    rw [this]
    exact ho
set_option maxRecDepth 100000 in
set_option maxHeartbeats 4000000 in
theorem pchk_any (l : List TxX) (v : Value) (w : World) (h : SlT w none v l) : Calls Tryz.prog 20 #[v] w fun e w' => e = .returned (.int .i64 (chkT (plT l))) ∧ Fr none w w' := by
  obtain ⟨A, c, hv, q1, q2, hc⟩ := txR_open h.1
  subst hv
  have HC := Lib.hid hc
  have HT := Lib.hid h
  clear h hc
  by_cases h12 : 12 < l.length
  · have hl : (12 : Int) < (l.length : Int) := by omega
    have HX : Hid (chkT (plT l) = 3) := chkT_len h12
    clear h12
    go_enter Tryz.func20, Tryz.ntmps20
    go_wp2_with fail
    go_ret
    exact ⟨ret_int HX.out.symm, Fr.refl _ _⟩
  · have hl : ¬ (12 : Int) < (l.length : Int) := by omega
    have H12 := Lib.hid h12
    clear h12
    go_enter Tryz.func20, Tryz.ntmps20
    go_wp2_with fail
    refine (ctT_any (fun t => !vTx t.pl) 43 #[] pchk1_enters l _ w HT.out.1 (fun y hy W FW => pchk1_any y W ((HT.out.2 y hy).fr FW))).mono ?_
    rintro e w1 ⟨rfl, F1⟩
    cases ha : (l.any fun t => !vTx t.pl) with
    | true =>
      have HX : Hid (chkT (plT l) = 1) := chkT_inv H12.out ha
      clear ha
      go_wp2_with fail
      go_ret
      exact ⟨ret_int HX.out.symm, F1⟩
    | false =>
      have HA := Lib.hid ha
      clear ha
      go_wp2_with fail
      go_loopw [3] (fun i wr => ∃ m : Nat, (m + 1 ≤ l.length ∨ m = 0) ∧ i = .int .i64 ((m : Int) + 1) ∧ Fr none w1 wr ∧ Hid (∀ j (hj : j < l.length) (h0 : 0 < j), j < m + 1 → ltTx (l[j - 1]'(by omega)).pl l[j].pl = true)) (fun i _ => l.length - (intOf i).toNat)
      case atStart => exact ⟨0, .inr rfl, rfl, Fr.refl _ _, Lib.hid (fun j hj h0 h => by omega)⟩
      case round =>
        obtain ⟨m, hm, rfl, F, HN⟩ := hrel
        by_cases hlt : m + 1 < l.length
        · obtain ⟨b, off, rfl, hb, _, hcc⟩ := HC.out (by omega)
          obtain ⟨x0, x1, x2, x3⟩ := hcc m (by omega)
          obtain ⟨y0, y1, y2, y3⟩ := hcc (m + 1) hlt
          have FF := F1.pure F
          have x0 := FF.keep x0 (by simp)
          have x1 := FF.keep x1 (by simp)
          have x2 := FF.keep x2 (by simp)
          have x3 := FF.keep x3 (by simp)
          have y0 := FF.keep y0 (by simp)
          have y1 := FF.keep y1 (by simp)
          have y2 := FF.keep y2 (by simp)
          have y3 := FF.keep y3 (by simp)
          clear hcc
          obtain ⟨x, hx⟩ : ∃ x, x = l[m]'(by omega) := ⟨_, rfl⟩
          obtain ⟨y, hy⟩ : ∃ y, y = l[m + 1]'hlt := ⟨_, rfl⟩
          rw [← hx] at x0 x1 x2 x3
          rw [← hy] at y0 y1 y2 y3
          unfold TxX.v at x3 y3
          have HX := Lib.hid hx
          have HY := Lib.hid hy
          clear hx hy hm
          have hsub : IntKind.i64.wrap (m : Int) = (m : Int) := IntWalk.i64_in _ (by omega)
          have hn1 : (0 : Int) ≤ (m : Int) := by omega
          have hn2 : (0 : Int) ≤ (m : Int) + 1 := by omega
          have hlt1 : (m : Int) < (l.length : Int) := by omega
          have hlt2 : (m : Int) + 1 < (l.length : Int) := by omega
          go_wp2_with fail
          refine wp_region_fxL (fun W => Fr none wr W) 11 28 [some 27, some 26, some 25, some 24, some 23, some 22, some 21, some 20, some 19, some 18, some 17] (by kernel_rfl) (by kernel_rfl) (by kernel_rfl) (Nat.le_refl _) ((Fr.refl _ _).drew) ?_
          refine FxL.pure (v := ?_) rfl (fun ev w hS E => ?_) ?_; rotate_left
          · obtain ⟨t0, ec, ef, eg⟩ := E.get [] [0] (by kernel_rfl); clear E; go_simp; try with_reducible rfl
          refine FxL.pure (v := ?_) rfl (fun ev w hS E => ?_) ?_; rotate_left
          · obtain ⟨t3, ec, ef, eg⟩ := E.get [] [3] (by kernel_rfl); clear E; go_simp; try with_reducible rfl
          refine FxL.pure (v := ?_) rfl (fun ev w hS E => ?_) ?_; rotate_left
          · obtain ⟨t18, ec, ef, eg⟩ := E.get [(0, 1, 18)] [] (by kernel_rfl); clear E; simp only [nthV] at t18; go_simp; try with_reducible rfl
          refine FxL.pure (v := ?_) rfl (fun ev w hS E => ?_) ?_; rotate_left
          · have c0 := hS.keep x0 (by simp)
            have c1 := hS.keep x1 (by simp)
            have c2 := hS.keep x2 (by simp)
            have c3 := hS.keep x3 (by simp)
            have d0 := hS.keep y0 (by simp)
            have d1 := hS.keep y1 (by simp)
            have d2 := hS.keep y2 (by simp)
            have d3 := hS.keep y3 (by simp)
            obtain ⟨t17, t19, ec, ef, eg⟩ := E.get [(2, 0, 17), (0, 2, 19)] [] (by kernel_rfl); clear E; simp only [nthV] at t17 t19; go_simp; try with_reducible rfl
          refine FxL.pure (v := ?_) rfl (fun ev w hS E => ?_) ?_; rotate_left
          · have c0 := hS.keep x0 (by simp)
            have c1 := hS.keep x1 (by simp)
            have c2 := hS.keep x2 (by simp)
            have c3 := hS.keep x3 (by simp)
            have d0 := hS.keep y0 (by simp)
            have d1 := hS.keep y1 (by simp)
            have d2 := hS.keep y2 (by simp)
            have d3 := hS.keep y3 (by simp)
            obtain ⟨t20, ec, ef, eg⟩ := E.get [(0, 3, 20)] [] (by kernel_rfl); clear E; simp only [nthV] at t20; go_simp; try with_reducible rfl
          refine FxL.pure (v := ?_) rfl (fun ev w hS E => ?_) ?_; rotate_left
          · obtain ⟨t0, ec, ef, eg⟩ := E.get [] [0] (by kernel_rfl); clear E; go_simp; try with_reducible rfl
          refine FxL.pure (v := ?_) rfl (fun ev w hS E => ?_) ?_; rotate_left
          · obtain ⟨t3, ec, ef, eg⟩ := E.get [] [3] (by kernel_rfl); clear E; go_simp; try with_reducible rfl
          refine FxL.pure (v := ?_) rfl (fun ev w hS E => ?_) ?_; rotate_left
          · have c0 := hS.keep x0 (by simp)
            have c1 := hS.keep x1 (by simp)
            have c2 := hS.keep x2 (by simp)
            have c3 := hS.keep x3 (by simp)
            have d0 := hS.keep y0 (by simp)
            have d1 := hS.keep y1 (by simp)
            have d2 := hS.keep y2 (by simp)
            have d3 := hS.keep y3 (by simp)
            obtain ⟨t22, t23, ec, ef, eg⟩ := E.get [(1, 5, 22), (0, 6, 23)] [] (by kernel_rfl); clear E; simp only [nthV] at t22 t23; go_simp; try with_reducible rfl
          refine FxL.pure (v := ?_) rfl (fun ev w hS E => ?_) ?_; rotate_left
          · have c0 := hS.keep x0 (by simp)
            have c1 := hS.keep x1 (by simp)
            have c2 := hS.keep x2 (by simp)
            have c3 := hS.keep x3 (by simp)
            have d0 := hS.keep y0 (by simp)
            have d1 := hS.keep y1 (by simp)
            have d2 := hS.keep y2 (by simp)
            have d3 := hS.keep y3 (by simp)
            obtain ⟨t24, ec, ef, eg⟩ := E.get [(0, 7, 24)] [] (by kernel_rfl); clear E; simp only [nthV] at t24; go_simp; try with_reducible rfl
          refine FxL.call (v := ?_) (f := ?_) (args := ?_) rfl (fun ev w hS E => ?_) (fun w hS => ?_) ?_; rotate_left 3
          · have c0 := hS.keep x0 (by simp)
            have c1 := hS.keep x1 (by simp)
            have c2 := hS.keep x2 (by simp)
            have c3 := hS.keep x3 (by simp)
            have d0 := hS.keep y0 (by simp)
            have d1 := hS.keep y1 (by simp)
            have d2 := hS.keep y2 (by simp)
            have d3 := hS.keep y3 (by simp)
            obtain ⟨t21, t25, ec, ef, eg⟩ := E.get [(4, 4, 21), (0, 8, 25)] [] (by kernel_rfl); clear E; simp only [nthV] at t21 t25; go_simp; first | (refine And.intro ?_ ?_ <;> with_reducible rfl) | with_reducible rfl
          · have c0 := hS.keep x0 (by simp)
            have c1 := hS.keep x1 (by simp)
            have c2 := hS.keep x2 (by simp)
            have c3 := hS.keep x3 (by simp)
            have d0 := hS.keep y0 (by simp)
            have d1 := hS.keep y1 (by simp)
            have d2 := hS.keep y2 (by simp)
            have d3 := hS.keep y3 (by simp)
            refine (pcmp_any x y w).mono ?_
            rintro e w2 ⟨rfl, F2⟩
            refine ⟨?_, hS.pure F2⟩; with_reducible rfl
          refine FxL.pure (v := ?_) rfl (fun ev w hS E => ?_) ?_; rotate_left
          · obtain ⟨t26, ec, ef, eg⟩ := E.get [(0, 9, 26)] [] (by kernel_rfl); clear E; simp only [nthV] at t26; go_simp; try with_reducible rfl
          refine FxL.done (fun W hW => ?_)
          simp only [fillZ]
          try simp only [Act.put, List.setIfInBounds_toArray, List.set_cons_zero, List.set_cons_succ, List.getElem_toArray, List.getElem_cons_zero, List.getElem_cons_succ]
          try simp only [List.drop_succ_cons, List.drop_zero, List.drop_nil]
          have HG := Lib.hid (cmpT_geq x y)
          generalize decide (0 ≤ cmpT x y) = g at *
          cases g with
          | true =>
            have HL : Hid (ltTx x.pl y.pl = false) := by unfold Hid; rw [← Bool.not_eq_true', ← HG.out]
            have HX0 : Hid (chkT (plT l) = 7) := chkT_ord H12.out HA.out (m + 1) hlt (by omega) (by have := HL.out; rw [HX.out, HY.out] at this; exact this)
            go_wp2_with fail
            go_ret
            exact ⟨ret_int HX0.out.symm, FF.pure hW⟩
          | false =>
            have HL : Hid (ltTx x.pl y.pl = true) := by have := HG.out; unfold Hid; simpa using this.symm
            go_wp2_with fail
            go_roundw
            case rel => exact ⟨m + 1, .inl (by omega), by go_num, F.pure hW, fun j hj h0 hjm => by
              by_cases e : j = m + 1
              · subst e
                have := HL.out
                rw [HX.out, HY.out] at this
                exact this
              · exact HN.out j hj h0 (by omega)⟩
            case measure => simp [intOf]; omega
        · have HX : Hid (chkT (plT l) = 0) := chkT_ok H12.out HA.out fun j hj h0 => HN.out j hj h0 (by omega)
          go_wp2_with fail
          go_ret
          exact ⟨ret_int HX.out.symm, F1.pure F⟩
end Go.Proofs.YtonhhnedfjonoaaGreatDoor

/- Walk: ledger.format, the text of a valid set. -/
namespace Go.Proofs.YtonhhnedfjonoaaGreatDoor
open Go.RowKit

theorem chkX_all {l : List TxX} (h : chkT (plT l) = 0) : l.length ≤ 12 ∧ ∀ t ∈ l, vTx t.pl = true := by
  unfold chkT at h
  by_cases h1 : 12 < (plT l).length
  · rw [if_pos h1] at h; cases h
  · rw [if_neg h1] at h
    refine ⟨by unfold plT at h1; simp at h1; omega, fun t ht => ?_⟩
    cases ha : (plT l).all vTx with
    | false => rw [ha, if_pos rfl] at h; cases h
    | true => exact List.all_eq_true.1 ha t.pl (List.mem_map_of_mem ht)
theorem vTx_parts {t : TxX} (h : vTx t.pl = true) : Wi t.src ∧ Wi t.seq ∧ Wi t.fee ∧ t.ops.length ≤ 4 ∧ ∀ x ∈ t.ops, vOp x.o = true := by
  rw [vTx_pl] at h
  simp only [Bool.and_eq_true, inR_iff, not_any_all] at h
  obtain ⟨h1, h2, h3, h4, h5⟩ := h
  exact ⟨wi_of h1.1 h1.2 (by decide) (by decide), wi_of h2.1 h2.2 (by decide) (by decide), wi_of h3.1 h3.2 (by decide) (by decide), by omega, fun x hx => List.all_eq_true.1 h5 x hx⟩
def hdT (t : TxX) : List (List UInt8) := [Lib.itoa t.src, Lib.itoa t.seq, Lib.itoa t.fee]
theorem wdsT_pl (t : TxX) : wdsT t.pl = hdT t ++ t.ops.map (fun x => txtO x.o) := by
  unfold wdsT TxX.pl hdT
  simp [List.map_map, Function.comp_def]
theorem wdsT_le {t : TxX} (h : vTx t.pl = true) : ∀ y ∈ hdT t ++ t.ops.map (fun x => txtO x.o), y.length ≤ 400 := by
  obtain ⟨h1, h2, h3, h4, h5⟩ := vTx_parts h
  have l1 := itoaL_len h1
  have l2 := itoaL_len h2
  have l3 := itoaL_len h3
  intro y hy
  rcases List.mem_append.1 hy with hy | hy
  · unfold hdT at hy
    simp only [List.mem_cons, List.not_mem_nil, or_false] at hy
    rcases hy with rfl | rfl | rfl <;> omega
  · obtain ⟨x, hx, rfl⟩ := List.mem_map.1 hy
    exact txtO_len (h5 x hx)
theorem txtT_len {t : TxX} (h : vTx t.pl = true) : (txtT t.pl).length ≤ 3000 := by
  have h1 := join_le [32] (by simp) 400 _ (wdsT_le h)
  have h4 := (vTx_parts h).2.2.2.1
  unfold txtT
  rw [wdsT_pl]
  simp only [List.length_append, List.length_map, hdT, List.length_cons, List.length_nil] at h1 ⊢
  have : (3 + t.ops.length) * 401 ≤ 7 * 401 := Nat.mul_le_mul_right _ (by omega)
  omega
set_option maxRecDepth 100000 in
set_option maxHeartbeats 4000000 in
theorem pfmt_any (l : List TxX) (v : Value) (w : World) (h : SlT w none v l) (hv : chkT (plT l) = 0) (hT : Tab w) : Calls Tryz.prog 33 #[v] w fun e w' => e = .returned (.string (bL (txtS (plT l)))) ∧ Fr none w w' := by
  obtain ⟨h12, hall⟩ := chkX_all hv
  clear hv
  have HALL := Lib.hid hall
  have HTT := Lib.hid hT
  obtain ⟨A, c, hvv, q1, q2, hc⟩ := txR_open h.1
  subst hvv
  have HC := Lib.hid hc
  have HD := Lib.hid h.2
  clear h hc hall hT
  by_cases hl : l.length = 0
  · have hnil : l = [] := List.eq_nil_of_length_eq_zero hl
    subst hnil
    go_enter Tryz.func33, Tryz.ntmps33
    go_wp2_with fail
    go_ret
    exact ⟨rfl, Fr.refl _ _⟩
  · have hne : ((l.length : Int) == 0) = false := by rw [beq_eq_false_iff_ne]; omega
    have HX : Hid (txtS (plT l) = Lib.join (l.map fun t => txtT t.pl) [124]) := by
      unfold Hid txtS
      rw [if_neg (by unfold plT; intro e; have := congrArg List.length e; simp at this; exact hl (by rw [this]; rfl))]
      unfold plT
      rw [List.map_map]; rfl
    clear hl
    go_enter Tryz.func33, Tryz.ntmps33
    go_wp2_with fail
    go_loopw [3, 14] (fun s3 s14 wr => ∃ (k : Nat) (B : Option Addr) (d : Nat), k ≤ l.length ∧ s14 = .int .i64 (k : Int) ∧ s3 = .slice B k d ∧ Fr none w wr ∧ wr.ownsRow w.heap.size 9 1 (.slice B k d) k (((l.take k).map fun t => txtT t.pl).map fun x => Value.string (bL x))) (fun _ s14 _ => l.length - (intOf s14).toNat)
    case atStart => exact ⟨0, none, 0, Nat.zero_le _, rfl, rfl, Fr.refl _ _, World.ownsRow_nil _ _ _ _⟩
    case round =>
      obtain ⟨k, B, d, hk, rfl, rfl, F, own⟩ := hrel
      by_cases hlt : k < l.length
      · obtain ⟨b, off, rfl, hb, _, hcc⟩ := HC.out (by omega)
        obtain ⟨d0, d1, d2, d3⟩ := hcc k hlt
        have d0 := F.keep d0 (by simp)
        have d1 := F.keep d1 (by simp)
        have d2 := F.keep d2 (by simp)
        have d3 := F.keep d3 (by simp)
        have HDy := Lib.hid (HD.out _ (List.getElem_mem hlt))
        have HVy := Lib.hid (HALL.out _ (List.getElem_mem hlt))
        have HSt : Hid (((l.take (k + 1)).map fun t => txtT t.pl).map (fun x => Value.string (bL x)) = ((l.take k).map fun t => txtT t.pl).map (fun x => Value.string (bL x)) ++ [Value.string (bL (txtT l[k].pl))]) := by
          unfold Hid
          rw [List.take_succ_eq_append_getElem hlt]
          simp only [List.map_append]
          rfl
        clear hcc
        generalize l[k] = y at *
        unfold TxX.v at d3
        obtain ⟨p1, p2, p3, p4, p5⟩ := vTx_parts HVy.out
        have HWD := Lib.hid (wdsT_le HVy.out)
        have HTJ : Hid (Lib.join (hdT y ++ y.ops.map fun x => txtO x.o) [32] = txtT y.pl) := by unfold Hid txtT; rw [wdsT_pl]
        have HTL := Lib.hid (txtT_len HVy.out)
        clear HVy
        obtain ⟨ys, yq, yf, yo, yA, yc⟩ := y
        dsimp only at d0 d1 d2 d3 p1 p2 p3 p4 p5
        have HP := Lib.hid (And.intro p1 (And.intro p2 p3))
        have HO := Lib.hid p5
        clear p1 p2 p3 p5
        go_upto_region 7 with (fail)
        generalize hWa : wr.alloc _ = wa
        have Fa : Fr none wr wa := hWa ▸ (Fr.refl none wr).alloc _
        have b5 : TxB wa wr.heap.size ⟨ys, yq, yf, yo, yA, yc⟩ := by rw [← hWa]; exact blk_new _ _
        clear hWa d0 d1 d2 d3
        have FFa := F.pure Fa
        have HTa : Hid (Tab wa) := HTT.out.fr FFa
        have owna := own_fr own Fa (by simp)
        clear own F Fa
        refine wp_region_fxL (fun W => Fr none wa W) 9 49 [some 26, some 25, some 24, some 23, some 22, some 21, some 20, some 19, some 18] (by kernel_rfl) (by kernel_rfl) (by kernel_rfl) (Nat.le_refl _) ((Fr.refl _ _).drew) ?_
        refine FxL.pure (v := ?_) rfl (fun ev w hS E => ?_) ?_; rotate_left
        · obtain ⟨t5, ec, ef, eg⟩ := E.get [] [5] (by kernel_rfl); clear E; go_simp; try with_reducible rfl
        refine FxL.pure (v := ?_) rfl (fun ev w hS E => ?_) ?_; rotate_left
        · obtain ⟨c0, c1, c2, c3⟩ := txcells (b5.fr hS (by simp))
          dsimp only at c0 c1 c2 c3
          obtain ⟨t18, ec, ef, eg⟩ := E.get [(0, 0, 18)] [] (by kernel_rfl); clear E; simp only [nthV] at t18; go_simp; try with_reducible rfl
        refine FxL.call (v := ?_) (f := ?_) (args := ?_) rfl (fun ev w hS E => ?_) (fun w hS => ?_) ?_; rotate_left 3
        · obtain ⟨c0, c1, c2, c3⟩ := txcells (b5.fr hS (by simp))
          dsimp only at c0 c1 c2 c3
          obtain ⟨t19, ec, ef, eg⟩ := E.get [(0, 1, 19)] [] (by kernel_rfl); clear E; simp only [nthV] at t19; go_simp; first | (refine And.intro ?_ ?_ <;> with_reducible rfl) | with_reducible rfl
        · obtain ⟨c0, c1, c2, c3⟩ := txcells (b5.fr hS (by simp))
          dsimp only at c0 c1 c2 c3
          refine (itoaL_any ys HP.out.1 w (HTa.out.fr hS)).mono ?_
          rintro e w2 ⟨rfl, F2⟩
          refine ⟨?_, hS.pure F2⟩; with_reducible rfl
        refine FxL.pure (v := ?_) rfl (fun ev w hS E => ?_) ?_; rotate_left
        · obtain ⟨t5, ec, ef, eg⟩ := E.get [] [5] (by kernel_rfl); clear E; go_simp; try with_reducible rfl
        refine FxL.pure (v := ?_) rfl (fun ev w hS E => ?_) ?_; rotate_left
        · obtain ⟨c0, c1, c2, c3⟩ := txcells (b5.fr hS (by simp))
          dsimp only at c0 c1 c2 c3
          obtain ⟨t21, ec, ef, eg⟩ := E.get [(0, 3, 21)] [] (by kernel_rfl); clear E; simp only [nthV] at t21; go_simp; try with_reducible rfl
        refine FxL.call (v := ?_) (f := ?_) (args := ?_) rfl (fun ev w hS E => ?_) (fun w hS => ?_) ?_; rotate_left 3
        · obtain ⟨c0, c1, c2, c3⟩ := txcells (b5.fr hS (by simp))
          dsimp only at c0 c1 c2 c3
          obtain ⟨t22, ec, ef, eg⟩ := E.get [(0, 4, 22)] [] (by kernel_rfl); clear E; simp only [nthV] at t22; go_simp; first | (refine And.intro ?_ ?_ <;> with_reducible rfl) | with_reducible rfl
        · obtain ⟨c0, c1, c2, c3⟩ := txcells (b5.fr hS (by simp))
          dsimp only at c0 c1 c2 c3
          refine (itoaL_any yq HP.out.2.1 w (HTa.out.fr hS)).mono ?_
          rintro e w2 ⟨rfl, F2⟩
          refine ⟨?_, hS.pure F2⟩; with_reducible rfl
        refine FxL.pure (v := ?_) rfl (fun ev w hS E => ?_) ?_; rotate_left
        · obtain ⟨t5, ec, ef, eg⟩ := E.get [] [5] (by kernel_rfl); clear E; go_simp; try with_reducible rfl
        refine FxL.pure (v := ?_) rfl (fun ev w hS E => ?_) ?_; rotate_left
        · obtain ⟨c0, c1, c2, c3⟩ := txcells (b5.fr hS (by simp))
          dsimp only at c0 c1 c2 c3
          obtain ⟨t24, ec, ef, eg⟩ := E.get [(0, 6, 24)] [] (by kernel_rfl); clear E; simp only [nthV] at t24; go_simp; try with_reducible rfl
        refine FxL.call (v := ?_) (f := ?_) (args := ?_) rfl (fun ev w hS E => ?_) (fun w hS => ?_) ?_; rotate_left 3
        · obtain ⟨c0, c1, c2, c3⟩ := txcells (b5.fr hS (by simp))
          dsimp only at c0 c1 c2 c3
          obtain ⟨t25, ec, ef, eg⟩ := E.get [(0, 7, 25)] [] (by kernel_rfl); clear E; simp only [nthV] at t25; go_simp; first | (refine And.intro ?_ ?_ <;> with_reducible rfl) | with_reducible rfl
        · obtain ⟨c0, c1, c2, c3⟩ := txcells (b5.fr hS (by simp))
          dsimp only at c0 c1 c2 c3
          refine (itoaL_any yf HP.out.2.2 w (HTa.out.fr hS)).mono ?_
          rintro e w2 ⟨rfl, F2⟩
          refine ⟨?_, hS.pure F2⟩; with_reducible rfl
        refine FxL.done (fun W hW => ?_)
        simp only [fillZ]
        try simp only [Act.put, List.setIfInBounds_toArray, List.set_cons_zero, List.set_cons_succ, List.getElem_toArray, List.getElem_cons_zero, List.getElem_cons_succ]
        try simp only [List.drop_succ_cons, List.drop_zero, List.drop_nil]
        have b6 := b5.fr hW (by simp)
        obtain ⟨e0, e1, e2, e3⟩ := txcells b6
        dsimp only at e0 e1 e2 e3
        have el := b6.lt
        go_wp2_with fail
        obtain ⟨oB, ⟨oc, hov, oq1, oq2, ohc⟩⟩ := opR_open HDy.out.1
        dsimp only at ohc
        have HOC := Lib.hid ohc
        unfold TxX.v at hov
        injection hov with ov1 ov2 ov3
        subst ov1 ov3
        clear e0 e1 e2 e3 el b6 b5 ohc ov2
        generalize hWl : W.alloc _ = wl
        have own0 : wl.ownsRow W.heap.size 9 1 (.slice (some ⟨W.heap.size, 0, none⟩) 3 3) 3 ((hdT ⟨ys, yq, yf, yo, yA, yc⟩).map fun x => Value.string (bL x)) := by
          rw [← hWl]
          exact World.ownsRow_lit W _ 3 (Nat.le_refl _) (by unfold maxLen; omega) rfl
        have Fl : Fr none W wl := hWl ▸ (Fr.refl none W).alloc _
        have FW := FFa.pure hW
        have ownW := own_fr owna hW (by simp)
        have hwW := FW.size
        have HT2 : Hid (Tab W) := HTT.out.fr FW
        clear hWl hW owna FFa HTa
        go_loopw [6, 31] (fun s6 s31 wr => ∃ (j n : Nat) (B1 : Option Addr) (d1 : Nat), j ≤ yo.length ∧ Hid (n = 3 + j) ∧ s31 = .int .i64 (j : Int) ∧ s6 = .slice B1 n d1 ∧ Fr none W wr ∧ wr.ownsRow W.heap.size 9 1 (.slice B1 n d1) n ((hdT ⟨ys, yq, yf, yo, yA, yc⟩ ++ (yo.take j).map fun x => txtO x.o).map fun x => Value.string (bL x))) (fun _ s31 _ => yo.length - (intOf s31).toNat)
        case atStart => exact ⟨0, 3, _, _, Nat.zero_le _, rfl, rfl, rfl, Fl, by simpa using own0⟩
        case round =>
          obtain ⟨j, n, B1, d1, hj, HN, rfl, rfl, Fj, ownj⟩ := hrel
          clear own0 Fl
          have hn7 : n ≤ 7 := by have := HN.out; omega
          have FFj := FW.pure Fj
          by_cases hjl : j < yo.length
          · obtain ⟨b2, off2, rfl, hb2, _, hxx⟩ := HOC.out (by omega)
            have hxx := hxx j hjl
            have HVx := Lib.hid (HO.out _ (List.getElem_mem hjl))
            have HDx := Lib.hid (HDy.out.2 _ (List.getElem_mem hjl))
            have HSj : Hid ((hdT ⟨ys, yq, yf, yo, some ⟨b2, off2, none⟩, yc⟩ ++ (yo.take (j + 1)).map fun x => txtO x.o).map (fun x => Value.string (bL x)) = (hdT ⟨ys, yq, yf, yo, some ⟨b2, off2, none⟩, yc⟩ ++ (yo.take j).map fun x => txtO x.o).map (fun x => Value.string (bL x)) ++ [Value.string (bL (txtO yo[j].o))]) := by
              unfold Hid
              rw [List.take_succ_eq_append_getElem hjl]
              simp only [List.map_append, List.append_assoc]
              rfl
            try dsimp only at HDx
            obtain ⟨x, hx⟩ : ∃ x, x = yo[j] := ⟨_, rfl⟩
            rw [← hx] at hxx HVx HDx HSj
            clear hx
            have c0 : World.cell? wr ⟨b2, off2 + j * 12, none⟩ = some (.int .i64 x.o.kind) := FFj.keep (hxx 0 _ rfl) (by simp)
            have c1 : World.cell? wr ⟨b2, off2 + j * 12 + 1, none⟩ = some (.int .i64 x.o.to_) := FFj.keep (hxx 1 _ rfl) (by simp)
            have c2 : World.cell? wr ⟨b2, off2 + j * 12 + 2, none⟩ = some (.int .i64 x.o.amt) := FFj.keep (hxx 2 _ rfl) (by simp)
            have c3 : World.cell? wr ⟨b2, off2 + j * 12 + 3, none⟩ = some (.int .i64 x.o.lim) := FFj.keep (hxx 3 _ rfl) (by simp)
            have c4 : World.cell? wr ⟨b2, off2 + j * 12 + 4, none⟩ = some (.string (bL x.o.ast.code)) := FFj.keep (hxx 4 _ rfl) (by simp)
            have c5 : World.cell? wr ⟨b2, off2 + j * 12 + 5, none⟩ = some (.int .i64 x.o.ast.iss) := FFj.keep (hxx 5 _ rfl) (by simp)
            have c6 : World.cell? wr ⟨b2, off2 + j * 12 + 6, none⟩ = some (.string (bL x.o.oth.code)) := FFj.keep (hxx 6 _ rfl) (by simp)
            have c7 : World.cell? wr ⟨b2, off2 + j * 12 + 7, none⟩ = some (.int .i64 x.o.oth.iss) := FFj.keep (hxx 7 _ rfl) (by simp)
            have c8 : World.cell? wr ⟨b2, off2 + j * 12 + 8, none⟩ = some (.int .i64 x.o.num) := FFj.keep (hxx 8 _ rfl) (by simp)
            have c9 : World.cell? wr ⟨b2, off2 + j * 12 + 9, none⟩ = some (.int .i64 x.o.den) := FFj.keep (hxx 9 _ rfl) (by simp)
            have c10 : World.cell? wr ⟨b2, off2 + j * 12 + 10, none⟩ = some (.int .i64 x.o.id) := FFj.keep (hxx 10 _ rfl) (by simp)
            have c11 : World.cell? wr ⟨b2, off2 + j * 12 + 11, none⟩ = some (.slice x.A x.o.path.length x.c) := FFj.keep (hxx 11 _ rfl) (by simp)
            clear hxx
            go_upto_region 11 with (fail)
            generalize hWb : wr.alloc _ = wb
            have Fb : Fr none wr wb := hWb ▸ (Fr.refl none wr).alloc _
            have b7 : OpB wb wr.heap.size x.o x.v := by rw [← hWb]; exact blk_new _ _
            clear hWb c0 c1 c2 c3 c4 c5 c6 c7 c8 c9 c10 c11
            obtain ⟨e0, e1, e2, e3, e4, e5, e6, e7, e8, e9, e10, e11⟩ := b7.cells
            clear b7
            go_wp2_with fail
            refine (ptxt_any x wb (SlR.fr HDx.out (FFj.pure Fb)) HVx.out (HT2.out.fr (Fj.pure Fb))).mono ?_
            rintro e w5 ⟨rfl, F5⟩
            clear e0 e1 e2 e3 e4 e5 e6 e7 e8 e9 e10 e11
            have own5 := own_fr (own_fr ownj Fb (by simp)) F5 (by simp)
            have FF5 := (Fj.pure Fb).pure F5
            have hbz := FF5.size
            clear ownj Fb F5 Fj FFj
            go_wp2_with (at_builtin; refine app_lit eiStrL rfl _ _ rfl W.heap.size B1 n d1 _ rfl own5 1 [.string (bL (txtO x.o))] _ _ rfl (by simp) rfl (by simp [Value.oneCell']) (by omega) (by unfold maxLen; omega) (by omega) ?_; intro A6 c6 w6 own6 F6 nb6)
            go_roundw
            case rel =>
              refine ⟨j + 1, n + 1, A6, c6, by omega, by have := HN.out; unfold Hid; omega, by go_num, rfl, FF5.own F6 (fun g hg => own_blk_ge own5 g hg), ?_⟩
              rw [HSj.out]
              exact own6
            case measure => simp [intOf]; omega
          · obtain rfl : j = yo.length := by omega
            have hfull : yo.take yo.length = yo := List.take_of_length_le (Nat.le_refl _)
            rw [hfull] at ownj
            clear hfull
            go_wp2_with fail
            refine (ljoin_any 32 _ _ (Dm wr none) wr (SlD.of_own ownj (by simp)) (fun b hb => hb.1) (by simp [hdT]; omega) (by
              have := HTL.out
              rw [← HTJ.out] at this
              try dsimp only at this ⊢
              omega)).mono ?_
            rintro e w9 ⟨rfl, F9⟩
            have hJ9 := HTJ.out
            try dsimp only at hJ9
            rw [hJ9]
            clear hJ9
            have own9 := own_fr (own_fr ownW Fj (by simp)) F9 (by simp)
            have FF9 := FFj.pure F9
            have hbz := FF9.size
            clear ownj ownW Fj FFj F9 FW
            go_wp2_with (at_builtin; refine app_lit eiStrL rfl _ _ rfl w.heap.size B k d _ rfl own9 1 [.string (bL (txtT (TxX.pl ⟨ys, yq, yf, yo, yA, yc⟩)))] _ _ rfl (by simp) rfl (by simp [Value.oneCell']) (by omega) (by unfold maxLen; omega) (by omega) ?_; intro A6 c6 w6 own6 F6 nb6)
            go_roundw
            case rel =>
              refine ⟨k + 1, A6, c6, by omega, by go_num, rfl, FF9.own F6 (fun g hg => own_blk_ge own9 g hg), ?_⟩
              rw [HSt.out]
              exact own6
            case measure => simp [intOf]; omega
      · obtain rfl : k = l.length := by omega
        have hfull : l.take l.length = l := List.take_of_length_le (Nat.le_refl _)
        rw [hfull] at own
        have HLN : Hid (∀ y ∈ l.map fun t => txtT t.pl, y.length ≤ 3000) := by
          intro y hy
          obtain ⟨t, ht, rfl⟩ := List.mem_map.1 hy
          exact txtT_len (HALL.out t ht)
        clear hfull
        go_wp2_with fail
        refine (ljoin_any 124 _ _ (Dm wr none) wr (SlD.of_own own (by simp)) (fun b hb => hb.1) (by simp; omega) (by
          have := join_le [124] (by simp) 3000 _ HLN.out
          rw [List.length_map] at this
          have : l.length * (3000 + 1) ≤ 12 * 3001 := Nat.mul_le_mul_right _ h12
          omega)).mono ?_
        rintro e w9 ⟨rfl, F9⟩
        go_wp2_with fail
        go_ret
        exact ⟨by rw [HX.out]; rfl, F.pure F9⟩
end Go.Proofs.YtonhhnedfjonoaaGreatDoor

/- Walks: ledger.Format, Parse. -/
namespace Go.Proofs.YtonhhnedfjonoaaGreatDoor
open Go.RowKit

/-- What Format hands back. -/
def fmS (L : List Txn) : List UInt8 × Int := if chkT L ≠ 0 then ([], chkT L) else if 200 < (txtS L).length then ([], 3) else (txtS L, 0)
set_option maxRecDepth 100000 in
set_option maxHeartbeats 1000000 in
theorem pform_any (l : List TxX) (v : Value) (w : World) (h : SlT w none v l) (hT : Tab w) : Calls Tryz.prog 15 #[v] w fun e w' => e = .returned (.tuple #[.string (bL (fmS (plT l)).1), .int .i64 (fmS (plT l)).2]) ∧ Fr none w w' := by
  have HH := Lib.hid h
  have HT := Lib.hid hT
  obtain ⟨A, c, hvv, q1, q2, _⟩ := txR_open h.1
  subst hvv
  clear h hT
  go_enter Tryz.func15, Tryz.ntmps15
  go_wp2_with fail
  refine (pchk_any l _ w HH.out).mono ?_
  rintro e w1 ⟨rfl, F1⟩
  by_cases hc : chkT (plT l) = 0
  · have HC := Lib.hid hc
    rw [hc]
    clear hc
    go_wp2_with fail
    refine (pfmt_any l _ w1 (HH.out.fr F1) HC.out (HT.out.fr F1)).mono ?_
    rintro e w2 ⟨rfl, F2⟩
    have hsz : ((bL (txtS (plT l))).size : Int) = ((txtS (plT l)).length : Int) := by rw [bL_size]
    by_cases h200 : 200 < (txtS (plT l)).length
    · have HX : Hid (fmS (plT l) = ([], 3)) := by unfold Hid fmS; rw [if_neg (by rw [HC.out]; simp), if_pos h200]
      generalize txtS (plT l) = S at *
      have h2 : (200 : Int) < ((bL S).size : Int) := by rw [hsz]; omega
      go_wp2_with fail
      go_ret2
      exact ⟨by rw [HX.out]; rfl, F1.pure F2⟩
    · have HX : Hid (fmS (plT l) = (txtS (plT l), 0)) := by unfold Hid fmS; rw [if_neg (by rw [HC.out]; simp), if_neg h200]
      generalize txtS (plT l) = S at *
      have h2 : ¬ (200 : Int) < ((bL S).size : Int) := by rw [hsz]; omega
      go_wp2_with fail
      go_ret2
      exact ⟨by rw [HX.out]; rfl, F1.pure F2⟩
  · have HX : Hid (fmS (plT l) = ([], chkT (plT l))) := by unfold Hid fmS; rw [if_pos hc]
    have hne : (chkT (plT l) == 0) = false := by rw [beq_eq_false_iff_ne]; exact hc
    have hne2 : (chkT (plT l) != 0) = true := by rw [bne, hne]; rfl
    generalize chkT (plT l) = C at *
    clear hc
    go_wp2_with fail
    go_ret2
    exact ⟨by rw [HX.out]; rfl, F1⟩
theorem eiTx : EInfo Tryz.prog 48 57 4 48 := EInfo.mk_ (z := .agg #[.int .i64 0, .int .i64 0, .int .i64 0, .slice none 0 0]) (by kernel_rfl) (by kernel_rfl) rfl (by omega)
/-- A transaction's memory: in blocks from B on that are not the row of v. -/
def TxO (B : Nat) (w : World) (v : Value) (t : TxX) : Prop := (SlD w (Dx B w v) 12 t.v (flR opR t.ops) ∧ ∀ x ∈ t.ops, OpW x.o) ∧ ∀ x ∈ t.ops, SlD w (Dx B w v) 2 x.v (flR astR x.o.path) ∧ ∀ a ∈ x.o.path, Wi a.iss
theorem TxO.keep {B B' : Nat} {w w' : World} {v v' : Value} {t : TxX} (h : TxO B w v t) (hD : ∀ z, Dx B w v z → Dx B' w' v' z ∧ w'.heap[z]? = w.heap[z]?) : TxO B' w' v' t := ⟨⟨h.1.1.keep hD, h.1.2⟩, fun x hx => ⟨(h.2 x hx).1.keep hD, (h.2 x hx).2⟩⟩
theorem TxO.of {B B' : Nat} {w : World} {v : Value} {t : TxX} (h : TxN B' w t) (hD : ∀ z, Dn B' w z → Dx B w v z ∧ w.heap[z]? = w.heap[z]?) : TxO B w v t := ⟨⟨h.1.1.keep hD, h.1.2⟩, fun x hx => ⟨(h.2 x hx).1.keep hD, (h.2 x hx).2⟩⟩
theorem dx_dm {B : Nat} {w : World} {v : Value} : ∀ k, Dx B w v k → Dm w none k ∧ w.heap[k]? = w.heap[k]? := fun _ hk => ⟨⟨hk.2.1, by simp⟩, rfl⟩
theorem TxO.d {B : Nat} {w : World} {v : Value} {t : TxX} (h : TxO B w v t) : TxD w none t := ⟨⟨h.1.1.keep dx_dm, h.1.2⟩, fun x hx => ⟨(h.2 x hx).1.keep dx_dm, (h.2 x hx).2⟩⟩
theorem allT_snoc : ∀ (L : List (List UInt8)) (x : List UInt8) (l : List Txn) (t : Txn), allT L = some l → rdT x = some t → allT (L ++ [x]) = some (l ++ [t])
  | [], x, l, t, h, k => by
    have : l = [] := by simpa [allT] using h.symm
    subst this
    show allT [x] = _
    unfold allT
    rw [k]
    rfl
  | y :: L, x, l, t, h, k => by
    unfold allT at h
    cases hy : rdT y with
    | none => rw [hy] at h; simp at h
    | some a =>
      cases hL : allT L with
      | none => rw [hy, hL] at h; simp at h
      | some b =>
        rw [hy, hL] at h
        have : l = a :: b := by simpa using h.symm
        subst this
        show allT (y :: (L ++ [x])) = _
        unfold allT
        rw [hy, allT_snoc L x b t hL k]
        rfl
theorem allT_none : ∀ (L : List (List UInt8)) (k : Nat) (hk : k < L.length), rdT L[k] = none → allT L = none
  | y :: L, 0, _, h => by
    unfold allT
    have : rdT y = none := h
    rw [this]
  | y :: L, k + 1, hk, h => by
    unfold allT
    rw [allT_none L k (by simpa using hk) (by simpa using h)]
    cases rdT y <;> rfl
/-- What Parse hands back. -/
def PaR (R : List Txn × Int) (w : World) (e : Ending) (w' : World) : Prop := ∃ va l, e = .returned (.tuple #[va, .int .i64 R.2]) ∧ SlT w' none va l ∧ plT l = R.1 ∧ Fr none w w'
set_option maxRecDepth 100000 in
set_option maxHeartbeats 8000000 in
theorem pparse_any (v : List UInt8) (w : World) (hE : Errs w) (hM : Mxl w) (hT : Tab w) (hA : ∀ c ∈ v, c.toNat < 128) (hmx : 1 < w.heap.size) : Calls Tryz.prog 16 #[.string (bL v)] w (PaR (rdS v) w) := by
  have hsz : ((bL v).size : Int) = (v.length : Int) := by rw [bL_size]
  have HA := Lib.hid hA
  have HTB := Lib.hid hT
  clear hA hT
  by_cases h200 : 200 < v.length
  · have HX : Hid (rdS v = ([], 3)) := by unfold Hid rdS; rw [if_pos h200]
    have h2 : (200 : Int) < ((bL v).size : Int) := by rw [hsz]; omega
    clear hsz h200 hE hM
    generalize rdS v = R at *
    go_enter Tryz.func16, Tryz.ntmps16
    go_wp2_with fail
    go_ret2
    exact ⟨.slice none 0 0, [], by rw [HX.out]; rfl, SlT.nil _ _, by rw [HX.out]; rfl, Fr.refl _ _⟩
  · have h2 : ¬ (200 : Int) < ((bL v).size : Int) := by rw [hsz]; omega
    have H200 := Lib.hid h200
    have hq : ((bL v).toList == [48]) = decide (v = [48]) := by
      rw [bL_tl]
      by_cases h : v = [48]
      · subst h; rfl
      · rw [decide_eq_false h]; simpa using h
    by_cases h48 : v = [48]
    · have HX : Hid (rdS v = ([], 0)) := by unfold Hid rdS; rw [if_neg h200, if_pos h48]
      rw [decide_eq_true h48] at hq
      clear hsz h200 h48 hE hM
      generalize rdS v = R at *
      go_enter Tryz.func16, Tryz.ntmps16
      go_wp2_with fail
      go_ret2
      exact ⟨.slice none 0 0, [], by rw [HX.out]; rfl, SlT.nil _ _, by rw [HX.out]; rfl, Fr.refl _ _⟩
    · rw [decide_eq_false h48] at hq
      have H48 := Lib.hid h48
      clear h48 h200
      obtain ⟨R, hR⟩ : ∃ R, R = rdS v := ⟨_, rfl⟩
      have HRn : Hid (allT (splL 124 v) = none → R = ([], 2)) := by
        intro h
        rw [hR]
        unfold rdS
        rw [if_neg H200.out, if_neg H48.out, h]
      have HRs : Hid (∀ l, allT (splL 124 v) = some l → (chkT l = 0 ∧ txtS l = v → R = (l, 0)) ∧ (¬ (chkT l = 0 ∧ txtS l = v) → R = ([], 2))) := by
        intro l h
        rw [hR]
        unfold rdS
        rw [if_neg H200.out, if_neg H48.out, h]
        exact ⟨fun h => if_pos h, fun h => if_neg h⟩
      rw [← hR]
      clear hR hsz
      go_enter Tryz.func16, Tryz.ntmps16
      go_wp2_with fail
      refine (split_any 124 v w hM (by have := H200.out; omega)).mono ?_
      rintro e w1 ⟨A, n, c, rfl, hn, hs, F1⟩
      obtain ⟨W, hWs⟩ : ∃ W, W = splL 124 v := ⟨_, rfl⟩
      rw [← hWs] at hn hs
      subst hn
      have HS := Lib.hid hs
      have HWs := Lib.hid hWs
      have hE1 := hE.frs F1 (by simp) (by simp)
      have hM1 := hM.frs F1 (by simp)
      have hwl : W.length ≤ 201 := by
        have h1 := splL_le 124 v
        have h2 := congrArg List.length hWs
        have h3 := H200.out
        omega
      have hc4 : W.length ≤ c ∧ c ≤ 9223372036854775807 := by obtain ⟨A', n', c', e, _, hc, hm, _⟩ := hs; injection e with e1 e2 e3; subst e2 e3; exact ⟨hc, hm⟩
      have HLw : Hid (∀ x ∈ W, x.length ≤ 1000000 ∧ ∀ c ∈ x, c.toNat < 128) := fun x hx => by
        rw [HWs.out] at hx
        have := splL_mem hx
        have h3 := H200.out
        exact ⟨by omega, fun c hc => HA.out c (this.2 c hc)⟩
      have HMX : Hid (1 < w1.heap.size) := Nat.lt_of_lt_of_le hmx F1.size
      have HF1 := Lib.hid F1
      clear hs hWs hE hM F1 hmx
      go_wp2_with fail
      go_loopw [4, 17] (fun s4 s17 wr => ∃ (k : Nat) (l : List TxX) (Ap : Option Addr) (cp : Nat), k ≤ W.length ∧ s17 = .int .i64 (k : Int) ∧ s4 = .slice Ap l.length cp ∧ Hid (allT (W.take k) = some (plT l)) ∧ Hid (l.length = k) ∧ Fr none w1 wr ∧ wr.ownsRow w1.heap.size 57 4 (.slice Ap l.length cp) l.length (flR txR l) ∧ Hid (∀ t ∈ l, TxW t ∧ TxO w1.heap.size wr (.slice Ap l.length cp) t)) (fun _ s17 _ => W.length - (intOf s17).toNat)
      case atStart => exact ⟨0, [], none, 0, Nat.zero_le _, rfl, rfl, rfl, rfl, Fr.refl _ _, World.ownsRow_nil _ _ _ _, (fun x hx => by cases hx)⟩
      case round =>
        obtain ⟨k, l, Ap, cp, hk, rfl, rfl, HAL, HLK, F, own, HPs⟩ := hrel
        have hE := hE1.frs F (by simp) (by simp)
        have hM := hM1.frs F (by simp)
        by_cases hlt : k < W.length
        · obtain ⟨q, off, hAq, hqD, d0⟩ : ∃ q off, A = some ⟨q, off, none⟩ ∧ (w.heap.size ≤ q ∧ q < w1.heap.size) ∧ w1.cell? ⟨q, off + k, none⟩ = some (.string (bL W[k])) := by
            obtain ⟨A', n', c', e, _, hc, hm, hx⟩ := HS.out
            injection e with e1 e2 e3
            subst e1 e2 e3
            obtain ⟨q, off, h1, h2, h3⟩ := hx (by omega)
            exact ⟨q, off, h1, h2, h3 k _ (by simp [hlt])⟩
          subst hAq
          have d0 := F.keep d0 (by simp)
          have HLx := Lib.hid (HLw.out _ (List.getElem_mem hlt))
          have HSt : Hid (W.take (k + 1) = W.take k ++ [W[k]]) := by unfold Hid; rw [List.take_succ_eq_append_getElem hlt]
          have HBad : Hid (rdT W[k] = none → R = ([], 2)) := fun h => HRn.out (by rw [← HWs.out]; exact allT_none W k hlt h)
          obtain ⟨word, hword⟩ : ∃ word, word = W[k] := ⟨_, rfl⟩
          rw [← hword] at d0 HLx HSt HBad
          clear hword
          go_wp2_with fail
          refine (ptran_any word wr hE hM HLx.out.1 HLx.out.2 (Nat.lt_of_lt_of_le HMX.out F.size)).mono ?_
          rintro e w5 ⟨t, ok, rfl, hTP, hTN, hTW, F5⟩
          obtain ⟨ts, tq, tf, tp, tA, tc⟩ := t
          have HTP := Lib.hid hTP
          have HTN := Lib.hid hTN
          have HTW := Lib.hid hTW
          unfold txV
          dsimp only
          clear hTP hTN hTW hE hM d0
          cases ok with
          | false =>
            have HX : Hid (R = ([], 2)) := HBad.out (HTP.out.2 rfl)
            clear own HPs
            go_wp2_with fail
            generalize hW6 : w5.alloc _ = w6
            have F6 : Fr none w5 w6 := hW6 ▸ (Fr.refl none w5).alloc _
            go_ret2
            exact ⟨.slice none 0 0, [], by rw [HX.out]; rfl, SlT.nil _ _, by rw [HX.out]; rfl, ((HF1.out.pure F).pure F5).pure F6⟩
          | true =>
            have HTx := Lib.hid (HTP.out.1 rfl)
            go_upto_region 12 with (fail)
            generalize hW6 : w5.alloc _ = w6
            have F6 : Fr none w5 w6 := hW6 ▸ (Fr.refl none w5).alloc _
            have b9 : TxB w6 w5.heap.size ⟨ts, tq, tf, tp, tA, tc⟩ := by rw [← hW6]; exact blk_new _ _
            have F56 := F5.pure F6
            have own6 := own_fr own F56 (by simp)
            have HPs6 : Hid (∀ t ∈ l, TxW t ∧ TxO w1.heap.size w6 (.slice Ap l.length cp) t) := fun t ht => ⟨(HPs.out t ht).1, (HPs.out t ht).2.keep (dx_fr F56 (fun g e => by cases e))⟩
            have HOB : Hid (∀ g, (Value.slice Ap l.length cp).ownBlock = some g → g < wr.heap.size) := fun g hg => (own.lt g hg).2
            have HT6 : Hid (TxN wr.heap.size w6 ⟨ts, tq, tf, tp, tA, tc⟩) := HTN.out.fr F6 (fun g e => by cases e)
            have hlk : l.length ≤ 201 := by have := HLK.out; omega
            have FF6 := F.pure F56
            have hle : wr.heap.size ≤ w6.heap.size := F56.size
            have hle1 := F.size
            clear hW6 own HPs F5 F6 HTN
            obtain ⟨e0, e1, e2, e3⟩ := txcells b9
            dsimp only at e0 e1 e2 e3
            have b9l := b9.lt
            go_wp2_with (at_builtin; refine app_lit eiTx rfl _ _ rfl w1.heap.size Ap l.length cp _ rfl own6 1 [.int .i64 ts, .int .i64 tq, .int .i64 tf, .slice tA tp.length tc] _ _ rfl (by simp) rfl (by simp [Value.oneCell']) (by omega) (by unfold maxLen; omega) (by omega) ?_; intro A7 c7 w7 own7 F7 nb7)
            go_roundw
            case rel =>
              have hdx : ∀ z : Nat, Dx w1.heap.size w6 (.slice Ap l.length cp) z → Dx w1.heap.size w7 (.slice A7 (l.length + 1) c7) z ∧ w7.heap[z]? = w6.heap[z]? := dx_app F7 nb7
              refine ⟨k + 1, l ++ [⟨ts, tq, tf, tp, tA, tc⟩], A7, c7, by omega, by go_num, ?_, ?_, ?_, FF6.own F7 (fun g e => own_blk_ge own6 g e), ?_, ?_⟩
              · rw [List.length_append]; rfl
              · unfold Hid
                rw [HSt.out, allT_snoc _ _ _ _ HAL.out HTx.out]
                unfold plT
                rw [List.map_append]; rfl
              · have := HLK.out
                unfold Hid
                rw [List.length_append]
                simp only [List.length_cons, List.length_nil]
                omega
              · rw [List.length_append]
                simp only [List.length_cons, List.length_nil]
                rw [flR_snoc]
                exact own7
              · rw [List.length_append]
                simp only [List.length_cons, List.length_nil]
                intro y hy
                rcases List.mem_append.1 hy with hy | hy
                · exact ⟨(HPs6.out y hy).1, (HPs6.out y hy).2.keep hdx⟩
                · rw [List.mem_singleton.1 hy]
                  exact ⟨HTW.out, (TxO.of HT6.out (dn_dx hle1 HOB.out)).keep hdx⟩
            case measure => simp [intOf]; omega
        · obtain rfl : k = W.length := by omega
          have HAF : Hid (allT (splL 124 v) = some (plT l)) := by
            have := HAL.out
            rw [List.take_of_length_le (Nat.le_refl _)] at this
            unfold Hid
            rw [← HWs.out]
            exact this
          have HSL : Hid (SlT wr none (.slice Ap l.length cp) l) := ⟨SlR.of_own (R := txR) own (by simp) (fun t ht => (HPs.out t ht).1), fun t ht => (HPs.out t ht).2.d⟩
          have FW := HF1.out.pure F
          have HTW2 : Hid (Tab wr) := HTB.out.fr FW
          have HR2 := Lib.hid (HRs.out _ HAF.out)
          clear own HPs hE hM hE1 hM1
          go_wp2_with fail
          refine (pchk_any l _ wr HSL.out).mono ?_
          rintro e w5 ⟨rfl, F5⟩
          by_cases hc : chkT (plT l) = 0
          · have HC := Lib.hid hc
            rw [hc]
            clear hc
            go_wp2_with fail
            refine (pfmt_any l _ w5 (HSL.out.fr F5) HC.out (HTW2.out.fr F5)).mono ?_
            rintro e w6 ⟨rfl, F6⟩
            by_cases he : txtS (plT l) = v
            · have HX : Hid (R = (plT l, 0)) := HR2.out.1 ⟨HC.out, he⟩
              have h1 : ((bL (txtS (plT l))).toList == (bL v).toList) = true := by rw [he]; exact beq_self_eq_true _
              have HS6 : Hid (SlT w6 none (.slice Ap l.length cp) l) := (HSL.out.fr F5).fr F6
              generalize txtS (plT l) = S at *
              clear he
              go_wp2_with fail
              go_ret2
              exact ⟨_, l, by rw [HX.out]; rfl, HS6.out, by rw [HX.out], (FW.pure F5).pure F6⟩
            · have HX : Hid (R = ([], 2)) := HR2.out.2 (fun h => he h.2)
              have h1 : ((bL (txtS (plT l))).toList == (bL v).toList) = false := by rw [bL_tl, bL_tl, beq_eq_false_iff_ne]; exact he
              generalize txtS (plT l) = S at *
              clear he
              go_wp2_with fail
              go_ret2
              exact ⟨.slice none 0 0, [], by rw [HX.out]; rfl, SlT.nil _ _, by rw [HX.out]; rfl, (FW.pure F5).pure F6⟩
          · have HX : Hid (R = ([], 2)) := HR2.out.2 (fun h => hc h.1)
            have hne : (chkT (plT l) == 0) = false := by rw [beq_eq_false_iff_ne]; exact hc
            have hne2 : (chkT (plT l) != 0) = true := by rw [bne, hne]; rfl
            generalize chkT (plT l) = C at *
            clear hc
            go_wp2_with fail
            go_ret2
            exact ⟨.slice none 0 0, [], by rw [HX.out]; rfl, SlT.nil _ _, by rw [HX.out]; rfl, FW.pure F5⟩
end Go.Proofs.YtonhhnedfjonoaaGreatDoor

/- Walk: the example of the ledger's chapter (sane). -/
namespace Go.Proofs.YtonhhnedfjonoaaGreatDoor
open Go.RowKit

def v0 : List UInt8 := [50, 32, 49, 32, 53, 32, 112, 51, 44, 49, 48, 44, 45]
def t0 : Txn := ⟨2, 1, 5, [⟨2, 3, 10, 0, nat, nat, 0, 0, 0, []⟩]⟩
theorem t0_chk : chkT [t0] = 0 := by decide +kernel
theorem t0_txt : txtS [t0] = v0 := by decide +kernel
theorem v0_rd : rdS v0 = ([t0], 0) := by
  rw [← t0_txt]
  exact rdS_txt t0_chk (by rw [t0_txt]; decide)
theorem t0_fm : fmS [t0] = (v0, 0) := by
  unfold fmS
  rw [t0_chk, t0_txt, if_neg (by simp), if_neg (by decide)]
set_option maxRecDepth 100000 in
set_option maxHeartbeats 1000000 in
theorem sane40_any (w : World) (hE : Errs w) (hM : Mxl w) (hT : Tab w) (hmx : 1 < w.heap.size) : Calls Tryz.prog 13 #[] w fun e w' => e = .returned (.bool true) ∧ Fr none w w' := by
  have HT := Lib.hid hT
  clear hT
  go_enter Tryz.func13, Tryz.ntmps13
  go_wp2_with fail
  refine (pparse_any v0 w hE hM HT.out (by decide) hmx).mono ?_
  rw [v0_rd]
  rintro e w1 ⟨va, l, rfl, hS, hP, F1⟩
  dsimp only at hP
  have HP := Lib.hid hP
  obtain ⟨x, rfl⟩ : ∃ x, l = [x] := by
    have h1 := congrArg List.length hP
    unfold plT at h1
    rw [List.length_map] at h1
    match l, h1 with
    | [x], _ => exact ⟨x, rfl⟩
  have hx : x.src = 2 := by
    have h2 : [x.pl] = [t0] := hP
    injection h2 with h2
    have := congrArg Txn.src h2
    exact this
  have HX := Lib.hid hx
  have HS := Lib.hid hS
  obtain ⟨A, c, hvv, q1, q2, hc⟩ := txR_open hS.1
  subst hvv
  have HT1 := Lib.hid (HT.out.fr F1)
  clear hP hx hS hE hM HT
  obtain ⟨b, off, rfl, hb, _, hcc⟩ := hc (by simp)
  obtain ⟨d0, _, _, _⟩ := hcc 0 (by simp)
  simp only [List.getElem_cons_zero] at d0
  rw [HX.out] at d0
  simp only [Nat.zero_mul, Nat.add_zero] at d0
  clear hc hcc
  simp only [List.length_cons, List.length_nil] at q1 HS ⊢
  go_wp2_with fail
  refine (pform_any [x] _ w1 HS.out HT1.out).mono ?_
  rw [HP.out, t0_fm]
  rintro e w2 ⟨rfl, F2⟩
  have d0 := F2.keep d0 (by simp)
  have hs : ((bL v0).toList == [50, 32, 49, 32, 53, 32, 112, 51, 44, 49, 48, 44, 45]) = true := by rw [bL_tl]; rfl
  go_wp2_with fail
  refine (pchk_any [x] _ w2 (HS.out.fr F2)).mono ?_
  rw [HP.out, t0_chk]
  rintro e w3 ⟨rfl, F3⟩
  go_wp2_with fail
  go_ret
  exact ⟨rfl, (F1.pure F2).pure F3⟩
end Go.Proofs.YtonhhnedfjonoaaGreatDoor

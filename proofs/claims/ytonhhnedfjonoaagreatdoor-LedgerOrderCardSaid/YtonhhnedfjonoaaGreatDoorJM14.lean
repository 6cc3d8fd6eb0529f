/- Some texts of this claim, joined: contracts of the functions that it reaches, and plain laws. -/
import Derived.Test.YtonhhnedfjonoaaGreatDoorJM11

set_option linter.unusedSimpArgs false
set_option linter.unusedVariables false
/- Walk: ledger.plain at kind 3 (printed by gen_pl.py). -/
namespace Go.Proofs.YtonhhnedfjonoaaGreatDoor
open Go.RowKit

set_option maxRecDepth 100000 in
set_option maxHeartbeats 8000000 in
theorem pplain3_any (x : OpX) (w : World) (hx : OpD w none x) (k3 : x.o.kind = 3) : Calls Tryz.prog 93 #[opV x.o x.v] w fun e w' => e = .returned (plV x) ∧ Fr none w w' := by
  have K0 := Lib.hid k3
  clear k3
  obtain ⟨o, PA, pc⟩ := x
  dsimp only [OpX.v] at *
  have hx : SlR astR w none (.slice PA o.path.length pc) o.path := hx
  generalize hpv : o.path.length = pn at *
  have HPV := Lib.hid hpv
  clear hpv
  unfold opV
  simp only [opL]
  go_enter Tryz.func93, Tryz.ntmps93
  go_upto_region 1 with (fail)
  obtain ⟨B, hB⟩ : ∃ B, B = w.heap.size := ⟨_, rfl⟩
  rw [← hB]
  generalize hWa : w.alloc _ = wa
  have F1 : Fr none w wa := hWa ▸ (Fr.refl none w).alloc _
  have b1 : OpB wa B o (.slice PA pn pc) := by rw [← hWa, hB]; exact blk_new _ _
  have sa : B + 1 = wa.heap.size := by rw [← hWa, hB]; exact (Array.size_push _).symm
  clear hWa
  generalize hWb : wa.alloc _ = w1
  have F2 : Fr none wa w1 := hWb ▸ (Fr.refl none wa).alloc _
  have b2 : OpB w1 (B + 1) op0 (.slice none 0 0) := by rw [← hWb, sa]; exact blk_new _ _
  have b1 := b1.fr F2 (by simp)
  have sb : B + 2 = w1.heap.size := by rw [← hWb]; simp only [World.size_alloc]; omega
  have hBw : w.heap.size ≤ B := Nat.le_of_eq hB.symm
  clear hWb hB sa
  have SB := Lib.hid sb
  clear sb
  have z0 := OpB.free b1 0
  have z1 := OpB.free b1 1
  have e0 : World.cell? w1 ⟨B, 0, none⟩ = _ := OpB.cell b1 0
  have e1 : World.cell? w1 ⟨B, 1, none⟩ = _ := OpB.cell b1 1
  have e2 : World.cell? w1 ⟨B, 2, none⟩ = _ := OpB.cell b1 2
  have e3 : World.cell? w1 ⟨B, 3, none⟩ = _ := OpB.cell b1 3
  have e4 : World.cell? w1 ⟨B, 4, none⟩ = _ := OpB.cell b1 4
  have e5 : World.cell? w1 ⟨B, 5, none⟩ = _ := OpB.cell b1 5
  have e6 : World.cell? w1 ⟨B, 6, none⟩ = _ := OpB.cell b1 6
  have e7 : World.cell? w1 ⟨B, 7, none⟩ = _ := OpB.cell b1 7
  have e8 : World.cell? w1 ⟨B, 8, none⟩ = _ := OpB.cell b1 8
  have e9 : World.cell? w1 ⟨B, 9, none⟩ = _ := OpB.cell b1 9
  have e10 : World.cell? w1 ⟨B, 10, none⟩ = _ := OpB.cell b1 10
  have e11 : World.cell? w1 ⟨B, 11, none⟩ = _ := OpB.cell b1 11
  have el := OpB.lt b1
  simp only [opL, List.getElem?_cons_zero, List.getElem?_cons_succ] at e0 e1 e2 e3 e4 e5 e6 e7 e8 e9 e10 e11
  go_upto_region 2 with (fail)
  obtain ⟨C, hC⟩ : ∃ C, C = w1.heap.size := ⟨_, rfl⟩
  rw [← hC]
  generalize hWc : w1.alloc _ = w2
  have F3 : Fr none w1 w2 := hWc ▸ (Fr.refl none w1).alloc _
  have b3 : OpB w2 C ⟨o.kind, 0, o.amt, 0, nat, nat, 0, 0, 0, []⟩ (.slice none 0 0) := by rw [← hWc, hC]; exact blk_new _ _
  have hCB : B + 1 < C := by rw [hC]; have := SB.out; omega
  have b1 := b1.fr F3 (by simp)
  have hR := b2.fr F3 (by simp)
  have FF : Fr none w w2 := (F1.pure F2).pure F3
  have hBR : w.heap.size ≤ B + 1 := by omega
  have hCw : w.heap.size ≤ C := by omega
  have n1 : some C ≠ some B := fun e => by have := Option.some.inj e; omega
  have n2 : some C ≠ some (B + 1) := fun e => by have := Option.some.inj e; omega
  clear hWc hC z0 z1 e0 e1 e2 e3 e4 e5 e6 e7 e8 e9 e10 e11 el SB F1 F2 F3 b2
  have z0 := OpB.free b1 0
  have z1 := OpB.free b1 1
  have e0 : World.cell? w2 ⟨B, 0, none⟩ = _ := OpB.cell b1 0
  have e1 : World.cell? w2 ⟨B, 1, none⟩ = _ := OpB.cell b1 1
  have e2 : World.cell? w2 ⟨B, 2, none⟩ = _ := OpB.cell b1 2
  have e3 : World.cell? w2 ⟨B, 3, none⟩ = _ := OpB.cell b1 3
  have e4 : World.cell? w2 ⟨B, 4, none⟩ = _ := OpB.cell b1 4
  have e5 : World.cell? w2 ⟨B, 5, none⟩ = _ := OpB.cell b1 5
  have e6 : World.cell? w2 ⟨B, 6, none⟩ = _ := OpB.cell b1 6
  have e7 : World.cell? w2 ⟨B, 7, none⟩ = _ := OpB.cell b1 7
  have e8 : World.cell? w2 ⟨B, 8, none⟩ = _ := OpB.cell b1 8
  have e9 : World.cell? w2 ⟨B, 9, none⟩ = _ := OpB.cell b1 9
  have e10 : World.cell? w2 ⟨B, 10, none⟩ = _ := OpB.cell b1 10
  have e11 : World.cell? w2 ⟨B, 11, none⟩ = _ := OpB.cell b1 11
  have el := OpB.lt b1
  simp only [opL, List.getElem?_cons_zero, List.getElem?_cons_succ] at e0 e1 e2 e3 e4 e5 e6 e7 e8 e9 e10 e11
  go_wp2_with fail
  refine (among_any o.to_ 1 1000 w2).mono ?_
  rintro e w3 ⟨rfl, rfl⟩
  have hl := b3.lt
  have k3 := K0.out
  try dsimp only at k3
  have kk : (o.kind == 3) = true := by rw [beq_iff_eq]; exact k3
  have KK := Lib.hid k3
  have kk1 : (o.kind == 1) = false := by rw [beq_eq_false_iff_ne]; omega
  have kk2 : (o.kind == 2) = false := by rw [beq_eq_false_iff_ne]; omega
  clear k3
  go_upto_region 11 with (fail)
  have hzz := b3.frees
  obtain ⟨q0, q1, q2, q3, q4, q5, q6, q7, q8, q9, q10, q11⟩ := b3.cells
  dsimp only at q0 q1 q2 q3 q4 q5 q6 q7 q8 q9 q10 q11
  obtain ⟨d0, d1, d2, d3, d4, d5, d6, d7, d8, d9, d10, d11⟩ := b1.cells
  go_upto_region 12 with (fail)
  generalize hW : World.setCell _ _ _ = w4
  have hb := OpB.ast b3 o.ast
  rw [hW] at hb
  dsimp only at hb
  have G : Fr (some C) w3 w4 := hW ▸ (Fr.set1 w3 ⟨C, 4, none⟩ (.string (bL o.ast.code))).setRow (p := ⟨C, 5, none⟩) rfl (.int .i64 o.ast.iss)
  clear hW hzz q0 q1 q2 q3 q4 q5 q6 q7 q8 q9 q10 q11 d0 d1 d2 d3 d4 d5 d6 d7 d8 d9 d10 d11
  have b1 := b1.fr G n1
  have hR := hR.fr G n2
  have FF := FF.new G hCw
  refine wp_region_fxM (fun _ => True) (phS [fun W => Fr none w4 W, fun W => OpB W (B + 1) ⟨o.kind, 0, o.amt, 0, o.ast, nat, 0, 0, 0, []⟩ (.slice none 0 0) ∧ Fr (some (B + 1)) w4 W]) [15] [0, 2, 3, 6, 7, 11, 12] 165 [some 3, none, some 67, some 66, some 65, some 64, some 63, some 62, some 61, some 60, some 59, some 58, some 57, some 56, some 55, some 54, some 53] (by kernel_rfl) (by kernel_rfl) (by kernel_rfl) (Nat.le_refl _) (show (fun W => Fr none w4 W) _ from (Fr.refl _ _).drew) (fun _ _ _ _ => trivial) ?_
  refine FxM.load (v := ?_) rfl (by kernel_rfl) (fun ev w (hS : (fun W => Fr none w4 W) w) E => ?_) ?_; rotate_left
  · obtain ⟨c0, c1, c2, c3, c4, c5, c6, c7, c8, c9, c10, c11⟩ := (hb.fr hS (by simp)).cells
    obtain ⟨d0, d1, d2, d3, d4, d5, d6, d7, d8, d9, d10, d11⟩ := (b1.fr hS (by simp)).cells
    dsimp only at c0 c1 c2 c3 c4 c5 c6 c7 c8 c9 c10 c11
    obtain ⟨t4, ec, ef, eg⟩ := E.get [] [4] (by kernel_rfl); clear E; go_simp; try with_reducible rfl
  refine FxM.pure (v := ?_) rfl rfl (fun ev w _ E => ?_) ?_; rotate_left
  · obtain ⟨t1, ec, ef, eg⟩ := E.get [] [1] (by kernel_rfl); clear E; go_simp; try with_reducible rfl
  refine FxM.load (v := ?_) rfl (by kernel_rfl) (fun ev w (hS : (fun W => Fr none w4 W) w) E => ?_) ?_; rotate_left
  · obtain ⟨c0, c1, c2, c3, c4, c5, c6, c7, c8, c9, c10, c11⟩ := (hb.fr hS (by simp)).cells
    obtain ⟨d0, d1, d2, d3, d4, d5, d6, d7, d8, d9, d10, d11⟩ := (b1.fr hS (by simp)).cells
    dsimp only at c0 c1 c2 c3 c4 c5 c6 c7 c8 c9 c10 c11
    obtain ⟨t54, ec, ef, eg⟩ := E.get [(0, 1, 54)] [] (by kernel_rfl); clear E; simp only [nthV] at t54; go_simp; try with_reducible rfl
  refine FxM.call (v := ?_) (f := ?_) (args := ?_) rfl (by kernel_rfl) (fun ev w (hS : (fun W => Fr none w4 W) w) E => ?_) (fun w (hS : (fun W => Fr none w4 W) w) => ?_) ?_; rotate_left 3
  · obtain ⟨c0, c1, c2, c3, c4, c5, c6, c7, c8, c9, c10, c11⟩ := (hb.fr hS (by simp)).cells
    obtain ⟨d0, d1, d2, d3, d4, d5, d6, d7, d8, d9, d10, d11⟩ := (b1.fr hS (by simp)).cells
    dsimp only at c0 c1 c2 c3 c4 c5 c6 c7 c8 c9 c10 c11
    obtain ⟨t55, ec, ef, eg⟩ := E.get [(0, 2, 55)] [] (by kernel_rfl); clear E; simp only [nthV] at t55; go_simp; first | (refine And.intro ?_ ?_ <;> with_reducible rfl) | with_reducible rfl
  · obtain ⟨c0, c1, c2, c3, c4, c5, c6, c7, c8, c9, c10, c11⟩ := (hb.fr hS (by simp)).cells
    obtain ⟨d0, d1, d2, d3, d4, d5, d6, d7, d8, d9, d10, d11⟩ := (b1.fr hS (by simp)).cells
    dsimp only at c0 c1 c2 c3 c4 c5 c6 c7 c8 c9 c10 c11
    refine (pval_any _ w).mono ?_
    rintro e w2 ⟨rfl, rfl⟩
    refine ⟨?_, hS⟩; with_reducible rfl
  refine FxM.pure (v := ?_) rfl rfl (fun ev w _ E => ?_) ?_; rotate_left
  · obtain ⟨t56, ec, ef, eg⟩ := E.get [(0, 3, 56)] [] (by kernel_rfl); clear E; simp only [nthV] at t56; go_simp; try with_reducible rfl
  cases hv0 : vAmt o.amt with
  | true =>
    refine FxM.gpure (v := ?_) rfl 0 rfl rfl rfl (fun ev w _ E => ?_) ?_; rotate_left
    · obtain ⟨t1, ec, ef, eg⟩ := E.get [] [1] (by kernel_rfl); clear E; go_simp; try with_reducible rfl
    refine FxM.gload (v := ?_) rfl 1 rfl rfl (by kernel_rfl) (fun ev w (hS : (fun W => Fr none w4 W) w) E => ?_) ?_; rotate_left
    · obtain ⟨c0, c1, c2, c3, c4, c5, c6, c7, c8, c9, c10, c11⟩ := (hb.fr hS (by simp)).cells
      obtain ⟨d0, d1, d2, d3, d4, d5, d6, d7, d8, d9, d10, d11⟩ := (b1.fr hS (by simp)).cells
      dsimp only at c0 c1 c2 c3 c4 c5 c6 c7 c8 c9 c10 c11
      obtain ⟨t58, ec, ef, eg⟩ := E.get [(0, 5, 58)] [] (by kernel_rfl); clear E; simp only [nthV] at t58; go_simp; try with_reducible rfl
    refine FxM.gcall (v := ?_) (f := ?_) (args := ?_) rfl 2 rfl rfl (by kernel_rfl) (fun ev w (hS : (fun W => Fr none w4 W) w) E => ?_) (fun w (hS : (fun W => Fr none w4 W) w) => ?_) ?_; rotate_left 3
    · obtain ⟨c0, c1, c2, c3, c4, c5, c6, c7, c8, c9, c10, c11⟩ := (hb.fr hS (by simp)).cells
      obtain ⟨d0, d1, d2, d3, d4, d5, d6, d7, d8, d9, d10, d11⟩ := (b1.fr hS (by simp)).cells
      dsimp only at c0 c1 c2 c3 c4 c5 c6 c7 c8 c9 c10 c11
      obtain ⟨t59, ec, ef, eg⟩ := E.get [(0, 6, 59)] [] (by kernel_rfl); clear E; simp only [nthV] at t59; go_simp; first | (refine And.intro ?_ ?_ <;> with_reducible rfl) | with_reducible rfl
    · obtain ⟨c0, c1, c2, c3, c4, c5, c6, c7, c8, c9, c10, c11⟩ := (hb.fr hS (by simp)).cells
      obtain ⟨d0, d1, d2, d3, d4, d5, d6, d7, d8, d9, d10, d11⟩ := (b1.fr hS (by simp)).cells
      dsimp only at c0 c1 c2 c3 c4 c5 c6 c7 c8 c9 c10 c11
      refine (pvast_any o.ast w).mono ?_
      rintro e w2 ⟨rfl, F2⟩
      refine ⟨?_, hS.pure F2⟩; with_reducible rfl
    refine FxM.pure (v := ?_) rfl rfl (fun ev w _ E => ?_) ?_; rotate_left
    · obtain ⟨t57, t60, ec, ef, eg⟩ := E.get [(3, 4, 57), (0, 7, 60)] [] (by kernel_rfl); clear E; simp only [nthV] at t57 t60; go_simp; try with_reducible rfl
    refine FxM.pure (v := ?_) rfl rfl (fun ev w _ E => ?_) ?_; rotate_left
    · obtain ⟨t61, ec, ef, eg⟩ := E.get [(0, 8, 61)] [] (by kernel_rfl); clear E; simp only [nthV] at t61; go_simp; try with_reducible rfl
    cases hv1 : vAst o.ast with
    | true =>
      refine FxM.gpure (v := ?_) rfl 0 rfl rfl rfl (fun ev w _ E => ?_) ?_; rotate_left
      · obtain ⟨t1, ec, ef, eg⟩ := E.get [] [1] (by kernel_rfl); clear E; go_simp; try with_reducible rfl
      refine FxM.gload (v := ?_) rfl 1 rfl rfl (by kernel_rfl) (fun ev w (hS : (fun W => Fr none w4 W) w) E => ?_) ?_; rotate_left
      · obtain ⟨c0, c1, c2, c3, c4, c5, c6, c7, c8, c9, c10, c11⟩ := (hb.fr hS (by simp)).cells
        obtain ⟨d0, d1, d2, d3, d4, d5, d6, d7, d8, d9, d10, d11⟩ := (b1.fr hS (by simp)).cells
        dsimp only at c0 c1 c2 c3 c4 c5 c6 c7 c8 c9 c10 c11
        obtain ⟨t63, ec, ef, eg⟩ := E.get [(0, 10, 63)] [] (by kernel_rfl); clear E; simp only [nthV] at t63; go_simp; try with_reducible rfl
      refine FxM.gcall (v := ?_) (f := ?_) (args := ?_) rfl 2 rfl rfl (by kernel_rfl) (fun ev w (hS : (fun W => Fr none w4 W) w) E => ?_) (fun w (hS : (fun W => Fr none w4 W) w) => ?_) ?_; rotate_left 3
      · obtain ⟨c0, c1, c2, c3, c4, c5, c6, c7, c8, c9, c10, c11⟩ := (hb.fr hS (by simp)).cells
        obtain ⟨d0, d1, d2, d3, d4, d5, d6, d7, d8, d9, d10, d11⟩ := (b1.fr hS (by simp)).cells
        dsimp only at c0 c1 c2 c3 c4 c5 c6 c7 c8 c9 c10 c11
        obtain ⟨t64, ec, ef, eg⟩ := E.get [(0, 11, 64)] [] (by kernel_rfl); clear E; simp only [nthV] at t64; go_simp; first | (refine And.intro ?_ ?_ <;> with_reducible rfl) | with_reducible rfl
      · obtain ⟨c0, c1, c2, c3, c4, c5, c6, c7, c8, c9, c10, c11⟩ := (hb.fr hS (by simp)).cells
        obtain ⟨d0, d1, d2, d3, d4, d5, d6, d7, d8, d9, d10, d11⟩ := (b1.fr hS (by simp)).cells
        dsimp only at c0 c1 c2 c3 c4 c5 c6 c7 c8 c9 c10 c11
        refine (pnat_any o.ast w).mono ?_
        rintro e w2 ⟨rfl, F2⟩
        refine ⟨?_, hS.pure F2⟩; with_reducible rfl
      refine FxM.gpure (v := ?_) rfl 3 rfl rfl rfl (fun ev w _ E => ?_) ?_; rotate_left
      · obtain ⟨t65, ec, ef, eg⟩ := E.get [(0, 12, 65)] [] (by kernel_rfl); clear E; simp only [nthV] at t65; go_simp; try with_reducible rfl
      refine FxM.pure (v := ?_) rfl rfl (fun ev w _ E => ?_) ?_; rotate_left
      · obtain ⟨t62, t66, ec, ef, eg⟩ := E.get [(4, 9, 62), (0, 13, 66)] [] (by kernel_rfl); clear E; simp only [nthV] at t62 t66; go_simp; try with_reducible rfl
      refine FxM.store 0 rfl rfl (fun ev w (hS : (fun W => Fr none w4 W) w) E => ?_) ?_
      · obtain ⟨t53, t2, ec, ef, eg⟩ := E.get [(14, 0, 53)] [2] (by kernel_rfl); clear E; simp only [nthV] at t53
        have hz := (hR.fr hS (by simp)).frees
        obtain ⟨c0, c1, c2, c3, c4, c5, c6, c7, c8, c9, c10, c11⟩ := (hR.fr hS (by simp)).cells
        refine ⟨?_, ?_, ?_⟩
        rotate_left
        · go_simp; try with_reducible rfl
        · exact plst hR hS ⟨o.kind, 0, o.amt, 0, o.ast, nat, 0, 0, 0, []⟩ (.slice none 0 0) _ rfl
      refine FxM.pure (v := ?_) rfl rfl (fun ev w _ E => ?_) ?_; rotate_left
      · obtain ⟨t67, ec, ef, eg⟩ := E.get [(1, 14, 67)] [] (by kernel_rfl); clear E; simp only [nthV] at t67; go_simp; try with_reducible rfl
      refine FxM.done (fun W (hW : (fun W => OpB W (B + 1) ⟨o.kind, 0, o.amt, 0, o.ast, nat, 0, 0, 0, []⟩ (.slice none 0 0) ∧ Fr (some (B + 1)) w4 W) W) => ?_)
      simp only [fillZ]
      try simp only [Act.put, List.setIfInBounds_toArray, List.set_cons_zero, List.set_cons_succ, List.getElem_toArray, List.getElem_cons_zero, List.getElem_cons_succ]
      have hRW : OpB W (B + 1) _ _ := hW.1
      have z0 := OpB.free hRW 0
      have z1 := OpB.free hRW 1
      have z2 := OpB.free hRW 2
      have z3 := OpB.free hRW 3
      have z4 := OpB.free hRW 4
      have z5 := OpB.free hRW 5
      have z6 := OpB.free hRW 6
      have z7 := OpB.free hRW 7
      have z8 := OpB.free hRW 8
      have z9 := OpB.free hRW 9
      have z10 := OpB.free hRW 10
      have z11 := OpB.free hRW 11
      obtain ⟨e0, e1, e2, e3, e4, e5, e6, e7, e8, e9, e10, e11⟩ := hRW.cells
      have el := OpB.lt hRW
      try simp only [op0] at e0 e1 e2 e3 e4 e5 e6 e7 e8 e9 e10 e11
      try dsimp only at e0 e1 e2 e3 e4 e5 e6 e7 e8 e9 e10 e11
      go_wp2_with fail
      refine bodyPost_ret (v := .tuple #[opV ⟨o.kind, 0, o.amt, 0, o.ast, nat, 0, 0, 0, []⟩ (.slice none 0 0), .bool ((!decide (o.ast = nat)))]) (by simp [results, Tryz.results93, go_sem, opV, opL, e0, e1, e2, e3, e4, e5, e6, e7, e8, e9, e10, e11]) rfl ?_
      refine ⟨?_, FF.new hW.2 hBR⟩
      rw [plV_3 _ KK.out]
      all_goals (try simp only [hv0, hv1, Bool.true_and, Bool.false_and, Bool.and_true, Bool.and_false])
      all_goals (try rfl)
    | false =>
      refine FxM.skip rfl 0 rfl (by simp only [nthV]; intro h; cases h) rfl ?_
      refine FxM.skip rfl 1 rfl (by simp only [nthV]; intro h; cases h) rfl ?_
      refine FxM.skip rfl 2 rfl (by simp only [nthV]; intro h; cases h) rfl ?_
      refine FxM.skip rfl 3 rfl (by simp only [nthV]; intro h; cases h) rfl ?_
      refine FxM.pure (v := ?_) rfl rfl (fun ev w _ E => ?_) ?_; rotate_left
      · obtain ⟨t62, t66, ec, ef, eg⟩ := E.get [(4, 9, 62), (0, 13, 66)] [] (by kernel_rfl); clear E; simp only [nthV] at t62 t66; go_simp; try with_reducible rfl
      refine FxM.store 0 rfl rfl (fun ev w (hS : (fun W => Fr none w4 W) w) E => ?_) ?_
      · obtain ⟨t53, t2, ec, ef, eg⟩ := E.get [(14, 0, 53)] [2] (by kernel_rfl); clear E; simp only [nthV] at t53
        have hz := (hR.fr hS (by simp)).frees
        obtain ⟨c0, c1, c2, c3, c4, c5, c6, c7, c8, c9, c10, c11⟩ := (hR.fr hS (by simp)).cells
        refine ⟨?_, ?_, ?_⟩
        rotate_left
        · go_simp; try with_reducible rfl
        · exact plst hR hS ⟨o.kind, 0, o.amt, 0, o.ast, nat, 0, 0, 0, []⟩ (.slice none 0 0) _ rfl
      refine FxM.pure (v := ?_) rfl rfl (fun ev w _ E => ?_) ?_; rotate_left
      · obtain ⟨t67, ec, ef, eg⟩ := E.get [(1, 14, 67)] [] (by kernel_rfl); clear E; simp only [nthV] at t67; go_simp; try with_reducible rfl
      refine FxM.done (fun W (hW : (fun W => OpB W (B + 1) ⟨o.kind, 0, o.amt, 0, o.ast, nat, 0, 0, 0, []⟩ (.slice none 0 0) ∧ Fr (some (B + 1)) w4 W) W) => ?_)
      simp only [fillZ]
      try simp only [Act.put, List.setIfInBounds_toArray, List.set_cons_zero, List.set_cons_succ, List.getElem_toArray, List.getElem_cons_zero, List.getElem_cons_succ]
      have hRW : OpB W (B + 1) _ _ := hW.1
      have z0 := OpB.free hRW 0
      have z1 := OpB.free hRW 1
      have z2 := OpB.free hRW 2
      have z3 := OpB.free hRW 3
      have z4 := OpB.free hRW 4
      have z5 := OpB.free hRW 5
      have z6 := OpB.free hRW 6
      have z7 := OpB.free hRW 7
      have z8 := OpB.free hRW 8
      have z9 := OpB.free hRW 9
      have z10 := OpB.free hRW 10
      have z11 := OpB.free hRW 11
      obtain ⟨e0, e1, e2, e3, e4, e5, e6, e7, e8, e9, e10, e11⟩ := hRW.cells
      have el := OpB.lt hRW
      try simp only [op0] at e0 e1 e2 e3 e4 e5 e6 e7 e8 e9 e10 e11
      try dsimp only at e0 e1 e2 e3 e4 e5 e6 e7 e8 e9 e10 e11
      go_wp2_with fail
      refine bodyPost_ret (v := .tuple #[opV ⟨o.kind, 0, o.amt, 0, o.ast, nat, 0, 0, 0, []⟩ (.slice none 0 0), .bool (false)]) (by simp [results, Tryz.results93, go_sem, opV, opL, e0, e1, e2, e3, e4, e5, e6, e7, e8, e9, e10, e11]) rfl ?_
      refine ⟨?_, FF.new hW.2 hBR⟩
      rw [plV_3 _ KK.out]
      all_goals (try simp only [hv0, hv1, Bool.true_and, Bool.false_and, Bool.and_true, Bool.and_false])
      all_goals (try rfl)
  | false =>
    refine FxM.skip rfl 0 rfl (by simp only [nthV]; intro h; cases h) rfl ?_
    refine FxM.skip rfl 1 rfl (by simp only [nthV]; intro h; cases h) rfl ?_
    refine FxM.skip rfl 2 rfl (by simp only [nthV]; intro h; cases h) rfl ?_
    refine FxM.pure (v := ?_) rfl rfl (fun ev w _ E => ?_) ?_; rotate_left
    · obtain ⟨t57, t60, ec, ef, eg⟩ := E.get [(3, 4, 57), (0, 7, 60)] [] (by kernel_rfl); clear E; simp only [nthV] at t57 t60; go_simp; try with_reducible rfl
    refine FxM.pure (v := ?_) rfl rfl (fun ev w _ E => ?_) ?_; rotate_left
    · obtain ⟨t61, ec, ef, eg⟩ := E.get [(0, 8, 61)] [] (by kernel_rfl); clear E; simp only [nthV] at t61; go_simp; try with_reducible rfl
    refine FxM.skip rfl 0 rfl (by simp only [nthV]; intro h; cases h) rfl ?_
    refine FxM.skip rfl 1 rfl (by simp only [nthV]; intro h; cases h) rfl ?_
    refine FxM.skip rfl 2 rfl (by simp only [nthV]; intro h; cases h) rfl ?_
    refine FxM.skip rfl 3 rfl (by simp only [nthV]; intro h; cases h) rfl ?_
    refine FxM.pure (v := ?_) rfl rfl (fun ev w _ E => ?_) ?_; rotate_left
    · obtain ⟨t62, t66, ec, ef, eg⟩ := E.get [(4, 9, 62), (0, 13, 66)] [] (by kernel_rfl); clear E; simp only [nthV] at t62 t66; go_simp; try with_reducible rfl
    refine FxM.store 0 rfl rfl (fun ev w (hS : (fun W => Fr none w4 W) w) E => ?_) ?_
    · obtain ⟨t53, t2, ec, ef, eg⟩ := E.get [(14, 0, 53)] [2] (by kernel_rfl); clear E; simp only [nthV] at t53
      have hz := (hR.fr hS (by simp)).frees
      obtain ⟨c0, c1, c2, c3, c4, c5, c6, c7, c8, c9, c10, c11⟩ := (hR.fr hS (by simp)).cells
      refine ⟨?_, ?_, ?_⟩
      rotate_left
      · go_simp; try with_reducible rfl
      · exact plst hR hS ⟨o.kind, 0, o.amt, 0, o.ast, nat, 0, 0, 0, []⟩ (.slice none 0 0) _ rfl
    refine FxM.pure (v := ?_) rfl rfl (fun ev w _ E => ?_) ?_; rotate_left
    · obtain ⟨t67, ec, ef, eg⟩ := E.get [(1, 14, 67)] [] (by kernel_rfl); clear E; simp only [nthV] at t67; go_simp; try with_reducible rfl
    refine FxM.done (fun W (hW : (fun W => OpB W (B + 1) ⟨o.kind, 0, o.amt, 0, o.ast, nat, 0, 0, 0, []⟩ (.slice none 0 0) ∧ Fr (some (B + 1)) w4 W) W) => ?_)
    simp only [fillZ]
    try simp only [Act.put, List.setIfInBounds_toArray, List.set_cons_zero, List.set_cons_succ, List.getElem_toArray, List.getElem_cons_zero, List.getElem_cons_succ]
    have hRW : OpB W (B + 1) _ _ := hW.1
    have z0 := OpB.free hRW 0
    have z1 := OpB.free hRW 1
    have z2 := OpB.free hRW 2
    have z3 := OpB.free hRW 3
    have z4 := OpB.free hRW 4
    have z5 := OpB.free hRW 5
    have z6 := OpB.free hRW 6
    have z7 := OpB.free hRW 7
    have z8 := OpB.free hRW 8
    have z9 := OpB.free hRW 9
    have z10 := OpB.free hRW 10
    have z11 := OpB.free hRW 11
    obtain ⟨e0, e1, e2, e3, e4, e5, e6, e7, e8, e9, e10, e11⟩ := hRW.cells
    have el := OpB.lt hRW
    try simp only [op0] at e0 e1 e2 e3 e4 e5 e6 e7 e8 e9 e10 e11
    try dsimp only at e0 e1 e2 e3 e4 e5 e6 e7 e8 e9 e10 e11
    go_wp2_with fail
    refine bodyPost_ret (v := .tuple #[opV ⟨o.kind, 0, o.amt, 0, o.ast, nat, 0, 0, 0, []⟩ (.slice none 0 0), .bool (false)]) (by simp [results, Tryz.results93, go_sem, opV, opL, e0, e1, e2, e3, e4, e5, e6, e7, e8, e9, e10, e11]) rfl ?_
    refine ⟨?_, FF.new hW.2 hBR⟩
    rw [plV_3 _ KK.out]
    all_goals (try simp only [hv0, Bool.true_and, Bool.false_and, Bool.and_true, Bool.and_false])
    all_goals (try rfl)
end Go.Proofs.YtonhhnedfjonoaaGreatDoor

/- Some texts of this claim, joined: contracts of the functions that it reaches, and plain laws. -/
import Derived.Test.YtonhhnedfjonoaaGreatDoorJM11

set_option linter.unusedSimpArgs false
set_option linter.unusedVariables false
/- Walk: ledger.plain at kind 4 (printed by gen_pl.py). -/
namespace Go.Proofs.YtonhhnedfjonoaaGreatDoor
open Go.RowKit

set_option maxRecDepth 100000 in
set_option maxHeartbeats 8000000 in
theorem pplain4_any (x : OpX) (w : World) (hx : OpD w none x) (k4 : x.o.kind = 4) : Calls Tryz.prog 93 #[opV x.o x.v] w fun e w' => e = .returned (plV x) ∧ Fr none w w' := by
  have K0 := Lib.hid k4
  clear k4
  obtain ⟨o, PA, pc⟩ := x
  dsimp only [OpX.v] at *
  have hx : SlR astR w none (.slice PA o.path.length pc) o.path := hx
  generalize hpv : o.path.length = pn at *
  have HPV := Lib.hid hpv
  clear hpv
  unfold opV
  simp only [opL]
  go_enter Tryz.func93, Tryz.ntmps93
  go_upto_region 1 with (fail)
  obtain ⟨B, hB⟩ : ∃ B, B = w.heap.size := ⟨_, rfl⟩
  rw [← hB]
  generalize hWa : w.alloc _ = wa
  have F1 : Fr none w wa := hWa ▸ (Fr.refl none w).alloc _
  have b1 : OpB wa B o (.slice PA pn pc) := by rw [← hWa, hB]; exact blk_new _ _
  have sa : B + 1 = wa.heap.size := by rw [← hWa, hB]; exact (Array.size_push _).symm
  clear hWa
  generalize hWb : wa.alloc _ = w1
  have F2 : Fr none wa w1 := hWb ▸ (Fr.refl none wa).alloc _
  have b2 : OpB w1 (B + 1) op0 (.slice none 0 0) := by rw [← hWb, sa]; exact blk_new _ _
  have b1 := b1.fr F2 (by simp)
  have sb : B + 2 = w1.heap.size := by rw [← hWb]; simp only [World.size_alloc]; omega
  have hBw : w.heap.size ≤ B := Nat.le_of_eq hB.symm
  clear hWb hB sa
  have SB := Lib.hid sb
  clear sb
  have z0 := OpB.free b1 0
  have z1 := OpB.free b1 1
  have e0 : World.cell? w1 ⟨B, 0, none⟩ = _ := OpB.cell b1 0
  have e1 : World.cell? w1 ⟨B, 1, none⟩ = _ := OpB.cell b1 1
  have e2 : World.cell? w1 ⟨B, 2, none⟩ = _ := OpB.cell b1 2
  have e3 : World.cell? w1 ⟨B, 3, none⟩ = _ := OpB.cell b1 3
  have e4 : World.cell? w1 ⟨B, 4, none⟩ = _ := OpB.cell b1 4
  have e5 : World.cell? w1 ⟨B, 5, none⟩ = _ := OpB.cell b1 5
  have e6 : World.cell? w1 ⟨B, 6, none⟩ = _ := OpB.cell b1 6
  have e7 : World.cell? w1 ⟨B, 7, none⟩ = _ := OpB.cell b1 7
  have e8 : World.cell? w1 ⟨B, 8, none⟩ = _ := OpB.cell b1 8
  have e9 : World.cell? w1 ⟨B, 9, none⟩ = _ := OpB.cell b1 9
  have e10 : World.cell? w1 ⟨B, 10, none⟩ = _ := OpB.cell b1 10
  have e11 : World.cell? w1 ⟨B, 11, none⟩ = _ := OpB.cell b1 11
  have el := OpB.lt b1
  simp only [opL, List.getElem?_cons_zero, List.getElem?_cons_succ] at e0 e1 e2 e3 e4 e5 e6 e7 e8 e9 e10 e11
  go_upto_region 2 with (fail)
  obtain ⟨C, hC⟩ : ∃ C, C = w1.heap.size := ⟨_, rfl⟩
  rw [← hC]
  generalize hWc : w1.alloc _ = w2
  have F3 : Fr none w1 w2 := hWc ▸ (Fr.refl none w1).alloc _
  have b3 : OpB w2 C ⟨o.kind, 0, o.amt, 0, nat, nat, 0, 0, 0, []⟩ (.slice none 0 0) := by rw [← hWc, hC]; exact blk_new _ _
  have hCB : B + 1 < C := by rw [hC]; have := SB.out; omega
  have b1 := b1.fr F3 (by simp)
  have hR := b2.fr F3 (by simp)
  have FF : Fr none w w2 := (F1.pure F2).pure F3
  have hBR : w.heap.size ≤ B + 1 := by omega
  have hCw : w.heap.size ≤ C := by omega
  have n1 : some C ≠ some B := fun e => by have := Option.some.inj e; omega
  have n2 : some C ≠ some (B + 1) := fun e => by have := Option.some.inj e; omega
  clear hWc hC z0 z1 e0 e1 e2 e3 e4 e5 e6 e7 e8 e9 e10 e11 el SB F1 F2 F3 b2
  have z0 := OpB.free b1 0
  have z1 := OpB.free b1 1
  have e0 : World.cell? w2 ⟨B, 0, none⟩ = _ := OpB.cell b1 0
  have e1 : World.cell? w2 ⟨B, 1, none⟩ = _ := OpB.cell b1 1
  have e2 : World.cell? w2 ⟨B, 2, none⟩ = _ := OpB.cell b1 2
  have e3 : World.cell? w2 ⟨B, 3, none⟩ = _ := OpB.cell b1 3
  have e4 : World.cell? w2 ⟨B, 4, none⟩ = _ := OpB.cell b1 4
  have e5 : World.cell? w2 ⟨B, 5, none⟩ = _ := OpB.cell b1 5
  have e6 : World.cell? w2 ⟨B, 6, none⟩ = _ := OpB.cell b1 6
  have e7 : World.cell? w2 ⟨B, 7, none⟩ = _ := OpB.cell b1 7
  have e8 : World.cell? w2 ⟨B, 8, none⟩ = _ := OpB.cell b1 8
  have e9 : World.cell? w2 ⟨B, 9, none⟩ = _ := OpB.cell b1 9
  have e10 : World.cell? w2 ⟨B, 10, none⟩ = _ := OpB.cell b1 10
  have e11 : World.cell? w2 ⟨B, 11, none⟩ = _ := OpB.cell b1 11
  have el := OpB.lt b1
  simp only [opL, List.getElem?_cons_zero, List.getElem?_cons_succ] at e0 e1 e2 e3 e4 e5 e6 e7 e8 e9 e10 e11
  go_wp2_with fail
  refine (among_any o.to_ 1 1000 w2).mono ?_
  rintro e w3 ⟨rfl, rfl⟩
  have hl := b3.lt
  have k4 := K0.out
  try dsimp only at k4
  have kk : (o.kind == 4) = true := by rw [beq_iff_eq]; exact k4
  have KK := Lib.hid k4
  have kk1 : (o.kind == 1) = false := by rw [beq_eq_false_iff_ne]; omega
  have kk2 : (o.kind == 2) = false := by rw [beq_eq_false_iff_ne]; omega
  have kk3 : (o.kind == 3) = false := by rw [beq_eq_false_iff_ne]; omega
  clear k4
  go_upto_region 14 with (fail)
  refine wp_region_fxM (fun W => Fr (some C) w3 W) (phS [fun W => Fr none w3 W, fun W => OpB W C ⟨o.kind, 0, o.amt, 0, o.ast, nat, 0, 0, 0, []⟩ (.slice none 0 0) ∧ Fr (some C) w3 W, fun W => OpB W C ⟨o.kind, 0, o.amt, 0, o.ast, o.oth, 0, 0, 0, []⟩ (.slice none 0 0) ∧ Fr (some C) w3 W, fun W => OpB W C ⟨o.kind, 0, o.amt, 0, o.ast, o.oth, o.num, 0, 0, []⟩ (.slice none 0 0) ∧ Fr (some C) w3 W, fun W => OpB W C ⟨o.kind, 0, o.amt, 0, o.ast, o.oth, o.num, o.den, 0, []⟩ (.slice none 0 0) ∧ Fr (some C) w3 W]) [9, 11, 13, 15] [] 165 [none, some 81, none, some 80, none, some 79, none, some 78, some 77, some 76, some 75, some 74, some 73, some 72, some 71, some 70] (by kernel_rfl) (by kernel_rfl) (by kernel_rfl) (Nat.le_refl _) (show (fun W => Fr none w3 W) _ from (Fr.refl _ _).drew) (fun p hp W hW => phG (l := [fun W => Fr none w3 W, fun W => OpB W C ⟨o.kind, 0, o.amt, 0, o.ast, nat, 0, 0, 0, []⟩ (.slice none 0 0) ∧ Fr (some C) w3 W, fun W => OpB W C ⟨o.kind, 0, o.amt, 0, o.ast, o.oth, 0, 0, 0, []⟩ (.slice none 0 0) ∧ Fr (some C) w3 W, fun W => OpB W C ⟨o.kind, 0, o.amt, 0, o.ast, o.oth, o.num, 0, 0, []⟩ (.slice none 0 0) ∧ Fr (some C) w3 W, fun W => OpB W C ⟨o.kind, 0, o.amt, 0, o.ast, o.oth, o.num, o.den, 0, []⟩ (.slice none 0 0) ∧ Fr (some C) w3 W]) (by intro s hs W h; simp only [List.mem_cons, List.not_mem_nil, or_false] at hs; rcases hs with rfl | rfl | rfl | rfl | rfl <;> (first | exact h.2 | exact h.mono)) p (Nat.lt_succ_of_le hp) W hW) ?_
  refine FxM.pure (v := ?_) rfl rfl (fun ev w _ E => ?_) ?_; rotate_left
  · obtain ⟨t1, ec, ef, eg⟩ := E.get [] [1] (by kernel_rfl); clear E; go_simp; try with_reducible rfl
  refine FxM.pure (v := ?_) rfl rfl (fun ev w (hS : (fun W => Fr (some C) w3 W) w) E => ?_) ?_; rotate_left
  · obtain ⟨c0, c1, c2, c3, c4, c5, c6, c7, c8, c9, c10, c11⟩ := (b1.fr hS n1).cells
    obtain ⟨t70, ec, ef, eg⟩ := E.get [(0, 0, 70)] [] (by kernel_rfl); clear E; simp only [nthV] at t70; go_simp; try with_reducible rfl
  refine FxM.pure (v := ?_) rfl rfl (fun ev w _ E => ?_) ?_; rotate_left
  · obtain ⟨t1, ec, ef, eg⟩ := E.get [] [1] (by kernel_rfl); clear E; go_simp; try with_reducible rfl
  refine FxM.pure (v := ?_) rfl rfl (fun ev w (hS : (fun W => Fr (some C) w3 W) w) E => ?_) ?_; rotate_left
  · obtain ⟨c0, c1, c2, c3, c4, c5, c6, c7, c8, c9, c10, c11⟩ := (b1.fr hS n1).cells
    obtain ⟨t72, ec, ef, eg⟩ := E.get [(0, 2, 72)] [] (by kernel_rfl); clear E; simp only [nthV] at t72; go_simp; try with_reducible rfl
  refine FxM.pure (v := ?_) rfl rfl (fun ev w _ E => ?_) ?_; rotate_left
  · obtain ⟨t1, ec, ef, eg⟩ := E.get [] [1] (by kernel_rfl); clear E; go_simp; try with_reducible rfl
  refine FxM.pure (v := ?_) rfl rfl (fun ev w (hS : (fun W => Fr (some C) w3 W) w) E => ?_) ?_; rotate_left
  · obtain ⟨c0, c1, c2, c3, c4, c5, c6, c7, c8, c9, c10, c11⟩ := (b1.fr hS n1).cells
    obtain ⟨t74, ec, ef, eg⟩ := E.get [(0, 4, 74)] [] (by kernel_rfl); clear E; simp only [nthV] at t74; go_simp; try with_reducible rfl
  refine FxM.pure (v := ?_) rfl rfl (fun ev w _ E => ?_) ?_; rotate_left
  · obtain ⟨t1, ec, ef, eg⟩ := E.get [] [1] (by kernel_rfl); clear E; go_simp; try with_reducible rfl
  refine FxM.pure (v := ?_) rfl rfl (fun ev w (hS : (fun W => Fr (some C) w3 W) w) E => ?_) ?_; rotate_left
  · obtain ⟨c0, c1, c2, c3, c4, c5, c6, c7, c8, c9, c10, c11⟩ := (b1.fr hS n1).cells
    obtain ⟨t76, ec, ef, eg⟩ := E.get [(0, 6, 76)] [] (by kernel_rfl); clear E; simp only [nthV] at t76; go_simp; try with_reducible rfl
  refine FxM.pure (v := ?_) rfl rfl (fun ev w _ E => ?_) ?_; rotate_left
  · obtain ⟨t4, ec, ef, eg⟩ := E.get [] [4] (by kernel_rfl); clear E; go_simp; try with_reducible rfl
  refine FxM.store 0 rfl rfl (fun ev w (hS : (fun W => Fr none w3 W) w) E => ?_) ?_
  · obtain ⟨t78, t71, ec, ef, eg⟩ := E.get [(0, 8, 78), (7, 1, 71)] [] (by kernel_rfl); clear E; simp only [nthV] at t78 t71
    have hB9 := b3.fr hS (by simp)
    have hz := hB9.frees
    obtain ⟨c0, c1, c2, c3, c4, c5, c6, c7, c8, c9, c10, c11⟩ := hB9.cells
    try dsimp only at c0 c1 c2 c3 c4 c5 c6 c7 c8 c9 c10 c11
    refine ⟨?_, ?_, ?_⟩
    rotate_left
    · go_simp; try with_reducible rfl
    · exact ⟨OpB.ast hB9 o.ast, ((hS.mono.setRow (p := ⟨C, 4, none⟩) rfl _).setRow (p := ⟨C, 5, none⟩) rfl _)⟩
  refine FxM.pure (v := ?_) rfl rfl (fun ev w _ E => ?_) ?_; rotate_left
  · obtain ⟨t4, ec, ef, eg⟩ := E.get [] [4] (by kernel_rfl); clear E; go_simp; try with_reducible rfl
  refine FxM.store 1 rfl rfl (fun ev w (hS : (fun W => OpB W C ⟨o.kind, 0, o.amt, 0, o.ast, nat, 0, 0, 0, []⟩ (.slice none 0 0) ∧ Fr (some C) w3 W) w) E => ?_) ?_
  · obtain ⟨t79, t73, ec, ef, eg⟩ := E.get [(0, 10, 79), (7, 3, 73)] [] (by kernel_rfl); clear E; simp only [nthV] at t79 t73
    have hB9 := hS.1
    have hz := hB9.frees
    obtain ⟨c0, c1, c2, c3, c4, c5, c6, c7, c8, c9, c10, c11⟩ := hB9.cells
    try dsimp only at c0 c1 c2 c3 c4 c5 c6 c7 c8 c9 c10 c11
    refine ⟨?_, ?_, ?_⟩
    rotate_left
    · go_simp; try with_reducible rfl
    · exact ⟨OpB.oth hB9 o.oth, ((hS.2.setRow (p := ⟨C, 6, none⟩) rfl _).setRow (p := ⟨C, 7, none⟩) rfl _)⟩
  refine FxM.pure (v := ?_) rfl rfl (fun ev w _ E => ?_) ?_; rotate_left
  · obtain ⟨t4, ec, ef, eg⟩ := E.get [] [4] (by kernel_rfl); clear E; go_simp; try with_reducible rfl
  refine FxM.store 2 rfl rfl (fun ev w (hS : (fun W => OpB W C ⟨o.kind, 0, o.amt, 0, o.ast, o.oth, 0, 0, 0, []⟩ (.slice none 0 0) ∧ Fr (some C) w3 W) w) E => ?_) ?_
  · obtain ⟨t80, t75, ec, ef, eg⟩ := E.get [(0, 12, 80), (7, 5, 75)] [] (by kernel_rfl); clear E; simp only [nthV] at t80 t75
    have hB9 := hS.1
    have hz := hB9.frees
    obtain ⟨c0, c1, c2, c3, c4, c5, c6, c7, c8, c9, c10, c11⟩ := hB9.cells
    try dsimp only at c0 c1 c2 c3 c4 c5 c6 c7 c8 c9 c10 c11
    refine ⟨?_, ?_, ?_⟩
    rotate_left
    · go_simp; try with_reducible rfl
    · exact ⟨OpB.num hB9 o.num, (hS.2.setRow (p := ⟨C, 8, none⟩) rfl _)⟩
  refine FxM.pure (v := ?_) rfl rfl (fun ev w _ E => ?_) ?_; rotate_left
  · obtain ⟨t4, ec, ef, eg⟩ := E.get [] [4] (by kernel_rfl); clear E; go_simp; try with_reducible rfl
  refine FxM.store 3 rfl rfl (fun ev w (hS : (fun W => OpB W C ⟨o.kind, 0, o.amt, 0, o.ast, o.oth, o.num, 0, 0, []⟩ (.slice none 0 0) ∧ Fr (some C) w3 W) w) E => ?_) ?_
  · obtain ⟨t81, t77, ec, ef, eg⟩ := E.get [(0, 14, 81), (7, 7, 77)] [] (by kernel_rfl); clear E; simp only [nthV] at t81 t77
    have hB9 := hS.1
    have hz := hB9.frees
    obtain ⟨c0, c1, c2, c3, c4, c5, c6, c7, c8, c9, c10, c11⟩ := hB9.cells
    try dsimp only at c0 c1 c2 c3 c4 c5 c6 c7 c8 c9 c10 c11
    refine ⟨?_, ?_, ?_⟩
    rotate_left
    · go_simp; try with_reducible rfl
    · exact ⟨OpB.den hB9 o.den, (hS.2.setRow (p := ⟨C, 9, none⟩) rfl _)⟩
  refine FxM.done (fun W (hW : (fun W => OpB W C ⟨o.kind, 0, o.amt, 0, o.ast, o.oth, o.num, o.den, 0, []⟩ (.slice none 0 0) ∧ Fr (some C) w3 W) W) => ?_)
  simp only [fillZ]
  try simp only [Act.put, List.setIfInBounds_toArray, List.set_cons_zero, List.set_cons_succ, List.getElem_toArray, List.getElem_cons_zero, List.getElem_cons_succ]
  obtain ⟨hb, G⟩ := hW
  go_upto_region 15 with (fail)
  obtain ⟨w4, hw4⟩ : ∃ w4, w4 = W := ⟨_, rfl⟩
  rw [← hw4] at hb G ⊢
  clear hw4
  have b1 := b1.fr G n1
  have hR := hR.fr G n2
  have FF := FF.new G hCw
  refine wp_region_fxM (fun _ => True) (phS [fun W => Fr none w4 W, fun W => OpB W (B + 1) ⟨o.kind, 0, o.amt, 0, o.ast, o.oth, o.num, o.den, 0, []⟩ (.slice none 0 0) ∧ Fr (some (B + 1)) w4 W]) [28] [0, 2, 3, 6, 7, 11, 12, 16, 18, 23, 25, 26] 165 [some 3, none, some 109, some 108, some 107, some 106, some 105, some 104, some 103, some 102, some 101, some 100, some 99, some 98, some 97, some 96, some 95, some 94, some 93, some 92, some 91, some 90, some 89, some 88, some 87, some 86, some 85, some 84, some 83, some 82] (by kernel_rfl) (by kernel_rfl) (by kernel_rfl) (Nat.le_refl _) (show (fun W => Fr none w4 W) _ from (Fr.refl _ _).drew) (fun _ _ _ _ => trivial) ?_
  refine FxM.load (v := ?_) rfl (by kernel_rfl) (fun ev w (hS : (fun W => Fr none w4 W) w) E => ?_) ?_; rotate_left
  · obtain ⟨c0, c1, c2, c3, c4, c5, c6, c7, c8, c9, c10, c11⟩ := (hb.fr hS (by simp)).cells
    obtain ⟨d0, d1, d2, d3, d4, d5, d6, d7, d8, d9, d10, d11⟩ := (b1.fr hS (by simp)).cells
    dsimp only at c0 c1 c2 c3 c4 c5 c6 c7 c8 c9 c10 c11
    obtain ⟨t4, ec, ef, eg⟩ := E.get [] [4] (by kernel_rfl); clear E; go_simp; try with_reducible rfl
  refine FxM.pure (v := ?_) rfl rfl (fun ev w _ E => ?_) ?_; rotate_left
  · obtain ⟨t1, ec, ef, eg⟩ := E.get [] [1] (by kernel_rfl); clear E; go_simp; try with_reducible rfl
  refine FxM.load (v := ?_) rfl (by kernel_rfl) (fun ev w (hS : (fun W => Fr none w4 W) w) E => ?_) ?_; rotate_left
  · obtain ⟨c0, c1, c2, c3, c4, c5, c6, c7, c8, c9, c10, c11⟩ := (hb.fr hS (by simp)).cells
    obtain ⟨d0, d1, d2, d3, d4, d5, d6, d7, d8, d9, d10, d11⟩ := (b1.fr hS (by simp)).cells
    dsimp only at c0 c1 c2 c3 c4 c5 c6 c7 c8 c9 c10 c11
    obtain ⟨t83, ec, ef, eg⟩ := E.get [(0, 1, 83)] [] (by kernel_rfl); clear E; simp only [nthV] at t83; go_simp; try with_reducible rfl
  refine FxM.call (v := ?_) (f := ?_) (args := ?_) rfl (by kernel_rfl) (fun ev w (hS : (fun W => Fr none w4 W) w) E => ?_) (fun w (hS : (fun W => Fr none w4 W) w) => ?_) ?_; rotate_left 3
  · obtain ⟨c0, c1, c2, c3, c4, c5, c6, c7, c8, c9, c10, c11⟩ := (hb.fr hS (by simp)).cells
    obtain ⟨d0, d1, d2, d3, d4, d5, d6, d7, d8, d9, d10, d11⟩ := (b1.fr hS (by simp)).cells
    dsimp only at c0 c1 c2 c3 c4 c5 c6 c7 c8 c9 c10 c11
    obtain ⟨t84, ec, ef, eg⟩ := E.get [(0, 2, 84)] [] (by kernel_rfl); clear E; simp only [nthV] at t84; go_simp; first | (refine And.intro ?_ ?_ <;> with_reducible rfl) | with_reducible rfl
  · obtain ⟨c0, c1, c2, c3, c4, c5, c6, c7, c8, c9, c10, c11⟩ := (hb.fr hS (by simp)).cells
    obtain ⟨d0, d1, d2, d3, d4, d5, d6, d7, d8, d9, d10, d11⟩ := (b1.fr hS (by simp)).cells
    dsimp only at c0 c1 c2 c3 c4 c5 c6 c7 c8 c9 c10 c11
    refine (ppos_any _ w).mono ?_
    rintro e w2 ⟨rfl, rfl⟩
    refine ⟨?_, hS⟩; with_reducible rfl
  refine FxM.pure (v := ?_) rfl rfl (fun ev w _ E => ?_) ?_; rotate_left
  · obtain ⟨t85, ec, ef, eg⟩ := E.get [(0, 3, 85)] [] (by kernel_rfl); clear E; simp only [nthV] at t85; go_simp; try with_reducible rfl
  cases hv0 : pos1 o.amt with
  | true =>
    refine FxM.gpure (v := ?_) rfl 0 rfl rfl rfl (fun ev w _ E => ?_) ?_; rotate_left
    · obtain ⟨t1, ec, ef, eg⟩ := E.get [] [1] (by kernel_rfl); clear E; go_simp; try with_reducible rfl
    refine FxM.gload (v := ?_) rfl 1 rfl rfl (by kernel_rfl) (fun ev w (hS : (fun W => Fr none w4 W) w) E => ?_) ?_; rotate_left
    · obtain ⟨c0, c1, c2, c3, c4, c5, c6, c7, c8, c9, c10, c11⟩ := (hb.fr hS (by simp)).cells
      obtain ⟨d0, d1, d2, d3, d4, d5, d6, d7, d8, d9, d10, d11⟩ := (b1.fr hS (by simp)).cells
      dsimp only at c0 c1 c2 c3 c4 c5 c6 c7 c8 c9 c10 c11
      obtain ⟨t87, ec, ef, eg⟩ := E.get [(0, 5, 87)] [] (by kernel_rfl); clear E; simp only [nthV] at t87; go_simp; try with_reducible rfl
    refine FxM.gcall (v := ?_) (f := ?_) (args := ?_) rfl 2 rfl rfl (by kernel_rfl) (fun ev w (hS : (fun W => Fr none w4 W) w) E => ?_) (fun w (hS : (fun W => Fr none w4 W) w) => ?_) ?_; rotate_left 3
    · obtain ⟨c0, c1, c2, c3, c4, c5, c6, c7, c8, c9, c10, c11⟩ := (hb.fr hS (by simp)).cells
      obtain ⟨d0, d1, d2, d3, d4, d5, d6, d7, d8, d9, d10, d11⟩ := (b1.fr hS (by simp)).cells
      dsimp only at c0 c1 c2 c3 c4 c5 c6 c7 c8 c9 c10 c11
      obtain ⟨t88, ec, ef, eg⟩ := E.get [(0, 6, 88)] [] (by kernel_rfl); clear E; simp only [nthV] at t88; go_simp; first | (refine And.intro ?_ ?_ <;> with_reducible rfl) | with_reducible rfl
    · obtain ⟨c0, c1, c2, c3, c4, c5, c6, c7, c8, c9, c10, c11⟩ := (hb.fr hS (by simp)).cells
      obtain ⟨d0, d1, d2, d3, d4, d5, d6, d7, d8, d9, d10, d11⟩ := (b1.fr hS (by simp)).cells
      dsimp only at c0 c1 c2 c3 c4 c5 c6 c7 c8 c9 c10 c11
      refine (pvast_any o.ast w).mono ?_
      rintro e w2 ⟨rfl, F2⟩
      refine ⟨?_, hS.pure F2⟩; with_reducible rfl
    refine FxM.pure (v := ?_) rfl rfl (fun ev w _ E => ?_) ?_; rotate_left
    · obtain ⟨t86, t89, ec, ef, eg⟩ := E.get [(3, 4, 86), (0, 7, 89)] [] (by kernel_rfl); clear E; simp only [nthV] at t86 t89; go_simp; try with_reducible rfl
    refine FxM.pure (v := ?_) rfl rfl (fun ev w _ E => ?_) ?_; rotate_left
    · obtain ⟨t90, ec, ef, eg⟩ := E.get [(0, 8, 90)] [] (by kernel_rfl); clear E; simp only [nthV] at t90; go_simp; try with_reducible rfl
    cases hv1 : vAst o.ast with
    | true =>
      refine FxM.gpure (v := ?_) rfl 0 rfl rfl rfl (fun ev w _ E => ?_) ?_; rotate_left
      · obtain ⟨t1, ec, ef, eg⟩ := E.get [] [1] (by kernel_rfl); clear E; go_simp; try with_reducible rfl
      refine FxM.gload (v := ?_) rfl 1 rfl rfl (by kernel_rfl) (fun ev w (hS : (fun W => Fr none w4 W) w) E => ?_) ?_; rotate_left
      · obtain ⟨c0, c1, c2, c3, c4, c5, c6, c7, c8, c9, c10, c11⟩ := (hb.fr hS (by simp)).cells
        obtain ⟨d0, d1, d2, d3, d4, d5, d6, d7, d8, d9, d10, d11⟩ := (b1.fr hS (by simp)).cells
        dsimp only at c0 c1 c2 c3 c4 c5 c6 c7 c8 c9 c10 c11
        obtain ⟨t92, ec, ef, eg⟩ := E.get [(0, 10, 92)] [] (by kernel_rfl); clear E; simp only [nthV] at t92; go_simp; try with_reducible rfl
      refine FxM.gcall (v := ?_) (f := ?_) (args := ?_) rfl 2 rfl rfl (by kernel_rfl) (fun ev w (hS : (fun W => Fr none w4 W) w) E => ?_) (fun w (hS : (fun W => Fr none w4 W) w) => ?_) ?_; rotate_left 3
      · obtain ⟨c0, c1, c2, c3, c4, c5, c6, c7, c8, c9, c10, c11⟩ := (hb.fr hS (by simp)).cells
        obtain ⟨d0, d1, d2, d3, d4, d5, d6, d7, d8, d9, d10, d11⟩ := (b1.fr hS (by simp)).cells
        dsimp only at c0 c1 c2 c3 c4 c5 c6 c7 c8 c9 c10 c11
        obtain ⟨t93, ec, ef, eg⟩ := E.get [(0, 11, 93)] [] (by kernel_rfl); clear E; simp only [nthV] at t93; go_simp; first | (refine And.intro ?_ ?_ <;> with_reducible rfl) | with_reducible rfl
      · obtain ⟨c0, c1, c2, c3, c4, c5, c6, c7, c8, c9, c10, c11⟩ := (hb.fr hS (by simp)).cells
        obtain ⟨d0, d1, d2, d3, d4, d5, d6, d7, d8, d9, d10, d11⟩ := (b1.fr hS (by simp)).cells
        dsimp only at c0 c1 c2 c3 c4 c5 c6 c7 c8 c9 c10 c11
        refine (pvast_any o.oth w).mono ?_
        rintro e w2 ⟨rfl, F2⟩
        refine ⟨?_, hS.pure F2⟩; with_reducible rfl
      refine FxM.pure (v := ?_) rfl rfl (fun ev w _ E => ?_) ?_; rotate_left
      · obtain ⟨t91, t94, ec, ef, eg⟩ := E.get [(3, 9, 91), (0, 12, 94)] [] (by kernel_rfl); clear E; simp only [nthV] at t91 t94; go_simp; try with_reducible rfl
      refine FxM.pure (v := ?_) rfl rfl (fun ev w _ E => ?_) ?_; rotate_left
      · obtain ⟨t95, ec, ef, eg⟩ := E.get [(0, 13, 95)] [] (by kernel_rfl); clear E; simp only [nthV] at t95; go_simp; try with_reducible rfl
      cases hv2 : vAst o.oth with
      | true =>
        refine FxM.gpure (v := ?_) rfl 0 rfl rfl rfl (fun ev w _ E => ?_) ?_; rotate_left
        · obtain ⟨t1, ec, ef, eg⟩ := E.get [] [1] (by kernel_rfl); clear E; go_simp; try with_reducible rfl
        refine FxM.gload (v := ?_) rfl 1 rfl rfl (by kernel_rfl) (fun ev w (hS : (fun W => Fr none w4 W) w) E => ?_) ?_; rotate_left
        · obtain ⟨c0, c1, c2, c3, c4, c5, c6, c7, c8, c9, c10, c11⟩ := (hb.fr hS (by simp)).cells
          obtain ⟨d0, d1, d2, d3, d4, d5, d6, d7, d8, d9, d10, d11⟩ := (b1.fr hS (by simp)).cells
          dsimp only at c0 c1 c2 c3 c4 c5 c6 c7 c8 c9 c10 c11
          obtain ⟨t97, ec, ef, eg⟩ := E.get [(0, 15, 97)] [] (by kernel_rfl); clear E; simp only [nthV] at t97; go_simp; try with_reducible rfl
        refine FxM.gpure (v := ?_) rfl 2 rfl rfl rfl (fun ev w _ E => ?_) ?_; rotate_left
        · obtain ⟨t1, ec, ef, eg⟩ := E.get [] [1] (by kernel_rfl); clear E; go_simp; try with_reducible rfl
        refine FxM.gload (v := ?_) rfl 3 rfl rfl (by kernel_rfl) (fun ev w (hS : (fun W => Fr none w4 W) w) E => ?_) ?_; rotate_left
        · obtain ⟨c0, c1, c2, c3, c4, c5, c6, c7, c8, c9, c10, c11⟩ := (hb.fr hS (by simp)).cells
          obtain ⟨d0, d1, d2, d3, d4, d5, d6, d7, d8, d9, d10, d11⟩ := (b1.fr hS (by simp)).cells
          dsimp only at c0 c1 c2 c3 c4 c5 c6 c7 c8 c9 c10 c11
          obtain ⟨t99, ec, ef, eg⟩ := E.get [(0, 17, 99)] [] (by kernel_rfl); clear E; simp only [nthV] at t99; go_simp; try with_reducible rfl
        refine FxM.gpure (v := ?_) rfl 4 rfl rfl rfl (fun ev w _ E => ?_) ?_; rotate_left
        · obtain ⟨t98, t100, ec, ef, eg⟩ := E.get [(2, 16, 98), (0, 18, 100)] [] (by kernel_rfl); clear E; simp only [nthV] at t98 t100
          go_simp
          rw [astneq_run]
          try with_reducible rfl
        refine FxM.pure (v := ?_) rfl rfl (fun ev w _ E => ?_) ?_; rotate_left
        · obtain ⟨t96, t101, ec, ef, eg⟩ := E.get [(5, 14, 96), (0, 19, 101)] [] (by kernel_rfl); clear E; simp only [nthV] at t96 t101; go_simp; try with_reducible rfl
        refine FxM.pure (v := ?_) rfl rfl (fun ev w _ E => ?_) ?_; rotate_left
        · obtain ⟨t102, ec, ef, eg⟩ := E.get [(0, 20, 102)] [] (by kernel_rfl); clear E; simp only [nthV] at t102; go_simp; try with_reducible rfl
        cases hv3 : decide (o.ast = o.oth) with
        | false =>
          refine FxM.gpure (v := ?_) rfl 0 rfl rfl rfl (fun ev w _ E => ?_) ?_; rotate_left
          · obtain ⟨t1, ec, ef, eg⟩ := E.get [] [1] (by kernel_rfl); clear E; go_simp; try with_reducible rfl
          refine FxM.gload (v := ?_) rfl 1 rfl rfl (by kernel_rfl) (fun ev w (hS : (fun W => Fr none w4 W) w) E => ?_) ?_; rotate_left
          · obtain ⟨c0, c1, c2, c3, c4, c5, c6, c7, c8, c9, c10, c11⟩ := (hb.fr hS (by simp)).cells
            obtain ⟨d0, d1, d2, d3, d4, d5, d6, d7, d8, d9, d10, d11⟩ := (b1.fr hS (by simp)).cells
            dsimp only at c0 c1 c2 c3 c4 c5 c6 c7 c8 c9 c10 c11
            obtain ⟨t104, ec, ef, eg⟩ := E.get [(0, 22, 104)] [] (by kernel_rfl); clear E; simp only [nthV] at t104; go_simp; try with_reducible rfl
          refine FxM.gpure (v := ?_) rfl 2 rfl rfl rfl (fun ev w _ E => ?_) ?_; rotate_left
          · obtain ⟨t1, ec, ef, eg⟩ := E.get [] [1] (by kernel_rfl); clear E; go_simp; try with_reducible rfl
          refine FxM.gload (v := ?_) rfl 3 rfl rfl (by kernel_rfl) (fun ev w (hS : (fun W => Fr none w4 W) w) E => ?_) ?_; rotate_left
          · obtain ⟨c0, c1, c2, c3, c4, c5, c6, c7, c8, c9, c10, c11⟩ := (hb.fr hS (by simp)).cells
            obtain ⟨d0, d1, d2, d3, d4, d5, d6, d7, d8, d9, d10, d11⟩ := (b1.fr hS (by simp)).cells
            dsimp only at c0 c1 c2 c3 c4 c5 c6 c7 c8 c9 c10 c11
            obtain ⟨t106, ec, ef, eg⟩ := E.get [(0, 24, 106)] [] (by kernel_rfl); clear E; simp only [nthV] at t106; go_simp; try with_reducible rfl
          refine FxM.gcall (v := ?_) (f := ?_) (args := ?_) rfl 4 rfl rfl (by kernel_rfl) (fun ev w (hS : (fun W => Fr none w4 W) w) E => ?_) (fun w (hS : (fun W => Fr none w4 W) w) => ?_) ?_; rotate_left 3
          · obtain ⟨c0, c1, c2, c3, c4, c5, c6, c7, c8, c9, c10, c11⟩ := (hb.fr hS (by simp)).cells
            obtain ⟨d0, d1, d2, d3, d4, d5, d6, d7, d8, d9, d10, d11⟩ := (b1.fr hS (by simp)).cells
            dsimp only at c0 c1 c2 c3 c4 c5 c6 c7 c8 c9 c10 c11
            obtain ⟨t105, t107, ec, ef, eg⟩ := E.get [(2, 23, 105), (0, 25, 107)] [] (by kernel_rfl); clear E; simp only [nthV] at t105 t107; go_simp; first | (refine And.intro ?_ ?_ <;> with_reducible rfl) | with_reducible rfl
          · obtain ⟨c0, c1, c2, c3, c4, c5, c6, c7, c8, c9, c10, c11⟩ := (hb.fr hS (by simp)).cells
            obtain ⟨d0, d1, d2, d3, d4, d5, d6, d7, d8, d9, d10, d11⟩ := (b1.fr hS (by simp)).cells
            dsimp only at c0 c1 c2 c3 c4 c5 c6 c7 c8 c9 c10 c11
            refine (pprc_any _ _ w).mono ?_
            rintro e w2 ⟨rfl, rfl⟩
            refine ⟨?_, hS⟩; with_reducible rfl
          refine FxM.pure (v := ?_) rfl rfl (fun ev w _ E => ?_) ?_; rotate_left
          · obtain ⟨t103, t108, ec, ef, eg⟩ := E.get [(5, 21, 103), (0, 26, 108)] [] (by kernel_rfl); clear E; simp only [nthV] at t103 t108; go_simp; try with_reducible rfl
          refine FxM.store 0 rfl rfl (fun ev w (hS : (fun W => Fr none w4 W) w) E => ?_) ?_
          · obtain ⟨t82, t2, ec, ef, eg⟩ := E.get [(27, 0, 82)] [2] (by kernel_rfl); clear E; simp only [nthV] at t82
            have hz := (hR.fr hS (by simp)).frees
            obtain ⟨c0, c1, c2, c3, c4, c5, c6, c7, c8, c9, c10, c11⟩ := (hR.fr hS (by simp)).cells
            refine ⟨?_, ?_, ?_⟩
            rotate_left
            · go_simp; try with_reducible rfl
            · exact plst hR hS ⟨o.kind, 0, o.amt, 0, o.ast, o.oth, o.num, o.den, 0, []⟩ (.slice none 0 0) _ rfl
          refine FxM.pure (v := ?_) rfl rfl (fun ev w _ E => ?_) ?_; rotate_left
          · obtain ⟨t109, ec, ef, eg⟩ := E.get [(1, 27, 109)] [] (by kernel_rfl); clear E; simp only [nthV] at t109; go_simp; try with_reducible rfl
          refine FxM.done (fun W (hW : (fun W => OpB W (B + 1) ⟨o.kind, 0, o.amt, 0, o.ast, o.oth, o.num, o.den, 0, []⟩ (.slice none 0 0) ∧ Fr (some (B + 1)) w4 W) W) => ?_)
          simp only [fillZ]
          try simp only [Act.put, List.setIfInBounds_toArray, List.set_cons_zero, List.set_cons_succ, List.getElem_toArray, List.getElem_cons_zero, List.getElem_cons_succ]
          have hRW : OpB W (B + 1) _ _ := hW.1
          have z0 := OpB.free hRW 0
          have z1 := OpB.free hRW 1
          have z2 := OpB.free hRW 2
          have z3 := OpB.free hRW 3
          have z4 := OpB.free hRW 4
          have z5 := OpB.free hRW 5
          have z6 := OpB.free hRW 6
          have z7 := OpB.free hRW 7
          have z8 := OpB.free hRW 8
          have z9 := OpB.free hRW 9
          have z10 := OpB.free hRW 10
          have z11 := OpB.free hRW 11
          obtain ⟨e0, e1, e2, e3, e4, e5, e6, e7, e8, e9, e10, e11⟩ := hRW.cells
          have el := OpB.lt hRW
          try simp only [op0] at e0 e1 e2 e3 e4 e5 e6 e7 e8 e9 e10 e11
          try dsimp only at e0 e1 e2 e3 e4 e5 e6 e7 e8 e9 e10 e11
          go_wp2_with fail
          refine bodyPost_ret (v := .tuple #[opV ⟨o.kind, 0, o.amt, 0, o.ast, o.oth, o.num, o.den, 0, []⟩ (.slice none 0 0), .bool (vPrc o.num o.den)]) (by simp [results, Tryz.results93, go_sem, opV, opL, e0, e1, e2, e3, e4, e5, e6, e7, e8, e9, e10, e11]) rfl ?_
          refine ⟨?_, FF.new hW.2 hBR⟩
          rw [plV_4 _ KK.out]
          all_goals (try simp only [hv0, hv1, hv2, hv3, Bool.true_and, Bool.false_and, Bool.and_true, Bool.and_false])
          all_goals (try rfl)
        | true =>
          refine FxM.skip rfl 0 rfl (by simp only [nthV]; intro h; cases h) rfl ?_
          refine FxM.skip rfl 1 rfl (by simp only [nthV]; intro h; cases h) rfl ?_
          refine FxM.skip rfl 2 rfl (by simp only [nthV]; intro h; cases h) rfl ?_
          refine FxM.skip rfl 3 rfl (by simp only [nthV]; intro h; cases h) rfl ?_
          refine FxM.skip rfl 4 rfl (by simp only [nthV]; intro h; cases h) rfl ?_
          refine FxM.pure (v := ?_) rfl rfl (fun ev w _ E => ?_) ?_; rotate_left
          · obtain ⟨t103, t108, ec, ef, eg⟩ := E.get [(5, 21, 103), (0, 26, 108)] [] (by kernel_rfl); clear E; simp only [nthV] at t103 t108; go_simp; try with_reducible rfl
          refine FxM.store 0 rfl rfl (fun ev w (hS : (fun W => Fr none w4 W) w) E => ?_) ?_
          · obtain ⟨t82, t2, ec, ef, eg⟩ := E.get [(27, 0, 82)] [2] (by kernel_rfl); clear E; simp only [nthV] at t82
            have hz := (hR.fr hS (by simp)).frees
            obtain ⟨c0, c1, c2, c3, c4, c5, c6, c7, c8, c9, c10, c11⟩ := (hR.fr hS (by simp)).cells
            refine ⟨?_, ?_, ?_⟩
            rotate_left
            · go_simp; try with_reducible rfl
            · exact plst hR hS ⟨o.kind, 0, o.amt, 0, o.ast, o.oth, o.num, o.den, 0, []⟩ (.slice none 0 0) _ rfl
          refine FxM.pure (v := ?_) rfl rfl (fun ev w _ E => ?_) ?_; rotate_left
          · obtain ⟨t109, ec, ef, eg⟩ := E.get [(1, 27, 109)] [] (by kernel_rfl); clear E; simp only [nthV] at t109; go_simp; try with_reducible rfl
          refine FxM.done (fun W (hW : (fun W => OpB W (B + 1) ⟨o.kind, 0, o.amt, 0, o.ast, o.oth, o.num, o.den, 0, []⟩ (.slice none 0 0) ∧ Fr (some (B + 1)) w4 W) W) => ?_)
          simp only [fillZ]
          try simp only [Act.put, List.setIfInBounds_toArray, List.set_cons_zero, List.set_cons_succ, List.getElem_toArray, List.getElem_cons_zero, List.getElem_cons_succ]
          have hRW : OpB W (B + 1) _ _ := hW.1
          have z0 := OpB.free hRW 0
          have z1 := OpB.free hRW 1
          have z2 := OpB.free hRW 2
          have z3 := OpB.free hRW 3
          have z4 := OpB.free hRW 4
          have z5 := OpB.free hRW 5
          have z6 := OpB.free hRW 6
          have z7 := OpB.free hRW 7
          have z8 := OpB.free hRW 8
          have z9 := OpB.free hRW 9
          have z10 := OpB.free hRW 10
          have z11 := OpB.free hRW 11
          obtain ⟨e0, e1, e2, e3, e4, e5, e6, e7, e8, e9, e10, e11⟩ := hRW.cells
          have el := OpB.lt hRW
          try simp only [op0] at e0 e1 e2 e3 e4 e5 e6 e7 e8 e9 e10 e11
          try dsimp only at e0 e1 e2 e3 e4 e5 e6 e7 e8 e9 e10 e11
          go_wp2_with fail
          refine bodyPost_ret (v := .tuple #[opV ⟨o.kind, 0, o.amt, 0, o.ast, o.oth, o.num, o.den, 0, []⟩ (.slice none 0 0), .bool (false)]) (by simp [results, Tryz.results93, go_sem, opV, opL, e0, e1, e2, e3, e4, e5, e6, e7, e8, e9, e10, e11]) rfl ?_
          refine ⟨?_, FF.new hW.2 hBR⟩
          rw [plV_4 _ KK.out]
          all_goals (try simp only [hv0, hv1, hv2, hv3, Bool.true_and, Bool.false_and, Bool.and_true, Bool.and_false])
          all_goals (try rfl)
      | false =>
        refine FxM.skip rfl 0 rfl (by simp only [nthV]; intro h; cases h) rfl ?_
        refine FxM.skip rfl 1 rfl (by simp only [nthV]; intro h; cases h) rfl ?_
        refine FxM.skip rfl 2 rfl (by simp only [nthV]; intro h; cases h) rfl ?_
        refine FxM.skip rfl 3 rfl (by simp only [nthV]; intro h; cases h) rfl ?_
        refine FxM.skip rfl 4 rfl (by simp only [nthV]; intro h; cases h) rfl ?_
        refine FxM.pure (v := ?_) rfl rfl (fun ev w _ E => ?_) ?_; rotate_left
        · obtain ⟨t96, t101, ec, ef, eg⟩ := E.get [(5, 14, 96), (0, 19, 101)] [] (by kernel_rfl); clear E; simp only [nthV] at t96 t101; go_simp; try with_reducible rfl
        refine FxM.pure (v := ?_) rfl rfl (fun ev w _ E => ?_) ?_; rotate_left
        · obtain ⟨t102, ec, ef, eg⟩ := E.get [(0, 20, 102)] [] (by kernel_rfl); clear E; simp only [nthV] at t102; go_simp; try with_reducible rfl
        refine FxM.skip rfl 0 rfl (by simp only [nthV]; intro h; cases h) rfl ?_
        refine FxM.skip rfl 1 rfl (by simp only [nthV]; intro h; cases h) rfl ?_
        refine FxM.skip rfl 2 rfl (by simp only [nthV]; intro h; cases h) rfl ?_
        refine FxM.skip rfl 3 rfl (by simp only [nthV]; intro h; cases h) rfl ?_
        refine FxM.skip rfl 4 rfl (by simp only [nthV]; intro h; cases h) rfl ?_
        refine FxM.pure (v := ?_) rfl rfl (fun ev w _ E => ?_) ?_; rotate_left
        · obtain ⟨t103, t108, ec, ef, eg⟩ := E.get [(5, 21, 103), (0, 26, 108)] [] (by kernel_rfl); clear E; simp only [nthV] at t103 t108; go_simp; try with_reducible rfl
        refine FxM.store 0 rfl rfl (fun ev w (hS : (fun W => Fr none w4 W) w) E => ?_) ?_
        · obtain ⟨t82, t2, ec, ef, eg⟩ := E.get [(27, 0, 82)] [2] (by kernel_rfl); clear E; simp only [nthV] at t82
          have hz := (hR.fr hS (by simp)).frees
          obtain ⟨c0, c1, c2, c3, c4, c5, c6, c7, c8, c9, c10, c11⟩ := (hR.fr hS (by simp)).cells
          refine ⟨?_, ?_, ?_⟩
          rotate_left
          · go_simp; try with_reducible rfl
          · exact plst hR hS ⟨o.kind, 0, o.amt, 0, o.ast, o.oth, o.num, o.den, 0, []⟩ (.slice none 0 0) _ rfl
        refine FxM.pure (v := ?_) rfl rfl (fun ev w _ E => ?_) ?_; rotate_left
        · obtain ⟨t109, ec, ef, eg⟩ := E.get [(1, 27, 109)] [] (by kernel_rfl); clear E; simp only [nthV] at t109; go_simp; try with_reducible rfl
        refine FxM.done (fun W (hW : (fun W => OpB W (B + 1) ⟨o.kind, 0, o.amt, 0, o.ast, o.oth, o.num, o.den, 0, []⟩ (.slice none 0 0) ∧ Fr (some (B + 1)) w4 W) W) => ?_)
        simp only [fillZ]
        try simp only [Act.put, List.setIfInBounds_toArray, List.set_cons_zero, List.set_cons_succ, List.getElem_toArray, List.getElem_cons_zero, List.getElem_cons_succ]
        have hRW : OpB W (B + 1) _ _ := hW.1
        have z0 := OpB.free hRW 0
        have z1 := OpB.free hRW 1
        have z2 := OpB.free hRW 2
        have z3 := OpB.free hRW 3
        have z4 := OpB.free hRW 4
        have z5 := OpB.free hRW 5
        have z6 := OpB.free hRW 6
        have z7 := OpB.free hRW 7
        have z8 := OpB.free hRW 8
        have z9 := OpB.free hRW 9
        have z10 := OpB.free hRW 10
        have z11 := OpB.free hRW 11
        obtain ⟨e0, e1, e2, e3, e4, e5, e6, e7, e8, e9, e10, e11⟩ := hRW.cells
        have el := OpB.lt hRW
        try simp only [op0] at e0 e1 e2 e3 e4 e5 e6 e7 e8 e9 e10 e11
        try dsimp only at e0 e1 e2 e3 e4 e5 e6 e7 e8 e9 e10 e11
        go_wp2_with fail
        refine bodyPost_ret (v := .tuple #[opV ⟨o.kind, 0, o.amt, 0, o.ast, o.oth, o.num, o.den, 0, []⟩ (.slice none 0 0), .bool (false)]) (by simp [results, Tryz.results93, go_sem, opV, opL, e0, e1, e2, e3, e4, e5, e6, e7, e8, e9, e10, e11]) rfl ?_
        refine ⟨?_, FF.new hW.2 hBR⟩
        rw [plV_4 _ KK.out]
        all_goals (try simp only [hv0, hv1, hv2, Bool.true_and, Bool.false_and, Bool.and_true, Bool.and_false])
        all_goals (try rfl)
    | false =>
      refine FxM.skip rfl 0 rfl (by simp only [nthV]; intro h; cases h) rfl ?_
      refine FxM.skip rfl 1 rfl (by simp only [nthV]; intro h; cases h) rfl ?_
      refine FxM.skip rfl 2 rfl (by simp only [nthV]; intro h; cases h) rfl ?_
      refine FxM.pure (v := ?_) rfl rfl (fun ev w _ E => ?_) ?_; rotate_left
      · obtain ⟨t91, t94, ec, ef, eg⟩ := E.get [(3, 9, 91), (0, 12, 94)] [] (by kernel_rfl); clear E; simp only [nthV] at t91 t94; go_simp; try with_reducible rfl
      refine FxM.pure (v := ?_) rfl rfl (fun ev w _ E => ?_) ?_; rotate_left
      · obtain ⟨t95, ec, ef, eg⟩ := E.get [(0, 13, 95)] [] (by kernel_rfl); clear E; simp only [nthV] at t95; go_simp; try with_reducible rfl
      refine FxM.skip rfl 0 rfl (by simp only [nthV]; intro h; cases h) rfl ?_
      refine FxM.skip rfl 1 rfl (by simp only [nthV]; intro h; cases h) rfl ?_
      refine FxM.skip rfl 2 rfl (by simp only [nthV]; intro h; cases h) rfl ?_
      refine FxM.skip rfl 3 rfl (by simp only [nthV]; intro h; cases h) rfl ?_
      refine FxM.skip rfl 4 rfl (by simp only [nthV]; intro h; cases h) rfl ?_
      refine FxM.pure (v := ?_) rfl rfl (fun ev w _ E => ?_) ?_; rotate_left
      · obtain ⟨t96, t101, ec, ef, eg⟩ := E.get [(5, 14, 96), (0, 19, 101)] [] (by kernel_rfl); clear E; simp only [nthV] at t96 t101; go_simp; try with_reducible rfl
      refine FxM.pure (v := ?_) rfl rfl (fun ev w _ E => ?_) ?_; rotate_left
      · obtain ⟨t102, ec, ef, eg⟩ := E.get [(0, 20, 102)] [] (by kernel_rfl); clear E; simp only [nthV] at t102; go_simp; try with_reducible rfl
      refine FxM.skip rfl 0 rfl (by simp only [nthV]; intro h; cases h) rfl ?_
      refine FxM.skip rfl 1 rfl (by simp only [nthV]; intro h; cases h) rfl ?_
      refine FxM.skip rfl 2 rfl (by simp only [nthV]; intro h; cases h) rfl ?_
      refine FxM.skip rfl 3 rfl (by simp only [nthV]; intro h; cases h) rfl ?_
      refine FxM.skip rfl 4 rfl (by simp only [nthV]; intro h; cases h) rfl ?_
      refine FxM.pure (v := ?_) rfl rfl (fun ev w _ E => ?_) ?_; rotate_left
      · obtain ⟨t103, t108, ec, ef, eg⟩ := E.get [(5, 21, 103), (0, 26, 108)] [] (by kernel_rfl); clear E; simp only [nthV] at t103 t108; go_simp; try with_reducible rfl
      refine FxM.store 0 rfl rfl (fun ev w (hS : (fun W => Fr none w4 W) w) E => ?_) ?_
      · obtain ⟨t82, t2, ec, ef, eg⟩ := E.get [(27, 0, 82)] [2] (by kernel_rfl); clear E; simp only [nthV] at t82
        have hz := (hR.fr hS (by simp)).frees
        obtain ⟨c0, c1, c2, c3, c4, c5, c6, c7, c8, c9, c10, c11⟩ := (hR.fr hS (by simp)).cells
        refine ⟨?_, ?_, ?_⟩
        rotate_left
        · go_simp; try with_reducible rfl
        · exact plst hR hS ⟨o.kind, 0, o.amt, 0, o.ast, o.oth, o.num, o.den, 0, []⟩ (.slice none 0 0) _ rfl
      refine FxM.pure (v := ?_) rfl rfl (fun ev w _ E => ?_) ?_; rotate_left
      · obtain ⟨t109, ec, ef, eg⟩ := E.get [(1, 27, 109)] [] (by kernel_rfl); clear E; simp only [nthV] at t109; go_simp; try with_reducible rfl
      refine FxM.done (fun W (hW : (fun W => OpB W (B + 1) ⟨o.kind, 0, o.amt, 0, o.ast, o.oth, o.num, o.den, 0, []⟩ (.slice none 0 0) ∧ Fr (some (B + 1)) w4 W) W) => ?_)
      simp only [fillZ]
      try simp only [Act.put, List.setIfInBounds_toArray, List.set_cons_zero, List.set_cons_succ, List.getElem_toArray, List.getElem_cons_zero, List.getElem_cons_succ]
      have hRW : OpB W (B + 1) _ _ := hW.1
      have z0 := OpB.free hRW 0
      have z1 := OpB.free hRW 1
      have z2 := OpB.free hRW 2
      have z3 := OpB.free hRW 3
      have z4 := OpB.free hRW 4
      have z5 := OpB.free hRW 5
      have z6 := OpB.free hRW 6
      have z7 := OpB.free hRW 7
      have z8 := OpB.free hRW 8
      have z9 := OpB.free hRW 9
      have z10 := OpB.free hRW 10
      have z11 := OpB.free hRW 11
      obtain ⟨e0, e1, e2, e3, e4, e5, e6, e7, e8, e9, e10, e11⟩ := hRW.cells
      have el := OpB.lt hRW
      try simp only [op0] at e0 e1 e2 e3 e4 e5 e6 e7 e8 e9 e10 e11
      try dsimp only at e0 e1 e2 e3 e4 e5 e6 e7 e8 e9 e10 e11
      go_wp2_with fail
      refine bodyPost_ret (v := .tuple #[opV ⟨o.kind, 0, o.amt, 0, o.ast, o.oth, o.num, o.den, 0, []⟩ (.slice none 0 0), .bool (false)]) (by simp [results, Tryz.results93, go_sem, opV, opL, e0, e1, e2, e3, e4, e5, e6, e7, e8, e9, e10, e11]) rfl ?_
      refine ⟨?_, FF.new hW.2 hBR⟩
      rw [plV_4 _ KK.out]
      all_goals (try simp only [hv0, hv1, Bool.true_and, Bool.false_and, Bool.and_true, Bool.and_false])
      all_goals (try rfl)
  | false =>
    refine FxM.skip rfl 0 rfl (by simp only [nthV]; intro h; cases h) rfl ?_
    refine FxM.skip rfl 1 rfl (by simp only [nthV]; intro h; cases h) rfl ?_
    refine FxM.skip rfl 2 rfl (by simp only [nthV]; intro h; cases h) rfl ?_
    refine FxM.pure (v := ?_) rfl rfl (fun ev w _ E => ?_) ?_; rotate_left
    · obtain ⟨t86, t89, ec, ef, eg⟩ := E.get [(3, 4, 86), (0, 7, 89)] [] (by kernel_rfl); clear E; simp only [nthV] at t86 t89; go_simp; try with_reducible rfl
    refine FxM.pure (v := ?_) rfl rfl (fun ev w _ E => ?_) ?_; rotate_left
    · obtain ⟨t90, ec, ef, eg⟩ := E.get [(0, 8, 90)] [] (by kernel_rfl); clear E; simp only [nthV] at t90; go_simp; try with_reducible rfl
    refine FxM.skip rfl 0 rfl (by simp only [nthV]; intro h; cases h) rfl ?_
    refine FxM.skip rfl 1 rfl (by simp only [nthV]; intro h; cases h) rfl ?_
    refine FxM.skip rfl 2 rfl (by simp only [nthV]; intro h; cases h) rfl ?_
    refine FxM.pure (v := ?_) rfl rfl (fun ev w _ E => ?_) ?_; rotate_left
    · obtain ⟨t91, t94, ec, ef, eg⟩ := E.get [(3, 9, 91), (0, 12, 94)] [] (by kernel_rfl); clear E; simp only [nthV] at t91 t94; go_simp; try with_reducible rfl
    refine FxM.pure (v := ?_) rfl rfl (fun ev w _ E => ?_) ?_; rotate_left
    · obtain ⟨t95, ec, ef, eg⟩ := E.get [(0, 13, 95)] [] (by kernel_rfl); clear E; simp only [nthV] at t95; go_simp; try with_reducible rfl
    refine FxM.skip rfl 0 rfl (by simp only [nthV]; intro h; cases h) rfl ?_
    refine FxM.skip rfl 1 rfl (by simp only [nthV]; intro h; cases h) rfl ?_
    refine FxM.skip rfl 2 rfl (by simp only [nthV]; intro h; cases h) rfl ?_
    refine FxM.skip rfl 3 rfl (by simp only [nthV]; intro h; cases h) rfl ?_
    refine FxM.skip rfl 4 rfl (by simp only [nthV]; intro h; cases h) rfl ?_
    refine FxM.pure (v := ?_) rfl rfl (fun ev w _ E => ?_) ?_; rotate_left
    · obtain ⟨t96, t101, ec, ef, eg⟩ := E.get [(5, 14, 96), (0, 19, 101)] [] (by kernel_rfl); clear E; simp only [nthV] at t96 t101; go_simp; try with_reducible rfl
    refine FxM.pure (v := ?_) rfl rfl (fun ev w _ E => ?_) ?_; rotate_left
    · obtain ⟨t102, ec, ef, eg⟩ := E.get [(0, 20, 102)] [] (by kernel_rfl); clear E; simp only [nthV] at t102; go_simp; try with_reducible rfl
    refine FxM.skip rfl 0 rfl (by simp only [nthV]; intro h; cases h) rfl ?_
    refine FxM.skip rfl 1 rfl (by simp only [nthV]; intro h; cases h) rfl ?_
    refine FxM.skip rfl 2 rfl (by simp only [nthV]; intro h; cases h) rfl ?_
    refine FxM.skip rfl 3 rfl (by simp only [nthV]; intro h; cases h) rfl ?_
    refine FxM.skip rfl 4 rfl (by simp only [nthV]; intro h; cases h) rfl ?_
    refine FxM.pure (v := ?_) rfl rfl (fun ev w _ E => ?_) ?_; rotate_left
    · obtain ⟨t103, t108, ec, ef, eg⟩ := E.get [(5, 21, 103), (0, 26, 108)] [] (by kernel_rfl); clear E; simp only [nthV] at t103 t108; go_simp; try with_reducible rfl
    refine FxM.store 0 rfl rfl (fun ev w (hS : (fun W => Fr none w4 W) w) E => ?_) ?_
    · obtain ⟨t82, t2, ec, ef, eg⟩ := E.get [(27, 0, 82)] [2] (by kernel_rfl); clear E; simp only [nthV] at t82
      have hz := (hR.fr hS (by simp)).frees
      obtain ⟨c0, c1, c2, c3, c4, c5, c6, c7, c8, c9, c10, c11⟩ := (hR.fr hS (by simp)).cells
      refine ⟨?_, ?_, ?_⟩
      rotate_left
      · go_simp; try with_reducible rfl
      · exact plst hR hS ⟨o.kind, 0, o.amt, 0, o.ast, o.oth, o.num, o.den, 0, []⟩ (.slice none 0 0) _ rfl
    refine FxM.pure (v := ?_) rfl rfl (fun ev w _ E => ?_) ?_; rotate_left
    · obtain ⟨t109, ec, ef, eg⟩ := E.get [(1, 27, 109)] [] (by kernel_rfl); clear E; simp only [nthV] at t109; go_simp; try with_reducible rfl
    refine FxM.done (fun W (hW : (fun W => OpB W (B + 1) ⟨o.kind, 0, o.amt, 0, o.ast, o.oth, o.num, o.den, 0, []⟩ (.slice none 0 0) ∧ Fr (some (B + 1)) w4 W) W) => ?_)
    simp only [fillZ]
    try simp only [Act.put, List.setIfInBounds_toArray, List.set_cons_zero, List.set_cons_succ, List.getElem_toArray, List.getElem_cons_zero, List.getElem_cons_succ]
    have hRW : OpB W (B + 1) _ _ := hW.1
    have z0 := OpB.free hRW 0
    have z1 := OpB.free hRW 1
    have z2 := OpB.free hRW 2
    have z3 := OpB.free hRW 3
    have z4 := OpB.free hRW 4
    have z5 := OpB.free hRW 5
    have z6 := OpB.free hRW 6
    have z7 := OpB.free hRW 7
    have z8 := OpB.free hRW 8
    have z9 := OpB.free hRW 9
    have z10 := OpB.free hRW 10
    have z11 := OpB.free hRW 11
    obtain ⟨e0, e1, e2, e3, e4, e5, e6, e7, e8, e9, e10, e11⟩ := hRW.cells
    have el := OpB.lt hRW
    try simp only [op0] at e0 e1 e2 e3 e4 e5 e6 e7 e8 e9 e10 e11
    try dsimp only at e0 e1 e2 e3 e4 e5 e6 e7 e8 e9 e10 e11
    go_wp2_with fail
    refine bodyPost_ret (v := .tuple #[opV ⟨o.kind, 0, o.amt, 0, o.ast, o.oth, o.num, o.den, 0, []⟩ (.slice none 0 0), .bool (false)]) (by simp [results, Tryz.results93, go_sem, opV, opL, e0, e1, e2, e3, e4, e5, e6, e7, e8, e9, e10, e11]) rfl ?_
    refine ⟨?_, FF.new hW.2 hBR⟩
    rw [plV_4 _ KK.out]
    all_goals (try simp only [hv0, Bool.true_and, Bool.false_and, Bool.and_true, Bool.and_false])
    all_goals (try rfl)
end Go.Proofs.YtonhhnedfjonoaaGreatDoor

/- Walk: ledger.plain at kind 5 (printed by gen_pl.py). -/
namespace Go.Proofs.YtonhhnedfjonoaaGreatDoor
open Go.RowKit

set_option maxRecDepth 100000 in
set_option maxHeartbeats 8000000 in
theorem pplain5_any (x : OpX) (w : World) (hx : OpD w none x) (k5 : x.o.kind = 5) : Calls Tryz.prog 93 #[opV x.o x.v] w fun e w' => e = .returned (plV x) ∧ Fr none w w' := by
  have K0 := Lib.hid k5
  clear k5
  obtain ⟨o, PA, pc⟩ := x
  dsimp only [OpX.v] at *
  have hx : SlR astR w none (.slice PA o.path.length pc) o.path := hx
  generalize hpv : o.path.length = pn at *
  have HPV := Lib.hid hpv
  clear hpv
  unfold opV
  simp only [opL]
  go_enter Tryz.func93, Tryz.ntmps93
  go_upto_region 1 with (fail)
  obtain ⟨B, hB⟩ : ∃ B, B = w.heap.size := ⟨_, rfl⟩
  rw [← hB]
  generalize hWa : w.alloc _ = wa
  have F1 : Fr none w wa := hWa ▸ (Fr.refl none w).alloc _
  have b1 : OpB wa B o (.slice PA pn pc) := by rw [← hWa, hB]; exact blk_new _ _
  have sa : B + 1 = wa.heap.size := by rw [← hWa, hB]; exact (Array.size_push _).symm
  clear hWa
  generalize hWb : wa.alloc _ = w1
  have F2 : Fr none wa w1 := hWb ▸ (Fr.refl none wa).alloc _
  have b2 : OpB w1 (B + 1) op0 (.slice none 0 0) := by rw [← hWb, sa]; exact blk_new _ _
  have b1 := b1.fr F2 (by simp)
  have sb : B + 2 = w1.heap.size := by rw [← hWb]; simp only [World.size_alloc]; omega
  have hBw : w.heap.size ≤ B := Nat.le_of_eq hB.symm
  clear hWb hB sa
  have SB := Lib.hid sb
  clear sb
  have z0 := OpB.free b1 0
  have z1 := OpB.free b1 1
  have e0 : World.cell? w1 ⟨B, 0, none⟩ = _ := OpB.cell b1 0
  have e1 : World.cell? w1 ⟨B, 1, none⟩ = _ := OpB.cell b1 1
  have e2 : World.cell? w1 ⟨B, 2, none⟩ = _ := OpB.cell b1 2
  have e3 : World.cell? w1 ⟨B, 3, none⟩ = _ := OpB.cell b1 3
  have e4 : World.cell? w1 ⟨B, 4, none⟩ = _ := OpB.cell b1 4
  have e5 : World.cell? w1 ⟨B, 5, none⟩ = _ := OpB.cell b1 5
  have e6 : World.cell? w1 ⟨B, 6, none⟩ = _ := OpB.cell b1 6
  have e7 : World.cell? w1 ⟨B, 7, none⟩ = _ := OpB.cell b1 7
  have e8 : World.cell? w1 ⟨B, 8, none⟩ = _ := OpB.cell b1 8
  have e9 : World.cell? w1 ⟨B, 9, none⟩ = _ := OpB.cell b1 9
  have e10 : World.cell? w1 ⟨B, 10, none⟩ = _ := OpB.cell b1 10
  have e11 : World.cell? w1 ⟨B, 11, none⟩ = _ := OpB.cell b1 11
  have el := OpB.lt b1
  simp only [opL, List.getElem?_cons_zero, List.getElem?_cons_succ] at e0 e1 e2 e3 e4 e5 e6 e7 e8 e9 e10 e11
  go_upto_region 2 with (fail)
  obtain ⟨C, hC⟩ : ∃ C, C = w1.heap.size := ⟨_, rfl⟩
  rw [← hC]
  generalize hWc : w1.alloc _ = w2
  have F3 : Fr none w1 w2 := hWc ▸ (Fr.refl none w1).alloc _
  have b3 : OpB w2 C ⟨o.kind, 0, o.amt, 0, nat, nat, 0, 0, 0, []⟩ (.slice none 0 0) := by rw [← hWc, hC]; exact blk_new _ _
  have hCB : B + 1 < C := by rw [hC]; have := SB.out; omega
  have b1 := b1.fr F3 (by simp)
  have hR := b2.fr F3 (by simp)
  have FF : Fr none w w2 := (F1.pure F2).pure F3
  have hBR : w.heap.size ≤ B + 1 := by omega
  have hCw : w.heap.size ≤ C := by omega
  have n1 : some C ≠ some B := fun e => by have := Option.some.inj e; omega
  have n2 : some C ≠ some (B + 1) := fun e => by have := Option.some.inj e; omega
  clear hWc hC z0 z1 e0 e1 e2 e3 e4 e5 e6 e7 e8 e9 e10 e11 el SB F1 F2 F3 b2
  have z0 := OpB.free b1 0
  have z1 := OpB.free b1 1
  have e0 : World.cell? w2 ⟨B, 0, none⟩ = _ := OpB.cell b1 0
  have e1 : World.cell? w2 ⟨B, 1, none⟩ = _ := OpB.cell b1 1
  have e2 : World.cell? w2 ⟨B, 2, none⟩ = _ := OpB.cell b1 2
  have e3 : World.cell? w2 ⟨B, 3, none⟩ = _ := OpB.cell b1 3
  have e4 : World.cell? w2 ⟨B, 4, none⟩ = _ := OpB.cell b1 4
  have e5 : World.cell? w2 ⟨B, 5, none⟩ = _ := OpB.cell b1 5
  have e6 : World.cell? w2 ⟨B, 6, none⟩ = _ := OpB.cell b1 6
  have e7 : World.cell? w2 ⟨B, 7, none⟩ = _ := OpB.cell b1 7
  have e8 : World.cell? w2 ⟨B, 8, none⟩ = _ := OpB.cell b1 8
  have e9 : World.cell? w2 ⟨B, 9, none⟩ = _ := OpB.cell b1 9
  have e10 : World.cell? w2 ⟨B, 10, none⟩ = _ := OpB.cell b1 10
  have e11 : World.cell? w2 ⟨B, 11, none⟩ = _ := OpB.cell b1 11
  have el := OpB.lt b1
  simp only [opL, List.getElem?_cons_zero, List.getElem?_cons_succ] at e0 e1 e2 e3 e4 e5 e6 e7 e8 e9 e10 e11
  go_wp2_with fail
  refine (among_any o.to_ 1 1000 w2).mono ?_
  rintro e w3 ⟨rfl, rfl⟩
  have hl := b3.lt
  have k5 := K0.out
  try dsimp only at k5
  have kk : (o.kind == 5) = true := by rw [beq_iff_eq]; exact k5
  have KK := Lib.hid k5
  have kk1 : (o.kind == 1) = false := by rw [beq_eq_false_iff_ne]; omega
  have kk2 : (o.kind == 2) = false := by rw [beq_eq_false_iff_ne]; omega
  have kk3 : (o.kind == 3) = false := by rw [beq_eq_false_iff_ne]; omega
  have kk4 : (o.kind == 4) = false := by rw [beq_eq_false_iff_ne]; omega
  clear k5
  go_upto_region 17 with (fail)
  refine wp_region_fxM (fun W => Fr (some C) w3 W) (phS [fun W => Fr none w3 W, fun W => OpB W C ⟨o.kind, 0, 0, 0, nat, nat, 0, 0, 0, []⟩ (.slice none 0 0) ∧ Fr (some C) w3 W, fun W => OpB W C ⟨o.kind, 0, 0, 0, nat, nat, 0, 0, o.id, []⟩ (.slice none 0 0) ∧ Fr (some C) w3 W]) [3, 5] [] 165 [none, some 115, none, some 114, some 113, some 112] (by kernel_rfl) (by kernel_rfl) (by kernel_rfl) (Nat.le_refl _) (show (fun W => Fr none w3 W) _ from (Fr.refl _ _).drew) (fun p hp W hW => phG (l := [fun W => Fr none w3 W, fun W => OpB W C ⟨o.kind, 0, 0, 0, nat, nat, 0, 0, 0, []⟩ (.slice none 0 0) ∧ Fr (some C) w3 W, fun W => OpB W C ⟨o.kind, 0, 0, 0, nat, nat, 0, 0, o.id, []⟩ (.slice none 0 0) ∧ Fr (some C) w3 W]) (by intro s hs W h; simp only [List.mem_cons, List.not_mem_nil, or_false] at hs; rcases hs with rfl | rfl | rfl <;> (first | exact h.2 | exact h.mono)) p (Nat.lt_succ_of_le hp) W hW) ?_
  refine FxM.pure (v := ?_) rfl rfl (fun ev w _ E => ?_) ?_; rotate_left
  · obtain ⟨t1, ec, ef, eg⟩ := E.get [] [1] (by kernel_rfl); clear E; go_simp; try with_reducible rfl
  refine FxM.pure (v := ?_) rfl rfl (fun ev w (hS : (fun W => Fr (some C) w3 W) w) E => ?_) ?_; rotate_left
  · obtain ⟨c0, c1, c2, c3, c4, c5, c6, c7, c8, c9, c10, c11⟩ := (b1.fr hS n1).cells
    obtain ⟨t112, ec, ef, eg⟩ := E.get [(0, 0, 112)] [] (by kernel_rfl); clear E; simp only [nthV] at t112; go_simp; try with_reducible rfl
  refine FxM.pure (v := ?_) rfl rfl (fun ev w _ E => ?_) ?_; rotate_left
  · obtain ⟨t4, ec, ef, eg⟩ := E.get [] [4] (by kernel_rfl); clear E; go_simp; try with_reducible rfl
  refine FxM.store 0 rfl rfl (fun ev w (hS : (fun W => Fr none w3 W) w) E => ?_) ?_
  · obtain ⟨t114, ec, ef, eg⟩ := E.get [(0, 2, 114)] [] (by kernel_rfl); clear E; simp only [nthV] at t114
    have hB9 := b3.fr hS (by simp)
    have hz := hB9.frees
    obtain ⟨c0, c1, c2, c3, c4, c5, c6, c7, c8, c9, c10, c11⟩ := hB9.cells
    try dsimp only at c0 c1 c2 c3 c4 c5 c6 c7 c8 c9 c10 c11
    refine ⟨?_, ?_, ?_⟩
    rotate_left
    · go_simp; try with_reducible rfl
    · exact ⟨OpB.amt hB9 0, (hS.mono.setRow (p := ⟨C, 2, none⟩) rfl _)⟩
  refine FxM.pure (v := ?_) rfl rfl (fun ev w _ E => ?_) ?_; rotate_left
  · obtain ⟨t4, ec, ef, eg⟩ := E.get [] [4] (by kernel_rfl); clear E; go_simp; try with_reducible rfl
  refine FxM.store 1 rfl rfl (fun ev w (hS : (fun W => OpB W C ⟨o.kind, 0, 0, 0, nat, nat, 0, 0, 0, []⟩ (.slice none 0 0) ∧ Fr (some C) w3 W) w) E => ?_) ?_
  · obtain ⟨t115, t113, ec, ef, eg⟩ := E.get [(0, 4, 115), (3, 1, 113)] [] (by kernel_rfl); clear E; simp only [nthV] at t115 t113
    have hB9 := hS.1
    have hz := hB9.frees
    obtain ⟨c0, c1, c2, c3, c4, c5, c6, c7, c8, c9, c10, c11⟩ := hB9.cells
    try dsimp only at c0 c1 c2 c3 c4 c5 c6 c7 c8 c9 c10 c11
    refine ⟨?_, ?_, ?_⟩
    rotate_left
    · go_simp; try with_reducible rfl
    · exact ⟨OpB.id hB9 o.id, (hS.2.setRow (p := ⟨C, 10, none⟩) rfl _)⟩
  refine FxM.done (fun W (hW : (fun W => OpB W C ⟨o.kind, 0, 0, 0, nat, nat, 0, 0, o.id, []⟩ (.slice none 0 0) ∧ Fr (some C) w3 W) W) => ?_)
  simp only [fillZ]
  try simp only [Act.put, List.setIfInBounds_toArray, List.set_cons_zero, List.set_cons_succ, List.getElem_toArray, List.getElem_cons_zero, List.getElem_cons_succ]
  obtain ⟨hb, G⟩ := hW
  go_upto_region 18 with (fail)
  obtain ⟨w4, hw4⟩ : ∃ w4, w4 = W := ⟨_, rfl⟩
  rw [← hw4] at hb G ⊢
  clear hw4
  have b1 := b1.fr G n1
  have hR := hR.fr G n2
  have FF := FF.new G hCw
  refine wp_region_fxM (fun _ => True) (phS [fun W => Fr none w4 W, fun W => OpB W (B + 1) ⟨o.kind, 0, 0, 0, nat, nat, 0, 0, o.id, []⟩ (.slice none 0 0) ∧ Fr (some (B + 1)) w4 W]) [4] [0, 2, 3] 165 [some 3, none, some 119, some 118, some 117, some 116] (by kernel_rfl) (by kernel_rfl) (by kernel_rfl) (Nat.le_refl _) (show (fun W => Fr none w4 W) _ from (Fr.refl _ _).drew) (fun _ _ _ _ => trivial) ?_
  refine FxM.load (v := ?_) rfl (by kernel_rfl) (fun ev w (hS : (fun W => Fr none w4 W) w) E => ?_) ?_; rotate_left
  · obtain ⟨c0, c1, c2, c3, c4, c5, c6, c7, c8, c9, c10, c11⟩ := (hb.fr hS (by simp)).cells
    obtain ⟨d0, d1, d2, d3, d4, d5, d6, d7, d8, d9, d10, d11⟩ := (b1.fr hS (by simp)).cells
    dsimp only at c0 c1 c2 c3 c4 c5 c6 c7 c8 c9 c10 c11
    obtain ⟨t4, ec, ef, eg⟩ := E.get [] [4] (by kernel_rfl); clear E; go_simp; try with_reducible rfl
  refine FxM.pure (v := ?_) rfl rfl (fun ev w _ E => ?_) ?_; rotate_left
  · obtain ⟨t1, ec, ef, eg⟩ := E.get [] [1] (by kernel_rfl); clear E; go_simp; try with_reducible rfl
  refine FxM.load (v := ?_) rfl (by kernel_rfl) (fun ev w (hS : (fun W => Fr none w4 W) w) E => ?_) ?_; rotate_left
  · obtain ⟨c0, c1, c2, c3, c4, c5, c6, c7, c8, c9, c10, c11⟩ := (hb.fr hS (by simp)).cells
    obtain ⟨d0, d1, d2, d3, d4, d5, d6, d7, d8, d9, d10, d11⟩ := (b1.fr hS (by simp)).cells
    dsimp only at c0 c1 c2 c3 c4 c5 c6 c7 c8 c9 c10 c11
    obtain ⟨t117, ec, ef, eg⟩ := E.get [(0, 1, 117)] [] (by kernel_rfl); clear E; simp only [nthV] at t117; go_simp; try with_reducible rfl
  refine FxM.call (v := ?_) (f := ?_) (args := ?_) rfl (by kernel_rfl) (fun ev w (hS : (fun W => Fr none w4 W) w) E => ?_) (fun w (hS : (fun W => Fr none w4 W) w) => ?_) ?_; rotate_left 3
  · obtain ⟨c0, c1, c2, c3, c4, c5, c6, c7, c8, c9, c10, c11⟩ := (hb.fr hS (by simp)).cells
    obtain ⟨d0, d1, d2, d3, d4, d5, d6, d7, d8, d9, d10, d11⟩ := (b1.fr hS (by simp)).cells
    dsimp only at c0 c1 c2 c3 c4 c5 c6 c7 c8 c9 c10 c11
    obtain ⟨t118, ec, ef, eg⟩ := E.get [(0, 2, 118)] [] (by kernel_rfl); clear E; simp only [nthV] at t118; go_simp; first | (refine And.intro ?_ ?_ <;> with_reducible rfl) | with_reducible rfl
  · obtain ⟨c0, c1, c2, c3, c4, c5, c6, c7, c8, c9, c10, c11⟩ := (hb.fr hS (by simp)).cells
    obtain ⟨d0, d1, d2, d3, d4, d5, d6, d7, d8, d9, d10, d11⟩ := (b1.fr hS (by simp)).cells
    dsimp only at c0 c1 c2 c3 c4 c5 c6 c7 c8 c9 c10 c11
    refine (among_any _ 1 1000000 w).mono ?_
    rintro e w2 ⟨rfl, rfl⟩
    refine ⟨?_, hS⟩; with_reducible rfl
  refine FxM.store 0 rfl rfl (fun ev w (hS : (fun W => Fr none w4 W) w) E => ?_) ?_
  · obtain ⟨t116, t2, ec, ef, eg⟩ := E.get [(3, 0, 116)] [2] (by kernel_rfl); clear E; simp only [nthV] at t116
    have hz := (hR.fr hS (by simp)).frees
    obtain ⟨c0, c1, c2, c3, c4, c5, c6, c7, c8, c9, c10, c11⟩ := (hR.fr hS (by simp)).cells
    refine ⟨?_, ?_, ?_⟩
    rotate_left
    · go_simp; try with_reducible rfl
    · exact plst hR hS ⟨o.kind, 0, 0, 0, nat, nat, 0, 0, o.id, []⟩ (.slice none 0 0) _ rfl
  refine FxM.pure (v := ?_) rfl rfl (fun ev w _ E => ?_) ?_; rotate_left
  · obtain ⟨t119, ec, ef, eg⟩ := E.get [(1, 3, 119)] [] (by kernel_rfl); clear E; simp only [nthV] at t119; go_simp; try with_reducible rfl
  refine FxM.done (fun W (hW : (fun W => OpB W (B + 1) ⟨o.kind, 0, 0, 0, nat, nat, 0, 0, o.id, []⟩ (.slice none 0 0) ∧ Fr (some (B + 1)) w4 W) W) => ?_)
  simp only [fillZ]
  try simp only [Act.put, List.setIfInBounds_toArray, List.set_cons_zero, List.set_cons_succ, List.getElem_toArray, List.getElem_cons_zero, List.getElem_cons_succ]
  have hRW : OpB W (B + 1) _ _ := hW.1
  have z0 := OpB.free hRW 0
  have z1 := OpB.free hRW 1
  have z2 := OpB.free hRW 2
  have z3 := OpB.free hRW 3
  have z4 := OpB.free hRW 4
  have z5 := OpB.free hRW 5
  have z6 := OpB.free hRW 6
  have z7 := OpB.free hRW 7
  have z8 := OpB.free hRW 8
  have z9 := OpB.free hRW 9
  have z10 := OpB.free hRW 10
  have z11 := OpB.free hRW 11
  obtain ⟨e0, e1, e2, e3, e4, e5, e6, e7, e8, e9, e10, e11⟩ := hRW.cells
  have el := OpB.lt hRW
  try simp only [op0] at e0 e1 e2 e3 e4 e5 e6 e7 e8 e9 e10 e11
  try dsimp only at e0 e1 e2 e3 e4 e5 e6 e7 e8 e9 e10 e11
  go_wp2_with fail
  refine bodyPost_ret (v := .tuple #[opV ⟨o.kind, 0, 0, 0, nat, nat, 0, 0, o.id, []⟩ (.slice none 0 0), .bool (inR o.id 1 1000000)]) (by simp [results, Tryz.results93, go_sem, opV, opL, e0, e1, e2, e3, e4, e5, e6, e7, e8, e9, e10, e11]) rfl ?_
  refine ⟨?_, FF.new hW.2 hBR⟩
  rw [plV_5 _ KK.out]
  all_goals (try simp only [Bool.true_and, Bool.false_and, Bool.and_true, Bool.and_false])
  all_goals (try rfl)
end Go.Proofs.YtonhhnedfjonoaaGreatDoor

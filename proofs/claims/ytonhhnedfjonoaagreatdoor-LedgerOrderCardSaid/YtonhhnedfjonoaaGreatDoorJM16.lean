/- Some texts of this claim, joined: contracts of the functions that it reaches, and plain laws. -/
import Derived.Test.YtonhhnedfjonoaaGreatDoorJM11
import Derived.Test.YtonhhnedfjonoaaGreatDoorProg
import Derived.Test.YtonhhnedfjonoaaGreatDoorJM6
import Derived.Test.YtonhhnedfjonoaaGreatDoorJM10

set_option linter.unusedSimpArgs false
set_option linter.unusedVariables false
/- Walk: ledger.plain at kind 6 (printed by gen_pl.py). -/
namespace Go.Proofs.YtonhhnedfjonoaaGreatDoor
open Go.RowKit

set_option maxRecDepth 100000 in
set_option maxHeartbeats 8000000 in
theorem pplain6_any (x : OpX) (w : World) (hx : OpD w none x) (k6 : x.o.kind = 6) : Calls Tryz.prog 93 #[opV x.o x.v] w fun e w' => e = .returned (plV x) ∧ Fr none w w' := by
  have K0 := Lib.hid k6
  clear k6
  obtain ⟨o, PA, pc⟩ := x
  dsimp only [OpX.v] at *
  have hx : SlR astR w none (.slice PA o.path.length pc) o.path := hx
  generalize hpv : o.path.length = pn at *
  have HPV := Lib.hid hpv
  clear hpv
  unfold opV
  simp only [opL]
  go_enter Tryz.func93, Tryz.ntmps93
  go_upto_region 1 with (fail)
  obtain ⟨B, hB⟩ : ∃ B, B = w.heap.size := ⟨_, rfl⟩
  rw [← hB]
  generalize hWa : w.alloc _ = wa
  have F1 : Fr none w wa := hWa ▸ (Fr.refl none w).alloc _
  have b1 : OpB wa B o (.slice PA pn pc) := by rw [← hWa, hB]; exact blk_new _ _
  have sa : B + 1 = wa.heap.size := by rw [← hWa, hB]; exact (Array.size_push _).symm
  clear hWa
  generalize hWb : wa.alloc _ = w1
  have F2 : Fr none wa w1 := hWb ▸ (Fr.refl none wa).alloc _
  have b2 : OpB w1 (B + 1) op0 (.slice none 0 0) := by rw [← hWb, sa]; exact blk_new _ _
  have b1 := b1.fr F2 (by simp)
  have sb : B + 2 = w1.heap.size := by rw [← hWb]; simp only [World.size_alloc]; omega
  have hBw : w.heap.size ≤ B := Nat.le_of_eq hB.symm
  clear hWb hB sa
  have SB := Lib.hid sb
  clear sb
  have z0 := OpB.free b1 0
  have z1 := OpB.free b1 1
  have e0 : World.cell? w1 ⟨B, 0, none⟩ = _ := OpB.cell b1 0
  have e1 : World.cell? w1 ⟨B, 1, none⟩ = _ := OpB.cell b1 1
  have e2 : World.cell? w1 ⟨B, 2, none⟩ = _ := OpB.cell b1 2
  have e3 : World.cell? w1 ⟨B, 3, none⟩ = _ := OpB.cell b1 3
  have e4 : World.cell? w1 ⟨B, 4, none⟩ = _ := OpB.cell b1 4
  have e5 : World.cell? w1 ⟨B, 5, none⟩ = _ := OpB.cell b1 5
  have e6 : World.cell? w1 ⟨B, 6, none⟩ = _ := OpB.cell b1 6
  have e7 : World.cell? w1 ⟨B, 7, none⟩ = _ := OpB.cell b1 7
  have e8 : World.cell? w1 ⟨B, 8, none⟩ = _ := OpB.cell b1 8
  have e9 : World.cell? w1 ⟨B, 9, none⟩ = _ := OpB.cell b1 9
  have e10 : World.cell? w1 ⟨B, 10, none⟩ = _ := OpB.cell b1 10
  have e11 : World.cell? w1 ⟨B, 11, none⟩ = _ := OpB.cell b1 11
  have el := OpB.lt b1
  simp only [opL, List.getElem?_cons_zero, List.getElem?_cons_succ] at e0 e1 e2 e3 e4 e5 e6 e7 e8 e9 e10 e11
  go_upto_region 2 with (fail)
  obtain ⟨C, hC⟩ : ∃ C, C = w1.heap.size := ⟨_, rfl⟩
  rw [← hC]
  generalize hWc : w1.alloc _ = w2
  have F3 : Fr none w1 w2 := hWc ▸ (Fr.refl none w1).alloc _
  have b3 : OpB w2 C ⟨o.kind, 0, o.amt, 0, nat, nat, 0, 0, 0, []⟩ (.slice none 0 0) := by rw [← hWc, hC]; exact blk_new _ _
  have hCB : B + 1 < C := by rw [hC]; have := SB.out; omega
  have b1 := b1.fr F3 (by simp)
  have hR := b2.fr F3 (by simp)
  have FF : Fr none w w2 := (F1.pure F2).pure F3
  have hBR : w.heap.size ≤ B + 1 := by omega
  have hCw : w.heap.size ≤ C := by omega
  have n1 : some C ≠ some B := fun e => by have := Option.some.inj e; omega
  have n2 : some C ≠ some (B + 1) := fun e => by have := Option.some.inj e; omega
  clear hWc hC z0 z1 e0 e1 e2 e3 e4 e5 e6 e7 e8 e9 e10 e11 el SB F1 F2 F3 b2
  have z0 := OpB.free b1 0
  have z1 := OpB.free b1 1
  have e0 : World.cell? w2 ⟨B, 0, none⟩ = _ := OpB.cell b1 0
  have e1 : World.cell? w2 ⟨B, 1, none⟩ = _ := OpB.cell b1 1
  have e2 : World.cell? w2 ⟨B, 2, none⟩ = _ := OpB.cell b1 2
  have e3 : World.cell? w2 ⟨B, 3, none⟩ = _ := OpB.cell b1 3
  have e4 : World.cell? w2 ⟨B, 4, none⟩ = _ := OpB.cell b1 4
  have e5 : World.cell? w2 ⟨B, 5, none⟩ = _ := OpB.cell b1 5
  have e6 : World.cell? w2 ⟨B, 6, none⟩ = _ := OpB.cell b1 6
  have e7 : World.cell? w2 ⟨B, 7, none⟩ = _ := OpB.cell b1 7
  have e8 : World.cell? w2 ⟨B, 8, none⟩ = _ := OpB.cell b1 8
  have e9 : World.cell? w2 ⟨B, 9, none⟩ = _ := OpB.cell b1 9
  have e10 : World.cell? w2 ⟨B, 10, none⟩ = _ := OpB.cell b1 10
  have e11 : World.cell? w2 ⟨B, 11, none⟩ = _ := OpB.cell b1 11
  have el := OpB.lt b1
  simp only [opL, List.getElem?_cons_zero, List.getElem?_cons_succ] at e0 e1 e2 e3 e4 e5 e6 e7 e8 e9 e10 e11
  go_wp2_with fail
  refine (among_any o.to_ 1 1000 w2).mono ?_
  rintro e w3 ⟨rfl, rfl⟩
  have hl := b3.lt
  have k6 := K0.out
  try dsimp only at k6
  have kk : (o.kind == 6) = true := by rw [beq_iff_eq]; exact k6
  have KK := Lib.hid k6
  have kk1 : (o.kind == 1) = false := by rw [beq_eq_false_iff_ne]; omega
  have kk2 : (o.kind == 2) = false := by rw [beq_eq_false_iff_ne]; omega
  have kk3 : (o.kind == 3) = false := by rw [beq_eq_false_iff_ne]; omega
  have kk4 : (o.kind == 4) = false := by rw [beq_eq_false_iff_ne]; omega
  have kk5 : (o.kind == 5) = false := by rw [beq_eq_false_iff_ne]; omega
  clear k6
  go_upto_region 20 with (fail)
  refine wp_region_fxM (fun W => Fr (some C) w3 W) (phS [fun W => Fr none w3 W, fun W => OpB W C ⟨o.kind, o.to_, o.amt, 0, nat, nat, 0, 0, 0, []⟩ (.slice none 0 0) ∧ Fr (some C) w3 W, fun W => OpB W C ⟨o.kind, o.to_, o.amt, o.lim, nat, nat, 0, 0, 0, []⟩ (.slice none 0 0) ∧ Fr (some C) w3 W, fun W => OpB W C ⟨o.kind, o.to_, o.amt, o.lim, o.ast, nat, 0, 0, 0, []⟩ (.slice none 0 0) ∧ Fr (some C) w3 W, fun W => OpB W C ⟨o.kind, o.to_, o.amt, o.lim, o.ast, o.oth, 0, 0, 0, []⟩ (.slice none 0 0) ∧ Fr (some C) w3 W, fun W => OpB W C ⟨o.kind, o.to_, o.amt, o.lim, o.ast, o.oth, 0, 0, 0, o.path⟩ (.slice PA pn pc) ∧ Fr (some C) w3 W]) [11, 13, 15, 17, 19] [] 165 [none, some 136, none, some 135, none, some 134, none, some 133, none, some 132, some 131, some 130, some 129, some 128, some 127, some 126, some 125, some 124, some 123, some 122] (by kernel_rfl) (by kernel_rfl) (by kernel_rfl) (Nat.le_refl _) (show (fun W => Fr none w3 W) _ from (Fr.refl _ _).drew) (fun p hp W hW => phG (l := [fun W => Fr none w3 W, fun W => OpB W C ⟨o.kind, o.to_, o.amt, 0, nat, nat, 0, 0, 0, []⟩ (.slice none 0 0) ∧ Fr (some C) w3 W, fun W => OpB W C ⟨o.kind, o.to_, o.amt, o.lim, nat, nat, 0, 0, 0, []⟩ (.slice none 0 0) ∧ Fr (some C) w3 W, fun W => OpB W C ⟨o.kind, o.to_, o.amt, o.lim, o.ast, nat, 0, 0, 0, []⟩ (.slice none 0 0) ∧ Fr (some C) w3 W, fun W => OpB W C ⟨o.kind, o.to_, o.amt, o.lim, o.ast, o.oth, 0, 0, 0, []⟩ (.slice none 0 0) ∧ Fr (some C) w3 W, fun W => OpB W C ⟨o.kind, o.to_, o.amt, o.lim, o.ast, o.oth, 0, 0, 0, o.path⟩ (.slice PA pn pc) ∧ Fr (some C) w3 W]) (by intro s hs W h; simp only [List.mem_cons, List.not_mem_nil, or_false] at hs; rcases hs with rfl | rfl | rfl | rfl | rfl | rfl <;> (first | exact h.2 | exact h.mono)) p (Nat.lt_succ_of_le hp) W hW) ?_
  refine FxM.pure (v := ?_) rfl rfl (fun ev w _ E => ?_) ?_; rotate_left
  · obtain ⟨t1, ec, ef, eg⟩ := E.get [] [1] (by kernel_rfl); clear E; go_simp; try with_reducible rfl
  refine FxM.pure (v := ?_) rfl rfl (fun ev w (hS : (fun W => Fr (some C) w3 W) w) E => ?_) ?_; rotate_left
  · obtain ⟨c0, c1, c2, c3, c4, c5, c6, c7, c8, c9, c10, c11⟩ := (b1.fr hS n1).cells
    obtain ⟨t122, ec, ef, eg⟩ := E.get [(0, 0, 122)] [] (by kernel_rfl); clear E; simp only [nthV] at t122; go_simp; try with_reducible rfl
  refine FxM.pure (v := ?_) rfl rfl (fun ev w _ E => ?_) ?_; rotate_left
  · obtain ⟨t1, ec, ef, eg⟩ := E.get [] [1] (by kernel_rfl); clear E; go_simp; try with_reducible rfl
  refine FxM.pure (v := ?_) rfl rfl (fun ev w (hS : (fun W => Fr (some C) w3 W) w) E => ?_) ?_; rotate_left
  · obtain ⟨c0, c1, c2, c3, c4, c5, c6, c7, c8, c9, c10, c11⟩ := (b1.fr hS n1).cells
    obtain ⟨t124, ec, ef, eg⟩ := E.get [(0, 2, 124)] [] (by kernel_rfl); clear E; simp only [nthV] at t124; go_simp; try with_reducible rfl
  refine FxM.pure (v := ?_) rfl rfl (fun ev w _ E => ?_) ?_; rotate_left
  · obtain ⟨t1, ec, ef, eg⟩ := E.get [] [1] (by kernel_rfl); clear E; go_simp; try with_reducible rfl
  refine FxM.pure (v := ?_) rfl rfl (fun ev w (hS : (fun W => Fr (some C) w3 W) w) E => ?_) ?_; rotate_left
  · obtain ⟨c0, c1, c2, c3, c4, c5, c6, c7, c8, c9, c10, c11⟩ := (b1.fr hS n1).cells
    obtain ⟨t126, ec, ef, eg⟩ := E.get [(0, 4, 126)] [] (by kernel_rfl); clear E; simp only [nthV] at t126; go_simp; try with_reducible rfl
  refine FxM.pure (v := ?_) rfl rfl (fun ev w _ E => ?_) ?_; rotate_left
  · obtain ⟨t1, ec, ef, eg⟩ := E.get [] [1] (by kernel_rfl); clear E; go_simp; try with_reducible rfl
  refine FxM.pure (v := ?_) rfl rfl (fun ev w (hS : (fun W => Fr (some C) w3 W) w) E => ?_) ?_; rotate_left
  · obtain ⟨c0, c1, c2, c3, c4, c5, c6, c7, c8, c9, c10, c11⟩ := (b1.fr hS n1).cells
    obtain ⟨t128, ec, ef, eg⟩ := E.get [(0, 6, 128)] [] (by kernel_rfl); clear E; simp only [nthV] at t128; go_simp; try with_reducible rfl
  refine FxM.pure (v := ?_) rfl rfl (fun ev w _ E => ?_) ?_; rotate_left
  · obtain ⟨t1, ec, ef, eg⟩ := E.get [] [1] (by kernel_rfl); clear E; go_simp; try with_reducible rfl
  refine FxM.pure (v := ?_) rfl rfl (fun ev w (hS : (fun W => Fr (some C) w3 W) w) E => ?_) ?_; rotate_left
  · obtain ⟨c0, c1, c2, c3, c4, c5, c6, c7, c8, c9, c10, c11⟩ := (b1.fr hS n1).cells
    obtain ⟨t130, ec, ef, eg⟩ := E.get [(0, 8, 130)] [] (by kernel_rfl); clear E; simp only [nthV] at t130; go_simp; try with_reducible rfl
  refine FxM.pure (v := ?_) rfl rfl (fun ev w _ E => ?_) ?_; rotate_left
  · obtain ⟨t4, ec, ef, eg⟩ := E.get [] [4] (by kernel_rfl); clear E; go_simp; try with_reducible rfl
  refine FxM.store 0 rfl rfl (fun ev w (hS : (fun W => Fr none w3 W) w) E => ?_) ?_
  · obtain ⟨t132, t123, ec, ef, eg⟩ := E.get [(0, 10, 132), (9, 1, 123)] [] (by kernel_rfl); clear E; simp only [nthV] at t132 t123
    have hB9 := b3.fr hS (by simp)
    have hz := hB9.frees
    obtain ⟨c0, c1, c2, c3, c4, c5, c6, c7, c8, c9, c10, c11⟩ := hB9.cells
    try dsimp only at c0 c1 c2 c3 c4 c5 c6 c7 c8 c9 c10 c11
    refine ⟨?_, ?_, ?_⟩
    rotate_left
    · go_simp; try with_reducible rfl
    · exact ⟨OpB.to_ hB9 o.to_, (hS.mono.setRow (p := ⟨C, 1, none⟩) rfl _)⟩
  refine FxM.pure (v := ?_) rfl rfl (fun ev w _ E => ?_) ?_; rotate_left
  · obtain ⟨t4, ec, ef, eg⟩ := E.get [] [4] (by kernel_rfl); clear E; go_simp; try with_reducible rfl
  refine FxM.store 1 rfl rfl (fun ev w (hS : (fun W => OpB W C ⟨o.kind, o.to_, o.amt, 0, nat, nat, 0, 0, 0, []⟩ (.slice none 0 0) ∧ Fr (some C) w3 W) w) E => ?_) ?_
  · obtain ⟨t133, t125, ec, ef, eg⟩ := E.get [(0, 12, 133), (9, 3, 125)] [] (by kernel_rfl); clear E; simp only [nthV] at t133 t125
    have hB9 := hS.1
    have hz := hB9.frees
    obtain ⟨c0, c1, c2, c3, c4, c5, c6, c7, c8, c9, c10, c11⟩ := hB9.cells
    try dsimp only at c0 c1 c2 c3 c4 c5 c6 c7 c8 c9 c10 c11
    refine ⟨?_, ?_, ?_⟩
    rotate_left
    · go_simp; try with_reducible rfl
    · exact ⟨OpB.lim hB9 o.lim, (hS.2.setRow (p := ⟨C, 3, none⟩) rfl _)⟩
  refine FxM.pure (v := ?_) rfl rfl (fun ev w _ E => ?_) ?_; rotate_left
  · obtain ⟨t4, ec, ef, eg⟩ := E.get [] [4] (by kernel_rfl); clear E; go_simp; try with_reducible rfl
  refine FxM.store 2 rfl rfl (fun ev w (hS : (fun W => OpB W C ⟨o.kind, o.to_, o.amt, o.lim, nat, nat, 0, 0, 0, []⟩ (.slice none 0 0) ∧ Fr (some C) w3 W) w) E => ?_) ?_
  · obtain ⟨t134, t127, ec, ef, eg⟩ := E.get [(0, 14, 134), (9, 5, 127)] [] (by kernel_rfl); clear E; simp only [nthV] at t134 t127
    have hB9 := hS.1
    have hz := hB9.frees
    obtain ⟨c0, c1, c2, c3, c4, c5, c6, c7, c8, c9, c10, c11⟩ := hB9.cells
    try dsimp only at c0 c1 c2 c3 c4 c5 c6 c7 c8 c9 c10 c11
    refine ⟨?_, ?_, ?_⟩
    rotate_left
    · go_simp; try with_reducible rfl
    · exact ⟨OpB.ast hB9 o.ast, ((hS.2.setRow (p := ⟨C, 4, none⟩) rfl _).setRow (p := ⟨C, 5, none⟩) rfl _)⟩
  refine FxM.pure (v := ?_) rfl rfl (fun ev w _ E => ?_) ?_; rotate_left
  · obtain ⟨t4, ec, ef, eg⟩ := E.get [] [4] (by kernel_rfl); clear E; go_simp; try with_reducible rfl
  refine FxM.store 3 rfl rfl (fun ev w (hS : (fun W => OpB W C ⟨o.kind, o.to_, o.amt, o.lim, o.ast, nat, 0, 0, 0, []⟩ (.slice none 0 0) ∧ Fr (some C) w3 W) w) E => ?_) ?_
  · obtain ⟨t135, t129, ec, ef, eg⟩ := E.get [(0, 16, 135), (9, 7, 129)] [] (by kernel_rfl); clear E; simp only [nthV] at t135 t129
    have hB9 := hS.1
    have hz := hB9.frees
    obtain ⟨c0, c1, c2, c3, c4, c5, c6, c7, c8, c9, c10, c11⟩ := hB9.cells
    try dsimp only at c0 c1 c2 c3 c4 c5 c6 c7 c8 c9 c10 c11
    refine ⟨?_, ?_, ?_⟩
    rotate_left
    · go_simp; try with_reducible rfl
    · exact ⟨OpB.oth hB9 o.oth, ((hS.2.setRow (p := ⟨C, 6, none⟩) rfl _).setRow (p := ⟨C, 7, none⟩) rfl _)⟩
  refine FxM.pure (v := ?_) rfl rfl (fun ev w _ E => ?_) ?_; rotate_left
  · obtain ⟨t4, ec, ef, eg⟩ := E.get [] [4] (by kernel_rfl); clear E; go_simp; try with_reducible rfl
  refine FxM.store 4 rfl rfl (fun ev w (hS : (fun W => OpB W C ⟨o.kind, o.to_, o.amt, o.lim, o.ast, o.oth, 0, 0, 0, []⟩ (.slice none 0 0) ∧ Fr (some C) w3 W) w) E => ?_) ?_
  · obtain ⟨t136, t131, ec, ef, eg⟩ := E.get [(0, 18, 136), (9, 9, 131)] [] (by kernel_rfl); clear E; simp only [nthV] at t136 t131
    have hB9 := hS.1
    have hz := hB9.frees
    obtain ⟨c0, c1, c2, c3, c4, c5, c6, c7, c8, c9, c10, c11⟩ := hB9.cells
    try dsimp only at c0 c1 c2 c3 c4 c5 c6 c7 c8 c9 c10 c11
    refine ⟨?_, ?_, ?_⟩
    rotate_left
    · go_simp; try with_reducible rfl
    · exact ⟨OpB.path hB9 o.path (.slice PA pn pc), (hS.2.setRow (p := ⟨C, 11, none⟩) rfl _)⟩
  refine FxM.done (fun W (hW : (fun W => OpB W C ⟨o.kind, o.to_, o.amt, o.lim, o.ast, o.oth, 0, 0, 0, o.path⟩ (.slice PA pn pc) ∧ Fr (some C) w3 W) W) => ?_)
  simp only [fillZ]
  try simp only [Act.put, List.setIfInBounds_toArray, List.set_cons_zero, List.set_cons_succ, List.getElem_toArray, List.getElem_cons_zero, List.getElem_cons_succ]
  obtain ⟨hb, G⟩ := hW
  go_upto_region 21 with (fail)
  obtain ⟨w4, hw4⟩ : ∃ w4, w4 = W := ⟨_, rfl⟩
  rw [← hw4] at hb G ⊢
  clear hw4
  have b1 := b1.fr G n1
  have hR := hR.fr G n2
  have FF := FF.new G hCw
  refine wp_region_fxM (fun _ => True) (phS [fun W => Fr none w4 W, fun W => OpB W (B + 1) ⟨o.kind, o.to_, o.amt, o.lim, o.ast, o.oth, 0, 0, 0, o.path⟩ (.slice PA pn pc) ∧ Fr (some (B + 1)) w4 W]) [27] [0, 4, 5, 9, 10, 14, 15, 19, 20, 24, 25] 165 [some 3, none, some 163, some 162, some 161, some 160, some 159, some 158, some 157, some 156, some 155, some 154, some 153, some 152, some 151, some 150, some 149, some 148, some 147, some 146, some 145, some 144, some 143, some 142, some 141, some 140, some 139, some 138, some 137] (by kernel_rfl) (by kernel_rfl) (by kernel_rfl) (Nat.le_refl _) (show (fun W => Fr none w4 W) _ from (Fr.refl _ _).drew) (fun _ _ _ _ => trivial) ?_
  refine FxM.load (v := ?_) rfl (by kernel_rfl) (fun ev w (hS : (fun W => Fr none w4 W) w) E => ?_) ?_; rotate_left
  · obtain ⟨c0, c1, c2, c3, c4, c5, c6, c7, c8, c9, c10, c11⟩ := (hb.fr hS (by simp)).cells
    obtain ⟨d0, d1, d2, d3, d4, d5, d6, d7, d8, d9, d10, d11⟩ := (b1.fr hS (by simp)).cells
    dsimp only at c0 c1 c2 c3 c4 c5 c6 c7 c8 c9 c10 c11
    obtain ⟨t4, ec, ef, eg⟩ := E.get [] [4] (by kernel_rfl); clear E; go_simp; try with_reducible rfl
  refine FxM.pure (v := ?_) rfl rfl (fun ev w _ E => ?_) ?_; rotate_left
  · obtain ⟨t5, ec, ef, eg⟩ := E.get [] [5] (by kernel_rfl); clear E; go_simp; try with_reducible rfl
  refine FxM.pure (v := ?_) rfl rfl (fun ev w _ E => ?_) ?_; rotate_left
  · obtain ⟨t138, ec, ef, eg⟩ := E.get [(0, 1, 138)] [] (by kernel_rfl); clear E; simp only [nthV] at t138; go_simp; try with_reducible rfl
  cases hv0 : inR o.to_ 1 1000 with
  | true =>
    refine FxM.gpure (v := ?_) rfl 0 rfl rfl rfl (fun ev w _ E => ?_) ?_; rotate_left
    · obtain ⟨t1, ec, ef, eg⟩ := E.get [] [1] (by kernel_rfl); clear E; go_simp; try with_reducible rfl
    refine FxM.gload (v := ?_) rfl 1 rfl rfl (by kernel_rfl) (fun ev w (hS : (fun W => Fr none w4 W) w) E => ?_) ?_; rotate_left
    · obtain ⟨c0, c1, c2, c3, c4, c5, c6, c7, c8, c9, c10, c11⟩ := (hb.fr hS (by simp)).cells
      obtain ⟨d0, d1, d2, d3, d4, d5, d6, d7, d8, d9, d10, d11⟩ := (b1.fr hS (by simp)).cells
      dsimp only at c0 c1 c2 c3 c4 c5 c6 c7 c8 c9 c10 c11
      obtain ⟨t140, ec, ef, eg⟩ := E.get [(0, 3, 140)] [] (by kernel_rfl); clear E; simp only [nthV] at t140; go_simp; try with_reducible rfl
    refine FxM.gcall (v := ?_) (f := ?_) (args := ?_) rfl 2 rfl rfl (by kernel_rfl) (fun ev w (hS : (fun W => Fr none w4 W) w) E => ?_) (fun w (hS : (fun W => Fr none w4 W) w) => ?_) ?_; rotate_left 3
    · obtain ⟨c0, c1, c2, c3, c4, c5, c6, c7, c8, c9, c10, c11⟩ := (hb.fr hS (by simp)).cells
      obtain ⟨d0, d1, d2, d3, d4, d5, d6, d7, d8, d9, d10, d11⟩ := (b1.fr hS (by simp)).cells
      dsimp only at c0 c1 c2 c3 c4 c5 c6 c7 c8 c9 c10 c11
      obtain ⟨t141, ec, ef, eg⟩ := E.get [(0, 4, 141)] [] (by kernel_rfl); clear E; simp only [nthV] at t141; go_simp; first | (refine And.intro ?_ ?_ <;> with_reducible rfl) | with_reducible rfl
    · obtain ⟨c0, c1, c2, c3, c4, c5, c6, c7, c8, c9, c10, c11⟩ := (hb.fr hS (by simp)).cells
      obtain ⟨d0, d1, d2, d3, d4, d5, d6, d7, d8, d9, d10, d11⟩ := (b1.fr hS (by simp)).cells
      dsimp only at c0 c1 c2 c3 c4 c5 c6 c7 c8 c9 c10 c11
      refine (ppos_any _ w).mono ?_
      rintro e w2 ⟨rfl, rfl⟩
      refine ⟨?_, hS⟩; with_reducible rfl
    refine FxM.pure (v := ?_) rfl rfl (fun ev w _ E => ?_) ?_; rotate_left
    · obtain ⟨t139, t142, ec, ef, eg⟩ := E.get [(3, 2, 139), (0, 5, 142)] [] (by kernel_rfl); clear E; simp only [nthV] at t139 t142; go_simp; try with_reducible rfl
    refine FxM.pure (v := ?_) rfl rfl (fun ev w _ E => ?_) ?_; rotate_left
    · obtain ⟨t143, ec, ef, eg⟩ := E.get [(0, 6, 143)] [] (by kernel_rfl); clear E; simp only [nthV] at t143; go_simp; try with_reducible rfl
    cases hv1 : pos1 o.amt with
    | true =>
      refine FxM.gpure (v := ?_) rfl 0 rfl rfl rfl (fun ev w _ E => ?_) ?_; rotate_left
      · obtain ⟨t1, ec, ef, eg⟩ := E.get [] [1] (by kernel_rfl); clear E; go_simp; try with_reducible rfl
      refine FxM.gload (v := ?_) rfl 1 rfl rfl (by kernel_rfl) (fun ev w (hS : (fun W => Fr none w4 W) w) E => ?_) ?_; rotate_left
      · obtain ⟨c0, c1, c2, c3, c4, c5, c6, c7, c8, c9, c10, c11⟩ := (hb.fr hS (by simp)).cells
        obtain ⟨d0, d1, d2, d3, d4, d5, d6, d7, d8, d9, d10, d11⟩ := (b1.fr hS (by simp)).cells
        dsimp only at c0 c1 c2 c3 c4 c5 c6 c7 c8 c9 c10 c11
        obtain ⟨t145, ec, ef, eg⟩ := E.get [(0, 8, 145)] [] (by kernel_rfl); clear E; simp only [nthV] at t145; go_simp; try with_reducible rfl
      refine FxM.gcall (v := ?_) (f := ?_) (args := ?_) rfl 2 rfl rfl (by kernel_rfl) (fun ev w (hS : (fun W => Fr none w4 W) w) E => ?_) (fun w (hS : (fun W => Fr none w4 W) w) => ?_) ?_; rotate_left 3
      · obtain ⟨c0, c1, c2, c3, c4, c5, c6, c7, c8, c9, c10, c11⟩ := (hb.fr hS (by simp)).cells
        obtain ⟨d0, d1, d2, d3, d4, d5, d6, d7, d8, d9, d10, d11⟩ := (b1.fr hS (by simp)).cells
        dsimp only at c0 c1 c2 c3 c4 c5 c6 c7 c8 c9 c10 c11
        obtain ⟨t146, ec, ef, eg⟩ := E.get [(0, 9, 146)] [] (by kernel_rfl); clear E; simp only [nthV] at t146; go_simp; first | (refine And.intro ?_ ?_ <;> with_reducible rfl) | with_reducible rfl
      · obtain ⟨c0, c1, c2, c3, c4, c5, c6, c7, c8, c9, c10, c11⟩ := (hb.fr hS (by simp)).cells
        obtain ⟨d0, d1, d2, d3, d4, d5, d6, d7, d8, d9, d10, d11⟩ := (b1.fr hS (by simp)).cells
        dsimp only at c0 c1 c2 c3 c4 c5 c6 c7 c8 c9 c10 c11
        refine (ppos_any _ w).mono ?_
        rintro e w2 ⟨rfl, rfl⟩
        refine ⟨?_, hS⟩; with_reducible rfl
      refine FxM.pure (v := ?_) rfl rfl (fun ev w _ E => ?_) ?_; rotate_left
      · obtain ⟨t144, t147, ec, ef, eg⟩ := E.get [(3, 7, 144), (0, 10, 147)] [] (by kernel_rfl); clear E; simp only [nthV] at t144 t147; go_simp; try with_reducible rfl
      refine FxM.pure (v := ?_) rfl rfl (fun ev w _ E => ?_) ?_; rotate_left
      · obtain ⟨t148, ec, ef, eg⟩ := E.get [(0, 11, 148)] [] (by kernel_rfl); clear E; simp only [nthV] at t148; go_simp; try with_reducible rfl
      cases hv2 : pos1 o.lim with
      | true =>
        refine FxM.gpure (v := ?_) rfl 0 rfl rfl rfl (fun ev w _ E => ?_) ?_; rotate_left
        · obtain ⟨t1, ec, ef, eg⟩ := E.get [] [1] (by kernel_rfl); clear E; go_simp; try with_reducible rfl
        refine FxM.gload (v := ?_) rfl 1 rfl rfl (by kernel_rfl) (fun ev w (hS : (fun W => Fr none w4 W) w) E => ?_) ?_; rotate_left
        · obtain ⟨c0, c1, c2, c3, c4, c5, c6, c7, c8, c9, c10, c11⟩ := (hb.fr hS (by simp)).cells
          obtain ⟨d0, d1, d2, d3, d4, d5, d6, d7, d8, d9, d10, d11⟩ := (b1.fr hS (by simp)).cells
          dsimp only at c0 c1 c2 c3 c4 c5 c6 c7 c8 c9 c10 c11
          obtain ⟨t150, ec, ef, eg⟩ := E.get [(0, 13, 150)] [] (by kernel_rfl); clear E; simp only [nthV] at t150; go_simp; try with_reducible rfl
        refine FxM.gcall (v := ?_) (f := ?_) (args := ?_) rfl 2 rfl rfl (by kernel_rfl) (fun ev w (hS : (fun W => Fr none w4 W) w) E => ?_) (fun w (hS : (fun W => Fr none w4 W) w) => ?_) ?_; rotate_left 3
        · obtain ⟨c0, c1, c2, c3, c4, c5, c6, c7, c8, c9, c10, c11⟩ := (hb.fr hS (by simp)).cells
          obtain ⟨d0, d1, d2, d3, d4, d5, d6, d7, d8, d9, d10, d11⟩ := (b1.fr hS (by simp)).cells
          dsimp only at c0 c1 c2 c3 c4 c5 c6 c7 c8 c9 c10 c11
          obtain ⟨t151, ec, ef, eg⟩ := E.get [(0, 14, 151)] [] (by kernel_rfl); clear E; simp only [nthV] at t151; go_simp; first | (refine And.intro ?_ ?_ <;> with_reducible rfl) | with_reducible rfl
        · obtain ⟨c0, c1, c2, c3, c4, c5, c6, c7, c8, c9, c10, c11⟩ := (hb.fr hS (by simp)).cells
          obtain ⟨d0, d1, d2, d3, d4, d5, d6, d7, d8, d9, d10, d11⟩ := (b1.fr hS (by simp)).cells
          dsimp only at c0 c1 c2 c3 c4 c5 c6 c7 c8 c9 c10 c11
          refine (pvast_any o.ast w).mono ?_
          rintro e w2 ⟨rfl, F2⟩
          refine ⟨?_, hS.pure F2⟩; with_reducible rfl
        refine FxM.pure (v := ?_) rfl rfl (fun ev w _ E => ?_) ?_; rotate_left
        · obtain ⟨t149, t152, ec, ef, eg⟩ := E.get [(3, 12, 149), (0, 15, 152)] [] (by kernel_rfl); clear E; simp only [nthV] at t149 t152; go_simp; try with_reducible rfl
        refine FxM.pure (v := ?_) rfl rfl (fun ev w _ E => ?_) ?_; rotate_left
        · obtain ⟨t153, ec, ef, eg⟩ := E.get [(0, 16, 153)] [] (by kernel_rfl); clear E; simp only [nthV] at t153; go_simp; try with_reducible rfl
        cases hv3 : vAst o.ast with
        | true =>
          refine FxM.gpure (v := ?_) rfl 0 rfl rfl rfl (fun ev w _ E => ?_) ?_; rotate_left
          · obtain ⟨t1, ec, ef, eg⟩ := E.get [] [1] (by kernel_rfl); clear E; go_simp; try with_reducible rfl
          refine FxM.gload (v := ?_) rfl 1 rfl rfl (by kernel_rfl) (fun ev w (hS : (fun W => Fr none w4 W) w) E => ?_) ?_; rotate_left
          · obtain ⟨c0, c1, c2, c3, c4, c5, c6, c7, c8, c9, c10, c11⟩ := (hb.fr hS (by simp)).cells
            obtain ⟨d0, d1, d2, d3, d4, d5, d6, d7, d8, d9, d10, d11⟩ := (b1.fr hS (by simp)).cells
            dsimp only at c0 c1 c2 c3 c4 c5 c6 c7 c8 c9 c10 c11
            obtain ⟨t155, ec, ef, eg⟩ := E.get [(0, 18, 155)] [] (by kernel_rfl); clear E; simp only [nthV] at t155; go_simp; try with_reducible rfl
          refine FxM.gcall (v := ?_) (f := ?_) (args := ?_) rfl 2 rfl rfl (by kernel_rfl) (fun ev w (hS : (fun W => Fr none w4 W) w) E => ?_) (fun w (hS : (fun W => Fr none w4 W) w) => ?_) ?_; rotate_left 3
          · obtain ⟨c0, c1, c2, c3, c4, c5, c6, c7, c8, c9, c10, c11⟩ := (hb.fr hS (by simp)).cells
            obtain ⟨d0, d1, d2, d3, d4, d5, d6, d7, d8, d9, d10, d11⟩ := (b1.fr hS (by simp)).cells
            dsimp only at c0 c1 c2 c3 c4 c5 c6 c7 c8 c9 c10 c11
            obtain ⟨t156, ec, ef, eg⟩ := E.get [(0, 19, 156)] [] (by kernel_rfl); clear E; simp only [nthV] at t156; go_simp; first | (refine And.intro ?_ ?_ <;> with_reducible rfl) | with_reducible rfl
          · obtain ⟨c0, c1, c2, c3, c4, c5, c6, c7, c8, c9, c10, c11⟩ := (hb.fr hS (by simp)).cells
            obtain ⟨d0, d1, d2, d3, d4, d5, d6, d7, d8, d9, d10, d11⟩ := (b1.fr hS (by simp)).cells
            dsimp only at c0 c1 c2 c3 c4 c5 c6 c7 c8 c9 c10 c11
            refine (pvast_any o.oth w).mono ?_
            rintro e w2 ⟨rfl, F2⟩
            refine ⟨?_, hS.pure F2⟩; with_reducible rfl
          refine FxM.pure (v := ?_) rfl rfl (fun ev w _ E => ?_) ?_; rotate_left
          · obtain ⟨t154, t157, ec, ef, eg⟩ := E.get [(3, 17, 154), (0, 20, 157)] [] (by kernel_rfl); clear E; simp only [nthV] at t154 t157; go_simp; try with_reducible rfl
          refine FxM.pure (v := ?_) rfl rfl (fun ev w _ E => ?_) ?_; rotate_left
          · obtain ⟨t158, ec, ef, eg⟩ := E.get [(0, 21, 158)] [] (by kernel_rfl); clear E; simp only [nthV] at t158; go_simp; try with_reducible rfl
          cases hv4 : vAst o.oth with
          | true =>
            refine FxM.gpure (v := ?_) rfl 0 rfl rfl rfl (fun ev w _ E => ?_) ?_; rotate_left
            · obtain ⟨t1, ec, ef, eg⟩ := E.get [] [1] (by kernel_rfl); clear E; go_simp; try with_reducible rfl
            refine FxM.gload (v := ?_) rfl 1 rfl rfl (by kernel_rfl) (fun ev w (hS : (fun W => Fr none w4 W) w) E => ?_) ?_; rotate_left
            · obtain ⟨c0, c1, c2, c3, c4, c5, c6, c7, c8, c9, c10, c11⟩ := (hb.fr hS (by simp)).cells
              obtain ⟨d0, d1, d2, d3, d4, d5, d6, d7, d8, d9, d10, d11⟩ := (b1.fr hS (by simp)).cells
              dsimp only at c0 c1 c2 c3 c4 c5 c6 c7 c8 c9 c10 c11
              obtain ⟨t160, ec, ef, eg⟩ := E.get [(0, 23, 160)] [] (by kernel_rfl); clear E; simp only [nthV] at t160; go_simp; try with_reducible rfl
            refine FxM.gcall (v := ?_) (f := ?_) (args := ?_) rfl 2 rfl rfl (by kernel_rfl) (fun ev w (hS : (fun W => Fr none w4 W) w) E => ?_) (fun w (hS : (fun W => Fr none w4 W) w) => ?_) ?_; rotate_left 3
            · obtain ⟨c0, c1, c2, c3, c4, c5, c6, c7, c8, c9, c10, c11⟩ := (hb.fr hS (by simp)).cells
              obtain ⟨d0, d1, d2, d3, d4, d5, d6, d7, d8, d9, d10, d11⟩ := (b1.fr hS (by simp)).cells
              dsimp only at c0 c1 c2 c3 c4 c5 c6 c7 c8 c9 c10 c11
              obtain ⟨t161, ec, ef, eg⟩ := E.get [(0, 24, 161)] [] (by kernel_rfl); clear E; simp only [nthV] at t161; go_simp; first | (refine And.intro ?_ ?_ <;> with_reducible rfl) | with_reducible rfl
            · obtain ⟨c0, c1, c2, c3, c4, c5, c6, c7, c8, c9, c10, c11⟩ := (hb.fr hS (by simp)).cells
              obtain ⟨d0, d1, d2, d3, d4, d5, d6, d7, d8, d9, d10, d11⟩ := (b1.fr hS (by simp)).cells
              dsimp only at c0 c1 c2 c3 c4 c5 c6 c7 c8 c9 c10 c11
              refine (ppth_any o.path _ w (SlR.fr (SlR.fr hx FF) hS)).mono ?_
              rintro e w2 ⟨rfl, F2⟩
              refine ⟨?_, hS.pure F2⟩; with_reducible rfl
            refine FxM.pure (v := ?_) rfl rfl (fun ev w _ E => ?_) ?_; rotate_left
            · obtain ⟨t159, t162, ec, ef, eg⟩ := E.get [(3, 22, 159), (0, 25, 162)] [] (by kernel_rfl); clear E; simp only [nthV] at t159 t162; go_simp; try with_reducible rfl
            refine FxM.store 0 rfl rfl (fun ev w (hS : (fun W => Fr none w4 W) w) E => ?_) ?_
            · obtain ⟨t137, t2, ec, ef, eg⟩ := E.get [(26, 0, 137)] [2] (by kernel_rfl); clear E; simp only [nthV] at t137
              have hz := (hR.fr hS (by simp)).frees
              obtain ⟨c0, c1, c2, c3, c4, c5, c6, c7, c8, c9, c10, c11⟩ := (hR.fr hS (by simp)).cells
              refine ⟨?_, ?_, ?_⟩
              rotate_left
              · go_simp; try with_reducible rfl
              · exact plst hR hS ⟨o.kind, o.to_, o.amt, o.lim, o.ast, o.oth, 0, 0, 0, o.path⟩ (.slice PA pn pc) _ rfl
            refine FxM.pure (v := ?_) rfl rfl (fun ev w _ E => ?_) ?_; rotate_left
            · obtain ⟨t163, ec, ef, eg⟩ := E.get [(1, 26, 163)] [] (by kernel_rfl); clear E; simp only [nthV] at t163; go_simp; try with_reducible rfl
            refine FxM.done (fun W (hW : (fun W => OpB W (B + 1) ⟨o.kind, o.to_, o.amt, o.lim, o.ast, o.oth, 0, 0, 0, o.path⟩ (.slice PA pn pc) ∧ Fr (some (B + 1)) w4 W) W) => ?_)
            simp only [fillZ]
            try simp only [Act.put, List.setIfInBounds_toArray, List.set_cons_zero, List.set_cons_succ, List.getElem_toArray, List.getElem_cons_zero, List.getElem_cons_succ]
            have hRW : OpB W (B + 1) _ _ := hW.1
            have z0 := OpB.free hRW 0
            have z1 := OpB.free hRW 1
            have z2 := OpB.free hRW 2
            have z3 := OpB.free hRW 3
            have z4 := OpB.free hRW 4
            have z5 := OpB.free hRW 5
            have z6 := OpB.free hRW 6
            have z7 := OpB.free hRW 7
            have z8 := OpB.free hRW 8
            have z9 := OpB.free hRW 9
            have z10 := OpB.free hRW 10
            have z11 := OpB.free hRW 11
            obtain ⟨e0, e1, e2, e3, e4, e5, e6, e7, e8, e9, e10, e11⟩ := hRW.cells
            have el := OpB.lt hRW
            try simp only [op0] at e0 e1 e2 e3 e4 e5 e6 e7 e8 e9 e10 e11
            try dsimp only at e0 e1 e2 e3 e4 e5 e6 e7 e8 e9 e10 e11
            go_wp2_with fail
            refine bodyPost_ret (v := .tuple #[opV ⟨o.kind, o.to_, o.amt, o.lim, o.ast, o.oth, 0, 0, 0, o.path⟩ (.slice PA pn pc), .bool (vPath o.path)]) (by simp [results, Tryz.results93, go_sem, opV, opL, e0, e1, e2, e3, e4, e5, e6, e7, e8, e9, e10, e11]) rfl ?_
            refine ⟨?_, FF.new hW.2 hBR⟩
            rw [plV_6 _ KK.out]
            rw [← HPV.out]
            dsimp only [OpX.v]
            all_goals (try simp only [hv0, hv1, hv2, hv3, hv4, Bool.true_and, Bool.false_and, Bool.and_true, Bool.and_false])
            all_goals (try rfl)
          | false =>
            refine FxM.skip rfl 0 rfl (by simp only [nthV]; intro h; cases h) rfl ?_
            refine FxM.skip rfl 1 rfl (by simp only [nthV]; intro h; cases h) rfl ?_
            refine FxM.skip rfl 2 rfl (by simp only [nthV]; intro h; cases h) rfl ?_
            refine FxM.pure (v := ?_) rfl rfl (fun ev w _ E => ?_) ?_; rotate_left
            · obtain ⟨t159, t162, ec, ef, eg⟩ := E.get [(3, 22, 159), (0, 25, 162)] [] (by kernel_rfl); clear E; simp only [nthV] at t159 t162; go_simp; try with_reducible rfl
            refine FxM.store 0 rfl rfl (fun ev w (hS : (fun W => Fr none w4 W) w) E => ?_) ?_
            · obtain ⟨t137, t2, ec, ef, eg⟩ := E.get [(26, 0, 137)] [2] (by kernel_rfl); clear E; simp only [nthV] at t137
              have hz := (hR.fr hS (by simp)).frees
              obtain ⟨c0, c1, c2, c3, c4, c5, c6, c7, c8, c9, c10, c11⟩ := (hR.fr hS (by simp)).cells
              refine ⟨?_, ?_, ?_⟩
              rotate_left
              · go_simp; try with_reducible rfl
              · exact plst hR hS ⟨o.kind, o.to_, o.amt, o.lim, o.ast, o.oth, 0, 0, 0, o.path⟩ (.slice PA pn pc) _ rfl
            refine FxM.pure (v := ?_) rfl rfl (fun ev w _ E => ?_) ?_; rotate_left
            · obtain ⟨t163, ec, ef, eg⟩ := E.get [(1, 26, 163)] [] (by kernel_rfl); clear E; simp only [nthV] at t163; go_simp; try with_reducible rfl
            refine FxM.done (fun W (hW : (fun W => OpB W (B + 1) ⟨o.kind, o.to_, o.amt, o.lim, o.ast, o.oth, 0, 0, 0, o.path⟩ (.slice PA pn pc) ∧ Fr (some (B + 1)) w4 W) W) => ?_)
            simp only [fillZ]
            try simp only [Act.put, List.setIfInBounds_toArray, List.set_cons_zero, List.set_cons_succ, List.getElem_toArray, List.getElem_cons_zero, List.getElem_cons_succ]
            have hRW : OpB W (B + 1) _ _ := hW.1
            have z0 := OpB.free hRW 0
            have z1 := OpB.free hRW 1
            have z2 := OpB.free hRW 2
            have z3 := OpB.free hRW 3
            have z4 := OpB.free hRW 4
            have z5 := OpB.free hRW 5
            have z6 := OpB.free hRW 6
            have z7 := OpB.free hRW 7
            have z8 := OpB.free hRW 8
            have z9 := OpB.free hRW 9
            have z10 := OpB.free hRW 10
            have z11 := OpB.free hRW 11
            obtain ⟨e0, e1, e2, e3, e4, e5, e6, e7, e8, e9, e10, e11⟩ := hRW.cells
            have el := OpB.lt hRW
            try simp only [op0] at e0 e1 e2 e3 e4 e5 e6 e7 e8 e9 e10 e11
            try dsimp only at e0 e1 e2 e3 e4 e5 e6 e7 e8 e9 e10 e11
            go_wp2_with fail
            refine bodyPost_ret (v := .tuple #[opV ⟨o.kind, o.to_, o.amt, o.lim, o.ast, o.oth, 0, 0, 0, o.path⟩ (.slice PA pn pc), .bool (false)]) (by simp [results, Tryz.results93, go_sem, opV, opL, e0, e1, e2, e3, e4, e5, e6, e7, e8, e9, e10, e11]) rfl ?_
            refine ⟨?_, FF.new hW.2 hBR⟩
            rw [plV_6 _ KK.out]
            rw [← HPV.out]
            dsimp only [OpX.v]
            all_goals (try simp only [hv0, hv1, hv2, hv3, hv4, Bool.true_and, Bool.false_and, Bool.and_true, Bool.and_false])
            all_goals (try rfl)
        | false =>
          refine FxM.skip rfl 0 rfl (by simp only [nthV]; intro h; cases h) rfl ?_
          refine FxM.skip rfl 1 rfl (by simp only [nthV]; intro h; cases h) rfl ?_
          refine FxM.skip rfl 2 rfl (by simp only [nthV]; intro h; cases h) rfl ?_
          refine FxM.pure (v := ?_) rfl rfl (fun ev w _ E => ?_) ?_; rotate_left
          · obtain ⟨t154, t157, ec, ef, eg⟩ := E.get [(3, 17, 154), (0, 20, 157)] [] (by kernel_rfl); clear E; simp only [nthV] at t154 t157; go_simp; try with_reducible rfl
          refine FxM.pure (v := ?_) rfl rfl (fun ev w _ E => ?_) ?_; rotate_left
          · obtain ⟨t158, ec, ef, eg⟩ := E.get [(0, 21, 158)] [] (by kernel_rfl); clear E; simp only [nthV] at t158; go_simp; try with_reducible rfl
          refine FxM.skip rfl 0 rfl (by simp only [nthV]; intro h; cases h) rfl ?_
          refine FxM.skip rfl 1 rfl (by simp only [nthV]; intro h; cases h) rfl ?_
          refine FxM.skip rfl 2 rfl (by simp only [nthV]; intro h; cases h) rfl ?_
          refine FxM.pure (v := ?_) rfl rfl (fun ev w _ E => ?_) ?_; rotate_left
          · obtain ⟨t159, t162, ec, ef, eg⟩ := E.get [(3, 22, 159), (0, 25, 162)] [] (by kernel_rfl); clear E; simp only [nthV] at t159 t162; go_simp; try with_reducible rfl
          refine FxM.store 0 rfl rfl (fun ev w (hS : (fun W => Fr none w4 W) w) E => ?_) ?_
          · obtain ⟨t137, t2, ec, ef, eg⟩ := E.get [(26, 0, 137)] [2] (by kernel_rfl); clear E; simp only [nthV] at t137
            have hz := (hR.fr hS (by simp)).frees
            obtain ⟨c0, c1, c2, c3, c4, c5, c6, c7, c8, c9, c10, c11⟩ := (hR.fr hS (by simp)).cells
            refine ⟨?_, ?_, ?_⟩
            rotate_left
            · go_simp; try with_reducible rfl
            · exact plst hR hS ⟨o.kind, o.to_, o.amt, o.lim, o.ast, o.oth, 0, 0, 0, o.path⟩ (.slice PA pn pc) _ rfl
          refine FxM.pure (v := ?_) rfl rfl (fun ev w _ E => ?_) ?_; rotate_left
          · obtain ⟨t163, ec, ef, eg⟩ := E.get [(1, 26, 163)] [] (by kernel_rfl); clear E; simp only [nthV] at t163; go_simp; try with_reducible rfl
          refine FxM.done (fun W (hW : (fun W => OpB W (B + 1) ⟨o.kind, o.to_, o.amt, o.lim, o.ast, o.oth, 0, 0, 0, o.path⟩ (.slice PA pn pc) ∧ Fr (some (B + 1)) w4 W) W) => ?_)
          simp only [fillZ]
          try simp only [Act.put, List.setIfInBounds_toArray, List.set_cons_zero, List.set_cons_succ, List.getElem_toArray, List.getElem_cons_zero, List.getElem_cons_succ]
          have hRW : OpB W (B + 1) _ _ := hW.1
          have z0 := OpB.free hRW 0
          have z1 := OpB.free hRW 1
          have z2 := OpB.free hRW 2
          have z3 := OpB.free hRW 3
          have z4 := OpB.free hRW 4
          have z5 := OpB.free hRW 5
          have z6 := OpB.free hRW 6
          have z7 := OpB.free hRW 7
          have z8 := OpB.free hRW 8
          have z9 := OpB.free hRW 9
          have z10 := OpB.free hRW 10
          have z11 := OpB.free hRW 11
          obtain ⟨e0, e1, e2, e3, e4, e5, e6, e7, e8, e9, e10, e11⟩ := hRW.cells
          have el := OpB.lt hRW
          try simp only [op0] at e0 e1 e2 e3 e4 e5 e6 e7 e8 e9 e10 e11
          try dsimp only at e0 e1 e2 e3 e4 e5 e6 e7 e8 e9 e10 e11
          go_wp2_with fail
          refine bodyPost_ret (v := .tuple #[opV ⟨o.kind, o.to_, o.amt, o.lim, o.ast, o.oth, 0, 0, 0, o.path⟩ (.slice PA pn pc), .bool (false)]) (by simp [results, Tryz.results93, go_sem, opV, opL, e0, e1, e2, e3, e4, e5, e6, e7, e8, e9, e10, e11]) rfl ?_
          refine ⟨?_, FF.new hW.2 hBR⟩
          rw [plV_6 _ KK.out]
          rw [← HPV.out]
          dsimp only [OpX.v]
          all_goals (try simp only [hv0, hv1, hv2, hv3, Bool.true_and, Bool.false_and, Bool.and_true, Bool.and_false])
          all_goals (try rfl)
      | false =>
        refine FxM.skip rfl 0 rfl (by simp only [nthV]; intro h; cases h) rfl ?_
        refine FxM.skip rfl 1 rfl (by simp only [nthV]; intro h; cases h) rfl ?_
        refine FxM.skip rfl 2 rfl (by simp only [nthV]; intro h; cases h) rfl ?_
        refine FxM.pure (v := ?_) rfl rfl (fun ev w _ E => ?_) ?_; rotate_left
        · obtain ⟨t149, t152, ec, ef, eg⟩ := E.get [(3, 12, 149), (0, 15, 152)] [] (by kernel_rfl); clear E; simp only [nthV] at t149 t152; go_simp; try with_reducible rfl
        refine FxM.pure (v := ?_) rfl rfl (fun ev w _ E => ?_) ?_; rotate_left
        · obtain ⟨t153, ec, ef, eg⟩ := E.get [(0, 16, 153)] [] (by kernel_rfl); clear E; simp only [nthV] at t153; go_simp; try with_reducible rfl
        refine FxM.skip rfl 0 rfl (by simp only [nthV]; intro h; cases h) rfl ?_
        refine FxM.skip rfl 1 rfl (by simp only [nthV]; intro h; cases h) rfl ?_
        refine FxM.skip rfl 2 rfl (by simp only [nthV]; intro h; cases h) rfl ?_
        refine FxM.pure (v := ?_) rfl rfl (fun ev w _ E => ?_) ?_; rotate_left
        · obtain ⟨t154, t157, ec, ef, eg⟩ := E.get [(3, 17, 154), (0, 20, 157)] [] (by kernel_rfl); clear E; simp only [nthV] at t154 t157; go_simp; try with_reducible rfl
        refine FxM.pure (v := ?_) rfl rfl (fun ev w _ E => ?_) ?_; rotate_left
        · obtain ⟨t158, ec, ef, eg⟩ := E.get [(0, 21, 158)] [] (by kernel_rfl); clear E; simp only [nthV] at t158; go_simp; try with_reducible rfl
        refine FxM.skip rfl 0 rfl (by simp only [nthV]; intro h; cases h) rfl ?_
        refine FxM.skip rfl 1 rfl (by simp only [nthV]; intro h; cases h) rfl ?_
        refine FxM.skip rfl 2 rfl (by simp only [nthV]; intro h; cases h) rfl ?_
        refine FxM.pure (v := ?_) rfl rfl (fun ev w _ E => ?_) ?_; rotate_left
        · obtain ⟨t159, t162, ec, ef, eg⟩ := E.get [(3, 22, 159), (0, 25, 162)] [] (by kernel_rfl); clear E; simp only [nthV] at t159 t162; go_simp; try with_reducible rfl
        refine FxM.store 0 rfl rfl (fun ev w (hS : (fun W => Fr none w4 W) w) E => ?_) ?_
        · obtain ⟨t137, t2, ec, ef, eg⟩ := E.get [(26, 0, 137)] [2] (by kernel_rfl); clear E; simp only [nthV] at t137
          have hz := (hR.fr hS (by simp)).frees
          obtain ⟨c0, c1, c2, c3, c4, c5, c6, c7, c8, c9, c10, c11⟩ := (hR.fr hS (by simp)).cells
          refine ⟨?_, ?_, ?_⟩
          rotate_left
          · go_simp; try with_reducible rfl
          · exact plst hR hS ⟨o.kind, o.to_, o.amt, o.lim, o.ast, o.oth, 0, 0, 0, o.path⟩ (.slice PA pn pc) _ rfl
        refine FxM.pure (v := ?_) rfl rfl (fun ev w _ E => ?_) ?_; rotate_left
        · obtain ⟨t163, ec, ef, eg⟩ := E.get [(1, 26, 163)] [] (by kernel_rfl); clear E; simp only [nthV] at t163; go_simp; try with_reducible rfl
        refine FxM.done (fun W (hW : (fun W => OpB W (B + 1) ⟨o.kind, o.to_, o.amt, o.lim, o.ast, o.oth, 0, 0, 0, o.path⟩ (.slice PA pn pc) ∧ Fr (some (B + 1)) w4 W) W) => ?_)
        simp only [fillZ]
        try simp only [Act.put, List.setIfInBounds_toArray, List.set_cons_zero, List.set_cons_succ, List.getElem_toArray, List.getElem_cons_zero, List.getElem_cons_succ]
        have hRW : OpB W (B + 1) _ _ := hW.1
        have z0 := OpB.free hRW 0
        have z1 := OpB.free hRW 1
        have z2 := OpB.free hRW 2
        have z3 := OpB.free hRW 3
        have z4 := OpB.free hRW 4
        have z5 := OpB.free hRW 5
        have z6 := OpB.free hRW 6
        have z7 := OpB.free hRW 7
        have z8 := OpB.free hRW 8
        have z9 := OpB.free hRW 9
        have z10 := OpB.free hRW 10
        have z11 := OpB.free hRW 11
        obtain ⟨e0, e1, e2, e3, e4, e5, e6, e7, e8, e9, e10, e11⟩ := hRW.cells
        have el := OpB.lt hRW
        try simp only [op0] at e0 e1 e2 e3 e4 e5 e6 e7 e8 e9 e10 e11
        try dsimp only at e0 e1 e2 e3 e4 e5 e6 e7 e8 e9 e10 e11
        go_wp2_with fail
        refine bodyPost_ret (v := .tuple #[opV ⟨o.kind, o.to_, o.amt, o.lim, o.ast, o.oth, 0, 0, 0, o.path⟩ (.slice PA pn pc), .bool (false)]) (by simp [results, Tryz.results93, go_sem, opV, opL, e0, e1, e2, e3, e4, e5, e6, e7, e8, e9, e10, e11]) rfl ?_
        refine ⟨?_, FF.new hW.2 hBR⟩
        rw [plV_6 _ KK.out]
        rw [← HPV.out]
        dsimp only [OpX.v]
        all_goals (try simp only [hv0, hv1, hv2, Bool.true_and, Bool.false_and, Bool.and_true, Bool.and_false])
        all_goals (try rfl)
    | false =>
      refine FxM.skip rfl 0 rfl (by simp only [nthV]; intro h; cases h) rfl ?_
      refine FxM.skip rfl 1 rfl (by simp only [nthV]; intro h; cases h) rfl ?_
      refine FxM.skip rfl 2 rfl (by simp only [nthV]; intro h; cases h) rfl ?_
      refine FxM.pure (v := ?_) rfl rfl (fun ev w _ E => ?_) ?_; rotate_left
      · obtain ⟨t144, t147, ec, ef, eg⟩ := E.get [(3, 7, 144), (0, 10, 147)] [] (by kernel_rfl); clear E; simp only [nthV] at t144 t147; go_simp; try with_reducible rfl
      refine FxM.pure (v := ?_) rfl rfl (fun ev w _ E => ?_) ?_; rotate_left
      · obtain ⟨t148, ec, ef, eg⟩ := E.get [(0, 11, 148)] [] (by kernel_rfl); clear E; simp only [nthV] at t148; go_simp; try with_reducible rfl
      refine FxM.skip rfl 0 rfl (by simp only [nthV]; intro h; cases h) rfl ?_
      refine FxM.skip rfl 1 rfl (by simp only [nthV]; intro h; cases h) rfl ?_
      refine FxM.skip rfl 2 rfl (by simp only [nthV]; intro h; cases h) rfl ?_
      refine FxM.pure (v := ?_) rfl rfl (fun ev w _ E => ?_) ?_; rotate_left
      · obtain ⟨t149, t152, ec, ef, eg⟩ := E.get [(3, 12, 149), (0, 15, 152)] [] (by kernel_rfl); clear E; simp only [nthV] at t149 t152; go_simp; try with_reducible rfl
      refine FxM.pure (v := ?_) rfl rfl (fun ev w _ E => ?_) ?_; rotate_left
      · obtain ⟨t153, ec, ef, eg⟩ := E.get [(0, 16, 153)] [] (by kernel_rfl); clear E; simp only [nthV] at t153; go_simp; try with_reducible rfl
      refine FxM.skip rfl 0 rfl (by simp only [nthV]; intro h; cases h) rfl ?_
      refine FxM.skip rfl 1 rfl (by simp only [nthV]; intro h; cases h) rfl ?_
      refine FxM.skip rfl 2 rfl (by simp only [nthV]; intro h; cases h) rfl ?_
      refine FxM.pure (v := ?_) rfl rfl (fun ev w _ E => ?_) ?_; rotate_left
      · obtain ⟨t154, t157, ec, ef, eg⟩ := E.get [(3, 17, 154), (0, 20, 157)] [] (by kernel_rfl); clear E; simp only [nthV] at t154 t157; go_simp; try with_reducible rfl
      refine FxM.pure (v := ?_) rfl rfl (fun ev w _ E => ?_) ?_; rotate_left
      · obtain ⟨t158, ec, ef, eg⟩ := E.get [(0, 21, 158)] [] (by kernel_rfl); clear E; simp only [nthV] at t158; go_simp; try with_reducible rfl
      refine FxM.skip rfl 0 rfl (by simp only [nthV]; intro h; cases h) rfl ?_
      refine FxM.skip rfl 1 rfl (by simp only [nthV]; intro h; cases h) rfl ?_
      refine FxM.skip rfl 2 rfl (by simp only [nthV]; intro h; cases h) rfl ?_
      refine FxM.pure (v := ?_) rfl rfl (fun ev w _ E => ?_) ?_; rotate_left
      · obtain ⟨t159, t162, ec, ef, eg⟩ := E.get [(3, 22, 159), (0, 25, 162)] [] (by kernel_rfl); clear E; simp only [nthV] at t159 t162; go_simp; try with_reducible rfl
      refine FxM.store 0 rfl rfl (fun ev w (hS : (fun W => Fr none w4 W) w) E => ?_) ?_
      · obtain ⟨t137, t2, ec, ef, eg⟩ := E.get [(26, 0, 137)] [2] (by kernel_rfl); clear E; simp only [nthV] at t137
        have hz := (hR.fr hS (by simp)).frees
        obtain ⟨c0, c1, c2, c3, c4, c5, c6, c7, c8, c9, c10, c11⟩ := (hR.fr hS (by simp)).cells
        refine ⟨?_, ?_, ?_⟩
        rotate_left
        · go_simp; try with_reducible rfl
        · exact plst hR hS ⟨o.kind, o.to_, o.amt, o.lim, o.ast, o.oth, 0, 0, 0, o.path⟩ (.slice PA pn pc) _ rfl
      refine FxM.pure (v := ?_) rfl rfl (fun ev w _ E => ?_) ?_; rotate_left
      · obtain ⟨t163, ec, ef, eg⟩ := E.get [(1, 26, 163)] [] (by kernel_rfl); clear E; simp only [nthV] at t163; go_simp; try with_reducible rfl
      refine FxM.done (fun W (hW : (fun W => OpB W (B + 1) ⟨o.kind, o.to_, o.amt, o.lim, o.ast, o.oth, 0, 0, 0, o.path⟩ (.slice PA pn pc) ∧ Fr (some (B + 1)) w4 W) W) => ?_)
      simp only [fillZ]
      try simp only [Act.put, List.setIfInBounds_toArray, List.set_cons_zero, List.set_cons_succ, List.getElem_toArray, List.getElem_cons_zero, List.getElem_cons_succ]
      have hRW : OpB W (B + 1) _ _ := hW.1
      have z0 := OpB.free hRW 0
      have z1 := OpB.free hRW 1
      have z2 := OpB.free hRW 2
      have z3 := OpB.free hRW 3
      have z4 := OpB.free hRW 4
      have z5 := OpB.free hRW 5
      have z6 := OpB.free hRW 6
      have z7 := OpB.free hRW 7
      have z8 := OpB.free hRW 8
      have z9 := OpB.free hRW 9
      have z10 := OpB.free hRW 10
      have z11 := OpB.free hRW 11
      obtain ⟨e0, e1, e2, e3, e4, e5, e6, e7, e8, e9, e10, e11⟩ := hRW.cells
      have el := OpB.lt hRW
      try simp only [op0] at e0 e1 e2 e3 e4 e5 e6 e7 e8 e9 e10 e11
      try dsimp only at e0 e1 e2 e3 e4 e5 e6 e7 e8 e9 e10 e11
      go_wp2_with fail
      refine bodyPost_ret (v := .tuple #[opV ⟨o.kind, o.to_, o.amt, o.lim, o.ast, o.oth, 0, 0, 0, o.path⟩ (.slice PA pn pc), .bool (false)]) (by simp [results, Tryz.results93, go_sem, opV, opL, e0, e1, e2, e3, e4, e5, e6, e7, e8, e9, e10, e11]) rfl ?_
      refine ⟨?_, FF.new hW.2 hBR⟩
      rw [plV_6 _ KK.out]
      rw [← HPV.out]
      dsimp only [OpX.v]
      all_goals (try simp only [hv0, hv1, Bool.true_and, Bool.false_and, Bool.and_true, Bool.and_false])
      all_goals (try rfl)
  | false =>
    refine FxM.skip rfl 0 rfl (by simp only [nthV]; intro h; cases h) rfl ?_
    refine FxM.skip rfl 1 rfl (by simp only [nthV]; intro h; cases h) rfl ?_
    refine FxM.skip rfl 2 rfl (by simp only [nthV]; intro h; cases h) rfl ?_
    refine FxM.pure (v := ?_) rfl rfl (fun ev w _ E => ?_) ?_; rotate_left
    · obtain ⟨t139, t142, ec, ef, eg⟩ := E.get [(3, 2, 139), (0, 5, 142)] [] (by kernel_rfl); clear E; simp only [nthV] at t139 t142; go_simp; try with_reducible rfl
    refine FxM.pure (v := ?_) rfl rfl (fun ev w _ E => ?_) ?_; rotate_left
    · obtain ⟨t143, ec, ef, eg⟩ := E.get [(0, 6, 143)] [] (by kernel_rfl); clear E; simp only [nthV] at t143; go_simp; try with_reducible rfl
    refine FxM.skip rfl 0 rfl (by simp only [nthV]; intro h; cases h) rfl ?_
    refine FxM.skip rfl 1 rfl (by simp only [nthV]; intro h; cases h) rfl ?_
    refine FxM.skip rfl 2 rfl (by simp only [nthV]; intro h; cases h) rfl ?_
    refine FxM.pure (v := ?_) rfl rfl (fun ev w _ E => ?_) ?_; rotate_left
    · obtain ⟨t144, t147, ec, ef, eg⟩ := E.get [(3, 7, 144), (0, 10, 147)] [] (by kernel_rfl); clear E; simp only [nthV] at t144 t147; go_simp; try with_reducible rfl
    refine FxM.pure (v := ?_) rfl rfl (fun ev w _ E => ?_) ?_; rotate_left
    · obtain ⟨t148, ec, ef, eg⟩ := E.get [(0, 11, 148)] [] (by kernel_rfl); clear E; simp only [nthV] at t148; go_simp; try with_reducible rfl
    refine FxM.skip rfl 0 rfl (by simp only [nthV]; intro h; cases h) rfl ?_
    refine FxM.skip rfl 1 rfl (by simp only [nthV]; intro h; cases h) rfl ?_
    refine FxM.skip rfl 2 rfl (by simp only [nthV]; intro h; cases h) rfl ?_
    refine FxM.pure (v := ?_) rfl rfl (fun ev w _ E => ?_) ?_; rotate_left
    · obtain ⟨t149, t152, ec, ef, eg⟩ := E.get [(3, 12, 149), (0, 15, 152)] [] (by kernel_rfl); clear E; simp only [nthV] at t149 t152; go_simp; try with_reducible rfl
    refine FxM.pure (v := ?_) rfl rfl (fun ev w _ E => ?_) ?_; rotate_left
    · obtain ⟨t153, ec, ef, eg⟩ := E.get [(0, 16, 153)] [] (by kernel_rfl); clear E; simp only [nthV] at t153; go_simp; try with_reducible rfl
    refine FxM.skip rfl 0 rfl (by simp only [nthV]; intro h; cases h) rfl ?_
    refine FxM.skip rfl 1 rfl (by simp only [nthV]; intro h; cases h) rfl ?_
    refine FxM.skip rfl 2 rfl (by simp only [nthV]; intro h; cases h) rfl ?_
    refine FxM.pure (v := ?_) rfl rfl (fun ev w _ E => ?_) ?_; rotate_left
    · obtain ⟨t154, t157, ec, ef, eg⟩ := E.get [(3, 17, 154), (0, 20, 157)] [] (by kernel_rfl); clear E; simp only [nthV] at t154 t157; go_simp; try with_reducible rfl
    refine FxM.pure (v := ?_) rfl rfl (fun ev w _ E => ?_) ?_; rotate_left
    · obtain ⟨t158, ec, ef, eg⟩ := E.get [(0, 21, 158)] [] (by kernel_rfl); clear E; simp only [nthV] at t158; go_simp; try with_reducible rfl
    refine FxM.skip rfl 0 rfl (by simp only [nthV]; intro h; cases h) rfl ?_
    refine FxM.skip rfl 1 rfl (by simp only [nthV]; intro h; cases h) rfl ?_
    refine FxM.skip rfl 2 rfl (by simp only [nthV]; intro h; cases h) rfl ?_
    refine FxM.pure (v := ?_) rfl rfl (fun ev w _ E => ?_) ?_; rotate_left
    · obtain ⟨t159, t162, ec, ef, eg⟩ := E.get [(3, 22, 159), (0, 25, 162)] [] (by kernel_rfl); clear E; simp only [nthV] at t159 t162; go_simp; try with_reducible rfl
    refine FxM.store 0 rfl rfl (fun ev w (hS : (fun W => Fr none w4 W) w) E => ?_) ?_
    · obtain ⟨t137, t2, ec, ef, eg⟩ := E.get [(26, 0, 137)] [2] (by kernel_rfl); clear E; simp only [nthV] at t137
      have hz := (hR.fr hS (by simp)).frees
      obtain ⟨c0, c1, c2, c3, c4, c5, c6, c7, c8, c9, c10, c11⟩ := (hR.fr hS (by simp)).cells
      refine ⟨?_, ?_, ?_⟩
      rotate_left
      · go_simp; try with_reducible rfl
      · exact plst hR hS ⟨o.kind, o.to_, o.amt, o.lim, o.ast, o.oth, 0, 0, 0, o.path⟩ (.slice PA pn pc) _ rfl
    refine FxM.pure (v := ?_) rfl rfl (fun ev w _ E => ?_) ?_; rotate_left
    · obtain ⟨t163, ec, ef, eg⟩ := E.get [(1, 26, 163)] [] (by kernel_rfl); clear E; simp only [nthV] at t163; go_simp; try with_reducible rfl
    refine FxM.done (fun W (hW : (fun W => OpB W (B + 1) ⟨o.kind, o.to_, o.amt, o.lim, o.ast, o.oth, 0, 0, 0, o.path⟩ (.slice PA pn pc) ∧ Fr (some (B + 1)) w4 W) W) => ?_)
    simp only [fillZ]
    try simp only [Act.put, List.setIfInBounds_toArray, List.set_cons_zero, List.set_cons_succ, List.getElem_toArray, List.getElem_cons_zero, List.getElem_cons_succ]
    have hRW : OpB W (B + 1) _ _ := hW.1
    have z0 := OpB.free hRW 0
    have z1 := OpB.free hRW 1
    have z2 := OpB.free hRW 2
    have z3 := OpB.free hRW 3
    have z4 := OpB.free hRW 4
    have z5 := OpB.free hRW 5
    have z6 := OpB.free hRW 6
    have z7 := OpB.free hRW 7
    have z8 := OpB.free hRW 8
    have z9 := OpB.free hRW 9
    have z10 := OpB.free hRW 10
    have z11 := OpB.free hRW 11
    obtain ⟨e0, e1, e2, e3, e4, e5, e6, e7, e8, e9, e10, e11⟩ := hRW.cells
    have el := OpB.lt hRW
    try simp only [op0] at e0 e1 e2 e3 e4 e5 e6 e7 e8 e9 e10 e11
    try dsimp only at e0 e1 e2 e3 e4 e5 e6 e7 e8 e9 e10 e11
    go_wp2_with fail
    refine bodyPost_ret (v := .tuple #[opV ⟨o.kind, o.to_, o.amt, o.lim, o.ast, o.oth, 0, 0, 0, o.path⟩ (.slice PA pn pc), .bool (false)]) (by simp [results, Tryz.results93, go_sem, opV, opL, e0, e1, e2, e3, e4, e5, e6, e7, e8, e9, e10, e11]) rfl ?_
    refine ⟨?_, FF.new hW.2 hBR⟩
    rw [plV_6 _ KK.out]
    rw [← HPV.out]
    dsimp only [OpX.v]
    all_goals (try simp only [hv0, Bool.true_and, Bool.false_and, Bool.and_true, Bool.and_false])
    all_goals (try rfl)
end Go.Proofs.YtonhhnedfjonoaaGreatDoor

/- Walks: slices.Equal at assets. -/
namespace Go.Proofs.YtonhhnedfjonoaaGreatDoor
open Go.RowKit

set_option maxRecDepth 100000 in
set_option maxHeartbeats 1000000 in
theorem eqA_any (a b : List Ast) (va vb : Value) (w : World) (r : Option Nat) (ha : SlR astR w r va a) (hb : SlR astR w r vb b) :
    Calls Tryz.prog 119 #[va, vb] w fun e w' => e = .returned (.bool (decide (a = b))) ∧ Fr none w w' := by
  have HA := Lib.hid ha
  have HB := Lib.hid hb
  obtain ⟨A, c, rfl, q1, q2, hc⟩ := astR_open ha
  obtain ⟨B, d, rfl, q3, q4, hd⟩ := astR_open hb
  clear ha hb
  by_cases hl : a.length = b.length
  · have HL := Lib.hid hl
    obtain ⟨n, hn⟩ : ∃ n, n = a.length := ⟨_, rfl⟩
    have HN := Lib.hid hn
    have HN2 := Lib.hid (hn.trans hl)
    have hn2 : n = b.length := hn.trans hl
    have hc' : 0 < n → _ := fun h => hc (by omega)
    have hd' : 0 < n → _ := fun h => hd (by omega)
    rw [← hn] at HA q1 ⊢
    rw [← hn2] at HB q3 ⊢
    clear hl hn hn2 hc hd
    have hc := hc'
    have hd := hd'
    clear hc' hd'
    go_enter Tryz.func119, Tryz.ntmps119
    go_wp2_with fail
    go_loopw [13] (fun i wr => ∃ k : Nat, k ≤ n ∧ i = .int .i64 k ∧ Fr none w wr ∧ ∀ j (h1 : j < a.length) (h2 : j < b.length), j < k → a[j] = b[j]) (fun i _ => n - (intOf i).toNat)
    case atStart => exact ⟨0, Nat.zero_le _, rfl, Fr.refl _ _, fun j h1 h2 h => by omega⟩
    case round =>
      obtain ⟨k, hk, rfl, F, hall⟩ := hrel
      have HH := Lib.hid hall
      clear hall
      by_cases hlt : k < n
      · obtain ⟨b1, o1, rfl, hb1, hx1, hc1⟩ := hc (by omega)
        obtain ⟨b2, o2, rfl, hb2, hx2, hc2⟩ := hd (by omega)
        have k1 : k < a.length := by have := HN.out; omega
        have k2 : k < b.length := by have := HN2.out; omega
        have d1 := F.keep (hc1 k k1).1 (by simp)
        have d2 := F.keep (hc1 k k1).2 (by simp)
        have d3 := F.keep (hc2 k k2).1 (by simp)
        have d4 := F.keep (hc2 k k2).2 (by simp)
        clear hc hd hc1 hc2
        obtain ⟨x, hx⟩ : ∃ x, x = a[k] := ⟨_, rfl⟩
        obtain ⟨y, hy⟩ : ∃ y, y = b[k] := ⟨_, rfl⟩
        rw [← hx] at d1 d2
        rw [← hy] at d3 d4
        have HX := Lib.hid hx
        have HY := Lib.hid hy
        clear hx hy
        by_cases he : x = y
        · have HE := Lib.hid he
          subst he
          go_wp2_with fail
          go_quiet (fail)
          go_wp2_with fail
          go_roundw
          case rel => exact ⟨k + 1, by omega, by go_num, F.drewN _, fun j h1 h2 h => by
            by_cases e : j = k
            · subst e; rw [← HX.out, ← HY.out]
            · exact HH.out j h1 h2 (by omega)⟩
          case measure => simp [intOf]; omega
        · have hne : a ≠ b := fun h => by
            apply he
            rw [HX.out, HY.out]
            subst h
            rfl
          have HE := Lib.hid hne
          clear hne
          by_cases hcd : x.code = y.code
          · have h1 : (bL x.code).toList = (bL y.code).toList := by rw [hcd]
            have h2 : ¬ x.iss = y.iss := fun e => he (by cases x; cases y; simp only at hcd e; rw [hcd, e])
            clear he hcd
            go_wp2_with fail
            go_quiet (fail)
            go_wp2_with fail
            go_ret
            exact ⟨ret_bool (by rw [decide_eq_false HE.out]), F.drewN _⟩
          · have h1 : ¬ (bL x.code).toList = (bL y.code).toList := by rw [bL_tl, bL_tl]; exact hcd
            clear he hcd
            go_wp2_with fail
            go_quiet (fail)
            go_wp2_with fail
            go_ret
            exact ⟨ret_bool (by rw [decide_eq_false HE.out]), F.drewN _⟩
      · obtain rfl : k = n := by omega
        go_wp2_with fail
        go_ret
        refine ⟨ret_bool ?_, F⟩
        symm
        rw [decide_eq_true_iff]
        exact List.ext_getElem (by rw [← HN.out, ← HN2.out]) (fun j h1 h2 => HH.out j h1 h2 (by have := HN.out; omega))
  · have hne : ¬ ((a.length : Int) = (b.length : Int)) := by omega
    have HE : Hid (a ≠ b) := fun h => hl (by rw [h])
    clear hl
    go_enter Tryz.func119, Tryz.ntmps119
    go_wp2_with fail
    go_ret
    exact ⟨ret_bool (by rw [decide_eq_false HE.out]), Fr.refl _ _⟩
end Go.Proofs.YtonhhnedfjonoaaGreatDoor

/- Walk: ledger.same. -/
namespace Go.Proofs.YtonhhnedfjonoaaGreatDoor
open Go.RowKit

def sameB (a b : Opr) : Bool := (a.kind == b.kind) && ((a.to_ == b.to_) && ((a.amt == b.amt) && ((a.lim == b.lim) && ((decide (a.ast.code = b.ast.code) && (a.ast.iss == b.ast.iss)) && ((decide (a.oth.code = b.oth.code) && (a.oth.iss == b.oth.iss)) && ((a.num == b.num) && ((a.den == b.den) && ((a.id == b.id) && decide (a.path = b.path)))))))))
theorem same_iff (a b : Opr) : sameB a b = decide (a = b) := by
  rw [Bool.eq_iff_iff]
  unfold sameB
  simp only [Bool.and_eq_true, beq_iff_eq, decide_eq_true_iff]
  constructor
  · rintro ⟨h1, h2, h3, h4, ⟨h5, h5'⟩, ⟨h6, h6'⟩, h7, h8, h9, h10⟩
    obtain ⟨k1, k2, k3, k4, ⟨k5, k5'⟩, ⟨k6, k6'⟩, k7, k8, k9, k10⟩ := a
    obtain ⟨l1, l2, l3, l4, ⟨l5, l5'⟩, ⟨l6, l6'⟩, l7, l8, l9, l10⟩ := b
    simp_all
  · rintro rfl
    simp
set_option maxRecDepth 100000 in
set_option maxHeartbeats 8000000 in
theorem psame_any (x y : OpX) (w : World) (hx : OpD w none x) (hy : OpD w none y) : Calls Tryz.prog 94 #[opV x.o x.v, opV y.o y.v] w fun e w' => e = .returned (.bool (decide (x.o = y.o))) ∧ Fr none w w' := by
  rw [← same_iff]
  obtain ⟨a, PA, pc⟩ := x
  obtain ⟨b, PB, pd⟩ := y
  have hx : SlR astR w none (.slice PA a.path.length pc) a.path := hx
  have hy : SlR astR w none (.slice PB b.path.length pd) b.path := hy
  dsimp only [OpX.v]
  generalize a.path.length = pn at *
  generalize b.path.length = pm at *
  unfold opV
  simp only [opL]
  go_enter Tryz.func94, Tryz.ntmps94
  go_wp2_with (go_at_call 119; refine (eqA_any a.path b.path _ _ _ none (hx.fr (((Fr.refl none w).alloc _).alloc _)) (hy.fr (((Fr.refl none w).alloc _).alloc _))).mono ?_; rintro e w2 ⟨rfl, F2⟩)
  all_goals go_ret
  all_goals (refine ⟨ret_bool ?_, ?_⟩)
  all_goals (first | exact (((Fr.refl none w).alloc _).alloc _).pure (by assumption) | exact ((Fr.refl none w).alloc _).alloc _ | skip)
  all_goals (try clear hx hy)
  all_goals (try simp only [bL_tl] at *)
  all_goals (simp [sameB, *])
end Go.Proofs.YtonhhnedfjonoaaGreatDoor

/- Some texts of this claim, joined: contracts of the functions that it reaches, and plain laws. -/
import Derived.Test.YtonhhnedfjonoaaGreatDoorProg
import Derived.Test.YtonhhnedfjonoaaGreatDoorJM10
import Derived.Test.YtonhhnedfjonoaaGreatDoorJM11

set_option linter.unusedSimpArgs false
set_option linter.unusedVariables false
/- Walk: ledger.text, the text of a valid operation (printed by gen_xt.py). -/
namespace Go.Proofs.YtonhhnedfjonoaaGreatDoor
open Go.RowKit

theorem txtA_len {a : Ast} (h : vAst a = true) : (txtA a).length ≤ 26 := by
  rcases vAst_cases h with rfl | ⟨hn, h1, h2, h3, h4⟩
  · decide
  · unfold txtA
    rw [if_neg hn, List.length_append]
    have h5 := itoaL_len (n := a.iss) ⟨by omega, by omega⟩
    have h6 : a.code.length ≤ 4 := by
      unfold vAst at h
      rw [decide_eq_false hn, Bool.false_or, Bool.and_eq_true, decide_eq_true_iff] at h
      exact h.1.2.1
    omega
theorem ptxa_any {a : Ast} (h : vAst a = true) (w : World) (hT : Tab w) : Calls Tryz.prog 29 #[.agg #[.string (bL a.code), .int .i64 a.iss]] w fun e w' => e = .returned (.string (bL (txtA a))) ∧ Fr none w w' := by
  refine past_any a ?_ ?_ w hT
  · rcases vAst_cases h with rfl | ⟨hn, h1, h2, h3, h4⟩
    · constructor <;> decide
    · constructor <;> omega
  · rcases vAst_cases h with rfl | ⟨hn, h1, h2, h3, h4⟩
    · decide
    · unfold vAst at h
      rw [decide_eq_false hn, Bool.false_or, Bool.and_eq_true, decide_eq_true_iff] at h
      have := h.1.2.1
      omega
theorem wi_of {n lo hi : Int} (h1 : lo ≤ n) (h2 : n ≤ hi) (h3 : -9223372036854775808 ≤ lo) (h4 : hi ≤ 9223372036854775807) : Wi n := ⟨by omega, by omega⟩
theorem wz0 : Wi (0 : Int) := by constructor <;> decide
theorem vo_wi {o : Opr} (h : vOp o = true) : Wi o.to_ ∧ Wi o.amt ∧ Wi o.lim ∧ Wi o.num ∧ Wi o.den ∧ Wi o.id := by
  rcases vo_of h with ⟨k, h1, h2, he⟩ | ⟨k, h1, h2, h3, he⟩ | ⟨k, h1, h2, he⟩ | ⟨k, h1, h2, h3, h4, he⟩ | ⟨k, h1, he⟩ | ⟨k, h1, h2, h3, h4, h5, h6⟩
  · rw [← he]; exact ⟨wi_of h1.1 h1.2 (by decide) (by decide), wi_of (show 0 ≤ o.amt by omega) h2.2 (by decide) (by decide), wz0, wz0, wz0, wz0⟩
  · rw [← he]; exact ⟨wi_of h1.1 h1.2 (by decide) (by decide), wi_of (show 0 ≤ o.amt by omega) h2.2 (by decide) (by decide), wz0, wz0, wz0, wz0⟩
  · rw [← he]; exact ⟨wz0, wi_of h1.1 h1.2 (by decide) (by decide), wz0, wz0, wz0, wz0⟩
  · rw [← he]; exact ⟨wz0, wi_of (show 0 ≤ o.amt by omega) h1.2 (by decide) (by decide), wz0, wi_of h4.1 h4.2.1 (by decide) (by decide), wi_of h4.2.2.1 h4.2.2.2 (by decide) (by decide), wz0⟩
  · rw [← he]; exact ⟨wz0, wz0, wz0, wz0, wz0, wi_of h1.1 h1.2 (by decide) (by decide)⟩
  · have := vo6 h k
    rw [← this]; exact ⟨wi_of h1.1 h1.2 (by decide) (by decide), wi_of (show 0 ≤ o.amt by omega) h2.2 (by decide) (by decide), wi_of (show 0 ≤ o.lim by omega) h3.2 (by decide) (by decide), wz0, wz0, wz0⟩
theorem vo_ast {o : Opr} (h : vOp o = true) : vAst o.ast = true ∧ vAst o.oth = true := by
  rcases vo_of h with ⟨k, h1, h2, he⟩ | ⟨k, h1, h2, h3, he⟩ | ⟨k, h1, h2, he⟩ | ⟨k, h1, h2, h3, h4, he⟩ | ⟨k, h1, he⟩ | ⟨k, h1, h2, h3, h4, h5, h6⟩
  · rw [← he]; exact ⟨rfl, rfl⟩
  · refine ⟨h3, ?_⟩; rw [← he]; rfl
  · refine ⟨h2, ?_⟩; rw [← he]; rfl
  · exact ⟨h2, h3⟩
  · rw [← he]; exact ⟨rfl, rfl⟩
  · exact ⟨h4, h5⟩
theorem lit_str {w w' : World} (l : List (List UInt8)) (cs : Array Value) (e : TypeId) (hcs : cs.toList = l.map fun x => Value.string (bL x)) (hl : l.length ≤ 1000) (f : Fr none (w.alloc (.cells cs e)) w') : SlD w' (Dm w' none) 1 (.slice (some ⟨w.heap.size, 0, none⟩) l.length l.length) (l.map fun x => Value.string (bL x)) := by
  have := SlD.lit_dm (r := none) cs e l.length 1 (by have := congrArg List.length hcs; simpa using this) (by unfold maxLen; omega) (by simp) f
  rw [hcs] at this
  exact this
set_option maxRecDepth 100000 in
set_option maxHeartbeats 4000000 in
theorem ptxt1_any (x : OpX) (w : World) (hx : OpD w none x) (hv : vOp x.o = true) (hk : x.o.kind = 1) (hT : Tab w) : Calls Tryz.prog 57 #[opV x.o x.v] w fun e w' => e = .returned (.string (bL (txtO x.o))) ∧ Fr none w w' := by
  obtain ⟨o, PA, pc⟩ := x
  have hx : SlR astR w none (.slice PA o.path.length pc) o.path := hx
  dsimp only [OpX.v] at *
  have kk1 : (o.kind == 1) = true := by rw [beq_iff_eq]; exact hk
  obtain ⟨wi_to_, wi_amt, wi_lim, wi_num, wi_den, wi_id⟩ := vo_wi hv
  obtain ⟨va_ast, va_oth⟩ := vo_ast hv
  have HX : Hid (txtO o = Lib.join [99 :: Lib.itoa o.to_, Lib.itoa o.amt] [44]) := by unfold Hid txtO wdsO; rw [if_pos hk]
  have HLN : Hid (∀ y ∈ [99 :: Lib.itoa o.to_, Lib.itoa o.amt], y.length ≤ 30) := by
    intro y hy
    simp only [List.mem_cons, List.not_mem_nil, or_false] at hy
    rcases hy with rfl | rfl
    · have := itoaL_len wi_to_; simp only [List.length_cons]; omega
    · have := itoaL_len wi_amt; omega
  have HT := Lib.hid hT
  have HWI : Hid (Wi o.to_ ∧ Wi o.amt ∧ Wi o.lim ∧ Wi o.num ∧ Wi o.den ∧ Wi o.id) := ⟨wi_to_, wi_amt, wi_lim, wi_num, wi_den, wi_id⟩
  have HVA : Hid (vAst o.ast = true ∧ vAst o.oth = true) := ⟨va_ast, va_oth⟩
  have HV := Lib.hid hv
  have HK := Lib.hid hk
  clear hT wi_to_ wi_amt wi_lim wi_num wi_den wi_id va_ast va_oth hv hk
  obtain ⟨pn, hpn2⟩ : ∃ pn, pn = o.path.length := ⟨_, rfl⟩
  rw [← hpn2]
  have hpn : o.path.length = pn := hpn2.symm
  clear hpn2
  have HPN := Lib.hid hpn
  clear hpn
  unfold opV
  simp only [opL]
  go_enter Tryz.func57, Tryz.ntmps57
  go_upto_region 1 with (fail)
  generalize hW : w.alloc _ = w1
  have F1 : Fr none w w1 := hW ▸ (Fr.refl none w).alloc _
  have b1 : OpB w1 w.heap.size o (.slice PA pn pc) := by rw [← hW]; exact blk_new _ _
  clear hW
  obtain ⟨e0, e1, e2, e3, e4, e5, e6, e7, e8, e9, e10, e11⟩ := b1.cells
  have HT1 := Lib.hid (HT.out.fr F1)
  clear HT
  go_upto_region 5 with (fail)
  clear e0 e1 e2 e3 e4 e5 e6 e7 e8 e9 e10 e11
  refine wp_region_fxL (fun W => Fr none w1 W) 9 114 [some 19, some 18, some 17, some 16, some 15, some 14, some 13, some 12, some 11] (by kernel_rfl) (by kernel_rfl) (by kernel_rfl) (Nat.le_refl _) ((Fr.refl _ _).drew) ?_
  refine FxL.pure (v := ?_) rfl (fun ev w hS E => ?_) ?_; rotate_left
  · obtain ⟨t3, ec, ef, eg⟩ := E.get [] [3] (by kernel_rfl); clear E; go_simp; try with_reducible rfl
  refine FxL.pure (v := ?_) rfl (fun ev w hS E => ?_) ?_; rotate_left
  · obtain ⟨t1, ec, ef, eg⟩ := E.get [] [1] (by kernel_rfl); clear E; go_simp; try with_reducible rfl
  refine FxL.pure (v := ?_) rfl (fun ev w hS E => ?_) ?_; rotate_left
  · obtain ⟨c0, c1, c2, c3, c4, c5, c6, c7, c8, c9, c10, c11⟩ := (b1.fr hS (by simp)).cells
    obtain ⟨t12, ec, ef, eg⟩ := E.get [(0, 1, 12)] [] (by kernel_rfl); clear E; simp only [nthV] at t12; go_simp; try with_reducible rfl
  refine FxL.call (v := ?_) (f := ?_) (args := ?_) rfl (fun ev w hS E => ?_) (fun w hS => ?_) ?_; rotate_left 3
  · obtain ⟨c0, c1, c2, c3, c4, c5, c6, c7, c8, c9, c10, c11⟩ := (b1.fr hS (by simp)).cells
    obtain ⟨t11, t13, ec, ef, eg⟩ := E.get [(2, 0, 11), (0, 2, 13)] [] (by kernel_rfl); clear E; simp only [nthV] at t11 t13; go_simp; first | (refine And.intro ?_ ?_ <;> with_reducible rfl) | with_reducible rfl
  · obtain ⟨c0, c1, c2, c3, c4, c5, c6, c7, c8, c9, c10, c11⟩ := (b1.fr hS (by simp)).cells
    refine (itoaL_any o.to_ HWI.out.1 w (HT1.out.fr hS)).mono ?_
    rintro e w2 ⟨rfl, F2⟩
    refine ⟨?_, hS.pure F2⟩; with_reducible rfl
  refine FxL.pure (v := ?_) rfl (fun ev w hS E => ?_) ?_; rotate_left
  · obtain ⟨t14, ec, ef, eg⟩ := E.get [(0, 3, 14)] [] (by kernel_rfl); clear E; simp only [nthV] at t14
    have hadd := padd 99 (Lib.itoa o.to_) (Nat.le_trans (itoaL_len HWI.out.1) (by decide))
    go_simp; try with_reducible rfl
  refine FxL.pure (v := ?_) rfl (fun ev w hS E => ?_) ?_; rotate_left
  · obtain ⟨t3, ec, ef, eg⟩ := E.get [] [3] (by kernel_rfl); clear E; go_simp; try with_reducible rfl
  refine FxL.pure (v := ?_) rfl (fun ev w hS E => ?_) ?_; rotate_left
  · obtain ⟨t1, ec, ef, eg⟩ := E.get [] [1] (by kernel_rfl); clear E; go_simp; try with_reducible rfl
  refine FxL.pure (v := ?_) rfl (fun ev w hS E => ?_) ?_; rotate_left
  · obtain ⟨c0, c1, c2, c3, c4, c5, c6, c7, c8, c9, c10, c11⟩ := (b1.fr hS (by simp)).cells
    obtain ⟨t17, ec, ef, eg⟩ := E.get [(0, 6, 17)] [] (by kernel_rfl); clear E; simp only [nthV] at t17; go_simp; try with_reducible rfl
  refine FxL.call (v := ?_) (f := ?_) (args := ?_) rfl (fun ev w hS E => ?_) (fun w hS => ?_) ?_; rotate_left 3
  · obtain ⟨c0, c1, c2, c3, c4, c5, c6, c7, c8, c9, c10, c11⟩ := (b1.fr hS (by simp)).cells
    obtain ⟨t16, t18, ec, ef, eg⟩ := E.get [(2, 5, 16), (0, 7, 18)] [] (by kernel_rfl); clear E; simp only [nthV] at t16 t18; go_simp; first | (refine And.intro ?_ ?_ <;> with_reducible rfl) | with_reducible rfl
  · obtain ⟨c0, c1, c2, c3, c4, c5, c6, c7, c8, c9, c10, c11⟩ := (b1.fr hS (by simp)).cells
    refine (itoaL_any o.amt HWI.out.2.1 w (HT1.out.fr hS)).mono ?_
    rintro e w2 ⟨rfl, F2⟩
    refine ⟨?_, hS.pure F2⟩; with_reducible rfl
  refine FxL.done (fun W hW => ?_)
  simp only [fillZ]
  try simp only [Act.put, List.setIfInBounds_toArray, List.set_cons_zero, List.set_cons_succ, List.getElem_toArray, List.getElem_cons_zero, List.getElem_cons_succ]
  try simp only [List.drop_succ_cons, List.drop_zero, List.drop_nil]
  clear HT1
  go_wp2_with fail
  refine (ljoin_any 44 [99 :: Lib.itoa o.to_, Lib.itoa o.amt] _ (Dm (W.alloc (.cells #[.string (bL (99 :: Lib.itoa o.to_)), .string (bL (Lib.itoa o.amt))] 9)) none) (W.alloc (.cells #[.string (bL (99 :: Lib.itoa o.to_)), .string (bL (Lib.itoa o.amt))] 9)) (lit_str [99 :: Lib.itoa o.to_, Lib.itoa o.amt] #[.string (bL (99 :: Lib.itoa o.to_)), .string (bL (Lib.itoa o.amt))] 9 rfl (by simp) (Fr.refl _ _)) (fun b hb => hb.1) (by simp) (by
    have := join_le [44] (by simp) 30 [99 :: Lib.itoa o.to_, Lib.itoa o.amt] (HLN.out)
    simp only [List.length_cons, List.length_nil] at this ⊢
    omega)).mono ?_
  rintro e w9 ⟨rfl, F9⟩
  go_wp2_with fail
  go_ret
  exact ⟨by rw [HX.out]; rfl, ((F1.pure (hW.alloc _))).pure F9⟩
set_option maxRecDepth 100000 in
set_option maxHeartbeats 4000000 in
theorem ptxt2_any (x : OpX) (w : World) (hx : OpD w none x) (hv : vOp x.o = true) (hk : x.o.kind = 2) (hT : Tab w) : Calls Tryz.prog 57 #[opV x.o x.v] w fun e w' => e = .returned (.string (bL (txtO x.o))) ∧ Fr none w w' := by
  obtain ⟨o, PA, pc⟩ := x
  have hx : SlR astR w none (.slice PA o.path.length pc) o.path := hx
  dsimp only [OpX.v] at *
  have kk1 : (o.kind == 1) = false := by rw [beq_eq_false_iff_ne]; omega
  have kk2 : (o.kind == 2) = true := by rw [beq_iff_eq]; exact hk
  obtain ⟨wi_to_, wi_amt, wi_lim, wi_num, wi_den, wi_id⟩ := vo_wi hv
  obtain ⟨va_ast, va_oth⟩ := vo_ast hv
  have HX : Hid (txtO o = Lib.join [112 :: Lib.itoa o.to_, Lib.itoa o.amt, txtA o.ast] [44]) := by unfold Hid txtO wdsO; rw [if_neg (by omega), if_pos hk]
  have HLN : Hid (∀ y ∈ [112 :: Lib.itoa o.to_, Lib.itoa o.amt, txtA o.ast], y.length ≤ 30) := by
    intro y hy
    simp only [List.mem_cons, List.not_mem_nil, or_false] at hy
    rcases hy with rfl | rfl | rfl
    · have := itoaL_len wi_to_; simp only [List.length_cons]; omega
    · have := itoaL_len wi_amt; omega
    · have := txtA_len va_ast; omega
  have HT := Lib.hid hT
  have HWI : Hid (Wi o.to_ ∧ Wi o.amt ∧ Wi o.lim ∧ Wi o.num ∧ Wi o.den ∧ Wi o.id) := ⟨wi_to_, wi_amt, wi_lim, wi_num, wi_den, wi_id⟩
  have HVA : Hid (vAst o.ast = true ∧ vAst o.oth = true) := ⟨va_ast, va_oth⟩
  have HV := Lib.hid hv
  have HK := Lib.hid hk
  clear hT wi_to_ wi_amt wi_lim wi_num wi_den wi_id va_ast va_oth hv hk
  obtain ⟨pn, hpn2⟩ : ∃ pn, pn = o.path.length := ⟨_, rfl⟩
  rw [← hpn2]
  have hpn : o.path.length = pn := hpn2.symm
  clear hpn2
  have HPN := Lib.hid hpn
  clear hpn
  unfold opV
  simp only [opL]
  go_enter Tryz.func57, Tryz.ntmps57
  go_upto_region 1 with (fail)
  generalize hW : w.alloc _ = w1
  have F1 : Fr none w w1 := hW ▸ (Fr.refl none w).alloc _
  have b1 : OpB w1 w.heap.size o (.slice PA pn pc) := by rw [← hW]; exact blk_new _ _
  clear hW
  obtain ⟨e0, e1, e2, e3, e4, e5, e6, e7, e8, e9, e10, e11⟩ := b1.cells
  have HT1 := Lib.hid (HT.out.fr F1)
  clear HT
  go_upto_region 7 with (fail)
  clear e0 e1 e2 e3 e4 e5 e6 e7 e8 e9 e10 e11
  refine wp_region_fxL (fun W => Fr none w1 W) 12 114 [some 34, some 33, some 32, some 31, some 30, some 29, some 28, some 27, some 26, some 25, some 24, some 23] (by kernel_rfl) (by kernel_rfl) (by kernel_rfl) (Nat.le_refl _) ((Fr.refl _ _).drew) ?_
  refine FxL.pure (v := ?_) rfl (fun ev w hS E => ?_) ?_; rotate_left
  · obtain ⟨t3, ec, ef, eg⟩ := E.get [] [3] (by kernel_rfl); clear E; go_simp; try with_reducible rfl
  refine FxL.pure (v := ?_) rfl (fun ev w hS E => ?_) ?_; rotate_left
  · obtain ⟨t1, ec, ef, eg⟩ := E.get [] [1] (by kernel_rfl); clear E; go_simp; try with_reducible rfl
  refine FxL.pure (v := ?_) rfl (fun ev w hS E => ?_) ?_; rotate_left
  · obtain ⟨c0, c1, c2, c3, c4, c5, c6, c7, c8, c9, c10, c11⟩ := (b1.fr hS (by simp)).cells
    obtain ⟨t24, ec, ef, eg⟩ := E.get [(0, 1, 24)] [] (by kernel_rfl); clear E; simp only [nthV] at t24; go_simp; try with_reducible rfl
  refine FxL.call (v := ?_) (f := ?_) (args := ?_) rfl (fun ev w hS E => ?_) (fun w hS => ?_) ?_; rotate_left 3
  · obtain ⟨c0, c1, c2, c3, c4, c5, c6, c7, c8, c9, c10, c11⟩ := (b1.fr hS (by simp)).cells
    obtain ⟨t23, t25, ec, ef, eg⟩ := E.get [(2, 0, 23), (0, 2, 25)] [] (by kernel_rfl); clear E; simp only [nthV] at t23 t25; go_simp; first | (refine And.intro ?_ ?_ <;> with_reducible rfl) | with_reducible rfl
  · obtain ⟨c0, c1, c2, c3, c4, c5, c6, c7, c8, c9, c10, c11⟩ := (b1.fr hS (by simp)).cells
    refine (itoaL_any o.to_ HWI.out.1 w (HT1.out.fr hS)).mono ?_
    rintro e w2 ⟨rfl, F2⟩
    refine ⟨?_, hS.pure F2⟩; with_reducible rfl
  refine FxL.pure (v := ?_) rfl (fun ev w hS E => ?_) ?_; rotate_left
  · obtain ⟨t26, ec, ef, eg⟩ := E.get [(0, 3, 26)] [] (by kernel_rfl); clear E; simp only [nthV] at t26
    have hadd := padd 112 (Lib.itoa o.to_) (Nat.le_trans (itoaL_len HWI.out.1) (by decide))
    go_simp; try with_reducible rfl
  refine FxL.pure (v := ?_) rfl (fun ev w hS E => ?_) ?_; rotate_left
  · obtain ⟨t3, ec, ef, eg⟩ := E.get [] [3] (by kernel_rfl); clear E; go_simp; try with_reducible rfl
  refine FxL.pure (v := ?_) rfl (fun ev w hS E => ?_) ?_; rotate_left
  · obtain ⟨t1, ec, ef, eg⟩ := E.get [] [1] (by kernel_rfl); clear E; go_simp; try with_reducible rfl
  refine FxL.pure (v := ?_) rfl (fun ev w hS E => ?_) ?_; rotate_left
  · obtain ⟨c0, c1, c2, c3, c4, c5, c6, c7, c8, c9, c10, c11⟩ := (b1.fr hS (by simp)).cells
    obtain ⟨t29, ec, ef, eg⟩ := E.get [(0, 6, 29)] [] (by kernel_rfl); clear E; simp only [nthV] at t29; go_simp; try with_reducible rfl
  refine FxL.call (v := ?_) (f := ?_) (args := ?_) rfl (fun ev w hS E => ?_) (fun w hS => ?_) ?_; rotate_left 3
  · obtain ⟨c0, c1, c2, c3, c4, c5, c6, c7, c8, c9, c10, c11⟩ := (b1.fr hS (by simp)).cells
    obtain ⟨t28, t30, ec, ef, eg⟩ := E.get [(2, 5, 28), (0, 7, 30)] [] (by kernel_rfl); clear E; simp only [nthV] at t28 t30; go_simp; first | (refine And.intro ?_ ?_ <;> with_reducible rfl) | with_reducible rfl
  · obtain ⟨c0, c1, c2, c3, c4, c5, c6, c7, c8, c9, c10, c11⟩ := (b1.fr hS (by simp)).cells
    refine (itoaL_any o.amt HWI.out.2.1 w (HT1.out.fr hS)).mono ?_
    rintro e w2 ⟨rfl, F2⟩
    refine ⟨?_, hS.pure F2⟩; with_reducible rfl
  refine FxL.pure (v := ?_) rfl (fun ev w hS E => ?_) ?_; rotate_left
  · obtain ⟨t1, ec, ef, eg⟩ := E.get [] [1] (by kernel_rfl); clear E; go_simp; try with_reducible rfl
  refine FxL.pure (v := ?_) rfl (fun ev w hS E => ?_) ?_; rotate_left
  · obtain ⟨c0, c1, c2, c3, c4, c5, c6, c7, c8, c9, c10, c11⟩ := (b1.fr hS (by simp)).cells
    obtain ⟨t32, ec, ef, eg⟩ := E.get [(0, 9, 32)] [] (by kernel_rfl); clear E; simp only [nthV] at t32; go_simp; try with_reducible rfl
  refine FxL.call (v := ?_) (f := ?_) (args := ?_) rfl (fun ev w hS E => ?_) (fun w hS => ?_) ?_; rotate_left 3
  · obtain ⟨c0, c1, c2, c3, c4, c5, c6, c7, c8, c9, c10, c11⟩ := (b1.fr hS (by simp)).cells
    obtain ⟨t33, ec, ef, eg⟩ := E.get [(0, 10, 33)] [] (by kernel_rfl); clear E; simp only [nthV] at t33; go_simp; first | (refine And.intro ?_ ?_ <;> with_reducible rfl) | with_reducible rfl
  · obtain ⟨c0, c1, c2, c3, c4, c5, c6, c7, c8, c9, c10, c11⟩ := (b1.fr hS (by simp)).cells
    refine (ptxa_any HVA.out.1 w (HT1.out.fr hS)).mono ?_
    rintro e w2 ⟨rfl, F2⟩
    refine ⟨?_, hS.pure F2⟩; with_reducible rfl
  refine FxL.done (fun W hW => ?_)
  simp only [fillZ]
  try simp only [Act.put, List.setIfInBounds_toArray, List.set_cons_zero, List.set_cons_succ, List.getElem_toArray, List.getElem_cons_zero, List.getElem_cons_succ]
  try simp only [List.drop_succ_cons, List.drop_zero, List.drop_nil]
  clear HT1
  go_wp2_with fail
  refine (ljoin_any 44 [112 :: Lib.itoa o.to_, Lib.itoa o.amt, txtA o.ast] _ (Dm (W.alloc (.cells #[.string (bL (112 :: Lib.itoa o.to_)), .string (bL (Lib.itoa o.amt)), .string (bL (txtA o.ast))] 9)) none) (W.alloc (.cells #[.string (bL (112 :: Lib.itoa o.to_)), .string (bL (Lib.itoa o.amt)), .string (bL (txtA o.ast))] 9)) (lit_str [112 :: Lib.itoa o.to_, Lib.itoa o.amt, txtA o.ast] #[.string (bL (112 :: Lib.itoa o.to_)), .string (bL (Lib.itoa o.amt)), .string (bL (txtA o.ast))] 9 rfl (by simp) (Fr.refl _ _)) (fun b hb => hb.1) (by simp) (by
    have := join_le [44] (by simp) 30 [112 :: Lib.itoa o.to_, Lib.itoa o.amt, txtA o.ast] (HLN.out)
    simp only [List.length_cons, List.length_nil] at this ⊢
    omega)).mono ?_
  rintro e w9 ⟨rfl, F9⟩
  go_wp2_with fail
  go_ret
  exact ⟨by rw [HX.out]; rfl, ((F1.pure (hW.alloc _))).pure F9⟩
set_option maxRecDepth 100000 in
set_option maxHeartbeats 4000000 in
theorem ptxt3_any (x : OpX) (w : World) (hx : OpD w none x) (hv : vOp x.o = true) (hk : x.o.kind = 3) (hT : Tab w) : Calls Tryz.prog 57 #[opV x.o x.v] w fun e w' => e = .returned (.string (bL (txtO x.o))) ∧ Fr none w w' := by
  obtain ⟨o, PA, pc⟩ := x
  have hx : SlR astR w none (.slice PA o.path.length pc) o.path := hx
  dsimp only [OpX.v] at *
  have kk1 : (o.kind == 1) = false := by rw [beq_eq_false_iff_ne]; omega
  have kk2 : (o.kind == 2) = false := by rw [beq_eq_false_iff_ne]; omega
  have kk3 : (o.kind == 3) = true := by rw [beq_iff_eq]; exact hk
  obtain ⟨wi_to_, wi_amt, wi_lim, wi_num, wi_den, wi_id⟩ := vo_wi hv
  obtain ⟨va_ast, va_oth⟩ := vo_ast hv
  have HX : Hid (txtO o = Lib.join [116 :: txtA o.ast, Lib.itoa o.amt] [44]) := by unfold Hid txtO wdsO; rw [if_neg (by omega), if_neg (by omega), if_pos hk]
  have HLN : Hid (∀ y ∈ [116 :: txtA o.ast, Lib.itoa o.amt], y.length ≤ 30) := by
    intro y hy
    simp only [List.mem_cons, List.not_mem_nil, or_false] at hy
    rcases hy with rfl | rfl
    · have := txtA_len va_ast; simp only [List.length_cons]; omega
    · have := itoaL_len wi_amt; omega
  have HT := Lib.hid hT
  have HWI : Hid (Wi o.to_ ∧ Wi o.amt ∧ Wi o.lim ∧ Wi o.num ∧ Wi o.den ∧ Wi o.id) := ⟨wi_to_, wi_amt, wi_lim, wi_num, wi_den, wi_id⟩
  have HVA : Hid (vAst o.ast = true ∧ vAst o.oth = true) := ⟨va_ast, va_oth⟩
  have HV := Lib.hid hv
  have HK := Lib.hid hk
  clear hT wi_to_ wi_amt wi_lim wi_num wi_den wi_id va_ast va_oth hv hk
  obtain ⟨pn, hpn2⟩ : ∃ pn, pn = o.path.length := ⟨_, rfl⟩
  rw [← hpn2]
  have hpn : o.path.length = pn := hpn2.symm
  clear hpn2
  have HPN := Lib.hid hpn
  clear hpn
  unfold opV
  simp only [opL]
  go_enter Tryz.func57, Tryz.ntmps57
  go_upto_region 1 with (fail)
  generalize hW : w.alloc _ = w1
  have F1 : Fr none w w1 := hW ▸ (Fr.refl none w).alloc _
  have b1 : OpB w1 w.heap.size o (.slice PA pn pc) := by rw [← hW]; exact blk_new _ _
  clear hW
  obtain ⟨e0, e1, e2, e3, e4, e5, e6, e7, e8, e9, e10, e11⟩ := b1.cells
  have HT1 := Lib.hid (HT.out.fr F1)
  clear HT
  go_upto_region 9 with (fail)
  clear e0 e1 e2 e3 e4 e5 e6 e7 e8 e9 e10 e11
  refine wp_region_fxL (fun W => Fr none w1 W) 8 114 [some 45, some 44, some 43, some 42, some 41, some 40, some 39, some 38] (by kernel_rfl) (by kernel_rfl) (by kernel_rfl) (Nat.le_refl _) ((Fr.refl _ _).drew) ?_
  refine FxL.pure (v := ?_) rfl (fun ev w hS E => ?_) ?_; rotate_left
  · obtain ⟨t1, ec, ef, eg⟩ := E.get [] [1] (by kernel_rfl); clear E; go_simp; try with_reducible rfl
  refine FxL.pure (v := ?_) rfl (fun ev w hS E => ?_) ?_; rotate_left
  · obtain ⟨c0, c1, c2, c3, c4, c5, c6, c7, c8, c9, c10, c11⟩ := (b1.fr hS (by simp)).cells
    obtain ⟨t38, ec, ef, eg⟩ := E.get [(0, 0, 38)] [] (by kernel_rfl); clear E; simp only [nthV] at t38; go_simp; try with_reducible rfl
  refine FxL.call (v := ?_) (f := ?_) (args := ?_) rfl (fun ev w hS E => ?_) (fun w hS => ?_) ?_; rotate_left 3
  · obtain ⟨c0, c1, c2, c3, c4, c5, c6, c7, c8, c9, c10, c11⟩ := (b1.fr hS (by simp)).cells
    obtain ⟨t39, ec, ef, eg⟩ := E.get [(0, 1, 39)] [] (by kernel_rfl); clear E; simp only [nthV] at t39; go_simp; first | (refine And.intro ?_ ?_ <;> with_reducible rfl) | with_reducible rfl
  · obtain ⟨c0, c1, c2, c3, c4, c5, c6, c7, c8, c9, c10, c11⟩ := (b1.fr hS (by simp)).cells
    refine (ptxa_any HVA.out.1 w (HT1.out.fr hS)).mono ?_
    rintro e w2 ⟨rfl, F2⟩
    refine ⟨?_, hS.pure F2⟩; with_reducible rfl
  refine FxL.pure (v := ?_) rfl (fun ev w hS E => ?_) ?_; rotate_left
  · obtain ⟨t40, ec, ef, eg⟩ := E.get [(0, 2, 40)] [] (by kernel_rfl); clear E; simp only [nthV] at t40
    have hadd := padd 116 (txtA o.ast) (Nat.le_trans (txtA_len HVA.out.1) (by decide))
    go_simp; try with_reducible rfl
  refine FxL.pure (v := ?_) rfl (fun ev w hS E => ?_) ?_; rotate_left
  · obtain ⟨t3, ec, ef, eg⟩ := E.get [] [3] (by kernel_rfl); clear E; go_simp; try with_reducible rfl
  refine FxL.pure (v := ?_) rfl (fun ev w hS E => ?_) ?_; rotate_left
  · obtain ⟨t1, ec, ef, eg⟩ := E.get [] [1] (by kernel_rfl); clear E; go_simp; try with_reducible rfl
  refine FxL.pure (v := ?_) rfl (fun ev w hS E => ?_) ?_; rotate_left
  · obtain ⟨c0, c1, c2, c3, c4, c5, c6, c7, c8, c9, c10, c11⟩ := (b1.fr hS (by simp)).cells
    obtain ⟨t43, ec, ef, eg⟩ := E.get [(0, 5, 43)] [] (by kernel_rfl); clear E; simp only [nthV] at t43; go_simp; try with_reducible rfl
  refine FxL.call (v := ?_) (f := ?_) (args := ?_) rfl (fun ev w hS E => ?_) (fun w hS => ?_) ?_; rotate_left 3
  · obtain ⟨c0, c1, c2, c3, c4, c5, c6, c7, c8, c9, c10, c11⟩ := (b1.fr hS (by simp)).cells
    obtain ⟨t42, t44, ec, ef, eg⟩ := E.get [(2, 4, 42), (0, 6, 44)] [] (by kernel_rfl); clear E; simp only [nthV] at t42 t44; go_simp; first | (refine And.intro ?_ ?_ <;> with_reducible rfl) | with_reducible rfl
  · obtain ⟨c0, c1, c2, c3, c4, c5, c6, c7, c8, c9, c10, c11⟩ := (b1.fr hS (by simp)).cells
    refine (itoaL_any o.amt HWI.out.2.1 w (HT1.out.fr hS)).mono ?_
    rintro e w2 ⟨rfl, F2⟩
    refine ⟨?_, hS.pure F2⟩; with_reducible rfl
  refine FxL.done (fun W hW => ?_)
  simp only [fillZ]
  try simp only [Act.put, List.setIfInBounds_toArray, List.set_cons_zero, List.set_cons_succ, List.getElem_toArray, List.getElem_cons_zero, List.getElem_cons_succ]
  try simp only [List.drop_succ_cons, List.drop_zero, List.drop_nil]
  clear HT1
  go_wp2_with fail
  refine (ljoin_any 44 [116 :: txtA o.ast, Lib.itoa o.amt] _ (Dm (W.alloc (.cells #[.string (bL (116 :: txtA o.ast)), .string (bL (Lib.itoa o.amt))] 9)) none) (W.alloc (.cells #[.string (bL (116 :: txtA o.ast)), .string (bL (Lib.itoa o.amt))] 9)) (lit_str [116 :: txtA o.ast, Lib.itoa o.amt] #[.string (bL (116 :: txtA o.ast)), .string (bL (Lib.itoa o.amt))] 9 rfl (by simp) (Fr.refl _ _)) (fun b hb => hb.1) (by simp) (by
    have := join_le [44] (by simp) 30 [116 :: txtA o.ast, Lib.itoa o.amt] (HLN.out)
    simp only [List.length_cons, List.length_nil] at this ⊢
    omega)).mono ?_
  rintro e w9 ⟨rfl, F9⟩
  go_wp2_with fail
  go_ret
  exact ⟨by rw [HX.out]; rfl, ((F1.pure (hW.alloc _))).pure F9⟩
set_option maxRecDepth 100000 in
set_option maxHeartbeats 4000000 in
theorem ptxt4_any (x : OpX) (w : World) (hx : OpD w none x) (hv : vOp x.o = true) (hk : x.o.kind = 4) (hT : Tab w) : Calls Tryz.prog 57 #[opV x.o x.v] w fun e w' => e = .returned (.string (bL (txtO x.o))) ∧ Fr none w w' := by
  obtain ⟨o, PA, pc⟩ := x
  have hx : SlR astR w none (.slice PA o.path.length pc) o.path := hx
  dsimp only [OpX.v] at *
  have kk1 : (o.kind == 1) = false := by rw [beq_eq_false_iff_ne]; omega
  have kk2 : (o.kind == 2) = false := by rw [beq_eq_false_iff_ne]; omega
  have kk3 : (o.kind == 3) = false := by rw [beq_eq_false_iff_ne]; omega
  have kk4 : (o.kind == 4) = true := by rw [beq_iff_eq]; exact hk
  obtain ⟨wi_to_, wi_amt, wi_lim, wi_num, wi_den, wi_id⟩ := vo_wi hv
  obtain ⟨va_ast, va_oth⟩ := vo_ast hv
  have HX : Hid (txtO o = Lib.join [111 :: Lib.itoa o.amt, txtA o.ast, txtA o.oth, Lib.itoa o.num, Lib.itoa o.den] [44]) := by unfold Hid txtO wdsO; rw [if_neg (by omega), if_neg (by omega), if_neg (by omega), if_pos hk]
  have HLN : Hid (∀ y ∈ [111 :: Lib.itoa o.amt, txtA o.ast, txtA o.oth, Lib.itoa o.num, Lib.itoa o.den], y.length ≤ 30) := by
    intro y hy
    simp only [List.mem_cons, List.not_mem_nil, or_false] at hy
    rcases hy with rfl | rfl | rfl | rfl | rfl
    · have := itoaL_len wi_amt; simp only [List.length_cons]; omega
    · have := txtA_len va_ast; omega
    · have := txtA_len va_oth; omega
    · have := itoaL_len wi_num; omega
    · have := itoaL_len wi_den; omega
  have HT := Lib.hid hT
  have HWI : Hid (Wi o.to_ ∧ Wi o.amt ∧ Wi o.lim ∧ Wi o.num ∧ Wi o.den ∧ Wi o.id) := ⟨wi_to_, wi_amt, wi_lim, wi_num, wi_den, wi_id⟩
  have HVA : Hid (vAst o.ast = true ∧ vAst o.oth = true) := ⟨va_ast, va_oth⟩
  have HV := Lib.hid hv
  have HK := Lib.hid hk
  clear hT wi_to_ wi_amt wi_lim wi_num wi_den wi_id va_ast va_oth hv hk
  obtain ⟨pn, hpn2⟩ : ∃ pn, pn = o.path.length := ⟨_, rfl⟩
  rw [← hpn2]
  have hpn : o.path.length = pn := hpn2.symm
  clear hpn2
  have HPN := Lib.hid hpn
  clear hpn
  unfold opV
  simp only [opL]
  go_enter Tryz.func57, Tryz.ntmps57
  go_upto_region 1 with (fail)
  generalize hW : w.alloc _ = w1
  have F1 : Fr none w w1 := hW ▸ (Fr.refl none w).alloc _
  have b1 : OpB w1 w.heap.size o (.slice PA pn pc) := by rw [← hW]; exact blk_new _ _
  clear hW
  obtain ⟨e0, e1, e2, e3, e4, e5, e6, e7, e8, e9, e10, e11⟩ := b1.cells
  have HT1 := Lib.hid (HT.out.fr F1)
  clear HT
  go_upto_region 11 with (fail)
  clear e0 e1 e2 e3 e4 e5 e6 e7 e8 e9 e10 e11
  refine wp_region_fxL (fun W => Fr none w1 W) 19 114 [some 67, some 66, some 65, some 64, some 63, some 62, some 61, some 60, some 59, some 58, some 57, some 56, some 55, some 54, some 53, some 52, some 51, some 50, some 49] (by kernel_rfl) (by kernel_rfl) (by kernel_rfl) (Nat.le_refl _) ((Fr.refl _ _).drew) ?_
  refine FxL.pure (v := ?_) rfl (fun ev w hS E => ?_) ?_; rotate_left
  · obtain ⟨t3, ec, ef, eg⟩ := E.get [] [3] (by kernel_rfl); clear E; go_simp; try with_reducible rfl
  refine FxL.pure (v := ?_) rfl (fun ev w hS E => ?_) ?_; rotate_left
  · obtain ⟨t1, ec, ef, eg⟩ := E.get [] [1] (by kernel_rfl); clear E; go_simp; try with_reducible rfl
  refine FxL.pure (v := ?_) rfl (fun ev w hS E => ?_) ?_; rotate_left
  · obtain ⟨c0, c1, c2, c3, c4, c5, c6, c7, c8, c9, c10, c11⟩ := (b1.fr hS (by simp)).cells
    obtain ⟨t50, ec, ef, eg⟩ := E.get [(0, 1, 50)] [] (by kernel_rfl); clear E; simp only [nthV] at t50; go_simp; try with_reducible rfl
  refine FxL.call (v := ?_) (f := ?_) (args := ?_) rfl (fun ev w hS E => ?_) (fun w hS => ?_) ?_; rotate_left 3
  · obtain ⟨c0, c1, c2, c3, c4, c5, c6, c7, c8, c9, c10, c11⟩ := (b1.fr hS (by simp)).cells
    obtain ⟨t49, t51, ec, ef, eg⟩ := E.get [(2, 0, 49), (0, 2, 51)] [] (by kernel_rfl); clear E; simp only [nthV] at t49 t51; go_simp; first | (refine And.intro ?_ ?_ <;> with_reducible rfl) | with_reducible rfl
  · obtain ⟨c0, c1, c2, c3, c4, c5, c6, c7, c8, c9, c10, c11⟩ := (b1.fr hS (by simp)).cells
    refine (itoaL_any o.amt HWI.out.2.1 w (HT1.out.fr hS)).mono ?_
    rintro e w2 ⟨rfl, F2⟩
    refine ⟨?_, hS.pure F2⟩; with_reducible rfl
  refine FxL.pure (v := ?_) rfl (fun ev w hS E => ?_) ?_; rotate_left
  · obtain ⟨t52, ec, ef, eg⟩ := E.get [(0, 3, 52)] [] (by kernel_rfl); clear E; simp only [nthV] at t52
    have hadd := padd 111 (Lib.itoa o.amt) (Nat.le_trans (itoaL_len HWI.out.2.1) (by decide))
    go_simp; try with_reducible rfl
  refine FxL.pure (v := ?_) rfl (fun ev w hS E => ?_) ?_; rotate_left
  · obtain ⟨t1, ec, ef, eg⟩ := E.get [] [1] (by kernel_rfl); clear E; go_simp; try with_reducible rfl
  refine FxL.pure (v := ?_) rfl (fun ev w hS E => ?_) ?_; rotate_left
  · obtain ⟨c0, c1, c2, c3, c4, c5, c6, c7, c8, c9, c10, c11⟩ := (b1.fr hS (by simp)).cells
    obtain ⟨t54, ec, ef, eg⟩ := E.get [(0, 5, 54)] [] (by kernel_rfl); clear E; simp only [nthV] at t54; go_simp; try with_reducible rfl
  refine FxL.call (v := ?_) (f := ?_) (args := ?_) rfl (fun ev w hS E => ?_) (fun w hS => ?_) ?_; rotate_left 3
  · obtain ⟨c0, c1, c2, c3, c4, c5, c6, c7, c8, c9, c10, c11⟩ := (b1.fr hS (by simp)).cells
    obtain ⟨t55, ec, ef, eg⟩ := E.get [(0, 6, 55)] [] (by kernel_rfl); clear E; simp only [nthV] at t55; go_simp; first | (refine And.intro ?_ ?_ <;> with_reducible rfl) | with_reducible rfl
  · obtain ⟨c0, c1, c2, c3, c4, c5, c6, c7, c8, c9, c10, c11⟩ := (b1.fr hS (by simp)).cells
    refine (ptxa_any HVA.out.1 w (HT1.out.fr hS)).mono ?_
    rintro e w2 ⟨rfl, F2⟩
    refine ⟨?_, hS.pure F2⟩; with_reducible rfl
  refine FxL.pure (v := ?_) rfl (fun ev w hS E => ?_) ?_; rotate_left
  · obtain ⟨t1, ec, ef, eg⟩ := E.get [] [1] (by kernel_rfl); clear E; go_simp; try with_reducible rfl
  refine FxL.pure (v := ?_) rfl (fun ev w hS E => ?_) ?_; rotate_left
  · obtain ⟨c0, c1, c2, c3, c4, c5, c6, c7, c8, c9, c10, c11⟩ := (b1.fr hS (by simp)).cells
    obtain ⟨t57, ec, ef, eg⟩ := E.get [(0, 8, 57)] [] (by kernel_rfl); clear E; simp only [nthV] at t57; go_simp; try with_reducible rfl
  refine FxL.call (v := ?_) (f := ?_) (args := ?_) rfl (fun ev w hS E => ?_) (fun w hS => ?_) ?_; rotate_left 3
  · obtain ⟨c0, c1, c2, c3, c4, c5, c6, c7, c8, c9, c10, c11⟩ := (b1.fr hS (by simp)).cells
    obtain ⟨t58, ec, ef, eg⟩ := E.get [(0, 9, 58)] [] (by kernel_rfl); clear E; simp only [nthV] at t58; go_simp; first | (refine And.intro ?_ ?_ <;> with_reducible rfl) | with_reducible rfl
  · obtain ⟨c0, c1, c2, c3, c4, c5, c6, c7, c8, c9, c10, c11⟩ := (b1.fr hS (by simp)).cells
    refine (ptxa_any HVA.out.2 w (HT1.out.fr hS)).mono ?_
    rintro e w2 ⟨rfl, F2⟩
    refine ⟨?_, hS.pure F2⟩; with_reducible rfl
  refine FxL.pure (v := ?_) rfl (fun ev w hS E => ?_) ?_; rotate_left
  · obtain ⟨t3, ec, ef, eg⟩ := E.get [] [3] (by kernel_rfl); clear E; go_simp; try with_reducible rfl
  refine FxL.pure (v := ?_) rfl (fun ev w hS E => ?_) ?_; rotate_left
  · obtain ⟨t1, ec, ef, eg⟩ := E.get [] [1] (by kernel_rfl); clear E; go_simp; try with_reducible rfl
  refine FxL.pure (v := ?_) rfl (fun ev w hS E => ?_) ?_; rotate_left
  · obtain ⟨c0, c1, c2, c3, c4, c5, c6, c7, c8, c9, c10, c11⟩ := (b1.fr hS (by simp)).cells
    obtain ⟨t61, ec, ef, eg⟩ := E.get [(0, 12, 61)] [] (by kernel_rfl); clear E; simp only [nthV] at t61; go_simp; try with_reducible rfl
  refine FxL.call (v := ?_) (f := ?_) (args := ?_) rfl (fun ev w hS E => ?_) (fun w hS => ?_) ?_; rotate_left 3
  · obtain ⟨c0, c1, c2, c3, c4, c5, c6, c7, c8, c9, c10, c11⟩ := (b1.fr hS (by simp)).cells
    obtain ⟨t60, t62, ec, ef, eg⟩ := E.get [(2, 11, 60), (0, 13, 62)] [] (by kernel_rfl); clear E; simp only [nthV] at t60 t62; go_simp; first | (refine And.intro ?_ ?_ <;> with_reducible rfl) | with_reducible rfl
  · obtain ⟨c0, c1, c2, c3, c4, c5, c6, c7, c8, c9, c10, c11⟩ := (b1.fr hS (by simp)).cells
    refine (itoaL_any o.num HWI.out.2.2.2.1 w (HT1.out.fr hS)).mono ?_
    rintro e w2 ⟨rfl, F2⟩
    refine ⟨?_, hS.pure F2⟩; with_reducible rfl
  refine FxL.pure (v := ?_) rfl (fun ev w hS E => ?_) ?_; rotate_left
  · obtain ⟨t3, ec, ef, eg⟩ := E.get [] [3] (by kernel_rfl); clear E; go_simp; try with_reducible rfl
  refine FxL.pure (v := ?_) rfl (fun ev w hS E => ?_) ?_; rotate_left
  · obtain ⟨t1, ec, ef, eg⟩ := E.get [] [1] (by kernel_rfl); clear E; go_simp; try with_reducible rfl
  refine FxL.pure (v := ?_) rfl (fun ev w hS E => ?_) ?_; rotate_left
  · obtain ⟨c0, c1, c2, c3, c4, c5, c6, c7, c8, c9, c10, c11⟩ := (b1.fr hS (by simp)).cells
    obtain ⟨t65, ec, ef, eg⟩ := E.get [(0, 16, 65)] [] (by kernel_rfl); clear E; simp only [nthV] at t65; go_simp; try with_reducible rfl
  refine FxL.call (v := ?_) (f := ?_) (args := ?_) rfl (fun ev w hS E => ?_) (fun w hS => ?_) ?_; rotate_left 3
  · obtain ⟨c0, c1, c2, c3, c4, c5, c6, c7, c8, c9, c10, c11⟩ := (b1.fr hS (by simp)).cells
    obtain ⟨t64, t66, ec, ef, eg⟩ := E.get [(2, 15, 64), (0, 17, 66)] [] (by kernel_rfl); clear E; simp only [nthV] at t64 t66; go_simp; first | (refine And.intro ?_ ?_ <;> with_reducible rfl) | with_reducible rfl
  · obtain ⟨c0, c1, c2, c3, c4, c5, c6, c7, c8, c9, c10, c11⟩ := (b1.fr hS (by simp)).cells
    refine (itoaL_any o.den HWI.out.2.2.2.2.1 w (HT1.out.fr hS)).mono ?_
    rintro e w2 ⟨rfl, F2⟩
    refine ⟨?_, hS.pure F2⟩; with_reducible rfl
  refine FxL.done (fun W hW => ?_)
  simp only [fillZ]
  try simp only [Act.put, List.setIfInBounds_toArray, List.set_cons_zero, List.set_cons_succ, List.getElem_toArray, List.getElem_cons_zero, List.getElem_cons_succ]
  try simp only [List.drop_succ_cons, List.drop_zero, List.drop_nil]
  clear HT1
  go_wp2_with fail
  refine (ljoin_any 44 [111 :: Lib.itoa o.amt, txtA o.ast, txtA o.oth, Lib.itoa o.num, Lib.itoa o.den] _ (Dm (W.alloc (.cells #[.string (bL (111 :: Lib.itoa o.amt)), .string (bL (txtA o.ast)), .string (bL (txtA o.oth)), .string (bL (Lib.itoa o.num)), .string (bL (Lib.itoa o.den))] 9)) none) (W.alloc (.cells #[.string (bL (111 :: Lib.itoa o.amt)), .string (bL (txtA o.ast)), .string (bL (txtA o.oth)), .string (bL (Lib.itoa o.num)), .string (bL (Lib.itoa o.den))] 9)) (lit_str [111 :: Lib.itoa o.amt, txtA o.ast, txtA o.oth, Lib.itoa o.num, Lib.itoa o.den] #[.string (bL (111 :: Lib.itoa o.amt)), .string (bL (txtA o.ast)), .string (bL (txtA o.oth)), .string (bL (Lib.itoa o.num)), .string (bL (Lib.itoa o.den))] 9 rfl (by simp) (Fr.refl _ _)) (fun b hb => hb.1) (by simp) (by
    have := join_le [44] (by simp) 30 [111 :: Lib.itoa o.amt, txtA o.ast, txtA o.oth, Lib.itoa o.num, Lib.itoa o.den] (HLN.out)
    simp only [List.length_cons, List.length_nil] at this ⊢
    omega)).mono ?_
  rintro e w9 ⟨rfl, F9⟩
  go_wp2_with fail
  go_ret
  exact ⟨by rw [HX.out]; rfl, ((F1.pure (hW.alloc _))).pure F9⟩
set_option maxRecDepth 100000 in
set_option maxHeartbeats 4000000 in
theorem ptxt5_any (x : OpX) (w : World) (hx : OpD w none x) (hv : vOp x.o = true) (hk : x.o.kind = 5) (hT : Tab w) : Calls Tryz.prog 57 #[opV x.o x.v] w fun e w' => e = .returned (.string (bL (txtO x.o))) ∧ Fr none w w' := by
  obtain ⟨o, PA, pc⟩ := x
  have hx : SlR astR w none (.slice PA o.path.length pc) o.path := hx
  dsimp only [OpX.v] at *
  have kk1 : (o.kind == 1) = false := by rw [beq_eq_false_iff_ne]; omega
  have kk2 : (o.kind == 2) = false := by rw [beq_eq_false_iff_ne]; omega
  have kk3 : (o.kind == 3) = false := by rw [beq_eq_false_iff_ne]; omega
  have kk4 : (o.kind == 4) = false := by rw [beq_eq_false_iff_ne]; omega
  have kk5 : (o.kind == 5) = true := by rw [beq_iff_eq]; exact hk
  obtain ⟨wi_to_, wi_amt, wi_lim, wi_num, wi_den, wi_id⟩ := vo_wi hv
  obtain ⟨va_ast, va_oth⟩ := vo_ast hv
  have HX : Hid (txtO o = Lib.join [120 :: Lib.itoa o.id] [44]) := by unfold Hid txtO wdsO; rw [if_neg (by omega), if_neg (by omega), if_neg (by omega), if_neg (by omega), if_pos hk]
  have HLN : Hid (∀ y ∈ [120 :: Lib.itoa o.id], y.length ≤ 30) := by
    intro y hy
    simp only [List.mem_cons, List.not_mem_nil, or_false] at hy
    rcases hy with rfl
    · have := itoaL_len wi_id; simp only [List.length_cons]; omega
  have HT := Lib.hid hT
  have HWI : Hid (Wi o.to_ ∧ Wi o.amt ∧ Wi o.lim ∧ Wi o.num ∧ Wi o.den ∧ Wi o.id) := ⟨wi_to_, wi_amt, wi_lim, wi_num, wi_den, wi_id⟩
  have HVA : Hid (vAst o.ast = true ∧ vAst o.oth = true) := ⟨va_ast, va_oth⟩
  have HV := Lib.hid hv
  have HK := Lib.hid hk
  clear hT wi_to_ wi_amt wi_lim wi_num wi_den wi_id va_ast va_oth hv hk
  obtain ⟨pn, hpn2⟩ : ∃ pn, pn = o.path.length := ⟨_, rfl⟩
  rw [← hpn2]
  have hpn : o.path.length = pn := hpn2.symm
  clear hpn2
  have HPN := Lib.hid hpn
  clear hpn
  unfold opV
  simp only [opL]
  go_enter Tryz.func57, Tryz.ntmps57
  go_upto_region 1 with (fail)
  generalize hW : w.alloc _ = w1
  have F1 : Fr none w w1 := hW ▸ (Fr.refl none w).alloc _
  have b1 : OpB w1 w.heap.size o (.slice PA pn pc) := by rw [← hW]; exact blk_new _ _
  clear hW
  obtain ⟨e0, e1, e2, e3, e4, e5, e6, e7, e8, e9, e10, e11⟩ := b1.cells
  have HT1 := Lib.hid (HT.out.fr F1)
  clear HT
  go_upto_region 13 with (fail)
  go_wp2_with fail
  refine (itoaL_any o.id HWI.out.2.2.2.2.2 w1 HT1.out).mono ?_
  rintro e w2 ⟨rfl, F2⟩
  have hadd := padd 120 (Lib.itoa o.id) (Nat.le_trans (itoaL_len HWI.out.2.2.2.2.2) (by decide))
  clear HT1
  go_wp2_with fail
  refine (ljoin_any 44 [120 :: Lib.itoa o.id] _ (Dm (w2.alloc (.cells #[.string (bL (120 :: Lib.itoa o.id))] 9)) none) (w2.alloc (.cells #[.string (bL (120 :: Lib.itoa o.id))] 9)) (lit_str [120 :: Lib.itoa o.id] #[.string (bL (120 :: Lib.itoa o.id))] 9 rfl (by simp) (Fr.refl _ _)) (fun b hb => hb.1) (by simp) (by
    have := join_le [44] (by simp) 30 [120 :: Lib.itoa o.id] (HLN.out)
    simp only [List.length_cons, List.length_nil] at this ⊢
    omega)).mono ?_
  rintro e w9 ⟨rfl, F9⟩
  go_wp2_with fail
  go_ret
  exact ⟨by rw [HX.out]; rfl, (((F1.pure F2).alloc _)).pure F9⟩
set_option maxRecDepth 100000 in
set_option maxHeartbeats 4000000 in
theorem ptxt6_any (x : OpX) (w : World) (hx : OpD w none x) (hv : vOp x.o = true) (hk : x.o.kind = 6) (hT : Tab w) : Calls Tryz.prog 57 #[opV x.o x.v] w fun e w' => e = .returned (.string (bL (txtO x.o))) ∧ Fr none w w' := by
  obtain ⟨o, PA, pc⟩ := x
  have hx : SlR astR w none (.slice PA o.path.length pc) o.path := hx
  dsimp only [OpX.v] at *
  have kk1 : (o.kind == 1) = false := by rw [beq_eq_false_iff_ne]; omega
  have kk2 : (o.kind == 2) = false := by rw [beq_eq_false_iff_ne]; omega
  have kk3 : (o.kind == 3) = false := by rw [beq_eq_false_iff_ne]; omega
  have kk4 : (o.kind == 4) = false := by rw [beq_eq_false_iff_ne]; omega
  have kk5 : (o.kind == 5) = false := by rw [beq_eq_false_iff_ne]; omega
  have kk6 : (o.kind == 6) = true := by rw [beq_iff_eq]; exact hk
  obtain ⟨wi_to_, wi_amt, wi_lim, wi_num, wi_den, wi_id⟩ := vo_wi hv
  obtain ⟨va_ast, va_oth⟩ := vo_ast hv
  have HX : Hid (txtO o = Lib.join ([115 :: Lib.itoa o.to_, Lib.itoa o.amt, txtA o.ast, Lib.itoa o.lim, txtA o.oth] ++ o.path.map txtA) [44]) := by unfold Hid txtO wdsO; rw [if_neg (by omega), if_neg (by omega), if_neg (by omega), if_neg (by omega), if_neg (by omega), if_pos hk]; rfl
  obtain ⟨hp4, hvp⟩ : o.path.length ≤ 4 ∧ ∀ a ∈ o.path, vAst a = true := by
    rcases vo_of hv with ⟨k, h1, h2, he⟩ | ⟨k, h1, h2, h3, he⟩ | ⟨k, h1, h2, he⟩ | ⟨k, h1, h2, h3, h4, he⟩ | ⟨k, h1, he⟩ | ⟨k, h1, h2, h3, h4, h5, h6⟩ <;> first | exact h6 | omega
  have HVP := Lib.hid hvp
  have HLN : Hid (∀ y ∈ [115 :: Lib.itoa o.to_, Lib.itoa o.amt, txtA o.ast, Lib.itoa o.lim, txtA o.oth] ++ o.path.map txtA, y.length ≤ 30) := by
    intro y hy
    rcases List.mem_append.1 hy with hy | hy
    · simp only [List.mem_cons, List.not_mem_nil, or_false] at hy
      rcases hy with rfl | rfl | rfl | rfl | rfl
      · have := itoaL_len wi_to_; simp only [List.length_cons]; omega
      · have := itoaL_len wi_amt; omega
      · have := txtA_len va_ast; omega
      · have := itoaL_len wi_lim; omega
      · have := txtA_len va_oth; omega
    · obtain ⟨a, ha, rfl⟩ := List.mem_map.1 hy
      have := txtA_len (hvp a ha)
      omega
  have hpp : ∀ k (hk : k < o.path.length), ∃ b off, PA = some ⟨b, off, none⟩ ∧ w.cell? ⟨b, off + k * 2, none⟩ = some (.string (bL o.path[k].code)) ∧ w.cell? ⟨b, off + k * 2 + 1, none⟩ = some (.int .i64 o.path[k].iss) := by
    intro k hk
    obtain ⟨A', c', hv', q1, q2, hcc⟩ := astR_open hx
    injection hv' with v1 v2 v3
    subst v1 v3
    obtain ⟨b, off, rfl, hb, _, hc⟩ := hcc (by omega)
    exact ⟨b, off, rfl, (hc k hk).1, (hc k hk).2⟩
  have HP := Lib.hid hpp
  clear hvp hpp
  have HT := Lib.hid hT
  have HWI : Hid (Wi o.to_ ∧ Wi o.amt ∧ Wi o.lim ∧ Wi o.num ∧ Wi o.den ∧ Wi o.id) := ⟨wi_to_, wi_amt, wi_lim, wi_num, wi_den, wi_id⟩
  have HVA : Hid (vAst o.ast = true ∧ vAst o.oth = true) := ⟨va_ast, va_oth⟩
  have HV := Lib.hid hv
  have HK := Lib.hid hk
  clear hT wi_to_ wi_amt wi_lim wi_num wi_den wi_id va_ast va_oth hv hk
  obtain ⟨pn, hpn2⟩ : ∃ pn, pn = o.path.length := ⟨_, rfl⟩
  rw [← hpn2]
  have hpn : o.path.length = pn := hpn2.symm
  clear hpn2
  have HPN := Lib.hid hpn
  clear hpn
  have HP4 : Hid (pn ≤ 4) := by rw [← HPN.out]; exact hp4
  clear hp4 hx
  unfold opV
  simp only [opL]
  go_enter Tryz.func57, Tryz.ntmps57
  go_upto_region 1 with (fail)
  generalize hW : w.alloc _ = w1
  have F1 : Fr none w w1 := hW ▸ (Fr.refl none w).alloc _
  have b1 : OpB w1 w.heap.size o (.slice PA pn pc) := by rw [← hW]; exact blk_new _ _
  clear hW
  obtain ⟨e0, e1, e2, e3, e4, e5, e6, e7, e8, e9, e10, e11⟩ := b1.cells
  have HT1 := Lib.hid (HT.out.fr F1)
  clear HT
  go_upto_region 15 with (fail)
  clear e0 e1 e2 e3 e4 e5 e6 e7 e8 e9 e10 e11
  refine wp_region_fxL (fun W => Fr none w1 W) 19 114 [some 97, some 96, some 95, some 94, some 93, some 92, some 91, some 90, some 89, some 88, some 87, some 86, some 85, some 84, some 83, some 82, some 81, some 80, some 79] (by kernel_rfl) (by kernel_rfl) (by kernel_rfl) (Nat.le_refl _) ((Fr.refl _ _).drew) ?_
  refine FxL.pure (v := ?_) rfl (fun ev w hS E => ?_) ?_; rotate_left
  · obtain ⟨t3, ec, ef, eg⟩ := E.get [] [3] (by kernel_rfl); clear E; go_simp; try with_reducible rfl
  refine FxL.pure (v := ?_) rfl (fun ev w hS E => ?_) ?_; rotate_left
  · obtain ⟨t1, ec, ef, eg⟩ := E.get [] [1] (by kernel_rfl); clear E; go_simp; try with_reducible rfl
  refine FxL.pure (v := ?_) rfl (fun ev w hS E => ?_) ?_; rotate_left
  · obtain ⟨c0, c1, c2, c3, c4, c5, c6, c7, c8, c9, c10, c11⟩ := (b1.fr hS (by simp)).cells
    obtain ⟨t80, ec, ef, eg⟩ := E.get [(0, 1, 80)] [] (by kernel_rfl); clear E; simp only [nthV] at t80; go_simp; try with_reducible rfl
  refine FxL.call (v := ?_) (f := ?_) (args := ?_) rfl (fun ev w hS E => ?_) (fun w hS => ?_) ?_; rotate_left 3
  · obtain ⟨c0, c1, c2, c3, c4, c5, c6, c7, c8, c9, c10, c11⟩ := (b1.fr hS (by simp)).cells
    obtain ⟨t79, t81, ec, ef, eg⟩ := E.get [(2, 0, 79), (0, 2, 81)] [] (by kernel_rfl); clear E; simp only [nthV] at t79 t81; go_simp; first | (refine And.intro ?_ ?_ <;> with_reducible rfl) | with_reducible rfl
  · obtain ⟨c0, c1, c2, c3, c4, c5, c6, c7, c8, c9, c10, c11⟩ := (b1.fr hS (by simp)).cells
    refine (itoaL_any o.to_ HWI.out.1 w (HT1.out.fr hS)).mono ?_
    rintro e w2 ⟨rfl, F2⟩
    refine ⟨?_, hS.pure F2⟩; with_reducible rfl
  refine FxL.pure (v := ?_) rfl (fun ev w hS E => ?_) ?_; rotate_left
  · obtain ⟨t82, ec, ef, eg⟩ := E.get [(0, 3, 82)] [] (by kernel_rfl); clear E; simp only [nthV] at t82
    have hadd := padd 115 (Lib.itoa o.to_) (Nat.le_trans (itoaL_len HWI.out.1) (by decide))
    go_simp; try with_reducible rfl
  refine FxL.pure (v := ?_) rfl (fun ev w hS E => ?_) ?_; rotate_left
  · obtain ⟨t3, ec, ef, eg⟩ := E.get [] [3] (by kernel_rfl); clear E; go_simp; try with_reducible rfl
  refine FxL.pure (v := ?_) rfl (fun ev w hS E => ?_) ?_; rotate_left
  · obtain ⟨t1, ec, ef, eg⟩ := E.get [] [1] (by kernel_rfl); clear E; go_simp; try with_reducible rfl
  refine FxL.pure (v := ?_) rfl (fun ev w hS E => ?_) ?_; rotate_left
  · obtain ⟨c0, c1, c2, c3, c4, c5, c6, c7, c8, c9, c10, c11⟩ := (b1.fr hS (by simp)).cells
    obtain ⟨t85, ec, ef, eg⟩ := E.get [(0, 6, 85)] [] (by kernel_rfl); clear E; simp only [nthV] at t85; go_simp; try with_reducible rfl
  refine FxL.call (v := ?_) (f := ?_) (args := ?_) rfl (fun ev w hS E => ?_) (fun w hS => ?_) ?_; rotate_left 3
  · obtain ⟨c0, c1, c2, c3, c4, c5, c6, c7, c8, c9, c10, c11⟩ := (b1.fr hS (by simp)).cells
    obtain ⟨t84, t86, ec, ef, eg⟩ := E.get [(2, 5, 84), (0, 7, 86)] [] (by kernel_rfl); clear E; simp only [nthV] at t84 t86; go_simp; first | (refine And.intro ?_ ?_ <;> with_reducible rfl) | with_reducible rfl
  · obtain ⟨c0, c1, c2, c3, c4, c5, c6, c7, c8, c9, c10, c11⟩ := (b1.fr hS (by simp)).cells
    refine (itoaL_any o.amt HWI.out.2.1 w (HT1.out.fr hS)).mono ?_
    rintro e w2 ⟨rfl, F2⟩
    refine ⟨?_, hS.pure F2⟩; with_reducible rfl
  refine FxL.pure (v := ?_) rfl (fun ev w hS E => ?_) ?_; rotate_left
  · obtain ⟨t1, ec, ef, eg⟩ := E.get [] [1] (by kernel_rfl); clear E; go_simp; try with_reducible rfl
  refine FxL.pure (v := ?_) rfl (fun ev w hS E => ?_) ?_; rotate_left
  · obtain ⟨c0, c1, c2, c3, c4, c5, c6, c7, c8, c9, c10, c11⟩ := (b1.fr hS (by simp)).cells
    obtain ⟨t88, ec, ef, eg⟩ := E.get [(0, 9, 88)] [] (by kernel_rfl); clear E; simp only [nthV] at t88; go_simp; try with_reducible rfl
  refine FxL.call (v := ?_) (f := ?_) (args := ?_) rfl (fun ev w hS E => ?_) (fun w hS => ?_) ?_; rotate_left 3
  · obtain ⟨c0, c1, c2, c3, c4, c5, c6, c7, c8, c9, c10, c11⟩ := (b1.fr hS (by simp)).cells
    obtain ⟨t89, ec, ef, eg⟩ := E.get [(0, 10, 89)] [] (by kernel_rfl); clear E; simp only [nthV] at t89; go_simp; first | (refine And.intro ?_ ?_ <;> with_reducible rfl) | with_reducible rfl
  · obtain ⟨c0, c1, c2, c3, c4, c5, c6, c7, c8, c9, c10, c11⟩ := (b1.fr hS (by simp)).cells
    refine (ptxa_any HVA.out.1 w (HT1.out.fr hS)).mono ?_
    rintro e w2 ⟨rfl, F2⟩
    refine ⟨?_, hS.pure F2⟩; with_reducible rfl
  refine FxL.pure (v := ?_) rfl (fun ev w hS E => ?_) ?_; rotate_left
  · obtain ⟨t3, ec, ef, eg⟩ := E.get [] [3] (by kernel_rfl); clear E; go_simp; try with_reducible rfl
  refine FxL.pure (v := ?_) rfl (fun ev w hS E => ?_) ?_; rotate_left
  · obtain ⟨t1, ec, ef, eg⟩ := E.get [] [1] (by kernel_rfl); clear E; go_simp; try with_reducible rfl
  refine FxL.pure (v := ?_) rfl (fun ev w hS E => ?_) ?_; rotate_left
  · obtain ⟨c0, c1, c2, c3, c4, c5, c6, c7, c8, c9, c10, c11⟩ := (b1.fr hS (by simp)).cells
    obtain ⟨t92, ec, ef, eg⟩ := E.get [(0, 13, 92)] [] (by kernel_rfl); clear E; simp only [nthV] at t92; go_simp; try with_reducible rfl
  refine FxL.call (v := ?_) (f := ?_) (args := ?_) rfl (fun ev w hS E => ?_) (fun w hS => ?_) ?_; rotate_left 3
  · obtain ⟨c0, c1, c2, c3, c4, c5, c6, c7, c8, c9, c10, c11⟩ := (b1.fr hS (by simp)).cells
    obtain ⟨t91, t93, ec, ef, eg⟩ := E.get [(2, 12, 91), (0, 14, 93)] [] (by kernel_rfl); clear E; simp only [nthV] at t91 t93; go_simp; first | (refine And.intro ?_ ?_ <;> with_reducible rfl) | with_reducible rfl
  · obtain ⟨c0, c1, c2, c3, c4, c5, c6, c7, c8, c9, c10, c11⟩ := (b1.fr hS (by simp)).cells
    refine (itoaL_any o.lim HWI.out.2.2.1 w (HT1.out.fr hS)).mono ?_
    rintro e w2 ⟨rfl, F2⟩
    refine ⟨?_, hS.pure F2⟩; with_reducible rfl
  refine FxL.pure (v := ?_) rfl (fun ev w hS E => ?_) ?_; rotate_left
  · obtain ⟨t1, ec, ef, eg⟩ := E.get [] [1] (by kernel_rfl); clear E; go_simp; try with_reducible rfl
  refine FxL.pure (v := ?_) rfl (fun ev w hS E => ?_) ?_; rotate_left
  · obtain ⟨c0, c1, c2, c3, c4, c5, c6, c7, c8, c9, c10, c11⟩ := (b1.fr hS (by simp)).cells
    obtain ⟨t95, ec, ef, eg⟩ := E.get [(0, 16, 95)] [] (by kernel_rfl); clear E; simp only [nthV] at t95; go_simp; try with_reducible rfl
  refine FxL.call (v := ?_) (f := ?_) (args := ?_) rfl (fun ev w hS E => ?_) (fun w hS => ?_) ?_; rotate_left 3
  · obtain ⟨c0, c1, c2, c3, c4, c5, c6, c7, c8, c9, c10, c11⟩ := (b1.fr hS (by simp)).cells
    obtain ⟨t96, ec, ef, eg⟩ := E.get [(0, 17, 96)] [] (by kernel_rfl); clear E; simp only [nthV] at t96; go_simp; first | (refine And.intro ?_ ?_ <;> with_reducible rfl) | with_reducible rfl
  · obtain ⟨c0, c1, c2, c3, c4, c5, c6, c7, c8, c9, c10, c11⟩ := (b1.fr hS (by simp)).cells
    refine (ptxa_any HVA.out.2 w (HT1.out.fr hS)).mono ?_
    rintro e w2 ⟨rfl, F2⟩
    refine ⟨?_, hS.pure F2⟩; with_reducible rfl
  refine FxL.done (fun W hW => ?_)
  simp only [fillZ]
  try simp only [Act.put, List.setIfInBounds_toArray, List.set_cons_zero, List.set_cons_succ, List.getElem_toArray, List.getElem_cons_zero, List.getElem_cons_succ]
  try simp only [List.drop_succ_cons, List.drop_zero, List.drop_nil]
  obtain ⟨e0, e1, e2, e3, e4, e5, e6, e7, e8, e9, e10, e11⟩ := (b1.fr hW (by simp)).cells
  have el := (b1.fr hW (by simp)).lt
  go_wp2_with fail
  clear e0 e1 e2 e3 e4 e5 e6 e7 e8 e9 e10 e11 el
  obtain ⟨WL, hWL⟩ : ∃ WL : List (List UInt8), WL = [115 :: Lib.itoa o.to_, Lib.itoa o.amt, txtA o.ast, Lib.itoa o.lim, txtA o.oth] := ⟨_, rfl⟩
  have HWL := Lib.hid hWL
  have hF1W : Fr none w W := F1.pure hW
  generalize hWl : W.alloc _ = wl
  have own0 : wl.ownsRow W.heap.size 9 1 (.slice (some ⟨W.heap.size, 0, none⟩) 5 5) 5 (WL.map fun x => Value.string (bL x)) := by
    rw [← hWl, hWL]
    exact World.ownsRow_lit W _ 5 (Nat.le_refl _) (by unfold maxLen; omega) rfl
  have Fl : Fr none W wl := hWl ▸ (Fr.refl none W).alloc _
  have HT2 : Hid (Tab W) := HT1.out.fr hW
  clear hWl hWL b1 hW F1 HT1
  go_loopw [4, 102] (fun s4 s102 wr => ∃ (k n : Nat) (B : Option Addr) (d : Nat), k ≤ pn ∧ Hid (n = 5 + k) ∧ s102 = .int .i64 (k : Int) ∧ s4 = .slice B n d ∧ Fr none W wr ∧ wr.ownsRow W.heap.size 9 1 (.slice B n d) n ((WL ++ (o.path.take k).map txtA).map fun x => Value.string (bL x))) (fun _ s102 _ => pn - (intOf s102).toNat)
  case atStart => exact ⟨0, 5, _, _, Nat.zero_le _, rfl, rfl, rfl, Fl, by simpa using own0⟩
  case round =>
    obtain ⟨k, n, B, d, hk, HN, rfl, rfl, F, own⟩ := hrel
    have hn4 : n ≤ 9 := by have := HN.out; have := HP4.out; omega
    clear own0 Fl
    by_cases hlt : k < pn
    · have hlt' : k < o.path.length := by rw [HPN.out]; exact hlt
      obtain ⟨b, off, rfl, d0, d1⟩ := HP.out k hlt'
      have d0 := (hF1W.pure F).keep d0 (by simp)
      have d1 := (hF1W.pure F).keep d1 (by simp)
      have HVy := Lib.hid (HVP.out _ (List.getElem_mem hlt'))
      have HSt : Hid ((WL ++ (o.path.take (k + 1)).map txtA).map (fun x => Value.string (bL x)) = (WL ++ (o.path.take k).map txtA).map (fun x => Value.string (bL x)) ++ [Value.string (bL (txtA o.path[k]))]) := by
        unfold Hid
        rw [List.take_succ_eq_append_getElem hlt']
        simp only [List.map_append, List.append_assoc]
        rfl
      have hpc2 : (pn : Int) ≤ 4 := by have := HP4.out; omega
      generalize o.path[k] = y at *
      go_upto_region 19 with (fail)
      generalize hWa : wr.alloc _ = wa
      have Fa : Fr none wr wa := hWa ▸ (Fr.refl none wr).alloc _
      have b5 : wa.heap[wr.heap.size]? = some (.cells #[.string (bL y.code), .int .i64 y.iss] 36 (0, 0)) := by rw [← hWa]; exact blk_new _ _
      clear hWa d0 d1
      have d0 : wa.cell? ⟨wr.heap.size, 0, none⟩ = some (.string (bL y.code)) := by rw [blk_cell b5]; rfl
      have d1 : wa.cell? ⟨wr.heap.size, 1, none⟩ = some (.int .i64 y.iss) := by rw [blk_cell b5]; rfl
      clear b5
      go_wp2_with fail
      refine (ptxa_any HVy.out wa ((HT2.out.fr F).fr Fa)).mono ?_
      rintro e w5 ⟨rfl, F5⟩
      have own5 := own_fr (own_fr own Fa (by simp)) F5 (by simp)
      have FF5 := (F.pure Fa).pure F5
      clear own F Fa F5 d0 d1
      have hbz := FF5.size
      go_wp2_with (at_builtin; refine app_lit eiStrL rfl _ _ rfl W.heap.size B n d _ rfl own5 1 [.string (bL (txtA y))] _ _ rfl (by simp) rfl (by simp [Value.oneCell']) (by omega) (by unfold maxLen; omega) (by omega) ?_; intro A6 c6 w6 own6 F6 nb6)
      go_roundw
      case rel =>
        refine ⟨k + 1, n + 1, A6, c6, by omega, by have := HN.out; unfold Hid; omega, by go_num, rfl, FF5.own F6 (fun g hg => own_blk_ge own5 g hg), ?_⟩
        rw [HSt.out]
        exact own6
      case measure => simp [intOf]; omega
    · obtain rfl : k = pn := by omega
      have hfull : o.path.take k = o.path := List.take_of_length_le (by rw [HPN.out]; exact Nat.le_refl _)
      rw [hfull] at own
      have HXL : Hid (txtO o = Lib.join (WL ++ o.path.map txtA) [44]) := by unfold Hid; rw [HX.out, HWL.out]
      have hlen : (WL ++ o.path.map txtA).length = n := by rw [HWL.out, List.length_append, List.length_map, HPN.out, HN.out]; rfl
      have HLEN := Lib.hid hlen
      clear hfull hlen
      go_wp2_with fail
      refine (ljoin_any 44 (WL ++ o.path.map txtA) _ (Dm wr none) wr (SlD.of_own own (by simp)) (fun b hb => hb.1) (by rw [HLEN.out]; omega) (by
        have := join_le [44] (by simp) 30 (WL ++ o.path.map txtA) (by rw [HWL.out]; exact HLN.out)
        rw [HLEN.out] at this
        omega)).mono ?_
      rintro e w9 ⟨rfl, F9⟩
      go_wp2_with fail
      go_ret
      exact ⟨by rw [HXL.out]; rfl, (hF1W.pure F).pure F9⟩
theorem ptxt_any (x : OpX) (w : World) (hx : OpD w none x) (hv : vOp x.o = true) (hT : Tab w) : Calls Tryz.prog 57 #[opV x.o x.v] w fun e w' => e = .returned (.string (bL (txtO x.o))) ∧ Fr none w w' := by
  rcases vo_of hv with ⟨k, _⟩ | ⟨k, _⟩ | ⟨k, _⟩ | ⟨k, _⟩ | ⟨k, _⟩ | ⟨k, _⟩
  · exact ptxt1_any x w hx hv k hT
  · exact ptxt2_any x w hx hv k hT
  · exact ptxt3_any x w hx hv k hT
  · exact ptxt4_any x w hx hv k hT
  · exact ptxt5_any x w hx hv k hT
  · exact ptxt6_any x w hx hv k hT
theorem txtO_len {o : Opr} (h : vOp o = true) : (txtO o).length ≤ 400 := by
  have key : (wdsO o).length ≤ 9 ∧ ∀ y ∈ wdsO o, y.length ≤ 30 := by
    obtain ⟨w1, w2, w3, w4, w5, w6⟩ := vo_wi h
    obtain ⟨a1, a2⟩ := vo_ast h
    have l1 := itoaL_len w1
    have l2 := itoaL_len w2
    have l3 := itoaL_len w3
    have l4 := itoaL_len w4
    have l5 := itoaL_len w5
    have l6 := itoaL_len w6
    have m1 := txtA_len a1
    have m2 := txtA_len a2
    unfold wdsO
    rcases vo_of h with ⟨k, _⟩ | ⟨k, _⟩ | ⟨k, _⟩ | ⟨k, _⟩ | ⟨k, _⟩ | ⟨k, _, _, _, _, _, h6⟩
    · rw [if_pos k]
      refine ⟨by simp, fun y hy => ?_⟩
      simp only [List.mem_cons, List.not_mem_nil, or_false] at hy
      rcases hy with rfl | rfl <;> (try simp only [List.length_cons]) <;> omega
    · rw [if_neg (by omega), if_pos k]
      refine ⟨by simp, fun y hy => ?_⟩
      simp only [List.mem_cons, List.not_mem_nil, or_false] at hy
      rcases hy with rfl | rfl | rfl <;> (try simp only [List.length_cons]) <;> omega
    · rw [if_neg (by omega), if_neg (by omega), if_pos k]
      refine ⟨by simp, fun y hy => ?_⟩
      simp only [List.mem_cons, List.not_mem_nil, or_false] at hy
      rcases hy with rfl | rfl <;> (try simp only [List.length_cons]) <;> omega
    · rw [if_neg (by omega), if_neg (by omega), if_neg (by omega), if_pos k]
      refine ⟨by simp, fun y hy => ?_⟩
      simp only [List.mem_cons, List.not_mem_nil, or_false] at hy
      rcases hy with rfl | rfl | rfl | rfl | rfl <;> (try simp only [List.length_cons]) <;> omega
    · rw [if_neg (by omega), if_neg (by omega), if_neg (by omega), if_neg (by omega), if_pos k]
      refine ⟨by simp, fun y hy => ?_⟩
      simp only [List.mem_cons, List.not_mem_nil, or_false] at hy
      rw [hy]; simp only [List.length_cons]; omega
    · rw [if_neg (by omega), if_neg (by omega), if_neg (by omega), if_neg (by omega), if_neg (by omega), if_pos k]
      refine ⟨by have := h6.1; simp; omega, fun y hy => ?_⟩
      simp only [List.mem_cons, List.mem_map] at hy
      rcases hy with rfl | rfl | rfl | rfl | rfl | ⟨a, ha, rfl⟩
      · simp only [List.length_cons]; omega
      · omega
      · omega
      · omega
      · omega
      · have := txtA_len (h6.2 a ha); omega
  have := join_le [44] (by simp) 30 (wdsO o) key.2
  unfold txtO
  have h9 := key.1
  have : (wdsO o).length * (30 + 1) ≤ 9 * 31 := Nat.mul_le_mul_right _ h9
  omega

end Go.Proofs.YtonhhnedfjonoaaGreatDoor

/- Some texts of this claim, joined: contracts of the functions that it reaches, and plain laws. -/
import Derived.Test.YtonhhnedfjonoaaGreatDoorProg
import Derived.Test.YtonhhnedfjonoaaGreatDoorJM21

set_option linter.unusedSimpArgs false
set_option linter.unusedVariables false
/- Walks: the reference's lines: Find. -/
namespace Go.Proofs.YtonhhnedfjonoaaGreatDoor
open Go.RowKit

def ln0 : Ln := ⟨0, nat, 0, 0⟩
def fndL (l : List Ln) (acc : Int) (a : Ast) : Ln × Bool := match findL l acc a with
  | some x => (x, true)
  | none => (ln0, false)
def lnV (x : Ln) : Value := .agg #[.int .i64 x.acc, .string (bL x.ast.code), .int .i64 x.ast.iss, .int .i64 x.bal, .int .i64 x.lim]
set_option maxRecDepth 100000 in
set_option maxHeartbeats 1000000 in
theorem rfnd37_any (l : List Ln) (v : Value) (acc : Int) (a : Ast) (w : World) (h : SlR lnR w none v l) : Calls Tryz.prog 74 #[v, .int .i64 acc, .agg #[.string (bL a.code), .int .i64 a.iss]] w fun e w' => e = .returned (.tuple #[lnV (fndL l acc a).1, .bool (fndL l acc a).2]) ∧ Fr none w w' := by
  obtain ⟨A, c, rfl, q1, q2, hc⟩ := lnR_open h
  have HC := Lib.hid hc
  clear hc
  go_enter Tryz.func74, Tryz.ntmps74
  go_upto_region 1 with (fail)
  generalize hW : (w.alloc _).alloc _ = w1
  have F1 : Fr none w w1 := hW ▸ ((Fr.refl none w).alloc _).alloc _
  have b5 : CL2 w1 w.heap.size (.string (bL a.code)) (.int .i64 a.iss) 36 := by rw [← hW]; exact blk_fr (blk_new _ _) ((Fr.refl none _).alloc _) (by simp)
  have b4 : w1.heap[w.heap.size + 1]? = some (.cells #[.int .i64 0, .string ⟨#[]⟩, .int .i64 0, .int .i64 0, .int .i64 0] 39 (0, 0)) := by rw [← hW]; exact blk_new_at (by simp) _
  clear hW
  obtain ⟨r5, r6⟩ := b5.cell
  have l5 := blk_lt b5
  go_wp2_with fail
  refine (rat37_any l _ acc a w1 (h.fr F1)).mono ?_
  rintro e w2 ⟨rfl, F2⟩
  clear r5 r6 l5 b5
  have b4 := blk_fr b4 F2 (by simp)
  have F02 := F1.pure F2
  have l4 := blk_lt b4
  have r0 : w2.cell? ⟨w.heap.size + 1, 0, none⟩ = some (.int .i64 0) := by rw [blk_cell b4]; rfl
  have r1 : w2.cell? ⟨w.heap.size + 1, 1, none⟩ = some (.string ⟨#[]⟩) := by rw [blk_cell b4]; rfl
  have r2 : w2.cell? ⟨w.heap.size + 1, 2, none⟩ = some (.int .i64 0) := by rw [blk_cell b4]; rfl
  have r3 : w2.cell? ⟨w.heap.size + 1, 3, none⟩ = some (.int .i64 0) := by rw [blk_cell b4]; rfl
  have r4 : w2.cell? ⟨w.heap.size + 1, 4, none⟩ = some (.int .i64 0) := by rw [blk_cell b4]; rfl
  have f0 := blk_free b4 0
  have f1 := blk_free b4 1
  have f2 := blk_free b4 2
  have f3 := blk_free b4 3
  have f4 := blk_free b4 4
  rcases idxP_cases (isL acc a) l with ⟨hi, hf⟩ | ⟨k, hk, hi, hf, _⟩
  · have HR : Hid (fndL l acc a = (ln0, false)) := by unfold Hid fndL findL; rw [hf]
    rw [hi]
    clear hi hf b4
    go_wp2_with fail
    refine bodyPost_ret (v := .tuple #[.agg #[.int .i64 0, .string ⟨#[]⟩, .int .i64 0, .int .i64 0, .int .i64 0], .bool false]) (by simp [results, Tryz.results74, go_sem, r0, r1, r2, r3, r4]) rfl ?_
    have FF := ((((Fr.set1 w2 ⟨w.heap.size + 1, 0, none⟩ (.int .i64 0)).same (Fr.set1 _ ⟨w.heap.size + 1, 1, none⟩ (.string ⟨#[]⟩))).same (Fr.set1 _ ⟨w.heap.size + 1, 2, none⟩ (.int .i64 0))).same (Fr.set1 _ ⟨w.heap.size + 1, 3, none⟩ (.int .i64 0))).same (Fr.set1 _ ⟨w.heap.size + 1, 4, none⟩ (.int .i64 0))
    exact ⟨by rw [HR.out]; rfl, F02.own FF (by simp)⟩
  · obtain ⟨b, off, rfl, hb, _, hcc⟩ := HC.out (by omega)
    obtain ⟨c1, c2, c3, c4, c5⟩ := hcc k hk
    have c1 := F02.keep c1 (by simp)
    have c2 := F02.keep c2 (by simp)
    have c3 := F02.keep c3 (by simp)
    have c4 := F02.keep c4 (by simp)
    have c5 := F02.keep c5 (by simp)
    have HR : Hid (fndL l acc a = (l[k], true)) := by unfold Hid fndL findL; rw [hf]
    rw [hi]
    clear hi hf hcc b4
    generalize l[k] = x at *
    go_wp2_with fail
    refine bodyPost_ret (v := .tuple #[.agg #[.int .i64 x.acc, .string (bL x.ast.code), .int .i64 x.ast.iss, .int .i64 x.bal, .int .i64 x.lim], .bool true]) (by simp [results, Tryz.results74, go_sem, r0, r1, r2, r3, r4]) rfl ?_
    have FF := ((((Fr.set1 w2 ⟨w.heap.size + 1, 0, none⟩ (.int .i64 x.acc)).same (Fr.set1 _ ⟨w.heap.size + 1, 1, none⟩ (.string (bL x.ast.code)))).same (Fr.set1 _ ⟨w.heap.size + 1, 2, none⟩ (.int .i64 x.ast.iss))).same (Fr.set1 _ ⟨w.heap.size + 1, 3, none⟩ (.int .i64 x.bal))).same (Fr.set1 _ ⟨w.heap.size + 1, 4, none⟩ (.int .i64 x.lim))
    exact ⟨by rw [HR.out]; rfl, F02.own FF (by simp)⟩
end Go.Proofs.YtonhhnedfjonoaaGreatDoor

/- Walks: the reference's Check of lines. -/
namespace Go.Proofs.YtonhhnedfjonoaaGreatDoor
open Go.RowKit

theorem okL_big {A : List Acct} {l : List Ln} {j m : Nat} {x y : Ln} (hm : 0 < j → j = m + 1) (hy : l[m]? = some y) : okLn A (prevOf l j) x = !(!(findA A x.acc).isSome || !vAst x.ast || decide (x.ast = nat) || (x.ast.iss == x.acc) || !vAmt x.lim || decide (x.bal < 0) || decide (x.lim < x.bal) || (decide (0 < j) && !befL y x.acc x.ast)) := by
  unfold okLn prevOf
  generalize vAmt x.lim = v
  generalize vAst x.ast = u
  generalize (findA A x.acc).isSome = t
  rw [Bool.eq_iff_iff]
  by_cases h0 : j = 0
  · subst h0
    cases v <;> cases u <;> cases t <;> simp [and_assoc]
  · have := hm (by omega)
    subst this
    cases hs : befL y x.acc x.ast <;> cases v <;> cases u <;> cases t <;> simp [hy, hs, and_assoc]
theorem fndA_snd (l : List Acct) (id : Int) : (fndA l id).2 = (findA l id).isSome := by
  unfold fndA
  cases findA l id <;> rfl
set_option maxRecDepth 100000 in
set_option maxHeartbeats 8000000 in
theorem rchkL_any (l : List Ln) (accs : List Acct) (v va : Value) (w : World) (h : SlR lnR w none v l) (ha : SlR accR w none va accs) : Calls Tryz.prog 72 #[v, va] w fun e w' => e = .returned (.int .i64 (chkLn l accs)) ∧ Fr none w w' := by
  obtain ⟨V, hV⟩ : ∃ V, V = chkLn l accs := ⟨_, rfl⟩
  rw [← hV]
  have HV := Lib.hid hV
  clear hV
  obtain ⟨A, c, rfl, q1, q2, hc⟩ := lnR_open h
  have HC := Lib.hid hc
  obtain ⟨A2, c2, rfl, _, _, _⟩ := accR_open ha
  have HAc := Lib.hid ha
  clear hc ha
  obtain ⟨CA, hCA⟩ : ∃ CA, CA = chkAc accs := ⟨_, rfl⟩
  have HCA := Lib.hid hCA
  clear hCA
  by_cases hA : CA = 0
  · subst hA
    by_cases hl : 60 < l.length
    · have hd : decide ((60 : Int) < (l.length : Int)) = true := decide_eq_true (by omega)
      have HX : Hid (V = 3) := by unfold Hid; rw [HV.out]; unfold chkLn; rw [if_neg (fun e => e HCA.out.symm), if_pos hl]
      clear hl
      go_enter Tryz.func72, Tryz.ntmps72
      go_wp2_with fail
      refine (rchkA_any accs _ w HAc.out).mono ?_
      rintro e w1 ⟨rfl, F1⟩
      rw [← HCA.out]
      go_wp2_with fail
      go_ret
      exact ⟨ret_int HX.out.symm, F1⟩
    · have hd : decide ((60 : Int) < (l.length : Int)) = false := decide_eq_false (by omega)
      have HVl : Hid (V = if okAll (okLn accs) none l = true then 0 else 74) := by unfold Hid; rw [HV.out]; unfold chkLn; rw [if_neg (fun e => e HCA.out.symm), if_neg hl]
      clear hl HV
      go_enter Tryz.func72, Tryz.ntmps72
      go_wp2_with fail
      refine (rchkA_any accs _ w HAc.out).mono ?_
      rintro e w1 ⟨rfl, F1⟩
      rw [← HCA.out]
      go_wp2_with fail
      go_loopw [20] (fun s20 wr => ∃ j : Nat, j ≤ l.length ∧ s20 = .int .i64 (j : Int) ∧ Hid (∀ k (hk : k < l.length), k < j → okLn accs (prevOf l k) l[k] = true) ∧ Fr none w1 wr) (fun s20 _ => l.length - (intOf s20).toNat)
      case atStart => exact ⟨0, by omega, rfl, fun k _ hk => by omega, Fr.refl _ _⟩
      case round =>
        obtain ⟨j, hj, rfl, HJ, F⟩ := hrel
        obtain ⟨wz, hwz⟩ : ∃ wz : World, wz = wr := ⟨_, rfl⟩
        subst hwz
        have F0z := F1.pure F
        by_cases hlt : j < l.length
        · obtain ⟨b, off, rfl, hb, _, hcc⟩ := HC.out (by omega)
          obtain ⟨c1, c2, c3, c4, c5⟩ := hcc j hlt
          have c1 := F0z.keep c1 (by simp)
          have c2 := F0z.keep c2 (by simp)
          have c3 := F0z.keep c3 (by simp)
          have c4 := F0z.keep c4 (by simp)
          have c5 := F0z.keep c5 (by simp)
          have HNo : Hid (okLn accs (prevOf l j) l[j] = false → V = 74) := fun h => by rw [HVl.out, if_neg (by rw [okAll_not hlt h]; simp)]
          have HYes : Hid (okLn accs (prevOf l j) l[j] = true → ∀ k (hk : k < l.length), k < j + 1 → okLn accs (prevOf l k) l[k] = true) := fun h k hk hkj => by
            rcases Nat.lt_or_ge k j with hh | hh
            · exact HJ.out k hk hh
            · obtain rfl : k = j := by omega
              exact h
          obtain ⟨m, hm, hml⟩ : ∃ m, (0 < j → j = m + 1) ∧ m < l.length := ⟨j - 1, by omega, by omega⟩
          obtain ⟨d1, d2, d3, d4, d5⟩ := hcc m hml
          have d1 := F0z.keep d1 (by simp)
          have d2 := F0z.keep d2 (by simp)
          have d3 := F0z.keep d3 (by simp)
          have d4 := F0z.keep d4 (by simp)
          have d5 := F0z.keep d5 (by simp)
          have hwr : 0 < j → IntKind.i64.wrap ((j : Int) - 1) = (m : Int) := fun h => by have := hm h; rw [IntKind.wrap_i64]; omega
          have hml' : (m : Int) < (l.length : Int) := by omega
          have HB := Lib.hid (okL_big (A := accs) (x := l[j]) hm (List.getElem?_eq_getElem hml))
          clear hcc HJ hm
          generalize l[j] = x at *
          generalize l[m] = y at *
          go_upto_region 9 with (fail)
          generalize hW : wz.alloc _ = wy
          have Fy : Fr none wz wy := hW ▸ (Fr.refl none wz).alloc _
          have b4 : wy.heap[wz.heap.size]? = some (.cells #[.int .i64 x.acc, .string (bL x.ast.code), .int .i64 x.ast.iss, .int .i64 x.bal, .int .i64 x.lim] 39 (0, 0)) := by rw [← hW]; exact blk_new _ _
          have r1 : wy.cell? ⟨wz.heap.size, 0, none⟩ = some (.int .i64 x.acc) := by rw [blk_cell b4]; rfl
          have l4 := blk_lt b4
          clear hW c1 c2 c3 c4 c5
          go_wp2_with fail
          refine (rfnd36_any accs _ x.acc wy (HAc.out.fr (F0z.pure Fy))).mono ?_
          rintro e wf ⟨rfl, Ff⟩
          have hfs := fndA_snd accs x.acc
          generalize fndA accs x.acc = R at *
          obtain ⟨⟨f1, f2, f3⟩, FB⟩ := R
          have HFB : Hid (FB = (findA accs x.acc).isSome) := hfs
          clear hfs r1 l4
          simp only [accV]
          have b4 := blk_fr b4 Ff (by simp)
          go_upto_region 10 with (fail)
          generalize hW : wf.alloc _ = wa
          have Fb : Fr none wf wa := hW ▸ (Fr.refl none wf).alloc _
          clear hW
          have Fa := Fy.pure (Ff.pure Fb)
          have b4 := blk_fr b4 Fb (by simp)
          have HS : Hid (∀ W, Fr none wa W → (W.cell? ⟨b, off + m * 5, none⟩ = some (.int .i64 y.acc) ∧ W.cell? ⟨b, off + m * 5 + 1, none⟩ = some (.string (bL y.ast.code)) ∧ W.cell? ⟨b, off + m * 5 + 2, none⟩ = some (.int .i64 y.ast.iss) ∧ W.cell? ⟨b, off + m * 5 + 3, none⟩ = some (.int .i64 y.bal) ∧ W.cell? ⟨b, off + m * 5 + 4, none⟩ = some (.int .i64 y.lim)) ∧ W.cell? ⟨wz.heap.size, 0, none⟩ = some (.int .i64 x.acc) ∧ W.cell? ⟨wz.heap.size, 1, none⟩ = some (.string (bL x.ast.code)) ∧ W.cell? ⟨wz.heap.size, 2, none⟩ = some (.int .i64 x.ast.iss) ∧ W.cell? ⟨wz.heap.size, 3, none⟩ = some (.int .i64 x.bal) ∧ W.cell? ⟨wz.heap.size, 4, none⟩ = some (.int .i64 x.lim)) := fun W FW => by
            have := blk_fr b4 FW (by simp)
            have FK := Fa.pure FW
            exact ⟨⟨FK.keep d1 (by simp), FK.keep d2 (by simp), FK.keep d3 (by simp), FK.keep d4 (by simp), FK.keep d5 (by simp)⟩, by rw [blk_cell this]; rfl, by rw [blk_cell this]; rfl, by rw [blk_cell this]; rfl, by rw [blk_cell this]; rfl, by rw [blk_cell this]; rfl⟩
          rw [← HFB.out] at HB
          clear b4 Fy Ff Fb d1 d2 d3 d4 d5 HFB
          refine wp_region_fxL (fun W => Fr none wa W) 56 89 [some 87, some 86, some 85, some 84, some 83, some 82, some 81, some 80, some 79, some 78, some 77, some 76, some 75, some 74, some 73, some 72, some 71, some 70, some 69, some 68, some 67, some 66, some 65, some 64, some 63, some 62, some 61, some 60, some 59, some 58, some 57, some 56, some 55, some 54, some 53, some 52, some 51, some 50, some 49, some 48, some 47, some 46, some 45, some 44, some 43, some 42, some 41, some 40, some 39, some 38, some 37, some 36, some 35, some 34, some 33, some 32] (by kernel_rfl) (by kernel_rfl) (by kernel_rfl) (Nat.le_refl _) ((Fr.refl _ _).drew) ?_
          refine FxL.pure (v := ?_) rfl (fun ev w hS E => ?_) ?_; rotate_left
          · obtain ⟨t9, ec, ef, eg⟩ := E.get [] [9] (by kernel_rfl); clear E; go_simp; try with_reducible rfl
          refine FxL.pure (v := ?_) rfl (fun ev w hS E => ?_) ?_; rotate_left
          · obtain ⟨t32, ec, ef, eg⟩ := E.get [(0, 0, 32)] [] (by kernel_rfl); clear E; simp only [nthV] at t32; go_simp; try with_reducible rfl
          refine FxL.pure (v := ?_) rfl (fun ev w hS E => ?_) ?_; rotate_left
          · obtain ⟨t33, ec, ef, eg⟩ := E.get [(0, 1, 33)] [] (by kernel_rfl); clear E; simp only [nthV] at t33; go_simp; try with_reducible rfl
          refine FxL.gw (u := ?_) rfl 0 rfl (by simp only [nthV] <;> rfl) (fun hg ev w hS E => ?_) ?_; rotate_left
          · obtain ⟨t7, ec, ef, eg⟩ := E.get [] [7] (by kernel_rfl); clear E; go_simp; try with_reducible rfl
          refine FxL.gw (u := ?_) rfl 1 rfl (by simp only [nthV] <;> rfl) (fun hg ev w hS E => ?_) ?_; rotate_left
          · obtain ⟨⟨k1, k2, k3, k4, k5⟩, k6, k7, k8, k9, k10⟩ := HS.out w hS
            obtain ⟨t35, ec, ef, eg⟩ := E.get [(0, 3, 35)] [] (by kernel_rfl); clear E; simp only [nthV] at t35
            (try simp only [hg, gw_on] at t35); go_simp; try with_reducible rfl
          refine FxL.gwc (u := ?_) (f := ?_) (args := ?_) rfl 2 rfl (by simp only [nthV] <;> rfl) (fun hg ev w hS E => ?_) (fun hg w hS => ?_) ?_; rotate_left 3
          · obtain ⟨⟨k1, k2, k3, k4, k5⟩, k6, k7, k8, k9, k10⟩ := HS.out w hS
            obtain ⟨t36, ec, ef, eg⟩ := E.get [(0, 4, 36)] [] (by kernel_rfl); clear E; simp only [nthV] at t36
            (try simp only [hg, gw_on] at t36); go_simp; first | (refine And.intro ?_ ?_ <;> with_reducible rfl) | with_reducible rfl
          · obtain ⟨⟨k1, k2, k3, k4, k5⟩, k6, k7, k8, k9, k10⟩ := HS.out w hS
            refine (rast_any x.ast w).mono ?_
            rintro e w2 ⟨rfl, F2⟩
            refine ⟨?_, hS.pure F2⟩; with_reducible rfl
          refine FxL.gw (u := ?_) rfl 3 rfl (by simp only [nthV] <;> rfl) (fun hg ev w hS E => ?_) ?_; rotate_left
          · obtain ⟨t37, ec, ef, eg⟩ := E.get [(0, 5, 37)] [] (by kernel_rfl); clear E; simp only [nthV] at t37
            (try simp only [hg, gw_on] at t37); go_simp; try with_reducible rfl
          refine FxL.por rfl rfl 4 2 0 6 (by kernel_rfl) rfl rfl ?_
          refine FxL.pure (v := ?_) rfl (fun ev w hS E => ?_) ?_; rotate_left
          · obtain ⟨t39, ec, ef, eg⟩ := E.get [(0, 7, 39)] [] (by kernel_rfl); clear E; simp only [nthV] at t39; go_simp; try with_reducible rfl
          refine FxL.gw (u := ?_) rfl 0 rfl (by simp only [nthV] <;> rfl) (fun hg ev w hS E => ?_) ?_; rotate_left
          · obtain ⟨t7, ec, ef, eg⟩ := E.get [] [7] (by kernel_rfl); clear E; go_simp; try with_reducible rfl
          refine FxL.gw (u := ?_) rfl 1 rfl (by simp only [nthV] <;> rfl) (fun hg ev w hS E => ?_) ?_; rotate_left
          · obtain ⟨⟨k1, k2, k3, k4, k5⟩, k6, k7, k8, k9, k10⟩ := HS.out w hS
            obtain ⟨t41, ec, ef, eg⟩ := E.get [(0, 9, 41)] [] (by kernel_rfl); clear E; simp only [nthV] at t41
            (try simp only [hg, gw_on] at t41); go_simp; try with_reducible rfl
          refine FxL.gwc (u := ?_) (f := ?_) (args := ?_) rfl 2 rfl (by simp only [nthV] <;> rfl) (fun hg ev w hS E => ?_) (fun hg w hS => ?_) ?_; rotate_left 3
          · obtain ⟨⟨k1, k2, k3, k4, k5⟩, k6, k7, k8, k9, k10⟩ := HS.out w hS
            obtain ⟨t42, ec, ef, eg⟩ := E.get [(0, 10, 42)] [] (by kernel_rfl); clear E; simp only [nthV] at t42
            (try simp only [hg, gw_on] at t42); go_simp; first | (refine And.intro ?_ ?_ <;> with_reducible rfl) | with_reducible rfl
          · obtain ⟨⟨k1, k2, k3, k4, k5⟩, k6, k7, k8, k9, k10⟩ := HS.out w hS
            refine (rnat_any x.ast w).mono ?_
            rintro e w2 ⟨rfl, F2⟩
            refine ⟨?_, hS.pure F2⟩; with_reducible rfl
          refine FxL.por rfl rfl 3 8 0 11 (by kernel_rfl) rfl rfl ?_
          refine FxL.pure (v := ?_) rfl (fun ev w hS E => ?_) ?_; rotate_left
          · obtain ⟨t44, ec, ef, eg⟩ := E.get [(0, 12, 44)] [] (by kernel_rfl); clear E; simp only [nthV] at t44; go_simp; try with_reducible rfl
          refine FxL.gw (u := ?_) rfl 0 rfl (by simp only [nthV] <;> rfl) (fun hg ev w hS E => ?_) ?_; rotate_left
          · obtain ⟨t7, ec, ef, eg⟩ := E.get [] [7] (by kernel_rfl); clear E; go_simp; try with_reducible rfl
          refine FxL.gw (u := ?_) rfl 1 rfl (by simp only [nthV] <;> rfl) (fun hg ev w hS E => ?_) ?_; rotate_left
          · obtain ⟨t46, ec, ef, eg⟩ := E.get [(0, 14, 46)] [] (by kernel_rfl); clear E; simp only [nthV] at t46
            (try simp only [hg, gw_on] at t46); go_simp; try with_reducible rfl
          refine FxL.gw (u := ?_) rfl 2 rfl (by simp only [nthV] <;> rfl) (fun hg ev w hS E => ?_) ?_; rotate_left
          · obtain ⟨⟨k1, k2, k3, k4, k5⟩, k6, k7, k8, k9, k10⟩ := HS.out w hS
            obtain ⟨t47, ec, ef, eg⟩ := E.get [(0, 15, 47)] [] (by kernel_rfl); clear E; simp only [nthV] at t47
            (try simp only [hg, gw_on] at t47); go_simp; try with_reducible rfl
          refine FxL.gw (u := ?_) rfl 3 rfl (by simp only [nthV] <;> rfl) (fun hg ev w hS E => ?_) ?_; rotate_left
          · obtain ⟨t7, ec, ef, eg⟩ := E.get [] [7] (by kernel_rfl); clear E; go_simp; try with_reducible rfl
          refine FxL.gw (u := ?_) rfl 4 rfl (by simp only [nthV] <;> rfl) (fun hg ev w hS E => ?_) ?_; rotate_left
          · obtain ⟨⟨k1, k2, k3, k4, k5⟩, k6, k7, k8, k9, k10⟩ := HS.out w hS
            obtain ⟨t49, ec, ef, eg⟩ := E.get [(0, 17, 49)] [] (by kernel_rfl); clear E; simp only [nthV] at t49
            (try simp only [hg, gw_on] at t49); go_simp; try with_reducible rfl
          refine FxL.gw (u := ?_) rfl 5 rfl (by simp only [nthV] <;> rfl) (fun hg ev w hS E => ?_) ?_; rotate_left
          · obtain ⟨t48, t50, ec, ef, eg⟩ := E.get [(2, 16, 48), (0, 18, 50)] [] (by kernel_rfl); clear E; simp only [nthV] at t48 t50
            (try simp only [hg, gw_on] at t48 t50); go_simp; try with_reducible rfl
          refine FxL.por rfl rfl 6 13 0 19 (by kernel_rfl) rfl rfl ?_
          refine FxL.pure (v := ?_) rfl (fun ev w hS E => ?_) ?_; rotate_left
          · obtain ⟨t52, ec, ef, eg⟩ := E.get [(0, 20, 52)] [] (by kernel_rfl); clear E; simp only [nthV] at t52; go_simp; try with_reducible rfl
          refine FxL.gw (u := ?_) rfl 0 rfl (by simp only [nthV] <;> rfl) (fun hg ev w hS E => ?_) ?_; rotate_left
          · obtain ⟨t7, ec, ef, eg⟩ := E.get [] [7] (by kernel_rfl); clear E; go_simp; try with_reducible rfl
          refine FxL.gw (u := ?_) rfl 1 rfl (by simp only [nthV] <;> rfl) (fun hg ev w hS E => ?_) ?_; rotate_left
          · obtain ⟨⟨k1, k2, k3, k4, k5⟩, k6, k7, k8, k9, k10⟩ := HS.out w hS
            obtain ⟨t54, ec, ef, eg⟩ := E.get [(0, 22, 54)] [] (by kernel_rfl); clear E; simp only [nthV] at t54
            (try simp only [hg, gw_on] at t54); go_simp; try with_reducible rfl
          refine FxL.gwc (u := ?_) (f := ?_) (args := ?_) rfl 2 rfl (by simp only [nthV] <;> rfl) (fun hg ev w hS E => ?_) (fun hg w hS => ?_) ?_; rotate_left 3
          · obtain ⟨⟨k1, k2, k3, k4, k5⟩, k6, k7, k8, k9, k10⟩ := HS.out w hS
            obtain ⟨t55, ec, ef, eg⟩ := E.get [(0, 23, 55)] [] (by kernel_rfl); clear E; simp only [nthV] at t55
            (try simp only [hg, gw_on] at t55); go_simp; first | (refine And.intro ?_ ?_ <;> with_reducible rfl) | with_reducible rfl
          · obtain ⟨⟨k1, k2, k3, k4, k5⟩, k6, k7, k8, k9, k10⟩ := HS.out w hS
            refine (rvam_any x.lim w).mono ?_
            rintro e w2 ⟨rfl, F2⟩
            refine ⟨?_, hS.pure F2⟩; with_reducible rfl
          refine FxL.gw (u := ?_) rfl 3 rfl (by simp only [nthV] <;> rfl) (fun hg ev w hS E => ?_) ?_; rotate_left
          · obtain ⟨t56, ec, ef, eg⟩ := E.get [(0, 24, 56)] [] (by kernel_rfl); clear E; simp only [nthV] at t56
            (try simp only [hg, gw_on] at t56); go_simp; try with_reducible rfl
          refine FxL.por rfl rfl 4 21 0 25 (by kernel_rfl) rfl rfl ?_
          refine FxL.pure (v := ?_) rfl (fun ev w hS E => ?_) ?_; rotate_left
          · obtain ⟨t58, ec, ef, eg⟩ := E.get [(0, 26, 58)] [] (by kernel_rfl); clear E; simp only [nthV] at t58; go_simp; try with_reducible rfl
          refine FxL.gw (u := ?_) rfl 0 rfl (by simp only [nthV] <;> rfl) (fun hg ev w hS E => ?_) ?_; rotate_left
          · obtain ⟨t7, ec, ef, eg⟩ := E.get [] [7] (by kernel_rfl); clear E; go_simp; try with_reducible rfl
          refine FxL.gw (u := ?_) rfl 1 rfl (by simp only [nthV] <;> rfl) (fun hg ev w hS E => ?_) ?_; rotate_left
          · obtain ⟨⟨k1, k2, k3, k4, k5⟩, k6, k7, k8, k9, k10⟩ := HS.out w hS
            obtain ⟨t60, ec, ef, eg⟩ := E.get [(0, 28, 60)] [] (by kernel_rfl); clear E; simp only [nthV] at t60
            (try simp only [hg, gw_on] at t60); go_simp; try with_reducible rfl
          refine FxL.gw (u := ?_) rfl 2 rfl (by simp only [nthV] <;> rfl) (fun hg ev w hS E => ?_) ?_; rotate_left
          · obtain ⟨t61, ec, ef, eg⟩ := E.get [(0, 29, 61)] [] (by kernel_rfl); clear E; simp only [nthV] at t61
            (try simp only [hg, gw_on] at t61); go_simp; try with_reducible rfl
          refine FxL.por rfl rfl 3 27 0 30 (by kernel_rfl) rfl rfl ?_
          refine FxL.pure (v := ?_) rfl (fun ev w hS E => ?_) ?_; rotate_left
          · obtain ⟨t63, ec, ef, eg⟩ := E.get [(0, 31, 63)] [] (by kernel_rfl); clear E; simp only [nthV] at t63; go_simp; try with_reducible rfl
          refine FxL.gw (u := ?_) rfl 0 rfl (by simp only [nthV] <;> rfl) (fun hg ev w hS E => ?_) ?_; rotate_left
          · obtain ⟨t7, ec, ef, eg⟩ := E.get [] [7] (by kernel_rfl); clear E; go_simp; try with_reducible rfl
          refine FxL.gw (u := ?_) rfl 1 rfl (by simp only [nthV] <;> rfl) (fun hg ev w hS E => ?_) ?_; rotate_left
          · obtain ⟨⟨k1, k2, k3, k4, k5⟩, k6, k7, k8, k9, k10⟩ := HS.out w hS
            obtain ⟨t65, ec, ef, eg⟩ := E.get [(0, 33, 65)] [] (by kernel_rfl); clear E; simp only [nthV] at t65
            (try simp only [hg, gw_on] at t65); go_simp; try with_reducible rfl
          refine FxL.gw (u := ?_) rfl 2 rfl (by simp only [nthV] <;> rfl) (fun hg ev w hS E => ?_) ?_; rotate_left
          · obtain ⟨t7, ec, ef, eg⟩ := E.get [] [7] (by kernel_rfl); clear E; go_simp; try with_reducible rfl
          refine FxL.gw (u := ?_) rfl 3 rfl (by simp only [nthV] <;> rfl) (fun hg ev w hS E => ?_) ?_; rotate_left
          · obtain ⟨⟨k1, k2, k3, k4, k5⟩, k6, k7, k8, k9, k10⟩ := HS.out w hS
            obtain ⟨t67, ec, ef, eg⟩ := E.get [(0, 35, 67)] [] (by kernel_rfl); clear E; simp only [nthV] at t67
            (try simp only [hg, gw_on] at t67); go_simp; try with_reducible rfl
          refine FxL.gw (u := ?_) rfl 4 rfl (by simp only [nthV] <;> rfl) (fun hg ev w hS E => ?_) ?_; rotate_left
          · obtain ⟨t66, t68, ec, ef, eg⟩ := E.get [(2, 34, 66), (0, 36, 68)] [] (by kernel_rfl); clear E; simp only [nthV] at t66 t68
            (try simp only [hg, gw_on] at t66 t68); go_simp; try with_reducible rfl
          refine FxL.por rfl rfl 5 32 0 37 (by kernel_rfl) rfl rfl ?_
          refine FxL.pure (v := ?_) rfl (fun ev w hS E => ?_) ?_; rotate_left
          · obtain ⟨t70, ec, ef, eg⟩ := E.get [(0, 38, 70)] [] (by kernel_rfl); clear E; simp only [nthV] at t70; go_simp; try with_reducible rfl
          refine FxL.gw (u := ?_) rfl 0 rfl (by simp only [nthV] <;> rfl) (fun hg ev w hS E => ?_) ?_; rotate_left
          · obtain ⟨t6, ec, ef, eg⟩ := E.get [] [6] (by kernel_rfl); clear E; go_simp; try with_reducible rfl
          refine FxL.gw (u := ?_) rfl 1 rfl (by simp only [nthV] <;> rfl) (fun hg ev w hS E => ?_) ?_; rotate_left
          · obtain ⟨t72, ec, ef, eg⟩ := E.get [(0, 40, 72)] [] (by kernel_rfl); clear E; simp only [nthV] at t72
            (try simp only [hg, gw_on] at t72); go_simp; try with_reducible rfl
          refine FxL.gw (u := ?_) rfl 2 rfl (by simp only [nthV] <;> rfl) (fun hg ev w hS E => ?_) ?_; rotate_left
          · obtain ⟨t73, ec, ef, eg⟩ := E.get [(0, 41, 73)] [] (by kernel_rfl); clear E; simp only [nthV] at t73
            (try simp only [hg, gw_on] at t73); go_simp; try with_reducible rfl
          refine FxL.gw (u := ?_) rfl 0 rfl (by simp only [nthV] <;> rfl) (fun hg ev w hS E => ?_) ?_; rotate_left
          · obtain ⟨t0, ec, ef, eg⟩ := E.get [] [0] (by kernel_rfl); clear E; go_simp; try with_reducible rfl
          refine FxL.gw (u := ?_) rfl 1 rfl (by simp only [nthV] <;> rfl) (fun hg ev w hS E => ?_) ?_; rotate_left
          · obtain ⟨t6, ec, ef, eg⟩ := E.get [] [6] (by kernel_rfl); clear E; go_simp; try with_reducible rfl
          refine FxL.gw (u := ?_) rfl 2 rfl (by simp only [nthV] <;> rfl) (fun hg ev w hS E => ?_) ?_; rotate_left
          · obtain ⟨t76, ec, ef, eg⟩ := E.get [(0, 44, 76)] [] (by kernel_rfl); clear E; simp only [nthV] at t76
            (try simp only [hg, gw_on] at t76)
            have hd := of_decide_eq_true (gw_bool hg).2
            have hw := hwr (by omega)
            go_simp; try with_reducible rfl
          refine FxL.gw (u := ?_) rfl 3 rfl (by simp only [nthV] <;> rfl) (fun hg ev w hS E => ?_) ?_; rotate_left
          · obtain ⟨⟨k1, k2, k3, k4, k5⟩, k6, k7, k8, k9, k10⟩ := HS.out w hS
            obtain ⟨t75, t77, ec, ef, eg⟩ := E.get [(2, 43, 75), (0, 45, 77)] [] (by kernel_rfl); clear E; simp only [nthV] at t75 t77
            (try simp only [hg, gw_on] at t75 t77); go_simp; try with_reducible rfl
          refine FxL.gw (u := ?_) rfl 4 rfl (by simp only [nthV] <;> rfl) (fun hg ev w hS E => ?_) ?_; rotate_left
          · obtain ⟨⟨k1, k2, k3, k4, k5⟩, k6, k7, k8, k9, k10⟩ := HS.out w hS
            obtain ⟨t78, ec, ef, eg⟩ := E.get [(0, 46, 78)] [] (by kernel_rfl); clear E; simp only [nthV] at t78
            (try simp only [hg, gw_on] at t78); go_simp; try with_reducible rfl
          refine FxL.gw (u := ?_) rfl 5 rfl (by simp only [nthV] <;> rfl) (fun hg ev w hS E => ?_) ?_; rotate_left
          · obtain ⟨t7, ec, ef, eg⟩ := E.get [] [7] (by kernel_rfl); clear E; go_simp; try with_reducible rfl
          refine FxL.gw (u := ?_) rfl 6 rfl (by simp only [nthV] <;> rfl) (fun hg ev w hS E => ?_) ?_; rotate_left
          · obtain ⟨⟨k1, k2, k3, k4, k5⟩, k6, k7, k8, k9, k10⟩ := HS.out w hS
            obtain ⟨t80, ec, ef, eg⟩ := E.get [(0, 48, 80)] [] (by kernel_rfl); clear E; simp only [nthV] at t80
            (try simp only [hg, gw_on] at t80); go_simp; try with_reducible rfl
          refine FxL.gw (u := ?_) rfl 7 rfl (by simp only [nthV] <;> rfl) (fun hg ev w hS E => ?_) ?_; rotate_left
          · obtain ⟨t7, ec, ef, eg⟩ := E.get [] [7] (by kernel_rfl); clear E; go_simp; try with_reducible rfl
          refine FxL.gw (u := ?_) rfl 8 rfl (by simp only [nthV] <;> rfl) (fun hg ev w hS E => ?_) ?_; rotate_left
          · obtain ⟨⟨k1, k2, k3, k4, k5⟩, k6, k7, k8, k9, k10⟩ := HS.out w hS
            obtain ⟨t82, ec, ef, eg⟩ := E.get [(0, 50, 82)] [] (by kernel_rfl); clear E; simp only [nthV] at t82
            (try simp only [hg, gw_on] at t82); go_simp; try with_reducible rfl
          refine FxL.gwc (u := ?_) (f := ?_) (args := ?_) rfl 9 rfl (by simp only [nthV] <;> rfl) (fun hg ev w hS E => ?_) (fun hg w hS => ?_) ?_; rotate_left 3
          · obtain ⟨⟨k1, k2, k3, k4, k5⟩, k6, k7, k8, k9, k10⟩ := HS.out w hS
            obtain ⟨t79, t81, t83, ec, ef, eg⟩ := E.get [(4, 47, 79), (2, 49, 81), (0, 51, 83)] [] (by kernel_rfl); clear E; simp only [nthV] at t79 t81 t83
            (try simp only [hg, gw_on] at t79 t81 t83); go_simp; first | (refine And.intro ?_ ?_ <;> with_reducible rfl) | with_reducible rfl
          · obtain ⟨⟨k1, k2, k3, k4, k5⟩, k6, k7, k8, k9, k10⟩ := HS.out w hS
            refine (rbef_any y x.acc x.ast w).mono ?_
            rintro e w2 ⟨rfl, F2⟩
            refine ⟨?_, hS.pure F2⟩; with_reducible rfl
          refine FxL.gw (u := ?_) rfl 10 rfl (by simp only [nthV] <;> rfl) (fun hg ev w hS E => ?_) ?_; rotate_left
          · obtain ⟨t84, ec, ef, eg⟩ := E.get [(0, 52, 84)] [] (by kernel_rfl); clear E; simp only [nthV] at t84
            (try simp only [hg, gw_on] at t84); go_simp; try with_reducible rfl
          refine FxL.gpand rfl rfl 14 rfl (by simp only [nthV] <;> rfl) 11 42 0 53 (by kernel_rfl) rfl rfl ?_
          refine FxL.por rfl rfl 15 39 0 54 (by kernel_rfl) rfl rfl ?_
          refine FxL.done (fun W hW => ?_)
          simp only [fillZ]
          try simp only [Act.put, List.setIfInBounds_toArray, List.set_cons_zero, List.set_cons_succ, List.getElem_toArray, List.getElem_cons_zero, List.getElem_cons_succ]
          try simp only [List.drop_succ_cons, List.drop_zero, List.drop_nil]
          generalize hb : (!FB || !vAst x.ast || decide (x.ast = nat) || (x.ast.iss == x.acc) || !vAmt x.lim || decide (x.bal < 0) || decide (x.lim < x.bal) || (decide (0 < j) && !befL y x.acc x.ast)) = big at HB ⊢
          have HX := HB.out
          clear hb HB
          have FF := F.pure (Fa.pure hW)
          have FF0 := F0z.pure (Fa.pure hW)
          cases big with
          | true =>
            have HX := Lib.hid (HNo.out HX)
            go_wp2_with fail
            go_ret
            exact ⟨ret_int HX.out.symm, FF0⟩
          | false =>
            have HX := Lib.hid (HYes.out HX)
            go_wp2_with fail
            go_roundw
            case rel => exact ⟨_, hlt, by go_num, HX.out, FF⟩
            case measure => simp [intOf]; omega
        · have HX : Hid (V = 0) := by
            unfold Hid
            rw [HVl.out, if_pos (okAll_all fun k hk => HJ.out k hk (by omega))]
          go_wp2_with fail
          go_ret
          exact ⟨ret_int HX.out.symm, F0z⟩
  · have HX : Hid (V = CA) := by unfold Hid; rw [HV.out]; unfold chkLn; rw [if_pos (fun e => hA (by rw [HCA.out, e])), HCA.out]
    have hq : (CA == 0) = false := by rw [beq_eq_false_iff_ne]; exact hA
    clear hA
    go_enter Tryz.func72, Tryz.ntmps72
    go_wp2_with fail
    refine (rchkA_any accs _ w HAc.out).mono ?_
    rintro e w1 ⟨rfl, F1⟩
    rw [← HCA.out]
    go_wp2_with fail
    go_ret
    exact ⟨ret_int HX.out.symm, F1⟩
end Go.Proofs.YtonhhnedfjonoaaGreatDoor

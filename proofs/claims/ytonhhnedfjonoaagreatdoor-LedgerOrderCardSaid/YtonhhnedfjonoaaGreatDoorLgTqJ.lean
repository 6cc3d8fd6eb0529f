/- Walks: the reference's comparison of lists of transactions, at equal lists. -/
import Derived.Test.YtonhhnedfjonoaaGreatDoorProg
import Derived.Test.YtonhhnedfjonoaaGreatDoorJM9
import Derived.Test.YtonhhnedfjonoaaGreatDoorJM11
import Derived.Test.YtonhhnedfjonoaaGreatDoorOrdPJ
import Derived.ChangeKeysEq
set_option linter.unusedSimpArgs false
set_option linter.unusedVariables false
namespace Go.Proofs.YtonhhnedfjonoaaGreatDoor
open Go.RowKit

set_option maxRecDepth 100000 in
set_option maxHeartbeats 1000000 in
/-- r39.Same at equal lists. -/
theorem rsame39_any (l : List Ast) (va vb : Value) (w : World) (ha : SlR astR w none va l) (hb : SlR astR w none vb l) : Calls Tryz.prog 37 #[va, vb] w fun e w' => e = .returned (.bool true) ∧ Fr none w w' := by
  obtain ⟨A, c, rfl, p1, p2, hc⟩ := ha.open_
  obtain ⟨B, d, rfl, q1, q2, hd⟩ := hb.open_
  have HC := Lib.hid hc
  have HD := Lib.hid hd
  clear ha hb hc hd
  go_enter Tryz.func37, Tryz.ntmps37
  go_wp2_with fail
  go_loopw [13] (fun s13 wr => ∃ k : Nat, k ≤ l.length ∧ s13 = .int .i64 (k : Int) ∧ Fr none w wr) (fun s13 _ => l.length - (intOf s13).toNat)
  case atStart => exact ⟨0, Nat.zero_le _, rfl, Fr.refl _ _⟩
  case round =>
    obtain ⟨k, hk, rfl, F⟩ := hrel
    by_cases hlt : k < l.length
    · obtain ⟨b, off, rfl, _, _, hx⟩ := HC.out (by omega)
      obtain ⟨b2, off2, rfl, _, _, hy⟩ := HD.out (by omega)
      have c0 : wr.cell? ⟨b, off + k * 2, none⟩ = some (.string (bL l[k].code)) := F.keep (hx k hlt 0 _ rfl) (by simp)
      have c1 : wr.cell? ⟨b, off + k * 2 + 1, none⟩ = some (.int .i64 l[k].iss) := F.keep (hx k hlt 1 _ rfl) (by simp)
      have d0 : wr.cell? ⟨b2, off2 + k * 2, none⟩ = some (.string (bL l[k].code)) := F.keep (hy k hlt 0 _ rfl) (by simp)
      have d1 : wr.cell? ⟨b2, off2 + k * 2 + 1, none⟩ = some (.int .i64 l[k].iss) := F.keep (hy k hlt 1 _ rfl) (by simp)
      clear hx hy
      generalize l[k] = x at *
      go_upto_region 6 with (fail)
      refine wp_region_fxL (fun W => Fr none wr W) 9 26 [some 24, some 23, some 22, some 21, some 20, some 19, some 18, some 17, some 16] (by kernel_rfl) (by kernel_rfl) (by kernel_rfl) (Nat.le_refl _) ((Fr.refl _ _).drew) ?_
      refine FxL.pure (v := ?_) rfl (fun ev w hS E => ?_) ?_; rotate_left
      · obtain ⟨t0, ec, ef, eg⟩ := E.get [] [0] (by kernel_rfl); clear E; go_simp; try with_reducible rfl
      refine FxL.pure (v := ?_) rfl (fun ev w hS E => ?_) ?_; rotate_left
      · obtain ⟨t5, ec, ef, eg⟩ := E.get [] [5] (by kernel_rfl); clear E; go_simp; try with_reducible rfl
      refine FxL.pure (v := ?_) rfl (fun ev w hS E => ?_) ?_; rotate_left
      · have r0 := hS.keep c0 (by simp)
        have r1 := hS.keep c1 (by simp)
        have s0 := hS.keep d0 (by simp)
        have s1 := hS.keep d1 (by simp)
        obtain ⟨t16, t17, ec, ef, eg⟩ := E.get [(1, 0, 16), (0, 1, 17)] [] (by kernel_rfl); clear E; simp only [nthV] at t16 t17; go_simp; try with_reducible rfl
      refine FxL.pure (v := ?_) rfl (fun ev w hS E => ?_) ?_; rotate_left
      · have r0 := hS.keep c0 (by simp)
        have r1 := hS.keep c1 (by simp)
        have s0 := hS.keep d0 (by simp)
        have s1 := hS.keep d1 (by simp)
        obtain ⟨t18, ec, ef, eg⟩ := E.get [(0, 2, 18)] [] (by kernel_rfl); clear E; simp only [nthV] at t18; go_simp; try with_reducible rfl
      refine FxL.pure (v := ?_) rfl (fun ev w hS E => ?_) ?_; rotate_left
      · obtain ⟨t1, ec, ef, eg⟩ := E.get [] [1] (by kernel_rfl); clear E; go_simp; try with_reducible rfl
      refine FxL.pure (v := ?_) rfl (fun ev w hS E => ?_) ?_; rotate_left
      · obtain ⟨t5, ec, ef, eg⟩ := E.get [] [5] (by kernel_rfl); clear E; go_simp; try with_reducible rfl
      refine FxL.pure (v := ?_) rfl (fun ev w hS E => ?_) ?_; rotate_left
      · have r0 := hS.keep c0 (by simp)
        have r1 := hS.keep c1 (by simp)
        have s0 := hS.keep d0 (by simp)
        have s1 := hS.keep d1 (by simp)
        obtain ⟨t20, t21, ec, ef, eg⟩ := E.get [(1, 4, 20), (0, 5, 21)] [] (by kernel_rfl); clear E; simp only [nthV] at t20 t21; go_simp; try with_reducible rfl
      refine FxL.pure (v := ?_) rfl (fun ev w hS E => ?_) ?_; rotate_left
      · have r0 := hS.keep c0 (by simp)
        have r1 := hS.keep c1 (by simp)
        have s0 := hS.keep d0 (by simp)
        have s1 := hS.keep d1 (by simp)
        obtain ⟨t22, ec, ef, eg⟩ := E.get [(0, 6, 22)] [] (by kernel_rfl); clear E; simp only [nthV] at t22; go_simp; try with_reducible rfl
      refine FxL.pure (v := ?_) rfl (fun ev w hS E => ?_) ?_; rotate_left
      · obtain ⟨t19, t23, ec, ef, eg⟩ := E.get [(4, 3, 19), (0, 7, 23)] [] (by kernel_rfl); clear E; simp only [nthV] at t19 t23; go_simp; try with_reducible rfl
      refine FxL.done (fun W hW => ?_)
      simp only [fillZ]
      try simp only [Act.put, List.setIfInBounds_toArray, List.set_cons_zero, List.set_cons_succ, List.getElem_toArray, List.getElem_cons_zero, List.getElem_cons_succ]
      try simp only [List.drop_succ_cons, List.drop_zero, List.drop_nil]
      go_wp2_with fail
      go_roundw
      case rel => exact ⟨k + 1, by omega, by go_num, F.pure hW⟩
      case measure => simp [intOf]; omega
    · obtain rfl : k = l.length := by omega
      go_wp2_with fail
      go_ret
      exact ⟨rfl, F⟩
/-- The fields of an operation but its path, as one value. -/
def rplV (o : Opr) : Value := .agg #[.int .i64 o.kind, .int .i64 o.to_, .int .i64 o.amt, .int .i64 o.lim, .int .i64 o.num, .int .i64 o.den, .int .i64 o.id, .string (bL o.ast.code), .int .i64 o.ast.iss, .string (bL o.oth.code), .int .i64 o.oth.iss]
set_option maxRecDepth 100000 in
set_option maxHeartbeats 1000000 in
theorem rplain_any (o : Opr) (A : Option Addr) (n c : Nat) (w : World) : Calls Tryz.prog 36 #[opV o (.slice A n c)] w fun e w' => e = .returned (rplV o) ∧ Fr none w w' := by
  unfold opV
  simp only [opL]
  go_enter Tryz.func36, Tryz.ntmps36
  go_upto_region 1 with (fail)
  generalize hW : w.alloc _ = w1
  have F1 : Fr none w w1 := hW ▸ (Fr.refl none w).alloc _
  have b1 : OpB w1 w.heap.size o (.slice A n c) := by rw [← hW]; exact blk_new _ _
  have s1 : w1.heap.size = w.heap.size + 1 := by rw [← hW]; exact Array.size_push _
  clear hW
  generalize hW : w1.alloc _ = w2
  have F2 : Fr none w1 w2 := hW ▸ (Fr.refl none w1).alloc _
  have b2 : w2.heap[w.heap.size + 1]? = some (.cells #[.int .i64 0, .int .i64 0, .int .i64 0, .int .i64 0, .int .i64 0, .int .i64 0, .int .i64 0, .string ⟨#[]⟩, .int .i64 0, .string ⟨#[]⟩, .int .i64 0] 88 (0, 0)) := by rw [← hW, ← s1]; exact blk_new _ _
  have b1 := b1.fr F2 (by simp)
  clear hW s1
  obtain ⟨e0, e1, e2, e3, e4, e5, e6, e7, e8, e9, e10, e11⟩ := b1.cells
  have hz := fun k => blk_free b2 k
  have hc := fun k => blk_cell b2 k
  go_wp2_with fail
  generalize hW5 : World.setCell _ _ _ = w9
  have R9 : w9.heap[w.heap.size + 1]? = some (.cells #[.int .i64 o.kind, .int .i64 o.to_, .int .i64 o.amt, .int .i64 o.lim, .int .i64 o.num, .int .i64 o.den, .int .i64 o.id, .string (bL o.ast.code), .int .i64 o.ast.iss, .string (bL o.oth.code), .int .i64 o.oth.iss] 88 (0, 0)) := by
    rw [← hW5]
    have k0 := blk_set b2 0 (.int .i64 o.kind)
    simp only [List.setIfInBounds_toArray, List.set_cons_zero, List.set_cons_succ] at k0
    have k1 := blk_set k0 1 (.int .i64 o.to_)
    simp only [List.setIfInBounds_toArray, List.set_cons_zero, List.set_cons_succ] at k1
    have k2 := blk_set k1 2 (.int .i64 o.amt)
    simp only [List.setIfInBounds_toArray, List.set_cons_zero, List.set_cons_succ] at k2
    have k3 := blk_set k2 3 (.int .i64 o.lim)
    simp only [List.setIfInBounds_toArray, List.set_cons_zero, List.set_cons_succ] at k3
    have k4 := blk_set k3 4 (.int .i64 o.num)
    simp only [List.setIfInBounds_toArray, List.set_cons_zero, List.set_cons_succ] at k4
    have k5 := blk_set k4 5 (.int .i64 o.den)
    simp only [List.setIfInBounds_toArray, List.set_cons_zero, List.set_cons_succ] at k5
    have k6 := blk_set k5 6 (.int .i64 o.id)
    simp only [List.setIfInBounds_toArray, List.set_cons_zero, List.set_cons_succ] at k6
    have k7 := blk_set k6 7 (.string (bL o.ast.code))
    simp only [List.setIfInBounds_toArray, List.set_cons_zero, List.set_cons_succ] at k7
    have k8 := blk_set k7 8 (.int .i64 o.ast.iss)
    simp only [List.setIfInBounds_toArray, List.set_cons_zero, List.set_cons_succ] at k8
    have k9 := blk_set k8 9 (.string (bL o.oth.code))
    simp only [List.setIfInBounds_toArray, List.set_cons_zero, List.set_cons_succ] at k9
    have k10 := blk_set k9 10 (.int .i64 o.oth.iss)
    simp only [List.setIfInBounds_toArray, List.set_cons_zero, List.set_cons_succ] at k10
    exact k10
  have F9 : Fr (some (w.heap.size + 1)) w2 w9 := by
    rw [← hW5]
    exact (((((((((((Fr.set1 w2 ⟨w.heap.size + 1, 0, none⟩ _).setRow (p := ⟨w.heap.size + 1, 1, none⟩) rfl _).setRow (p := ⟨w.heap.size + 1, 2, none⟩) rfl _).setRow (p := ⟨w.heap.size + 1, 3, none⟩) rfl _).setRow (p := ⟨w.heap.size + 1, 4, none⟩) rfl _).setRow (p := ⟨w.heap.size + 1, 5, none⟩) rfl _).setRow (p := ⟨w.heap.size + 1, 6, none⟩) rfl _).setRow (p := ⟨w.heap.size + 1, 7, none⟩) rfl _).setRow (p := ⟨w.heap.size + 1, 8, none⟩) rfl _).setRow (p := ⟨w.heap.size + 1, 9, none⟩) rfl _).setRow (p := ⟨w.heap.size + 1, 10, none⟩) rfl _)
  clear hW5 e0 e1 e2 e3 e4 e5 e6 e7 e8 e9 e10 e11 hz hc
  have hc := fun k => blk_cell R9 k
  refine bodyPost_ret (v := rplV o) (by simp [results, Tryz.results36, go_sem, rplV, hc]) rfl ?_
  exact ⟨rfl, (F1.pure F2).new F9 (by omega)⟩
set_option maxRecDepth 100000 in
theorem eq7_any (a b c d e f g : Int) (w : World) : (Op.equalIn 9999 86 (.agg #[.int .i64 a, .int .i64 b, .int .i64 c, .int .i64 d, .int .i64 e, .int .i64 f, .int .i64 g]) (.agg #[.int .i64 a, .int .i64 b, .int .i64 c, .int .i64 d, .int .i64 e, .int .i64 f, .int .i64 g])).run Tryz.prog w = .ok true w := by
  obtain ⟨i, hi⟩ : ∃ i, Tryz.prog.info? 3 = some i := Option.isSome_iff_exists.1 (by kernel_rfl)
  rw [run_equalIn_array (P := Tryz.prog) (w := w) 9998 (t := 86) (e := 3) (n := 7) _ _ (by kernel_rfl) hi]
  have h3 : ∀ (x : Int) (w : World), (Op.equalIn 9998 3 (.int .i64 x) (.int .i64 x)).run Tryz.prog w = .ok true w := fun x w => by
    rw [run_equalIn_int (w := w) 9997 3 .i64 .i64 x x (by kernel_rfl)]; simp
  have hs : ∀ w, (Go.sizeOf 3).run Tryz.prog w = .ok 1 w := fun w => by kernel_rfl
  have ha : ∀ w, (isAgg 3).run Tryz.prog w = .ok false w := fun w => by kernel_rfl
  have hc : Tryz.prog.cellsOf 3 = 1 := by kernel_rfl
  rw [hc]
  simp [Op.eqItems, List.range_succ, h3, part, hs, ha, go_sem]
/-- The cells of an operation that lies in a row. -/
theorem op12 {w : World} {b q0 : Nat} {o : Opr} {v : Value} (h : ∀ q u, (opL o v)[q]? = some u → w.cell? ⟨b, q0 + q, none⟩ = some u) : w.cell? ⟨b, q0, none⟩ = some (.int .i64 o.kind) ∧ w.cell? ⟨b, q0 + 1, none⟩ = some (.int .i64 o.to_) ∧ w.cell? ⟨b, q0 + 2, none⟩ = some (.int .i64 o.amt) ∧ w.cell? ⟨b, q0 + 3, none⟩ = some (.int .i64 o.lim) ∧ w.cell? ⟨b, q0 + 4, none⟩ = some (.string (bL o.ast.code)) ∧ w.cell? ⟨b, q0 + 5, none⟩ = some (.int .i64 o.ast.iss) ∧ w.cell? ⟨b, q0 + 6, none⟩ = some (.string (bL o.oth.code)) ∧ w.cell? ⟨b, q0 + 7, none⟩ = some (.int .i64 o.oth.iss) ∧ w.cell? ⟨b, q0 + 8, none⟩ = some (.int .i64 o.num) ∧ w.cell? ⟨b, q0 + 9, none⟩ = some (.int .i64 o.den) ∧ w.cell? ⟨b, q0 + 10, none⟩ = some (.int .i64 o.id) ∧ w.cell? ⟨b, q0 + 11, none⟩ = some v :=
  ⟨h 0 _ rfl, h 1 _ rfl, h 2 _ rfl, h 3 _ rfl, h 4 _ rfl, h 5 _ rfl, h 6 _ rfl, h 7 _ rfl, h 8 _ rfl, h 9 _ rfl, h 10 _ rfl, h 11 _ rfl⟩
theorem alloc2 (w : World) (X Y : Obj) : ((w.alloc X).alloc Y).drew.heap[w.heap.size]? = some X ∧ ((w.alloc X).alloc Y).drew.heap[w.heap.size + 1]? = some Y ∧ Fr none w ((w.alloc X).alloc Y).drew := by
  have h1 := heap_alloc_new w X
  have F : Fr none (w.alloc X) ((w.alloc X).alloc Y) := (Fr.refl none _).alloc _
  have h2 := heap_alloc_new (w.alloc X) Y
  have hs : (w.alloc X).heap.size = w.heap.size + 1 := Array.size_push _
  rw [hs] at h2
  exact ⟨(F.block _ (by rw [hs]; omega) (by simp)).trans h1, h2, (((Fr.refl none w).alloc X).alloc Y).drew⟩
set_option maxRecDepth 100000 in
set_option maxHeartbeats 4000000 in
/-- r40.Txs at equal lists. -/
theorem rtxs_any (la lb : List TxX) (va vb : Value) (w : World) (ha : SlT w none va la) (hb : SlT w none vb lb) (he : plT la = plT lb) : Calls Tryz.prog 17 #[va, vb] w fun e w' => e = .returned (.bool true) ∧ Fr none w w' := by
  have hlen : la.length = lb.length := by have := congrArg List.length he; simpa [plT] using this
  have HE : Hid (∀ k (h1 : k < la.length) (h2 : k < lb.length), la[k].pl = lb[k].pl) := fun k h1 h2 => by
    have := congrArg (fun l => l[k]?) he
    simpa [plT, h1, h2] using this
  have HDa := Lib.hid ha.2
  have HDb := Lib.hid hb.2
  obtain ⟨A, c, rfl, p1, p2, hc⟩ := txR_open ha.1
  obtain ⟨B, d, rfl, q1, q2, hd⟩ := txR_open hb.1
  have HC := Lib.hid hc
  have HD := Lib.hid hd
  clear ha hb hc hd he
  rw [← hlen] at q1 ⊢
  have HL := Lib.hid hlen
  clear hlen
  go_enter Tryz.func17, Tryz.ntmps17
  go_wp2_with fail
  go_loopw [16] (fun s16 wr => ∃ k : Nat, k ≤ la.length ∧ s16 = .int .i64 (k : Int) ∧ Fr none w wr) (fun s16 _ => la.length - (intOf s16).toNat)
  case atStart => exact ⟨0, Nat.zero_le _, rfl, Fr.refl _ _⟩
  case round =>
    obtain ⟨k, hk, rfl, F⟩ := hrel
    by_cases hlt : k < la.length
    · have hlb : k < lb.length := by have := HL.out; omega
      obtain ⟨b, off, rfl, _, _, hx⟩ := HC.out (by omega)
      obtain ⟨b2, off2, rfl, _, _, hy⟩ := HD.out (by omega)
      obtain ⟨c0, c1, c2, c3⟩ := hx k hlt
      obtain ⟨d0, d1, d2, d3⟩ := hy k hlb
      have c0 := F.keep c0 (by simp)
      have c1 := F.keep c1 (by simp)
      have c2 := F.keep c2 (by simp)
      have c3 := F.keep c3 (by simp)
      have d0 := F.keep d0 (by simp)
      have d1 := F.keep d1 (by simp)
      have d2 := F.keep d2 (by simp)
      have d3 := F.keep d3 (by simp)
      have HX := Lib.hid (HDa.out _ (List.getElem_mem hlt))
      have HY := Lib.hid (HDb.out _ (List.getElem_mem hlb))
      have hpl := HE.out k hlt hlb
      generalize la[k] = x at *
      generalize lb[k] = y at *
      clear hx hy
      obtain ⟨xs, xq, xf, xo, xA, xc⟩ := x
      obtain ⟨ys, yq, yf, yo, yA, yc⟩ := y
      unfold TxX.pl at hpl
      simp only [Txn.mk.injEq] at hpl
      obtain ⟨rfl, rfl, rfl, ho⟩ := hpl
      have hol : xo.length = yo.length := by have := congrArg List.length ho; simpa using this
      have HO : Hid (∀ j (h1 : j < xo.length) (h2 : j < yo.length), xo[j].o = yo[j].o) := fun j h1 h2 => by
        have := congrArg (fun l => l[j]?) ho
        simpa [h1, h2] using this
      have HOL := Lib.hid hol
      unfold TxX.v at c3 d3
      dsimp only at c0 c1 c2 c3 d0 d1 d2 d3
      rw [← hol] at d3
      clear ho hol
      go_upto_region 6 with (fail)
      go_cut [6, 7] (fun s6 s7 W => ∃ b1 b2 : Nat, s6 = .pointer (some ⟨b1, 0, none⟩) ∧ s7 = .pointer (some ⟨b2, 0, none⟩) ∧ TxB W b1 ⟨xs, xq, xf, xo, xA, xc⟩ ∧ TxB W b2 ⟨xs, xq, xf, yo, yA, yc⟩ ∧ Fr none wr W)
      case first =>
        have KW : ∀ W, Fr none wr W → (W.cell? ⟨b, off + k * 4, none⟩ = some (.int .i64 xs) ∧ W.cell? ⟨b, off + k * 4 + 1, none⟩ = some (.int .i64 xq) ∧ W.cell? ⟨b, off + k * 4 + 2, none⟩ = some (.int .i64 xf) ∧ W.cell? ⟨b, off + k * 4 + 3, none⟩ = some (.slice xA xo.length xc)) ∧ (W.cell? ⟨b2, off2 + k * 4, none⟩ = some (.int .i64 xs) ∧ W.cell? ⟨b2, off2 + k * 4 + 1, none⟩ = some (.int .i64 xq) ∧ W.cell? ⟨b2, off2 + k * 4 + 2, none⟩ = some (.int .i64 xf) ∧ W.cell? ⟨b2, off2 + k * 4 + 3, none⟩ = some (.slice yA xo.length yc)) ∧ Fr none wr W := fun W FW => ⟨⟨FW.keep c0 (by simp), FW.keep c1 (by simp), FW.keep c2 (by simp), FW.keep c3 (by simp)⟩, ⟨FW.keep d0 (by simp), FW.keep d1 (by simp), FW.keep d2 (by simp), FW.keep d3 (by simp)⟩, FW⟩
        clear c0 c1 c2 c3 d0 d1 d2 d3
        first | (go_region_held3 (fun W => (W.cell? ⟨b, off + k * 4, none⟩ = some (.int .i64 xs) ∧ W.cell? ⟨b, off + k * 4 + 1, none⟩ = some (.int .i64 xq) ∧ W.cell? ⟨b, off + k * 4 + 2, none⟩ = some (.int .i64 xf) ∧ W.cell? ⟨b, off + k * 4 + 3, none⟩ = some (.slice xA xo.length xc)) ∧ (W.cell? ⟨b2, off2 + k * 4, none⟩ = some (.int .i64 xs) ∧ W.cell? ⟨b2, off2 + k * 4 + 1, none⟩ = some (.int .i64 xq) ∧ W.cell? ⟨b2, off2 + k * 4 + 2, none⟩ = some (.int .i64 xf) ∧ W.cell? ⟨b2, off2 + k * 4 + 3, none⟩ = some (.slice yA xo.length yc)) ∧ Fr none wr W) (first | exact KW _ (Fr.refl _ _).drew | exact KW _ ((Fr.refl _ _).drew.alloc _) | exact KW _ (((Fr.refl _ _).drew.alloc _).alloc _)) (first | fail)) | fail
        · go_wp2_with fail
          go_meet
          obtain ⟨h1, h2, h3⟩ := alloc2 wr (.cells #[.int .i64 xs, .int .i64 xq, .int .i64 xf, .slice xA xo.length xc] 57) (.cells #[.int .i64 xs, .int .i64 xq, .int .i64 xf, .slice yA xo.length yc] 57)
          exact ⟨_, _, rfl, rfl, h1, by unfold TxB txC TxX.v; dsimp only; rw [← HOL.out]; exact h2, h3⟩
        · go_wp2_with fail
          go_meet
          obtain ⟨h1, h2, h3⟩ := alloc2 wr (.cells #[.int .i64 xs, .int .i64 xq, .int .i64 xf, .slice yA xo.length yc] 57) (.cells #[.int .i64 xs, .int .i64 xq, .int .i64 xf, .slice xA xo.length xc] 57)
          exact ⟨_, _, rfl, rfl, h2, by unfold TxB txC TxX.v; dsimp only; rw [← HOL.out]; exact h1, h3⟩
      case rest =>
        obtain ⟨bx, by_, rfl, rfl, hX, hY, F6⟩ := hcut
        have FF := F.pure F6
        clear c0 c1 c2 c3 d0 d1 d2 d3
        obtain ⟨c0, c1, c2, c3⟩ := txcells hX
        obtain ⟨d0, d1, d2, d3⟩ := txcells hY
        dsimp only at c0 c1 c2 c3 d0 d1 d2 d3
        rw [← HOL.out] at d3
        go_wp2_with fail
        go_loopw [58] (fun s58 wr2 => ∃ j : Nat, j ≤ xo.length ∧ s58 = .int .i64 (j : Int) ∧ Fr none wc wr2) (fun s58 _ => xo.length - (intOf s58).toNat)
        case atStart => exact ⟨0, Nat.zero_le _, rfl, Fr.refl _ _⟩
        case round =>
          obtain ⟨j, hj, rfl, Fj⟩ := hrel
          have FFj := FF.pure Fj
          by_cases hjl : j < xo.length
          · have hjy : j < yo.length := by have := HOL.out; omega
            have HJL : Hid (j < xo.length) := hjl
            obtain ⟨oB, ⟨oc, hov, g1, g2, ohc⟩⟩ := opR_open HX.out.1
            have hxb : xo.length ≤ 9223372036854775807 := Nat.le_trans g1 g2
            clear g1 g2
            obtain ⟨pB, ⟨pc, hpv, _, _, phc⟩⟩ := opR_open HY.out.1
            unfold TxX.v at hov hpv
            injection hov with e1 e2 e3
            subst e1 e3
            injection hpv with e1 e2 e3
            subst e1 e3
            dsimp only at ohc phc
            obtain ⟨b3, off3, rfl, _, _, hxx⟩ := ohc (by omega)
            obtain ⟨b4, off4, rfl, _, _, hyy⟩ := phc (by omega)
            have hxx := hxx j hjl
            have hyy := hyy j hjy
            have hoe := HO.out j hjl hjy
            have HDx := Lib.hid (HX.out.2 _ (List.getElem_mem hjl))
            have HDy := Lib.hid (HY.out.2 _ (List.getElem_mem hjy))
            try dsimp only at HDx HDy
            generalize xo[j] = u at hxx hoe HDx
            generalize yo[j] = v at hyy hoe HDy
            obtain ⟨uo, uA, uc⟩ := u
            obtain ⟨vo, vA, vc⟩ := v
            dsimp only at hoe
            subst hoe
            dsimp only at hxx hyy
            have HXX := Lib.hid hxx
            have HYY := Lib.hid hyy
            clear hxx hyy ohc phc
            go_upto_region 12 with (fail)
            have KX : Hid (∀ W, Fr none wr W → (W.cell? ⟨bx, 3, none⟩ = some (.slice (some ⟨b3, off3, none⟩) xo.length xc) ∧ W.cell? ⟨by_, 3, none⟩ = some (.slice (some ⟨b4, off4, none⟩) xo.length yc)) ∧ (W.cell? ⟨b3, off3 + j * 12, none⟩ = some (.int .i64 uo.kind) ∧ W.cell? ⟨b3, off3 + j * 12 + 1, none⟩ = some (.int .i64 uo.to_) ∧ W.cell? ⟨b3, off3 + j * 12 + 2, none⟩ = some (.int .i64 uo.amt) ∧ W.cell? ⟨b3, off3 + j * 12 + 3, none⟩ = some (.int .i64 uo.lim) ∧ W.cell? ⟨b3, off3 + j * 12 + 4, none⟩ = some (.string (bL uo.ast.code)) ∧ W.cell? ⟨b3, off3 + j * 12 + 5, none⟩ = some (.int .i64 uo.ast.iss) ∧ W.cell? ⟨b3, off3 + j * 12 + 6, none⟩ = some (.string (bL uo.oth.code)) ∧ W.cell? ⟨b3, off3 + j * 12 + 7, none⟩ = some (.int .i64 uo.oth.iss) ∧ W.cell? ⟨b3, off3 + j * 12 + 8, none⟩ = some (.int .i64 uo.num) ∧ W.cell? ⟨b3, off3 + j * 12 + 9, none⟩ = some (.int .i64 uo.den) ∧ W.cell? ⟨b3, off3 + j * 12 + 10, none⟩ = some (.int .i64 uo.id) ∧ W.cell? ⟨b3, off3 + j * 12 + 11, none⟩ = some (.slice uA uo.path.length uc)) ∧ (W.cell? ⟨b4, off4 + j * 12, none⟩ = some (.int .i64 uo.kind) ∧ W.cell? ⟨b4, off4 + j * 12 + 1, none⟩ = some (.int .i64 uo.to_) ∧ W.cell? ⟨b4, off4 + j * 12 + 2, none⟩ = some (.int .i64 uo.amt) ∧ W.cell? ⟨b4, off4 + j * 12 + 3, none⟩ = some (.int .i64 uo.lim) ∧ W.cell? ⟨b4, off4 + j * 12 + 4, none⟩ = some (.string (bL uo.ast.code)) ∧ W.cell? ⟨b4, off4 + j * 12 + 5, none⟩ = some (.int .i64 uo.ast.iss) ∧ W.cell? ⟨b4, off4 + j * 12 + 6, none⟩ = some (.string (bL uo.oth.code)) ∧ W.cell? ⟨b4, off4 + j * 12 + 7, none⟩ = some (.int .i64 uo.oth.iss) ∧ W.cell? ⟨b4, off4 + j * 12 + 8, none⟩ = some (.int .i64 uo.num) ∧ W.cell? ⟨b4, off4 + j * 12 + 9, none⟩ = some (.int .i64 uo.den) ∧ W.cell? ⟨b4, off4 + j * 12 + 10, none⟩ = some (.int .i64 uo.id) ∧ W.cell? ⟨b4, off4 + j * 12 + 11, none⟩ = some (.slice vA uo.path.length vc))) := fun W FW => ⟨⟨(Fj.pure FW).keep c3 (by simp), (Fj.pure FW).keep d3 (by simp)⟩, op12 fun q u h => (FFj.pure FW).keep (HXX.out q u h) (by simp), op12 fun q u h => (FFj.pure FW).keep (HYY.out q u h) (by simp)⟩
            refine wp_region_fxL (fun W => Fr none wr W) 29 92 [some 89, some 88, some 87, some 86, some 85, some 84, some 83, some 82, some 81, some 80, some 79, some 78, some 77, some 76, some 75, some 74, some 73, some 72, some 71, some 70, some 69, some 68, some 67, some 66, some 65, some 64, some 63, some 62, some 61] (by kernel_rfl) (by kernel_rfl) (by kernel_rfl) (Nat.le_refl _) ((Fr.refl _ _).drew) ?_
            refine FxL.pure (v := ?_) rfl (fun ev w hS E => ?_) ?_; rotate_left
            · obtain ⟨t6, ec, ef, eg⟩ := E.get [] [6] (by kernel_rfl); clear E; go_simp; try with_reducible rfl
            refine FxL.pure (v := ?_) rfl (fun ev w hS E => ?_) ?_; rotate_left
            · obtain ⟨⟨k3, l3⟩, ⟨x0, x1, x2, x3, x4, x5, x6, x7, x8, x9, x10, x11⟩, y0, y1, y2, y3, y4, y5, y6, y7, y8, y9, y10, y11⟩ := KX.out w hS
              obtain ⟨t61, ec, ef, eg⟩ := E.get [(0, 0, 61)] [] (by kernel_rfl); clear E; simp only [nthV] at t61; go_simp; try with_reducible rfl
            refine FxL.pure (v := ?_) rfl (fun ev w hS E => ?_) ?_; rotate_left
            · obtain ⟨t8, ec, ef, eg⟩ := E.get [] [8] (by kernel_rfl); clear E; go_simp; try with_reducible rfl
            refine FxL.pure (v := ?_) rfl (fun ev w hS E => ?_) ?_; rotate_left
            · obtain ⟨⟨k3, l3⟩, ⟨x0, x1, x2, x3, x4, x5, x6, x7, x8, x9, x10, x11⟩, y0, y1, y2, y3, y4, y5, y6, y7, y8, y9, y10, y11⟩ := KX.out w hS
              obtain ⟨t62, t63, ec, ef, eg⟩ := E.get [(1, 1, 62), (0, 2, 63)] [] (by kernel_rfl); clear E; simp only [nthV] at t62 t63; go_simp; try with_reducible rfl
            refine FxL.pure (v := ?_) rfl (fun ev w hS E => ?_) ?_; rotate_left
            · obtain ⟨⟨k3, l3⟩, ⟨x0, x1, x2, x3, x4, x5, x6, x7, x8, x9, x10, x11⟩, y0, y1, y2, y3, y4, y5, y6, y7, y8, y9, y10, y11⟩ := KX.out w hS
              obtain ⟨t64, ec, ef, eg⟩ := E.get [(0, 3, 64)] [] (by kernel_rfl); clear E; simp only [nthV] at t64; go_simp; try with_reducible rfl
            refine FxL.call (v := ?_) (f := ?_) (args := ?_) rfl (fun ev w hS E => ?_) (fun w hS => ?_) ?_; rotate_left 3
            · obtain ⟨⟨k3, l3⟩, ⟨x0, x1, x2, x3, x4, x5, x6, x7, x8, x9, x10, x11⟩, y0, y1, y2, y3, y4, y5, y6, y7, y8, y9, y10, y11⟩ := KX.out w hS
              obtain ⟨t65, ec, ef, eg⟩ := E.get [(0, 4, 65)] [] (by kernel_rfl); clear E; simp only [nthV] at t65; go_simp; first | (refine And.intro ?_ ?_ <;> with_reducible rfl) | with_reducible rfl
            · obtain ⟨⟨k3, l3⟩, ⟨x0, x1, x2, x3, x4, x5, x6, x7, x8, x9, x10, x11⟩, y0, y1, y2, y3, y4, y5, y6, y7, y8, y9, y10, y11⟩ := KX.out w hS
              refine (rplain_any uo uA uo.path.length uc w).mono ?_
              rintro e w2 ⟨rfl, F2⟩
              refine ⟨?_, hS.pure F2⟩; with_reducible rfl
            refine FxL.pure (v := ?_) rfl (fun ev w hS E => ?_) ?_; rotate_left
            · obtain ⟨t7, ec, ef, eg⟩ := E.get [] [7] (by kernel_rfl); clear E; go_simp; try with_reducible rfl
            refine FxL.pure (v := ?_) rfl (fun ev w hS E => ?_) ?_; rotate_left
            · obtain ⟨⟨k3, l3⟩, ⟨x0, x1, x2, x3, x4, x5, x6, x7, x8, x9, x10, x11⟩, y0, y1, y2, y3, y4, y5, y6, y7, y8, y9, y10, y11⟩ := KX.out w hS
              obtain ⟨t67, ec, ef, eg⟩ := E.get [(0, 6, 67)] [] (by kernel_rfl); clear E; simp only [nthV] at t67; go_simp; try with_reducible rfl
            refine FxL.pure (v := ?_) rfl (fun ev w hS E => ?_) ?_; rotate_left
            · obtain ⟨t8, ec, ef, eg⟩ := E.get [] [8] (by kernel_rfl); clear E; go_simp; try with_reducible rfl
            refine FxL.pure (v := ?_) rfl (fun ev w hS E => ?_) ?_; rotate_left
            · obtain ⟨⟨k3, l3⟩, ⟨x0, x1, x2, x3, x4, x5, x6, x7, x8, x9, x10, x11⟩, y0, y1, y2, y3, y4, y5, y6, y7, y8, y9, y10, y11⟩ := KX.out w hS
              obtain ⟨t68, t69, ec, ef, eg⟩ := E.get [(1, 7, 68), (0, 8, 69)] [] (by kernel_rfl); clear E; simp only [nthV] at t68 t69; go_simp; try with_reducible rfl
            refine FxL.pure (v := ?_) rfl (fun ev w hS E => ?_) ?_; rotate_left
            · obtain ⟨⟨k3, l3⟩, ⟨x0, x1, x2, x3, x4, x5, x6, x7, x8, x9, x10, x11⟩, y0, y1, y2, y3, y4, y5, y6, y7, y8, y9, y10, y11⟩ := KX.out w hS
              obtain ⟨t70, ec, ef, eg⟩ := E.get [(0, 9, 70)] [] (by kernel_rfl); clear E; simp only [nthV] at t70; go_simp; try with_reducible rfl
            refine FxL.call (v := ?_) (f := ?_) (args := ?_) rfl (fun ev w hS E => ?_) (fun w hS => ?_) ?_; rotate_left 3
            · obtain ⟨⟨k3, l3⟩, ⟨x0, x1, x2, x3, x4, x5, x6, x7, x8, x9, x10, x11⟩, y0, y1, y2, y3, y4, y5, y6, y7, y8, y9, y10, y11⟩ := KX.out w hS
              obtain ⟨t71, ec, ef, eg⟩ := E.get [(0, 10, 71)] [] (by kernel_rfl); clear E; simp only [nthV] at t71; go_simp; first | (refine And.intro ?_ ?_ <;> with_reducible rfl) | with_reducible rfl
            · obtain ⟨⟨k3, l3⟩, ⟨x0, x1, x2, x3, x4, x5, x6, x7, x8, x9, x10, x11⟩, y0, y1, y2, y3, y4, y5, y6, y7, y8, y9, y10, y11⟩ := KX.out w hS
              refine (rplain_any uo vA uo.path.length vc w).mono ?_
              rintro e w2 ⟨rfl, F2⟩
              refine ⟨?_, hS.pure F2⟩; with_reducible rfl
            refine FxL.pure (v := ?_) rfl (fun ev w hS E => ?_) ?_; rotate_left
            · obtain ⟨t66, t72, ec, ef, eg⟩ := E.get [(6, 5, 66), (0, 11, 72)] [] (by kernel_rfl); clear E; simp only [nthV] at t66 t72
              simp only [rplV] at t66 t72
              have h7 := eq7_any uo.kind uo.to_ uo.amt uo.lim uo.num uo.den uo.id
              go_simp; try with_reducible rfl
            refine FxL.pure (v := ?_) rfl (fun ev w hS E => ?_) ?_; rotate_left
            · obtain ⟨t73, ec, ef, eg⟩ := E.get [(0, 12, 73)] [] (by kernel_rfl); clear E; simp only [nthV] at t73; go_simp; try with_reducible rfl
            refine FxL.gpure (v := ?_) rfl 0 rfl rfl (fun ev w hS E => ?_) ?_; rotate_left
            · obtain ⟨t6, ec, ef, eg⟩ := E.get [] [6] (by kernel_rfl); clear E; go_simp; try with_reducible rfl
            refine FxL.gpure (v := ?_) rfl 1 rfl rfl (fun ev w hS E => ?_) ?_; rotate_left
            · obtain ⟨⟨k3, l3⟩, ⟨-, -, -, -, -, -, -, -, -, -, -, x11⟩, -, -, -, -, -, -, -, -, -, -, -, y11⟩ := KX.out w hS
              obtain ⟨t75, ec, ef, eg⟩ := E.get [(0, 14, 75)] [] (by kernel_rfl); clear E; simp only [nthV] at t75; go_simp; try with_reducible rfl
            refine FxL.gpure (v := ?_) rfl 2 rfl rfl (fun ev w hS E => ?_) ?_; rotate_left
            · obtain ⟨t8, ec, ef, eg⟩ := E.get [] [8] (by kernel_rfl); clear E; go_simp; try with_reducible rfl
            refine FxL.gpure (v := ?_) rfl 3 rfl rfl (fun ev w hS E => ?_) ?_; rotate_left
            · obtain ⟨⟨k3, l3⟩, ⟨-, -, -, -, -, -, -, -, -, -, -, x11⟩, -, -, -, -, -, -, -, -, -, -, -, y11⟩ := KX.out w hS
              obtain ⟨t76, t77, ec, ef, eg⟩ := E.get [(1, 15, 76), (0, 16, 77)] [] (by kernel_rfl); clear E; simp only [nthV] at t76 t77; go_simp; try with_reducible rfl
            refine FxL.gpure (v := ?_) rfl 4 rfl rfl (fun ev w hS E => ?_) ?_; rotate_left
            · obtain ⟨t78, ec, ef, eg⟩ := E.get [(0, 17, 78)] [] (by kernel_rfl); clear E; simp only [nthV] at t78; go_simp; try with_reducible rfl
            refine FxL.gpure (v := ?_) rfl 5 rfl rfl (fun ev w hS E => ?_) ?_; rotate_left
            · obtain ⟨⟨k3, l3⟩, ⟨-, -, -, -, -, -, -, -, -, -, -, x11⟩, -, -, -, -, -, -, -, -, -, -, -, y11⟩ := KX.out w hS
              obtain ⟨t79, ec, ef, eg⟩ := E.get [(0, 18, 79)] [] (by kernel_rfl); clear E; simp only [nthV] at t79; go_simp; try with_reducible rfl
            refine FxL.gpure (v := ?_) rfl 6 rfl rfl (fun ev w hS E => ?_) ?_; rotate_left
            · obtain ⟨t7, ec, ef, eg⟩ := E.get [] [7] (by kernel_rfl); clear E; go_simp; try with_reducible rfl
            refine FxL.gpure (v := ?_) rfl 7 rfl rfl (fun ev w hS E => ?_) ?_; rotate_left
            · obtain ⟨⟨k3, l3⟩, ⟨-, -, -, -, -, -, -, -, -, -, -, x11⟩, -, -, -, -, -, -, -, -, -, -, -, y11⟩ := KX.out w hS
              obtain ⟨t81, ec, ef, eg⟩ := E.get [(0, 20, 81)] [] (by kernel_rfl); clear E; simp only [nthV] at t81; go_simp; try with_reducible rfl
            refine FxL.gpure (v := ?_) rfl 8 rfl rfl (fun ev w hS E => ?_) ?_; rotate_left
            · obtain ⟨t8, ec, ef, eg⟩ := E.get [] [8] (by kernel_rfl); clear E; go_simp; try with_reducible rfl
            refine FxL.gpure (v := ?_) rfl 9 rfl rfl (fun ev w hS E => ?_) ?_; rotate_left
            · obtain ⟨⟨k3, l3⟩, ⟨-, -, -, -, -, -, -, -, -, -, -, x11⟩, -, -, -, -, -, -, -, -, -, -, -, y11⟩ := KX.out w hS
              obtain ⟨t82, t83, ec, ef, eg⟩ := E.get [(1, 21, 82), (0, 22, 83)] [] (by kernel_rfl); clear E; simp only [nthV] at t82 t83; go_simp; try with_reducible rfl
            refine FxL.gpure (v := ?_) rfl 10 rfl rfl (fun ev w hS E => ?_) ?_; rotate_left
            · obtain ⟨t84, ec, ef, eg⟩ := E.get [(0, 23, 84)] [] (by kernel_rfl); clear E; simp only [nthV] at t84; go_simp; try with_reducible rfl
            refine FxL.gpure (v := ?_) rfl 11 rfl rfl (fun ev w hS E => ?_) ?_; rotate_left
            · obtain ⟨⟨k3, l3⟩, ⟨-, -, -, -, -, -, -, -, -, -, -, x11⟩, -, -, -, -, -, -, -, -, -, -, -, y11⟩ := KX.out w hS
              obtain ⟨t85, ec, ef, eg⟩ := E.get [(0, 24, 85)] [] (by kernel_rfl); clear E; simp only [nthV] at t85; go_simp; try with_reducible rfl
            refine FxL.gcall (v := ?_) (f := ?_) (args := ?_) rfl 12 rfl rfl (fun ev w hS E => ?_) (fun w hS => ?_) ?_; rotate_left 3
            · obtain ⟨⟨k3, l3⟩, ⟨-, -, -, -, -, -, -, -, -, -, -, x11⟩, -, -, -, -, -, -, -, -, -, -, -, y11⟩ := KX.out w hS
              obtain ⟨t80, t86, ec, ef, eg⟩ := E.get [(6, 19, 80), (0, 25, 86)] [] (by kernel_rfl); clear E; simp only [nthV] at t80 t86; go_simp; first | (refine And.intro ?_ ?_ <;> with_reducible rfl) | with_reducible rfl
            · obtain ⟨⟨k3, l3⟩, ⟨-, -, -, -, -, -, -, -, -, -, -, x11⟩, -, -, -, -, -, -, -, -, -, -, -, y11⟩ := KX.out w hS
              refine (rsame39_any uo.path _ _ w (SlR.fr HDx.out (FFj.pure hS)) (SlR.fr HDy.out (FFj.pure hS))).mono ?_
              rintro e w2 ⟨rfl, F2⟩
              refine ⟨?_, hS.pure F2⟩; with_reducible rfl
            refine FxL.gpure (v := ?_) rfl 13 rfl rfl (fun ev w hS E => ?_) ?_; rotate_left
            · obtain ⟨t87, ec, ef, eg⟩ := E.get [(0, 26, 87)] [] (by kernel_rfl); clear E; simp only [nthV] at t87; go_simp; try with_reducible rfl
            refine FxL.pure (v := ?_) rfl (fun ev w hS E => ?_) ?_; rotate_left
            · obtain ⟨t74, t88, ec, ef, eg⟩ := E.get [(14, 13, 74), (0, 27, 88)] [] (by kernel_rfl); clear E; simp only [nthV] at t74 t88; go_simp; try with_reducible rfl
            refine FxL.done (fun W hW => ?_)
            simp only [fillZ]
            try simp only [Act.put, List.setIfInBounds_toArray, List.set_cons_zero, List.set_cons_succ, List.getElem_toArray, List.getElem_cons_zero, List.getElem_cons_succ]
            try simp only [List.drop_succ_cons, List.drop_zero, List.drop_nil]
            go_wp2_with fail
            go_roundw
            case rel =>
              have hjl : j < xo.length := HJL.out
              exact ⟨j + 1, HJL.out, by go_num, Fj.pure hW⟩
            case measure =>
              have hjl : j < xo.length := HJL.out
              simp [intOf]; omega
          · obtain rfl : j = xo.length := by omega
            go_wp2_with fail
            go_roundw
            case rel => exact ⟨k + 1, by omega, by go_num, FFj⟩
            case measure => simp [intOf]; omega
    · obtain rfl : k = la.length := by omega
      go_wp2_with fail
      go_ret
      exact ⟨rfl, F⟩
end Go.Proofs.YtonhhnedfjonoaaGreatDoor

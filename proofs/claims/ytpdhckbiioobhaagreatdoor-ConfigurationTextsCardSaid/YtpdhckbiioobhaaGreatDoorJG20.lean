/- Some texts of this claim, joined: contracts of the functions that it reaches, and plain laws. -/
import Derived.Test.YtpdhckbiioobhaaGreatDoorProg
import Derived.Test.YtpdhckbiioobhaaGreatDoorJG19
import Derived.Test.YtpdhckbiioobhaaGreatDoorJG12
import Derived.Test.YtpdhckbiioobhaaGreatDoorJG4
import Derived.Test.YtpdhckbiioobhaaGreatDoorJG16
import Derived.Test.YtpdhckbiioobhaaGreatDoorJG15

set_option linter.unusedSimpArgs false
set_option linter.unusedVariables false
/- Walks: normal.normal. -/
namespace Go.Proofs.YtpdhckbiioobhaaGreatDoor
open Go.RowKit

set_option maxRecDepth 100000 in
set_option maxHeartbeats 4000000 in
theorem nnorm_any (d : Nat) : ∀ (t : Tr) (v : Value) (D : Nat → Prop) (w : World), t.dep ≤ d → OkT t → t.size ≤ 900000 → (∀ b, D b → b < w.heap.size) → TrD w D v t →
    Calls Tryz.prog 82 #[v] w fun e w' => ∃ v', e = .returned v' ∧ TrD w' (Nwb w w') v' (normT t) ∧ Fr none w w' := by
  induction d with
  | zero =>
    intro t v D w hd
    cases t
    simp [Tr.dep] at hd
  | succ d ih =>
    intro t v D w hd hok hsz hD ht
    obtain ⟨thr, nodes, inner⟩ := t
    have hdi : depL inner ≤ d := by simp only [Tr.dep] at hd; omega
    rw [size_mk] at hsz
    rw [okT_mk] at hok
    have hin : ∀ x ∈ inner, x.dep ≤ d ∧ OkT x := fun x hx => ⟨(depL_le inner d).1 hdi x hx, hok.2.2.2.2 x hx⟩
    have HIN := Lib.hid hin
    have HOK := Lib.hid hok
    have HNT : Hid (normT (.mk thr nodes inner) = finT (ordT (mrgT thr ((normL inner).foldl liftS (nodes, []))))) := by unfold Hid; simp only [normT]
    simp only [TrD] at ht
    obtain ⟨vn, vi, cells, rfl, h0, h1, h2, h3, h4, h5, h6⟩ := ht
    obtain ⟨A, n, c, rfl, hl, hnc, hm, hx⟩ := id h1
    obtain ⟨A', n', c', rfl, hl', hnc', hm', hx'⟩ := id h3
    have hlen := h6.len
    obtain rfl : n' = inner.length := by omega
    obtain rfl : n = nodes.length := by simpa using hl.symm
    unfold Few at h4 h5
    unfold maxLen at hm hm'
    have HD := Lib.hid hD
    clear hl hl' hlen hD hx hd hdi hin hok
    go_enter Tryz.func82, Tryz.ntmps82
    go_upto_region 1 with (fail)
    generalize hW : (w.alloc _).alloc _ = w1
    have hz1 : w.heap.size + 2 ≤ w1.heap.size := by rw [← hW]; simp
    have F1 : Fr none w w1 := hW ▸ ((Fr.refl none w).alloc _).alloc _
    have b2 : TB w1 w.heap.size (.int .i64 thr) (.slice A nodes.length c) (.slice A' inner.length c') := by rw [← hW]; exact (Below.heap_alloc _ _ _ (by simp)).trans (blk_new _ _)
    have b4 : TB w1 (w.heap.size + 1) (.int .i64 0) (.slice none 0 0) (.slice none 0 0) := by rw [← hW]; exact blk_new_at (by simp) _
    clear hW
    have hs1 : SlI w1 none (.slice A nodes.length c) nodes := ⟨h1.keep (fun q hq => ⟨⟨by have := HD.out q hq; omega, by simp⟩, F1.block q (HD.out q hq) (by simp)⟩), h2⟩
    have hlt0 := blk_lt b2
    have R2 := b2.cell
    go_cut [3, 6, 7, 8, 9, 10, 11] (fun s3 _ _ _ _ _ _ wr => OutI w1 thr nodes s3 wr)
    case first =>
      refine wp_region_held_drew (S := fun W => (∀ i, W.cell? ⟨w.heap.size, i, none⟩ = (#[.int .i64 thr, .slice A nodes.length c, .slice A' inner.length c'] : Array Value)[i]?) ∧ Fr none w1 W) (by kernel_rfl) ⟨b2.cell, (Fr.refl _ _).drew⟩ (fun hH0 => ?_)
      have Fd : Fr none w1 w1.drew := (Fr.refl _ _).drew
      have Kd : TB w1.drew w.heap.size (.int .i64 thr) (.slice A nodes.length c) (.slice A' inner.length c') := b2
      have hsd : SlI w1.drew none (.slice A nodes.length c) nodes := ⟨hs1.1.keep (w := w1) (w' := w1.drew) (fun q hq => ⟨hq, rfl⟩), hs1.2⟩
      have hzd1 : w1.heap.size ≤ w1.drew.heap.size := Nat.le_refl w1.heap.size
      have hzd2 : w1.drew.heap.size ≤ w1.heap.size := Nat.le_refl w1.heap.size
      generalize w1.drew = wd at *
      refine wpAnyH_take (i := 0) (v := ?_) rfl (by kernel_rfl) (by kernel_rfl) (by kernel_rfl) (fun _ _ _ h => h) (Or.inl ⟨by rfl, ?_⟩) (by assumption) ?_
      rotate_left
      · (intro W hW; (try dsimp only at hW); go_simp; try with_reducible rfl)
      try simp only [Act.put, List.setIfInBounds_toArray, List.set_cons_zero, List.set_cons_succ, List.getElem_toArray, List.getElem_cons_zero, List.getElem_cons_succ]
      refine wpAnyH_take (i := 1) (v := ?_) rfl (by kernel_rfl) (by kernel_rfl) (by kernel_rfl) (fun _ _ _ h => h) (Or.inl ⟨by rfl, ?_⟩) (by assumption) ?_
      rotate_left
      · (intro W hW; (try dsimp only at hW); go_simp; try with_reducible rfl)
      try simp only [Act.put, List.setIfInBounds_toArray, List.set_cons_zero, List.set_cons_succ, List.getElem_toArray, List.getElem_cons_zero, List.getElem_cons_succ]
      refine wpAnyH_take (i := 2) (v := ?_) rfl (by kernel_rfl) (by kernel_rfl) (by kernel_rfl) (fun _ _ _ h => h) (Or.inl ⟨by rfl, ?_⟩) (by assumption) ?_
      rotate_left
      · (intro W hW; (try dsimp only at hW); go_simp; try with_reducible rfl)
      try simp only [Act.put, List.setIfInBounds_toArray, List.set_cons_zero, List.set_cons_succ, List.getElem_toArray, List.getElem_cons_zero, List.getElem_cons_succ]
      refine wpAnyH_take (i := 3) (v := ?_) rfl (by kernel_rfl) (by kernel_rfl) (by kernel_rfl) (fun _ _ _ h => h) (Or.inl ⟨by rfl, ?_⟩) (by assumption) ?_
      rotate_left
      · (intro W hW; (try dsimp only at hW); go_simp; try with_reducible rfl)
      try simp only [Act.put, List.setIfInBounds_toArray, List.set_cons_zero, List.set_cons_succ, List.getElem_toArray, List.getElem_cons_zero, List.getElem_cons_succ]
      refine wpAnyH_ready (rs := [4, 6]) (by kernel_rfl) (by simp) ?_
      refine AllReadyH.cons rfl (fun K hK => ?_) (AllReadyH.cons rfl (fun K hK => ?_) AllReadyH.nil)
      · simp only [List.getElem_toArray, List.getElem_cons_zero, List.getElem_cons_succ]
        go_simp
        go_at_call 131
        refine (cloneO_any nodes A c _ hsd (by omega)).mono ?_
        rintro e w5 ⟨A5, c5, rfl, own5, F5⟩
        have F7 := Fd.pure F5
        have hz7 := F7.size
        refine hK.out _ _ ⟨(Kd.fr F5 (by simp)).cell, F7⟩ (fun hH1 => ?_)
        clear hK K hH0
        try simp only [Act.put, List.setIfInBounds_toArray, List.set_cons_zero, List.set_cons_succ, List.getElem_toArray, List.getElem_cons_zero, List.getElem_cons_succ]
        refine wpAnyH_take (i := 5) (v := ?_) rfl (by kernel_rfl) (by kernel_rfl) (by kernel_rfl) (fun _ _ _ h => h) (Or.inl ⟨by rfl, ?_⟩) (by assumption) ?_
        rotate_left
        · (intro W hW; (try dsimp only at hW); go_simp; try with_reducible rfl)
        try simp only [Act.put, List.setIfInBounds_toArray, List.set_cons_zero, List.set_cons_succ, List.getElem_toArray, List.getElem_cons_zero, List.getElem_cons_succ]
        refine wpAnyH_ready (rs := [6]) (by kernel_rfl) (by simp) ?_
        refine AllReadyH.cons rfl (fun K hK => ?_) AllReadyH.nil
        simp only [List.getElem_toArray, List.getElem_cons_zero, List.getElem_cons_succ]
        go_simp
        have FA := F7.alloc (.cells #[.int .i64 0, .slice none 0 0, .slice none 0 0] 31)
        refine hK.out _ _ ⟨(b2.fr FA (by simp)).cell, FA⟩ (fun hH2 => ?_)
        clear hK K hH1
        try simp only [Act.put, List.setIfInBounds_toArray, List.set_cons_zero, List.set_cons_succ, List.getElem_toArray, List.getElem_cons_zero, List.getElem_cons_succ]
        refine wpAnyH_ready (rs := [7]) (by kernel_rfl) (by simp) ?_
        refine AllReadyH.cons rfl (fun K hK => ?_) AllReadyH.nil
        simp only [List.getElem_toArray, List.getElem_cons_zero, List.getElem_cons_succ]
        go_simp
        have FB := F7.alloc (.cells #[.int .i64 thr, .slice A5 nodes.length c5, .slice none 0 0] 31)
        refine hK.out _ _ ⟨(b2.fr FB (by simp)).cell, FB⟩ (fun hH3 => ?_)
        clear hK K hH2
        try simp only [Act.put, List.setIfInBounds_toArray, List.set_cons_zero, List.set_cons_succ, List.getElem_toArray, List.getElem_cons_zero, List.getElem_cons_succ]
        refine wpAnyH_done (by kernel_rfl) ?_ _
        go_wp2_with fail
        go_meet
        exact ⟨w5.heap.size, A5, c5, rfl, FB, hz7, blk_new _ _, own_base (own5.alloc _) (by omega), fun h => by have := (own5.lt _ h).2; omega⟩
      · simp only [List.getElem_toArray, List.getElem_cons_zero, List.getElem_cons_succ]
        go_simp
        have FL := (Fr.refl none wd).alloc (.cells #[.int .i64 0, .slice none 0 0, .slice none 0 0] 31)
        refine hK.out _ _ ⟨(Kd.fr FL (by simp)).cell, Fd.pure FL⟩ (fun hH1 => ?_)
        clear hK K hH0
        try simp only [Act.put, List.setIfInBounds_toArray, List.set_cons_zero, List.set_cons_succ, List.getElem_toArray, List.getElem_cons_zero, List.getElem_cons_succ]
        refine wpAnyH_ready (rs := [4]) (by kernel_rfl) (by simp) ?_
        refine AllReadyH.cons rfl (fun K hK => ?_) AllReadyH.nil
        simp only [List.getElem_toArray, List.getElem_cons_zero, List.getElem_cons_succ]
        go_simp
        go_at_call 131
        refine (cloneO_any nodes A c _ ⟨hsd.1.keep (fun q hq => ⟨⟨Nat.lt_of_lt_of_le hq.1 FL.size, by simp⟩, FL.block q hq.1 (by simp)⟩), hsd.2⟩ (by omega)).mono ?_
        rintro e w5 ⟨A5, c5, rfl, own5, F5⟩
        have F6 : Fr none wd w5 := FL.pure F5
        have F7 := Fd.pure F6
        have hb0 : TB w5 wd.heap.size (.int .i64 0) (.slice none 0 0) (.slice none 0 0) := blk_fr (blk_new wd _) F5 (by simp)
        have hne : (Value.slice A5 nodes.length c5).ownBlock ≠ some wd.heap.size := fun h => by
          have := (own5.lt _ h).1
          simp at this; omega
        refine hK.out _ _ ⟨(Kd.fr F6 (by simp)).cell, F7⟩ (fun hH3 => ?_)
        clear hK K hH1
        try simp only [Act.put, List.setIfInBounds_toArray, List.set_cons_zero, List.set_cons_succ, List.getElem_toArray, List.getElem_cons_zero, List.getElem_cons_succ]
        refine wpAnyH_take (i := 5) (v := ?_) rfl (by kernel_rfl) (by kernel_rfl) (by kernel_rfl) (fun _ _ _ h => h) (Or.inl ⟨by rfl, ?_⟩) (by assumption) ?_
        rotate_left
        · (intro W hW; (try dsimp only at hW); go_simp; try with_reducible rfl)
        try simp only [Act.put, List.setIfInBounds_toArray, List.set_cons_zero, List.set_cons_succ, List.getElem_toArray, List.getElem_cons_zero, List.getElem_cons_succ]
        have Rz := hb0.cell
        have Zz := hb0.free
        refine wpAnyH_ready (rs := [7]) (by kernel_rfl) (by simp) ?_
        refine AllReadyH.cons rfl (fun K hK => ?_) AllReadyH.nil
        simp only [List.getElem_toArray, List.getElem_cons_zero, List.getElem_cons_succ]
        go_simp
        have G := fr_fill3 w5 wd.heap.size (.int .i64 thr) (.slice A5 nodes.length c5) (.slice none 0 0)
        have hbf := tb_fill3 hb0 (.int .i64 thr) (.slice A5 nodes.length c5) (.slice none 0 0)
        have FB := F7.own G (by simp; omega)
        refine hK.out _ _ ⟨(b2.fr FB (by simp)).cell, FB⟩ (fun hH4 => ?_)
        clear hK K hH3 Rz Zz
        try simp only [Act.put, List.setIfInBounds_toArray, List.set_cons_zero, List.set_cons_succ, List.getElem_toArray, List.getElem_cons_zero, List.getElem_cons_succ]
        refine wpAnyH_done (by kernel_rfl) ?_ _
        go_wp2_with fail
        go_meet
        exact ⟨wd.heap.size, A5, c5, rfl, FB, by omega, hbf, own_base (own_ne_fr own5 G (by simpa using hne)) (by simp; omega), hne⟩
    case rest =>
      obtain ⟨B, A5, c5, rfl, F, hB, bB, own, hne⟩ := hcut
      have hM0 : NrmI Nob w1 thr B nodes [] A5 c5 none 0 [] wc := ⟨F, hB, bB, own, hne, h2, World.ownsRow_nil _ _ _ _, by simp [Value.ownBlock], fun _ _ => by simp [Value.ownBlock], by simp [TrsD]⟩
      have b2c := b2.fr F (by simp)
      have R2 := b2c.cell
      clear bB own hne hs1 h1 F
      obtain ⟨wo, hwo⟩ : ∃ wo : World, wo = wc := ⟨_, rfl⟩
      subst hwo
      go_wp2_with fail
      go_loopw [15, 5] (fun s15 s5 wr => ∃ (j : Nat) (i : List Tr) (A6 : Option Addr) (c6 : Nat) (cs : List Value), s15 = .int .i64 (j : Int) ∧ j ≤ inner.length ∧ NrmI Nob w1 thr B nodes i A5 c5 A6 c6 cs wr ∧
        Hid (normL inner = i ++ normL (inner.drop j)) ∧ wgt i + wgt (inner.drop j) ≤ wgt inner) (fun s15 _ _ => inner.length - (intOf s15).toNat)
      case atStart => exact ⟨0, [], none, 0, [], rfl, Nat.zero_le _, hM0, by simp [Hid], by simp [wgt, sizeL]⟩
      case round =>
        clear hM0 R2
        obtain ⟨j, i, A6, c6, cs, rfl, hj, hM, HJ, hbd⟩ := hrel
        have Fwr := F1.pure hM.fr
        by_cases hlt : j < inner.length
        · have hdj : inner.drop j = inner[j] :: inner.drop (j + 1) := List.drop_eq_getElem_cons hlt
          obtain ⟨b, off, rfl, hb, hcc⟩ := hx' (by omega)
          obtain ⟨x0, y0, z0, e0, e1, e2, hy0⟩ := h6.get j hlt
          obtain ⟨hyd, hyo⟩ := HIN.out inner[j] (List.getElem_mem _)
          rw [hdj] at HJ hbd
          rw [wgt_cons] at hbd
          generalize inner[j] = x at *
          have hns := (norm_rel x hyo).2.2.1
          have HNL : Hid (normL (x :: inner.drop (j + 1)) = normT x :: normL (inner.drop (j + 1))) := by unfold Hid; simp only [normL]
          obtain ⟨ty, B1, m1, d1, B2, m2, d2, hsh⟩ := hy0.shape
          simp only [Value.agg.injEq, Array.mk.injEq, List.cons.injEq, and_true] at hsh
          obtain ⟨rfl, rfl, rfl⟩ := hsh
          have g0 := Fwr.keep (hcc _ _ e0) (by simp)
          have g1 := Fwr.keep (hcc _ _ e1) (by simp)
          have g2 := Fwr.keep (hcc _ _ e2) (by simp)
          rw [← Nat.add_assoc] at g1 g2
          clear e0 e1 e2 hcc hdj
          go_upto_region 5 with (fail)
          generalize hW : wr.alloc _ = wx
          have Fx : Fr none wr wx := hW ▸ (Fr.refl none wr).alloc _
          have bx : TB wx wr.heap.size (.int .i64 ty) (.slice B1 m1 d1) (.slice B2 m2 d2) := by rw [← hW]; exact blk_new _ _
          clear hW g0 g1 g2
          have hMd := hM.pure nob_lt (Fx.pure (Fr.refl none wx).drew)
          have Fwx := Fwr.pure (Fx.pure (Fr.refl none wx).drew)
          have hTx : TrD wx.drew D (.agg #[.int .i64 ty, .slice B1 m1 d1, .slice B2 m2 d2]) x := TrD.keep (fun q hq => ⟨hq, Fwx.block q (HD.out q hq) (by simp)⟩) _ _ hy0
          have hxs : x.size ≤ 900000 := by omega
          have hDx : ∀ b, D b → b < wx.drew.heap.size := fun b hb => by have := HD.out b hb; have := Fwx.size; omega
          have HDX := Lib.hid hDx
          have HTX := Lib.hid hTx
          have hB0 := hMd.tb
          have R0 := hB0.cell
          have Rx := bx.cell
          have hlx := blk_lt bx
          have hl0 : B < wx.heap.size := blk_lt hB0
          have ne6 := hMd.ne6
          have hil : i.length ≤ 900000 := by unfold wgt at hbd; unfold wgt at hsz; omega
          have hzb : w1.heap.size ≤ wx.heap.size := (hM.fr.pure Fx).size
          clear hM hDx hTx hy0
          go_region_law (first | (go_simp; go_at_call 82; refine (ih x _ D _ hyd hyo hxs HDX.out HTX.out).mono ?_; rintro e w3 ⟨v3, rfl, hT3, F3⟩; obtain ⟨tx, X1, p1, k1, X2, p2, k2, rfl⟩ := hT3.shape; have hM3 := hMd.pure nob_lt F3; have K3 := hM3.tb; have R3 := K3.cell; have Z3 := K3.free; have hl3 := blk_lt K3; have own6 := hM3.own6; have hz3 := F3.size; have hz31 := hM3.fr.size) | (refine step_app_lit eiTrust rfl _ _ rfl w1.heap.size A6 i.length c6 _ rfl own6 1 [.int .i64 tx, .slice X1 p1 k1, .slice X2 p2 k2] _ _ rfl (by simp) rfl (by simp [Value.oneCell']) (by omega) (by unfold maxLen; omega) hz31 ?_; intro A7 c7 w7 own7 F7 nb7; have K7 := K3.fr F7 ne6; have R7 := K7.cell; have Z7 := K7.free))
          all_goals
            go_wp2_with fail
            go_roundw
            case rel =>
              have hxd := hMd.dw (TrD.keep (fun q hq => ⟨.inr hq, rfl⟩) _ _ hT3)
              exact ⟨j + 1, i ++ [normT x], A7, c7, _, by go_num, by omega, hM3.inner nob_lt hxd own7 F7 nb7, by unfold Hid; rw [HJ.out, HNL.out]; simp, by rw [wgt_append, wgt_one]; omega⟩
            case measure => simp [intOf]; omega
        · obtain rfl : j = inner.length := by omega
          have hNI : normL inner = i := by rw [HJ.out]; simp [normL]
          obtain ⟨st, hst⟩ : ∃ st, st = i.foldl liftS (nodes, []) := ⟨_, rfl⟩
          obtain ⟨n7, i7⟩ := st
          obtain ⟨hok7, hsz7⟩ := lift_facts ((okT_mk _ _ _).2 HOK.out) (n := n7) (i := i7) (by rw [hNI]; exact hst.symm)
          have HF : Hid ((normL inner).foldl liftS (nodes, []) = (n7, i7)) := by unfold Hid; rw [hNI]; exact hst.symm
          have hiw : wgt i ≤ wgt inner := by omega
          have hO := hM.outf
          have hLF := lifted_any (fun b => b = B) thr nodes i A5 c5 A6 c6 cs w1 wr hO.ow (by omega)
          rw [← hst] at hLF
          delta RowsP at hLF
          dsimp only at hLF
          have HLF := Lib.hid hLF
          have tb := hO.tb
          have RB := tb.cell
          have hBl := blk_lt tb
          have HOK7 := Lib.hid hok7
          have hl7 : i7.length ≤ wgt i7 := by unfold wgt; omega
          have hn7 : n7.length ≤ 900000 := by omega
          have hi7 : i7.length ≤ 900000 := by omega
          clear HJ hM hNI hst hLF hok7 hbd
          go_wp2_with fail
          refine HLF.out.mono ?_
          rintro e w3 ⟨A9, c9, A10, c10, cs9, rfl, ow9, F9, nw9, n69⟩
          have hO9 := hO.step ow9 F9 nw9 n69
          have K3 := (hO.tb).fr F9 hO.e5
          have R3 := K3.cell
          have Z3 := K3.free
          have hl3 := blk_lt K3
          clear RB tb hBl ow9 F9 nw9 n69 HLF
          go_upto_region 8 with (fail)
          clear R3 Z3 K3 hl3
          generalize World.setCell (World.setCell (World.setCell w3 _ _) _ _) _ _ = w4 at *
          clear hO
          have tb := hO9.tb
          have RB := tb.cell
          have hBl := blk_lt tb
          go_wp2_with fail
          refine (anyOf_any (.mk thr n7 i7) _ _ _ (hO9.trd h0 hn7 hi7)).mono ?_
          rintro e w5 ⟨rfl, F5⟩
          have hO5 := hO9.pure F5
          clear RB tb hBl hO9
          have tb := hO5.tb
          have RB := tb.cell
          have hBl := blk_lt tb
          by_cases h1 : thr = 1
          · subst h1
            have hMR : mrgT 1 (n7, i7) = .mk 1 (mergeL false (n7, i7)).1 (mergeL false (n7, i7)).2 := by unfold mrgT; rw [if_pos rfl]; rfl
            have hok9 := (mrg_rel (st := (n7, i7)) HOK7.out).1
            have hsz9 := merge_wgt false i7 (n7, [])
            have hDA := dissAny_any (fun b => b = B) 1 n7 i7 A9 c9 A10 c10 cs9 w1 w5 hO5.ow (by omega)
            rw [hMR] at hok9
            change (mergeL false (n7, i7)).1.length + wgt (mergeL false (n7, i7)).2 ≤ _ at hsz9
            obtain ⟨st, hst⟩ : ∃ st, st = mergeL false (n7, i7) := ⟨_, rfl⟩
            rw [← hst] at hMR hok9 hsz9 hDA
            obtain ⟨n9, i9⟩ := st
            delta RowsP at hDA
            dsimp only at hMR hok9 hsz9 hDA
            have hw0 : wgt ([] : List Tr) = 0 := by simp [wgt, sizeL]
            have hl9 : i9.length ≤ wgt i9 := by unfold wgt; omega
            have hn9 : n9.length ≤ 900000 := by omega
            have hi9 : i9.length ≤ 900000 := by omega
            obtain ⟨_, _, hrg, hnd, _⟩ := (okT_mk _ _ _).1 hok9
            have HMR := Lib.hid hMR
            have HDA := Lib.hid hDA
            have HRG := Lib.hid hrg
            have HND := Lib.hid hnd
            have hthw := h0
            have htk : tak false (.mk 1 n7 i7) = true := by simp [tak, Tr.thr]
            rw [htk]
            clear hst hMR hok9 hDA hrg hnd htk hw0 hsz9 hl9
            go_wp2_with fail
            refine HDA.out.mono ?_
            rintro e w3 ⟨A9, c9, A10, c10, cs9, rfl, ow9, F9, nw9, n69⟩
            have hO9 := hO5.step ow9 F9 nw9 n69
            have K3 := (hO5.tb).fr F9 hO5.e5
            have R3 := K3.cell
            have Z3 := K3.free
            have hl3 := blk_lt K3
            clear RB tb hBl ow9 F9 nw9 n69 HDA
            go_upto_region 13 with (fail)
            clear R3 Z3 K3 hl3
            generalize World.setCell (World.setCell (World.setCell w3 _ _) _ _) _ _ = w4 at *
            clear hO5
            have tb := hO9.tb
            have RB := tb.cell
            have hBl := blk_lt tb
            have ow5 := hO9.ow.own5
            go_wp2_with fail
            refine (sortNd_any n9 A9 c9 w1.heap.size w4 ow5 HRG.out HND.out).mono ?_
            rintro e wS ⟨rfl, hS5, FS⟩
            have hS := hO9.sorted hS5 FS
            have K6 := hS.tb
            clear tb RB ow5 hS5 FS hBl
            have RS := K6.cell
            have hBl := blk_lt K6
            go_wp2_with fail
            refine (sortI_any i9 _ _ _ w1.heap.size wS _ hS.own6 hS.dlt hS.trs (by omega)).mono ?_
            rintro e w6 ⟨rfl, cells', hS6, hT6, F6⟩
            have hm5 := hS.inner hthw HRG.out HND.out (by omega) (by omega) hS6 hT6 F6
            have HFO : Hid (ordT (.mk 1 n9 i9) = .mk 1 (sortN n9) (sortT i9)) := rfl
            clear RS K6 hBl hS hS6 hT6 F6
            generalize sortN n9 = nO at hm5 HFO
            generalize sortT i9 = iO at hm5 HFO
            have hTO := hm5.2.2.2
            simp only [TrD] at hTO
            obtain ⟨vnx, vix, cx, hsh, k0, q1, q2, q3, q4, q5, q6⟩ := hTO
            simp only [Value.agg.injEq, Array.mk.injEq, List.cons.injEq, and_true] at hsh
            obtain ⟨hsh0, hsh1, hsh2⟩ := hsh
            subst hsh1 hsh2
            obtain ⟨Y1, nn, d1, e1, l1, l2, l3, l4⟩ := id q1
            injection e1 with a1 a2 a3
            subst a1 a2 a3
            obtain ⟨Y2, mm, d2, e2, r1, r2, r3, r4⟩ := id q3
            injection e2 with a1 a2 a3
            subst a1 a2 a3
            unfold Few at q4 q5
            unfold maxLen at l3 r3
            have K6 := hm5.2.2.1
            have R6 := K6.cell
            have hl6 := blk_lt K6
            have b46 := b4.fr hm5.1 (by simp)
            have R4 := b46.cell
            have Z4 := b46.free
            have hl4 := blk_lt b46
            have F16 := F1.pure hm5.1
            by_cases hn0 : nO.length = 0
            · obtain rfl : nO = [] := List.eq_nil_of_length_eq_zero hn0
              by_cases hi1 : iO.length = 1
              · obtain ⟨y, rfl⟩ := List.length_eq_one_iff.1 hi1
                have HFN : Hid (finT (.mk 1 [] [y]) = y) := rfl
                obtain ⟨bb, oo, rfl, hbb, hcc⟩ := r4 (by simp)
                obtain ⟨x0, y0, z0, e0, e1, e2, hy0⟩ := q6.get 0 (by simp)
                simp only [Nat.zero_mul, Nat.zero_add] at e0 e1 e2
                have hyT : TrD w6 (Db Nob w1 w6 B) (.agg #[x0, y0, z0]) y := hy0
                obtain ⟨ty, W1, p1, v1, W2, p2, v2, hsh⟩ := hyT.shape
                simp only [Value.agg.injEq, Array.mk.injEq, List.cons.injEq, and_true] at hsh
                obtain ⟨rfl, rfl, rfl⟩ := hsh
                have g0 : w6.cell? ⟨bb, oo, none⟩ = some (.int .i64 ty) := hcc _ _ e0
                have g1 : w6.cell? ⟨bb, oo + 1, none⟩ = some (.slice W1 p1 v1) := hcc _ _ e1
                have g2 : w6.cell? ⟨bb, oo + 2, none⟩ = some (.slice W2 p2 v2) := hcc _ _ e2
                clear e0 e1 e2 hcc
                go_wp2_with fail
                refine bodyPost_ret (v := .agg #[.int .i64 ty, .slice W1 p1 v1, .slice W2 p2 v2]) (by simp [results, Tryz.results82, go_sem, R4, R6]) rfl ?_
                obtain ⟨f1, f2⟩ := hm5.fin nob_lt hz1 F1 hyT (fr_fill3 w6 (w.heap.size + 1) _ _ _)
                exact ⟨_, rfl, by rw [HNT.out, HF.out, HMR.out, HFO.out, HFN.out]; exact TrD.keep nwb_dw _ _ f1, f2⟩
              · have HFN : Hid (finT (.mk 1 [] iO) = .mk 1 [] iO) := by
                  unfold Hid finT
                  rcases iO with _ | ⟨y, _ | ⟨y2, r⟩⟩
                  · rfl
                  · exact absurd rfl hi1
                  · rfl
                have hb1 : ((iO.length : Int) == 1) = false := by rw [beq_eq_false_iff_ne]; omega
                clear hi1
                go_wp2_with fail
                refine bodyPost_ret (v := .agg #[.int .i64 1, .slice A9 0 c9, .slice A10 iO.length c10]) (by simp [results, Tryz.results82, go_sem, R4, R6]) rfl ?_
                obtain ⟨f1, f2⟩ := hm5.fin nob_lt hz1 F1 hm5.2.2.2 (fr_fill3 w6 (w.heap.size + 1) _ _ _)
                exact ⟨_, rfl, by rw [HNT.out, HF.out, HMR.out, HFO.out, HFN.out]; exact TrD.keep nwb_dw _ _ f1, f2⟩
            · have HFN : Hid (finT (.mk 1 nO iO) = .mk 1 nO iO) := by
                unfold Hid finT
                cases nO with
                | nil => exact absurd rfl hn0
                | cons a r => rfl
              have hb1 : ((nO.length : Int) == 0) = false := by rw [beq_eq_false_iff_ne]; omega
              clear hn0
              go_wp2_with fail
              refine bodyPost_ret (v := .agg #[.int .i64 1, .slice A9 nO.length c9, .slice A10 iO.length c10]) (by simp [results, Tryz.results82, go_sem, R4, R6]) rfl ?_
              obtain ⟨f1, f2⟩ := hm5.fin nob_lt hz1 F1 hm5.2.2.2 (fr_fill3 w6 (w.heap.size + 1) _ _ _)
              exact ⟨_, rfl, by rw [HNT.out, HF.out, HMR.out, HFO.out, HFN.out]; exact TrD.keep nwb_dw _ _ f1, f2⟩
          · have htk : tak false (.mk thr n7 i7) = false := by simp [tak, Tr.thr, h1]
            rw [htk]
            have H1 := Lib.hid h1
            clear h1 htk
            go_wp2_with fail
            refine (allOf_any (.mk thr n7 i7) _ _ _ (fun b hb => hb.1) (hO5.trd h0 hn7 hi7)).mono ?_
            rintro e w6 ⟨rfl, F6⟩
            have hO6 := hO5.pure F6
            clear RB tb hBl hO5
            have tb := hO6.tb
            have RB := tb.cell
            have hBl := blk_lt tb
            by_cases h2 : thr = ((n7.length + i7.length : Nat) : Int)
            · have hMR : mrgT thr (n7, i7) = .mk (((mergeL true (n7, i7)).1.length + (mergeL true (n7, i7)).2.length : Nat) : Int) (mergeL true (n7, i7)).1 (mergeL true (n7, i7)).2 := by unfold mrgT; rw [if_neg H1.out, if_pos h2]; rfl
              have hok9 := (mrg_rel (st := (n7, i7)) HOK7.out).1
              have hsz9 := merge_wgt true i7 (n7, [])
              have hDA := dissAll_any (fun b => b = B) thr n7 i7 A9 c9 A10 c10 cs9 w1 w6 hO6.ow (by omega)
              rw [hMR] at hok9
              change (mergeL true (n7, i7)).1.length + wgt (mergeL true (n7, i7)).2 ≤ _ at hsz9
              obtain ⟨st, hst⟩ : ∃ st, st = mergeL true (n7, i7) := ⟨_, rfl⟩
              rw [← hst] at hMR hok9 hsz9 hDA
              obtain ⟨n9, i9⟩ := st
              delta RowsP at hDA
              dsimp only at hMR hok9 hsz9 hDA
              have hw0 : wgt ([] : List Tr) = 0 := by simp [wgt, sizeL]
              have hl9 : i9.length ≤ wgt i9 := by unfold wgt; omega
              have hn9 : n9.length ≤ 900000 := by omega
              have hi9 : i9.length ≤ 900000 := by omega
              obtain ⟨_, _, hrg, hnd, _⟩ := (okT_mk _ _ _).1 hok9
              rw [Int.natCast_add] at hMR
              have HMR := Lib.hid hMR
              have HDA := Lib.hid hDA
              have HRG := Lib.hid hrg
              have HND := Lib.hid hnd
              have htk : tak true (.mk thr n7 i7) = true := by
                show decide (thr = ((n7.length + i7.length : Nat) : Int)) = true
                exact decide_eq_true h2
              rw [htk]
              have H2 := Lib.hid h2
              clear hst hMR hok9 hDA hrg hnd htk hw0 hsz9 hl9 h2
              go_wp2_with fail
              refine HDA.out.mono ?_
              rintro e w3 ⟨A9, c9, A10, c10, cs9, rfl, ow9, F9, nw9, n69⟩
              have hO9 := hO6.step ow9 F9 nw9 n69
              have K3 := (hO6.tb).fr F9 hO6.e5
              have R3 := K3.cell
              have Z3 := K3.free
              have hl3 := blk_lt K3
              clear RB tb hBl ow9 F9 nw9 n69 HDA
              go_upto_region 12 with (fail)
              clear R3 Z3 K3 hl3
              generalize World.setCell (World.setCell (World.setCell w3 _ _) _ _) _ _ = w4 at *
              clear hO6
              have tb := hO9.tb
              have RB := tb.cell
              have ZB := tb.free
              have hBl := blk_lt tb
              go_wp2_with fail
              refine (nentries_any (.mk thr n9 i9) _ _ _ (hO9.trd h0 hn9 hi9)).mono ?_
              rintro e w7 ⟨rfl, F7⟩
              rw [show cnt1 (.mk thr n9 i9) = n9.length + i9.length from rfl]
              have hO7 := (hO9.pure F7).thr_ ((n9.length : Int) + (i9.length : Int))
              have K3 := tb.fr F7 (by simp)
              have R3 := K3.cell
              have Z3 := K3.free
              have hl3 := blk_lt K3
              have hthw : Wi ((n9.length : Int) + (i9.length : Int)) := by constructor <;> omega
              clear RB tb ZB hBl hO9
              go_upto_region 13 with (fail)
              clear R3 Z3 K3 hl3
              generalize World.setCell w7 _ _ = w8 at *
              obtain ⟨th9, hth9⟩ : ∃ th9, th9 = (n9.length : Int) + (i9.length : Int) := ⟨_, rfl⟩
              rw [← hth9] at hO7 hthw HMR
              clear hth9
              have tb := hO7.tb
              have RB := tb.cell
              have hBl := blk_lt tb
              have ow5 := hO7.ow.own5
              go_wp2_with fail
              refine (sortNd_any n9 A9 c9 w1.heap.size w8 ow5 HRG.out HND.out).mono ?_
              rintro e wS ⟨rfl, hS5, FS⟩
              have hS := hO7.sorted hS5 FS
              have K6 := hS.tb
              clear tb RB ow5 hS5 FS hBl
              have RS := K6.cell
              have hBl := blk_lt K6
              go_wp2_with fail
              refine (sortI_any i9 _ _ _ w1.heap.size wS _ hS.own6 hS.dlt hS.trs (by omega)).mono ?_
              rintro e w6 ⟨rfl, cells', hS6, hT6, F6⟩
              have hm5 := hS.inner hthw HRG.out HND.out (by omega) (by omega) hS6 hT6 F6
              have HFO : Hid (ordT (.mk th9 n9 i9) = .mk th9 (sortN n9) (sortT i9)) := rfl
              clear RS K6 hBl hS hS6 hT6 F6
              generalize sortN n9 = nO at hm5 HFO
              generalize sortT i9 = iO at hm5 HFO
              have hTO := hm5.2.2.2
              simp only [TrD] at hTO
              obtain ⟨vnx, vix, cx, hsh, k0, q1, q2, q3, q4, q5, q6⟩ := hTO
              simp only [Value.agg.injEq, Array.mk.injEq, List.cons.injEq, and_true] at hsh
              obtain ⟨hsh0, hsh1, hsh2⟩ := hsh
              subst hsh1 hsh2
              obtain ⟨Y1, nn, d1, e1, l1, l2, l3, l4⟩ := id q1
              injection e1 with a1 a2 a3
              subst a1 a2 a3
              obtain ⟨Y2, mm, d2, e2, r1, r2, r3, r4⟩ := id q3
              injection e2 with a1 a2 a3
              subst a1 a2 a3
              unfold Few at q4 q5
              unfold maxLen at l3 r3
              have K6 := hm5.2.2.1
              have R6 := K6.cell
              have hl6 := blk_lt K6
              have b46 := b4.fr hm5.1 (by simp)
              have R4 := b46.cell
              have Z4 := b46.free
              have hl4 := blk_lt b46
              have F16 := F1.pure hm5.1
              by_cases hn0 : nO.length = 0
              · obtain rfl : nO = [] := List.eq_nil_of_length_eq_zero hn0
                by_cases hi1 : iO.length = 1
                · obtain ⟨y, rfl⟩ := List.length_eq_one_iff.1 hi1
                  have HFN : Hid (finT (.mk th9 [] [y]) = y) := rfl
                  obtain ⟨bb, oo, rfl, hbb, hcc⟩ := r4 (by simp)
                  obtain ⟨x0, y0, z0, e0, e1, e2, hy0⟩ := q6.get 0 (by simp)
                  simp only [Nat.zero_mul, Nat.zero_add] at e0 e1 e2
                  have hyT : TrD w6 (Db Nob w1 w6 B) (.agg #[x0, y0, z0]) y := hy0
                  obtain ⟨ty, W1, p1, v1, W2, p2, v2, hsh⟩ := hyT.shape
                  simp only [Value.agg.injEq, Array.mk.injEq, List.cons.injEq, and_true] at hsh
                  obtain ⟨rfl, rfl, rfl⟩ := hsh
                  have g0 : w6.cell? ⟨bb, oo, none⟩ = some (.int .i64 ty) := hcc _ _ e0
                  have g1 : w6.cell? ⟨bb, oo + 1, none⟩ = some (.slice W1 p1 v1) := hcc _ _ e1
                  have g2 : w6.cell? ⟨bb, oo + 2, none⟩ = some (.slice W2 p2 v2) := hcc _ _ e2
                  clear e0 e1 e2 hcc
                  go_wp2_with fail
                  refine bodyPost_ret (v := .agg #[.int .i64 ty, .slice W1 p1 v1, .slice W2 p2 v2]) (by simp [results, Tryz.results82, go_sem, R4, R6]) rfl ?_
                  obtain ⟨f1, f2⟩ := hm5.fin nob_lt hz1 F1 hyT (fr_fill3 w6 (w.heap.size + 1) _ _ _)
                  exact ⟨_, rfl, by rw [HNT.out, HF.out, HMR.out, HFO.out, HFN.out]; exact TrD.keep nwb_dw _ _ f1, f2⟩
                · have HFN : Hid (finT (.mk th9 [] iO) = .mk th9 [] iO) := by
                    unfold Hid finT
                    rcases iO with _ | ⟨y, _ | ⟨y2, r⟩⟩
                    · rfl
                    · exact absurd rfl hi1
                    · rfl
                  have hb1 : ((iO.length : Int) == 1) = false := by rw [beq_eq_false_iff_ne]; omega
                  clear hi1
                  go_wp2_with fail
                  refine bodyPost_ret (v := .agg #[.int .i64 th9, .slice A9 0 c9, .slice A10 iO.length c10]) (by simp [results, Tryz.results82, go_sem, R4, R6]) rfl ?_
                  obtain ⟨f1, f2⟩ := hm5.fin nob_lt hz1 F1 hm5.2.2.2 (fr_fill3 w6 (w.heap.size + 1) _ _ _)
                  exact ⟨_, rfl, by rw [HNT.out, HF.out, HMR.out, HFO.out, HFN.out]; exact TrD.keep nwb_dw _ _ f1, f2⟩
              · have HFN : Hid (finT (.mk th9 nO iO) = .mk th9 nO iO) := by
                  unfold Hid finT
                  cases nO with
                  | nil => exact absurd rfl hn0
                  | cons a r => rfl
                have hb1 : ((nO.length : Int) == 0) = false := by rw [beq_eq_false_iff_ne]; omega
                clear hn0
                go_wp2_with fail
                refine bodyPost_ret (v := .agg #[.int .i64 th9, .slice A9 nO.length c9, .slice A10 iO.length c10]) (by simp [results, Tryz.results82, go_sem, R4, R6]) rfl ?_
                obtain ⟨f1, f2⟩ := hm5.fin nob_lt hz1 F1 hm5.2.2.2 (fr_fill3 w6 (w.heap.size + 1) _ _ _)
                exact ⟨_, rfl, by rw [HNT.out, HF.out, HMR.out, HFO.out, HFN.out]; exact TrD.keep nwb_dw _ _ f1, f2⟩
            · have hMR : mrgT thr (n7, i7) = .mk thr n7 i7 := by unfold mrgT; rw [if_neg H1.out, if_neg h2]
              obtain ⟨_, _, hrg, hnd, _⟩ := (okT_mk _ _ _).1 HOK7.out
              have HMR := Lib.hid hMR
              have HRG := Lib.hid hrg
              have HND := Lib.hid hnd
              have hthw := h0
              have htk : tak true (.mk thr n7 i7) = false := by
                show decide (thr = ((n7.length + i7.length : Nat) : Int)) = false
                exact decide_eq_false h2
              rw [htk]
              have H2 := Lib.hid h2
              clear hMR hrg hnd htk h2 RB tb hBl
              go_upto_region 13 with (fail)
              have tb := hO6.tb
              have RB := tb.cell
              have hBl := blk_lt tb
              have ow5 := hO6.ow.own5
              go_wp2_with fail
              refine (sortNd_any n7 A9 c9 w1.heap.size w6 ow5 HRG.out HND.out).mono ?_
              rintro e wS ⟨rfl, hS5, FS⟩
              have hS := hO6.sorted hS5 FS
              have K6 := hS.tb
              clear tb RB ow5 hS5 FS hBl
              have RS := K6.cell
              have hBl := blk_lt K6
              go_wp2_with fail
              refine (sortI_any i7 _ _ _ w1.heap.size wS _ hS.own6 hS.dlt hS.trs (by omega)).mono ?_
              rintro e w6 ⟨rfl, cells', hS6, hT6, F6⟩
              have hm5 := hS.inner hthw HRG.out HND.out (by omega) (by omega) hS6 hT6 F6
              have HFO : Hid (ordT (.mk thr n7 i7) = .mk thr (sortN n7) (sortT i7)) := rfl
              clear RS K6 hBl hS hS6 hT6 F6
              generalize sortN n7 = nO at hm5 HFO
              generalize sortT i7 = iO at hm5 HFO
              have hTO := hm5.2.2.2
              simp only [TrD] at hTO
              obtain ⟨vnx, vix, cx, hsh, k0, q1, q2, q3, q4, q5, q6⟩ := hTO
              simp only [Value.agg.injEq, Array.mk.injEq, List.cons.injEq, and_true] at hsh
              obtain ⟨hsh0, hsh1, hsh2⟩ := hsh
              subst hsh1 hsh2
              obtain ⟨Y1, nn, d1, e1, l1, l2, l3, l4⟩ := id q1
              injection e1 with a1 a2 a3
              subst a1 a2 a3
              obtain ⟨Y2, mm, d2, e2, r1, r2, r3, r4⟩ := id q3
              injection e2 with a1 a2 a3
              subst a1 a2 a3
              unfold Few at q4 q5
              unfold maxLen at l3 r3
              have K6 := hm5.2.2.1
              have R6 := K6.cell
              have hl6 := blk_lt K6
              have b46 := b4.fr hm5.1 (by simp)
              have R4 := b46.cell
              have Z4 := b46.free
              have hl4 := blk_lt b46
              have F16 := F1.pure hm5.1
              by_cases hn0 : nO.length = 0
              · obtain rfl : nO = [] := List.eq_nil_of_length_eq_zero hn0
                by_cases hi1 : iO.length = 1
                · obtain ⟨y, rfl⟩ := List.length_eq_one_iff.1 hi1
                  have HFN : Hid (finT (.mk thr [] [y]) = y) := rfl
                  obtain ⟨bb, oo, rfl, hbb, hcc⟩ := r4 (by simp)
                  obtain ⟨x0, y0, z0, e0, e1, e2, hy0⟩ := q6.get 0 (by simp)
                  simp only [Nat.zero_mul, Nat.zero_add] at e0 e1 e2
                  have hyT : TrD w6 (Db Nob w1 w6 B) (.agg #[x0, y0, z0]) y := hy0
                  obtain ⟨ty, W1, p1, v1, W2, p2, v2, hsh⟩ := hyT.shape
                  simp only [Value.agg.injEq, Array.mk.injEq, List.cons.injEq, and_true] at hsh
                  obtain ⟨rfl, rfl, rfl⟩ := hsh
                  have g0 : w6.cell? ⟨bb, oo, none⟩ = some (.int .i64 ty) := hcc _ _ e0
                  have g1 : w6.cell? ⟨bb, oo + 1, none⟩ = some (.slice W1 p1 v1) := hcc _ _ e1
                  have g2 : w6.cell? ⟨bb, oo + 2, none⟩ = some (.slice W2 p2 v2) := hcc _ _ e2
                  clear e0 e1 e2 hcc
                  go_wp2_with fail
                  refine bodyPost_ret (v := .agg #[.int .i64 ty, .slice W1 p1 v1, .slice W2 p2 v2]) (by simp [results, Tryz.results82, go_sem, R4, R6]) rfl ?_
                  obtain ⟨f1, f2⟩ := hm5.fin nob_lt hz1 F1 hyT (fr_fill3 w6 (w.heap.size + 1) _ _ _)
                  exact ⟨_, rfl, by rw [HNT.out, HF.out, HMR.out, HFO.out, HFN.out]; exact TrD.keep nwb_dw _ _ f1, f2⟩
                · have HFN : Hid (finT (.mk thr [] iO) = .mk thr [] iO) := by
                    unfold Hid finT
                    rcases iO with _ | ⟨y, _ | ⟨y2, r⟩⟩
                    · rfl
                    · exact absurd rfl hi1
                    · rfl
                  have hb1 : ((iO.length : Int) == 1) = false := by rw [beq_eq_false_iff_ne]; omega
                  clear hi1
                  go_wp2_with fail
                  refine bodyPost_ret (v := .agg #[.int .i64 thr, .slice A9 0 c9, .slice A10 iO.length c10]) (by simp [results, Tryz.results82, go_sem, R4, R6]) rfl ?_
                  obtain ⟨f1, f2⟩ := hm5.fin nob_lt hz1 F1 hm5.2.2.2 (fr_fill3 w6 (w.heap.size + 1) _ _ _)
                  exact ⟨_, rfl, by rw [HNT.out, HF.out, HMR.out, HFO.out, HFN.out]; exact TrD.keep nwb_dw _ _ f1, f2⟩
              · have HFN : Hid (finT (.mk thr nO iO) = .mk thr nO iO) := by
                  unfold Hid finT
                  cases nO with
                  | nil => exact absurd rfl hn0
                  | cons a r => rfl
                have hb1 : ((nO.length : Int) == 0) = false := by rw [beq_eq_false_iff_ne]; omega
                clear hn0
                go_wp2_with fail
                refine bodyPost_ret (v := .agg #[.int .i64 thr, .slice A9 nO.length c9, .slice A10 iO.length c10]) (by simp [results, Tryz.results82, go_sem, R4, R6]) rfl ?_
                obtain ⟨f1, f2⟩ := hm5.fin nob_lt hz1 F1 hm5.2.2.2 (fr_fill3 w6 (w.heap.size + 1) _ _ _)
                exact ⟨_, rfl, by rw [HNT.out, HF.out, HMR.out, HFO.out, HFN.out]; exact TrD.keep nwb_dw _ _ f1, f2⟩
end Go.Proofs.YtpdhckbiioobhaaGreatDoor

/- Walks: normal.Normal, Is; the reference's. -/
namespace Go.Proofs.YtpdhckbiioobhaaGreatDoor
open Go.RowKit

theorem valid_facts {t : Tr} (h : validE t = 0) : OkT t ∧ t.size ≤ 200 ∧ t.dep ≤ 4 := by
  unfold validE at h
  split at h
  · omega
  · exact ⟨(okT_iff t).1 h, by omega, by omega⟩
/-- What Normal hands back. -/
def nrmV (t : Tr) : Tr := if validE t = 0 then normT t else .mk 0 [] []
def isN (t : Tr) : Bool := (validE t == 0) && sameT (nrmV t) t
/-- The old blocks (but for r) and those from w2 on. -/
def D3 (r : Option Nat) (w w2 w3 : World) : Nat → Prop := fun b => ((b < w.heap.size ∧ some b ≠ r) ∨ w2.heap.size ≤ b) ∧ b < w3.heap.size
theorem nwb_d3 {r : Option Nat} {w w2 w3 : World} (_ : w.heap.size ≤ w2.heap.size) (_ : Fr none w2 w3) : ∀ b, Nwb w2 w3 b → D3 r w w2 w3 b ∧ w3.heap[b]? = w3.heap[b]? := fun b hb => ⟨⟨.inr hb.1, hb.2⟩, rfl⟩
theorem dw_d3 {r : Option Nat} {w w2 w3 : World} (h : w.heap.size ≤ w2.heap.size) (F : Fr none w2 w3) : ∀ b, Dw (fun b => b < w.heap.size ∧ some b ≠ r) w2 w3 b → D3 r w w2 w3 b ∧ w3.heap[b]? = w3.heap[b]? := fun b hb => by
  have := F.size
  rcases hb with h | h
  · exact ⟨⟨.inl h, by have := h.1; omega⟩, rfl⟩
  · exact ⟨⟨.inr h.1, h.2⟩, rfl⟩
theorem d3_dm {r : Option Nat} {w w2 w3 w4 : World} (hr : ∀ g, r = some g → g < w.heap.size) (h : w.heap.size + 1 < w2.heap.size) (G : Fr (some (w.heap.size + 1)) w3 w4) : ∀ b, D3 r w w2 w3 b → Dm w4 r b ∧ w4.heap[b]? = w3.heap[b]? := fun b hb => by
  have hz := G.size
  obtain ⟨h1, h2⟩ := hb
  refine ⟨⟨by omega, fun e => ?_⟩, G.block b h2 (by simp; omega)⟩
  have := hr b e.symm
  rcases h1 with h1 | h1
  · exact h1.2 e
  · omega
set_option maxRecDepth 100000 in
set_option maxHeartbeats 1000000 in
theorem normal_any (t : Tr) (v : Value) (w : World) (r : Option Nat) (hr : ∀ g, r = some g → g < w.heap.size) (h : TrR w r v t) (hs : t.size ≤ 1073741000) :
    Calls Tryz.prog 20 #[v] w fun e w' => ∃ v', e = .returned (.tuple #[v', .int .i64 (validE t)]) ∧ TrR w' r v' (nrmV t) ∧ Fr none w w' := by
  obtain ⟨th, A1, n1, c1, A2, n2, c2, rfl⟩ := TrD.shape h
  go_enter Tryz.func20, Tryz.ntmps20
  go_wp2_with fail
  generalize hW : (w.alloc _).alloc _ = w1
  have F1 : Fr none w w1 := hW ▸ ((Fr.refl none w).alloc _).alloc _
  have b1 : TB w1 w.heap.size (.int .i64 th) (.slice A1 n1 c1) (.slice A2 n2 c2) := by rw [← hW]; exact (Below.heap_alloc _ _ _ (by simp)).trans (blk_new _ _)
  have b2 : TB w1 (w.heap.size + 1) (.int .i64 0) (.slice none 0 0) (.slice none 0 0) := by rw [← hW]; exact blk_new_at (by simp) _
  clear hW
  have h1 := h.fr (F1.mono (r := r))
  refine (validT_any t _ _ r hs h1).mono ?_
  rintro e w2 ⟨rfl, F2⟩
  have b1 := b1.fr F2 (by simp)
  have b2 := b2.fr F2 (by simp)
  have F2 := F1.pure F2
  have h2 : TrD w2 (fun b => b < w.heap.size ∧ some b ≠ r) _ t := TrD.keep (fun k hk => ⟨hk, F2.block k hk.1 (by simp)⟩) _ _ h
  clear h h1 F1
  have R1 := b1.cell
  have R2 := b2.cell
  have Z2 := b2.free
  have hl2 : w.heap.size + 1 < w2.heap.size := blk_lt b2
  by_cases hv : validE t = 0
  · obtain ⟨hok, hsz, hdp⟩ := valid_facts hv
    have hv0 : (validE t != 0) = false := by rw [bne_eq_false_iff_eq]; exact hv
    have HN : Hid (nrmV t = normT t) := by unfold Hid nrmV; rw [if_pos hv]
    have HV := Lib.hid hv
    clear hv
    go_wp2_with fail
    refine (nnorm_any t.dep t _ (fun b => b < w.heap.size ∧ some b ≠ r) w2 (Nat.le_refl _) hok (by omega) (fun b hb => by have := hb.1; omega) h2).mono ?_
    rintro e w3 ⟨v3, rfl, hT3, F3⟩
    have hT3 := TrD.keep (nwb_d3 (w := w) (r := r) (by omega) F3) _ _ hT3
    obtain ⟨th3, X1, m1, k1, X2, m2, k2, rfl⟩ := TrD.shape hT3
    have b3 := b2.fr F3 (by simp)
    have R3 := b3.cell
    have Z3 := b3.free
    have hl3 : w.heap.size + 1 < w3.heap.size := blk_lt b3
    have hl2' := hl2
    have F3 := F2.pure F3
    clear R1 R2 Z2 b1 b2 hl2
    go_wp2_with fail
    refine bodyPost_ret (v := .tuple #[.agg #[.int .i64 th3, .slice X1 m1 k1, .slice X2 m2 k2], .int .i64 0]) (by simp [results, Tryz.results20, go_sem, R3]) rfl ?_
    have G := fr_fill3 w3 (w.heap.size + 1) (.int .i64 th3) (.slice X1 m1 k1) (.slice X2 m2 k2)
    exact ⟨_, by rw [HV.out], by rw [HN.out]; exact TrD.keep (d3_dm hr hl2' G) _ _ hT3, F3.own G (by simp)⟩
  · have hv0 : (validE t != 0) = true := by rw [bne_iff_ne]; exact hv
    have HN : Hid (nrmV t = .mk 0 [] []) := by unfold Hid nrmV; rw [if_neg hv]
    clear hv
    go_wp2_with fail
    refine bodyPost_ret (v := .tuple #[.agg #[.int .i64 0, .slice none 0 0, .slice none 0 0], .int .i64 (validE t)]) (by simp [results, Tryz.results20, go_sem, R2]) rfl ?_
    have G := fr_fill3 w2 (w.heap.size + 1) (.int .i64 0) (.slice none 0 0) (.slice none 0 0)
    exact ⟨_, rfl, by rw [HN.out]; exact TrD.mk_ (by constructor <;> omega) (SlD.nil _ _ _) (by simp) (SlD.nil _ _ _) (by simp) (by simp) (by simp [TrsD]), F2.own G (by simp)⟩
set_option maxRecDepth 100000 in
set_option maxHeartbeats 1000000 in
theorem rnormal_any (t : Tr) (v : Value) (w : World) (r : Option Nat) (hr : ∀ g, r = some g → g < w.heap.size) (h : TrR w r v t) (hs : t.size ≤ 1073741000) :
    Calls Tryz.prog 41 #[v] w fun e w' => ∃ v', e = .returned (.tuple #[v', .int .i64 (validE t)]) ∧ TrR w' r v' (nrmV t) ∧ Fr none w w' := by
  obtain ⟨th, A1, n1, c1, A2, n2, c2, rfl⟩ := TrD.shape h
  go_enter Tryz.func41, Tryz.ntmps41
  go_wp2_with fail
  generalize hW : (w.alloc _).alloc _ = w1
  have F1 : Fr none w w1 := hW ▸ ((Fr.refl none w).alloc _).alloc _
  have b1 : TB w1 w.heap.size (.int .i64 th) (.slice A1 n1 c1) (.slice A2 n2 c2) := by rw [← hW]; exact (Below.heap_alloc _ _ _ (by simp)).trans (blk_new _ _)
  have b2 : TB w1 (w.heap.size + 1) (.int .i64 0) (.slice none 0 0) (.slice none 0 0) := by rw [← hW]; exact blk_new_at (by simp) _
  clear hW
  have h1 := h.fr (F1.mono (r := r))
  refine (rvalidT_any t _ _ r hs h1).mono ?_
  rintro e w2 ⟨rfl, F2⟩
  have b1 := b1.fr F2 (by simp)
  have b2 := b2.fr F2 (by simp)
  have F2 := F1.pure F2
  have h2 : TrD w2 (fun b => b < w.heap.size ∧ some b ≠ r) _ t := TrD.keep (fun k hk => ⟨hk, F2.block k hk.1 (by simp)⟩) _ _ h
  clear h h1 F1
  have R1 := b1.cell
  have R2 := b2.cell
  have Z2 := b2.free
  have hl2 : w.heap.size + 1 < w2.heap.size := blk_lt b2
  by_cases hv : validE t = 0
  · obtain ⟨hok, hsz, hdp⟩ := valid_facts hv
    have hv0 : (validE t != 0) = false := by rw [bne_eq_false_iff_eq]; exact hv
    have HN : Hid (nrmV t = normT t) := by unfold Hid nrmV; rw [if_pos hv]
    have HV := Lib.hid hv
    clear hv
    go_wp2_with fail
    refine (rnorm_any t.dep t _ (fun b => b < w.heap.size ∧ some b ≠ r) w2 (Nat.le_refl _) hok (by omega) (fun b hb => by have := hb.1; omega) h2).mono ?_
    rintro e w3 ⟨v3, rfl, hT3, F3⟩
    have hT3 := TrD.keep (dw_d3 (w := w) (r := r) (by omega) F3) _ _ hT3
    obtain ⟨th3, X1, m1, k1, X2, m2, k2, rfl⟩ := TrD.shape hT3
    have b3 := b2.fr F3 (by simp)
    have R3 := b3.cell
    have Z3 := b3.free
    have hl3 : w.heap.size + 1 < w3.heap.size := blk_lt b3
    have hl2' := hl2
    have F3 := F2.pure F3
    clear R1 R2 Z2 b1 b2 hl2
    go_wp2_with fail
    refine bodyPost_ret (v := .tuple #[.agg #[.int .i64 th3, .slice X1 m1 k1, .slice X2 m2 k2], .int .i64 0]) (by simp [results, Tryz.results41, go_sem, R3]) rfl ?_
    have G := fr_fill3 w3 (w.heap.size + 1) (.int .i64 th3) (.slice X1 m1 k1) (.slice X2 m2 k2)
    exact ⟨_, by rw [HV.out], by rw [HN.out]; exact TrD.keep (d3_dm hr hl2' G) _ _ hT3, F3.own G (by simp)⟩
  · have hv0 : (validE t != 0) = true := by rw [bne_iff_ne]; exact hv
    have HN : Hid (nrmV t = .mk 0 [] []) := by unfold Hid nrmV; rw [if_neg hv]
    clear hv
    go_wp2_with fail
    refine bodyPost_ret (v := .tuple #[.agg #[.int .i64 0, .slice none 0 0, .slice none 0 0], .int .i64 (validE t)]) (by simp [results, Tryz.results41, go_sem, R2]) rfl ?_
    have G := fr_fill3 w2 (w.heap.size + 1) (.int .i64 0) (.slice none 0 0) (.slice none 0 0)
    exact ⟨_, rfl, by rw [HN.out]; exact TrD.mk_ (by constructor <;> omega) (SlD.nil _ _ _) (by simp) (SlD.nil _ _ _) (by simp) (by simp) (by simp [TrsD]), F2.own G (by simp)⟩
set_option maxRecDepth 100000 in
set_option maxHeartbeats 1000000 in
theorem nis_any (t : Tr) (v : Value) (w : World) (h : TrR w none v t) (hs : t.size ≤ 1073741000) :
    Calls Tryz.prog 42 #[v] w fun e w' => e = .returned (.bool (isN t)) ∧ Fr none w w' := by
  obtain ⟨th, A1, n1, c1, A2, n2, c2, rfl⟩ := TrD.shape h
  go_enter Tryz.func42, Tryz.ntmps42
  go_wp2_with fail
  generalize hW : w.alloc _ = w1
  have F1 : Fr none w w1 := hW ▸ (Fr.refl none w).alloc _
  have b1 : TB w1 w.heap.size (.int .i64 th) (.slice A1 n1 c1) (.slice A2 n2 c2) := by rw [← hW]; exact blk_new _ _
  clear hW
  have h1 := h.fr F1
  refine (normal_any t _ _ none (by simp) h1 hs).mono ?_
  rintro e w2 ⟨v2, rfl, hT2, F2⟩
  obtain ⟨th2, X1, m1, k1, X2, m2, k2, rfl⟩ := TrD.shape hT2
  have FA := (Fr.refl none w2).alloc (.cells #[.int .i64 th2, .slice X1 m1 k1, .slice X2 m2 k2] 31)
  have bw := b1.fr F2 (by simp)
  have h2 := (h1.fr F2).fr FA
  have hT3 := hT2.fr FA
  have F2 := F1.pure F2
  have R1 := bw.cell
  have hlw := blk_lt bw
  clear h h1 F1 b1 hT2
  by_cases hv : validE t = 0
  · have hv0 : (validE t == 0) = true := by rw [beq_iff_eq]; exact hv
    have HI : Hid (isN t = sameT (nrmV t) t) := by unfold Hid isN; rw [hv0]; rfl
    clear hv
    go_wp2_with (go_at_call 104; refine (tsame_any _ _ _ _ _ _ none (Nat.le_refl _) hT3 h2).mono ?_; rintro e w3 ⟨rfl, F3⟩)
    go_ret
    exact ⟨ret_bool HI.out.symm, (F2.pure FA).pure F3⟩
  · have hv0 : (validE t == 0) = false := by rw [beq_eq_false_iff_ne]; exact hv
    have HI : Hid (isN t = false) := by unfold Hid isN; rw [hv0]; rfl
    clear hv
    go_wp2_with fail
    go_ret
    exact ⟨ret_bool HI.out.symm, F2.pure FA⟩
set_option maxRecDepth 100000 in
set_option maxHeartbeats 1000000 in
theorem ris_any (t : Tr) (v : Value) (w : World) (h : TrR w none v t) (hs : t.size ≤ 1073741000) :
    Calls Tryz.prog 43 #[v] w fun e w' => e = .returned (.bool (isN t)) ∧ Fr none w w' := by
  obtain ⟨th, A1, n1, c1, A2, n2, c2, rfl⟩ := TrD.shape h
  go_enter Tryz.func43, Tryz.ntmps43
  go_wp2_with fail
  generalize hW : w.alloc _ = w1
  have F1 : Fr none w w1 := hW ▸ (Fr.refl none w).alloc _
  have b1 : TB w1 w.heap.size (.int .i64 th) (.slice A1 n1 c1) (.slice A2 n2 c2) := by rw [← hW]; exact blk_new _ _
  clear hW
  have h1 := h.fr F1
  refine (rnormal_any t _ _ none (by simp) h1 hs).mono ?_
  rintro e w2 ⟨v2, rfl, hT2, F2⟩
  obtain ⟨th2, X1, m1, k1, X2, m2, k2, rfl⟩ := TrD.shape hT2
  have FA := (Fr.refl none w2).alloc (.cells #[.int .i64 th2, .slice X1 m1 k1, .slice X2 m2 k2] 31)
  have bw := b1.fr F2 (by simp)
  have h2 := (h1.fr F2).fr FA
  have hT3 := hT2.fr FA
  have F2 := F1.pure F2
  have R1 := bw.cell
  have hlw := blk_lt bw
  clear h h1 F1 b1 hT2
  by_cases hv : validE t = 0
  · have hv0 : (validE t == 0) = true := by rw [beq_iff_eq]; exact hv
    have HI : Hid (isN t = sameT (nrmV t) t) := by unfold Hid isN; rw [hv0]; rfl
    clear hv
    go_wp2_with (go_at_call 27; refine (rsame_any _ _ _ _ _ _ none (Nat.le_refl _) hT3 h2).mono ?_; rintro e w3 ⟨rfl, F3⟩)
    go_ret
    exact ⟨ret_bool HI.out.symm, (F2.pure FA).pure F3⟩
  · have hv0 : (validE t == 0) = false := by rw [beq_eq_false_iff_ne]; exact hv
    have HI : Hid (isN t = false) := by unfold Hid isN; rw [hv0]; rfl
    clear hv
    go_wp2_with fail
    go_ret
    exact ⟨ret_bool HI.out.symm, F2.pure FA⟩
end Go.Proofs.YtpdhckbiioobhaaGreatDoor

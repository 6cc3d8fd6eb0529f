/- Some texts of this claim, joined: contracts of the functions that it reaches, and plain laws. -/
import Derived.Test.YtpdhckbiioobhaaGreatDoorJG11

set_option linter.unusedSimpArgs false
set_option linter.unusedVariables false
/- Walks: the reference's normal form. -/
namespace Go.Proofs.YtpdhckbiioobhaaGreatDoor
open Go.RowKit

set_option maxRecDepth 100000 in
set_option maxHeartbeats 4000000 in
theorem rnorm_any (d : Nat) : ∀ (t : Tr) (v : Value) (D : Nat → Prop) (w : World), t.dep ≤ d → OkT t → t.size ≤ 900000 → (∀ b, D b → b < w.heap.size) → TrD w D v t →
    Calls Tryz.prog 103 #[v] w fun e w' => ∃ v', e = .returned v' ∧ TrD w' (Dw D w w') v' (normT t) ∧ Fr none w w' := by
  induction d with
  | zero =>
    intro t v D w hd
    cases t
    simp [Tr.dep] at hd
  | succ d ih =>
    intro t v D w hd hok hsz hD ht
    obtain ⟨thr, nodes, inner⟩ := t
    have hdi : depL inner ≤ d := by simp only [Tr.dep] at hd; omega
    rw [size_mk] at hsz
    rw [okT_mk] at hok
    have hin : ∀ x ∈ inner, x.dep ≤ d ∧ OkT x := fun x hx => ⟨(depL_le inner d).1 hdi x hx, hok.2.2.2.2 x hx⟩
    have HIN := Lib.hid hin
    have HNT : Hid (normT (.mk thr nodes inner) = finT (ordT (mrgT thr ((normL inner).foldl liftS (nodes, []))))) := by unfold Hid; simp only [normT]
    simp only [TrD] at ht
    obtain ⟨vn, vi, cells, rfl, h0, h1, h2, h3, h4, h5, h6⟩ := ht
    obtain ⟨A, n, c, rfl, hl, hnc, hm, hx⟩ := id h1
    obtain ⟨A', n', c', rfl, hl', hnc', hm', hx'⟩ := id h3
    have hlen := h6.len
    obtain rfl : n' = inner.length := by omega
    obtain rfl : n = nodes.length := by simpa using hl.symm
    unfold Few at h4 h5
    unfold maxLen at hm hm'
    have HD := Lib.hid hD
    clear hl hl' hlen hD hx hd hdi hin hok
    go_enter Tryz.func103, Tryz.ntmps103
    go_upto_region 1 with (fail)
    generalize hW : (w.alloc _).alloc _ = w1
    have hz1 : w.heap.size + 2 ≤ w1.heap.size := by rw [← hW]; simp
    have F1 : Fr none w w1 := hW ▸ ((Fr.refl none w).alloc _).alloc _
    have b2 : TB w1 w.heap.size (.int .i64 thr) (.slice A nodes.length c) (.slice A' inner.length c') := by rw [← hW]; exact (Below.heap_alloc _ _ _ (by simp)).trans (blk_new _ _)
    have b4 : TB w1 (w.heap.size + 1) (.int .i64 0) (.slice none 0 0) (.slice none 0 0) := by rw [← hW]; exact blk_new_at (by simp) _
    clear hW
    have hs1 : SlD w1 (fun b => b < w1.heap.size) 1 (.slice A nodes.length c) (nodes.map (Value.int .i64)) := h1.keep (fun q hq => ⟨by have := HD.out q hq; omega, F1.block q (HD.out q hq) (by simp)⟩)
    have h1c : ∀ u ∈ nodes.map (Value.int .i64), u.oneCell' = true := fun u hu => by
      obtain ⟨x, _, rfl⟩ := List.mem_map.1 hu
      simp [Value.oneCell']
    have H1C := Lib.hid h1c
    clear h1c
    go_cut [3, 7, 8, 9, 10, 11, 12, 13] (fun s3 _ _ _ _ _ _ _ wr => OutI w1 thr nodes s3 wr)
    case first =>
      refine wp_region_held_drew (S := fun W => (∀ i, W.cell? ⟨w.heap.size, i, none⟩ = (#[.int .i64 thr, .slice A nodes.length c, .slice A' inner.length c'] : Array Value)[i]?) ∧ Fr none w1 W) (by kernel_rfl) ⟨b2.cell, (Fr.refl _ _).drew⟩ (fun hH0 => ?_)
      have Fd : Fr none w1 w1.drew := (Fr.refl _ _).drew
      have Kd : TB w1.drew w.heap.size (.int .i64 thr) (.slice A nodes.length c) (.slice A' inner.length c') := b2
      have hsd : SlD w1.drew (fun b => b < w1.heap.size) 1 (.slice A nodes.length c) (nodes.map (Value.int .i64)) := hs1.keep (w := w1) (w' := w1.drew) (fun q (hq : q < w1.heap.size) => ⟨hq, (rfl : w1.drew.heap[q]? = w1.heap[q]?)⟩)
      have hzd1 : w1.heap.size ≤ w1.drew.heap.size := Nat.le_refl w1.heap.size
      have hzd2 : w1.drew.heap.size ≤ w1.heap.size := Nat.le_refl w1.heap.size
      generalize w1.drew = wd at *
      refine wpAnyH_take (i := 0) (v := ?_) rfl (by kernel_rfl) (by kernel_rfl) (by kernel_rfl) (fun _ _ _ h => h) (Or.inl ⟨by rfl, ?_⟩) (by assumption) ?_
      rotate_left
      · (intro W hW; (try dsimp only at hW); go_simp; try with_reducible rfl)
      try simp only [Act.put, List.setIfInBounds_toArray, List.set_cons_zero, List.set_cons_succ, List.getElem_toArray, List.getElem_cons_zero, List.getElem_cons_succ]
      refine wpAnyH_take (i := 1) (v := ?_) rfl (by kernel_rfl) (by kernel_rfl) (by kernel_rfl) (fun _ _ _ h => h) (Or.inl ⟨by rfl, ?_⟩) (by assumption) ?_
      rotate_left
      · (intro W hW; (try dsimp only at hW); go_simp; try with_reducible rfl)
      try simp only [Act.put, List.setIfInBounds_toArray, List.set_cons_zero, List.set_cons_succ, List.getElem_toArray, List.getElem_cons_zero, List.getElem_cons_succ]
      refine wpAnyH_take (i := 3) (v := ?_) rfl (by kernel_rfl) (by kernel_rfl) (by kernel_rfl) (fun _ _ _ h => h) (Or.inl ⟨by rfl, ?_⟩) (by assumption) ?_
      rotate_left
      · (intro W hW; (try dsimp only at hW); go_simp; try with_reducible rfl)
      try simp only [Act.put, List.setIfInBounds_toArray, List.set_cons_zero, List.set_cons_succ, List.getElem_toArray, List.getElem_cons_zero, List.getElem_cons_succ]
      refine wpAnyH_take (i := 4) (v := ?_) rfl (by kernel_rfl) (by kernel_rfl) (by kernel_rfl) (fun _ _ _ h => h) (Or.inl ⟨by rfl, ?_⟩) (by assumption) ?_
      rotate_left
      · (intro W hW; (try dsimp only at hW); go_simp; try with_reducible rfl)
      try simp only [Act.put, List.setIfInBounds_toArray, List.set_cons_zero, List.set_cons_succ, List.getElem_toArray, List.getElem_cons_zero, List.getElem_cons_succ]
      refine wpAnyH_ready (rs := [2, 7]) (by kernel_rfl) (by simp) ?_
      refine AllReadyH.cons rfl (fun K hK => ?_) (AllReadyH.cons rfl (fun K hK => ?_) AllReadyH.nil)
      · -- the empty row first
        simp only [List.getElem_toArray, List.getElem_cons_zero, List.getElem_cons_succ]
        go_simp
        have FL := (Fr.refl none wd).alloc (.cells #[] 3)
        refine hK.out _ _ ⟨(Kd.fr FL (by simp)).cell, Fd.pure FL⟩ (fun hH1 => ?_)
        clear hK K hH0
        try simp only [Act.put, List.setIfInBounds_toArray, List.set_cons_zero, List.set_cons_succ, List.getElem_toArray, List.getElem_cons_zero, List.getElem_cons_succ]
        refine wpAnyH_ready (rs := [5, 7]) (by kernel_rfl) (by simp) ?_
        refine AllReadyH.cons rfl (fun K hK => ?_) (AllReadyH.cons rfl (fun K hK => ?_) AllReadyH.nil)
        · simp only [List.getElem_toArray, List.getElem_cons_zero, List.getElem_cons_succ]
          refine step_tm rfl ?_
          refine step_app_copy eiInt rfl _ _ rfl wd.heap.size rfl (blk_new wd _) A nodes.length c _ rfl (hsd.keep (fun q hq => ⟨trivial, FL.block q (by omega) (by simp)⟩)) H1C.out (by omega) (by unfold maxLen; omega) ?_
          intro A5 c5 w5 own5 F5 nb5
          have F6 : Fr none wd w5 := FL.own F5 (by simp)
          have F7 := Fd.pure F6
          refine hK.out _ _ ⟨(Kd.fr F6 (by simp)).cell, F7⟩ (fun hH2 => ?_)
          clear hK K hH1
          try simp only [Act.put, List.setIfInBounds_toArray, List.set_cons_zero, List.set_cons_succ, List.getElem_toArray, List.getElem_cons_zero, List.getElem_cons_succ]
          refine wpAnyH_take (i := 6) (v := ?_) rfl (by kernel_rfl) (by kernel_rfl) (by kernel_rfl) (fun _ _ _ h => h) (Or.inl ⟨by rfl, ?_⟩) (by assumption) ?_
          rotate_left
          · (intro W hW; (try dsimp only at hW); go_simp; try with_reducible rfl)
          try simp only [Act.put, List.setIfInBounds_toArray, List.set_cons_zero, List.set_cons_succ, List.getElem_toArray, List.getElem_cons_zero, List.getElem_cons_succ]
          refine wpAnyH_ready (rs := [7]) (by kernel_rfl) (by simp) ?_
          refine AllReadyH.cons rfl (fun K hK => ?_) AllReadyH.nil
          simp only [List.getElem_toArray, List.getElem_cons_zero, List.getElem_cons_succ]
          go_simp
          have FA := F7.alloc (.cells #[.int .i64 0, .slice none 0 0, .slice none 0 0] 31)
          refine hK.out _ _ ⟨(b2.fr FA (by simp)).cell, FA⟩ (fun hH3 => ?_)
          clear hK K hH2
          try simp only [Act.put, List.setIfInBounds_toArray, List.set_cons_zero, List.set_cons_succ, List.getElem_toArray, List.getElem_cons_zero, List.getElem_cons_succ]
          refine wpAnyH_ready (rs := [8]) (by kernel_rfl) (by simp) ?_
          refine AllReadyH.cons rfl (fun K hK => ?_) AllReadyH.nil
          simp only [List.getElem_toArray, List.getElem_cons_zero, List.getElem_cons_succ]
          go_simp
          have FB := F7.alloc (.cells #[.int .i64 thr, .slice A5 nodes.length c5, .slice none 0 0] 31)
          refine hK.out _ _ ⟨(b2.fr FB (by simp)).cell, FB⟩ (fun hH4 => ?_)
          clear hK K hH3
          try simp only [Act.put, List.setIfInBounds_toArray, List.set_cons_zero, List.set_cons_succ, List.getElem_toArray, List.getElem_cons_zero, List.getElem_cons_succ]
          refine wpAnyH_done (by kernel_rfl) ?_ _
          go_wp2_with fail
          go_meet
          exact ⟨w5.heap.size, A5, c5, rfl, FB, F7.size, blk_new _ _, own_base (own5.alloc _) (by omega), fun h => by have := (own5.lt _ h).2; omega⟩
        · simp only [List.getElem_toArray, List.getElem_cons_zero, List.getElem_cons_succ]
          go_simp
          have FA := FL.alloc (.cells #[.int .i64 0, .slice none 0 0, .slice none 0 0] 31)
          refine hK.out _ _ ⟨(Kd.fr FA (by simp)).cell, Fd.pure FA⟩ (fun hH2 => ?_)
          clear hK K hH1
          try simp only [Act.put, List.setIfInBounds_toArray, List.set_cons_zero, List.set_cons_succ, List.getElem_toArray, List.getElem_cons_zero, List.getElem_cons_succ]
          refine wpAnyH_ready (rs := [5]) (by kernel_rfl) (by simp) ?_
          refine AllReadyH.cons rfl (fun K hK => ?_) AllReadyH.nil
          simp only [List.getElem_toArray, List.getElem_cons_zero, List.getElem_cons_succ]
          refine step_tm rfl ?_
          refine step_app_copy eiInt rfl _ _ rfl wd.heap.size rfl ((Below.heap_alloc _ _ _ (by simp)).trans (blk_new wd _)) A nodes.length c _ rfl (hsd.keep (fun q hq => ⟨trivial, FA.block q (by omega) (by simp)⟩)) H1C.out (by omega) (by unfold maxLen; omega) ?_
          intro A5 c5 w5 own5 F5 nb5
          have F6 : Fr none wd w5 := FA.own F5 (by simp)
          have F7 := Fd.pure F6
          have hb0 : TB w5 (wd.heap.size + 1) (.int .i64 0) (.slice none 0 0) (.slice none 0 0) := blk_fr (blk_new_at (by simp) _) F5 (by simp)
          have hne : (Value.slice A5 nodes.length c5).ownBlock ≠ some (wd.heap.size + 1) := fun h => by
            rcases nb5 with e | ⟨g, e, hg⟩
            · rw [e] at h; simp [Value.ownBlock] at h
            · rw [e] at h; injection h with h; simp at hg; omega
          refine hK.out _ _ ⟨(Kd.fr F6 (by simp)).cell, F7⟩ (fun hH3 => ?_)
          clear hK K hH2
          try simp only [Act.put, List.setIfInBounds_toArray, List.set_cons_zero, List.set_cons_succ, List.getElem_toArray, List.getElem_cons_zero, List.getElem_cons_succ]
          refine wpAnyH_take (i := 6) (v := ?_) rfl (by kernel_rfl) (by kernel_rfl) (by kernel_rfl) (fun _ _ _ h => h) (Or.inl ⟨by rfl, ?_⟩) (by assumption) ?_
          rotate_left
          · (intro W hW; (try dsimp only at hW); go_simp; try with_reducible rfl)
          try simp only [Act.put, List.setIfInBounds_toArray, List.set_cons_zero, List.set_cons_succ, List.getElem_toArray, List.getElem_cons_zero, List.getElem_cons_succ]
          have Rz := hb0.cell
          have Zz := hb0.free
          refine wpAnyH_ready (rs := [8]) (by kernel_rfl) (by simp) ?_
          refine AllReadyH.cons rfl (fun K hK => ?_) AllReadyH.nil
          simp only [List.getElem_toArray, List.getElem_cons_zero, List.getElem_cons_succ]
          go_simp
          have G := fr_fill3 w5 (wd.heap.size + 1) (.int .i64 thr) (.slice A5 nodes.length c5) (.slice none 0 0)
          have hbf := tb_fill3 hb0 (.int .i64 thr) (.slice A5 nodes.length c5) (.slice none 0 0)
          have FB := F7.own G (by simp; omega)
          refine hK.out _ _ ⟨(b2.fr FB (by simp)).cell, FB⟩ (fun hH4 => ?_)
          clear hK K hH3 Rz Zz
          try simp only [Act.put, List.setIfInBounds_toArray, List.set_cons_zero, List.set_cons_succ, List.getElem_toArray, List.getElem_cons_zero, List.getElem_cons_succ]
          refine wpAnyH_done (by kernel_rfl) ?_ _
          go_wp2_with fail
          go_meet
          exact ⟨wd.heap.size + 1, A5, c5, rfl, FB, by omega, hbf, own_base (own_ne_fr own5 G (by simpa using hne)) (by omega), hne⟩
      · simp only [List.getElem_toArray, List.getElem_cons_zero, List.getElem_cons_succ]
        go_simp
        have FA := (Fr.refl none wd).alloc (.cells #[.int .i64 0, .slice none 0 0, .slice none 0 0] 31)
        refine hK.out _ _ ⟨(Kd.fr FA (by simp)).cell, Fd.pure FA⟩ (fun hH1 => ?_)
        clear hK K hH0
        try simp only [Act.put, List.setIfInBounds_toArray, List.set_cons_zero, List.set_cons_succ, List.getElem_toArray, List.getElem_cons_zero, List.getElem_cons_succ]
        refine wpAnyH_ready (rs := [2]) (by kernel_rfl) (by simp) ?_
        refine AllReadyH.cons rfl (fun K hK => ?_) AllReadyH.nil
        simp only [List.getElem_toArray, List.getElem_cons_zero, List.getElem_cons_succ]
        go_simp
        have FL := FA.alloc (.cells #[] 3)
        refine hK.out _ _ ⟨(Kd.fr FL (by simp)).cell, Fd.pure FL⟩ (fun hH2 => ?_)
        clear hK K hH1
        try simp only [Act.put, List.setIfInBounds_toArray, List.set_cons_zero, List.set_cons_succ, List.getElem_toArray, List.getElem_cons_zero, List.getElem_cons_succ]
        refine wpAnyH_ready (rs := [5]) (by kernel_rfl) (by simp) ?_
        refine AllReadyH.cons rfl (fun K hK => ?_) AllReadyH.nil
        simp only [List.getElem_toArray, List.getElem_cons_zero, List.getElem_cons_succ]
        refine step_tm rfl ?_
        refine step_app_copy eiInt rfl _ _ rfl (wd.heap.size + 1) rfl (blk_new_at (by simp) _) A nodes.length c _ rfl (hsd.keep (fun q hq => ⟨trivial, FL.block q (by omega) (by simp)⟩)) H1C.out (by omega) (by unfold maxLen; omega) ?_
        intro A5 c5 w5 own5 F5 nb5
        have F6 : Fr none wd w5 := FL.own F5 (fun q h => by injection h with h; omega)
        have F7 := Fd.pure F6
        have hb0 : TB w5 wd.heap.size (.int .i64 0) (.slice none 0 0) (.slice none 0 0) := blk_fr ((Below.heap_alloc _ _ _ (by simp)).trans (blk_new wd _)) F5 (by simp)
        have hne : (Value.slice A5 nodes.length c5).ownBlock ≠ some wd.heap.size := fun h => by
          rcases nb5 with e | ⟨g, e, hg⟩
          · rw [e] at h; simp [Value.ownBlock] at h
          · rw [e] at h; injection h with h; simp at hg; omega
        refine hK.out _ _ ⟨(Kd.fr F6 (by simp)).cell, F7⟩ (fun hH3 => ?_)
        clear hK K hH2
        try simp only [Act.put, List.setIfInBounds_toArray, List.set_cons_zero, List.set_cons_succ, List.getElem_toArray, List.getElem_cons_zero, List.getElem_cons_succ]
        refine wpAnyH_take (i := 6) (v := ?_) rfl (by kernel_rfl) (by kernel_rfl) (by kernel_rfl) (fun _ _ _ h => h) (Or.inl ⟨by rfl, ?_⟩) (by assumption) ?_
        rotate_left
        · (intro W hW; (try dsimp only at hW); go_simp; try with_reducible rfl)
        try simp only [Act.put, List.setIfInBounds_toArray, List.set_cons_zero, List.set_cons_succ, List.getElem_toArray, List.getElem_cons_zero, List.getElem_cons_succ]
        have Rz := hb0.cell
        have Zz := hb0.free
        refine wpAnyH_ready (rs := [8]) (by kernel_rfl) (by simp) ?_
        refine AllReadyH.cons rfl (fun K hK => ?_) AllReadyH.nil
        simp only [List.getElem_toArray, List.getElem_cons_zero, List.getElem_cons_succ]
        go_simp
        have G := fr_fill3 w5 wd.heap.size (.int .i64 thr) (.slice A5 nodes.length c5) (.slice none 0 0)
        have hbf := tb_fill3 hb0 (.int .i64 thr) (.slice A5 nodes.length c5) (.slice none 0 0)
        have FB := F7.own G (by simp; omega)
        refine hK.out _ _ ⟨(b2.fr FB (by simp)).cell, FB⟩ (fun hH4 => ?_)
        clear hK K hH3 Rz Zz
        try simp only [Act.put, List.setIfInBounds_toArray, List.set_cons_zero, List.set_cons_succ, List.getElem_toArray, List.getElem_cons_zero, List.getElem_cons_succ]
        refine wpAnyH_done (by kernel_rfl) ?_ _
        go_wp2_with fail
        go_meet
        exact ⟨wd.heap.size, A5, c5, rfl, FB, by omega, hbf, own_base (own_ne_fr own5 G (by simpa using hne)) (by omega), hne⟩
    case rest =>
      obtain ⟨B, A5, c5, rfl, F, hB, bB, own, hne⟩ := hcut
      have hD1 : ∀ b, D b → b < w1.heap.size := fun b hb => by have := HD.out b hb; omega
      have HD1 := Lib.hid hD1
      have hM0 : NrmI D w1 thr B nodes [] A5 c5 none 0 [] wc := ⟨F, hB, bB, own, hne, h2, World.ownsRow_nil _ _ _ _, by simp [Value.ownBlock], fun _ _ => by simp [Value.ownBlock], by simp [TrsD]⟩
      have b2c := b2.fr F (by simp)
      have R2 := b2c.cell
      clear hD1 bB own hne hs1 H1C h1 F
      obtain ⟨wo, hwo⟩ : ∃ wo : World, wo = wc := ⟨_, rfl⟩
      subst hwo
      go_wp2_with fail
      go_loopw [17, 5, 6] (fun s17 s5 s6 wr => ∃ (j : Nat) (n : List Int) (i : List Tr) (A5 : Option Addr) (c5 : Nat) (A6 : Option Addr) (c6 : Nat) (cs : List Value), s17 = .int .i64 (j : Int) ∧ j ≤ inner.length ∧ NrmI D w1 thr B n i A5 c5 A6 c6 cs wr ∧
        Hid ((normL inner).foldl liftS (nodes, []) = (normL (inner.drop j)).foldl liftS (n, i)) ∧ n.length + wgt i + wgt (inner.drop j) ≤ 900000) (fun s17 _ _ _ => inner.length - (intOf s17).toNat)
      case atStart => exact ⟨0, nodes, [], A5, c5, none, 0, [], rfl, Nat.zero_le _, hM0, by simp [Hid], by simp [wgt, sizeL] at hsz ⊢; omega⟩
      case round =>
        clear hM0 R2
        obtain ⟨j, n, i, A5, c5, A6, c6, cs, rfl, hj, hM, HJ, hbd⟩ := hrel
        have Fwr := F1.pure hM.fr
        by_cases hlt : j < inner.length
        · have hdj : inner.drop j = inner[j] :: inner.drop (j + 1) := List.drop_eq_getElem_cons hlt
          obtain ⟨b, off, rfl, hb, hcc⟩ := hx' (by omega)
          obtain ⟨x0, y0, z0, e0, e1, e2, hy0⟩ := h6.get j hlt
          obtain ⟨hyd, hyo⟩ := HIN.out inner[j] (List.getElem_mem _)
          rw [hdj] at HJ hbd
          rw [wgt_cons] at hbd
          generalize inner[j] = x at *
          have hrl := norm_rel x hyo
          have hns := hrl.2.2.1
          have HNL : Hid (normL (x :: inner.drop (j + 1)) = normT x :: normL (inner.drop (j + 1))) := by unfold Hid; simp only [normL]
          obtain ⟨ty, B1, m1, d1, B2, m2, d2, hsh⟩ := hy0.shape
          simp only [Value.agg.injEq, Array.mk.injEq, List.cons.injEq, and_true] at hsh
          obtain ⟨rfl, rfl, rfl⟩ := hsh
          have g0 := Fwr.keep (hcc _ _ e0) (by simp)
          have g1 := Fwr.keep (hcc _ _ e1) (by simp)
          have g2 := Fwr.keep (hcc _ _ e2) (by simp)
          rw [← Nat.add_assoc] at g1 g2
          clear e0 e1 e2 hcc hdj hrl
          go_wp2_with fail
          generalize hW : wr.alloc _ = wa
          have Fa : Fr none wr wa := hW ▸ (Fr.refl none wr).alloc _
          clear hW g0 g1 g2
          have hMa := hM.pure HD1.out Fa
          have Fwa := Fwr.pure Fa
          refine (ih x _ D _ hyd hyo (by omega) (fun b hb => by have := HD.out b hb; have := Fwa.size; omega) (TrD.keep (fun q hq => ⟨hq, Fwa.block q (HD.out q hq) (by simp)⟩) _ _ hy0)).mono ?_
          rintro e w3 ⟨v3, rfl, hT0, F3⟩
          have hM3 := hMa.pure HD1.out F3
          have hT3 := hMa.dw hT0
          clear hT0
          obtain ⟨tx, X1, m1, k1, X2, m2, k2, rfl⟩ := hT3.shape
          go_upto_region 6 with (fail)
          generalize hW : w3.alloc _ = wx
          have Fx : Fr none w3 wx := hW ▸ (Fr.refl none w3).alloc _
          have bx : TB wx w3.heap.size (.int .i64 tx) (.slice X1 m1 k1) (.slice X2 m2 k2) := by rw [← hW]; exact blk_new _ _
          clear hW
          have hMx := hM3.pure HD1.out Fx
          have hTx := TrD.keep (dn2_pure (v := .slice A5 n.length c5) (v' := .slice A6 i.length c6) (B := B) HD1.out hM3.fr Fx) _ _ hT3
          have hB3 : B < w3.heap.size := blk_lt hM3.tb
          have ol5 := hM3.own5.lt
          have ol6 := hM3.own6.lt
          clear hM hMa hM3 hT3 hyo hyd hy0
          generalize normT x = X at *
          obtain ⟨tX, nX, iX⟩ := X
          rw [size_mk] at hns
          have hTY := hTx
          simp only [TrD] at hTx
          obtain ⟨vnx, vix, cx, hsh, k0, q1, q2, q3, q4, q5, q6⟩ := hTx
          simp only [Value.agg.injEq, Array.mk.injEq, List.cons.injEq, and_true] at hsh
          obtain ⟨hsh0, hsh1, hsh2⟩ := hsh
          injection hsh0 with _ hsh0
          subst hsh0 hsh1 hsh2
          obtain ⟨Y1, nn, d1, e1, l1, l2, l3, l4⟩ := id q1
          injection e1 with a1 a2 a3
          subst a1 a2 a3
          obtain ⟨Y2, mm, d2, e2, r1, r2, r3, r4⟩ := id q3
          injection e2 with a1 a2 a3
          subst a1 a2 a3
          have hlen := q6.len
          obtain rfl : m2 = iX.length := by omega
          obtain rfl : m1 = nX.length := by simpa using l1.symm
          unfold Few at q4 q5
          unfold maxLen at l3 r3
          have bB := hMx.tb
          have hlx := blk_lt bx
          have hBx : B < wx.heap.size := blk_lt bB
          clear r1 hlen r4 l1
          obtain ⟨T, hT⟩ : ∃ T, T = lft n (.mk tx nX iX) := ⟨_, rfl⟩
          go_cut [42] (fun s42 wq => ∃ U, s42 = .bool U ∧ U = T ∧ Fr none wx wq)
          case first =>
            by_cases hn1 : nX.length = 1
            · obtain ⟨y, rfl⟩ := List.length_eq_one_iff.1 hn1
              obtain ⟨bb, oo, rfl, hbb, hcy⟩ := l4 (by simp)
              have hcy0 := hcy 0 _ (by rfl)
              by_cases hi0 : iX.length = 0
              · obtain rfl : iX = [] := List.eq_nil_of_length_eq_zero hi0
                obtain ⟨hv, hhv⟩ : ∃ hv, hv = n.any (fun x => decide (x = y)) := ⟨_, rfl⟩
                have hT2 : T = !hv := by rw [hT, hhv]; rfl
                have HHV := Lib.hid hhv
                have HT2 := Lib.hid hT2
                clear hhv hT hT2
                refine wp_region_held_drew (S := fun W => (∀ i, W.cell? ⟨w3.heap.size, i, none⟩ = (#[.int .i64 tx, .slice (some ⟨bb, oo, none⟩) 1 k1, .slice X2 0 k2] : Array Value)[i]?) ∧ (∀ k, W.cell? ⟨B, k, none⟩ = (#[.int .i64 thr, .slice A5 n.length c5, .slice A6 i.length c6] : Array Value)[k]?) ∧ W.cell? ⟨bb, oo, none⟩ = some (.int .i64 y) ∧ Fr none wx W) (by kernel_rfl) ⟨bx.cell, bB.cell, hcy0, (Fr.refl _ _).drew⟩ (fun hH0 => ?_)
                refine wpAnyH_take (i := 0) (v := ?_) rfl (by kernel_rfl) (by kernel_rfl) (by kernel_rfl) (fun _ _ _ h => h) (Or.inl ⟨by rfl, ?_⟩) (by assumption) ?_
                rotate_left
                · (intro W hW; (try dsimp only at hW); go_simp; try with_reducible rfl)
                try simp only [Act.put, List.setIfInBounds_toArray, List.set_cons_zero, List.set_cons_succ, List.getElem_toArray, List.getElem_cons_zero, List.getElem_cons_succ]
                refine wpAnyH_take (i := 1) (v := ?_) rfl (by kernel_rfl) (by kernel_rfl) (by kernel_rfl) (fun _ _ _ h => h) (Or.inl ⟨by rfl, ?_⟩) (by assumption) ?_
                rotate_left
                · (intro W hW; (try dsimp only at hW); go_simp; try with_reducible rfl)
                try simp only [Act.put, List.setIfInBounds_toArray, List.set_cons_zero, List.set_cons_succ, List.getElem_toArray, List.getElem_cons_zero, List.getElem_cons_succ]
                refine wpAnyH_take (i := 2) (v := ?_) rfl (by kernel_rfl) (by kernel_rfl) (by kernel_rfl) (fun _ _ _ h => h) (Or.inl ⟨by rfl, ?_⟩) (by assumption) ?_
                rotate_left
                · (intro W hW; (try dsimp only at hW); go_simp; try with_reducible rfl)
                try simp only [Act.put, List.setIfInBounds_toArray, List.set_cons_zero, List.set_cons_succ, List.getElem_toArray, List.getElem_cons_zero, List.getElem_cons_succ]
                refine wpAnyH_take (i := 3) (v := ?_) rfl (by kernel_rfl) (by kernel_rfl) (by kernel_rfl) (fun _ _ _ h => h) (Or.inl ⟨by rfl, ?_⟩) (by assumption) ?_
                rotate_left
                · (intro W hW; (try dsimp only at hW); go_simp; try with_reducible rfl)
                try simp only [Act.put, List.setIfInBounds_toArray, List.set_cons_zero, List.set_cons_succ, List.getElem_toArray, List.getElem_cons_zero, List.getElem_cons_succ]
                refine wpAnyH_take (i := 4) (v := ?_) rfl (by kernel_rfl) (by kernel_rfl) (by kernel_rfl) (fun _ _ _ h => h) (Or.inl ⟨by rfl, ?_⟩) (by assumption) ?_
                rotate_left
                · (intro W hW; (try dsimp only at hW); go_simp; try with_reducible rfl)
                try simp only [Act.put, List.setIfInBounds_toArray, List.set_cons_zero, List.set_cons_succ, List.getElem_toArray, List.getElem_cons_zero, List.getElem_cons_succ]
                refine wpAnyH_take (i := 5) (v := ?_) rfl (by kernel_rfl) (by kernel_rfl) (by kernel_rfl) (fun _ _ _ h => h) (Or.inl ⟨by rfl, ?_⟩) (by assumption) ?_
                rotate_left
                · (intro W hW; (try dsimp only at hW); go_simp; try with_reducible rfl)
                try simp only [Act.put, List.setIfInBounds_toArray, List.set_cons_zero, List.set_cons_succ, List.getElem_toArray, List.getElem_cons_zero, List.getElem_cons_succ]
                refine wpAnyH_take (i := 6) (v := ?_) rfl (by kernel_rfl) (by kernel_rfl) (by kernel_rfl) (fun _ _ _ h => h) (Or.inl ⟨by rfl, ?_⟩) (by assumption) ?_
                rotate_left
                · (intro W hW; (try dsimp only at hW); go_simp; try with_reducible rfl)
                try simp only [Act.put, List.setIfInBounds_toArray, List.set_cons_zero, List.set_cons_succ, List.getElem_toArray, List.getElem_cons_zero, List.getElem_cons_succ]
                refine wpAnyH_take (i := 7) (v := ?_) rfl (by kernel_rfl) (by kernel_rfl) (by kernel_rfl) (fun _ _ _ h => h) (Or.inl ⟨by rfl, ?_⟩) (by assumption) ?_
                rotate_left
                · (intro W hW; (try dsimp only at hW); go_simp; try with_reducible rfl)
                try simp only [Act.put, List.setIfInBounds_toArray, List.set_cons_zero, List.set_cons_succ, List.getElem_toArray, List.getElem_cons_zero, List.getElem_cons_succ]
                refine wpAnyH_take (i := 8) (v := ?_) rfl (by kernel_rfl) (by kernel_rfl) (by kernel_rfl) (fun _ _ _ h => h) (Or.inl ⟨by rfl, ?_⟩) (by assumption) ?_
                rotate_left
                · (intro W hW; (try dsimp only at hW); go_simp; try with_reducible rfl)
                try simp only [Act.put, List.setIfInBounds_toArray, List.set_cons_zero, List.set_cons_succ, List.getElem_toArray, List.getElem_cons_zero, List.getElem_cons_succ]
                refine wpAnyH_take (i := 9) (v := ?_) rfl (by kernel_rfl) (by kernel_rfl) (by kernel_rfl) (fun _ _ _ h => h) (Or.inl ⟨by rfl, ?_⟩) (by assumption) ?_
                rotate_left
                · (intro W hW; (try dsimp only at hW); go_simp; try with_reducible rfl)
                try simp only [Act.put, List.setIfInBounds_toArray, List.set_cons_zero, List.set_cons_succ, List.getElem_toArray, List.getElem_cons_zero, List.getElem_cons_succ]
                refine wpAnyH_take (i := 10) (v := ?_) rfl (by kernel_rfl) (by kernel_rfl) (by kernel_rfl) (fun _ _ _ h => h) (Or.inl ⟨by rfl, ?_⟩) (by assumption) ?_
                rotate_left
                · (intro W hW; (try dsimp only at hW); go_simp; try with_reducible rfl)
                try simp only [Act.put, List.setIfInBounds_toArray, List.set_cons_zero, List.set_cons_succ, List.getElem_toArray, List.getElem_cons_zero, List.getElem_cons_succ]
                refine wpAnyH_take (i := 11) (v := ?_) rfl (by kernel_rfl) (by kernel_rfl) (by kernel_rfl) (fun _ _ _ h => h) (Or.inl ⟨by rfl, ?_⟩) (by assumption) ?_
                rotate_left
                · (intro W hW; (try dsimp only at hW); go_simp; try with_reducible rfl)
                try simp only [Act.put, List.setIfInBounds_toArray, List.set_cons_zero, List.set_cons_succ, List.getElem_toArray, List.getElem_cons_zero, List.getElem_cons_succ]
                refine wpAnyH_take (i := 12) (v := ?_) rfl (by kernel_rfl) (by kernel_rfl) (by kernel_rfl) (fun _ _ _ h => h) (Or.inl ⟨by rfl, ?_⟩) (by assumption) ?_
                rotate_left
                · (intro W hW; (try dsimp only at hW); go_simp; try with_reducible rfl)
                try simp only [Act.put, List.setIfInBounds_toArray, List.set_cons_zero, List.set_cons_succ, List.getElem_toArray, List.getElem_cons_zero, List.getElem_cons_succ]
                refine wpAnyH_take (i := 13) (v := ?_) rfl (by kernel_rfl) (by kernel_rfl) (by kernel_rfl) (fun _ _ _ h => h) (Or.inl ⟨by rfl, ?_⟩) (by assumption) ?_
                rotate_left
                · (intro W hW; (try dsimp only at hW); go_simp; try with_reducible rfl)
                try simp only [Act.put, List.setIfInBounds_toArray, List.set_cons_zero, List.set_cons_succ, List.getElem_toArray, List.getElem_cons_zero, List.getElem_cons_succ]
                refine wpAnyH_take (i := 14) (v := ?_) rfl (by kernel_rfl) (by kernel_rfl) (by kernel_rfl) (fun _ _ _ h => h) (Or.inl ⟨by rfl, ?_⟩) (by assumption) ?_
                rotate_left
                · (intro W hW; (try dsimp only at hW); go_simp; try with_reducible rfl)
                try simp only [Act.put, List.setIfInBounds_toArray, List.set_cons_zero, List.set_cons_succ, List.getElem_toArray, List.getElem_cons_zero, List.getElem_cons_succ]
                refine wpAnyH_take (i := 15) (v := ?_) rfl (by kernel_rfl) (by kernel_rfl) (by kernel_rfl) (fun _ _ _ h => h) (Or.inl ⟨by rfl, ?_⟩) (by assumption) ?_
                rotate_left
                · (intro W hW; (try dsimp only at hW); go_simp; try with_reducible rfl)
                try simp only [Act.put, List.setIfInBounds_toArray, List.set_cons_zero, List.set_cons_succ, List.getElem_toArray, List.getElem_cons_zero, List.getElem_cons_succ]
                refine wpAnyH_take (i := 16) (v := ?_) rfl (by kernel_rfl) (by kernel_rfl) (by kernel_rfl) (fun _ _ _ h => h) (Or.inl ⟨by rfl, ?_⟩) (by assumption) ?_
                rotate_left
                · (intro W hW; (try dsimp only at hW); go_simp; try with_reducible rfl)
                try simp only [Act.put, List.setIfInBounds_toArray, List.set_cons_zero, List.set_cons_succ, List.getElem_toArray, List.getElem_cons_zero, List.getElem_cons_succ]
                refine wpAnyH_ready (rs := [17]) (by kernel_rfl) (by simp) ?_
                refine AllReadyH.cons rfl (fun K hK => ?_) AllReadyH.nil
                simp only [List.getElem_toArray, List.getElem_cons_zero, List.getElem_cons_succ]
                go_simp
                go_at_call 155
                refine (rhasn_any n y _ _ (SlI.of_own (own_fr hMx.own5 hH0.2.2.2 (by simp)) (by simp) hMx.wi)).mono ?_
                rintro e wq ⟨rfl, rfl⟩
                rw [← HHV.out]
                refine hK.out _ _ hH0 (fun hH1 => ?_)
                clear hK K hH0
                try simp only [Act.put, List.setIfInBounds_toArray, List.set_cons_zero, List.set_cons_succ, List.getElem_toArray, List.getElem_cons_zero, List.getElem_cons_succ]
                refine wpAnyH_take (i := 18) (v := ?_) rfl (by kernel_rfl) (by kernel_rfl) (by kernel_rfl) (fun _ _ _ h => h) (Or.inl ⟨by rfl, ?_⟩) (by assumption) ?_
                rotate_left
                · (intro W hW; (try dsimp only at hW); go_simp; try with_reducible rfl)
                try simp only [Act.put, List.setIfInBounds_toArray, List.set_cons_zero, List.set_cons_succ, List.getElem_toArray, List.getElem_cons_zero, List.getElem_cons_succ]
                refine wpAnyH_take (i := 19) (v := ?_) rfl (by kernel_rfl) (by kernel_rfl) (by kernel_rfl) (fun _ _ _ h => h) (Or.inl ⟨by rfl, ?_⟩) (by assumption) ?_
                rotate_left
                · (intro W hW; (try dsimp only at hW); go_simp; try with_reducible rfl)
                try simp only [Act.put, List.setIfInBounds_toArray, List.set_cons_zero, List.set_cons_succ, List.getElem_toArray, List.getElem_cons_zero, List.getElem_cons_succ]
                refine wpAnyH_done (by kernel_rfl) ?_ _
                go_wp2_with fail
                go_meet
                exact ⟨_, rfl, HT2.out.symm, hH1.2.2.2⟩
              · have hb0 : ((iX.length : Int) == 0) = false := by rw [beq_eq_false_iff_ne]; omega
                have hT2 : T = false := by
                  rw [hT]
                  cases iX with
                  | nil => exact absurd rfl hi0
                  | cons a r => rfl
                subst hT2
                clear hi0 hT
                refine wp_region_held_drew (S := fun W => (∀ i, W.cell? ⟨w3.heap.size, i, none⟩ = (#[.int .i64 tx, .slice (some ⟨bb, oo, none⟩) 1 k1, .slice X2 iX.length k2] : Array Value)[i]?) ∧ Fr none wx W) (by kernel_rfl) ⟨bx.cell, (Fr.refl _ _).drew⟩ (fun hH0 => ?_)
                refine wpAnyH_take (i := 0) (v := ?_) rfl (by kernel_rfl) (by kernel_rfl) (by kernel_rfl) (fun _ _ _ h => h) (Or.inl ⟨by rfl, ?_⟩) (by assumption) ?_
                rotate_left
                · (intro W hW; (try dsimp only at hW); go_simp; try with_reducible rfl)
                try simp only [Act.put, List.setIfInBounds_toArray, List.set_cons_zero, List.set_cons_succ, List.getElem_toArray, List.getElem_cons_zero, List.getElem_cons_succ]
                refine wpAnyH_take (i := 1) (v := ?_) rfl (by kernel_rfl) (by kernel_rfl) (by kernel_rfl) (fun _ _ _ h => h) (Or.inl ⟨by rfl, ?_⟩) (by assumption) ?_
                rotate_left
                · (intro W hW; (try dsimp only at hW); go_simp; try with_reducible rfl)
                try simp only [Act.put, List.setIfInBounds_toArray, List.set_cons_zero, List.set_cons_succ, List.getElem_toArray, List.getElem_cons_zero, List.getElem_cons_succ]
                refine wpAnyH_take (i := 2) (v := ?_) rfl (by kernel_rfl) (by kernel_rfl) (by kernel_rfl) (fun _ _ _ h => h) (Or.inl ⟨by rfl, ?_⟩) (by assumption) ?_
                rotate_left
                · (intro W hW; (try dsimp only at hW); go_simp; try with_reducible rfl)
                try simp only [Act.put, List.setIfInBounds_toArray, List.set_cons_zero, List.set_cons_succ, List.getElem_toArray, List.getElem_cons_zero, List.getElem_cons_succ]
                refine wpAnyH_take (i := 3) (v := ?_) rfl (by kernel_rfl) (by kernel_rfl) (by kernel_rfl) (fun _ _ _ h => h) (Or.inl ⟨by rfl, ?_⟩) (by assumption) ?_
                rotate_left
                · (intro W hW; (try dsimp only at hW); go_simp; try with_reducible rfl)
                try simp only [Act.put, List.setIfInBounds_toArray, List.set_cons_zero, List.set_cons_succ, List.getElem_toArray, List.getElem_cons_zero, List.getElem_cons_succ]
                refine wpAnyH_take (i := 4) (v := ?_) rfl (by kernel_rfl) (by kernel_rfl) (by kernel_rfl) (fun _ _ _ h => h) (Or.inl ⟨by rfl, ?_⟩) (by assumption) ?_
                rotate_left
                · (intro W hW; (try dsimp only at hW); go_simp; try with_reducible rfl)
                try simp only [Act.put, List.setIfInBounds_toArray, List.set_cons_zero, List.set_cons_succ, List.getElem_toArray, List.getElem_cons_zero, List.getElem_cons_succ]
                refine wpAnyH_take (i := 5) (v := ?_) rfl (by kernel_rfl) (by kernel_rfl) (by kernel_rfl) (fun _ _ _ h => h) (Or.inl ⟨by rfl, ?_⟩) (by assumption) ?_
                rotate_left
                · (intro W hW; (try dsimp only at hW); go_simp; try with_reducible rfl)
                try simp only [Act.put, List.setIfInBounds_toArray, List.set_cons_zero, List.set_cons_succ, List.getElem_toArray, List.getElem_cons_zero, List.getElem_cons_succ]
                refine wpAnyH_take (i := 6) (v := ?_) rfl (by kernel_rfl) (by kernel_rfl) (by kernel_rfl) (fun _ _ _ h => h) (Or.inl ⟨by rfl, ?_⟩) (by assumption) ?_
                rotate_left
                · (intro W hW; (try dsimp only at hW); go_simp; try with_reducible rfl)
                try simp only [Act.put, List.setIfInBounds_toArray, List.set_cons_zero, List.set_cons_succ, List.getElem_toArray, List.getElem_cons_zero, List.getElem_cons_succ]
                refine wpAnyH_take (i := 7) (v := ?_) rfl (by kernel_rfl) (by kernel_rfl) (by kernel_rfl) (fun _ _ _ h => h) (Or.inl ⟨by rfl, ?_⟩) (by assumption) ?_
                rotate_left
                · (intro W hW; (try dsimp only at hW); go_simp; try with_reducible rfl)
                try simp only [Act.put, List.setIfInBounds_toArray, List.set_cons_zero, List.set_cons_succ, List.getElem_toArray, List.getElem_cons_zero, List.getElem_cons_succ]
                refine wpAnyH_take (i := 8) (v := ?_) rfl (by kernel_rfl) (by kernel_rfl) (by kernel_rfl) (fun _ _ _ h => h) (Or.inl ⟨by rfl, ?_⟩) (by assumption) ?_
                rotate_left
                · (intro W hW; (try dsimp only at hW); go_simp; try with_reducible rfl)
                try simp only [Act.put, List.setIfInBounds_toArray, List.set_cons_zero, List.set_cons_succ, List.getElem_toArray, List.getElem_cons_zero, List.getElem_cons_succ]
                refine wpAnyH_take (i := 9) (v := ?_) rfl (by kernel_rfl) (by kernel_rfl) (by kernel_rfl) (fun _ _ _ h => h) (Or.inl ⟨by rfl, ?_⟩) (by assumption) ?_
                rotate_left
                · (intro W hW; (try dsimp only at hW); go_simp; try with_reducible rfl)
                try simp only [Act.put, List.setIfInBounds_toArray, List.set_cons_zero, List.set_cons_succ, List.getElem_toArray, List.getElem_cons_zero, List.getElem_cons_succ]
                refine wpAnyH_take (i := 10) (v := ?_) rfl (by kernel_rfl) (by kernel_rfl) (by kernel_rfl) (fun _ _ _ h => h) (Or.inl ⟨by rfl, ?_⟩) (by assumption) ?_
                rotate_left
                · (intro W hW; (try dsimp only at hW); go_simp; try with_reducible rfl)
                try simp only [Act.put, List.setIfInBounds_toArray, List.set_cons_zero, List.set_cons_succ, List.getElem_toArray, List.getElem_cons_zero, List.getElem_cons_succ]
                refine wpAnyH_take (i := 11) (v := undef) rfl (by kernel_rfl) (by kernel_rfl) (by kernel_rfl) (fun _ _ _ h => h) (Or.inr ⟨by rfl, rfl⟩) (by assumption) ?_
                try simp only [Act.put, List.setIfInBounds_toArray, List.set_cons_zero, List.set_cons_succ, List.getElem_toArray, List.getElem_cons_zero, List.getElem_cons_succ]
                refine wpAnyH_take (i := 12) (v := undef) rfl (by kernel_rfl) (by kernel_rfl) (by kernel_rfl) (fun _ _ _ h => h) (Or.inr ⟨by rfl, rfl⟩) (by assumption) ?_
                try simp only [Act.put, List.setIfInBounds_toArray, List.set_cons_zero, List.set_cons_succ, List.getElem_toArray, List.getElem_cons_zero, List.getElem_cons_succ]
                refine wpAnyH_take (i := 13) (v := undef) rfl (by kernel_rfl) (by kernel_rfl) (by kernel_rfl) (fun _ _ _ h => h) (Or.inr ⟨by rfl, rfl⟩) (by assumption) ?_
                try simp only [Act.put, List.setIfInBounds_toArray, List.set_cons_zero, List.set_cons_succ, List.getElem_toArray, List.getElem_cons_zero, List.getElem_cons_succ]
                refine wpAnyH_take (i := 14) (v := undef) rfl (by kernel_rfl) (by kernel_rfl) (by kernel_rfl) (fun _ _ _ h => h) (Or.inr ⟨by rfl, rfl⟩) (by assumption) ?_
                try simp only [Act.put, List.setIfInBounds_toArray, List.set_cons_zero, List.set_cons_succ, List.getElem_toArray, List.getElem_cons_zero, List.getElem_cons_succ]
                refine wpAnyH_take (i := 15) (v := undef) rfl (by kernel_rfl) (by kernel_rfl) (by kernel_rfl) (fun _ _ _ h => h) (Or.inr ⟨by rfl, rfl⟩) (by assumption) ?_
                try simp only [Act.put, List.setIfInBounds_toArray, List.set_cons_zero, List.set_cons_succ, List.getElem_toArray, List.getElem_cons_zero, List.getElem_cons_succ]
                refine wpAnyH_take (i := 16) (v := undef) rfl (by kernel_rfl) (by kernel_rfl) (by kernel_rfl) (fun _ _ _ h => h) (Or.inr ⟨by rfl, rfl⟩) (by assumption) ?_
                try simp only [Act.put, List.setIfInBounds_toArray, List.set_cons_zero, List.set_cons_succ, List.getElem_toArray, List.getElem_cons_zero, List.getElem_cons_succ]
                refine wpAnyH_take (i := 17) (v := undef) rfl (by kernel_rfl) (by kernel_rfl) (by kernel_rfl) (fun _ _ _ h => h) (Or.inr ⟨by rfl, rfl⟩) (by assumption) ?_
                try simp only [Act.put, List.setIfInBounds_toArray, List.set_cons_zero, List.set_cons_succ, List.getElem_toArray, List.getElem_cons_zero, List.getElem_cons_succ]
                refine wpAnyH_take (i := 18) (v := undef) rfl (by kernel_rfl) (by kernel_rfl) (by kernel_rfl) (fun _ _ _ h => h) (Or.inr ⟨by rfl, rfl⟩) (by assumption) ?_
                try simp only [Act.put, List.setIfInBounds_toArray, List.set_cons_zero, List.set_cons_succ, List.getElem_toArray, List.getElem_cons_zero, List.getElem_cons_succ]
                refine wpAnyH_take (i := 19) (v := ?_) rfl (by kernel_rfl) (by kernel_rfl) (by kernel_rfl) (fun _ _ _ h => h) (Or.inl ⟨by rfl, ?_⟩) (by assumption) ?_
                rotate_left
                · (intro W hW; (try dsimp only at hW); go_simp; try with_reducible rfl)
                try simp only [Act.put, List.setIfInBounds_toArray, List.set_cons_zero, List.set_cons_succ, List.getElem_toArray, List.getElem_cons_zero, List.getElem_cons_succ]
                refine wpAnyH_done (by kernel_rfl) ?_ _
                go_wp2_with fail
                go_meet
                exact ⟨_, rfl, rfl, hH0.2⟩
            · have hb1 : ((nX.length : Int) == 1) = false := by rw [beq_eq_false_iff_ne]; omega
              have hT2 : T = false := by
                rw [hT]
                rcases nX with _ | ⟨k, _ | ⟨k2, r⟩⟩
                · rfl
                · exact absurd rfl hn1
                · rfl
              subst hT2
              clear hn1 hT
              refine wp_region_held_drew (S := fun W => (∀ i, W.cell? ⟨w3.heap.size, i, none⟩ = (#[.int .i64 tx, .slice X1 nX.length k1, .slice X2 iX.length k2] : Array Value)[i]?) ∧ Fr none wx W) (by kernel_rfl) ⟨bx.cell, (Fr.refl _ _).drew⟩ (fun hH0 => ?_)
              refine wpAnyH_take (i := 0) (v := ?_) rfl (by kernel_rfl) (by kernel_rfl) (by kernel_rfl) (fun _ _ _ h => h) (Or.inl ⟨by rfl, ?_⟩) (by assumption) ?_
              rotate_left
              · (intro W hW; (try dsimp only at hW); go_simp; try with_reducible rfl)
              try simp only [Act.put, List.setIfInBounds_toArray, List.set_cons_zero, List.set_cons_succ, List.getElem_toArray, List.getElem_cons_zero, List.getElem_cons_succ]
              refine wpAnyH_take (i := 1) (v := ?_) rfl (by kernel_rfl) (by kernel_rfl) (by kernel_rfl) (fun _ _ _ h => h) (Or.inl ⟨by rfl, ?_⟩) (by assumption) ?_
              rotate_left
              · (intro W hW; (try dsimp only at hW); go_simp; try with_reducible rfl)
              try simp only [Act.put, List.setIfInBounds_toArray, List.set_cons_zero, List.set_cons_succ, List.getElem_toArray, List.getElem_cons_zero, List.getElem_cons_succ]
              refine wpAnyH_take (i := 2) (v := ?_) rfl (by kernel_rfl) (by kernel_rfl) (by kernel_rfl) (fun _ _ _ h => h) (Or.inl ⟨by rfl, ?_⟩) (by assumption) ?_
              rotate_left
              · (intro W hW; (try dsimp only at hW); go_simp; try with_reducible rfl)
              try simp only [Act.put, List.setIfInBounds_toArray, List.set_cons_zero, List.set_cons_succ, List.getElem_toArray, List.getElem_cons_zero, List.getElem_cons_succ]
              refine wpAnyH_take (i := 3) (v := ?_) rfl (by kernel_rfl) (by kernel_rfl) (by kernel_rfl) (fun _ _ _ h => h) (Or.inl ⟨by rfl, ?_⟩) (by assumption) ?_
              rotate_left
              · (intro W hW; (try dsimp only at hW); go_simp; try with_reducible rfl)
              try simp only [Act.put, List.setIfInBounds_toArray, List.set_cons_zero, List.set_cons_succ, List.getElem_toArray, List.getElem_cons_zero, List.getElem_cons_succ]
              refine wpAnyH_take (i := 4) (v := ?_) rfl (by kernel_rfl) (by kernel_rfl) (by kernel_rfl) (fun _ _ _ h => h) (Or.inl ⟨by rfl, ?_⟩) (by assumption) ?_
              rotate_left
              · (intro W hW; (try dsimp only at hW); go_simp; try with_reducible rfl)
              try simp only [Act.put, List.setIfInBounds_toArray, List.set_cons_zero, List.set_cons_succ, List.getElem_toArray, List.getElem_cons_zero, List.getElem_cons_succ]
              refine wpAnyH_take (i := 5) (v := undef) rfl (by kernel_rfl) (by kernel_rfl) (by kernel_rfl) (fun _ _ _ h => h) (Or.inr ⟨by rfl, rfl⟩) (by assumption) ?_
              try simp only [Act.put, List.setIfInBounds_toArray, List.set_cons_zero, List.set_cons_succ, List.getElem_toArray, List.getElem_cons_zero, List.getElem_cons_succ]
              refine wpAnyH_take (i := 6) (v := undef) rfl (by kernel_rfl) (by kernel_rfl) (by kernel_rfl) (fun _ _ _ h => h) (Or.inr ⟨by rfl, rfl⟩) (by assumption) ?_
              try simp only [Act.put, List.setIfInBounds_toArray, List.set_cons_zero, List.set_cons_succ, List.getElem_toArray, List.getElem_cons_zero, List.getElem_cons_succ]
              refine wpAnyH_take (i := 7) (v := undef) rfl (by kernel_rfl) (by kernel_rfl) (by kernel_rfl) (fun _ _ _ h => h) (Or.inr ⟨by rfl, rfl⟩) (by assumption) ?_
              try simp only [Act.put, List.setIfInBounds_toArray, List.set_cons_zero, List.set_cons_succ, List.getElem_toArray, List.getElem_cons_zero, List.getElem_cons_succ]
              refine wpAnyH_take (i := 8) (v := undef) rfl (by kernel_rfl) (by kernel_rfl) (by kernel_rfl) (fun _ _ _ h => h) (Or.inr ⟨by rfl, rfl⟩) (by assumption) ?_
              try simp only [Act.put, List.setIfInBounds_toArray, List.set_cons_zero, List.set_cons_succ, List.getElem_toArray, List.getElem_cons_zero, List.getElem_cons_succ]
              refine wpAnyH_take (i := 9) (v := ?_) rfl (by kernel_rfl) (by kernel_rfl) (by kernel_rfl) (fun _ _ _ h => h) (Or.inl ⟨by rfl, ?_⟩) (by assumption) ?_
              rotate_left
              · (intro W hW; (try dsimp only at hW); go_simp; try with_reducible rfl)
              try simp only [Act.put, List.setIfInBounds_toArray, List.set_cons_zero, List.set_cons_succ, List.getElem_toArray, List.getElem_cons_zero, List.getElem_cons_succ]
              refine wpAnyH_take (i := 10) (v := ?_) rfl (by kernel_rfl) (by kernel_rfl) (by kernel_rfl) (fun _ _ _ h => h) (Or.inl ⟨by rfl, ?_⟩) (by assumption) ?_
              rotate_left
              · (intro W hW; (try dsimp only at hW); go_simp; try with_reducible rfl)
              try simp only [Act.put, List.setIfInBounds_toArray, List.set_cons_zero, List.set_cons_succ, List.getElem_toArray, List.getElem_cons_zero, List.getElem_cons_succ]
              refine wpAnyH_take (i := 11) (v := undef) rfl (by kernel_rfl) (by kernel_rfl) (by kernel_rfl) (fun _ _ _ h => h) (Or.inr ⟨by rfl, rfl⟩) (by assumption) ?_
              try simp only [Act.put, List.setIfInBounds_toArray, List.set_cons_zero, List.set_cons_succ, List.getElem_toArray, List.getElem_cons_zero, List.getElem_cons_succ]
              refine wpAnyH_take (i := 12) (v := undef) rfl (by kernel_rfl) (by kernel_rfl) (by kernel_rfl) (fun _ _ _ h => h) (Or.inr ⟨by rfl, rfl⟩) (by assumption) ?_
              try simp only [Act.put, List.setIfInBounds_toArray, List.set_cons_zero, List.set_cons_succ, List.getElem_toArray, List.getElem_cons_zero, List.getElem_cons_succ]
              refine wpAnyH_take (i := 13) (v := undef) rfl (by kernel_rfl) (by kernel_rfl) (by kernel_rfl) (fun _ _ _ h => h) (Or.inr ⟨by rfl, rfl⟩) (by assumption) ?_
              try simp only [Act.put, List.setIfInBounds_toArray, List.set_cons_zero, List.set_cons_succ, List.getElem_toArray, List.getElem_cons_zero, List.getElem_cons_succ]
              refine wpAnyH_take (i := 14) (v := undef) rfl (by kernel_rfl) (by kernel_rfl) (by kernel_rfl) (fun _ _ _ h => h) (Or.inr ⟨by rfl, rfl⟩) (by assumption) ?_
              try simp only [Act.put, List.setIfInBounds_toArray, List.set_cons_zero, List.set_cons_succ, List.getElem_toArray, List.getElem_cons_zero, List.getElem_cons_succ]
              refine wpAnyH_take (i := 15) (v := undef) rfl (by kernel_rfl) (by kernel_rfl) (by kernel_rfl) (fun _ _ _ h => h) (Or.inr ⟨by rfl, rfl⟩) (by assumption) ?_
              try simp only [Act.put, List.setIfInBounds_toArray, List.set_cons_zero, List.set_cons_succ, List.getElem_toArray, List.getElem_cons_zero, List.getElem_cons_succ]
              refine wpAnyH_take (i := 16) (v := undef) rfl (by kernel_rfl) (by kernel_rfl) (by kernel_rfl) (fun _ _ _ h => h) (Or.inr ⟨by rfl, rfl⟩) (by assumption) ?_
              try simp only [Act.put, List.setIfInBounds_toArray, List.set_cons_zero, List.set_cons_succ, List.getElem_toArray, List.getElem_cons_zero, List.getElem_cons_succ]
              refine wpAnyH_take (i := 17) (v := undef) rfl (by kernel_rfl) (by kernel_rfl) (by kernel_rfl) (fun _ _ _ h => h) (Or.inr ⟨by rfl, rfl⟩) (by assumption) ?_
              try simp only [Act.put, List.setIfInBounds_toArray, List.set_cons_zero, List.set_cons_succ, List.getElem_toArray, List.getElem_cons_zero, List.getElem_cons_succ]
              refine wpAnyH_take (i := 18) (v := undef) rfl (by kernel_rfl) (by kernel_rfl) (by kernel_rfl) (fun _ _ _ h => h) (Or.inr ⟨by rfl, rfl⟩) (by assumption) ?_
              try simp only [Act.put, List.setIfInBounds_toArray, List.set_cons_zero, List.set_cons_succ, List.getElem_toArray, List.getElem_cons_zero, List.getElem_cons_succ]
              refine wpAnyH_take (i := 19) (v := ?_) rfl (by kernel_rfl) (by kernel_rfl) (by kernel_rfl) (fun _ _ _ h => h) (Or.inl ⟨by rfl, ?_⟩) (by assumption) ?_
              rotate_left
              · (intro W hW; (try dsimp only at hW); go_simp; try with_reducible rfl)
              try simp only [Act.put, List.setIfInBounds_toArray, List.set_cons_zero, List.set_cons_succ, List.getElem_toArray, List.getElem_cons_zero, List.getElem_cons_succ]
              refine wpAnyH_done (by kernel_rfl) ?_ _
              go_wp2_with fail
              go_meet
              exact ⟨_, rfl, rfl, hH0.2⟩
          case rest =>
            obtain ⟨U, rfl, hU, Fq⟩ := hcut
            obtain ⟨wq, hwq⟩ : ∃ wq : World, wq = wc := ⟨_, rfl⟩
            subst hwq
            have hMq := hMx.pure HD1.out Fq
            have bxq := bx.fr Fq (by simp)
            have hlxq := blk_lt bxq
            have hTq := TrD.keep (dn2_pure (v := .slice A5 n.length c5) (v' := .slice A6 i.length c6) (B := B) HD1.out hMx.fr Fq) _ _ hTY
            have hBq := blk_lt hMq.tb
            have RB := hMq.tb.cell
            have ZB := hMq.tb.free
            have Rx := bxq.cell
            have hnl : n.length ≤ 900000 := by omega
            have hil : i.length ≤ 900000 := by unfold wgt at hbd; omega
            subst hU
            have HT := Lib.hid hT
            clear hT bx hMx hTY bB
            cases U with
            | false =>
              have own6 := hMq.own6
              have hz1q := hMq.fr.size
              have tb := hMq.tb
              have ne6 := hMq.ne6
              go_wp2_with (at_builtin; refine app_lit eiTrust rfl _ _ rfl w1.heap.size A6 i.length c6 _ rfl own6 1 [.int .i64 tx, .slice X1 nX.length k1, .slice X2 iX.length k2] _ _ rfl (by simp) rfl (by simp [Value.oneCell']) (by omega) (by unfold maxLen; omega) (by omega) ?_; intro A7 c7 w7 own7 F7 nb7; have K7 := tb.fr F7 ne6; have R7 := K7.cell; have Z7 := K7.free)
              go_roundw
              case rel =>
                exact ⟨j + 1, n, i ++ [.mk tx nX iX], A5, c5, A7, c7, _, by go_num, by omega, hMq.inner HD1.out hTq own7 F7 nb7, by unfold Hid; rw [HJ.out, HNL.out, List.foldl_cons, liftS_at, if_neg (by rw [← HT.out]; simp)], by rw [wgt_append, wgt_one, size_mk]; omega⟩
              case measure => simp [intOf]; omega
            | true =>
              obtain ⟨y, rfl, rfl, hny⟩ : ∃ y, nX = [y] ∧ iX = [] ∧ n.any (fun z => decide (z = y)) = false := by
                have h := HT.out
                unfold lft at h
                simp only [Tr.nodes, Tr.inner] at h
                rcases nX with _ | ⟨y, _ | ⟨y2, r⟩⟩
                · simp at h
                · cases iX with
                  | nil => exact ⟨y, rfl, rfl, by simpa using h⟩
                  | cons a r => simp at h
                · simp at h
              obtain ⟨bb, oo, rfl, hbb, hcy⟩ := l4 (by simp)
              have hcx : wq.cell? ⟨bb, oo, none⟩ = some (.int .i64 y) := Fq.keep (hcy 0 _ rfl) (by simp)
              have hyw : Wi y := q2 y (by simp)
              have own5 := hMq.own5.drew
              have hMd := hMq.pure HD1.out ((Fr.refl none wq).drew)
              have hz1q := hMq.fr.size
              have tb := hMq.tb
              have ne5 := hMq.ne5
              have hsh : TB wq.drew B (.int .i64 thr) (.slice A5 n.length c5) (.slice A6 i.length c6) := hMd.tb
              clear hcy hny
              go_upto_region 7 with (fail)
              go_region_law (refine step_app_lit eiInt rfl _ _ rfl w1.heap.size A5 n.length c5 _ rfl own5 1 [.int .i64 y] 3 _ rfl (by simp) rfl (by simp [Value.oneCell']) (by omega) (by unfold maxLen; omega) (by have := hMd.fr.size; omega) ?_; intro A7 c7 w7 own7 F7 nb7; have K7 := hsh.fr F7 ne5; have R7 := K7.cell; have Z7 := K7.free)
              all_goals
                go_wp2_with fail
                go_roundw
                case rel =>
                  have hln : (n ++ [y]).length = n.length + 1 := by simp
                  exact ⟨j + 1, n ++ [y], i, A7, c7, A6, c6, cs, by go_num, by omega, hMd.node HD1.out hyw own7 F7 nb7, by unfold Hid; rw [HJ.out, HNL.out, List.foldl_cons, liftS_at, if_pos HT.out.symm]; rfl, by rw [hln]; simp at hns; omega⟩
                case measure => simp [intOf]; omega
        · obtain rfl : j = inner.length := by omega
          have HF : Hid ((normL inner).foldl liftS (nodes, []) = (n, i)) := by unfold Hid; rw [HJ.out]; simp [normL]
          have hnl : n.length ≤ 900000 := by omega
          have hil : i.length ≤ 900000 := by unfold wgt at hbd; omega
          have hnw : n.length + wgt i ≤ 900000 := by omega
          have hmid := hM.mid h0 (by omega) (by omega)
          have htb := hM.tb
          have RB := htb.cell
          have hBlt := blk_lt htb
          have hMi : (mrgT thr (n, i)).inner.length ≤ 900000 := Nat.le_trans (mrg_wgt thr n i) hnw
          clear HJ
          by_cases h1 : thr = 1
          · subst h1
            have hMR : mrgT 1 (n, i) = mergedT 1 (n, i) false := by unfold mrgT; rw [if_pos rfl]
            rw [hMR] at hMi
            have HMR := Lib.hid hMR
            clear hMR
            go_wp2_with fail
            refine (rmerged_any 1 n i false _ (Db D w1 wr B) _ (db_lt HD1.out hM.fr) (by omega) hmid.2.2.2).mono ?_
            rintro e w3 ⟨v3, rfl, hT3, F3⟩
            generalize mergedT 1 (n, i) false = M at *
            obtain ⟨tM, nM, iM⟩ := M
            obtain ⟨th, X1, m1, k1, X2, m2, k2, rfl⟩ := hT3.shape
            have K3 := htb.fr F3 (by simp)
            have R3 := K3.cell
            have Z3 := K3.free
            have hl3 := blk_lt K3
            have hm4 := hmid.next HD1.out F3 hT3
            clear RB htb hmid hM hT3
            go_wp2_with fail
            clear R3 Z3 K3 F3
            generalize World.setCell (World.setCell (World.setCell w3 _ _) _ _) _ _ = w4 at *
            refine (rsorted_any tM nM iM _ (Db D w1 w4 B) w4 (db_lt HD1.out hm4.1) (by simp only [Tr.inner] at hMi; omega) hm4.2.2.2).mono ?_
            rintro e w5 ⟨v5, rfl, hT5, F5⟩
            obtain ⟨th5, Z1, o1, z1, Z2, o2, z2, rfl⟩ := hT5.shape
            have K5 := (hm4.2.2.1).fr F5 (by simp)
            have R5 := K5.cell
            have Z5 := K5.free
            have hl5 := blk_lt K5
            have hm5 := hm4.next HD1.out F5 hT5
            go_upto_region 15 with (fail)
            clear R5 Z5 K5 hT5 F5 hl5
            generalize World.setCell (World.setCell (World.setCell w5 _ _) _ _) _ _ = w6 at *
            obtain ⟨O, hO⟩ : ∃ O, O = ordT (.mk tM nM iM) := ⟨_, rfl⟩
            rw [← hO] at hm5
            have HFO := Lib.hid hO.symm
            clear hO
            obtain ⟨tO, nO, iO⟩ := O
            have hTO := hm5.2.2.2
            simp only [TrD] at hTO
            obtain ⟨vnx, vix, cx, hsh, k0, q1, q2, q3, q4, q5, q6⟩ := hTO
            simp only [Value.agg.injEq, Array.mk.injEq, List.cons.injEq, and_true] at hsh
            obtain ⟨hsh0, hsh1, hsh2⟩ := hsh
            injection hsh0 with _ hsh0
            subst hsh0 hsh1 hsh2
            obtain ⟨Y1, nn, d1, e1, l1, l2, l3, l4⟩ := id q1
            injection e1 with a1 a2 a3
            subst a1 a2 a3
            obtain ⟨Y2, mm, d2, e2, r1, r2, r3, r4⟩ := id q3
            injection e2 with a1 a2 a3
            subst a1 a2 a3
            have hlen := q6.len
            obtain rfl : o2 = iO.length := by omega
            obtain rfl : o1 = nO.length := by simpa using l1.symm
            unfold Few at q4 q5
            unfold maxLen at l3 r3
            have K6 := hm5.2.2.1
            have R6 := K6.cell
            have hl6 := blk_lt K6
            have b46 := b4.fr hm5.1 (by simp)
            have R4 := b46.cell
            have Z4 := b46.free
            have hl4 := blk_lt b46
            have F16 := F1.pure hm5.1
            by_cases hn0 : nO.length = 0
            · obtain rfl : nO = [] := List.eq_nil_of_length_eq_zero hn0
              by_cases hi1 : iO.length = 1
              · obtain ⟨y, rfl⟩ := List.length_eq_one_iff.1 hi1
                have HFN : Hid (finT (.mk th5 [] [y]) = y) := rfl
                obtain ⟨bb, oo, rfl, hbb, hcc⟩ := r4 (by simp)
                obtain ⟨x0, y0, z0, e0, e1, e2, hy0⟩ := q6.get 0 (by simp)
                simp only [Nat.zero_mul, Nat.zero_add] at e0 e1 e2
                have hyT : TrD w6 (Db D w1 w6 B) (.agg #[x0, y0, z0]) y := hy0
                obtain ⟨ty, W1, p1, v1, W2, p2, v2, hsh⟩ := hyT.shape
                simp only [Value.agg.injEq, Array.mk.injEq, List.cons.injEq, and_true] at hsh
                obtain ⟨rfl, rfl, rfl⟩ := hsh
                have g0 : w6.cell? ⟨bb, oo, none⟩ = some (.int .i64 ty) := hcc _ _ e0
                have g1 : w6.cell? ⟨bb, oo + 1, none⟩ = some (.slice W1 p1 v1) := hcc _ _ e1
                have g2 : w6.cell? ⟨bb, oo + 2, none⟩ = some (.slice W2 p2 v2) := hcc _ _ e2
                clear e0 e1 e2 hcc
                go_wp2_with fail
                refine bodyPost_ret (v := .agg #[.int .i64 ty, .slice W1 p1 v1, .slice W2 p2 v2]) (by simp [results, Tryz.results103, go_sem, R4, R6]) rfl ?_
                obtain ⟨f1, f2⟩ := hm5.fin HD.out hz1 F1 hyT (fr_fill3 w6 (w.heap.size + 1) _ _ _)
                exact ⟨_, rfl, by rw [HNT.out, HF.out, HMR.out, HFO.out, HFN.out]; exact f1, f2⟩
              · have HFN : Hid (finT (.mk th5 [] iO) = .mk th5 [] iO) := by
                  unfold Hid finT
                  rcases iO with _ | ⟨y, _ | ⟨y2, r⟩⟩
                  · rfl
                  · exact absurd rfl hi1
                  · rfl
                have hb1 : ((iO.length : Int) == 1) = false := by rw [beq_eq_false_iff_ne]; omega
                clear hi1
                go_wp2_with fail
                refine bodyPost_ret (v := .agg #[.int .i64 th5, .slice Z1 0 z1, .slice Z2 iO.length z2]) (by simp [results, Tryz.results103, go_sem, R4, R6]) rfl ?_
                obtain ⟨f1, f2⟩ := hm5.fin HD.out hz1 F1 hm5.2.2.2 (fr_fill3 w6 (w.heap.size + 1) _ _ _)
                exact ⟨_, rfl, by rw [HNT.out, HF.out, HMR.out, HFO.out, HFN.out]; exact f1, f2⟩
            · have HFN : Hid (finT (.mk th5 nO iO) = .mk th5 nO iO) := by
                unfold Hid finT
                cases nO with
                | nil => exact absurd rfl hn0
                | cons a r => rfl
              have hb1 : ((nO.length : Int) == 0) = false := by rw [beq_eq_false_iff_ne]; omega
              clear hn0
              go_wp2_with fail
              refine bodyPost_ret (v := .agg #[.int .i64 th5, .slice Z1 nO.length z1, .slice Z2 iO.length z2]) (by simp [results, Tryz.results103, go_sem, R4, R6]) rfl ?_
              obtain ⟨f1, f2⟩ := hm5.fin HD.out hz1 F1 hm5.2.2.2 (fr_fill3 w6 (w.heap.size + 1) _ _ _)
              exact ⟨_, rfl, by rw [HNT.out, HF.out, HMR.out, HFO.out, HFN.out]; exact f1, f2⟩
          · have hb1 : (thr == 1) = false := by rw [beq_eq_false_iff_ne]; exact h1
            obtain ⟨cn, hcn⟩ : ∃ cn, cn = cnt1 (.mk thr n i) := ⟨_, rfl⟩
            obtain ⟨T, hT⟩ : ∃ T, T = (thr == (cn : Int)) := ⟨_, rfl⟩
            have HCN := Lib.hid hcn
            have hb2 := hT.symm
            have HT := Lib.hid hT
            have H1 := Lib.hid h1
            clear hcn hT h1
            go_upto_region 12 with (fail)
            go_cut [64, 65, 66, 67, 68] (fun _ _ _ _ s68 wq => s68 = .bool T ∧ Fr none wr wq)
            case first =>
              refine wp_region_held_drew (S := fun W => (∀ k, W.cell? ⟨B, k, none⟩ = (#[.int .i64 thr, .slice A5 n.length c5, .slice A6 i.length c6] : Array Value)[k]?) ∧ Fr none wr W) (by kernel_rfl) ⟨RB, (Fr.refl _ _).drew⟩ (fun hH0 => ?_)
              refine wpAnyH_take (i := 0) (v := ?_) rfl (by kernel_rfl) (by kernel_rfl) (by kernel_rfl) (fun _ _ _ h => h) (Or.inl ⟨by rfl, ?_⟩) (by assumption) ?_
              rotate_left
              · (intro W hW; (try dsimp only at hW); go_simp; try with_reducible rfl)
              try simp only [Act.put, List.setIfInBounds_toArray, List.set_cons_zero, List.set_cons_succ, List.getElem_toArray, List.getElem_cons_zero, List.getElem_cons_succ]
              refine wpAnyH_take (i := 1) (v := ?_) rfl (by kernel_rfl) (by kernel_rfl) (by kernel_rfl) (fun _ _ _ h => h) (Or.inl ⟨by rfl, ?_⟩) (by assumption) ?_
              rotate_left
              · (intro W hW; (try dsimp only at hW); go_simp; try with_reducible rfl)
              try simp only [Act.put, List.setIfInBounds_toArray, List.set_cons_zero, List.set_cons_succ, List.getElem_toArray, List.getElem_cons_zero, List.getElem_cons_succ]
              refine wpAnyH_take (i := 2) (v := ?_) rfl (by kernel_rfl) (by kernel_rfl) (by kernel_rfl) (fun _ _ _ h => h) (Or.inl ⟨by rfl, ?_⟩) (by assumption) ?_
              rotate_left
              · (intro W hW; (try dsimp only at hW); go_simp; try with_reducible rfl)
              try simp only [Act.put, List.setIfInBounds_toArray, List.set_cons_zero, List.set_cons_succ, List.getElem_toArray, List.getElem_cons_zero, List.getElem_cons_succ]
              refine wpAnyH_ready (rs := [3]) (by kernel_rfl) (by simp) ?_
              refine AllReadyH.cons rfl (fun K hK => ?_) AllReadyH.nil
              simp only [List.getElem_toArray, List.getElem_cons_zero, List.getElem_cons_succ]
              go_simp
              go_at_call 157
              refine (rcount_any (.mk thr n i) _ _ _ (hmid.pure HD1.out hH0.2).2.2.2).mono ?_
              rintro e wq ⟨rfl, Fq⟩
              rw [← HCN.out]
              have Fq := hH0.2.pure Fq
              refine hK.out _ _ ⟨(htb.fr Fq (by simp)).cell, Fq⟩ (fun hH1 => ?_)
              clear hK K hH0
              try simp only [Act.put, List.setIfInBounds_toArray, List.set_cons_zero, List.set_cons_succ, List.getElem_toArray, List.getElem_cons_zero, List.getElem_cons_succ]
              refine wpAnyH_take (i := 4) (v := ?_) rfl (by kernel_rfl) (by kernel_rfl) (by kernel_rfl) (fun _ _ _ h => h) (Or.inl ⟨by rfl, ?_⟩) (by assumption) ?_
              rotate_left
              · (intro W hW; (try dsimp only at hW); go_simp; try with_reducible rfl)
              try simp only [Act.put, List.setIfInBounds_toArray, List.set_cons_zero, List.set_cons_succ, List.getElem_toArray, List.getElem_cons_zero, List.getElem_cons_succ]
              refine wpAnyH_done (by kernel_rfl) ?_ _
              go_wp2_with fail
              go_meet
              exact ⟨rfl, hH1.2⟩
            case rest =>
              obtain ⟨rfl, Fq⟩ := hcut
              obtain ⟨wq, hwq⟩ : ∃ wq : World, wq = wc := ⟨_, rfl⟩
              subst hwq
              have hmq := hmid.pure HD1.out Fq
              have tbq := hmq.2.2.1
              have RBq := tbq.cell
              have hBq := blk_lt tbq
              have hcl : cnt1 (.mk thr n i) = n.length + i.length := rfl
              clear hb2 hmid htb RB hM
              cases T with
              | true =>
                have hMR : mrgT thr (n, i) = mergedT thr (n, i) true := by
                  have := HT.out
                  unfold mrgT
                  rw [if_neg H1.out, if_pos (by have := eq_of_beq HT.out.symm; rw [HCN.out, hcl] at this; exact this)]
                rw [hMR] at hMi
                have HMR := Lib.hid hMR
                clear hMR hcl
                go_wp2_with fail
                refine (rmerged_any thr n i true _ (Db D w1 wq B) _ (db_lt HD1.out hmq.1) (by omega) hmq.2.2.2).mono ?_
                rintro e w3 ⟨v3, rfl, hT3, F3⟩
                generalize mergedT thr (n, i) true = M at *
                obtain ⟨tM, nM, iM⟩ := M
                obtain ⟨th, X1, m1, k1, X2, m2, k2, rfl⟩ := hT3.shape
                have K3 := tbq.fr F3 (by simp)
                have R3 := K3.cell
                have Z3 := K3.free
                have hl3 := blk_lt K3
                have hm4 := hmq.next HD1.out F3 hT3
                clear RBq tbq hmq hT3
                go_wp2_with fail
                clear R3 Z3 K3 F3
                generalize World.setCell (World.setCell (World.setCell w3 _ _) _ _) _ _ = w4 at *
                refine (rsorted_any tM nM iM _ (Db D w1 w4 B) w4 (db_lt HD1.out hm4.1) (by simp only [Tr.inner] at hMi; omega) hm4.2.2.2).mono ?_
                rintro e w5 ⟨v5, rfl, hT5, F5⟩
                obtain ⟨th5, Z1, o1, z1, Z2, o2, z2, rfl⟩ := hT5.shape
                have K5 := (hm4.2.2.1).fr F5 (by simp)
                have R5 := K5.cell
                have Z5 := K5.free
                have hl5 := blk_lt K5
                have hm5 := hm4.next HD1.out F5 hT5
                go_upto_region 15 with (fail)
                clear R5 Z5 K5 hT5 F5 hl5
                generalize World.setCell (World.setCell (World.setCell w5 _ _) _ _) _ _ = w6 at *
                obtain ⟨O, hO⟩ : ∃ O, O = ordT (.mk tM nM iM) := ⟨_, rfl⟩
                rw [← hO] at hm5
                have HFO := Lib.hid hO.symm
                clear hO
                obtain ⟨tO, nO, iO⟩ := O
                have hTO := hm5.2.2.2
                simp only [TrD] at hTO
                obtain ⟨vnx, vix, cx, hsh, k0, q1, q2, q3, q4, q5, q6⟩ := hTO
                simp only [Value.agg.injEq, Array.mk.injEq, List.cons.injEq, and_true] at hsh
                obtain ⟨hsh0, hsh1, hsh2⟩ := hsh
                injection hsh0 with _ hsh0
                subst hsh0 hsh1 hsh2
                obtain ⟨Y1, nn, d1, e1, l1, l2, l3, l4⟩ := id q1
                injection e1 with a1 a2 a3
                subst a1 a2 a3
                obtain ⟨Y2, mm, d2, e2, r1, r2, r3, r4⟩ := id q3
                injection e2 with a1 a2 a3
                subst a1 a2 a3
                have hlen := q6.len
                obtain rfl : o2 = iO.length := by omega
                obtain rfl : o1 = nO.length := by simpa using l1.symm
                unfold Few at q4 q5
                unfold maxLen at l3 r3
                have K6 := hm5.2.2.1
                have R6 := K6.cell
                have hl6 := blk_lt K6
                have b46 := b4.fr hm5.1 (by simp)
                have R4 := b46.cell
                have Z4 := b46.free
                have hl4 := blk_lt b46
                have F16 := F1.pure hm5.1
                by_cases hn0 : nO.length = 0
                · obtain rfl : nO = [] := List.eq_nil_of_length_eq_zero hn0
                  by_cases hi1 : iO.length = 1
                  · obtain ⟨y, rfl⟩ := List.length_eq_one_iff.1 hi1
                    have HFN : Hid (finT (.mk th5 [] [y]) = y) := rfl
                    obtain ⟨bb, oo, rfl, hbb, hcc⟩ := r4 (by simp)
                    obtain ⟨x0, y0, z0, e0, e1, e2, hy0⟩ := q6.get 0 (by simp)
                    simp only [Nat.zero_mul, Nat.zero_add] at e0 e1 e2
                    have hyT : TrD w6 (Db D w1 w6 B) (.agg #[x0, y0, z0]) y := hy0
                    obtain ⟨ty, W1, p1, v1, W2, p2, v2, hsh⟩ := hyT.shape
                    simp only [Value.agg.injEq, Array.mk.injEq, List.cons.injEq, and_true] at hsh
                    obtain ⟨rfl, rfl, rfl⟩ := hsh
                    have g0 : w6.cell? ⟨bb, oo, none⟩ = some (.int .i64 ty) := hcc _ _ e0
                    have g1 : w6.cell? ⟨bb, oo + 1, none⟩ = some (.slice W1 p1 v1) := hcc _ _ e1
                    have g2 : w6.cell? ⟨bb, oo + 2, none⟩ = some (.slice W2 p2 v2) := hcc _ _ e2
                    clear e0 e1 e2 hcc
                    go_wp2_with fail
                    refine bodyPost_ret (v := .agg #[.int .i64 ty, .slice W1 p1 v1, .slice W2 p2 v2]) (by simp [results, Tryz.results103, go_sem, R4, R6]) rfl ?_
                    obtain ⟨f1, f2⟩ := hm5.fin HD.out hz1 F1 hyT (fr_fill3 w6 (w.heap.size + 1) _ _ _)
                    exact ⟨_, rfl, by rw [HNT.out, HF.out, HMR.out, HFO.out, HFN.out]; exact f1, f2⟩
                  · have HFN : Hid (finT (.mk th5 [] iO) = .mk th5 [] iO) := by
                      unfold Hid finT
                      rcases iO with _ | ⟨y, _ | ⟨y2, r⟩⟩
                      · rfl
                      · exact absurd rfl hi1
                      · rfl
                    have hb1 : ((iO.length : Int) == 1) = false := by rw [beq_eq_false_iff_ne]; omega
                    clear hi1
                    go_wp2_with fail
                    refine bodyPost_ret (v := .agg #[.int .i64 th5, .slice Z1 0 z1, .slice Z2 iO.length z2]) (by simp [results, Tryz.results103, go_sem, R4, R6]) rfl ?_
                    obtain ⟨f1, f2⟩ := hm5.fin HD.out hz1 F1 hm5.2.2.2 (fr_fill3 w6 (w.heap.size + 1) _ _ _)
                    exact ⟨_, rfl, by rw [HNT.out, HF.out, HMR.out, HFO.out, HFN.out]; exact f1, f2⟩
                · have HFN : Hid (finT (.mk th5 nO iO) = .mk th5 nO iO) := by
                    unfold Hid finT
                    cases nO with
                    | nil => exact absurd rfl hn0
                    | cons a r => rfl
                  have hb1 : ((nO.length : Int) == 0) = false := by rw [beq_eq_false_iff_ne]; omega
                  clear hn0
                  go_wp2_with fail
                  refine bodyPost_ret (v := .agg #[.int .i64 th5, .slice Z1 nO.length z1, .slice Z2 iO.length z2]) (by simp [results, Tryz.results103, go_sem, R4, R6]) rfl ?_
                  obtain ⟨f1, f2⟩ := hm5.fin HD.out hz1 F1 hm5.2.2.2 (fr_fill3 w6 (w.heap.size + 1) _ _ _)
                  exact ⟨_, rfl, by rw [HNT.out, HF.out, HMR.out, HFO.out, HFN.out]; exact f1, f2⟩
              | false =>
                have hMR : mrgT thr (n, i) = .mk thr n i := by
                  unfold mrgT
                  rw [if_neg H1.out, if_neg (fun e => by have h := HT.out; rw [HCN.out, hcl] at h; exact absurd e (beq_eq_false_iff_ne.1 h.symm))]
                rw [hMR] at hMi
                have HMR := Lib.hid hMR
                clear hMR hcl
                obtain ⟨M, hM⟩ : ∃ M, M = Tr.mk thr n i := ⟨_, rfl⟩
                rw [← hM] at hmq hMi HMR
                clear hM
                obtain ⟨tM, nM, iM⟩ := M
                go_wp2_with fail
                refine (rsorted_any tM nM iM _ (Db D w1 wq B) wq (db_lt HD1.out hmq.1) (by simp only [Tr.inner] at hMi; omega) hmq.2.2.2).mono ?_
                rintro e w5 ⟨v5, rfl, hT5, F5⟩
                obtain ⟨th5, Z1, o1, z1, Z2, o2, z2, rfl⟩ := hT5.shape
                have K5 := (hmq.2.2.1).fr F5 (by simp)
                have R5 := K5.cell
                have Z5 := K5.free
                have hl5 := blk_lt K5
                have hm5 := hmq.next HD1.out F5 hT5
                go_upto_region 15 with (fail)
                clear R5 Z5 K5 hT5 F5 hl5
                generalize World.setCell (World.setCell (World.setCell w5 _ _) _ _) _ _ = w6 at *
                obtain ⟨O, hO⟩ : ∃ O, O = ordT (.mk tM nM iM) := ⟨_, rfl⟩
                rw [← hO] at hm5
                have HFO := Lib.hid hO.symm
                clear hO
                obtain ⟨tO, nO, iO⟩ := O
                have hTO := hm5.2.2.2
                simp only [TrD] at hTO
                obtain ⟨vnx, vix, cx, hsh, k0, q1, q2, q3, q4, q5, q6⟩ := hTO
                simp only [Value.agg.injEq, Array.mk.injEq, List.cons.injEq, and_true] at hsh
                obtain ⟨hsh0, hsh1, hsh2⟩ := hsh
                injection hsh0 with _ hsh0
                subst hsh0 hsh1 hsh2
                obtain ⟨Y1, nn, d1, e1, l1, l2, l3, l4⟩ := id q1
                injection e1 with a1 a2 a3
                subst a1 a2 a3
                obtain ⟨Y2, mm, d2, e2, r1, r2, r3, r4⟩ := id q3
                injection e2 with a1 a2 a3
                subst a1 a2 a3
                have hlen := q6.len
                obtain rfl : o2 = iO.length := by omega
                obtain rfl : o1 = nO.length := by simpa using l1.symm
                unfold Few at q4 q5
                unfold maxLen at l3 r3
                have K6 := hm5.2.2.1
                have R6 := K6.cell
                have hl6 := blk_lt K6
                have b46 := b4.fr hm5.1 (by simp)
                have R4 := b46.cell
                have Z4 := b46.free
                have hl4 := blk_lt b46
                have F16 := F1.pure hm5.1
                by_cases hn0 : nO.length = 0
                · obtain rfl : nO = [] := List.eq_nil_of_length_eq_zero hn0
                  by_cases hi1 : iO.length = 1
                  · obtain ⟨y, rfl⟩ := List.length_eq_one_iff.1 hi1
                    have HFN : Hid (finT (.mk th5 [] [y]) = y) := rfl
                    obtain ⟨bb, oo, rfl, hbb, hcc⟩ := r4 (by simp)
                    obtain ⟨x0, y0, z0, e0, e1, e2, hy0⟩ := q6.get 0 (by simp)
                    simp only [Nat.zero_mul, Nat.zero_add] at e0 e1 e2
                    have hyT : TrD w6 (Db D w1 w6 B) (.agg #[x0, y0, z0]) y := hy0
                    obtain ⟨ty, W1, p1, v1, W2, p2, v2, hsh⟩ := hyT.shape
                    simp only [Value.agg.injEq, Array.mk.injEq, List.cons.injEq, and_true] at hsh
                    obtain ⟨rfl, rfl, rfl⟩ := hsh
                    have g0 : w6.cell? ⟨bb, oo, none⟩ = some (.int .i64 ty) := hcc _ _ e0
                    have g1 : w6.cell? ⟨bb, oo + 1, none⟩ = some (.slice W1 p1 v1) := hcc _ _ e1
                    have g2 : w6.cell? ⟨bb, oo + 2, none⟩ = some (.slice W2 p2 v2) := hcc _ _ e2
                    clear e0 e1 e2 hcc
                    go_wp2_with fail
                    refine bodyPost_ret (v := .agg #[.int .i64 ty, .slice W1 p1 v1, .slice W2 p2 v2]) (by simp [results, Tryz.results103, go_sem, R4, R6]) rfl ?_
                    obtain ⟨f1, f2⟩ := hm5.fin HD.out hz1 F1 hyT (fr_fill3 w6 (w.heap.size + 1) _ _ _)
                    exact ⟨_, rfl, by rw [HNT.out, HF.out, HMR.out, HFO.out, HFN.out]; exact f1, f2⟩
                  · have HFN : Hid (finT (.mk th5 [] iO) = .mk th5 [] iO) := by
                      unfold Hid finT
                      rcases iO with _ | ⟨y, _ | ⟨y2, r⟩⟩
                      · rfl
                      · exact absurd rfl hi1
                      · rfl
                    have hb1 : ((iO.length : Int) == 1) = false := by rw [beq_eq_false_iff_ne]; omega
                    clear hi1
                    go_wp2_with fail
                    refine bodyPost_ret (v := .agg #[.int .i64 th5, .slice Z1 0 z1, .slice Z2 iO.length z2]) (by simp [results, Tryz.results103, go_sem, R4, R6]) rfl ?_
                    obtain ⟨f1, f2⟩ := hm5.fin HD.out hz1 F1 hm5.2.2.2 (fr_fill3 w6 (w.heap.size + 1) _ _ _)
                    exact ⟨_, rfl, by rw [HNT.out, HF.out, HMR.out, HFO.out, HFN.out]; exact f1, f2⟩
                · have HFN : Hid (finT (.mk th5 nO iO) = .mk th5 nO iO) := by
                    unfold Hid finT
                    cases nO with
                    | nil => exact absurd rfl hn0
                    | cons a r => rfl
                  have hb1 : ((nO.length : Int) == 0) = false := by rw [beq_eq_false_iff_ne]; omega
                  clear hn0
                  go_wp2_with fail
                  refine bodyPost_ret (v := .agg #[.int .i64 th5, .slice Z1 nO.length z1, .slice Z2 iO.length z2]) (by simp [results, Tryz.results103, go_sem, R4, R6]) rfl ?_
                  obtain ⟨f1, f2⟩ := hm5.fin HD.out hz1 F1 hm5.2.2.2 (fr_fill3 w6 (w.heap.size + 1) _ _ _)
                  exact ⟨_, rfl, by rw [HNT.out, HF.out, HMR.out, HFO.out, HFN.out]; exact f1, f2⟩
end Go.Proofs.YtpdhckbiioobhaaGreatDoor

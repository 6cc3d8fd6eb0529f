/- Walks: check, level, Valid of trusts (program and reference). By gen_tr.py. -/
import Derived.Test.YtpdhckbiioobhaaGreatDoorTrW
import Derived.Test.YtpdhckbiioobhaaGreatDoorOfW
import Derived.Test.YtpdhckbiioobhaaGreatDoorFnW
namespace Go.Proofs.YtpdhckbiioobhaaGreatDoor
open Go.RowKit

theorem node_any (k : Int) (w : World) : Calls Tryz.prog 174 #[.int .i64 k] w fun e w' => e = .returned (.bool (decide (0 ≤ k ∧ k < 10))) ∧ w = w' := by
  go_enter Tryz.func174, Tryz.ntmps174
  go_wp2
  all_goals
    go_ret
    exact ⟨ret_bool (by by_cases h1 : 0 ≤ k <;> by_cases h2 : k < 10 <;> simp [h1, h2] <;> omega), rfl⟩

theorem level1_any (k : Int) (w : World) (_ : Wi k) : Calls Tryz.prog 176 #[.int .i64 k] w fun e w' => e = .returned (.bool (decide (k < 0 ∨ 10 ≤ k))) ∧ w = w' := by
  have hb : decide (k < 0 ∨ 10 ≤ k) = !decide (0 ≤ k ∧ k < 10) := by
    by_cases h1 : 0 ≤ k <;> by_cases h2 : k < 10 <;> simp [h1, h2] <;> omega
  rw [hb]
  have H : ∀ b : Bool, b = decide (0 ≤ k ∧ k < 10) → Calls Tryz.prog 176 #[.int .i64 k] w fun e w' => e = .returned (.bool (!b)) ∧ w = w' := by
    intro b hb
    have HB := Lib.hid hb
    clear hb
    go_enter Tryz.func176, Tryz.ntmps176
    go_wp2_with (go_at_call 174; refine (node_any _ _).mono ?_; rintro e w' ⟨rfl, rfl⟩; rw [← HB.out])
    go_ret
    exact ⟨rfl, rfl⟩
  exact H _ rfl

set_option maxHeartbeats 2000000 in
set_option maxRecDepth 100000 in
theorem rcheck_any (d : Nat) : ∀ (t : Tr) (v : Value) (w : World) (r : Option Nat), t.dep ≤ d → TrR w r v t →
    Calls Tryz.prog 83 #[v] w fun e w' => e = .returned (.int .i64 (checkE t)) ∧ Fr none w w' := by
  induction d with
  | zero =>
    intro t v w r hd
    cases t
    simp [Tr.dep] at hd
  | succ d ih =>
    intro t v w r hd h
    obtain ⟨thr, nodes, inner⟩ := t
    obtain ⟨A, c, A', c', rfl, hthr, hn, hn2, hi2, hi3, hi4, hcell⟩ := h.open_
    have h0 : Hid (checkE (.mk thr nodes inner) = if thr < 1 ∨ ((nodes.length + inner.length : Nat) : Int) < thr then 4 else if nodes.any (fun k => decide (k < 0 ∨ 10 ≤ k)) then 5 else if (ofS nodes 0).2 ≠ 0 then (ofS nodes 0).2 else checkL inner) := by unfold Hid; simp only [checkE]
    by_cases ht : thr < 1 ∨ ((nodes.length + inner.length : Nat) : Int) < thr
    · have hfin : Hid (checkE (.mk thr nodes inner) = 4) := by unfold Hid; rw [h0.out, if_pos ht]
      have ht' : thr < 1 ∨ (nodes.length : Int) + inner.length < thr := by omega
      clear ht
      rcases ht' with ht | ht
      · go_enter Tryz.func83, Tryz.ntmps83
        go_wp2_with fail
        all_goals first | (exfalso; omega) | skip
        go_ret
        exact ⟨ret_int (by rw [hfin.out]; try rfl), (Fr.refl _ _).alloc _⟩
      · have ht1 : 1 ≤ thr := by omega
        go_enter Tryz.func83, Tryz.ntmps83
        go_wp2_with fail
        all_goals first | (exfalso; omega) | skip
        go_ret
        exact ⟨ret_int (by rw [hfin.out]; try rfl), (Fr.refl _ _).alloc _⟩
    · have h1 : Hid (checkE (.mk thr nodes inner) = if nodes.any (fun k => decide (k < 0 ∨ 10 ≤ k)) then 5 else if (ofS nodes 0).2 ≠ 0 then (ofS nodes 0).2 else checkL inner) := by unfold Hid; rw [h0.out, if_neg ht]
      have ht1 : 1 ≤ thr := by omega
      have ht2 : thr ≤ (nodes.length : Int) + inner.length := by omega
      clear ht h0
      go_enter Tryz.func83, Tryz.ntmps83
      go_wp2_with fail
      generalize hW : w.alloc _ = w1
      have F1 : Fr none w w1 := hW ▸ (Fr.refl _ _).alloc _
      have B1 : Hid (w1.heap[w.heap.size]? = some (.cells #[.int .i64 thr, .slice A nodes.length c, .slice A' inner.length c'] 31 (0, 0))) := by rw [← hW]; exact blk_new _ _
      clear hW
      have hn' := hn.fr (F1.mono (r := r))
      have R1 := blk_cell B1.out
      go_loop [28] (fun i => ∃ k : Nat, k ≤ nodes.length ∧ i = .int .i64 k ∧ Hid (nodes.any (fun k => decide (k < 0 ∨ 10 ≤ k)) = (nodes.drop k).any (fun k => decide (k < 0 ∨ 10 ≤ k)))) (fun i => nodes.length - (intOf i).toNat)
      case atStart => exact ⟨0, Nat.zero_le _, rfl, by simp [Hid]⟩
      case round =>
        obtain ⟨k, hk, rfl, hany⟩ := hrel
        by_cases hlt : k < nodes.length
        · obtain ⟨A0, c0, e0, q1, q2, hc1⟩ := hn'.open_
          injection e0 with e1 _ e3
          subst e1 e3
          obtain ⟨b, off, rfl, hb, hbr, hcc⟩ := hc1 (by omega)
          have hck := hcc k hlt
          have hd2 : Hid (nodes.drop k = nodes[k] :: nodes.drop (k + 1)) := List.drop_eq_getElem_cons hlt
          clear hcc hc1
          by_cases hr : nodes[k] < 0 ∨ 10 ≤ nodes[k]
          · have ha : nodes.any (fun k => decide (k < 0 ∨ 10 ≤ k)) = true := by
              rw [hany.out, hd2.out, List.any_cons, decide_eq_true hr]; rfl
            have hfin : Hid (checkE (.mk thr nodes inner) = 5) := by unfold Hid; rw [h1.out, if_pos ha]
            clear ha
            by_cases hr1 : nodes[k] < 0
            all_goals
              go_wp2_with fail
              all_goals first | (exfalso; omega) | skip
              all_goals (go_ret; exact ⟨ret_int (by rw [hfin.out]; try rfl), F1⟩)
          · have hr1 : 0 ≤ nodes[k] := by omega
            have hr2 : nodes[k] < 10 := by omega
            have hb2 : decide (nodes[k] < 0 ∨ 10 ≤ nodes[k]) = false := decide_eq_false hr
            have HB := Lib.hid hb2
            clear hr hb2
            go_wp2_with fail
            go_round
            case rel => exact ⟨k + 1, by omega, by go_num, by unfold Hid; rw [hany.out, hd2.out, List.any_cons, HB.out]; rfl⟩
            case measure => simp [intOf]; omega
        · obtain rfl : k = nodes.length := by omega
          have ha : nodes.any (fun k => decide (k < 0 ∨ 10 ≤ k)) = false := by rw [hany.out]; simp
          have h2 : Hid (checkE (.mk thr nodes inner) = if (ofS nodes 0).2 ≠ 0 then (ofS nodes 0).2 else checkL inner) := by unfold Hid; rw [h1.out, if_neg (by rw [ha]; simp)]
          clear h1 ha
          go_wp2_with fail
          refine (rof_any nodes _ _ r hn').mono ?_
          rintro e w' ⟨rfl, rfl⟩
          by_cases hof : (ofS nodes 0).2 = 0
          · have hfin : Hid (checkE (.mk thr nodes inner) = checkL inner) := by unfold Hid; rw [h2.out, if_neg (by rw [hof]; simp)]
            have ho0 : ((ofS nodes 0).2 != 0) = false := by rw [bne_eq_false_iff_eq]; exact hof
            clear hof h2
            go_wp2_with fail
            go_loopw [51] (fun i wr => Fr none w1 wr ∧ ∃ k : Nat, k ≤ inner.length ∧ i = .int .i64 k ∧ Hid (checkL inner = checkL (inner.drop k))) (fun i _ => inner.length - (intOf i).toNat)
            case atStart => exact ⟨Fr.refl _ _, 0, Nat.zero_le _, rfl, by simp [Hid]⟩
            case round =>
              obtain ⟨F2, k, hk, rfl, ho⟩ := hrel
              by_cases hlt : k < inner.length
              · have hd2 : Hid (inner.drop k = inner[k] :: inner.drop (k + 1)) := List.drop_eq_getElem_cons hlt
                obtain ⟨b, off, rfl, hb, hbr, hc⟩ := hcell (by omega)
                obtain ⟨x, y, z, g0, g1, g2, gt⟩ := hc k hlt
                obtain ⟨th, A1, n1, c1, A2, n2, c2, rfl, rfl, rfl⟩ := gt.shape
                have F3 := F1.pure F2
                have g0' := F3.keep g0 (by simp)
                have g1' := F3.keep g1 (by simp)
                have g2' := F3.keep g2 (by simp)
                have hdd : (inner[k]).dep ≤ d := by have := depL_get inner k hlt; simp only [Tr.dep] at hd; omega
                have gt' := (gt.fr (F3.mono (r := r)))
                clear g0 g1 g2
                go_wp2_with fail
                refine (ih inner[k] _ _ r hdd (gt'.fr ((Fr.refl _ _).alloc _))).mono ?_
                rintro e w2 ⟨rfl, F4⟩
                have F5 := (F2.alloc _).pure F4
                clear g0' g1' g2' F4
                by_cases he : checkE inner[k] = 0
                · have he0 : (checkE inner[k] != 0) = false := by rw [bne_eq_false_iff_eq]; exact he
                  have HE := Lib.hid he
                  clear he
                  go_wp2_with fail
                  go_roundw
                  case rel =>
                    refine ⟨F5, k + 1, by omega, by go_num, ?_⟩
                    unfold Hid
                    rw [ho.out, hd2.out]
                    simp only [checkL]
                    rw [if_neg (by rw [HE.out]; simp)]
                  case measure => simp [intOf]; omega
                · have he0 : (checkE inner[k] != 0) = true := by rw [bne_iff_ne]; exact he
                  have HE := Lib.hid he
                  clear he
                  go_wp2_with fail
                  go_ret
                  refine ⟨ret_int ?_, F1.pure F5⟩
                  rw [hfin.out, ho.out, hd2.out]
                  simp only [checkL]
                  rw [if_pos HE.out]
              · obtain rfl : k = inner.length := by omega
                go_wp2
                go_ret
                refine ⟨ret_int ?_, F1.pure F2⟩
                rw [hfin.out, ho.out]
                simp [checkL]
          · have hfin : Hid (checkE (.mk thr nodes inner) = (ofS nodes 0).2) := by unfold Hid; rw [h2.out, if_pos hof]
            have ho0 : ((ofS nodes 0).2 != 0) = true := by rw [bne_iff_ne]; exact hof
            clear hof h2
            go_wp2_with fail
            go_ret
            exact ⟨ret_int (by rw [hfin.out]; try rfl), F1⟩

set_option maxHeartbeats 2000000 in
set_option maxRecDepth 100000 in
theorem level_any (d : Nat) : ∀ (t : Tr) (v : Value) (w : World) (r : Option Nat), t.dep ≤ d → TrR w r v t →
    Calls Tryz.prog 130 #[v] w fun e w' => e = .returned (.int .i64 (checkE t)) ∧ Fr none w w' := by
  induction d with
  | zero =>
    intro t v w r hd
    cases t
    simp [Tr.dep] at hd
  | succ d ih =>
    intro t v w r hd h
    obtain ⟨thr, nodes, inner⟩ := t
    obtain ⟨A, c, A', c', rfl, hthr, hn, hn2, hi2, hi3, hi4, hcell⟩ := h.open_
    have h0 : Hid (checkE (.mk thr nodes inner) = if thr < 1 ∨ ((nodes.length + inner.length : Nat) : Int) < thr then 4 else if nodes.any (fun k => decide (k < 0 ∨ 10 ≤ k)) then 5 else if (ofS nodes 0).2 ≠ 0 then (ofS nodes 0).2 else checkL inner) := by unfold Hid; simp only [checkE]
    by_cases ht : thr < 1 ∨ ((nodes.length + inner.length : Nat) : Int) < thr
    · have hfin : Hid (checkE (.mk thr nodes inner) = 4) := by unfold Hid; rw [h0.out, if_pos ht]
      have ht' : thr < 1 ∨ (nodes.length : Int) + inner.length < thr := by omega
      clear ht
      rcases ht' with ht | ht
      · go_enter Tryz.func130, Tryz.ntmps130
        go_wp2_with fail
        all_goals first | (exfalso; omega) | skip
        go_ret
        exact ⟨ret_int (by rw [hfin.out]; try rfl), (Fr.refl _ _).alloc _⟩
      · have ht1 : 1 ≤ thr := by omega
        go_enter Tryz.func130, Tryz.ntmps130
        go_wp2_with fail
        all_goals first | (exfalso; omega) | skip
        go_ret
        exact ⟨ret_int (by rw [hfin.out]; try rfl), (Fr.refl _ _).alloc _⟩
    · have h1 : Hid (checkE (.mk thr nodes inner) = if nodes.any (fun k => decide (k < 0 ∨ 10 ≤ k)) then 5 else if (ofS nodes 0).2 ≠ 0 then (ofS nodes 0).2 else checkL inner) := by unfold Hid; rw [h0.out, if_neg ht]
      have ht1 : 1 ≤ thr := by omega
      have ht2 : thr ≤ (nodes.length : Int) + inner.length := by omega
      clear ht h0
      go_enter Tryz.func130, Tryz.ntmps130
      go_wp2_with fail
      generalize hW : w.alloc _ = w1
      have F1 : Fr none w w1 := hW ▸ (Fr.refl _ _).alloc _
      have B1 : Hid (w1.heap[w.heap.size]? = some (.cells #[.int .i64 thr, .slice A nodes.length c, .slice A' inner.length c'] 31 (0, 0))) := by rw [← hW]; exact blk_new _ _
      clear hW
      have hn' := hn.fr (F1.mono (r := r))
      have R1 := blk_cell B1.out
      refine (containsFunc_any 176 (fun k => decide (k < 0 ∨ 10 ≤ k)) (fun _ _ => by kernel_rfl) level1_any nodes _ _ r hn').mono ?_
      rintro e w' ⟨rfl, rfl⟩
      have HQ : ∃ q, Hid (nodes.any (fun k => decide (k < 0 ∨ 10 ≤ k)) = q) := ⟨_, rfl⟩
      obtain ⟨q, hq⟩ := HQ
      rw [hq.out]
      cases q
      rotate_left
      · have hfin : Hid (checkE (.mk thr nodes inner) = 5) := by unfold Hid; rw [h1.out, if_pos hq.out]
        go_wp2_with fail
        go_ret
        exact ⟨ret_int (by rw [hfin.out]; try rfl), F1⟩
      · have h2 : Hid (checkE (.mk thr nodes inner) = if (ofS nodes 0).2 ≠ 0 then (ofS nodes 0).2 else checkL inner) := by unfold Hid; rw [h1.out, if_neg (by rw [hq.out]; simp)]
        clear h1
        go_wp2_with fail
        refine (of_any nodes _ _ r hn').mono ?_
        rintro e w' ⟨rfl, rfl⟩
        by_cases hof : (ofS nodes 0).2 = 0
        · have hfin : Hid (checkE (.mk thr nodes inner) = checkL inner) := by unfold Hid; rw [h2.out, if_neg (by rw [hof]; simp)]
          have ho0 : ((ofS nodes 0).2 != 0) = false := by rw [bne_eq_false_iff_eq]; exact hof
          clear hof h2
          go_wp2_with fail
          go_loopw [38] (fun i wr => Fr none w1 wr ∧ ∃ k : Nat, k ≤ inner.length ∧ i = .int .i64 k ∧ Hid (checkL inner = checkL (inner.drop k))) (fun i _ => inner.length - (intOf i).toNat)
          case atStart => exact ⟨Fr.refl _ _, 0, Nat.zero_le _, rfl, by simp [Hid]⟩
          case round =>
            obtain ⟨F2, k, hk, rfl, ho⟩ := hrel
            by_cases hlt : k < inner.length
            · have hd2 : Hid (inner.drop k = inner[k] :: inner.drop (k + 1)) := List.drop_eq_getElem_cons hlt
              obtain ⟨b, off, rfl, hb, hbr, hc⟩ := hcell (by omega)
              obtain ⟨x, y, z, g0, g1, g2, gt⟩ := hc k hlt
              obtain ⟨th, A1, n1, c1, A2, n2, c2, rfl, rfl, rfl⟩ := gt.shape
              have F3 := F1.pure F2
              have g0' := F3.keep g0 (by simp)
              have g1' := F3.keep g1 (by simp)
              have g2' := F3.keep g2 (by simp)
              have hdd : (inner[k]).dep ≤ d := by have := depL_get inner k hlt; simp only [Tr.dep] at hd; omega
              have gt' := (gt.fr (F3.mono (r := r)))
              clear g0 g1 g2
              go_wp2_with fail
              refine (ih inner[k] _ _ r hdd (gt'.fr ((Fr.refl _ _).alloc _))).mono ?_
              rintro e w2 ⟨rfl, F4⟩
              have F5 := (F2.alloc _).pure F4
              clear g0' g1' g2' F4
              by_cases he : checkE inner[k] = 0
              · have he0 : (checkE inner[k] != 0) = false := by rw [bne_eq_false_iff_eq]; exact he
                have HE := Lib.hid he
                clear he
                go_wp2_with fail
                go_roundw
                case rel =>
                  refine ⟨F5, k + 1, by omega, by go_num, ?_⟩
                  unfold Hid
                  rw [ho.out, hd2.out]
                  simp only [checkL]
                  rw [if_neg (by rw [HE.out]; simp)]
                case measure => simp [intOf]; omega
              · have he0 : (checkE inner[k] != 0) = true := by rw [bne_iff_ne]; exact he
                have HE := Lib.hid he
                clear he
                go_wp2_with fail
                go_ret
                refine ⟨ret_int ?_, F1.pure F5⟩
                rw [hfin.out, ho.out, hd2.out]
                simp only [checkL]
                rw [if_pos HE.out]
            · obtain rfl : k = inner.length := by omega
              go_wp2
              go_ret
              refine ⟨ret_int ?_, F1.pure F2⟩
              rw [hfin.out, ho.out]
              simp [checkL]
        · have hfin : Hid (checkE (.mk thr nodes inner) = (ofS nodes 0).2) := by unfold Hid; rw [h2.out, if_pos hof]
          have ho0 : ((ofS nodes 0).2 != 0) = true := by rw [bne_iff_ne]; exact hof
          clear hof h2
          go_wp2_with fail
          go_ret
          exact ⟨ret_int (by rw [hfin.out]; try rfl), F1⟩

set_option maxHeartbeats 1000000 in
theorem rvalidT_any (t : Tr) (v : Value) (w : World) (r : Option Nat) (hs : t.size ≤ 1073741000) (h : TrR w r v t) :
    Calls Tryz.prog 21 #[v] w fun e w' => e = .returned (.int .i64 (validE t)) ∧ Fr none w w' := by
  have hd := dep_le_size t
  obtain ⟨A, c, A', c', rfl, -⟩ := (show ∃ A c A' c', v = .agg #[.int .i64 t.thr, .slice A t.nodes.length c, .slice A' t.inner.length c'] ∧ True by
    obtain ⟨thr, nodes, inner⟩ := t
    obtain ⟨A, c, A', c', rfl, _⟩ := h.open_
    exact ⟨A, c, A', c', rfl, trivial⟩)
  go_enter Tryz.func21, Tryz.ntmps21
  go_wp2_with fail
  generalize hW : w.alloc _ = w1
  have F1 : Fr none w w1 := hW ▸ (Fr.refl _ _).alloc _
  have B1 : Hid (w1.heap[w.heap.size]? = some (.cells #[.int .i64 t.thr, .slice A t.nodes.length c, .slice A' t.inner.length c'] 31 (0, 0))) := by rw [← hW]; exact blk_new _ _
  clear hW
  have h1 := h.fr (F1.mono (r := r))
  refine (rdepth_any t.dep t _ _ r (Nat.le_refl _) (by omega) h1).mono ?_
  rintro e w2 ⟨rfl, F2⟩
  have B2 := Lib.hid (blk_fr B1.out F2 (by simp))
  have h2 := h1.fr (F2.mono (r := r))
  have R2 := blk_cell B2.out
  by_cases h4 : 4 < t.dep
  · have hfin : Hid (validE t = 3) := by unfold Hid validE; rw [if_pos (.inl h4)]
    go_wp2_with fail
    go_ret
    exact ⟨ret_int (by rw [hfin.out]; try rfl), F1.pure F2⟩
  · go_wp2_with fail
    refine (rsize_any t.dep t _ _ r (Nat.le_refl _) (by omega) h2).mono ?_
    rintro e w3 ⟨rfl, F3⟩
    have h3 := h2.fr (F3.mono (r := r))
    have B3 := Lib.hid (blk_fr B2.out F3 (by simp))
    have R3 := blk_cell B3.out
    clear R2
    by_cases h5 : 200 < t.size
    · have hfin : Hid (validE t = 3) := by unfold Hid validE; rw [if_pos (.inr h5)]
      go_wp2_with fail
      go_ret
      exact ⟨ret_int (by rw [hfin.out]; try rfl), (F1.pure F2).pure F3⟩
    · have hfin : Hid (validE t = checkE t) := by unfold Hid validE; rw [if_neg (by omega)]
      go_wp2_with fail
      refine (rcheck_any t.dep t _ _ r (Nat.le_refl _) h3).mono ?_
      rintro e w4 ⟨rfl, F4⟩
      go_wp2_with fail
      go_ret
      exact ⟨ret_int (by rw [hfin.out]; try rfl), ((F1.pure F2).pure F3).pure F4⟩

set_option maxHeartbeats 1000000 in
theorem validT_any (t : Tr) (v : Value) (w : World) (r : Option Nat) (hs : t.size ≤ 1073741000) (h : TrR w r v t) :
    Calls Tryz.prog 81 #[v] w fun e w' => e = .returned (.int .i64 (validE t)) ∧ Fr none w w' := by
  have hd := dep_le_size t
  obtain ⟨A, c, A', c', rfl, -⟩ := (show ∃ A c A' c', v = .agg #[.int .i64 t.thr, .slice A t.nodes.length c, .slice A' t.inner.length c'] ∧ True by
    obtain ⟨thr, nodes, inner⟩ := t
    obtain ⟨A, c, A', c', rfl, _⟩ := h.open_
    exact ⟨A, c, A', c', rfl, trivial⟩)
  go_enter Tryz.func81, Tryz.ntmps81
  go_wp2_with fail
  generalize hW : w.alloc _ = w1
  have F1 : Fr none w w1 := hW ▸ (Fr.refl _ _).alloc _
  have B1 : Hid (w1.heap[w.heap.size]? = some (.cells #[.int .i64 t.thr, .slice A t.nodes.length c, .slice A' t.inner.length c'] 31 (0, 0))) := by rw [← hW]; exact blk_new _ _
  clear hW
  have h1 := h.fr (F1.mono (r := r))
  refine (depth_any t.dep t _ _ r (Nat.le_refl _) (by omega) h1).mono ?_
  rintro e w2 ⟨rfl, F2⟩
  have B2 := Lib.hid (blk_fr B1.out F2 (by simp))
  have h2 := h1.fr (F2.mono (r := r))
  have R2 := blk_cell B2.out
  by_cases h4 : 4 < t.dep
  · have hfin : Hid (validE t = 3) := by unfold Hid validE; rw [if_pos (.inl h4)]
    go_wp2_with fail
    go_ret
    exact ⟨ret_int (by rw [hfin.out]; try rfl), F1.pure F2⟩
  · go_wp2_with fail
    refine (tsize_any t.dep t _ _ r (Nat.le_refl _) (by omega) h2).mono ?_
    rintro e w3 ⟨rfl, F3⟩
    have h3 := h2.fr (F3.mono (r := r))
    have B3 := Lib.hid (blk_fr B2.out F3 (by simp))
    have R3 := blk_cell B3.out
    clear R2
    by_cases h5 : 200 < t.size
    · have hfin : Hid (validE t = 3) := by unfold Hid validE; rw [if_pos (.inr h5)]
      go_wp2_with fail
      go_ret
      exact ⟨ret_int (by rw [hfin.out]; try rfl), (F1.pure F2).pure F3⟩
    · have hfin : Hid (validE t = checkE t) := by unfold Hid validE; rw [if_neg (by omega)]
      go_wp2_with fail
      refine (level_any t.dep t _ _ r (Nat.le_refl _) h3).mono ?_
      rintro e w4 ⟨rfl, F4⟩
      go_wp2_with fail
      go_ret
      exact ⟨ret_int (by rw [hfin.out]; try rfl), ((F1.pure F2).pure F3).pure F4⟩

end Go.Proofs.YtpdhckbiioobhaaGreatDoor

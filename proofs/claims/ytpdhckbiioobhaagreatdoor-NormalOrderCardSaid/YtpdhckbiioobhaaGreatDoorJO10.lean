/- Some texts of this claim, joined: contracts of the functions that it reaches, and plain laws. -/
import Derived.Test.YtpdhckbiioobhaaGreatDoorJO7
import Derived.Test.YtpdhckbiioobhaaGreatDoorJO9
import Derived.Test.YtpdhckbiioobhaaGreatDoorJO5
import Derived.Test.YtpdhckbiioobhaaGreatDoorProg
import Derived.Test.YtpdhckbiioobhaaGreatDoorJO1
import Derived.StillTailTactics
import Derived.Test.YtpdhckbiioobhaaGreatDoorJO8
import Derived.Lib.ConvBytes

/- Walks: Of of package nodeset and of the reference. By gen_of.py. -/
namespace Go.Proofs.YtpdhckbiioobhaaGreatDoor
open Go.RowKit

theorem hasB_nat {m j : Nat} (hm : m < 1024) (hj : j < 10) : hasB (m : Int) (j : Int) = m.testBit j := by
  have h1 : (0 : Int) ≤ (m : Int) ∧ (m : Int) ≤ 1023 := by omega
  have h2 : (0 : Int) ≤ (j : Int) ∧ (j : Int) < 10 := by omega
  simp only [hasB, validB]
  rw [decide_eq_true h1, decide_eq_true h2]
  simp

set_option maxHeartbeats 1000000 in
theorem rof_any (l : List Int) (v : Value) (w : World) (r : Option Nat) (h : SlI w r v l) :
    Calls Tryz.prog 139 #[v] w fun e w' => e = .returned (.tuple #[.int .i64 (ofS l 0).1, .int .i64 (ofS l 0).2]) ∧ w = w' := by
  obtain ⟨A, c, rfl, q1, q2, hc⟩ := h.open_
  go_enter Tryz.func139, Tryz.ntmps139
  go_wp2_with fail
  go_loop [4, 9] (fun s i => ∃ k m : Nat, k ≤ l.length ∧ i = .int .i64 k ∧ s = .int .i64 m ∧ m < 1024 ∧ Hid (ofS l 0 = ofS (l.drop k) m)) (fun _ i => l.length - (intOf i).toNat)
  case atStart => exact ⟨0, 0, Nat.zero_le _, rfl, rfl, by omega, by simp [Hid]⟩
  case round =>
    obtain ⟨k, m, hk, rfl, rfl, hm, ho⟩ := hrel
    by_cases hlt : k < l.length
    · obtain ⟨b, off, rfl, hb, hbr, hcc⟩ := hc (by omega)
      have hck := hcc k hlt
      have hd : Hid (l.drop k = l[k] :: l.drop (k + 1)) := List.drop_eq_getElem_cons hlt
      clear hcc hc
      by_cases hr : l[k] < 0 ∨ 10 ≤ l[k]
      · have hfin : Hid (ofS l 0 = (0, 5)) := by
          unfold Hid
          rw [ho.out, hd.out]
          simp only [ofS]
          rw [if_pos hr]
        rcases hr with hr | hr
        all_goals
          go_wp2_with fail
          go_ret2
          exact ⟨by rw [hfin.out]; rfl, rfl⟩
      · obtain ⟨j, hj⟩ := Int.eq_ofNat_of_zero_le (show 0 ≤ l[k] by omega)
        have hj10 : j < 10 := by omega
        have hstep : Hid (ofS l 0 = if m.testBit j then (0, 6) else ofS (l.drop (k + 1)) (m ||| 2 ^ j)) := by
          unfold Hid
          rw [ho.out, hd.out]
          simp only [ofS]
          rw [if_neg hr, hj]
          rfl
        rw [hj] at hck
        have hhas := hasB_nat hm hj10
        have hp := pow2_lt j (by omega)
        have hp2 : 2 ^ j < 2 ^ 10 := Nat.pow_lt_pow_right (by omega) hj10
        have hor : m ||| 2 ^ j < 2 ^ 10 := Nat.or_lt_two_pow (by omega) hp2
        have hbits : bits .or .i64 ((m : Nat) : Int) (wrap64 (2 ^ j)) = ((m ||| 2 ^ j : Nat) : Int) := by
          rw [wrap_pow j (by omega), or_i64 _ _ (by omega) (by omega)]
        have HOR := Lib.hid hor
        clear hj hr hd ho hp hp2 hor
        cases hb : m.testBit j
        · rw [hb] at hhas
          have HH := Lib.hid hhas
          have HB := Lib.hid hb
          clear hhas hb
          go_wp2_with (go_at_call 85; refine (rhas_any _ _ _).mono ?_; rintro e w' ⟨rfl, rfl⟩; rw [HH.out])
          go_round
          case rel => exact ⟨k + 1, m ||| 2 ^ j, by omega, by go_num, rfl, HOR.out, by unfold Hid; rw [hstep.out, HB.out]; rfl⟩
          case measure => simp [intOf]; omega
        · rw [hb] at hhas
          have HH := Lib.hid hhas
          have HB := Lib.hid hb
          clear hhas hb
          go_wp2_with (go_at_call 85; refine (rhas_any _ _ _).mono ?_; rintro e w' ⟨rfl, rfl⟩; rw [HH.out])
          go_ret2
          exact ⟨by rw [hstep.out, HB.out]; rfl, rfl⟩
    · obtain rfl : k = l.length := by omega
      go_wp2_with fail
      go_ret2
      exact ⟨by rw [ho.out]; simp [ofS], rfl⟩

set_option maxHeartbeats 1000000 in
theorem of_any (l : List Int) (v : Value) (w : World) (r : Option Nat) (h : SlI w r v l) :
    Calls Tryz.prog 177 #[v] w fun e w' => e = .returned (.tuple #[.int .i64 (ofS l 0).1, .int .i64 (ofS l 0).2]) ∧ w = w' := by
  obtain ⟨A, c, rfl, q1, q2, hc⟩ := h.open_
  go_enter Tryz.func177, Tryz.ntmps177
  go_wp2_with fail
  go_loop [4, 9] (fun s i => ∃ k m : Nat, k ≤ l.length ∧ i = .int .i64 k ∧ s = .int .i64 m ∧ m < 1024 ∧ Hid (ofS l 0 = ofS (l.drop k) m)) (fun _ i => l.length - (intOf i).toNat)
  case atStart => exact ⟨0, 0, Nat.zero_le _, rfl, rfl, by omega, by simp [Hid]⟩
  case round =>
    obtain ⟨k, m, hk, rfl, rfl, hm, ho⟩ := hrel
    by_cases hlt : k < l.length
    · obtain ⟨b, off, rfl, hb, hbr, hcc⟩ := hc (by omega)
      have hck := hcc k hlt
      have hd : Hid (l.drop k = l[k] :: l.drop (k + 1)) := List.drop_eq_getElem_cons hlt
      clear hcc hc
      by_cases hr : l[k] < 0 ∨ 10 ≤ l[k]
      · have hfin : Hid (ofS l 0 = (0, 5)) := by
          unfold Hid
          rw [ho.out, hd.out]
          simp only [ofS]
          rw [if_pos hr]
        rcases hr with hr | hr
        all_goals
          go_wp2_with fail
          go_ret2
          exact ⟨by rw [hfin.out]; rfl, rfl⟩
      · obtain ⟨j, hj⟩ := Int.eq_ofNat_of_zero_le (show 0 ≤ l[k] by omega)
        have hj10 : j < 10 := by omega
        have hstep : Hid (ofS l 0 = if m.testBit j then (0, 6) else ofS (l.drop (k + 1)) (m ||| 2 ^ j)) := by
          unfold Hid
          rw [ho.out, hd.out]
          simp only [ofS]
          rw [if_neg hr, hj]
          rfl
        rw [hj] at hck
        have hhas := hasB_nat hm hj10
        have hp := pow2_lt j (by omega)
        have hp2 : 2 ^ j < 2 ^ 10 := Nat.pow_lt_pow_right (by omega) hj10
        have hor : m ||| 2 ^ j < 2 ^ 10 := Nat.or_lt_two_pow (by omega) hp2
        have hbits : bits .or .i64 ((m : Nat) : Int) (wrap64 (2 ^ j)) = ((m ||| 2 ^ j : Nat) : Int) := by
          rw [wrap_pow j (by omega), or_i64 _ _ (by omega) (by omega)]
        have HOR := Lib.hid hor
        clear hj hr hd ho hp hp2 hor
        cases hb : m.testBit j
        · rw [hb] at hhas
          have HH := Lib.hid hhas
          have HB := Lib.hid hb
          clear hhas hb
          go_wp2_with (go_at_call 106; refine (has_any _ _ _).mono ?_; rintro e w' ⟨rfl, rfl⟩; rw [HH.out])
          go_round
          case rel => exact ⟨k + 1, m ||| 2 ^ j, by omega, by go_num, rfl, HOR.out, by unfold Hid; rw [hstep.out, HB.out]; rfl⟩
          case measure => simp [intOf]; omega
        · rw [hb] at hhas
          have HH := Lib.hid hhas
          have HB := Lib.hid hb
          clear hhas hb
          go_wp2_with (go_at_call 106; refine (has_any _ _ _).mono ?_; rintro e w' ⟨rfl, rfl⟩; rw [HH.out])
          go_ret2
          exact ⟨by rw [hstep.out, HB.out]; rfl, rfl⟩
    · obtain rfl : k = l.length := by omega
      go_wp2_with fail
      go_ret2
      exact ⟨by rw [ho.out]; simp [ofS], rfl⟩

end Go.Proofs.YtpdhckbiioobhaaGreatDoor

/- Walks: check, level, Valid of trusts (program and reference). By gen_tr.py. -/
namespace Go.Proofs.YtpdhckbiioobhaaGreatDoor
open Go.RowKit

theorem node_any (k : Int) (w : World) : Calls Tryz.prog 174 #[.int .i64 k] w fun e w' => e = .returned (.bool (decide (0 ≤ k ∧ k < 10))) ∧ w = w' := by
  go_enter Tryz.func174, Tryz.ntmps174
  go_wp2
  all_goals
    go_ret
    exact ⟨ret_bool (by by_cases h1 : 0 ≤ k <;> by_cases h2 : k < 10 <;> simp [h1, h2] <;> omega), rfl⟩

theorem level1_any (k : Int) (w : World) (_ : Wi k) : Calls Tryz.prog 176 #[.int .i64 k] w fun e w' => e = .returned (.bool (decide (k < 0 ∨ 10 ≤ k))) ∧ w = w' := by
  have hb : decide (k < 0 ∨ 10 ≤ k) = !decide (0 ≤ k ∧ k < 10) := by
    by_cases h1 : 0 ≤ k <;> by_cases h2 : k < 10 <;> simp [h1, h2] <;> omega
  rw [hb]
  have H : ∀ b : Bool, b = decide (0 ≤ k ∧ k < 10) → Calls Tryz.prog 176 #[.int .i64 k] w fun e w' => e = .returned (.bool (!b)) ∧ w = w' := by
    intro b hb
    have HB := Lib.hid hb
    clear hb
    go_enter Tryz.func176, Tryz.ntmps176
    go_wp2_with (go_at_call 174; refine (node_any _ _).mono ?_; rintro e w' ⟨rfl, rfl⟩; rw [← HB.out])
    go_ret
    exact ⟨rfl, rfl⟩
  exact H _ rfl

set_option maxHeartbeats 2000000 in
set_option maxRecDepth 100000 in
theorem rcheck_any (d : Nat) : ∀ (t : Tr) (v : Value) (w : World) (r : Option Nat), t.dep ≤ d → TrR w r v t →
    Calls Tryz.prog 83 #[v] w fun e w' => e = .returned (.int .i64 (checkE t)) ∧ Fr none w w' := by
  induction d with
  | zero =>
    intro t v w r hd
    cases t
    simp [Tr.dep] at hd
  | succ d ih =>
    intro t v w r hd h
    obtain ⟨thr, nodes, inner⟩ := t
    obtain ⟨A, c, A', c', rfl, hthr, hn, hn2, hi2, hi3, hi4, hcell⟩ := h.open_
    have h0 : Hid (checkE (.mk thr nodes inner) = if thr < 1 ∨ ((nodes.length + inner.length : Nat) : Int) < thr then 4 else if nodes.any (fun k => decide (k < 0 ∨ 10 ≤ k)) then 5 else if (ofS nodes 0).2 ≠ 0 then (ofS nodes 0).2 else checkL inner) := by unfold Hid; simp only [checkE]
    by_cases ht : thr < 1 ∨ ((nodes.length + inner.length : Nat) : Int) < thr
    · have hfin : Hid (checkE (.mk thr nodes inner) = 4) := by unfold Hid; rw [h0.out, if_pos ht]
      have ht' : thr < 1 ∨ (nodes.length : Int) + inner.length < thr := by omega
      clear ht
      rcases ht' with ht | ht
      · go_enter Tryz.func83, Tryz.ntmps83
        go_wp2_with fail
        all_goals first | (exfalso; omega) | skip
        go_ret
        exact ⟨ret_int (by rw [hfin.out]; try rfl), (Fr.refl _ _).alloc _⟩
      · have ht1 : 1 ≤ thr := by omega
        go_enter Tryz.func83, Tryz.ntmps83
        go_wp2_with fail
        all_goals first | (exfalso; omega) | skip
        go_ret
        exact ⟨ret_int (by rw [hfin.out]; try rfl), (Fr.refl _ _).alloc _⟩
    · have h1 : Hid (checkE (.mk thr nodes inner) = if nodes.any (fun k => decide (k < 0 ∨ 10 ≤ k)) then 5 else if (ofS nodes 0).2 ≠ 0 then (ofS nodes 0).2 else checkL inner) := by unfold Hid; rw [h0.out, if_neg ht]
      have ht1 : 1 ≤ thr := by omega
      have ht2 : thr ≤ (nodes.length : Int) + inner.length := by omega
      clear ht h0
      go_enter Tryz.func83, Tryz.ntmps83
      go_wp2_with fail
      generalize hW : w.alloc _ = w1
      have F1 : Fr none w w1 := hW ▸ (Fr.refl _ _).alloc _
      have B1 : Hid (w1.heap[w.heap.size]? = some (.cells #[.int .i64 thr, .slice A nodes.length c, .slice A' inner.length c'] 31 (0, 0))) := by rw [← hW]; exact blk_new _ _
      clear hW
      have hn' := hn.fr (F1.mono (r := r))
      have R1 := blk_cell B1.out
      go_loop [28] (fun i => ∃ k : Nat, k ≤ nodes.length ∧ i = .int .i64 k ∧ Hid (nodes.any (fun k => decide (k < 0 ∨ 10 ≤ k)) = (nodes.drop k).any (fun k => decide (k < 0 ∨ 10 ≤ k)))) (fun i => nodes.length - (intOf i).toNat)
      case atStart => exact ⟨0, Nat.zero_le _, rfl, by simp [Hid]⟩
      case round =>
        obtain ⟨k, hk, rfl, hany⟩ := hrel
        by_cases hlt : k < nodes.length
        · obtain ⟨A0, c0, e0, q1, q2, hc1⟩ := hn'.open_
          injection e0 with e1 _ e3
          subst e1 e3
          obtain ⟨b, off, rfl, hb, hbr, hcc⟩ := hc1 (by omega)
          have hck := hcc k hlt
          have hd2 : Hid (nodes.drop k = nodes[k] :: nodes.drop (k + 1)) := List.drop_eq_getElem_cons hlt
          clear hcc hc1
          by_cases hr : nodes[k] < 0 ∨ 10 ≤ nodes[k]
          · have ha : nodes.any (fun k => decide (k < 0 ∨ 10 ≤ k)) = true := by
              rw [hany.out, hd2.out, List.any_cons, decide_eq_true hr]; rfl
            have hfin : Hid (checkE (.mk thr nodes inner) = 5) := by unfold Hid; rw [h1.out, if_pos ha]
            clear ha
            by_cases hr1 : nodes[k] < 0
            all_goals
              go_wp2_with fail
              all_goals first | (exfalso; omega) | skip
              all_goals (go_ret; exact ⟨ret_int (by rw [hfin.out]; try rfl), F1⟩)
          · have hr1 : 0 ≤ nodes[k] := by omega
            have hr2 : nodes[k] < 10 := by omega
            have hb2 : decide (nodes[k] < 0 ∨ 10 ≤ nodes[k]) = false := decide_eq_false hr
            have HB := Lib.hid hb2
            clear hr hb2
            go_wp2_with fail
            go_round
            case rel => exact ⟨k + 1, by omega, by go_num, by unfold Hid; rw [hany.out, hd2.out, List.any_cons, HB.out]; rfl⟩
            case measure => simp [intOf]; omega
        · obtain rfl : k = nodes.length := by omega
          have ha : nodes.any (fun k => decide (k < 0 ∨ 10 ≤ k)) = false := by rw [hany.out]; simp
          have h2 : Hid (checkE (.mk thr nodes inner) = if (ofS nodes 0).2 ≠ 0 then (ofS nodes 0).2 else checkL inner) := by unfold Hid; rw [h1.out, if_neg (by rw [ha]; simp)]
          clear h1 ha
          go_wp2_with fail
          refine (rof_any nodes _ _ r hn').mono ?_
          rintro e w' ⟨rfl, rfl⟩
          by_cases hof : (ofS nodes 0).2 = 0
          · have hfin : Hid (checkE (.mk thr nodes inner) = checkL inner) := by unfold Hid; rw [h2.out, if_neg (by rw [hof]; simp)]
            have ho0 : ((ofS nodes 0).2 != 0) = false := by rw [bne_eq_false_iff_eq]; exact hof
            clear hof h2
            go_wp2_with fail
            go_loopw [51] (fun i wr => Fr none w1 wr ∧ ∃ k : Nat, k ≤ inner.length ∧ i = .int .i64 k ∧ Hid (checkL inner = checkL (inner.drop k))) (fun i _ => inner.length - (intOf i).toNat)
            case atStart => exact ⟨Fr.refl _ _, 0, Nat.zero_le _, rfl, by simp [Hid]⟩
            case round =>
              obtain ⟨F2, k, hk, rfl, ho⟩ := hrel
              by_cases hlt : k < inner.length
              · have hd2 : Hid (inner.drop k = inner[k] :: inner.drop (k + 1)) := List.drop_eq_getElem_cons hlt
                obtain ⟨b, off, rfl, hb, hbr, hc⟩ := hcell (by omega)
                obtain ⟨x, y, z, g0, g1, g2, gt⟩ := hc k hlt
                obtain ⟨th, A1, n1, c1, A2, n2, c2, rfl, rfl, rfl⟩ := gt.shape
                have F3 := F1.pure F2
                have g0' := F3.keep g0 (by simp)
                have g1' := F3.keep g1 (by simp)
                have g2' := F3.keep g2 (by simp)
                have hdd : (inner[k]).dep ≤ d := by have := depL_get inner k hlt; simp only [Tr.dep] at hd; omega
                have gt' := (gt.fr (F3.mono (r := r)))
                clear g0 g1 g2
                go_wp2_with fail
                refine (ih inner[k] _ _ r hdd (gt'.fr ((Fr.refl _ _).alloc _))).mono ?_
                rintro e w2 ⟨rfl, F4⟩
                have F5 := (F2.alloc _).pure F4
                clear g0' g1' g2' F4
                by_cases he : checkE inner[k] = 0
                · have he0 : (checkE inner[k] != 0) = false := by rw [bne_eq_false_iff_eq]; exact he
                  have HE := Lib.hid he
                  clear he
                  go_wp2_with fail
                  go_roundw
                  case rel =>
                    refine ⟨F5, k + 1, by omega, by go_num, ?_⟩
                    unfold Hid
                    rw [ho.out, hd2.out]
                    simp only [checkL]
                    rw [if_neg (by rw [HE.out]; simp)]
                  case measure => simp [intOf]; omega
                · have he0 : (checkE inner[k] != 0) = true := by rw [bne_iff_ne]; exact he
                  have HE := Lib.hid he
                  clear he
                  go_wp2_with fail
                  go_ret
                  refine ⟨ret_int ?_, F1.pure F5⟩
                  rw [hfin.out, ho.out, hd2.out]
                  simp only [checkL]
                  rw [if_pos HE.out]
              · obtain rfl : k = inner.length := by omega
                go_wp2
                go_ret
                refine ⟨ret_int ?_, F1.pure F2⟩
                rw [hfin.out, ho.out]
                simp [checkL]
          · have hfin : Hid (checkE (.mk thr nodes inner) = (ofS nodes 0).2) := by unfold Hid; rw [h2.out, if_pos hof]
            have ho0 : ((ofS nodes 0).2 != 0) = true := by rw [bne_iff_ne]; exact hof
            clear hof h2
            go_wp2_with fail
            go_ret
            exact ⟨ret_int (by rw [hfin.out]; try rfl), F1⟩

set_option maxHeartbeats 2000000 in
set_option maxRecDepth 100000 in
theorem level_any (d : Nat) : ∀ (t : Tr) (v : Value) (w : World) (r : Option Nat), t.dep ≤ d → TrR w r v t →
    Calls Tryz.prog 130 #[v] w fun e w' => e = .returned (.int .i64 (checkE t)) ∧ Fr none w w' := by
  induction d with
  | zero =>
    intro t v w r hd
    cases t
    simp [Tr.dep] at hd
  | succ d ih =>
    intro t v w r hd h
    obtain ⟨thr, nodes, inner⟩ := t
    obtain ⟨A, c, A', c', rfl, hthr, hn, hn2, hi2, hi3, hi4, hcell⟩ := h.open_
    have h0 : Hid (checkE (.mk thr nodes inner) = if thr < 1 ∨ ((nodes.length + inner.length : Nat) : Int) < thr then 4 else if nodes.any (fun k => decide (k < 0 ∨ 10 ≤ k)) then 5 else if (ofS nodes 0).2 ≠ 0 then (ofS nodes 0).2 else checkL inner) := by unfold Hid; simp only [checkE]
    by_cases ht : thr < 1 ∨ ((nodes.length + inner.length : Nat) : Int) < thr
    · have hfin : Hid (checkE (.mk thr nodes inner) = 4) := by unfold Hid; rw [h0.out, if_pos ht]
      have ht' : thr < 1 ∨ (nodes.length : Int) + inner.length < thr := by omega
      clear ht
      rcases ht' with ht | ht
      · go_enter Tryz.func130, Tryz.ntmps130
        go_wp2_with fail
        all_goals first | (exfalso; omega) | skip
        go_ret
        exact ⟨ret_int (by rw [hfin.out]; try rfl), (Fr.refl _ _).alloc _⟩
      · have ht1 : 1 ≤ thr := by omega
        go_enter Tryz.func130, Tryz.ntmps130
        go_wp2_with fail
        all_goals first | (exfalso; omega) | skip
        go_ret
        exact ⟨ret_int (by rw [hfin.out]; try rfl), (Fr.refl _ _).alloc _⟩
    · have h1 : Hid (checkE (.mk thr nodes inner) = if nodes.any (fun k => decide (k < 0 ∨ 10 ≤ k)) then 5 else if (ofS nodes 0).2 ≠ 0 then (ofS nodes 0).2 else checkL inner) := by unfold Hid; rw [h0.out, if_neg ht]
      have ht1 : 1 ≤ thr := by omega
      have ht2 : thr ≤ (nodes.length : Int) + inner.length := by omega
      clear ht h0
      go_enter Tryz.func130, Tryz.ntmps130
      go_wp2_with fail
      generalize hW : w.alloc _ = w1
      have F1 : Fr none w w1 := hW ▸ (Fr.refl _ _).alloc _
      have B1 : Hid (w1.heap[w.heap.size]? = some (.cells #[.int .i64 thr, .slice A nodes.length c, .slice A' inner.length c'] 31 (0, 0))) := by rw [← hW]; exact blk_new _ _
      clear hW
      have hn' := hn.fr (F1.mono (r := r))
      have R1 := blk_cell B1.out
      refine (containsFunc_any 176 (fun k => decide (k < 0 ∨ 10 ≤ k)) (fun _ _ => by kernel_rfl) level1_any nodes _ _ r hn').mono ?_
      rintro e w' ⟨rfl, rfl⟩
      have HQ : ∃ q, Hid (nodes.any (fun k => decide (k < 0 ∨ 10 ≤ k)) = q) := ⟨_, rfl⟩
      obtain ⟨q, hq⟩ := HQ
      rw [hq.out]
      cases q
      rotate_left
      · have hfin : Hid (checkE (.mk thr nodes inner) = 5) := by unfold Hid; rw [h1.out, if_pos hq.out]
        go_wp2_with fail
        go_ret
        exact ⟨ret_int (by rw [hfin.out]; try rfl), F1⟩
      · have h2 : Hid (checkE (.mk thr nodes inner) = if (ofS nodes 0).2 ≠ 0 then (ofS nodes 0).2 else checkL inner) := by unfold Hid; rw [h1.out, if_neg (by rw [hq.out]; simp)]
        clear h1
        go_wp2_with fail
        refine (of_any nodes _ _ r hn').mono ?_
        rintro e w' ⟨rfl, rfl⟩
        by_cases hof : (ofS nodes 0).2 = 0
        · have hfin : Hid (checkE (.mk thr nodes inner) = checkL inner) := by unfold Hid; rw [h2.out, if_neg (by rw [hof]; simp)]
          have ho0 : ((ofS nodes 0).2 != 0) = false := by rw [bne_eq_false_iff_eq]; exact hof
          clear hof h2
          go_wp2_with fail
          go_loopw [38] (fun i wr => Fr none w1 wr ∧ ∃ k : Nat, k ≤ inner.length ∧ i = .int .i64 k ∧ Hid (checkL inner = checkL (inner.drop k))) (fun i _ => inner.length - (intOf i).toNat)
          case atStart => exact ⟨Fr.refl _ _, 0, Nat.zero_le _, rfl, by simp [Hid]⟩
          case round =>
            obtain ⟨F2, k, hk, rfl, ho⟩ := hrel
            by_cases hlt : k < inner.length
            · have hd2 : Hid (inner.drop k = inner[k] :: inner.drop (k + 1)) := List.drop_eq_getElem_cons hlt
              obtain ⟨b, off, rfl, hb, hbr, hc⟩ := hcell (by omega)
              obtain ⟨x, y, z, g0, g1, g2, gt⟩ := hc k hlt
              obtain ⟨th, A1, n1, c1, A2, n2, c2, rfl, rfl, rfl⟩ := gt.shape
              have F3 := F1.pure F2
              have g0' := F3.keep g0 (by simp)
              have g1' := F3.keep g1 (by simp)
              have g2' := F3.keep g2 (by simp)
              have hdd : (inner[k]).dep ≤ d := by have := depL_get inner k hlt; simp only [Tr.dep] at hd; omega
              have gt' := (gt.fr (F3.mono (r := r)))
              clear g0 g1 g2
              go_wp2_with fail
              refine (ih inner[k] _ _ r hdd (gt'.fr ((Fr.refl _ _).alloc _))).mono ?_
              rintro e w2 ⟨rfl, F4⟩
              have F5 := (F2.alloc _).pure F4
              clear g0' g1' g2' F4
              by_cases he : checkE inner[k] = 0
              · have he0 : (checkE inner[k] != 0) = false := by rw [bne_eq_false_iff_eq]; exact he
                have HE := Lib.hid he
                clear he
                go_wp2_with fail
                go_roundw
                case rel =>
                  refine ⟨F5, k + 1, by omega, by go_num, ?_⟩
                  unfold Hid
                  rw [ho.out, hd2.out]
                  simp only [checkL]
                  rw [if_neg (by rw [HE.out]; simp)]
                case measure => simp [intOf]; omega
              · have he0 : (checkE inner[k] != 0) = true := by rw [bne_iff_ne]; exact he
                have HE := Lib.hid he
                clear he
                go_wp2_with fail
                go_ret
                refine ⟨ret_int ?_, F1.pure F5⟩
                rw [hfin.out, ho.out, hd2.out]
                simp only [checkL]
                rw [if_pos HE.out]
            · obtain rfl : k = inner.length := by omega
              go_wp2
              go_ret
              refine ⟨ret_int ?_, F1.pure F2⟩
              rw [hfin.out, ho.out]
              simp [checkL]
        · have hfin : Hid (checkE (.mk thr nodes inner) = (ofS nodes 0).2) := by unfold Hid; rw [h2.out, if_pos hof]
          have ho0 : ((ofS nodes 0).2 != 0) = true := by rw [bne_iff_ne]; exact hof
          clear hof h2
          go_wp2_with fail
          go_ret
          exact ⟨ret_int (by rw [hfin.out]; try rfl), F1⟩

set_option maxHeartbeats 1000000 in
theorem rvalidT_any (t : Tr) (v : Value) (w : World) (r : Option Nat) (hs : t.size ≤ 1073741000) (h : TrR w r v t) :
    Calls Tryz.prog 21 #[v] w fun e w' => e = .returned (.int .i64 (validE t)) ∧ Fr none w w' := by
  have hd := dep_le_size t
  obtain ⟨A, c, A', c', rfl, -⟩ := (show ∃ A c A' c', v = .agg #[.int .i64 t.thr, .slice A t.nodes.length c, .slice A' t.inner.length c'] ∧ True by
    obtain ⟨thr, nodes, inner⟩ := t
    obtain ⟨A, c, A', c', rfl, _⟩ := h.open_
    exact ⟨A, c, A', c', rfl, trivial⟩)
  go_enter Tryz.func21, Tryz.ntmps21
  go_wp2_with fail
  generalize hW : w.alloc _ = w1
  have F1 : Fr none w w1 := hW ▸ (Fr.refl _ _).alloc _
  have B1 : Hid (w1.heap[w.heap.size]? = some (.cells #[.int .i64 t.thr, .slice A t.nodes.length c, .slice A' t.inner.length c'] 31 (0, 0))) := by rw [← hW]; exact blk_new _ _
  clear hW
  have h1 := h.fr (F1.mono (r := r))
  refine (rdepth_any t.dep t _ _ r (Nat.le_refl _) (by omega) h1).mono ?_
  rintro e w2 ⟨rfl, F2⟩
  have B2 := Lib.hid (blk_fr B1.out F2 (by simp))
  have h2 := h1.fr (F2.mono (r := r))
  have R2 := blk_cell B2.out
  by_cases h4 : 4 < t.dep
  · have hfin : Hid (validE t = 3) := by unfold Hid validE; rw [if_pos (.inl h4)]
    go_wp2_with fail
    go_ret
    exact ⟨ret_int (by rw [hfin.out]; try rfl), F1.pure F2⟩
  · go_wp2_with fail
    refine (rsize_any t.dep t _ _ r (Nat.le_refl _) (by omega) h2).mono ?_
    rintro e w3 ⟨rfl, F3⟩
    have h3 := h2.fr (F3.mono (r := r))
    have B3 := Lib.hid (blk_fr B2.out F3 (by simp))
    have R3 := blk_cell B3.out
    clear R2
    by_cases h5 : 200 < t.size
    · have hfin : Hid (validE t = 3) := by unfold Hid validE; rw [if_pos (.inr h5)]
      go_wp2_with fail
      go_ret
      exact ⟨ret_int (by rw [hfin.out]; try rfl), (F1.pure F2).pure F3⟩
    · have hfin : Hid (validE t = checkE t) := by unfold Hid validE; rw [if_neg (by omega)]
      go_wp2_with fail
      refine (rcheck_any t.dep t _ _ r (Nat.le_refl _) h3).mono ?_
      rintro e w4 ⟨rfl, F4⟩
      go_wp2_with fail
      go_ret
      exact ⟨ret_int (by rw [hfin.out]; try rfl), ((F1.pure F2).pure F3).pure F4⟩

set_option maxHeartbeats 1000000 in
theorem validT_any (t : Tr) (v : Value) (w : World) (r : Option Nat) (hs : t.size ≤ 1073741000) (h : TrR w r v t) :
    Calls Tryz.prog 81 #[v] w fun e w' => e = .returned (.int .i64 (validE t)) ∧ Fr none w w' := by
  have hd := dep_le_size t
  obtain ⟨A, c, A', c', rfl, -⟩ := (show ∃ A c A' c', v = .agg #[.int .i64 t.thr, .slice A t.nodes.length c, .slice A' t.inner.length c'] ∧ True by
    obtain ⟨thr, nodes, inner⟩ := t
    obtain ⟨A, c, A', c', rfl, _⟩ := h.open_
    exact ⟨A, c, A', c', rfl, trivial⟩)
  go_enter Tryz.func81, Tryz.ntmps81
  go_wp2_with fail
  generalize hW : w.alloc _ = w1
  have F1 : Fr none w w1 := hW ▸ (Fr.refl _ _).alloc _
  have B1 : Hid (w1.heap[w.heap.size]? = some (.cells #[.int .i64 t.thr, .slice A t.nodes.length c, .slice A' t.inner.length c'] 31 (0, 0))) := by rw [← hW]; exact blk_new _ _
  clear hW
  have h1 := h.fr (F1.mono (r := r))
  refine (depth_any t.dep t _ _ r (Nat.le_refl _) (by omega) h1).mono ?_
  rintro e w2 ⟨rfl, F2⟩
  have B2 := Lib.hid (blk_fr B1.out F2 (by simp))
  have h2 := h1.fr (F2.mono (r := r))
  have R2 := blk_cell B2.out
  by_cases h4 : 4 < t.dep
  · have hfin : Hid (validE t = 3) := by unfold Hid validE; rw [if_pos (.inl h4)]
    go_wp2_with fail
    go_ret
    exact ⟨ret_int (by rw [hfin.out]; try rfl), F1.pure F2⟩
  · go_wp2_with fail
    refine (tsize_any t.dep t _ _ r (Nat.le_refl _) (by omega) h2).mono ?_
    rintro e w3 ⟨rfl, F3⟩
    have h3 := h2.fr (F3.mono (r := r))
    have B3 := Lib.hid (blk_fr B2.out F3 (by simp))
    have R3 := blk_cell B3.out
    clear R2
    by_cases h5 : 200 < t.size
    · have hfin : Hid (validE t = 3) := by unfold Hid validE; rw [if_pos (.inr h5)]
      go_wp2_with fail
      go_ret
      exact ⟨ret_int (by rw [hfin.out]; try rfl), (F1.pure F2).pure F3⟩
    · have hfin : Hid (validE t = checkE t) := by unfold Hid validE; rw [if_neg (by omega)]
      go_wp2_with fail
      refine (level_any t.dep t _ _ r (Nat.le_refl _) h3).mono ?_
      rintro e w4 ⟨rfl, F4⟩
      go_wp2_with fail
      go_ret
      exact ⟨ret_int (by rw [hfin.out]; try rfl), ((F1.pure F2).pure F3).pure F4⟩

end Go.Proofs.YtpdhckbiioobhaaGreatDoor

/- Walks: the reference's Same of lists and of trusts. -/
namespace Go.Proofs.YtpdhckbiioobhaaGreatDoor
open Go.RowKit

set_option maxRecDepth 100000 in
theorem rsameI_any (a b : List Int) (va vb : Value) (w : World) (ha : SlI w none va a) (hb : SlI w none vb b) :
    Calls Tryz.prog 88 #[va, vb] w fun e w' => e = .returned (.bool (decide (a = b))) ∧ Fr none w w' := by
  have HA := Lib.hid ha
  have HB := Lib.hid hb
  obtain ⟨A, c, rfl, q1, q2, hc⟩ := ha.open_
  obtain ⟨B, d, rfl, q3, q4, hd⟩ := hb.open_
  clear ha hb
  by_cases hl : a.length = b.length
  · have HL := Lib.hid hl
    obtain ⟨n, hn⟩ : ∃ n, n = a.length := ⟨_, rfl⟩
    have HN := Lib.hid hn
    have HN2 := Lib.hid (hn.trans hl)
    have hn2 : n = b.length := hn.trans hl
    have hc' : 0 < n → _ := fun h => hc (by omega)
    have hd' : 0 < n → _ := fun h => hd (by omega)
    rw [← hn] at HA q1 ⊢
    rw [← hn2] at HB q3 ⊢
    clear hl hn hn2 hc hd
    have hc := hc'
    have hd := hd'
    clear hc' hd'
    go_enter Tryz.func88, Tryz.ntmps88
    go_wp2_with fail
    go_loopw [13, 5, 15, 16, 17, 18, 19, 20, 21, 22, 23, 24, 14] (fun i s5 s15 s16 s17 s18 s19 s20 s21 s22 s23 s24 s14 wr => ∃ k : Nat, k ≤ n ∧ i = .int .i64 k ∧ Fr none w wr ∧ ∀ j (h1 : j < a.length) (h2 : j < b.length), j < k → a[j] = b[j]) (fun i _ _ _ _ _ _ _ _ _ _ _ _ _ => n - (intOf i).toNat)
    case atStart => exact ⟨0, Nat.zero_le _, rfl, Fr.refl _ _, fun j h1 h2 h => by omega⟩
    case round =>
      obtain ⟨k, hk, rfl, F, hall⟩ := hrel
      have HH := Lib.hid hall
      clear hall
      by_cases hlt : k < n
      · obtain ⟨b1, o1, rfl, hb1, hx1, hc1⟩ := hc (by omega)
        obtain ⟨b2, o2, rfl, hb2, hx2, hc2⟩ := hd (by omega)
        have k1 : k < a.length := by have := HN.out; omega
        have k2 : k < b.length := by have := HN2.out; omega
        have d1 : wr.cell? ⟨b1, o1 + k, none⟩ = some (.int .i64 a[k]) := F.keep (hc1 k k1) (by simp)
        have d2 : wr.cell? ⟨b2, o2 + k, none⟩ = some (.int .i64 b[k]) := F.keep (hc2 k k2) (by simp)
        clear hc hd hc1 hc2
        obtain ⟨x, hx⟩ : ∃ x, x = a[k] := ⟨_, rfl⟩
        obtain ⟨y, hy⟩ : ∃ y, y = b[k] := ⟨_, rfl⟩
        rw [← hx] at d1
        rw [← hy] at d2
        have HX := Lib.hid hx
        have HY := Lib.hid hy
        clear hx hy
        by_cases he : x = y
        · have HE := Lib.hid he
          subst he
          go_wp2_with fail
          go_quiet (fail)
          go_wp2_with fail
          go_roundw
          case rel => exact ⟨k + 1, by omega, by go_num, F.drewN _, fun j h1 h2 h => by
            by_cases e : j = k
            · subst e; rw [← HX.out, ← HY.out]
            · exact HH.out j h1 h2 (by omega)⟩
          case measure => simp [intOf]; omega
        · have hne : a ≠ b := fun h => by
            apply he
            rw [HX.out, HY.out]
            subst h
            rfl
          have HE := Lib.hid hne
          clear hne
          go_wp2_with fail
          go_quiet (fail)
          go_wp2_with fail
          go_ret
          exact ⟨ret_bool (by rw [decide_eq_false HE.out]), F.drewN _⟩
      · obtain rfl : k = n := by omega
        go_wp2_with fail
        go_ret
        refine ⟨ret_bool ?_, F⟩
        symm
        rw [decide_eq_true_eq]
        apply List.ext_getElem HL.out
        intro j h1 h2
        exact HH.out j h1 h2 (by rw [HN.out]; exact h1)
  · have hne : ¬ a = b := fun h => hl (by rw [h])
    have HE := Lib.hid hne
    clear hne
    have hl2 : ¬ ((a.length : Int) = (b.length : Int)) := by omega
    go_enter Tryz.func88, Tryz.ntmps88
    go_wp2_with fail
    go_ret
    exact ⟨ret_bool (by rw [decide_eq_false HE.out]), Fr.refl _ _⟩

set_option maxRecDepth 100000 in
set_option maxHeartbeats 2000000 in
theorem rsame_any (d : Nat) : ∀ (a b : Tr) (va vb : Value) (w : World) (r : Option Nat), a.dep ≤ d → TrR w r va a → TrR w r vb b →
    Calls Tryz.prog 27 #[va, vb] w fun e w' => e = .returned (.bool (sameT a b)) ∧ Fr none w w' := by
  induction d with
  | zero =>
    intro a b va vb w r hd
    cases a
    simp [Tr.dep] at hd
  | succ d ih =>
    intro a b va vb w r hd ha hb
    obtain ⟨t1, n1, i1⟩ := a
    obtain ⟨t2, n2, i2⟩ := b
    obtain ⟨A, c, A', c', rfl, hthr, hn, hn2, hi2, hi3, hi4, hcell⟩ := ha.open_
    obtain ⟨B, e, B', e', rfl, kthr, kn, kn2, ki2, ki3, ki4, kcell⟩ := hb.open_
    have F0 := ((Fr.refl none w).alloc (.cells #[.int .i64 t1, .slice A n1.length c, .slice A' i1.length c'] 31)).alloc (.cells #[.int .i64 t2, .slice B n2.length e, .slice B' i2.length e'] 31)
    have hn' := (hn.weak).fr F0
    have kn' := (kn.weak).fr F0
    have hdi : depL i1 ≤ d := by simp only [Tr.dep] at hd; omega
    have HE : Hid (sameT (.mk t1 n1 i1) (.mk t2 n2 i2) = (decide (t1 = t2) && decide (n1 = n2) && sameL i1 i2)) := by unfold Hid; simp only [sameT]
    clear hd
    by_cases h1 : t1 = t2
    · subst h1
      by_cases h2 : n1 = n2
      · have H2 := Lib.hid h2
        by_cases h3 : i1.length = i2.length
        · have H3 := Lib.hid h3
          obtain ⟨n, hn0⟩ : ∃ n, n = i1.length := ⟨_, rfl⟩
          have hn3 : n = i2.length := hn0.trans h3
          have HF : Hid (sameT (.mk t1 n1 i1) (.mk t1 n2 i2) = sameL i1 i2) := by
            unfold Hid
            rw [HE.out, decide_eq_true h2]; simp
          have hd2 : decide (n1 = n2) = true := decide_eq_true h2
          have HD := Lib.hid hd2
          have hcell' : 0 < n → _ := fun h => hcell (by omega)
          have kcell' : 0 < n → _ := fun h => kcell (by omega)
          have HN0 := Lib.hid hn0
          have HN3 := Lib.hid hn3
          rw [← hn0, ← hn3] at F0 hn' kn'
          rw [← hn0] at hi2 hi3
          rw [← hn3] at ki2 ki3
          rw [← hn0, ← hn3]
          clear HE h3 h2 hd2 hcell kcell hn0 hn3 ha hb hn kn
          go_enter Tryz.func27, Tryz.ntmps27
          go_wp2_with fail
          refine (rsameI_any n1 n2 _ _ _ hn' kn').mono ?_
          rintro e1 w1 ⟨rfl, F1⟩
          rw [HD.out]
          have B0 : Hid (((w.alloc (.cells #[.int .i64 t1, .slice A n1.length c, .slice A' n c'] 31)).alloc (.cells #[.int .i64 t1, .slice B n2.length e, .slice B' n e'] 31)).heap[w.heap.size]? = some (.cells #[.int .i64 t1, .slice A n1.length c, .slice A' n c'] 31 (0, 0))) := (Below.heap_alloc _ _ _ (by simp)).trans (blk_new _ _)
          have B1 : Hid (((w.alloc (.cells #[.int .i64 t1, .slice A n1.length c, .slice A' n c'] 31)).alloc (.cells #[.int .i64 t1, .slice B n2.length e, .slice B' n e'] 31)).heap[w.heap.size + 1]? = some (.cells #[.int .i64 t1, .slice B n2.length e, .slice B' n e'] 31 (0, 0))) := blk_new_at (by simp) _
          have b0 := blk_fr B0.out F1 (by simp)
          have b1 := blk_fr B1.out F1 (by simp)
          have F01 := F0.pure F1
          have C0 := Lib.hid b0
          have C1 := Lib.hid b1
          have R0 := blk_cell b0
          have R1 := blk_cell b1
          clear B0 B1 b0 b1 F0 F1 hn' kn'
          go_wp2_with fail
          go_loopw [31, 5] (fun i s5 wr => ∃ k : Nat, k ≤ n ∧ i = .int .i64 k ∧ Fr none w1 wr ∧ Hid (sameL i1 i2 = sameL (i1.drop k) (i2.drop k))) (fun i _ _ => n - (intOf i).toNat)
          case atStart => exact ⟨0, Nat.zero_le _, rfl, Fr.refl _ _, by simp [Hid]⟩
          case round =>
            obtain ⟨k, hk, rfl, F, HS⟩ := hrel
            have F02 := F01.pure F
            by_cases hlt : k < n
            · obtain ⟨p, o, rfl, p1, p2, hc⟩ := hcell' (by omega)
              obtain ⟨q, u, rfl, q1, q2, kc⟩ := kcell' (by omega)
              have k1 : k < i1.length := by have := HN0.out; omega
              have k2 : k < i2.length := by have := HN3.out; omega
              obtain ⟨x, y, z, g0, g1, g2, gt⟩ := hc k k1
              obtain ⟨th, A1, m1, c1, A2, m2, c2, rfl, rfl, rfl⟩ := gt.shape
              obtain ⟨x', y', z', l0, l1, l2, lt⟩ := kc k k2
              obtain ⟨th', a1, v1, e1, a2, v2, e2, rfl, rfl, rfl⟩ := lt.shape
              have r0 := blk_cell (blk_fr C0.out F (by simp))
              have r1 := blk_cell (blk_fr C1.out F (by simp))
              have g0' := F02.keep g0 (by simp)
              have g1' := F02.keep g1 (by simp)
              have g2' := F02.keep g2 (by simp)
              have l0' := F02.keep l0 (by simp)
              have l1' := F02.keep l1 (by simp)
              have l2' := F02.keep l2 (by simp)
              have hdd : (i1[k]).dep ≤ d := by have := depL_get i1 k k1; omega
              have hst := sameL_drop i1 i2 k k1 k2
              have HST := Lib.hid hst
              have gt' := gt.fr (F02.mono (r := r))
              have lt' := lt.fr (F02.mono (r := r))
              clear g0 g1 g2 l0 l1 l2 hc kc hst R0 R1
              obtain ⟨X, hX⟩ : ∃ X, X = sameT i1[k] i2[k] := ⟨_, rfl⟩
              rw [← hX] at HST
              have HX := Lib.hid hX
              clear hX
              go_wp2_with fail
              go_still_tail 10, (by kernel_rfl)
              change wpList _ _ _ _ _ wr.drew
              go_wp2_with fail
              refine (ih i1[k] i2[k] _ _ _ r hdd (gt'.fr (Fr.refl _ _).drew) (lt'.fr (Fr.refl _ _).drew)).mono ?_
              rintro e3 w2 ⟨rfl, F2⟩
              rw [← HX.out]
              have F3 : Fr none wr w2 := (Fr.refl _ _).drew.pure F2
              clear g0' g1' g2' l0' l1' l2' r0 r1
              cases X with
              | true =>
                go_wp2_with fail
                go_roundw
                case rel => exact ⟨k + 1, by omega, by go_num, F.pure F3, by unfold Hid; rw [HS.out, HST.out]; simp⟩
                case measure => simp [intOf]; omega
              | false =>
                go_wp2_with fail
                go_ret
                exact ⟨ret_bool (by rw [HF.out, HS.out, HST.out]; simp), F02.pure F3⟩
            · obtain rfl : k = n := by omega
              go_wp2_with fail
              go_ret
              refine ⟨ret_bool ?_, F02⟩
              rw [HF.out, HS.out, List.drop_eq_nil_of_le (by have := HN0.out; omega), List.drop_eq_nil_of_le (by have := HN3.out; omega)]
              simp [sameL]
        · have HF : Hid (sameT (.mk t1 n1 i1) (.mk t1 n2 i2) = false) := by
            unfold Hid
            rw [HE.out]
            have : sameL i1 i2 = false := by
              cases hc : sameL i1 i2
              · rfl
              · exact absurd (sameL_len _ _ hc) h3
            rw [this]; simp
          have h3' : ((i1.length : Int) != (i2.length : Int)) = true := by rw [bne_iff_ne]; omega
          have hd2 : decide (n1 = n2) = true := decide_eq_true h2
          have HD := Lib.hid hd2
          clear HE h3 h2 hd2
          go_enter Tryz.func27, Tryz.ntmps27
          go_wp2_with fail
          refine (rsameI_any n1 n2 _ _ _ hn' kn').mono ?_
          rintro e1 w1 ⟨rfl, F1⟩
          rw [HD.out]
          have B0 := blk_cell (blk_fr ((Below.heap_alloc _ _ _ (by simp)).trans (blk_new w (.cells #[.int .i64 t1, .slice A n1.length c, .slice A' i1.length c'] 31))) F1 (by simp))
          have B1 := blk_cell (blk_fr (blk_new_at (by simp) _) F1 (by simp) : w1.heap[w.heap.size + 1]? = some (.cells #[.int .i64 t1, .slice B n2.length e, .slice B' i2.length e'] 31 (0, 0)))
          go_wp2_with fail
          go_ret
          exact ⟨ret_bool (by rw [HF.out]), F0.pure F1⟩
      · have HF : Hid (sameT (.mk t1 n1 i1) (.mk t1 n2 i2) = false) := by
          unfold Hid
          rw [HE.out, decide_eq_false h2]; simp
        have hd2 : decide (n1 = n2) = false := decide_eq_false h2
        have HD := Lib.hid hd2
        clear HE h2 hd2
        go_enter Tryz.func27, Tryz.ntmps27
        go_wp2_with fail
        refine (rsameI_any n1 n2 _ _ _ hn' kn').mono ?_
        rintro e1 w1 ⟨rfl, F1⟩
        rw [HD.out]
        go_wp2_with fail
        go_ret
        exact ⟨ret_bool (by rw [HF.out]), F0.pure F1⟩
    · have HF : Hid (sameT (.mk t1 n1 i1) (.mk t2 n2 i2) = false) := by
        unfold Hid
        rw [HE.out, decide_eq_false h1]; simp
      have h1' : (t1 != t2) = true := by rw [bne_iff_ne]; exact h1
      clear HE h1
      go_enter Tryz.func27, Tryz.ntmps27
      go_wp2_with fail
      go_ret
      exact ⟨ret_bool (by rw [HF.out]), F0⟩
end Go.Proofs.YtpdhckbiioobhaaGreatDoor

/- Walks: normal.Normal, Is; the reference's. -/
namespace Go.Proofs.YtpdhckbiioobhaaGreatDoor
open Go.RowKit

theorem valid_facts {t : Tr} (h : validE t = 0) : OkT t ∧ t.size ≤ 200 ∧ t.dep ≤ 4 := by
  unfold validE at h
  split at h
  · omega
  · exact ⟨(okT_iff t).1 h, by omega, by omega⟩
/-- What Normal hands back. -/
def nrmV (t : Tr) : Tr := if validE t = 0 then normT t else .mk 0 [] []
def isN (t : Tr) : Bool := (validE t == 0) && sameT (nrmV t) t
/-- The old blocks (but for r) and those from w2 on. -/
def D3 (r : Option Nat) (w w2 w3 : World) : Nat → Prop := fun b => ((b < w.heap.size ∧ some b ≠ r) ∨ w2.heap.size ≤ b) ∧ b < w3.heap.size
theorem nwb_d3 {r : Option Nat} {w w2 w3 : World} (_ : w.heap.size ≤ w2.heap.size) (_ : Fr none w2 w3) : ∀ b, Nwb w2 w3 b → D3 r w w2 w3 b ∧ w3.heap[b]? = w3.heap[b]? := fun b hb => ⟨⟨.inr hb.1, hb.2⟩, rfl⟩
theorem dw_d3 {r : Option Nat} {w w2 w3 : World} (h : w.heap.size ≤ w2.heap.size) (F : Fr none w2 w3) : ∀ b, Dw (fun b => b < w.heap.size ∧ some b ≠ r) w2 w3 b → D3 r w w2 w3 b ∧ w3.heap[b]? = w3.heap[b]? := fun b hb => by
  have := F.size
  rcases hb with h | h
  · exact ⟨⟨.inl h, by have := h.1; omega⟩, rfl⟩
  · exact ⟨⟨.inr h.1, h.2⟩, rfl⟩
theorem d3_dm {r : Option Nat} {w w2 w3 w4 : World} (hr : ∀ g, r = some g → g < w.heap.size) (h : w.heap.size + 1 < w2.heap.size) (G : Fr (some (w.heap.size + 1)) w3 w4) : ∀ b, D3 r w w2 w3 b → Dm w4 r b ∧ w4.heap[b]? = w3.heap[b]? := fun b hb => by
  have hz := G.size
  obtain ⟨h1, h2⟩ := hb
  refine ⟨⟨by omega, fun e => ?_⟩, G.block b h2 (by simp; omega)⟩
  have := hr b e.symm
  rcases h1 with h1 | h1
  · exact h1.2 e
  · omega
set_option maxRecDepth 100000 in
set_option maxHeartbeats 1000000 in
theorem normal_any (t : Tr) (v : Value) (w : World) (r : Option Nat) (hr : ∀ g, r = some g → g < w.heap.size) (h : TrR w r v t) (hs : t.size ≤ 1073741000) :
    Calls Tryz.prog 20 #[v] w fun e w' => ∃ v', e = .returned (.tuple #[v', .int .i64 (validE t)]) ∧ TrR w' r v' (nrmV t) ∧ Fr none w w' := by
  obtain ⟨th, A1, n1, c1, A2, n2, c2, rfl⟩ := TrD.shape h
  go_enter Tryz.func20, Tryz.ntmps20
  go_wp2_with fail
  generalize hW : (w.alloc _).alloc _ = w1
  have F1 : Fr none w w1 := hW ▸ ((Fr.refl none w).alloc _).alloc _
  have b1 : TB w1 w.heap.size (.int .i64 th) (.slice A1 n1 c1) (.slice A2 n2 c2) := by rw [← hW]; exact (Below.heap_alloc _ _ _ (by simp)).trans (blk_new _ _)
  have b2 : TB w1 (w.heap.size + 1) (.int .i64 0) (.slice none 0 0) (.slice none 0 0) := by rw [← hW]; exact blk_new_at (by simp) _
  clear hW
  have h1 := h.fr (F1.mono (r := r))
  refine (validT_any t _ _ r hs h1).mono ?_
  rintro e w2 ⟨rfl, F2⟩
  have b1 := b1.fr F2 (by simp)
  have b2 := b2.fr F2 (by simp)
  have F2 := F1.pure F2
  have h2 : TrD w2 (fun b => b < w.heap.size ∧ some b ≠ r) _ t := TrD.keep (fun k hk => ⟨hk, F2.block k hk.1 (by simp)⟩) _ _ h
  clear h h1 F1
  have R1 := b1.cell
  have R2 := b2.cell
  have Z2 := b2.free
  have hl2 : w.heap.size + 1 < w2.heap.size := blk_lt b2
  by_cases hv : validE t = 0
  · obtain ⟨hok, hsz, hdp⟩ := valid_facts hv
    have hv0 : (validE t != 0) = false := by rw [bne_eq_false_iff_eq]; exact hv
    have HN : Hid (nrmV t = normT t) := by unfold Hid nrmV; rw [if_pos hv]
    have HV := Lib.hid hv
    clear hv
    go_wp2_with fail
    refine (nnorm_any t.dep t _ (fun b => b < w.heap.size ∧ some b ≠ r) w2 (Nat.le_refl _) hok (by omega) (fun b hb => by have := hb.1; omega) h2).mono ?_
    rintro e w3 ⟨v3, rfl, hT3, F3⟩
    have hT3 := TrD.keep (nwb_d3 (w := w) (r := r) (by omega) F3) _ _ hT3
    obtain ⟨th3, X1, m1, k1, X2, m2, k2, rfl⟩ := TrD.shape hT3
    have b3 := b2.fr F3 (by simp)
    have R3 := b3.cell
    have Z3 := b3.free
    have hl3 : w.heap.size + 1 < w3.heap.size := blk_lt b3
    have hl2' := hl2
    have F3 := F2.pure F3
    clear R1 R2 Z2 b1 b2 hl2
    go_wp2_with fail
    refine bodyPost_ret (v := .tuple #[.agg #[.int .i64 th3, .slice X1 m1 k1, .slice X2 m2 k2], .int .i64 0]) (by simp [results, Tryz.results20, go_sem, R3]) rfl ?_
    have G := fr_fill3 w3 (w.heap.size + 1) (.int .i64 th3) (.slice X1 m1 k1) (.slice X2 m2 k2)
    exact ⟨_, by rw [HV.out], by rw [HN.out]; exact TrD.keep (d3_dm hr hl2' G) _ _ hT3, F3.own G (by simp)⟩
  · have hv0 : (validE t != 0) = true := by rw [bne_iff_ne]; exact hv
    have HN : Hid (nrmV t = .mk 0 [] []) := by unfold Hid nrmV; rw [if_neg hv]
    clear hv
    go_wp2_with fail
    refine bodyPost_ret (v := .tuple #[.agg #[.int .i64 0, .slice none 0 0, .slice none 0 0], .int .i64 (validE t)]) (by simp [results, Tryz.results20, go_sem, R2]) rfl ?_
    have G := fr_fill3 w2 (w.heap.size + 1) (.int .i64 0) (.slice none 0 0) (.slice none 0 0)
    exact ⟨_, rfl, by rw [HN.out]; exact TrD.mk_ (by constructor <;> omega) (SlD.nil _ _ _) (by simp) (SlD.nil _ _ _) (by simp) (by simp) (by simp [TrsD]), F2.own G (by simp)⟩
set_option maxRecDepth 100000 in
set_option maxHeartbeats 1000000 in
theorem rnormal_any (t : Tr) (v : Value) (w : World) (r : Option Nat) (hr : ∀ g, r = some g → g < w.heap.size) (h : TrR w r v t) (hs : t.size ≤ 1073741000) :
    Calls Tryz.prog 41 #[v] w fun e w' => ∃ v', e = .returned (.tuple #[v', .int .i64 (validE t)]) ∧ TrR w' r v' (nrmV t) ∧ Fr none w w' := by
  obtain ⟨th, A1, n1, c1, A2, n2, c2, rfl⟩ := TrD.shape h
  go_enter Tryz.func41, Tryz.ntmps41
  go_wp2_with fail
  generalize hW : (w.alloc _).alloc _ = w1
  have F1 : Fr none w w1 := hW ▸ ((Fr.refl none w).alloc _).alloc _
  have b1 : TB w1 w.heap.size (.int .i64 th) (.slice A1 n1 c1) (.slice A2 n2 c2) := by rw [← hW]; exact (Below.heap_alloc _ _ _ (by simp)).trans (blk_new _ _)
  have b2 : TB w1 (w.heap.size + 1) (.int .i64 0) (.slice none 0 0) (.slice none 0 0) := by rw [← hW]; exact blk_new_at (by simp) _
  clear hW
  have h1 := h.fr (F1.mono (r := r))
  refine (rvalidT_any t _ _ r hs h1).mono ?_
  rintro e w2 ⟨rfl, F2⟩
  have b1 := b1.fr F2 (by simp)
  have b2 := b2.fr F2 (by simp)
  have F2 := F1.pure F2
  have h2 : TrD w2 (fun b => b < w.heap.size ∧ some b ≠ r) _ t := TrD.keep (fun k hk => ⟨hk, F2.block k hk.1 (by simp)⟩) _ _ h
  clear h h1 F1
  have R1 := b1.cell
  have R2 := b2.cell
  have Z2 := b2.free
  have hl2 : w.heap.size + 1 < w2.heap.size := blk_lt b2
  by_cases hv : validE t = 0
  · obtain ⟨hok, hsz, hdp⟩ := valid_facts hv
    have hv0 : (validE t != 0) = false := by rw [bne_eq_false_iff_eq]; exact hv
    have HN : Hid (nrmV t = normT t) := by unfold Hid nrmV; rw [if_pos hv]
    have HV := Lib.hid hv
    clear hv
    go_wp2_with fail
    refine (rnorm_any t.dep t _ (fun b => b < w.heap.size ∧ some b ≠ r) w2 (Nat.le_refl _) hok (by omega) (fun b hb => by have := hb.1; omega) h2).mono ?_
    rintro e w3 ⟨v3, rfl, hT3, F3⟩
    have hT3 := TrD.keep (dw_d3 (w := w) (r := r) (by omega) F3) _ _ hT3
    obtain ⟨th3, X1, m1, k1, X2, m2, k2, rfl⟩ := TrD.shape hT3
    have b3 := b2.fr F3 (by simp)
    have R3 := b3.cell
    have Z3 := b3.free
    have hl3 : w.heap.size + 1 < w3.heap.size := blk_lt b3
    have hl2' := hl2
    have F3 := F2.pure F3
    clear R1 R2 Z2 b1 b2 hl2
    go_wp2_with fail
    refine bodyPost_ret (v := .tuple #[.agg #[.int .i64 th3, .slice X1 m1 k1, .slice X2 m2 k2], .int .i64 0]) (by simp [results, Tryz.results41, go_sem, R3]) rfl ?_
    have G := fr_fill3 w3 (w.heap.size + 1) (.int .i64 th3) (.slice X1 m1 k1) (.slice X2 m2 k2)
    exact ⟨_, by rw [HV.out], by rw [HN.out]; exact TrD.keep (d3_dm hr hl2' G) _ _ hT3, F3.own G (by simp)⟩
  · have hv0 : (validE t != 0) = true := by rw [bne_iff_ne]; exact hv
    have HN : Hid (nrmV t = .mk 0 [] []) := by unfold Hid nrmV; rw [if_neg hv]
    clear hv
    go_wp2_with fail
    refine bodyPost_ret (v := .tuple #[.agg #[.int .i64 0, .slice none 0 0, .slice none 0 0], .int .i64 (validE t)]) (by simp [results, Tryz.results41, go_sem, R2]) rfl ?_
    have G := fr_fill3 w2 (w.heap.size + 1) (.int .i64 0) (.slice none 0 0) (.slice none 0 0)
    exact ⟨_, rfl, by rw [HN.out]; exact TrD.mk_ (by constructor <;> omega) (SlD.nil _ _ _) (by simp) (SlD.nil _ _ _) (by simp) (by simp) (by simp [TrsD]), F2.own G (by simp)⟩
set_option maxRecDepth 100000 in
set_option maxHeartbeats 1000000 in
theorem nis_any (t : Tr) (v : Value) (w : World) (h : TrR w none v t) (hs : t.size ≤ 1073741000) :
    Calls Tryz.prog 42 #[v] w fun e w' => e = .returned (.bool (isN t)) ∧ Fr none w w' := by
  obtain ⟨th, A1, n1, c1, A2, n2, c2, rfl⟩ := TrD.shape h
  go_enter Tryz.func42, Tryz.ntmps42
  go_wp2_with fail
  generalize hW : w.alloc _ = w1
  have F1 : Fr none w w1 := hW ▸ (Fr.refl none w).alloc _
  have b1 : TB w1 w.heap.size (.int .i64 th) (.slice A1 n1 c1) (.slice A2 n2 c2) := by rw [← hW]; exact blk_new _ _
  clear hW
  have h1 := h.fr F1
  refine (normal_any t _ _ none (by simp) h1 hs).mono ?_
  rintro e w2 ⟨v2, rfl, hT2, F2⟩
  obtain ⟨th2, X1, m1, k1, X2, m2, k2, rfl⟩ := TrD.shape hT2
  have FA := (Fr.refl none w2).alloc (.cells #[.int .i64 th2, .slice X1 m1 k1, .slice X2 m2 k2] 31)
  have bw := b1.fr F2 (by simp)
  have h2 := (h1.fr F2).fr FA
  have hT3 := hT2.fr FA
  have F2 := F1.pure F2
  have R1 := bw.cell
  have hlw := blk_lt bw
  clear h h1 F1 b1 hT2
  by_cases hv : validE t = 0
  · have hv0 : (validE t == 0) = true := by rw [beq_iff_eq]; exact hv
    have HI : Hid (isN t = sameT (nrmV t) t) := by unfold Hid isN; rw [hv0]; rfl
    clear hv
    go_wp2_with (go_at_call 104; refine (tsame_any _ _ _ _ _ _ none (Nat.le_refl _) hT3 h2).mono ?_; rintro e w3 ⟨rfl, F3⟩)
    go_ret
    exact ⟨ret_bool HI.out.symm, (F2.pure FA).pure F3⟩
  · have hv0 : (validE t == 0) = false := by rw [beq_eq_false_iff_ne]; exact hv
    have HI : Hid (isN t = false) := by unfold Hid isN; rw [hv0]; rfl
    clear hv
    go_wp2_with fail
    go_ret
    exact ⟨ret_bool HI.out.symm, F2.pure FA⟩
set_option maxRecDepth 100000 in
set_option maxHeartbeats 1000000 in
theorem ris_any (t : Tr) (v : Value) (w : World) (h : TrR w none v t) (hs : t.size ≤ 1073741000) :
    Calls Tryz.prog 43 #[v] w fun e w' => e = .returned (.bool (isN t)) ∧ Fr none w w' := by
  obtain ⟨th, A1, n1, c1, A2, n2, c2, rfl⟩ := TrD.shape h
  go_enter Tryz.func43, Tryz.ntmps43
  go_wp2_with fail
  generalize hW : w.alloc _ = w1
  have F1 : Fr none w w1 := hW ▸ (Fr.refl none w).alloc _
  have b1 : TB w1 w.heap.size (.int .i64 th) (.slice A1 n1 c1) (.slice A2 n2 c2) := by rw [← hW]; exact blk_new _ _
  clear hW
  have h1 := h.fr F1
  refine (rnormal_any t _ _ none (by simp) h1 hs).mono ?_
  rintro e w2 ⟨v2, rfl, hT2, F2⟩
  obtain ⟨th2, X1, m1, k1, X2, m2, k2, rfl⟩ := TrD.shape hT2
  have FA := (Fr.refl none w2).alloc (.cells #[.int .i64 th2, .slice X1 m1 k1, .slice X2 m2 k2] 31)
  have bw := b1.fr F2 (by simp)
  have h2 := (h1.fr F2).fr FA
  have hT3 := hT2.fr FA
  have F2 := F1.pure F2
  have R1 := bw.cell
  have hlw := blk_lt bw
  clear h h1 F1 b1 hT2
  by_cases hv : validE t = 0
  · have hv0 : (validE t == 0) = true := by rw [beq_iff_eq]; exact hv
    have HI : Hid (isN t = sameT (nrmV t) t) := by unfold Hid isN; rw [hv0]; rfl
    clear hv
    go_wp2_with (go_at_call 27; refine (rsame_any _ _ _ _ _ _ none (Nat.le_refl _) hT3 h2).mono ?_; rintro e w3 ⟨rfl, F3⟩)
    go_ret
    exact ⟨ret_bool HI.out.symm, (F2.pure FA).pure F3⟩
  · have hv0 : (validE t == 0) = false := by rw [beq_eq_false_iff_ne]; exact hv
    have HI : Hid (isN t = false) := by unfold Hid isN; rw [hv0]; rfl
    clear hv
    go_wp2_with fail
    go_ret
    exact ⟨ret_bool HI.out.symm, F2.pure FA⟩
end Go.Proofs.YtpdhckbiioobhaaGreatDoor

/- Plain: the tokens of the reference's reader are those of the program's. -/
namespace Go.Proofs.YtpdhckbiioobhaaGreatDoor

theorem tok_isof (u : List UInt8) : tok u = [111, 102] ↔ u.take 2 = [111, 102] := by
  constructor
  · intro h
    by_cases h1 : u.take 2 = [111, 102]
    · exact h1
    · exfalso
      cases u with
      | nil => simp [tok, tokN] at h
      | cons c r =>
        by_cases h2 : c = 40 ∨ c = 41 ∨ c = 44
        · have e : tok (c :: r) = [c] := by unfold tok tokN; rw [if_neg h1]; simp only; rw [if_pos h2]; simp
          rw [e] at h
          simp at h
        · have e : tok (c :: r) = (c :: r).takeWhile isDg := by
            unfold tok tokN
            rw [if_neg h1]
            simp only
            rw [if_neg h2]
            exact (List.prefix_iff_eq_take.1 (List.takeWhile_prefix isDg)).symm
          rw [e] at h
          have := List.all_eq_true.1 (List.all_takeWhile (l := c :: r) (p := isDg)) 111 (by rw [h]; simp)
          exact absurd this (by decide)
  · intro h
    unfold tok tokN
    rw [if_pos h, h]
theorem tok_isc {c : UInt8} (hc : c = 40 ∨ c = 41 ∨ c = 44) (u : List UInt8) : tok u = [c] ↔ u.take 1 = [c] := by
  have hd : isDg c = false := by rcases hc with rfl | rfl | rfl <;> decide
  have hne : c ≠ 111 := by rcases hc with rfl | rfl | rfl <;> decide
  cases u with
  | nil => simp [tok, tokN]
  | cons x r =>
    by_cases h1 : (x :: r).take 2 = [111, 102]
    · have e : tok (x :: r) = [111, 102] := (tok_isof _).2 h1
      rw [e]
      have hx : x = 111 := by
        have := congrArg List.head? h1
        simpa using this
      simp [hx, Ne.symm hne]
    · by_cases h2 : x = 40 ∨ x = 41 ∨ x = 44
      · have e : tok (x :: r) = [x] := by unfold tok tokN; rw [if_neg h1]; simp only; rw [if_pos h2]; simp
        rw [e]
        simp
      · have e : tok (x :: r) = (x :: r).takeWhile isDg := by
          unfold tok tokN
          rw [if_neg h1]
          simp only
          rw [if_neg h2]
          exact (List.prefix_iff_eq_take.1 (List.takeWhile_prefix isDg)).symm
        rw [e]
        have hx : x ≠ c := fun hh => h2 (hh ▸ hc)
        constructor
        · intro h
          have := List.all_eq_true.1 (List.all_takeWhile (l := x :: r) (p := isDg)) c (by rw [h]; simp)
          rw [hd] at this
          cases this
        · intro h
          simp at h
          exact absurd h hx
/-- The digits ahead. -/
def dgs (u : List UInt8) : List UInt8 := u.takeWhile isDg
def okD (d : List UInt8) : Bool := match d with
  | [] => false
  | c :: r => decide (r.length ≤ 3) && !(decide (1 ≤ r.length) && c == 48)
theorem numP_dgs (u : List UInt8) : numP u = (if okD (dgs u) then some (numV 0 (dgs u)) else none) ∧ (okD (dgs u) = true → nxt u = skp (u.drop (dgs u).length)) := by
  by_cases h1 : u.take 2 = [111, 102]
  · have e := (tok_isof u).2 h1
    have hd : dgs u = [] := by
      cases u with
      | nil => rfl
      | cons x r =>
        have hx : x = 111 := by
          have := congrArg List.head? h1
          simpa using this
        subst hx
        rfl
    rw [hd]
    refine ⟨?_, fun h => by simp [okD] at h⟩
    unfold numP
    rw [e]
    rfl
  · cases u with
    | nil => exact ⟨rfl, fun h => by simp [okD, dgs] at h⟩
    | cons x r =>
      by_cases h2 : x = 40 ∨ x = 41 ∨ x = 44
      · have hx : isDg x = false := by rcases h2 with rfl | rfl | rfl <;> decide
        have e : tok (x :: r) = [x] := by unfold tok tokN; rw [if_neg h1]; simp only; rw [if_pos h2]; simp
        have hd : dgs (x :: r) = [] := by simp [dgs, hx]
        rw [hd]
        refine ⟨?_, fun h => by simp [okD] at h⟩
        unfold numP
        rw [e]
        simp [numB, hx, okD]
      · have e0 : tokN (x :: r) = (dgs (x :: r)).length := by
          unfold tokN
          rw [if_neg h1]
          simp only
          rw [if_neg h2]
          rfl
        have e : tok (x :: r) = dgs (x :: r) := by
          unfold tok
          rw [e0]
          exact (List.prefix_iff_eq_take.1 (List.takeWhile_prefix isDg)).symm
        have hall := List.all_takeWhile (l := x :: r) (p := isDg)
        have hb : numB (dgs (x :: r)) = okD (dgs (x :: r)) := by
          unfold dgs
          generalize (x :: r).takeWhile isDg = d at *
          cases d with
          | nil => rfl
          | cons c s =>
            have hc : isDg c = true := List.all_eq_true.1 hall c (by simp)
            simp [numB, okD, hc]
        refine ⟨?_, fun _ => ?_⟩
        · unfold numP
          rw [e, hb]
        · unfold nxt
          rw [e0]
end Go.Proofs.YtpdhckbiioobhaaGreatDoor

/- Plain laws of the reader as a function of what is left. -/
namespace Go.Proofs.YtpdhckbiioobhaaGreatDoor
open Go.RowKit

theorem size_list (S : ByteArray) : S.size = S.data.toList.length := (Array.length_toList).symm
theorem head_size {T : ByteArray} {c : UInt8} {r : List UInt8} (h : T.data.toList = c :: r) : T.size = r.length + 1 := by
  rw [size_list, h]; rfl
theorem head_get {T : ByteArray} {c : UInt8} {r : List UInt8} (h : T.data.toList = c :: r) (hz : 0 < T.size) : T[0] = c := by
  have : T[0] = T.data.toList[0]'(by simpa using hz) := rfl
  rw [this]
  simp [h]
theorem numP_eq (u : List UInt8) : numP u = if numB (tok u) then some (numV 0 (tok u)) else none := rfl
theorem tok_dg {u : List UInt8} (h : numB (tok u) = true) : ∀ c ∈ tok u, isDg c = true := by
  by_cases h1 : u.take 2 = [111, 102]
  · have e : tok u = [111, 102] := by unfold tok tokN; rw [if_pos h1, h1]
    rw [e] at h
    exact absurd h (by decide)
  · cases u with
    | nil => intro c hc; simp [tok] at hc
    | cons c r =>
      by_cases h2 : c = 40 ∨ c = 41 ∨ c = 44
      · have e : tok (c :: r) = [c] := by unfold tok tokN; rw [if_neg h1]; simp only; rw [if_pos h2]; simp
        rw [e] at h
        rcases h2 with rfl | rfl | rfl <;> exact absurd h (by decide)
      · have e : tok (c :: r) = (c :: r).takeWhile isDg := by
          unfold tok tokN
          rw [if_neg h1]
          simp only
          rw [if_neg h2]
          exact (List.prefix_iff_eq_take.1 (List.takeWhile_prefix isDg)).symm
        rw [e]
        intro x hx
        exact List.all_eq_true.1 List.all_takeWhile x hx
/-- Behind an entry. -/
def tailP (f : Nat) (n : Int) (nodes : List Int) (inner : List Tr) (v : List UInt8) : Option Tr × List UInt8 :=
  if tok v = [41] then (some (.mk n nodes inner), nxt v) else if tok v = [44] then loopP f n nodes inner (nxt v) else (none, v)
theorem loop_none {f : Nat} {n : Int} {nodes : List Int} {inner : List Tr} {u : List UInt8} (h : numP u = none) : loopP (f + 1) n nodes inner u = (none, u) := by
  simp only [loopP, h]
theorem loop_node {f : Nat} {n : Int} {nodes : List Int} {inner : List Tr} {u : List UInt8} {k : Nat} (h : numP u = some k) (ho : tok (nxt u) ≠ [111, 102]) : loopP (f + 1) n nodes inner u = tailP f n (nodes ++ [(k : Int)]) inner (nxt u) := by
  simp only [loopP, h, if_neg ho, tailP]
theorem loop_bad {f : Nat} {n : Int} {nodes : List Int} {inner : List Tr} {u v : List UInt8} {k : Nat} (h : numP u = some k) (ho : tok (nxt u) = [111, 102]) (hr : restP f k (nxt u) = (none, v)) : loopP (f + 1) n nodes inner u = (none, v) := by
  simp only [loopP, h, if_pos ho, hr]
theorem loop_inner {f : Nat} {n : Int} {nodes : List Int} {inner : List Tr} {u v : List UInt8} {k : Nat} {x : Tr} (h : numP u = some k) (ho : tok (nxt u) = [111, 102]) (hr : restP f k (nxt u) = (some x, v)) : loopP (f + 1) n nodes inner u = tailP f n nodes (inner ++ [x]) v := by
  simp only [loopP, h, if_pos ho, hr, tailP]
theorem tail_yes {f : Nat} {n : Int} {nodes : List Int} {inner : List Tr} {v : List UInt8} (h : tok v = [41]) : tailP f n nodes inner v = (some (.mk n nodes inner), nxt v) := by simp only [tailP, if_pos h]
theorem tail_more {f : Nat} {n : Int} {nodes : List Int} {inner : List Tr} {v : List UInt8} (h : tok v ≠ [41]) (h2 : tok v = [44]) : tailP f n nodes inner v = loopP f n nodes inner (nxt v) := by simp only [tailP, if_neg h, if_pos h2]
theorem tail_no {f : Nat} {n : Int} {nodes : List Int} {inner : List Tr} {v : List UInt8} (h : tok v ≠ [41]) (h2 : tok v ≠ [44]) : tailP f n nodes inner v = (none, v) := by simp only [tailP, if_neg h, if_neg h2]
theorem num_lt {u : List UInt8} {k : Nat} (h : numP u = some k) : (nxt u).length < u.length ∧ k ≤ 9999 := by
  rw [numP_eq] at h
  cases hb : numB (tok u) with
  | false => rw [hb] at h; simp at h
  | true =>
    rw [if_pos hb] at h
    injection h with h
    refine ⟨nxt_lt (numB_ne hb), ?_⟩
    have hd := tok_dg hb
    have h1 : ∀ (l : List UInt8) (a : Nat), (∀ c ∈ l, isDg c = true) → numV a l < (a + 1) * 10 ^ l.length := by
      intro l
      induction l with
      | nil => intro a _; simp [numV]
      | cons c r ih =>
        intro a hl
        have hc := hl c (by simp)
        simp only [isDg, decide_eq_true_eq] at hc
        have e : numV a (c :: r) = numV (10 * a + (c.toNat - 48)) r := rfl
        rw [e]
        have := ih (10 * a + (c.toNat - 48)) fun x hx => hl x (List.mem_cons_of_mem _ hx)
        refine Nat.lt_of_lt_of_le this ?_
        rw [List.length_cons, Nat.pow_succ, Nat.mul_comm (10 ^ r.length) 10, ← Nat.mul_assoc]
        exact Nat.mul_le_mul_right _ (by omega)
    have h2 := h1 (tok u) 0 hd
    rw [h] at h2
    cases ht : tok u with
    | nil => rw [ht] at hb; simp [numB] at hb
    | cons c r =>
      rw [ht] at hb h2
      simp only [numB, Bool.and_eq_true, decide_eq_true_eq] at hb
      have hl : (c :: r).length ≤ 4 := by simp; omega
      have : 10 ^ (c :: r).length ≤ 10 ^ 4 := Nat.pow_le_pow_right (by omega) hl
      omega

mutual
theorem restP_size : ∀ (f : Nat) (n : Int) (u : List UInt8) (t : Tr) (v : List UInt8), restP f n u = (some t, v) → t.size + v.length ≤ u.length
  | 0, _, u, t, v, h => by simp [restP] at h
  | f + 1, n, u, t, v, h => by
    simp only [restP] at h
    have h1 := nxt_le u
    have h2 := nxt_le (nxt u)
    split at h
    · split at h
      · have := loopP_size f n [] [] _ t v h
        simp only [List.length_nil, sizeL] at this
        omega
      · cases h
    · cases h
theorem loopP_size : ∀ (f : Nat) (n : Int) (a : List Int) (b : List Tr) (u : List UInt8) (t : Tr) (v : List UInt8), loopP f n a b u = (some t, v) → t.size + v.length ≤ a.length + b.length + sizeL b + u.length
  | 0, _, _, _, u, t, v, h => by simp [loopP] at h
  | f + 1, n, a, b, u, t, v, h => by
    cases hn : numP u with
    | none => rw [loop_none hn] at h; cases h
    | some k =>
      obtain ⟨h1, _⟩ := num_lt hn
      by_cases ho : tok (nxt u) = [111, 102]
      · cases hr : restP f k (nxt u) with
        | mk o v' =>
          cases o with
          | none => rw [loop_bad hn ho hr] at h; cases h
          | some x =>
            rw [loop_inner hn ho hr] at h
            have h2 := restP_size f k (nxt u) x v' hr
            have h3 := nxt_le v'
            by_cases h41 : tok v' = [41]
            · rw [tail_yes h41] at h
              injection h with e1 e2
              injection e1 with e1
              subst e1 e2
              simp only [Tr.size, List.length_append, List.length_cons, List.length_nil, sizeL_append, sizeL]
              omega
            · by_cases h44 : tok v' = [44]
              · rw [tail_more h41 h44] at h
                have := loopP_size f n a (b ++ [x]) _ t v h
                simp only [List.length_append, List.length_cons, List.length_nil, sizeL_append, sizeL] at this
                omega
              · rw [tail_no h41 h44] at h; cases h
      · rw [loop_node hn ho] at h
        have h3 := nxt_le (nxt u)
        by_cases h41 : tok (nxt u) = [41]
        · rw [tail_yes h41] at h
          injection h with e1 e2
          injection e1 with e1
          subst e1 e2
          simp only [Tr.size, List.length_append, List.length_cons, List.length_nil]
          omega
        · by_cases h44 : tok (nxt u) = [44]
          · rw [tail_more h41 h44] at h
            have := loopP_size f n (a ++ [(k : Int)]) b _ t v h
            simp only [List.length_append, List.length_cons, List.length_nil] at this
            omega
          · rw [tail_no h41 h44] at h; cases h
end

theorem parse_none {S : ByteArray} {v : List UInt8} (hl : S.size ≤ 6000) (h : wholeP S.data.toList = (none, v)) : parseP S.data.toList = .no (S.size - v.length) 2 := by
  unfold parseP
  rw [if_neg (by rw [← size_list]; omega), h, size_list]
theorem parse_more {S : ByteArray} {v : List UInt8} {t : Tr} (hl : S.size ≤ 6000) (h : wholeP S.data.toList = (some t, v)) (hv : v ≠ []) : parseP S.data.toList = .no (S.size - v.length) 2 := by
  unfold parseP
  rw [if_neg (by rw [← size_list]; omega), h, size_list]
  simp only
  rw [if_pos hv]
theorem parse_bad {S : ByteArray} {t : Tr} (hl : S.size ≤ 6000) (h : wholeP S.data.toList = (some t, [])) (hv : validE t ≠ 0) : parseP S.data.toList = .no 0 (validE t) := by
  unfold parseP
  rw [if_neg (by rw [← size_list]; omega), h]
  simp only
  rw [if_neg (by simp), if_pos hv]
theorem parse_good {S : ByteArray} {t : Tr} (hl : S.size ≤ 6000) (h : wholeP S.data.toList = (some t, [])) (hv : validE t = 0) : parseP S.data.toList = .ok t := by
  unfold parseP
  rw [if_neg (by rw [← size_list]; omega), h]
  simp only
  rw [if_neg (by simp), if_neg (by simpa using hv)]
def zeroT : Value := .agg #[.int .i64 0, .slice none 0 0, .slice none 0 0]
end Go.Proofs.YtpdhckbiioobhaaGreatDoor

/- Walks: the reference's reader of layer 3: skip, sign, number. -/
namespace Go.Proofs.YtpdhckbiioobhaaGreatDoor
open Go.RowKit

/-- The reader in block g: its text, its place. -/
def RfB (w : World) (g : Nat) (S : ByteArray) (k : Nat) : Prop := w.heap[g]? = some (.cells #[.string S, .int .i64 (k : Int)] 165 (0, 0))
theorem RfB.fr {w w' : World} {g : Nat} {S : ByteArray} {k : Nat} {r : Option Nat} (h : RfB w g S k) (f : Fr r w w') (hr : r ≠ some g) : RfB w' g S k := blk_fr h f hr
theorem RfB.cell {w : World} {g : Nat} {S : ByteArray} {k : Nat} (h : RfB w g S k) (i : Nat) : w.cell? ⟨g, i, none⟩ = (#[.string S, .int .i64 (k : Int)] : Array Value)[i]? := blk_cell h i
theorem RfB.free {w : World} {g : Nat} {S : ByteArray} {k : Nat} (h : RfB w g S k) (i : Nat) : w.frozen? ⟨g, i, none⟩ = false := blk_free h i
/-- The reader's place. -/
def atRf (w : World) (g : Nat) : Nat := match w.cell? ⟨g, 1, none⟩ with
  | some (.int _ i) => i.toNat
  | _ => 0
theorem RfB.atOf {w : World} {g : Nat} {S : ByteArray} {k : Nat} (h : RfB w g S k) : atRf w g = k := by
  unfold atRf
  rw [h.cell 1]
  simp
theorem RfB.set {w : World} {g : Nat} {S : ByteArray} {j : Nat} (h : RfB w g S j) (n q : Nat) : RfB ((w.drewN n).setCell ⟨g, 1, none⟩ (.int .i64 (q : Int))) g S q := by
  have := blk_set (i := 1) (u := .int .i64 (q : Int)) (show (w.drewN n).heap[g]? = some _ from h)
  simpa [RfB] using this
theorem RfB.bump {w : World} {g : Nat} {S : ByteArray} {j : Nat} (h : RfB w g S j) (n : Nat) : RfB ((w.drewN n).setCell ⟨g, 1, none⟩ (.int .i64 ((j : Int) + 1))) g S (j + 1) := by
  have := h.set n (j + 1)
  simpa using this
theorem RfB.set0 {w : World} {g : Nat} {S : ByteArray} {j : Nat} (h : RfB w g S j) (q : Nat) : RfB (w.setCell ⟨g, 1, none⟩ (.int .i64 (q : Int))) g S q := by
  have := blk_set (i := 1) (u := .int .i64 (q : Int)) (show w.heap[g]? = some _ from h)
  simpa [RfB] using this
/-- The reader stands before what is left, u, of its text S, but for blanks. -/
def RfK (w : World) (g : Nat) (S : ByteArray) (u : List UInt8) : Prop := ∃ k, RfB w g S k ∧ k ≤ S.size ∧ skp (S.data.toList.drop k) = u
theorem RfK.fr {w w' : World} {g : Nat} {S : ByteArray} {u : List UInt8} {r : Option Nat} (h : RfK w g S u) (f : Fr r w w') (hr : r ≠ some g) : RfK w' g S u := by
  obtain ⟨k, h1, h2⟩ := h
  exact ⟨k, h1.fr f hr, h2⟩
theorem RfK.lt {w : World} {g : Nat} {S : ByteArray} {u : List UInt8} (h : RfK w g S u) : g < w.heap.size := by
  obtain ⟨k, h1, h2⟩ := h
  exact blk_lt h1
theorem RfK.le {w : World} {g : Nat} {S : ByteArray} {u : List UInt8} (h : RfK w g S u) : u.length ≤ S.size := by
  obtain ⟨k, _, _, rfl⟩ := h
  have := skp_len (S.data.toList.drop k)
  rw [List.length_drop] at this
  rw [size_list]; omega
theorem RfK.left {w : World} {g : Nat} {S : ByteArray} {u : List UInt8} (h : RfK w g S u) : (skp (S.data.toList.drop (atRf w g))).length = u.length := by
  obtain ⟨k, h1, _, rfl⟩ := h
  rw [h1.atOf]
theorem skp_skp (u : List UInt8) : skp (skp u) = skp u := by
  unfold skp
  induction u with
  | nil => rfl
  | cons c r ih =>
    rw [List.dropWhile_cons]
    split
    · exact ih
    · rename_i h; rw [List.dropWhile_cons, if_neg h]
theorem RfK.skp_eq {w : World} {g : Nat} {S : ByteArray} {u : List UInt8} (h : RfK w g S u) : skp u = u := by
  obtain ⟨k, _, _, rfl⟩ := h
  exact skp_skp _

/-- The reader stands right before what is left. -/
def RfS (w : World) (g : Nat) (S : ByteArray) (u : List UInt8) : Prop := ∃ k, RfB w g S k ∧ k + u.length = S.size ∧ S.data.toList.drop k = u
theorem RfS.k {w : World} {g : Nat} {S : ByteArray} {u : List UInt8} (h : RfS w g S u) : RfK w g S (skp u) := by
  obtain ⟨k, h1, h2, rfl⟩ := h
  exact ⟨k, h1, by omega, rfl⟩
set_option maxRecDepth 100000 in
set_option maxHeartbeats 2000000 in
theorem rskip_any (g : Nat) (S : ByteArray) (u : List UInt8) (w : World) (h : RfK w g S u) (hS : S.size ≤ 6001) :
    Calls Tryz.prog 167 #[.pointer (some ⟨g, 0, none⟩)] w fun e w' => e = .returned (.tuple #[]) ∧ RfS w' g S u ∧ Fr (some g) w w' := by
  obtain ⟨q, b1, hk, hu⟩ := h
  have HU := Lib.hid hu
  clear hu
  go_enter Tryz.func167, Tryz.ntmps167
  go_wp2_with fail
  obtain ⟨wo, hwo⟩ : ∃ wo : World, wo = w := ⟨_, rfl⟩
  rw [← hwo]
  go_loopw [] (fun wr => ∃ j : Nat, j ≤ S.size ∧ RfB wr g S j ∧ Hid (skp (S.data.toList.drop j) = u) ∧ Fr (some g) w wr) (fun wr => S.size - atRf wr g)
  case atStart => exact ⟨q, hk, by rw [hwo]; exact b1, HU, by rw [hwo]; exact Fr.refl _ _⟩
  case round =>
    obtain ⟨j, hj, B, HJ, F⟩ := hrel
    have RC := B.cell
    have Z := B.free
    by_cases hgo : ∃ h : j < S.size, S[j] = 32
    · obtain ⟨hlt, hc⟩ := hgo
      have h32' : ((S[j].toNat : Int) == 32) = true := by rw [hc]; rfl
      have hd : decide ((j : Int) < S.size) = true := by simpa using hlt
      have HC := Lib.hid hc
      clear hc
      go_wp2_with fail
      go_quiet (fail)
      go_wp2_with fail
      go_roundw
      case rel =>
        refine ⟨j + 1, by omega, ?_, ?_, ?_⟩
        · exact B.bump _
        · unfold Hid
          rw [← HJ.out, List.drop_eq_getElem_cons (i := j) (by simpa using hlt)]
          rw [show S.data.toList[j] = (32 : UInt8) from HC.out]
          simp [skp]
        · exact F.same (Fr.setRow (p := ⟨g, 1, none⟩) ((Fr.refl _ _).drewN _) rfl _)
      case measure =>
        rw [(B.bump _).atOf, B.atOf]
        omega
    · have hc : j = S.size ∨ ∃ h : j < S.size, S[j] ≠ 32 := by
        rcases Nat.lt_or_ge j S.size with h | h
        · exact .inr ⟨h, fun e => hgo ⟨h, e⟩⟩
        · exact .inl (by omega)
      have hK : S.data.toList.drop j = u := by
        rw [← HJ.out]
        rcases hc with h | ⟨h, hne⟩
        · rw [List.drop_eq_nil_of_le (by rw [h]; simp)]; rfl
        · rw [List.drop_eq_getElem_cons (i := j) (by simpa using h)]
          have : S.data.toList[j] = S[j] := rfl
          rw [this]
          simp [skp, hne]
      have hul : j + u.length = S.size := by
        rw [← hK, List.length_drop, size_list] at *
        omega
      have HK := Lib.hid hK
      have HUL := Lib.hid hul
      clear hgo HJ hK hul
      rcases hc with hje | ⟨hlt, hne⟩
      · have hd : decide (j < S.size) = false := by simp; omega
        have hge : S.size ≤ j := by omega
        clear hje
        go_wp2_with fail
        go_quiet (fail)
        go_wp2_with fail
        go_end0
        exact ⟨rfl, ⟨j, B, HUL.out, HK.out⟩, F.drewN _⟩
      · have h32' : ((S[j].toNat : Int) == 32) = false := by
          rw [beq_eq_false_iff_ne]
          intro h
          apply hne
          apply UInt8.toNat_inj.1
          have : S[j].toNat = 32 := by omega
          exact this
        have hd : decide ((j : Int) < S.size) = true := by simpa using hlt
        clear hne
        go_wp2_with fail
        go_quiet (fail)
        go_wp2_with fail
        go_end0
        exact ⟨rfl, ⟨j, B, HUL.out, HK.out⟩, F.drewN _⟩

theorem extract_part (S : ByteArray) (k m : Nat) : (S.extract k (k + m)).data.toList = (S.data.toList.drop k).take m := by
  rw [Lib.extract_data]
  congr 1
  omega
set_option maxRecDepth 100000 in
set_option maxHeartbeats 2000000 in
theorem rsign_yes (g : Nat) (S P : ByteArray) (u : List UInt8) (w : World) (h : RfK w g S u) (hS : S.size ≤ 6001) (hp : u.take P.size = P.data.toList) (hm : P.size ≤ 6000) :
    Calls Tryz.prog 207 #[.pointer (some ⟨g, 0, none⟩), .string P] w fun e w' => e = .returned (.bool true) ∧ RfK w' g S (skp (u.drop P.size)) ∧ Fr (some g) w w' := by
  have hul : P.size ≤ u.length := by
    have := congrArg List.length hp
    rw [List.length_take, ← size_list] at this
    omega
  go_enter Tryz.func207, Tryz.ntmps207
  go_wp2_with fail
  refine (rskip_any g S u _ h hS).mono ?_
  rintro e w1 ⟨rfl, ⟨k, B, hk, hu⟩, F1⟩
  have RC := B.cell
  have Z := B.free
  have hks : k + P.size ≤ S.size := by omega
  have he : S.extract k (k + P.size) = P := by
    apply ByteArray.ext
    apply Array.toList_inj.1
    rw [extract_part, hu, hp]
  have HE := Lib.hid he
  have HUU := Lib.hid hu
  have heq : ((S.extract k (k + P.size)).toList == P.toList) = true := by rw [he]; simp
  have hd : decide ((S.size : Int) < (k : Int) + P.size) = false := by simp; omega
  clear he hu hp
  go_wp2_with fail
  go_quiet (fail)
  go_wp2_with fail
  go_ret
  refine ⟨rfl, ⟨k + P.size, ?_, hks, ?_⟩, (F1.drewN _).same (Fr.set1 _ ⟨g, 1, none⟩ _)⟩
  · have := B.set
    simpa using B.set _ (k + P.size)
  · rw [← HUU.out, List.drop_drop]
set_option maxRecDepth 100000 in
set_option maxHeartbeats 2000000 in
theorem rsign_no (g : Nat) (S P : ByteArray) (u : List UInt8) (w : World) (h : RfK w g S u) (hS : S.size ≤ 6001) (hp : u.take P.size ≠ P.data.toList) (hm : P.size ≤ 6000) :
    Calls Tryz.prog 207 #[.pointer (some ⟨g, 0, none⟩), .string P] w fun e w' => e = .returned (.bool false) ∧ RfK w' g S u ∧ Fr (some g) w w' := by
  have hsk := h.skp_eq
  have HSK := Lib.hid hsk
  clear hsk
  go_enter Tryz.func207, Tryz.ntmps207
  go_wp2_with fail
  refine (rskip_any g S u _ h hS).mono ?_
  rintro e w1 ⟨rfl, ⟨k, B, hk, hu⟩, F1⟩
  have RC := B.cell
  have Z := B.free
  by_cases hks : k + P.size ≤ S.size
  · have heq : ((S.extract k (k + P.size)).toList == P.toList) = false := by
      rw [ByteArray.toList_eq, ByteArray.toList_eq, beq_eq_false_iff_ne, extract_part, hu]
      exact hp
    have HUU := Lib.hid hu
    have hd : decide ((S.size : Int) < (k : Int) + P.size) = false := by simp; omega
    clear hu hp
    go_wp2_with fail
    go_quiet (fail)
    go_wp2_with fail
    go_ret
    exact ⟨rfl, ⟨k, B, by omega, by rw [HUU.out]; exact HSK.out⟩, F1.drewN _⟩
  · have hd : decide ((S.size : Int) < (k : Int) + P.size) = true := by simp; omega
    have HUU := Lib.hid hu
    clear hu hp
    go_wp2_with fail
    go_quiet (fail)
    go_wp2_with fail
    go_ret
    exact ⟨rfl, ⟨k, B, by omega, by rw [HUU.out]; exact HSK.out⟩, F1.drewN _⟩
end Go.Proofs.YtpdhckbiioobhaaGreatDoor

/- Walks: the reference's reader of layer 3: number. -/
namespace Go.Proofs.YtpdhckbiioobhaaGreatDoor
open Go.RowKit

set_option maxRecDepth 100000 in
set_option maxHeartbeats 4000000 in
theorem rnum_no (g : Nat) (S : ByteArray) (u : List UInt8) (w : World) (h : RfK w g S u) (hS : S.size ≤ 6001) (hn : okD (dgs u) = false) :
    Calls Tryz.prog 165 #[.pointer (some ⟨g, 0, none⟩)] w fun e w' => e = .returned (.tuple #[.int .i64 0, .bool false]) ∧ RfK w' g S u ∧ Fr (some g) w w' := by
  have HN := Lib.hid hn
  clear hn
  have hsk := h.skp_eq
  have HSK := Lib.hid hsk
  go_enter Tryz.func165, Tryz.ntmps165
  go_wp2_with fail
  refine (rskip_any g S u _ h hS).mono ?_
  rintro e w1 ⟨rfl, ⟨k, B, hk, hu⟩, F1⟩
  have RC := B.cell
  have Z := B.free
  have HUU := Lib.hid hu
  clear hu hsk
  go_wp2_with fail
  go_loop [4] (fun n => ∃ i : Nat, k ≤ i ∧ i ≤ S.size ∧ n = .int .i64 i ∧ Hid ((dgs u).length = (i - k) + (dgs (S.data.toList.drop i)).length)) (fun n => S.size - (intOf n).toNat)
  case atStart => exact ⟨k, Nat.le_refl _, by omega, rfl, by unfold Hid; rw [HUU.out]; simp⟩
  case round =>
    obtain ⟨i, hki, hi, rfl, HI⟩ := hrel
    by_cases hgo : ∃ h : i < S.size, isDg S[i] = true
    · obtain ⟨hli, hdg⟩ := hgo
      have hdr : S.data.toList.drop i = S[i] :: S.data.toList.drop (i + 1) := List.drop_eq_getElem_cons (by simpa using hli)
      have hd2 : 48 ≤ (S[i].toNat : Int) ∧ (S[i].toNat : Int) ≤ 57 := by unfold isDg at hdg; simp at hdg; omega
      obtain ⟨hd2, hd3⟩ := hd2
      have HDR := Lib.hid hdr
      have HDG := Lib.hid hdg
      clear hdr hdg
      go_wp2_with fail
      go_round
      case rel => exact ⟨i + 1, by omega, by omega, by go_num, by unfold Hid; rw [HI.out, HDR.out]; unfold dgs; rw [List.takeWhile_cons, if_pos HDG.out]; simp; omega⟩
      case measure => simp [intOf]; omega
    · have hdn : dgs (S.data.toList.drop i) = [] := by
        unfold dgs
        rcases Nat.lt_or_ge i S.size with hh | hh
        · rw [List.drop_eq_getElem_cons (i := i) (by simpa using hh)]
          have : S.data.toList[i] = S[i] := rfl
          rw [this, List.takeWhile_cons, if_neg (fun e => hgo ⟨hh, e⟩)]
        · rw [List.drop_eq_nil_of_le (by simpa using hh)]; rfl
      have hlen : (dgs u).length = i - k := by rw [HI.out, hdn]; simp
      obtain ⟨T, hT⟩ : ∃ T, T = S.extract k i := ⟨_, rfl⟩
      have hTd : T.data.toList = dgs u := by
        rw [hT, show i = k + (i - k) by omega, extract_part, HUU.out, ← hlen]
        unfold dgs
        exact (List.prefix_iff_eq_take.1 (List.takeWhile_prefix isDg)).symm
      have hTz : T.size = i - k := by rw [size_list, hTd, hlen]
      have hend : ((∃ h : i < S.size, (S[i].toNat : Int) < 48) ∨ (∃ h : i < S.size, 48 ≤ (S[i].toNat : Int) ∧ 57 < (S[i].toNat : Int))) ∨ i = S.size := by
        rcases Nat.lt_or_ge i S.size with hh | hh
        · left
          have hd : ¬ isDg S[i] = true := fun e => hgo ⟨hh, e⟩
          unfold isDg at hd
          simp at hd
          by_cases h48 : (S[i].toNat : Int) < 48
          · exact .inl ⟨hh, h48⟩
          · exact .inr ⟨hh, by omega, by omega⟩
        · exact .inr (by omega)
      have HT := Lib.hid hT
      have HTD := Lib.hid hTd
      have HTZ := Lib.hid hTz
      clear hgo HI hdn hlen hT hTd hTz
      have hcs : T.toList.isEmpty = true ∨ (T.toList.isEmpty = false ∧ 4 < T.size) ∨ (∃ h : 0 < T.size, T.toList.isEmpty = false ∧ T.size ≤ 4 ∧ 1 < T.size ∧ ((T[0].toNat : Int) == 48) = true) := by
        have hn := HN.out
        rw [← HTD.out] at hn
        cases hTl : T.data.toList with
        | nil => exact .inl (by rw [ByteArray.toList_eq, hTl]; rfl)
        | cons c r =>
          right
          have he : T.toList.isEmpty = false := by rw [ByteArray.toList_eq, hTl]; rfl
          have hz := head_size hTl
          have hg := head_get hTl (by omega)
          rw [hTl] at hn
          simp only [okD, Bool.and_eq_false_iff, Bool.not_eq_false', Bool.and_eq_true, decide_eq_false_iff_not, decide_eq_true_eq, beq_iff_eq] at hn
          by_cases h4 : 4 < T.size
          · exact .inl ⟨he, h4⟩
          · right
            rcases hn with hn | hn
            · omega
            · exact ⟨by omega, he, by omega, by omega, by rw [hg, hn.2]; rfl⟩
      rcases hend with (⟨hli, hd1⟩ | ⟨hli, hd1, hd2⟩) | hd1 <;> rcases hcs with he0 | ⟨he0, hT4⟩ | ⟨hT0, he0, hT4, hT1, hT48⟩
      all_goals
        (try subst hd1)
        go_wp2_with fail
        go_quiet (fail)
        rw [← HT.out]
        go_wp2_with fail
        go_ret2
        exact ⟨rfl, ⟨k, B, by omega, by rw [HUU.out]; exact HSK.out⟩, F1.drewN _⟩
theorem numV_snoc (a : Nat) (l : List UInt8) (c : UInt8) : numV a (l ++ [c]) = 10 * numV a l + (c.toNat - 48) := by
  unfold numV
  rw [List.foldl_append]
  rfl
set_option maxRecDepth 100000 in
set_option maxHeartbeats 4000000 in
theorem rnum_yes (g : Nat) (S : ByteArray) (u : List UInt8) (w : World) (h : RfK w g S u) (hS : S.size ≤ 6001) (hn : okD (dgs u) = true) :
    Calls Tryz.prog 165 #[.pointer (some ⟨g, 0, none⟩)] w fun e w' => e = .returned (.tuple #[.int .i64 (numV 0 (dgs u) : Nat), .bool true]) ∧ RfK w' g S (skp (u.drop (dgs u).length)) ∧ Fr (some g) w w' := by
  have HN := Lib.hid hn
  clear hn
  have hsk := h.skp_eq
  have HSK := Lib.hid hsk
  go_enter Tryz.func165, Tryz.ntmps165
  go_wp2_with fail
  refine (rskip_any g S u _ h hS).mono ?_
  rintro e w1 ⟨rfl, ⟨k, B, hk, hu⟩, F1⟩
  have RC := B.cell
  have Z := B.free
  have HUU := Lib.hid hu
  clear hu hsk
  go_wp2_with fail
  go_loop [4] (fun n => ∃ i : Nat, k ≤ i ∧ i ≤ S.size ∧ n = .int .i64 i ∧ Hid ((dgs u).length = (i - k) + (dgs (S.data.toList.drop i)).length)) (fun n => S.size - (intOf n).toNat)
  case atStart => exact ⟨k, Nat.le_refl _, by omega, rfl, by unfold Hid; rw [HUU.out]; simp⟩
  case round =>
    obtain ⟨i, hki, hi, rfl, HI⟩ := hrel
    by_cases hgo : ∃ h : i < S.size, isDg S[i] = true
    · obtain ⟨hli, hdg⟩ := hgo
      have hdr : S.data.toList.drop i = S[i] :: S.data.toList.drop (i + 1) := List.drop_eq_getElem_cons (by simpa using hli)
      have hd2 : 48 ≤ (S[i].toNat : Int) ∧ (S[i].toNat : Int) ≤ 57 := by unfold isDg at hdg; simp at hdg; omega
      obtain ⟨hd2, hd3⟩ := hd2
      have HDR := Lib.hid hdr
      have HDG := Lib.hid hdg
      clear hdr hdg
      go_wp2_with fail
      go_round
      case rel => exact ⟨i + 1, by omega, by omega, by go_num, by unfold Hid; rw [HI.out, HDR.out]; unfold dgs; rw [List.takeWhile_cons, if_pos HDG.out]; simp; omega⟩
      case measure => simp [intOf]; omega
    · have hdn : dgs (S.data.toList.drop i) = [] := by
        unfold dgs
        rcases Nat.lt_or_ge i S.size with hh | hh
        · rw [List.drop_eq_getElem_cons (i := i) (by simpa using hh)]
          have : S.data.toList[i] = S[i] := rfl
          rw [this, List.takeWhile_cons, if_neg (fun e => hgo ⟨hh, e⟩)]
        · rw [List.drop_eq_nil_of_le (by simpa using hh)]; rfl
      have hlen : (dgs u).length = i - k := by rw [HI.out, hdn]; simp
      obtain ⟨T, hT⟩ : ∃ T, T = S.extract k i := ⟨_, rfl⟩
      have hTd : T.data.toList = dgs u := by
        rw [hT, show i = k + (i - k) by omega, extract_part, HUU.out, ← hlen]
        unfold dgs
        exact (List.prefix_iff_eq_take.1 (List.takeWhile_prefix isDg)).symm
      have hTz : T.size = i - k := by rw [size_list, hTd, hlen]
      have hend : ((∃ h : i < S.size, (S[i].toNat : Int) < 48) ∨ (∃ h : i < S.size, 48 ≤ (S[i].toNat : Int) ∧ 57 < (S[i].toNat : Int))) ∨ i = S.size := by
        rcases Nat.lt_or_ge i S.size with hh | hh
        · left
          have hd : ¬ isDg S[i] = true := fun e => hgo ⟨hh, e⟩
          unfold isDg at hd
          simp at hd
          by_cases h48 : (S[i].toNat : Int) < 48
          · exact .inl ⟨hh, h48⟩
          · exact .inr ⟨hh, by omega, by omega⟩
        · exact .inr (by omega)
      have HT := Lib.hid hT
      have HTD := Lib.hid hTd
      have HTZ := Lib.hid hTz
      clear hgo HI hdn hlen hT hTd hTz
      have hcs : ∃ h : 0 < T.size, T.toList.isEmpty = false ∧ T.size ≤ 4 ∧ (T.size ≤ 1 ∨ (1 < T.size ∧ ((T[0].toNat : Int) == 48) = false)) := by
        have hn := HN.out
        rw [← HTD.out] at hn
        cases hTl : T.data.toList with
        | nil => rw [hTl] at hn; cases hn
        | cons c r =>
          have he : T.toList.isEmpty = false := by rw [ByteArray.toList_eq, hTl]; rfl
          have hz := head_size hTl
          have hg := head_get hTl (by omega)
          rw [hTl] at hn
          simp only [okD, Bool.and_eq_true, Bool.not_eq_true', Bool.and_eq_false_iff, decide_eq_false_iff_not, decide_eq_true_eq, beq_eq_false_iff_ne] at hn
          refine ⟨by omega, he, by omega, ?_⟩
          by_cases h1 : T.size ≤ 1
          · exact .inl h1
          · right
            refine ⟨by omega, ?_⟩
            rw [beq_eq_false_iff_ne]
            intro e
            rcases hn.2 with h2 | h2
            · omega
            · apply h2
              apply UInt8.toNat_inj.1
              rw [← hg]
              have : T[0].toNat = 48 := by omega
              exact this
      have hdg : ∀ j (hj : j < T.size), 48 ≤ (T[j].toNat : Int) ∧ (T[j].toNat : Int) ≤ 57 := fun j hj => by
        have e1 : T[j] = T.data.toList[j]'(by simpa using hj) := rfl
        have : T[j] ∈ dgs u := by rw [← HTD.out, e1]; exact List.getElem_mem _
        have := List.all_eq_true.1 (List.all_takeWhile (l := u) (p := isDg)) _ this
        unfold isDg at this
        simp at this
        omega
      have HDG := Lib.hid hdg
      clear hdg
      obtain ⟨hT0, he0, hT4, hcs⟩ := hcs
      have hRf : RfB (w1.drewN 0) g S k := B
      rcases hend with (⟨hli, hd1⟩ | ⟨hli, hd1, hd2⟩) | hd1 <;> rcases hcs with hT1 | ⟨hT1, hT48⟩
      all_goals
        (try subst hd1)
        go_wp2_with fail
        go_quiet (fail)
        rw [← HT.out]
        generalize hwq : World.drewN w1 _ = wq
        have Bq : RfB wq g S k := by rw [← hwq]; exact B
        have Fq : Fr (some g) w wq := by rw [← hwq]; exact F1.drewN _
        clear hwq RC Z B hRf
        have RC := Bq.cell
        have Z := Bq.free
        go_wp2_with fail
        (try clear hT48)
        go_loop [6, 7] (fun s6 s7 => ∃ (j m : Nat), j ≤ T.size ∧ s7 = .int .i64 (j : Int) ∧ s6 = .int .i64 (m : Int) ∧ m < 10 ^ j ∧ Hid (m = numV 0 (T.data.toList.take j))) (fun _ s7 => T.size - (intOf s7).toNat)
        case atStart => exact ⟨0, 0, Nat.zero_le _, rfl, rfl, by decide, rfl⟩
        case round =>
          obtain ⟨j, m, hj, rfl, rfl, hm, HM⟩ := hrel
          by_cases hjl : j < T.size
          · obtain ⟨d1, d2⟩ := HDG.out j hjl
            have hm9 : m ≤ 999 := by
              have : 10 ^ j ≤ 10 ^ 3 := Nat.pow_le_pow_right (by omega) (by omega)
              omega
            have hmm : 10 * m + (T[j].toNat - 48) < 10 ^ (j + 1) := by rw [Nat.pow_succ]; omega
            have HMM := Lib.hid hmm
            have HM0 := Lib.hid hm
            clear hm hmm
            go_wp2_with fail
            go_round
            case rel =>
              refine ⟨j + 1, 10 * m + (T[j].toNat - 48), by omega, by go_num, by go_num, HMM.out, ?_⟩
              unfold Hid
              rw [List.take_succ_eq_append_getElem (by simpa using hjl), numV_snoc, ← HM.out]
              rfl
            case measure => simp [intOf]; omega
          · obtain rfl : j = T.size := by omega
            have HMV : Hid (m = numV 0 (dgs u)) := by unfold Hid; rw [HM.out, ← HTD.out, List.take_of_length_le (by simp)]
            clear hm HM
            go_wp2_with fail
            go_ret2
            refine ⟨by rw [← HMV.out] <;> rfl, ⟨_, Bq.set0 _, by omega, ?_⟩, Fq.same (Fr.set1 _ ⟨g, 1, none⟩ _)⟩
            have e1 := HTZ.out
            have e2 : T.size = (dgs u).length := by rw [size_list, HTD.out]
            rw [← HUU.out, List.drop_drop, HUU.out, ← e2]
            congr 2
            omega
end Go.Proofs.YtpdhckbiioobhaaGreatDoor

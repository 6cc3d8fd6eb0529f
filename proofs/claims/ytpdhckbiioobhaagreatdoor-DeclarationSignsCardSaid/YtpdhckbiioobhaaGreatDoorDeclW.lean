/- Walks: Plain of declarations (program and reference). By gen_decl.py. -/
import Derived.Test.YtpdhckbiioobhaaGreatDoorProg
import Derived.Test.YtpdhckbiioobhaaGreatDoorTxtW
import Derived.Test.YtpdhckbiioobhaaGreatDoorHashW
import Derived.Test.YtpdhckbiioobhaaGreatDoorParV
namespace Go.Proofs.YtpdhckbiioobhaaGreatDoor
open Go.RowKit

/-- A declaration. -/
structure De where
  node : Int
  seq : Int
  tr : Tr
  tag : Nat
/-- The struct value v reads as the declaration. -/
def DeD (w : World) (D : Nat → Prop) (v : Value) (d : De) : Prop :=
  ∃ th vn vi, v = .agg #[.int .i64 d.node, .int .i64 d.seq, .int .i64 th, vn, vi, .int .u64 (d.tag : Int)] ∧ TrD w D (.agg #[.int .i64 th, vn, vi]) d.tr ∧ Wi d.node ∧ Wi d.seq ∧ d.tag < 18446744073709551616
theorem DeD.keep {w w' : World} {D D' : Nat → Prop} (hD : ∀ k, D k → D' k ∧ w'.heap[k]? = w.heap[k]?) {v : Value} {d : De} (h : DeD w D v d) : DeD w' D' v d := by
  obtain ⟨th, vn, vi, e, h1, h2⟩ := h
  exact ⟨th, vn, vi, e, TrD.keep hD _ _ h1, h2⟩
theorem DeD.shape {w : World} {D : Nat → Prop} {v : Value} {d : De} (h : DeD w D v d) :
    ∃ (th : Int) (A1 : Option Addr) (n1 c1 : Nat) (A2 : Option Addr) (n2 c2 : Nat), v = .agg #[.int .i64 d.node, .int .i64 d.seq, .int .i64 th, .slice A1 n1 c1, .slice A2 n2 c2, .int .u64 (d.tag : Int)] ∧ TrD w D (.agg #[.int .i64 th, .slice A1 n1 c1, .slice A2 n2 c2]) d.tr ∧ Wi d.node ∧ Wi d.seq ∧ d.tag < 18446744073709551616 := by
  obtain ⟨th, vn, vi, e, h1, h2⟩ := h
  obtain ⟨th', A1, n1, c1, A2, n2, c2, e2⟩ := h1.shape
  simp only [Value.agg.injEq, Array.mk.injEq, List.cons.injEq, and_true] at e2
  obtain ⟨e3, rfl, rfl⟩ := e2
  exact ⟨th, A1, n1, c1, A2, n2, c2, e, h1, h2⟩
/-- The first error of a declaration, apart from its tag. -/
def plainE (d : De) : Int := if d.node < 0 ∨ 10 ≤ d.node then 5 else if d.seq < 1 ∨ 30 < d.seq then 1 else if validE d.tr ≠ 0 then validE d.tr else if 3 < d.tr.dep ∨ 40 < d.tr.size then 3 else 0

set_option maxRecDepth 100000 in
theorem rplain_any (d : De) (v : Value) (w : World) (r : Option Nat) (hs : d.tr.size ≤ 1073741000) (h : DeD w (Dm w r) v d) :
    Calls Tryz.prog 55 #[v] w fun e w' => e = .returned (.int .i64 (plainE d)) ∧ Fr none w w' := by
  obtain ⟨th, A1, n1, c1, A2, n2, c2, rfl, hT, hn, hq, ht⟩ := h.shape
  obtain ⟨nd, sq, t, tg⟩ := d
  simp only at hs hT hn hq ht ⊢
  have F1 := (Fr.refl none w).alloc (.cells #[.int .i64 nd, .int .i64 sq, .int .i64 th, .slice A1 n1 c1, .slice A2 n2 c2, .int .u64 tg] 61)
  have h1 : TrR _ r _ t := TrD.keep (fr_dm (F1.mono (r := r))) t _ hT
  have E : Hid (plainE ⟨nd, sq, t, tg⟩ = if nd < 0 ∨ 10 ≤ nd then 5 else if sq < 1 ∨ 30 < sq then 1 else if validE t ≠ 0 then validE t else if 3 < t.dep ∨ 40 < t.size then 3 else 0) := Lib.hid rfl
  by_cases c1 : nd < 0 ∨ 10 ≤ nd
  · have HF : Hid (plainE ⟨nd, sq, t, tg⟩ = 5) := by unfold Hid; rw [E.out, if_pos c1]
    clear E
    rcases c1 with c1 | c1
    · go_enter Tryz.func55, Tryz.ntmps55
      go_wp2_with fail
      go_ret
      exact ⟨ret_int (by rw [HF.out]), F1⟩
    · have c0 : 0 ≤ nd := by omega
      go_enter Tryz.func55, Tryz.ntmps55
      go_wp2_with fail
      go_ret
      exact ⟨ret_int (by rw [HF.out]), F1⟩
  · have d1 : 0 ≤ nd := by omega
    have d2 : nd < 10 := by omega
    by_cases c2 : sq < 1 ∨ 30 < sq
    · have HF : Hid (plainE ⟨nd, sq, t, tg⟩ = 1) := by unfold Hid; rw [E.out, if_neg c1, if_pos c2]
      clear E c1
      rcases c2 with c2 | c2
      · go_enter Tryz.func55, Tryz.ntmps55
        go_wp2_with fail
        go_ret
        exact ⟨ret_int (by rw [HF.out]), F1⟩
      · have c0 : 1 ≤ sq := by omega
        go_enter Tryz.func55, Tryz.ntmps55
        go_wp2_with fail
        go_ret
        exact ⟨ret_int (by rw [HF.out]), F1⟩
    · have d3 : 1 ≤ sq := by omega
      have d4 : sq ≤ 30 := by omega
      by_cases c3 : validE t = 0
      · have E2 : Hid (plainE ⟨nd, sq, t, tg⟩ = if 3 < t.dep ∨ 40 < t.size then 3 else 0) := by unfold Hid; rw [E.out, if_neg c1, if_neg c2, if_neg (by rw [c3]; simp)]
        have v0 : (validE t != 0) = false := by rw [bne_eq_false_iff_eq]; exact c3
        have HV := Lib.hid c3
        have hdep := (valid_check c3).2.2
        have hsz := (valid_check c3).2.1
        clear E c1 c2 c3
        obtain ⟨dp, hdp⟩ : ∃ x, x = t.dep := ⟨_, rfl⟩
        obtain ⟨zs, hzs⟩ : ∃ x, x = t.size := ⟨_, rfl⟩
        rw [← hdp, ← hzs] at E2
        rw [← hdp] at hdep
        rw [← hzs] at hsz
        have HD := Lib.hid hdp
        have HZ := Lib.hid hzs
        clear hdp hzs
        by_cases e1 : 3 < dp
        · have HF : Hid (plainE ⟨nd, sq, t, tg⟩ = 3) := by unfold Hid; rw [E2.out, if_pos (.inl e1)]
          clear E2
          go_enter Tryz.func55, Tryz.ntmps55
          go_wp2_with fail
          generalize hW : w.alloc _ = w1 at *
          have B1 : Hid (w1.heap[w.heap.size]? = some (.cells #[.int .i64 nd, .int .i64 sq, .int .i64 th, .slice A1 n1 c1, .slice A2 n2 c2, .int .u64 tg] 61 (0, 0))) := by rw [← hW]; exact blk_new _ _
          clear hW
          refine (rvalidT_any t _ _ r hs h1).mono ?_
          rintro e w2 ⟨rfl, F2⟩
          rw [HV.out]
          have B2 : Hid _ := blk_fr B1.out F2 (by simp)
          have R2 := blk_cell B2.out
          go_wp2_with fail
          refine (rdepth_any t.dep t _ _ r (Nat.le_refl _) (by have := HD.out; omega) (h1.fr (F2.mono (r := r)))).mono ?_
          rintro e w3 ⟨rfl, F3⟩
          rw [← HD.out]
          have R3 := blk_cell (blk_fr B2.out F3 (by simp))
          clear R2
          go_wp2_with fail
          go_ret
          exact ⟨ret_int (by rw [HF.out]), (F1.pure F2).pure F3⟩
        · by_cases e2 : 40 < zs
          · have HF : Hid (plainE ⟨nd, sq, t, tg⟩ = 3) := by unfold Hid; rw [E2.out, if_pos (.inr e2)]
            clear E2
            go_enter Tryz.func55, Tryz.ntmps55
            go_wp2_with fail
            generalize hW : w.alloc _ = w1 at *
            have B1 : Hid (w1.heap[w.heap.size]? = some (.cells #[.int .i64 nd, .int .i64 sq, .int .i64 th, .slice A1 n1 c1, .slice A2 n2 c2, .int .u64 tg] 61 (0, 0))) := by rw [← hW]; exact blk_new _ _
            clear hW
            refine (rvalidT_any t _ _ r hs h1).mono ?_
            rintro e w2 ⟨rfl, F2⟩
            rw [HV.out]
            have B2 : Hid _ := blk_fr B1.out F2 (by simp)
            have R2 := blk_cell B2.out
            go_wp2_with fail
            refine (rdepth_any t.dep t _ _ r (Nat.le_refl _) (by have := HD.out; omega) (h1.fr (F2.mono (r := r)))).mono ?_
            rintro e w3 ⟨rfl, F3⟩
            rw [← HD.out]
            have R3 := blk_cell (blk_fr B2.out F3 (by simp))
            clear R2
            go_wp2_with fail
            refine (rsize_any t.dep t _ _ r (Nat.le_refl _) (by omega) ((h1.fr (F2.mono (r := r))).fr (F3.mono (r := r)))).mono ?_
            rintro e w4 ⟨rfl, F4⟩
            rw [← HZ.out]
            go_wp2_with fail
            go_ret
            exact ⟨ret_int (by rw [HF.out]), ((F1.pure F2).pure F3).pure F4⟩
          · have HF : Hid (plainE ⟨nd, sq, t, tg⟩ = 0) := by unfold Hid; rw [E2.out, if_neg (by omega)]
            clear E2
            go_enter Tryz.func55, Tryz.ntmps55
            go_wp2_with fail
            generalize hW : w.alloc _ = w1 at *
            have B1 : Hid (w1.heap[w.heap.size]? = some (.cells #[.int .i64 nd, .int .i64 sq, .int .i64 th, .slice A1 n1 c1, .slice A2 n2 c2, .int .u64 tg] 61 (0, 0))) := by rw [← hW]; exact blk_new _ _
            clear hW
            refine (rvalidT_any t _ _ r hs h1).mono ?_
            rintro e w2 ⟨rfl, F2⟩
            rw [HV.out]
            have B2 : Hid _ := blk_fr B1.out F2 (by simp)
            have R2 := blk_cell B2.out
            go_wp2_with fail
            refine (rdepth_any t.dep t _ _ r (Nat.le_refl _) (by have := HD.out; omega) (h1.fr (F2.mono (r := r)))).mono ?_
            rintro e w3 ⟨rfl, F3⟩
            rw [← HD.out]
            have R3 := blk_cell (blk_fr B2.out F3 (by simp))
            clear R2
            go_wp2_with fail
            refine (rsize_any t.dep t _ _ r (Nat.le_refl _) (by omega) ((h1.fr (F2.mono (r := r))).fr (F3.mono (r := r)))).mono ?_
            rintro e w4 ⟨rfl, F4⟩
            rw [← HZ.out]
            go_wp2_with fail
            go_ret
            exact ⟨ret_int (by rw [HF.out]), ((F1.pure F2).pure F3).pure F4⟩
      · have HF : Hid (plainE ⟨nd, sq, t, tg⟩ = validE t) := by unfold Hid; rw [E.out, if_neg c1, if_neg c2, if_pos c3]
        have v0 : (validE t != 0) = true := by rw [bne_iff_ne]; exact c3
        clear E c1 c2 c3
        go_enter Tryz.func55, Tryz.ntmps55
        go_wp2_with fail
        generalize hW : w.alloc _ = w1 at *
        refine (rvalidT_any t _ _ r hs h1).mono ?_
        rintro e w2 ⟨rfl, F2⟩
        go_wp2_with fail
        go_ret
        exact ⟨ret_int (by rw [HF.out]), F1.pure F2⟩

set_option maxRecDepth 100000 in
theorem plain_any (d : De) (v : Value) (w : World) (r : Option Nat) (hs : d.tr.size ≤ 1073741000) (h : DeD w (Dm w r) v d) :
    Calls Tryz.prog 54 #[v] w fun e w' => e = .returned (.int .i64 (plainE d)) ∧ Fr none w w' := by
  obtain ⟨th, A1, n1, c1, A2, n2, c2, rfl, hT, hn, hq, ht⟩ := h.shape
  obtain ⟨nd, sq, t, tg⟩ := d
  simp only at hs hT hn hq ht ⊢
  have F1 := (Fr.refl none w).alloc (.cells #[.int .i64 nd, .int .i64 sq, .int .i64 th, .slice A1 n1 c1, .slice A2 n2 c2, .int .u64 tg] 61)
  have h1 : TrR _ r _ t := TrD.keep (fr_dm (F1.mono (r := r))) t _ hT
  have E : Hid (plainE ⟨nd, sq, t, tg⟩ = if nd < 0 ∨ 10 ≤ nd then 5 else if sq < 1 ∨ 30 < sq then 1 else if validE t ≠ 0 then validE t else if 3 < t.dep ∨ 40 < t.size then 3 else 0) := Lib.hid rfl
  by_cases c1 : nd < 0 ∨ 10 ≤ nd
  · have HF : Hid (plainE ⟨nd, sq, t, tg⟩ = 5) := by unfold Hid; rw [E.out, if_pos c1]
    clear E
    rcases c1 with c1 | c1
    · go_enter Tryz.func54, Tryz.ntmps54
      go_wp2_with fail
      go_ret
      exact ⟨ret_int (by rw [HF.out]), F1⟩
    · have c0 : 0 ≤ nd := by omega
      go_enter Tryz.func54, Tryz.ntmps54
      go_wp2_with fail
      go_ret
      exact ⟨ret_int (by rw [HF.out]), F1⟩
  · have d1 : 0 ≤ nd := by omega
    have d2 : nd < 10 := by omega
    by_cases c2 : sq < 1 ∨ 30 < sq
    · have HF : Hid (plainE ⟨nd, sq, t, tg⟩ = 1) := by unfold Hid; rw [E.out, if_neg c1, if_pos c2]
      clear E c1
      rcases c2 with c2 | c2
      · go_enter Tryz.func54, Tryz.ntmps54
        go_wp2_with fail
        go_ret
        exact ⟨ret_int (by rw [HF.out]), F1⟩
      · have c0 : 1 ≤ sq := by omega
        go_enter Tryz.func54, Tryz.ntmps54
        go_wp2_with fail
        go_ret
        exact ⟨ret_int (by rw [HF.out]), F1⟩
    · have d3 : 1 ≤ sq := by omega
      have d4 : sq ≤ 30 := by omega
      by_cases c3 : validE t = 0
      · have E2 : Hid (plainE ⟨nd, sq, t, tg⟩ = if 3 < t.dep ∨ 40 < t.size then 3 else 0) := by unfold Hid; rw [E.out, if_neg c1, if_neg c2, if_neg (by rw [c3]; simp)]
        have v0 : (validE t != 0) = false := by rw [bne_eq_false_iff_eq]; exact c3
        have HV := Lib.hid c3
        have hdep := (valid_check c3).2.2
        have hsz := (valid_check c3).2.1
        clear E c1 c2 c3
        obtain ⟨dp, hdp⟩ : ∃ x, x = t.dep := ⟨_, rfl⟩
        obtain ⟨zs, hzs⟩ : ∃ x, x = t.size := ⟨_, rfl⟩
        rw [← hdp, ← hzs] at E2
        rw [← hdp] at hdep
        rw [← hzs] at hsz
        have HD := Lib.hid hdp
        have HZ := Lib.hid hzs
        clear hdp hzs
        by_cases e1 : 3 < dp
        · have HF : Hid (plainE ⟨nd, sq, t, tg⟩ = 3) := by unfold Hid; rw [E2.out, if_pos (.inl e1)]
          clear E2
          go_enter Tryz.func54, Tryz.ntmps54
          go_wp2_with fail
          generalize hW : w.alloc _ = w1 at *
          have B1 : Hid (w1.heap[w.heap.size]? = some (.cells #[.int .i64 nd, .int .i64 sq, .int .i64 th, .slice A1 n1 c1, .slice A2 n2 c2, .int .u64 tg] 61 (0, 0))) := by rw [← hW]; exact blk_new _ _
          clear hW
          refine (validT_any t _ _ r hs h1).mono ?_
          rintro e w2 ⟨rfl, F2⟩
          rw [HV.out]
          have B2 : Hid _ := blk_fr B1.out F2 (by simp)
          have R2 := blk_cell B2.out
          go_wp2_with fail
          refine (depth_any t.dep t _ _ r (Nat.le_refl _) (by have := HD.out; omega) (h1.fr (F2.mono (r := r)))).mono ?_
          rintro e w3 ⟨rfl, F3⟩
          rw [← HD.out]
          have R3 := blk_cell (blk_fr B2.out F3 (by simp))
          clear R2
          go_wp2_with fail
          go_ret
          exact ⟨ret_int (by rw [HF.out]), (F1.pure F2).pure F3⟩
        · by_cases e2 : 40 < zs
          · have HF : Hid (plainE ⟨nd, sq, t, tg⟩ = 3) := by unfold Hid; rw [E2.out, if_pos (.inr e2)]
            clear E2
            go_enter Tryz.func54, Tryz.ntmps54
            go_wp2_with fail
            generalize hW : w.alloc _ = w1 at *
            have B1 : Hid (w1.heap[w.heap.size]? = some (.cells #[.int .i64 nd, .int .i64 sq, .int .i64 th, .slice A1 n1 c1, .slice A2 n2 c2, .int .u64 tg] 61 (0, 0))) := by rw [← hW]; exact blk_new _ _
            clear hW
            refine (validT_any t _ _ r hs h1).mono ?_
            rintro e w2 ⟨rfl, F2⟩
            rw [HV.out]
            have B2 : Hid _ := blk_fr B1.out F2 (by simp)
            have R2 := blk_cell B2.out
            go_wp2_with fail
            refine (depth_any t.dep t _ _ r (Nat.le_refl _) (by have := HD.out; omega) (h1.fr (F2.mono (r := r)))).mono ?_
            rintro e w3 ⟨rfl, F3⟩
            rw [← HD.out]
            have R3 := blk_cell (blk_fr B2.out F3 (by simp))
            clear R2
            go_wp2_with fail
            refine (tsize_any t.dep t _ _ r (Nat.le_refl _) (by omega) ((h1.fr (F2.mono (r := r))).fr (F3.mono (r := r)))).mono ?_
            rintro e w4 ⟨rfl, F4⟩
            rw [← HZ.out]
            go_wp2_with fail
            go_ret
            exact ⟨ret_int (by rw [HF.out]), ((F1.pure F2).pure F3).pure F4⟩
          · have HF : Hid (plainE ⟨nd, sq, t, tg⟩ = 0) := by unfold Hid; rw [E2.out, if_neg (by omega)]
            clear E2
            go_enter Tryz.func54, Tryz.ntmps54
            go_wp2_with fail
            generalize hW : w.alloc _ = w1 at *
            have B1 : Hid (w1.heap[w.heap.size]? = some (.cells #[.int .i64 nd, .int .i64 sq, .int .i64 th, .slice A1 n1 c1, .slice A2 n2 c2, .int .u64 tg] 61 (0, 0))) := by rw [← hW]; exact blk_new _ _
            clear hW
            refine (validT_any t _ _ r hs h1).mono ?_
            rintro e w2 ⟨rfl, F2⟩
            rw [HV.out]
            have B2 : Hid _ := blk_fr B1.out F2 (by simp)
            have R2 := blk_cell B2.out
            go_wp2_with fail
            refine (depth_any t.dep t _ _ r (Nat.le_refl _) (by have := HD.out; omega) (h1.fr (F2.mono (r := r)))).mono ?_
            rintro e w3 ⟨rfl, F3⟩
            rw [← HD.out]
            have R3 := blk_cell (blk_fr B2.out F3 (by simp))
            clear R2
            go_wp2_with fail
            refine (tsize_any t.dep t _ _ r (Nat.le_refl _) (by omega) ((h1.fr (F2.mono (r := r))).fr (F3.mono (r := r)))).mono ?_
            rintro e w4 ⟨rfl, F4⟩
            rw [← HZ.out]
            go_wp2_with fail
            go_ret
            exact ⟨ret_int (by rw [HF.out]), ((F1.pure F2).pure F3).pure F4⟩
      · have HF : Hid (plainE ⟨nd, sq, t, tg⟩ = validE t) := by unfold Hid; rw [E.out, if_neg c1, if_neg c2, if_pos c3]
        have v0 : (validE t != 0) = true := by rw [bne_iff_ne]; exact c3
        clear E c1 c2 c3
        go_enter Tryz.func54, Tryz.ntmps54
        go_wp2_with fail
        generalize hW : w.alloc _ = w1 at *
        refine (validT_any t _ _ r hs h1).mono ?_
        rintro e w2 ⟨rfl, F2⟩
        go_wp2_with fail
        go_ret
        exact ⟨ret_int (by rw [HF.out]), F1.pure F2⟩
end Go.Proofs.YtpdhckbiioobhaaGreatDoor

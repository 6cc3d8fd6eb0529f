/- The law DeclarationTags: its walk. -/
import Derived.Test.YtidnnjgiogklaaaDoorProg
import Derived.Test.YtidnnjgiogklaaaDoorAwake7
import Derived.Test.YtidnnjgiogklaaaDoorKd
namespace Go.Proofs.YtidnnjgiogklaaaDoor
open Go.RowKit

set_option maxRecDepth 100000 in
set_option maxHeartbeats 4000000 in
theorem law07a_any (v : Value) (l : List Int) (tag : Nat) (w : World) (hl : SlI w none v l) (ht : tag < 18446744073709551616) (hT : Tab w) : Calls Tryd.prog 4 #[v, .int .u64 tag] w fun e w' => e = .returned (.bool true) ∧ Fr none w w' := by
  have HTag := Lib.hid ht
  clear ht
  go_enter Tryd.func4, Tryd.ntmps4
  go_wp2_with fail
  refine (tapeNew_any _ _ _ hl).mono ?_
  rintro e w1 ⟨g, rfl, hg, S1, F1⟩
  have T1 := hT.fr F1
  clear hl
  go_wp2_with fail
  refine (tapeRange_any 1 10 g _ (by omega) (by omega) (by omega) S1).mono ?_
  rintro e w2 ⟨x, rfl, x1, x2, S2, F2⟩
  obtain ⟨n, rfl⟩ := Int.eq_ofNat_of_zero_le (show 0 ≤ x by omega)
  have T2 := T1.src S1 F2
  go_wp2_with fail
  refine (keys_any n g _ (by omega) S2).mono ?_
  rintro e w3 ⟨kv, ks, rfl, hkl, hks, D3, S3, F3⟩
  subst hkl
  have T3 := T2.src S2 F3
  have g2 := S2.lt
  have K3 : SlD w3 (Dm w3 (some g)) 1 kv (ks.map u64v) := D3.keep (dn_dm (by simp; omega))
  have HKS := Lib.hid hks
  have F03 := F1.own (F2.same F3) (fun q hq => by injection hq with hq; omega)
  clear hks D3
  obtain ⟨A0, c0, rfl, kq1, kq2, _⟩ := keys_open K3
  go_wp2_with fail
  refine (mkdecl_any ks _ g _ (by omega) (by omega) HKS.out K3 S3 T3).mono ?_
  rintro e w4 ⟨v4, k, hk, sq, T, rfl, s1, s2, hv, hd, hz, D4, S4, F4⟩
  have T4 := T3.src S3 F4
  have F04 := F03.own F4 (fun q hq => by injection hq with hq; omega)
  have K4 : SlD w4 (Dm w4 none) 1 (.slice A0 ks.length c0) (ks.map u64v) := (K3.keep (fr_dm F4)).keep dm_none
  obtain ⟨th, A1, n1, c1, A2, n2, c2, rfl, hTr, _, _, htg⟩ := D4.shape
  simp only at htg hTr ⊢
  obtain ⟨tg, hgt⟩ : ∃ tg, tg = tagS ks[k] (bytesS ⟨k, sq, T, 0⟩) := ⟨_, rfl⟩
  rw [← hgt] at D4 htg ⊢
  have hTr4 : TrD w4 (Dm w4 none) _ T := TrD.keep (dn_dm (by simp)) _ _ hTr
  have hp0 : plainE ⟨k, sq, T, tag⟩ = 0 := plain_mk (by omega) (by omega) s1 (by omega) hv hd hz
  have hp1 : plainE ⟨k, sq, T, tg⟩ = 0 := hp0
  have hc1 : chkE ks ⟨k, sq, T, tag⟩ = if tag = tg then 0 else 8 := by
    unfold chkE
    simp only
    rw [if_neg (by omega), Int.toNat_natCast, List.getD_eq_getElem?_getD, List.getElem?_eq_getElem hk, Option.getD_some, bytes_tag _ _ _ tag 0, ← hgt]
  have hc2 : chkE [] ⟨k, sq, T, tg⟩ = 10 := by
    unfold chkE
    simp only [List.length_nil]
    rw [if_pos (by omega)]
  have HP0 := Lib.hid hp0
  have HP1 := Lib.hid hp1
  have HC1 := Lib.hid hc1
  have HC2 := Lib.hid hc2
  have HTG := Lib.hid htg
  have hwk : Wi (k : Int) := by constructor <;> omega
  have hws : Wi sq := by constructor <;> omega
  clear hgt htg hp0 hp1 hc1 hc2 hv hd hz D4 hTr S1 S2 S3 K3 F1 F2 F3 F4 T1 T2 T3 F03
  go_upto_region 6 with (fail)
  generalize hW : (w4.alloc _).alloc _ = w5
  have F5 : Fr none w4 w5 := hW ▸ ((Fr.refl none w4).alloc _).alloc _
  have bd : DB w5 w4.heap.size (.int .i64 (k : Int)) (.int .i64 sq) (.int .i64 th) (.slice A1 n1 c1) (.slice A2 n2 c2) (.int .u64 (tg : Nat)) := by rw [← hW]; exact (Below.heap_alloc _ _ _ (by simp)).trans (blk_new _ _)
  have bx : DB w5 (w4.heap.size + 1) (.int .i64 (k : Int)) (.int .i64 sq) (.int .i64 th) (.slice A1 n1 c1) (.slice A2 n2 c2) (.int .u64 (tag : Nat)) := by rw [← hW]; exact blk_new_at (by simp) _
  clear hW
  have hbd : w4.heap.size < w5.heap.size := blk_lt bd
  have hbx : w4.heap.size + 1 < w5.heap.size := blk_lt bx
  have T5 := T4.fr F5
  have K5 := K4.keep (fr_dm F5)
  have t5 := TrD.keep (fr_dm F5) _ _ hTr4
  have D5 : DeD w5 (Dm w5 none) (.agg #[.int .i64 (k : Int), .int .i64 sq, .int .i64 th, .slice A1 n1 c1, .slice A2 n2 c2, .int .u64 (tg : Nat)]) ⟨k, sq, T, tg⟩ := ded_mk t5 hwk hws HTG.out
  have X5 : DeD w5 (Dm w5 none) (.agg #[.int .i64 (k : Int), .int .i64 sq, .int .i64 th, .slice A1 n1 c1, .slice A2 n2 c2, .int .u64 (tag : Nat)]) ⟨k, sq, T, tag⟩ := ded_mk t5 hwk hws HTag.out
  have K0 : Kd w5 w4.heap.size (w4.heap.size + 1) #[.int .i64 (k : Int), .int .i64 sq, .int .i64 th, .slice A1 n1 c1, .slice A2 n2 c2, .int .u64 (tg : Nat)] #[.int .i64 (k : Int), .int .i64 sq, .int .i64 th, .slice A1 n1 c1, .slice A2 n2 c2, .int .u64 (tag : Nat)] w5.drew := ⟨bd.cell, bx.cell, (Fr.refl _ _).drew⟩
  have F05 := F04.pure F5
  have N0 := Lib.hid (fun W : World => (SlD.nil W (Dm W none) 1 : SlD W (Dm W none) 1 (.slice none 0 0) (([] : List Nat).map u64v)))
  have n1 : ∀ y ∈ ([] : List Nat), y < 18446744073709551616 := fun y hy => by cases hy
  have N1 := Lib.hid n1
  clear n1
  by_cases heq : tag = tg
  · have hcc := HC1.out
    rw [if_pos heq] at hcc
    have HC1 := Lib.hid hcc
    clear hcc
    subst heq
    have RA0 := bd.cell
    have RB0 := bx.cell
    first | (go_region_law (first | (go_simp; go_at_call 22; (with_reducible refine (check_any ks (.slice A0 ks.length c0) ⟨k, sq, T, tag⟩ (.agg #[.int .i64 (k : Int), .int .i64 sq, .int .i64 th, .slice A1 n1 c1, .slice A2 n2 c2, .int .u64 (tag : Nat)]) _ none HKS.out (K5.keep (fr_dm (‹Kd w5 w4.heap.size (w4.heap.size + 1) _ _ _›).frame)) (X5.keep (fr_dm (‹Kd w5 w4.heap.size (w4.heap.size + 1) _ _ _›).frame)) HP0.out (T5.fr (‹Kd w5 w4.heap.size (w4.heap.size + 1) _ _ _›).frame)).mono ?_); rintro e w6 ⟨rfl, F6⟩; rw [HC1.out]; have KK := (‹Kd w5 w4.heap.size (w4.heap.size + 1) _ _ _›).fr hbd hbx F6; have RA := KK.1; have RB := KK.2.1) | (go_simp; go_at_call 22; (with_reducible refine (check_any [] (.slice none 0 0) ⟨k, sq, T, tag⟩ (.agg #[.int .i64 (k : Int), .int .i64 sq, .int .i64 th, .slice A1 n1 c1, .slice A2 n2 c2, .int .u64 (tag : Nat)]) _ none N1.out (N0.out _) (D5.keep (fr_dm (‹Kd w5 w4.heap.size (w4.heap.size + 1) _ _ _›).frame)) HP1.out (T5.fr (‹Kd w5 w4.heap.size (w4.heap.size + 1) _ _ _›).frame)).mono ?_); rintro e w6 ⟨rfl, F6⟩; rw [HC2.out]; have KK := (‹Kd w5 w4.heap.size (w4.heap.size + 1) _ _ _›).fr hbd hbx F6; have RA := KK.1; have RB := KK.2.1) | (go_simp; go_at_call 23; refine (awake7_any _ (T5.fr (‹Kd w5 w4.heap.size (w4.heap.size + 1) _ _ _›).frame)).mono ?_; rintro e w6 ⟨rfl, F6⟩; have KK := (‹Kd w5 w4.heap.size (w4.heap.size + 1) _ _ _›).fr hbd hbx F6; have RA := KK.1; have RB := KK.2.1))) | fail
    all_goals
      go_wp2_with fail
      go_ret
      exact ⟨rfl, F05.pure KK.frame⟩
  · have hcc := HC1.out
    rw [if_neg heq] at hcc
    have HC1 := Lib.hid hcc
    have hb : ((tag : Int) == (tg : Int)) = false := by rw [beq_eq_false_iff_ne]; omega
    clear hcc heq
    go_region_held3 (fun w' => (∀ i, w'.cell? ⟨w4.heap.size, i, none⟩ = (#[.int .i64 (k : Int), .int .i64 sq, .int .i64 th, .slice A1 n1 c1, .slice A2 n2 c2, .int .u64 (tg : Nat)] : Array Value)[i]?) ∧ (∀ i, w'.cell? ⟨w4.heap.size + 1, i, none⟩ = (#[.int .i64 (k : Int), .int .i64 sq, .int .i64 th, .slice A1 n1 c1, .slice A2 n2 c2, .int .u64 (tag : Nat)] : Array Value)[i]?) ∧ Kd w5 w4.heap.size (w4.heap.size + 1) #[.int .i64 (k : Int), .int .i64 sq, .int .i64 th, .slice A1 n1 c1, .slice A2 n2 c2, .int .u64 (tg : Nat)] #[.int .i64 (k : Int), .int .i64 sq, .int .i64 th, .slice A1 n1 c1, .slice A2 n2 c2, .int .u64 (tag : Nat)] w') (first | (with_reducible exact kd_three K0) | (with_reducible exact kd_three KK)) (first | (go_at_call 22; (with_reducible refine (check_any ks (.slice A0 ks.length c0) ⟨k, sq, T, tag⟩ (.agg #[.int .i64 (k : Int), .int .i64 sq, .int .i64 th, .slice A1 n1 c1, .slice A2 n2 c2, .int .u64 (tag : Nat)]) _ none HKS.out (K5.keep (fr_dm (‹_ ∧ _ ∧ Kd w5 w4.heap.size (w4.heap.size + 1) _ _ _›).2.2.frame)) (X5.keep (fr_dm (‹_ ∧ _ ∧ Kd w5 w4.heap.size (w4.heap.size + 1) _ _ _›).2.2.frame)) HP0.out (T5.fr (‹_ ∧ _ ∧ Kd w5 w4.heap.size (w4.heap.size + 1) _ _ _›).2.2.frame)).mono ?_); rintro e w6 ⟨rfl, F6⟩; rw [HC1.out]; have KK := (‹_ ∧ _ ∧ Kd w5 w4.heap.size (w4.heap.size + 1) _ _ _›).2.2.fr hbd hbx F6) | (go_at_call 22; (with_reducible refine (check_any [] (.slice none 0 0) ⟨k, sq, T, tg⟩ (.agg #[.int .i64 (k : Int), .int .i64 sq, .int .i64 th, .slice A1 n1 c1, .slice A2 n2 c2, .int .u64 (tg : Nat)]) _ none N1.out (N0.out _) (D5.keep (fr_dm (‹_ ∧ _ ∧ Kd w5 w4.heap.size (w4.heap.size + 1) _ _ _›).2.2.frame)) HP1.out (T5.fr (‹_ ∧ _ ∧ Kd w5 w4.heap.size (w4.heap.size + 1) _ _ _›).2.2.frame)).mono ?_); rintro e w6 ⟨rfl, F6⟩; rw [HC2.out]; have KK := (‹_ ∧ _ ∧ Kd w5 w4.heap.size (w4.heap.size + 1) _ _ _›).2.2.fr hbd hbx F6) | (go_at_call 23; refine (awake7_any _ (T5.fr (‹_ ∧ _ ∧ Kd w5 w4.heap.size (w4.heap.size + 1) _ _ _›).2.2.frame)).mono ?_; rintro e w6 ⟨rfl, F6⟩; have KK := (‹_ ∧ _ ∧ Kd w5 w4.heap.size (w4.heap.size + 1) _ _ _›).2.2.fr hbd hbx F6))
    go_wp2_with fail
    go_ret
    exact ⟨rfl, F05.pure KK.frame⟩
theorem law07a_card (v : Value) (l : List Int) (a : Int) (w : World) (hl : SlI w none v l) (ha : (Lit.int .u64 a).wf = true) (hT : Tab w) : Calls Tryd.prog 4 #[v, .int .u64 a] w fun e w' => e = .returned (.bool true) ∧ Fr none w w' := by
  obtain ⟨h0, h1⟩ := u64_bd ha
  obtain ⟨n, rfl⟩ := Int.eq_ofNat_of_zero_le h0
  exact law07a_any v l n w hl (by omega) hT
end Go.Proofs.YtidnnjgiogklaaaDoor

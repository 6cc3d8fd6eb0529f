/- The law NotationDiffers: its walk. -/
import Derived.Test.YtidnnjgiogklaaaDoorProg
import Derived.Test.YtidnnjgiogklaaaDoorCanW
import Derived.Test.YtidnnjgiogklaaaDoorMkTrust
import Derived.Test.YtidnnjgiogklaaaDoorSameW
import Derived.Test.YtidnnjgiogklaaaDoorKd
namespace Go.Proofs.YtidnnjgiogklaaaDoor
open Go.RowKit

theorem text3_at (t : Tr) (S : ByteArray) (hS : Hid (S = bs (textT t))) (v : Value) (w : World) (r : Option Nat) (hsz : t.size ≤ 1073741000) (h : TrR w r v t) (hT : Tab w) :
    Calls Tryd.prog 35 #[v] w fun e w' => e = .returned (.string S) ∧ Fr none w w' :=
  (text3_any t v w r hsz h hT).mono fun e w' ⟨X, he, hX, _, F⟩ => by
    rw [hS.out, ← hX]
    exact ⟨he, F⟩

set_option maxRecDepth 100000 in
set_option maxHeartbeats 4000000 in
theorem law03d_any (v : Value) (l : List Int) (w : World) (hl : SlI w none v l) (hT : Tab w) : Calls Tryd.prog 10 #[v] w fun e w' => e = .returned (.bool true) ∧ Fr none w w' := by
  go_enter Tryd.func10, Tryd.ntmps10
  go_wp2_with fail
  refine (tapeNew_any _ _ _ hl).mono ?_
  rintro e w1 ⟨g, rfl, hg, S1, F1⟩
  have T1 := hT.fr F1
  clear hl
  go_wp2_with fail
  refine (mkTrust_any 3 2 g _ (by omega) (by omega) (by omega) (by omega) S1).mono ?_
  rintro e w2 ⟨va, a, rfl, hA, hva, _, _, S2, F2⟩
  have T2 := T1.src S1 F2
  obtain ⟨th, A1, n1, c1, A2, n2, c2, rfl⟩ := hA.shape
  go_wp2_with fail
  refine (mkTrust_any 3 2 g _ (by omega) (by omega) (by omega) (by omega) S2).mono ?_
  rintro e w3 ⟨vb, b, rfl, hB, hvb, _, _, S3, F3⟩
  have T3 := T2.src S2 F3
  obtain ⟨th', a1, m1, e1, a2, m2, e2, rfl⟩ := hB.shape
  have F03 := F1.own (F2.same F3) (fun q hq => by injection hq with hq; omega)
  have g1 := S1.lt
  have hA3 := TrD.keep (dn_dm (r := none) (by simp)) _ _ (TrD.keep (dn_fr F3 (by simp; omega)) _ _ hA)
  have hB3 := TrD.keep (dn_dm (r := none) (by simp)) _ _ hB
  have sza : a.size ≤ 1073741000 := by have := (valid_check hva).2.1; omega
  have szb : b.size ≤ 1073741000 := by have := (valid_check hvb).2.1; omega
  have hts := text_same hva hvb
  have e1' : textT a = txT a := by unfold textT; rw [if_pos hva]
  have e2' : textT b = txT b := by unfold textT; rw [if_pos hvb]
  obtain ⟨Sa, hSa⟩ : ∃ S, S = bs (textT a) := ⟨_, rfl⟩
  obtain ⟨Sb, hSb⟩ : ∃ S, S = bs (textT b) := ⟨_, rfl⟩
  obtain ⟨X, hX⟩ : ∃ X, X = sameT a b := ⟨_, rfl⟩
  have hq : (Sa.toList == Sb.toList) = X := by
    rw [hX, ← hts, hSa, hSb, e1', e2', ByteArray.toList_eq, ByteArray.toList_eq, bs_list, bs_list, Bool.eq_iff_iff]
    simp
  have HSa := Lib.hid hSa
  have HSb := Lib.hid hSb
  have HX := Lib.hid hX
  clear hSa hSb hX hts e1' e2' hva hvb hA hB S1 S2 S3 F1 F2 F3 T1 T2
  go_upto_region 3 with (fail)
  generalize hW : (w3.alloc _).alloc _ = w5
  have F5 : Fr none w3 w5 := hW ▸ ((Fr.refl none w3).alloc _).alloc _
  have b1 : w5.heap[w3.heap.size]? = some (.cells #[.int .i64 th, .slice A1 n1 c1, .slice A2 n2 c2] 27 (0, 0)) := by rw [← hW]; exact (Below.heap_alloc _ _ _ (by simp)).trans (blk_new _ _)
  have b2 : w5.heap[w3.heap.size + 1]? = some (.cells #[.int .i64 th', .slice a1 m1 e1, .slice a2 m2 e2] 27 (0, 0)) := by rw [← hW]; exact blk_new_at (by simp) _
  clear hW
  have l1 := blk_lt b1
  have l2 := blk_lt b2
  have T5 := T3.fr F5
  have hA5 : TrR w5 none (.agg #[.int .i64 th, .slice A1 n1 c1, .slice A2 n2 c2]) a := TrD.keep (fr_dm (r := none) F5) _ _ hA3
  have hB5 : TrR w5 none (.agg #[.int .i64 th', .slice a1 m1 e1, .slice a2 m2 e2]) b := TrD.keep (fr_dm (r := none) F5) _ _ hB3
  have F05 := F03.pure F5
  have RA := blk_cell b1
  have RB := blk_cell b2
  have K0 : Kd w5 w3.heap.size (w3.heap.size + 1) #[.int .i64 th, .slice A1 n1 c1, .slice A2 n2 c2] #[.int .i64 th', .slice a1 m1 e1, .slice a2 m2 e2] w5.drew := ⟨RA, RB, (Fr.refl _ _).drew⟩
  have HQ := Lib.hid hq
  clear F5 hA3 hB3 T3 F03 b1 b2 hq
  cases X with
  | true =>
    have hq := HQ.out
    go_region_held3 (fun w' => (∀ i, w'.cell? ⟨w3.heap.size, i, none⟩ = (#[.int .i64 th, .slice A1 n1 c1, .slice A2 n2 c2] : Array Value)[i]?) ∧ (∀ i, w'.cell? ⟨w3.heap.size + 1, i, none⟩ = (#[.int .i64 th', .slice a1 m1 e1, .slice a2 m2 e2] : Array Value)[i]?) ∧ Kd w5 w3.heap.size (w3.heap.size + 1) #[.int .i64 th, .slice A1 n1 c1, .slice A2 n2 c2] #[.int .i64 th', .slice a1 m1 e1, .slice a2 m2 e2] w') (first | (with_reducible exact kd_three K0) | (with_reducible exact kd_three KK)) (first | (go_at_call 35; (with_reducible refine (text3_at a Sa HSa (.agg #[.int .i64 th, .slice A1 n1 c1, .slice A2 n2 c2]) _ none sza (hA5.fr (‹_ ∧ _ ∧ Kd w5 w3.heap.size (w3.heap.size + 1) _ _ _›).2.2.frame) (T5.fr (‹_ ∧ _ ∧ Kd w5 w3.heap.size (w3.heap.size + 1) _ _ _›).2.2.frame)).mono ?_); rintro e w6 ⟨rfl, F6⟩; have KK := (‹_ ∧ _ ∧ Kd w5 w3.heap.size (w3.heap.size + 1) _ _ _›).2.2.fr l1 l2 F6) | (go_at_call 35; (with_reducible refine (text3_at b Sb HSb (.agg #[.int .i64 th', .slice a1 m1 e1, .slice a2 m2 e2]) _ none szb (hB5.fr (‹_ ∧ _ ∧ Kd w5 w3.heap.size (w3.heap.size + 1) _ _ _›).2.2.frame) (T5.fr (‹_ ∧ _ ∧ Kd w5 w3.heap.size (w3.heap.size + 1) _ _ _›).2.2.frame)).mono ?_); rintro e w6 ⟨rfl, F6⟩; have KK := (‹_ ∧ _ ∧ Kd w5 w3.heap.size (w3.heap.size + 1) _ _ _›).2.2.fr l1 l2 F6) | (go_at_call 28; (with_reducible refine (rsame_any a.dep a b (.agg #[.int .i64 th, .slice A1 n1 c1, .slice A2 n2 c2]) (.agg #[.int .i64 th', .slice a1 m1 e1, .slice a2 m2 e2]) _ none (Nat.le_refl _) (hA5.fr (‹_ ∧ _ ∧ Kd w5 w3.heap.size (w3.heap.size + 1) _ _ _›).2.2.frame) (hB5.fr (‹_ ∧ _ ∧ Kd w5 w3.heap.size (w3.heap.size + 1) _ _ _›).2.2.frame)).mono ?_); rintro e w6 ⟨rfl, F6⟩; rw [← HX.out]; have KK := (‹_ ∧ _ ∧ Kd w5 w3.heap.size (w3.heap.size + 1) _ _ _›).2.2.fr l1 l2 F6) | (go_at_call 32; (with_reducible refine (awake3_any _ (T5.fr (‹_ ∧ _ ∧ Kd w5 w3.heap.size (w3.heap.size + 1) _ _ _›).2.2.frame)).mono ?_); rintro e w6 ⟨rfl, F6⟩; have KK := (‹_ ∧ _ ∧ Kd w5 w3.heap.size (w3.heap.size + 1) _ _ _›).2.2.fr l1 l2 F6))
    all_goals
      go_wp2_with fail
      go_ret
      exact ⟨rfl, F05.pure KK.frame⟩
  | false =>
    have hq := HQ.out
    go_region_held3 (fun w' => (∀ i, w'.cell? ⟨w3.heap.size, i, none⟩ = (#[.int .i64 th, .slice A1 n1 c1, .slice A2 n2 c2] : Array Value)[i]?) ∧ (∀ i, w'.cell? ⟨w3.heap.size + 1, i, none⟩ = (#[.int .i64 th', .slice a1 m1 e1, .slice a2 m2 e2] : Array Value)[i]?) ∧ Kd w5 w3.heap.size (w3.heap.size + 1) #[.int .i64 th, .slice A1 n1 c1, .slice A2 n2 c2] #[.int .i64 th', .slice a1 m1 e1, .slice a2 m2 e2] w') (first | (with_reducible exact kd_three K0) | (with_reducible exact kd_three KK)) (first | (go_at_call 35; (with_reducible refine (text3_at a Sa HSa (.agg #[.int .i64 th, .slice A1 n1 c1, .slice A2 n2 c2]) _ none sza (hA5.fr (‹_ ∧ _ ∧ Kd w5 w3.heap.size (w3.heap.size + 1) _ _ _›).2.2.frame) (T5.fr (‹_ ∧ _ ∧ Kd w5 w3.heap.size (w3.heap.size + 1) _ _ _›).2.2.frame)).mono ?_); rintro e w6 ⟨rfl, F6⟩; have KK := (‹_ ∧ _ ∧ Kd w5 w3.heap.size (w3.heap.size + 1) _ _ _›).2.2.fr l1 l2 F6) | (go_at_call 35; (with_reducible refine (text3_at b Sb HSb (.agg #[.int .i64 th', .slice a1 m1 e1, .slice a2 m2 e2]) _ none szb (hB5.fr (‹_ ∧ _ ∧ Kd w5 w3.heap.size (w3.heap.size + 1) _ _ _›).2.2.frame) (T5.fr (‹_ ∧ _ ∧ Kd w5 w3.heap.size (w3.heap.size + 1) _ _ _›).2.2.frame)).mono ?_); rintro e w6 ⟨rfl, F6⟩; have KK := (‹_ ∧ _ ∧ Kd w5 w3.heap.size (w3.heap.size + 1) _ _ _›).2.2.fr l1 l2 F6) | (go_at_call 28; (with_reducible refine (rsame_any a.dep a b (.agg #[.int .i64 th, .slice A1 n1 c1, .slice A2 n2 c2]) (.agg #[.int .i64 th', .slice a1 m1 e1, .slice a2 m2 e2]) _ none (Nat.le_refl _) (hA5.fr (‹_ ∧ _ ∧ Kd w5 w3.heap.size (w3.heap.size + 1) _ _ _›).2.2.frame) (hB5.fr (‹_ ∧ _ ∧ Kd w5 w3.heap.size (w3.heap.size + 1) _ _ _›).2.2.frame)).mono ?_); rintro e w6 ⟨rfl, F6⟩; rw [← HX.out]; have KK := (‹_ ∧ _ ∧ Kd w5 w3.heap.size (w3.heap.size + 1) _ _ _›).2.2.fr l1 l2 F6) | (go_at_call 32; (with_reducible refine (awake3_any _ (T5.fr (‹_ ∧ _ ∧ Kd w5 w3.heap.size (w3.heap.size + 1) _ _ _›).2.2.frame)).mono ?_); rintro e w6 ⟨rfl, F6⟩; have KK := (‹_ ∧ _ ∧ Kd w5 w3.heap.size (w3.heap.size + 1) _ _ _›).2.2.fr l1 l2 F6))
    all_goals
      go_wp2_with fail
      go_ret
      exact ⟨rfl, F05.pure KK.frame⟩
end Go.Proofs.YtidnnjgiogklaaaDoor

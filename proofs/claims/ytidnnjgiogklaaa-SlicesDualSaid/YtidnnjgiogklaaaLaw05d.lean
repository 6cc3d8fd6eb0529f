/- The law SlicesDual: its walk. -/
import Derived.Test.YtidnnjgiogklaaaProg
import Derived.Test.YtidnnjgiogklaaaAwake5
import Derived.Test.YtidnnjgiogklaaaMkTrust
import Derived.Test.YtidnnjgiogklaaaRMeW
import Derived.Test.YtidnnjgiogklaaaInts
namespace Go.Proofs.Ytidnnjgiogklaaa
open Go.RowKit

theorem bel_wi {n : Nat} (hn : n ≤ 10) {l : List Int} (h : Bel n l) : ∀ x ∈ l, Wi x := fun x hx => by
  obtain ⟨a, rfl, ha⟩ := h x hx
  have := Bel.le hn ha
  constructor <;> omega

theorem ordI_len : ordI.length ≤ 1024 := by
  unfold ordI
  rw [List.length_map]
  unfold ordN
  rw [ordF_len]
  decide
theorem slc_len (t : Tr) : (slcS ordI t).length ≤ 1024 := Nat.le_trans (leastS_len _) (Nat.le_trans (List.length_filter_le _ _) ordI_len)
theorem blc_len (t : Tr) : (blcS ordI t).length ≤ 1024 := Nat.le_trans (leastS_len _) (Nat.le_trans (List.length_filter_le _ _) ordI_len)

set_option maxRecDepth 100000 in
set_option maxHeartbeats 8000000 in
theorem law05d_any (v : Value) (l : List Int) (w : World) (hl : SlI w none v l) : Calls Try.prog 4 #[v] w fun e w' => e = .returned (.bool true) ∧ Fr none w w' := by
  go_enter Try.func4, Try.ntmps4
  go_wp2_with fail
  refine (tapeNew_any _ _ _ hl).mono ?_
  rintro e w1 ⟨g, rfl, hg, S1, F1⟩
  clear hl
  go_wp2_with fail
  refine (tapeRange_any 1 8 g _ (by omega) (by omega) (by omega) S1).mono ?_
  rintro e w2 ⟨x, rfl, x1, x2, S2, F2⟩
  obtain ⟨m, rfl⟩ := Int.eq_ofNat_of_zero_le (show 0 ≤ x by omega)
  go_wp2_with fail
  refine (mkTrust_any m 3 g _ (by omega) (by omega) (by omega) (by omega) S2).mono ?_
  rintro e w3 ⟨tv, t, rfl, hD, hv, hdp, hni, S3, F3⟩
  have hg3 : g < w2.heap.size := S2.lt
  have F03 := F1.own (F2.same F3) (fun q hq => by injection hq with hq; omega)
  obtain ⟨th, A1, n1, c1, A2, n2, c2, rfl⟩ := hD.shape
  have hz3 := F3.size
  have FA := (Fr.refl none w3).alloc (.cells #[.int .i64 th, .slice A1 n1 c1, .slice A2 n2 c2] 27)
  have hDn : TrR (w3.alloc (.cells #[.int .i64 th, .slice A1 n1 c1, .slice A2 n2 c2] 27)) none (.agg #[.int .i64 th, .slice A1 n1 c1, .slice A2 n2 c2]) t := TrD.keep (fr_dm FA) _ _ (TrD.keep (dn_dm (by simp)) _ _ hD)
  have B4 : Hid ((w3.alloc (.cells #[.int .i64 th, .slice A1 n1 c1, .slice A2 n2 c2] 27)).heap[w3.heap.size]? = some (.cells #[.int .i64 th, .slice A1 n1 c1, .slice A2 n2 c2] 27 (0, 0))) := blk_new _ _
  have F04 := F03.pure FA
  have HV := Lib.hid hv
  have HNI := Lib.hid hni
  have hm10 : m ≤ 10 := by omega
  have HB1 := Lib.hid (slc_bel ordI_all hm10 hni)
  have HQ1 := Lib.hid (blc_meet ordI_all hm10 hni)
  have HQ2 := Lib.hid (slc_meet ordI_all hm10 hni)
  have HB2 : Hid (Bel m (blcS ordI t)) := by unfold Hid; rw [← HQ1.out]; exact bel_meet hm10 HB1.out
  clear hv hni hD S1 S2 S3 F1 F2 F3 F03
  go_wp2_with fail
  generalize hW : w3.alloc _ = w4 at *
  clear hW FA
  refine (slices_any t _ _ hDn HV.out).mono ?_
  rintro e w5 ⟨v5, rfl, D5, F5⟩
  have BT := blk_cell (blk_fr B4.out F5 (by simp))
  have hDn5 := hDn.fr F5
  go_wp2_with fail
  refine (blocking_any t _ _ hDn5 HV.out).mono ?_
  rintro e w6 ⟨v6, rfl, D6, F6⟩
  have I5 : SlI w6 none v5 (slcS ordI t) := ⟨(D5.keep (dn_dm (by simp))).keep (fr_dm F6), bel_wi hm10 HB1.out⟩
  have I6 : SlI w6 none v6 (blcS ordI t) := ⟨D6.keep (dn_dm (by simp)), bel_wi hm10 HB2.out⟩
  clear BT
  go_wp2_with fail
  refine (rmeeting_any (slcS ordI t) _ m hm10 _ I5 HB1.out (slc_len t)).mono ?_
  rintro e w7 ⟨v7, rfl, D7, F7⟩
  rw [HQ1.out] at D7
  have I7 : SlI w7 none v7 (blcS ordI t) := ⟨D7.keep (dn_dm (by simp)), bel_wi hm10 HB2.out⟩
  go_wp2_with fail
  refine (rmeeting_any (blcS ordI t) _ m hm10 _ (I6.fr F7) HB2.out (blc_len t)).mono ?_
  rintro e w8 ⟨v8, rfl, D8, F8⟩
  rw [HQ2.out] at D8
  have I8 : SlI w8 none v8 (slcS ordI t) := ⟨D8.keep (dn_dm (by simp)), bel_wi hm10 HB1.out⟩
  go_wp2_with fail
  refine (ints_any (blcS ordI t) (blcS ordI t) _ _ _ ((I6.fr F7).fr F8) (I7.fr F8)).mono ?_
  rintro e w9 ⟨rfl, F9⟩
  rw [decide_eq_true rfl]
  go_wp2_with fail
  refine (ints_any (slcS ordI t) (slcS ordI t) _ _ _ (((I5.fr F7).fr F8).fr F9) (I8.fr F9)).mono ?_
  rintro e w10 ⟨rfl, F10⟩
  rw [decide_eq_true rfl]
  go_wp2_with fail
  refine (awake5_any _).mono ?_
  rintro e w11 ⟨rfl, F11⟩
  go_wp2_with fail
  go_ret
  exact ⟨rfl, ((((((F04.pure F5).pure F6).pure F7).pure F8).pure F9).pure F10).pure F11⟩
end Go.Proofs.Ytidnnjgiogklaaa

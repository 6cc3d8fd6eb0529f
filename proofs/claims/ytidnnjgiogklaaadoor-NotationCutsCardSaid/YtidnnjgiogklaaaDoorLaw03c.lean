/- The law NotationCuts: its walk. -/
import Derived.Test.YtidnnjgiogklaaaDoorProg
import Derived.Test.YtidnnjgiogklaaaDoorCanW
import Derived.Test.YtidnnjgiogklaaaDoorParS
import Derived.Test.YtidnnjgiogklaaaDoorMkTrust
namespace Go.Proofs.YtidnnjgiogklaaaDoor
open Go.RowKit

set_option maxRecDepth 100000 in
set_option maxHeartbeats 4000000 in
theorem law03c_any (v : Value) (l : List Int) (n : Nat) (w : World) (hl : SlI w none v l) (hn : n < 65536) (hT : Tab w) : Calls Tryd.prog 9 #[v, .int .u16 (n : Int)] w fun e w' => e = .returned (.bool true) ∧ Fr none w w' := by
  go_enter Tryd.func9, Tryd.ntmps9
  go_wp2_with fail
  refine (tapeNew_any _ _ _ hl).mono ?_
  rintro e w1 ⟨g, rfl, hg, S1, F1⟩
  have T1 := hT.fr F1
  clear hl
  go_wp2_with fail
  refine (tapeRange_any 1 10 g _ (by omega) (by omega) (by omega) S1).mono ?_
  rintro e w2 ⟨x, rfl, x1, x2, S2, F2⟩
  obtain ⟨m, rfl⟩ := Int.eq_ofNat_of_zero_le (show 0 ≤ x by omega)
  have T2 := T1.src S1 F2
  go_wp2_with fail
  refine (mkTrust_any m 3 g _ (by omega) (by omega) (by omega) (by omega) S2).mono ?_
  rintro e w3 ⟨tv, t, rfl, hD, hv, hdp, hni, S3, F3⟩
  have T3 := T2.src S2 F3
  have F03 := F1.own (F2.same F3) (fun q hq => by injection hq with hq; omega)
  have hD3 : TrR w3 none tv t := TrD.keep (dn_dm (by simp)) _ _ hD
  obtain ⟨th, A1, n1, c1, A2, n2, c2, rfl⟩ := TrD.shape hD3
  have hsz := (valid_check hv).2.1
  have hok := valid_ok hv
  have hlen := valid_len hv
  have hlen2 := txt_len2 t
  have htx : textT t = txT t := by unfold textT; rw [if_pos hv]
  have HTX := Lib.hid htx
  clear hv htx S1 S2 S3 F1 F2 F3 T1 T2 hD
  go_wp2_with fail
  refine (text3_any t _ _ none (by omega) hD3 T3).mono ?_
  rintro e w4 ⟨S, rfl, hS, hSs, F4⟩
  rw [HTX.out] at hS
  have T4 := T3.fr F4
  have F04 := F03.pure F4
  obtain ⟨L, hL⟩ : ∃ L, L = (txT t).length := ⟨_, rfl⟩
  have hSz : S.size = L := by rw [hS, bs_size, hL]
  have hSd : S.data.toList = txT t := by rw [hS, bs_list]
  rw [← hL] at hlen hlen2
  have s1 : S.size ≤ 2410 := by omega
  have s2 : 2 ≤ S.size := by omega
  have hk2 : n % S.size < S.size := Nat.mod_lt _ (by omega)
  have b1 : (0 : Int) ≤ (n : Int) % (S.size : Int) := by omega
  have b2 : (n : Int) % (S.size : Int) ≤ (S.size : Int) := by omega
  obtain ⟨a, hpa, ha1, ha2⟩ := parse_cut t hok (n % S.size) (by omega) (by omega)
  have hpb := parse_more41 t hok (by omega)
  have hX1 : (S.extract 0 (n % S.size)).data.toList = (txT t).take (n % S.size) := by rw [Lib.extract_data, hSd]; simp
  have hX2 : (S ++ ⟨#[41]⟩).data.toList = txT t ++ [41] := by rw [ByteArray.data_append, Array.toList_append, hSd]
  rw [← hX1] at hpa
  rw [← hX2, ← hL, ← hSz] at hpb
  have HPA := Lib.hid hpa
  have HPB := Lib.hid hpb
  have hxs : (S.extract 0 (n % S.size)).size = n % S.size := by rw [ByteArray.size_extract]; omega
  have HXS := Lib.hid hxs
  clear hpa hpb hX1 hX2 hSd hSz hS hL hlen hlen2 hxs HTX hD3 F4 T3 F03 hok
  go_wp2_with fail
  generalize hX : S.extract 0 _ = X
  have hz1 := HXS.out
  have hz2 := HPA.out
  rw [hX] at hz1 hz2
  have HPA := Lib.hid hz2
  have c1 : X.size ≤ a + 1 := by omega
  have c2 : a ≤ X.size := by omega
  clear hX hz1 hz2 HXS
  refine (parse_noW _ a 2 _ HPA.out).mono ?_
  rintro e w5 ⟨rfl, F5⟩
  go_wp2_with fail
  refine (parse_noW _ S.size 2 _ HPB.out).mono ?_
  rintro e w6 ⟨rfl, F6⟩
  have F06 := ((F04.pure F5).alloc (.cells #[.int .i64 0, .slice none 0 0, .slice none 0 0] 27)).pure F6
  have T6 := hT.fr F06
  have d1 : (a : Int) ≤ X.size := by omega
  have d2 : (X.size : Int) - 1 ≤ a := by omega
  go_wp2_with (go_at_call 32; refine (awake3_any _ (T6.fr ((Fr.refl none w6).alloc _))).mono ?_; rintro e w7 ⟨rfl, F7⟩)
  go_ret
  exact ⟨rfl, (F06.alloc _).pure F7⟩
theorem law03c_card (v : Value) (l : List Int) (a : Int) (w : World) (hl : SlI w none v l) (h : (Lit.int .u16 a).wf = true) (hT : Tab w) : Calls Tryd.prog 9 #[v, .int .u16 a] w fun e w' => e = .returned (.bool true) ∧ Fr none w w' := by
  have hb : 0 ≤ a ∧ a ≤ 65535 := by
    simp only [Lit.wf, Bool.and_eq_true, decide_eq_true_eq] at h
    exact h
  obtain ⟨n, rfl⟩ := Int.eq_ofNat_of_zero_le hb.1
  exact law03c_any v l n w hl (by omega) hT
end Go.Proofs.YtidnnjgiogklaaaDoor

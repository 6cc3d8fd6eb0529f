/- The law SlicesSatisfy: its walk. -/
import Derived.Test.YtidnnjgiogklaaaProg
import Derived.Test.YtidnnjgiogklaaaAwake5
import Derived.Test.YtidnnjgiogklaaaMkTrust
namespace Go.Proofs.Ytidnnjgiogklaaa
open Go.RowKit

/-- z & k == z. -/
def PB (k z : Int) : Bool := bits .and .i64 z k == z
/-- z & k != 0. -/
def QB (k z : Int) : Bool := bits .and .i64 z k != 0
theorem PB_nat {k z : Nat} (hk : k ≤ 1023) (hz : z ≤ 1023) : PB k z = true ↔ Sb z k := by
  unfold PB
  rw [and_i64 z k (by omega) (by omega), beq_iff_eq, ← sb_land]
  omega
theorem QB_nat {k z : Nat} (hk : k ≤ 1023) (hz : z ≤ 1023) : QB k z = true ↔ Mt k z := by
  have h := disI_nat hz hk
  unfold disI at h
  rw [beq_eq_false_iff_ne] at h
  unfold QB
  rw [bne_iff_ne]
  exact h.trans ⟨Mt.symm, Mt.symm⟩
theorem any_sat {t : Tr} {k : Nat} (hk : k ≤ 1023) : (slcS ordI t).any (PB k) = sat k t := by
  rw [Bool.eq_iff_iff, List.any_eq_true, slc_has ordI_all hk]
  constructor
  · rintro ⟨x, hx, h⟩
    obtain ⟨z, rfl, hz, _⟩ := slc_mem ordI_all hx
    exact ⟨z, hx, hz, (PB_nat hk hz).1 h⟩
  · rintro ⟨z, hx, hz, h⟩
    exact ⟨z, hx, (PB_nat hk hz).2 h⟩
theorem all_blk {t : Tr} {k : Nat} (hk : k ≤ 1023) : (slcS ordI t).all (QB k) = blkB k t := by
  rw [Bool.eq_iff_iff, List.all_eq_true, slc_meets ordI_all hk]
  constructor
  · intro h z hz
    obtain ⟨z', e, hz2, _⟩ := slc_mem ordI_all hz
    obtain rfl : z = z' := by omega
    exact (QB_nat hk hz2).1 (h _ hz)
  · intro h x hx
    obtain ⟨z, rfl, hz, _⟩ := slc_mem ordI_all hx
    exact (QB_nat hk hz).2 (h z hx)

set_option maxRecDepth 100000 in
set_option maxHeartbeats 8000000 in
theorem law05s_any (v : Value) (l : List Int) (w : World) (hl : SlI w none v l) : Calls Try.prog 3 #[v] w fun e w' => e = .returned (.bool true) ∧ Fr none w w' := by
  go_enter Try.func3, Try.ntmps3
  go_wp2_with fail
  refine (tapeNew_any _ _ _ hl).mono ?_
  rintro e w1 ⟨g, rfl, hg, S1, F1⟩
  clear hl
  go_wp2_with fail
  refine (tapeRange_any 1 8 g _ (by omega) (by omega) (by omega) S1).mono ?_
  rintro e w2 ⟨x, rfl, x1, x2, S2, F2⟩
  obtain ⟨m, rfl⟩ := Int.eq_ofNat_of_zero_le (show 0 ≤ x by omega)
  go_wp2_with fail
  refine (mkTrust_any m 4 g _ (by omega) (by omega) (by omega) (by omega) S2).mono ?_
  rintro e w3 ⟨tv, t, rfl, hD, hv, hdp, hni, S3, F3⟩
  have hg3 : g < w2.heap.size := S2.lt
  have F03 := F1.own (F2.same F3) (fun q hq => by injection hq with hq; omega)
  obtain ⟨th, A1, n1, c1, A2, n2, c2, rfl⟩ := hD.shape
  have hz3 := F3.size
  have FA := (Fr.refl none w3).alloc (.cells #[.int .i64 th, .slice A1 n1 c1, .slice A2 n2 c2] 27)
  have hDn : TrR (w3.alloc (.cells #[.int .i64 th, .slice A1 n1 c1, .slice A2 n2 c2] 27)) none (.agg #[.int .i64 th, .slice A1 n1 c1, .slice A2 n2 c2]) t := TrD.keep (fr_dm FA) _ _ (TrD.keep (dn_dm (by simp)) _ _ hD)
  have hDg : TrD (w3.alloc (.cells #[.int .i64 th, .slice A1 n1 c1, .slice A2 n2 c2] 27)) (Dm _ (some g)) (.agg #[.int .i64 th, .slice A1 n1 c1, .slice A2 n2 c2]) t := TrD.keep (fr_dm FA.mono) _ _ (TrD.keep (dn_dm (by simp; omega)) _ _ hD)
  have B4 : Hid ((w3.alloc (.cells #[.int .i64 th, .slice A1 n1 c1, .slice A2 n2 c2] 27)).heap[w3.heap.size]? = some (.cells #[.int .i64 th, .slice A1 n1 c1, .slice A2 n2 c2] 27 (0, 0))) := blk_new _ _
  have S4 := S3.fr FA
  have F04 := F03.pure FA
  have hne4 : w3.heap.size ≠ g := by omega
  have hchk := (valid_check hv).1
  have HV := Lib.hid hv
  have HC := Lib.hid hchk
  clear hv hchk hD S1 S2 S3 F1 F2 F3 F03
  go_wp2_with fail
  generalize hW : w3.alloc _ = w4 at *
  clear hW FA
  refine (slices_any t _ _ hDn HV.out).mono ?_
  rintro e w5 ⟨v5, rfl, D5, F5⟩
  have S5 := S4.fr F5
  have F05 := F04.pure F5
  have hTg := TrD.keep (fr_dm (F5.mono (r := some g))) _ _ hDg
  have BT := Lib.hid (blk_fr B4.out F5 (by simp))
  have hz5 := F5.size
  have hgw4 := S4.lt
  obtain ⟨L, hL⟩ : ∃ L, L = slcS ordI t := ⟨_, rfl⟩
  rw [← hL] at D5
  have hsl : SlI w5 (some g) v5 L := ⟨D5.keep (dn_dm (by simp; omega)), fun x hx => by
    rw [hL] at hx
    obtain ⟨a, rfl, ha, _⟩ := slc_mem ordI_all hx
    constructor <;> omega⟩
  have hLne : 0 < L.length := List.length_pos_iff.2 (by rw [hL]; exact slc_ne ordI_all HC.out)
  have HLEQ := Lib.hid hL.symm
  obtain ⟨A, c, rfl, q1, q2, _⟩ := hsl.open_
  have hl0 : ((L.length : Int) == 0) = false := by rw [beq_eq_false_iff_ne]; omega
  clear hL D5 B4 S4 F04 hDg hDn F5
  go_wp2_with fail
  go_loopw [7, 8, 9, 10, 12] (fun s7 s8 s9 s10 s12 wr => ∃ i : Nat, i ≤ 40 ∧ s7 = .int .i64 i ∧ SrcR 44 wr g ∧ Fr (some g) w5 wr) (fun s7 _ _ _ _ _ => 40 - (intOf s7).toNat)
  case atStart => exact ⟨0, by omega, rfl, S5, Fr.refl _ _⟩
  case round =>
    clear S5
    obtain ⟨i, hi, rfl, S, F⟩ := hrel
    by_cases hlt : i < 40
    · by_cases h20 : i < 20
      · go_wp2_with fail
        refine (tapeN_any 1024 g _ (by omega) (by omega) S).mono ?_
        rintro e wa ⟨y, rfl, y1, y2, Sa, Fa⟩
        go_wp2_with fail
        refine (tapeN_any 256 g _ (by omega) (by omega) Sa).mono ?_
        rintro e wr4 ⟨y', rfl, y1', y2', S4, Fb⟩
        obtain ⟨k, rfl⟩ := Int.eq_ofNat_of_zero_le y1'
        have hk : k ≤ 1023 := by omega
        have F4 := (F.same Fa).same Fb
        clear S F Sa Fa Fb
        have S9 := S4
        have F9 := F4
        have hsl9 := hsl.fr F9
        obtain ⟨A', c', e0, q1', q2', hcc⟩ := hsl9.open_
        injection e0 with e1 _ e3
        subst e1 e3
        have HA9 := Lib.hid (any_sat (t := t) hk)
        have HB9 := Lib.hid (all_blk (t := t) hk)
        rw [HLEQ.out] at HA9 HB9
        go_wp2_with fail
        go_loop [9, 10, 12, 43] (fun s9 s10 s12 s43 => ∃ (j : Nat) (a b : Bool), j ≤ L.length ∧ s43 = .int .i64 j ∧ s9 = .bool a ∧ s10 = .bool b ∧ Hid (a = (L.take j).any (PB k)) ∧ Hid (b = (L.take j).all (QB k))) (fun _ _ _ s43 => L.length - (intOf s43).toNat)
        case atStart => exact ⟨0, _, _, Nat.zero_le _, rfl, rfl, rfl, rfl, rfl⟩
        case round =>
          obtain ⟨j, a, b, hj, rfl, rfl, rfl, HA, HBB⟩ := hrel
          by_cases hlt : j < L.length
          · obtain ⟨bb, off, rfl, hb1, hb2, hcj⟩ := hcc (by omega)
            have hck := hcj j hlt
            obtain ⟨z, hz⟩ : ∃ z, z = L[j] := ⟨_, rfl⟩
            have htk : L.take (j + 1) = L.take j ++ [z] := by rw [List.take_succ_eq_append_getElem hlt, hz]
            rw [← hz] at hck
            obtain ⟨p, hp⟩ : ∃ p, p = PB k z := ⟨_, rfl⟩
            obtain ⟨q, hq⟩ : ∃ q, q = QB k z := ⟨_, rfl⟩
            have hp1 : (bits .and .i64 z (k : Int) == z) = p := hp.symm
            have hq1 : (bits .and .i64 z (k : Int) != 0) = q := hq.symm
            have HTK := Lib.hid htk
            have HPP := Lib.hid hp
            have HQQ := Lib.hid hq
            clear hz htk hp hq hcj hcc
            cases a <;> cases b <;> cases p <;> cases q
            all_goals
              go_wp2_with fail
              go_round
              case rel => exact ⟨j + 1, _, _, by omega, by go_num, rfl, rfl, by unfold Hid; rw [HTK.out, List.any_append, ← HA.out]; simp [← HPP.out], by unfold Hid; rw [HTK.out, List.all_append, ← HBB.out]; simp [← HQQ.out]⟩
              case measure => simp [intOf]; omega
          · obtain rfl : j = L.length := by omega
            have ha := HA.out
            have hbx := HBB.out
            rw [List.take_length] at ha hbx
            rw [HA9.out] at ha
            rw [HB9.out] at hbx
            have HA2 := Lib.hid ha
            have HB2 := Lib.hid hbx
            have RT := blk_cell (blk_fr BT.out F9 (by simp; omega))
            have hT9 : TrR wr4 none _ t := TrD.keep dm_none _ _ (TrD.keep (fr_dm F9) _ _ hTg)
            clear ha hbx hcc
            go_wp2_with fail
            refine (rsat_any t.dep t _ _ _ none (Nat.le_refl _) hT9).mono ?_
            rintro e w7 ⟨rfl, F7⟩
            rw [← HA2.out]
            have RT7 := blk_cell (blk_fr (blk_fr BT.out F9 (by simp; omega)) F7 (by simp))
            clear RT
            go_wp2_with fail
            refine (rblocked_any t k hk _ _ none (hT9.fr F7)).mono ?_
            rintro e w8 ⟨rfl, F8⟩
            rw [← HB2.out]
            have F78 := F7.pure F8
            go_wp2_with fail
            go_roundw
            case rel => exact ⟨i + 1, by omega, by go_num, S9.fr F78, F9.pure F78⟩
            case measure => simp [intOf]; omega
      · go_wp2_with fail
        refine (tapeN_any 1024 g _ (by omega) (by omega) S).mono ?_
        rintro e wr4 ⟨y, rfl, y1, y2, S4, Fa⟩
        obtain ⟨k, rfl⟩ := Int.eq_ofNat_of_zero_le y1
        have hk : k ≤ 1023 := by omega
        have F4 := F.same Fa
        clear S F Fa
        have S9 := S4
        have F9 := F4
        have hsl9 := hsl.fr F9
        obtain ⟨A', c', e0, q1', q2', hcc⟩ := hsl9.open_
        injection e0 with e1 _ e3
        subst e1 e3
        have HA9 := Lib.hid (any_sat (t := t) hk)
        have HB9 := Lib.hid (all_blk (t := t) hk)
        rw [HLEQ.out] at HA9 HB9
        go_wp2_with fail
        go_loop [9, 10, 12, 43] (fun s9 s10 s12 s43 => ∃ (j : Nat) (a b : Bool), j ≤ L.length ∧ s43 = .int .i64 j ∧ s9 = .bool a ∧ s10 = .bool b ∧ Hid (a = (L.take j).any (PB k)) ∧ Hid (b = (L.take j).all (QB k))) (fun _ _ _ s43 => L.length - (intOf s43).toNat)
        case atStart => exact ⟨0, _, _, Nat.zero_le _, rfl, rfl, rfl, rfl, rfl⟩
        case round =>
          obtain ⟨j, a, b, hj, rfl, rfl, rfl, HA, HBB⟩ := hrel
          by_cases hlt : j < L.length
          · obtain ⟨bb, off, rfl, hb1, hb2, hcj⟩ := hcc (by omega)
            have hck := hcj j hlt
            obtain ⟨z, hz⟩ : ∃ z, z = L[j] := ⟨_, rfl⟩
            have htk : L.take (j + 1) = L.take j ++ [z] := by rw [List.take_succ_eq_append_getElem hlt, hz]
            rw [← hz] at hck
            obtain ⟨p, hp⟩ : ∃ p, p = PB k z := ⟨_, rfl⟩
            obtain ⟨q, hq⟩ : ∃ q, q = QB k z := ⟨_, rfl⟩
            have hp1 : (bits .and .i64 z (k : Int) == z) = p := hp.symm
            have hq1 : (bits .and .i64 z (k : Int) != 0) = q := hq.symm
            have HTK := Lib.hid htk
            have HPP := Lib.hid hp
            have HQQ := Lib.hid hq
            clear hz htk hp hq hcj hcc
            cases a <;> cases b <;> cases p <;> cases q
            all_goals
              go_wp2_with fail
              go_round
              case rel => exact ⟨j + 1, _, _, by omega, by go_num, rfl, rfl, by unfold Hid; rw [HTK.out, List.any_append, ← HA.out]; simp [← HPP.out], by unfold Hid; rw [HTK.out, List.all_append, ← HBB.out]; simp [← HQQ.out]⟩
              case measure => simp [intOf]; omega
          · obtain rfl : j = L.length := by omega
            have ha := HA.out
            have hbx := HBB.out
            rw [List.take_length] at ha hbx
            rw [HA9.out] at ha
            rw [HB9.out] at hbx
            have HA2 := Lib.hid ha
            have HB2 := Lib.hid hbx
            have RT := blk_cell (blk_fr BT.out F9 (by simp; omega))
            have hT9 : TrR wr4 none _ t := TrD.keep dm_none _ _ (TrD.keep (fr_dm F9) _ _ hTg)
            clear ha hbx hcc
            go_wp2_with fail
            refine (rsat_any t.dep t _ _ _ none (Nat.le_refl _) hT9).mono ?_
            rintro e w7 ⟨rfl, F7⟩
            rw [← HA2.out]
            have RT7 := blk_cell (blk_fr (blk_fr BT.out F9 (by simp; omega)) F7 (by simp))
            clear RT
            go_wp2_with fail
            refine (rblocked_any t k hk _ _ none (hT9.fr F7)).mono ?_
            rintro e w8 ⟨rfl, F8⟩
            rw [← HB2.out]
            have F78 := F7.pure F8
            go_wp2_with fail
            go_roundw
            case rel => exact ⟨i + 1, by omega, by go_num, S9.fr F78, F9.pure F78⟩
            case measure => simp [intOf]; omega
    · obtain rfl : i = 40 := by omega
      go_wp2_with fail
      refine (awake5_any _).mono ?_
      rintro e w9 ⟨rfl, F9⟩
      go_wp2_with fail
      go_ret
      exact ⟨rfl, (F05.own F (fun q hq => by injection hq with hq; omega)).pure F9⟩
end Go.Proofs.Ytidnnjgiogklaaa

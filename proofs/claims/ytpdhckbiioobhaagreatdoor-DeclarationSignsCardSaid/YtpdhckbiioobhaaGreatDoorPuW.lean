/- Walks: strconv.ParseUint in base 16, at texts of small digits. -/
import Derived.Test.YtpdhckbiioobhaaGreatDoorProg
import Derived.Test.YtpdhckbiioobhaaGreatDoorHexW
import Derived.Lib.ConvBytes
import Derived.Lib.SlBytesRow
namespace Go.Proofs.YtpdhckbiioobhaaGreatDoor
open Go.RowKit

theorem lower_fin : ∀ c : Fin 256, 97 ≤ c.val → c.val ≤ 122 → bits .or .u8 (c.val : Int) 32 = (c.val : Int) := by decide +kernel
theorem lower_any (c : Nat) (h1 : 97 ≤ c) (h2 : c ≤ 122) (w : World) : Calls Tryz.prog 187 #[.int .u8 (c : Int)] w fun e w' => e = .returned (.int .u8 (c : Int)) ∧ w = w' := by
  have e := lower_fin ⟨c, by omega⟩ h1 h2
  simp only at e
  go_enter Tryz.func187, Tryz.ntmps187
  go_wp2_with fail
  go_ret
  exact ⟨rfl, rfl⟩

theorem hexF_take (l : List UInt8) (j : Nat) (hj : j < l.length) : hexF 0 (l.take (j + 1)) = 16 * hexF 0 (l.take j) + hexV l[j] := by
  rw [List.take_succ_eq_append_getElem hj, hexF_snoc]
set_option maxRecDepth 100000 in
set_option maxHeartbeats 4000000 in
theorem ipu_any (t : ByteArray) (w : World) (hx : ∀ c ∈ t.data.toList, IsHx c) (h1 : 1 ≤ t.size) (h16 : t.size ≤ 16) :
    Calls Tryz.prog 145 #[.string t, .int .i64 16, .int .i64 64] w fun e w' => e = .returned (.tuple #[.int .u64 (hexF 0 t.data.toList : Nat), .nilIface]) ∧ Fr none w w' := by
  have hcv := Lib.run_convert_string_bytes (P := Tryz.prog) w 9 35 5 t (u := .string) Tryz.underlying9 Tryz.underlying35 Tryz.underlying5
  obtain ⟨w1, hw1⟩ : ∃ w1, w1 = Lib.bytesWorld w 5 t := ⟨_, rfl⟩
  have hcell : ∀ j, j < t.size → w1.cell? ⟨w.heap.size, j, none⟩ = some (.int .u8 (t.data.toList.getD j 0).toNat) := fun j hj => by rw [hw1]; exact Lib.bytesWorld_cell w _ t j hj
  have F1 : Fr none w w1 := by
    rw [hw1]
    exact ⟨rfl, rfl, rfl, by rw [Lib.bytesWorld_size]; omega, fun k hk _ => Lib.bytesWorld_at_old w _ t k hk⟩
  rw [← hw1] at hcv
  generalize grownCap w t.size 0 _ = cp at hcv
  have hsz : t.size = t.data.toList.length := (Array.length_toList).symm
  have he0 : t.toList.isEmpty = false := by
    rw [ByteArray.toList_eq]
    cases h : t.data.toList with
    | nil => rw [h] at hsz; simp only [List.length_nil] at hsz; omega
    | cons c r => rfl
  obtain ⟨n, hn⟩ : ∃ n, n = t.size := ⟨_, rfl⟩
  have hnb : n ≤ 16 := by omega
  rw [← hn] at hcv
  have HC := Lib.hid hcell
  have HN := Lib.hid (hn.trans hsz)
  have HN2 := Lib.hid hn
  have HH := Lib.hid hx
  clear hcell hsz hn hw1 h1 h16 hx
  have hm1 : IntKind.u64.wrap 18446744073709551616 = 0 := by decide
  have hm2 : IntKind.u64.wrap (-1) = 18446744073709551615 := by decide
  go_enter Tryz.func145, Tryz.ntmps145
  go_wp2_with fail
  go_loopw [12, 13, 101] (fun us v i wr => ∃ (j x : Nat), us = .bool false ∧ j ≤ n ∧ i = .int .i64 j ∧ v = .int .u64 x ∧ Hid (x = hexF 0 (t.data.toList.take j)) ∧ wr = w1) (fun _ _ i _ => n - (intOf i).toNat)
  case atStart => exact ⟨0, 0, rfl, Nat.zero_le _, rfl, rfl, Lib.hid rfl, rfl⟩
  case round =>
    obtain ⟨j, x, rfl, hj, rfl, rfl, HX, rfl⟩ := hrel
    by_cases hlt : j < n
    · have k1 : j < t.data.toList.length := by have := HN.out; omega
      have hst := hexF_take _ j k1
      rw [← HX.out] at hst
      have hb16 : x < 16 ^ 15 := by
        have h1 := hexF_lt (t.data.toList.take j) 0 (fun c hc => HH.out c (List.mem_of_mem_take hc))
        rw [← HX.out, List.length_take, Nat.zero_add, Nat.one_mul] at h1
        exact Nat.lt_of_lt_of_le h1 (Nat.pow_le_pow_right (by omega) (by omega))
      have hbx := HH.out _ (List.getElem_mem k1)
      obtain ⟨b, hb⟩ : ∃ b : UInt8, b = t.data.toList[j] := ⟨_, rfl⟩
      have d1 : wr.cell? ⟨w.heap.size, j, none⟩ = some (.int .u8 b.toNat) := by
        have hq : t.data.toList.getD j 0 = t.data.toList[j] := by rw [List.getD_eq_getElem?_getD, List.getElem?_eq_getElem k1]; rfl
        rw [HC.out j (by have := HN2.out; omega), hq, hb]
      rw [← hb] at hst hbx
      have hv := hexV_lt hbx
      unfold IsHx at hbx
      obtain ⟨c, hc⟩ : ∃ c : Nat, c = b.toNat := ⟨_, rfl⟩
      rw [← hc] at d1 hbx
      obtain ⟨y, hy⟩ : ∃ y : Nat, y = hexV b := ⟨_, rfl⟩
      rw [← hy] at hst hv
      unfold hexV at hy
      rw [← hc] at hy
      have hx2 : x < 1152921504606846976 := hb16
      obtain ⟨X, hX⟩ : ∃ X : Nat, X = 16 * x := ⟨_, rfl⟩
      obtain ⟨Z, hZ⟩ : ∃ Z : Nat, Z = X + y := ⟨_, rfl⟩
      have w1' : IntKind.u64.wrap ((x : Int) * 16) = (X : Int) := by rw [IntKind.wrap_u64]; omega
      have w2' : IntKind.u64.wrap ((X : Int) + (y : Int)) = (Z : Int) := by rw [IntKind.wrap_u64]; omega
      have w4' : decide ((1152921504606846976 : Int) ≤ (x : Int)) = false := by rw [decide_eq_false_iff_not]; omega
      have w5' : decide (Z < X) = false := by rw [decide_eq_false_iff_not]; omega
      have w6' : decide ((18446744073709551615 : Int) < (Z : Int)) = false := by rw [decide_eq_false_iff_not]; omega
      have w7' : IntKind.u8.wrap (y : Int) = (y : Int) := by rw [IntKind.wrap_u8]; omega
      have w8' : IntKind.u64.wrap (y : Int) = (y : Int) := by rw [IntKind.wrap_u64]; omega
      rw [← hX, ← hZ] at hst
      have HXX := Lib.hid hX
      have HZZ := Lib.hid hZ
      have HX2 := Lib.hid hx2
      clear hx2 hX hZ
      have HST := Lib.hid hst
      clear hst hb k1 hb16
      rcases hbx with ⟨b1, b2⟩ | ⟨b1, b2⟩
      · have hyc : y + 48 = c := by rw [if_pos b2] at hy; omega
        have w3' : IntKind.u8.wrap ((c : Int) - 48) = (y : Int) := by rw [IntKind.wrap_u8]; omega
        have hc95 : ((c : Int) == 95) = false := by rw [beq_eq_false_iff_ne]; omega
        clear hy hc hyc
        go_wp2_with fail
        go_roundw
        case rel => exact ⟨j + 1, Z, rfl, by omega, by go_num, rfl, Lib.hid (by rw [HST.out]), trivial⟩
        case measure => simp [intOf]; omega
      · have hyc : y + 87 = c := by rw [if_neg (by omega)] at hy; omega
        have w3' : (c : Int) - 97 + 10 = (y : Int) := by omega
        have hc95 : ((c : Int) == 95) = false := by rw [beq_eq_false_iff_ne]; omega
        clear hy hc hyc
        go_wp2_with (go_at_call 187; refine (lower_any c (by omega) (by omega) _).mono ?_; rintro e w' ⟨rfl, rfl⟩)
        go_roundw
        case rel => exact ⟨j + 1, Z, rfl, by omega, by go_num, rfl, Lib.hid (by rw [HST.out]), trivial⟩
        case measure => simp [intOf]; omega
    · obtain rfl : j = n := by omega
      go_wp2_with fail
      go_ret2
      have e := HX.out
      rw [List.take_of_length_le (by have := HN.out; omega)] at e
      subst e
      exact ⟨rfl, F1⟩
theorem pu_any (t : ByteArray) (w : World) (hx : ∀ c ∈ t.data.toList, IsHx c) (h1 : 1 ≤ t.size) (h16 : t.size ≤ 16) :
    Calls Tryz.prog 98 #[.string t, .int .i64 16, .int .i64 64] w fun e w' => e = .returned (.tuple #[.int .u64 (hexF 0 t.data.toList : Nat), .nilIface]) ∧ Fr none w w' := by
  go_enter Tryz.func98, Tryz.ntmps98
  go_wp2_with fail
  refine (ipu_any t _ hx h1 h16).mono ?_
  rintro e w2 ⟨rfl, F⟩
  go_wp2_with fail
  go_ret2
  exact ⟨rfl, F⟩
end Go.Proofs.YtpdhckbiioobhaaGreatDoor

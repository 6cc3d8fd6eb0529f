/- Some texts of this claim, joined: contracts of the functions that it reaches, and plain laws. -/
import Derived.Test.YtoblhcieidljjaaGreatDoorProg
import Derived.Test.YtoblhcieidljjaaGreatDoorJDA3
import Derived.Test.YtoblhcieidljjaaGreatDoorJDA1
import Derived.Test.YtoblhcieidljjaaGreatDoorJDA14
import Derived.Lib.ConvBytes
import Derived.Lib.SlBytesRow

set_option linter.unusedSimpArgs false
set_option linter.unusedVariables false
/- Walks: strconv.FormatUint in base 16. -/
namespace Go.Proofs.YtoblhcieidljjaaGreatDoor
open Go.RowKit

/-- The one cell of math/bits' table that is read. -/
def Deb (w : World) : Prop := w.cell? ⟨7, 15, none⟩ = some (.int .u8 4)
theorem Deb.fr {w w' : World} (h : Deb w) (f : Fr none w w') : Deb w' := f.keep h (by simp)
theorem tz64_any (w : World) (h : Deb w) : Calls Tryz.prog 216 #[.int .u64 16] w fun e w' => e = .returned (.int .i64 4) ∧ w = w' := by
  have h15 : w.cell? ⟨7, 15, none⟩ = some (.int .u8 4) := h
  have e1 : IntKind.u64.wrap (-16) = 18446744073709551600 := by decide
  have e2 : bits .and .u64 16 18446744073709551600 = 16 := by decide
  have e3 : IntKind.u64.wrap 4573923408821661840 = 4573923408821661840 := by decide
  clear h
  go_enter Tryz.func216, Tryz.ntmps216
  go_wp2_with fail
  go_ret
  exact ⟨rfl, rfl⟩
theorem tz_any (w : World) (h : Deb w) : Calls Tryz.prog 195 #[.int .u64 16] w fun e w' => e = .returned (.int .i64 4) ∧ w = w' := by
  go_enter Tryz.func195, Tryz.ntmps195
  go_wp2_with fail
  refine (tz64_any _ h).mono ?_
  rintro e w' ⟨rfl, rfl⟩
  go_wp2_with fail
  go_ret
  exact ⟨rfl, rfl⟩
theorem pow2_any (w : World) : Calls Tryz.prog 194 #[.int .i64 16] w fun e w' => e = .returned (.bool true) ∧ w = w' := by
  go_enter Tryz.func194, Tryz.ntmps194
  go_wp2_with fail
  go_ret
  exact ⟨rfl, rfl⟩

/-- The array of formatBits behind j digits. -/
def u8w (b : UInt8) : Value := .int .u8 b.toNat
def arrV (n j : Nat) : Array Value := (List.replicate (65 - j) (Value.int .u8 0) ++ (hexL j n).map u8w).toArray
theorem arrV_set (n j : Nat) (hj : j < 65) : (arrV n j).setIfInBounds (64 - j) (u8w (hexD (n / 16 ^ j % 16))) = arrV n (j + 1) := by
  unfold arrV
  have e1 : List.replicate (65 - j) (Value.int .u8 0) = List.replicate (65 - (j + 1)) (Value.int .u8 0) ++ [Value.int .u8 0] := by
    rw [show 65 - j = (65 - (j + 1)) + 1 from by omega, List.replicate_succ']
  rw [List.setIfInBounds_toArray, e1, List.append_assoc, List.set_append_right (h := by simp)]
  have e2 : 64 - j - (List.replicate (65 - (j + 1)) (Value.int .u8 0)).length = 0 := by simp
  rw [e2, Nat.add_comm j 1, hexL_cons]
  simp [Nat.add_comm]
theorem arrV_get (n j i : Nat) (hj : j < 65) (hi : i = 64 - j) : (arrV n j)[i]? = some (.int .u8 0) := by
  subst hi
  unfold arrV
  rw [List.getElem?_toArray, List.getElem?_append_left (by simp; omega), List.getElem?_replicate]
  simp; omega
theorem and15 (u : Nat) (hu : u < 18446744073709551616) : bits .and .u64 (u : Int) 15 = ((u % 16 : Nat) : Int) := by
  show IntKind.u64.wrap ((BitVec.ofInt 64 (u : Int) &&& BitVec.ofInt 64 (15 : Int)).toNat : Int) = _
  have h1 : (BitVec.ofInt 64 (u : Int)).toNat = u := by rw [BitVec.ofInt_natCast, BitVec.toNat_ofNat]; exact Nat.mod_eq_of_lt (by omega)
  have h2 : (BitVec.ofInt 64 (15 : Int)).toNat = 2 ^ 4 - 1 := by decide
  rw [BitVec.toNat_and, h1, h2, Nat.and_two_pow_sub_one_eq_mod, IntKind.wrap_u64]
  omega

theorem dig_fin : ∀ y : Fin 16, (#[48, 49, 50, 51, 52, 53, 54, 55, 56, 57, 97, 98, 99, 100, 101, 102, 103, 104, 105, 106, 107, 108, 109, 110, 111, 112, 113, 114, 115, 116, 117, 118, 119, 120, 121, 122] : Array UInt8)[y.val]! = hexD y.val := by decide
theorem dig_at (y : Nat) (hy : y < 16) (h : y < (⟨#[48, 49, 50, 51, 52, 53, 54, 55, 56, 57, 97, 98, 99, 100, 101, 102, 103, 104, 105, 106, 107, 108, 109, 110, 111, 112, 113, 114, 115, 116, 117, 118, 119, 120, 121, 122]⟩ : ByteArray).size) : (⟨#[48, 49, 50, 51, 52, 53, 54, 55, 56, 57, 97, 98, 99, 100, 101, 102, 103, 104, 105, 106, 107, 108, 109, 110, 111, 112, 113, 114, 115, 116, 117, 118, 119, 120, 121, 122]⟩ : ByteArray)[y] = hexD y := by
  have := dig_fin ⟨y, hy⟩
  rw [← this]
  show (#[48, 49, 50, 51, 52, 53, 54, 55, 56, 57, 97, 98, 99, 100, 101, 102, 103, 104, 105, 106, 107, 108, 109, 110, 111, 112, 113, 114, 115, 116, 117, 118, 119, 120, 121, 122] : Array UInt8)[y] = _
  rw [getElem!_pos]
theorem hex_bytes (n m : Nat) (w : World) (g o : Nat) (h : ∀ j u, ((hexL m n).map u8w)[j]? = some u → w.cell? ⟨g, o + j, none⟩ = some u) : Lib.Bytes w g o ⟨(hexL m n).toArray⟩ := by
  intro i hi
  have hi' : i < (hexL m n).length := by simpa [ByteArray.size] using hi
  have := h i (u8w (hexL m n)[i]) (by simp [hi'])
  rw [this]
  rfl

set_option maxRecDepth 100000 in
set_option maxHeartbeats 2000000 in
theorem fmtBits_any (n : Nat) (hn : n < 18446744073709551616) (w : World) (hD : Deb w) : Calls Tryz.prog 164 #[.slice none 0 0, .int .u64 (n : Int), .int .i64 16, .bool false, .bool false] w fun e w' =>
    ∃ m, 1 ≤ m ∧ m ≤ 16 ∧ n < 16 ^ m ∧ e = .returned (.tuple #[.slice none 0 0, .string ⟨(hexL m n).toArray⟩]) ∧ Fr none w w' := by
  have HK := Lib.hid hn
  clear hn
  go_enter Tryz.func164, Tryz.ntmps164
  go_wp2_with fail
  generalize hW : w.alloc _ = w1
  have F1 : Fr none w w1 := hW ▸ (Fr.refl _ _).alloc _
  have B1 : Hid (w1.heap[w.heap.size]? = some (.cells (arrV n 0) 196 (0, 0))) := by rw [← hW]; exact blk_new _ _
  have D1 := hD.fr F1
  clear hW
  refine (pow2_any _).mono ?_
  rintro e w2 ⟨rfl, rfl⟩
  go_wp2_with fail
  refine (tz_any _ D1).mono ?_
  rintro e w2 ⟨rfl, rfl⟩
  go_wp2_with fail
  go_loopw [1, 13] (fun u i wr => ∃ j q x : Nat, j ≤ 15 ∧ q + j = 64 ∧ u = .int .u64 (x : Int) ∧ i = .int .i64 ((q : Int) + 1) ∧ x < 18446744073709551616 ∧ Hid (x = n / 16 ^ j) ∧ Fr none w wr ∧ Hid (wr.heap[w.heap.size]? = some (.cells (arrV n j) 196 (0, 0)))) (fun u _ _ => (intOf u).toNat)
  case atStart => exact ⟨0, 64, n, by omega, by omega, rfl, rfl, HK.out, by simp [Hid], F1, B1⟩
  case round =>
    clear F1 B1 D1
    obtain ⟨j, q, x, hj, hq, rfl, rfl, hx, HX, F, HB⟩ := hrel
    have hc0 : wr.cell? ⟨w.heap.size, q, none⟩ = some (.int .u8 0) := (blk_cell HB.out q).trans (arrV_get n j q (by omega) (by omega))
    have hz := blk_free HB.out q
    have hb := blk_lt HB.out
    obtain ⟨y, hy⟩ : ∃ y : Nat, y = x % 16 := ⟨_, rfl⟩
    have hy16 : y < 16 := by omega
    have ha := and15 x hx
    rw [← hy] at ha
    have hdg := fun h => dig_at y hy16 h
    have HY := Lib.hid hy
    have HXL := Lib.hid hx
    clear hy hx
    by_cases hge : 16 ≤ x
    · have hj15 : j ≤ 14 := by
        have h1 := HX.out
        have h2 := HK.out
        rcases Nat.lt_or_ge j 15 with h | h
        · omega
        · exfalso
          have : j = 15 := by omega
          subst this
          omega
      go_wp2_with fail
      go_roundw
      case rel =>
        refine ⟨j + 1, q - 1, x / 16, by omega, by omega, by rw [Int.natCast_ediv]; rfl, by congr 1; omega, by have := HXL.out; omega, ?_, F.setNew (by simp) _, ?_⟩
        · unfold Hid; rw [HX.out, Nat.div_div_eq_div_mul, Nat.pow_succ]
        · unfold Hid
          have e := arrV_set n j (by omega)
          rw [← HX.out, ← HY.out, show 64 - j = q by omega] at e
          rw [← e]
          exact blk_set HB.out q _
      case measure => simp [intOf]; omega
    · have hq65 : (q : Int) ≤ 65 := by omega
      have hxy : y = x := by have := HY.out; omega
      subst hxy
      obtain ⟨W, hW⟩ : ∃ W, W = wr.setCell ⟨w.heap.size, q, none⟩ (.int .u8 (hexD y).toNat) := ⟨_, rfl⟩
      have FW : Fr none w W := hW ▸ F.setNew (by simp) _
      have hblk : W.heap[w.heap.size]? = some (.cells (arrV n (j + 1)) 196 (0, 0)) := by
        have e := arrV_set n j (by omega)
        rw [← HX.out, show y % 16 = y by omega, show 64 - j = q by omega] at e
        rw [← e, hW]
        exact blk_set HB.out q _
      have hcells : ∀ i u, ((hexL (j + 1) n).map u8w)[i]? = some u → W.cell? ⟨w.heap.size, q + i, none⟩ = some u := fun i u hu => by
        rw [blk_cell hblk, ← hu]
        unfold arrV
        rw [List.getElem?_toArray, List.getElem?_append_right (by simp; omega)]
        congr 1
        simp; omega
      have h8 : (⟨(hexL (j + 1) n).toArray⟩ : ByteArray).size = 65 - q := by
        have := hexL_len (j + 1) n
        simp only [ByteArray.size, List.size_toArray]
        omega
      have hcv := Lib.run_convert_whole (P := Tryz.prog) W 35 5 9 Tryz.underlying35 Tryz.underlying5 Tryz.underlying9 w.heap.size q ⟨(hexL (j + 1) n).toArray⟩ (hex_bytes n (j + 1) W w.heap.size q hcells) (65 - q)
      have hlast : n < 16 ^ (j + 1) := by
        have h1 := HX.out
        rw [Nat.pow_succ]
        have h2 : n / 16 ^ j < 16 := by omega
        exact (Nat.div_lt_iff_lt_mul (Nat.pow_pos (by omega))).1 h2 |> fun h => by rw [Nat.mul_comm] at h; exact h
      rw [h8, hW] at hcv
      rw [hW] at FW
      have HL := Lib.hid hlast
      clear hW hblk hcells h8 hlast
      go_wp2_with fail
      go_ret2
      exact ⟨j + 1, by omega, by omega, HL.out, rfl, FW⟩
/-- What FormatUint in base 16 leaves. -/
def HexE (n : Nat) (w : World) (e : Ending) (w' : World) : Prop := ∃ (m : Nat) (S : ByteArray), 1 ≤ m ∧ m ≤ 16 ∧ n < 16 ^ m ∧ e = .returned (.string S) ∧ S.data.toList = hexL m n ∧ S.size = m ∧ Fr none w w'
theorem ifmt_any (n : Nat) (hn : n < 18446744073709551616) (w : World) (hD : Deb w) : Calls Tryz.prog 122 #[.int .u64 (n : Int), .int .i64 16] w (HexE n w) := by
  go_enter Tryz.func122, Tryz.ntmps122
  go_wp2_with fail
  refine (fmtBits_any n hn _ hD).mono ?_
  rintro e w2 ⟨m, h1, h2, h3, rfl, F⟩
  go_wp2_with fail
  go_ret
  exact ⟨m, _, h1, h2, h3, rfl, by simp, by simp [ByteArray.size, hexL_len], F⟩
theorem fmt_any (n : Nat) (hn : n < 18446744073709551616) (w : World) (hD : Deb w) : Calls Tryz.prog 78 #[.int .u64 (n : Int), .int .i64 16] w (HexE n w) := by
  go_enter Tryz.func78, Tryz.ntmps78
  go_wp2_with fail
  refine (ifmt_any n hn _ hD).mono ?_
  rintro e w2 ⟨m, S, h1, h2, h3, rfl, h4, h5, F⟩
  go_wp2_with fail
  go_ret
  exact ⟨m, S, h1, h2, h3, rfl, h4, h5, F⟩
end Go.Proofs.YtoblhcieidljjaaGreatDoor

/- Walks: strconv.ParseUint in base 16, at texts of small digits. -/
namespace Go.Proofs.YtoblhcieidljjaaGreatDoor
open Go.RowKit

theorem lower_fin : ∀ c : Fin 256, 97 ≤ c.val → c.val ≤ 122 → bits .or .u8 (c.val : Int) 32 = (c.val : Int) := by decide +kernel
theorem lower_any (c : Nat) (h1 : 97 ≤ c) (h2 : c ≤ 122) (w : World) : Calls Tryz.prog 171 #[.int .u8 (c : Int)] w fun e w' => e = .returned (.int .u8 (c : Int)) ∧ w = w' := by
  have e := lower_fin ⟨c, by omega⟩ h1 h2
  simp only at e
  go_enter Tryz.func171, Tryz.ntmps171
  go_wp2_with fail
  go_ret
  exact ⟨rfl, rfl⟩

theorem hexF_take (l : List UInt8) (j : Nat) (hj : j < l.length) : hexF 0 (l.take (j + 1)) = 16 * hexF 0 (l.take j) + hexV l[j] := by
  rw [List.take_succ_eq_append_getElem hj, hexF_snoc]
set_option maxRecDepth 100000 in
set_option maxHeartbeats 4000000 in
theorem ipu_any (t : ByteArray) (w : World) (hx : ∀ c ∈ t.data.toList, IsHx c) (h1 : 1 ≤ t.size) (h16 : t.size ≤ 16) :
    Calls Tryz.prog 134 #[.string t, .int .i64 16, .int .i64 64] w fun e w' => e = .returned (.tuple #[.int .u64 (hexF 0 t.data.toList : Nat), .nilIface]) ∧ Fr none w w' := by
  have hcv := Lib.run_convert_string_bytes (P := Tryz.prog) w 9 35 5 t (u := .string) Tryz.underlying9 Tryz.underlying35 Tryz.underlying5
  obtain ⟨w1, hw1⟩ : ∃ w1, w1 = Lib.bytesWorld w 5 t := ⟨_, rfl⟩
  have hcell : ∀ j, j < t.size → w1.cell? ⟨w.heap.size, j, none⟩ = some (.int .u8 (t.data.toList.getD j 0).toNat) := fun j hj => by rw [hw1]; exact Lib.bytesWorld_cell w _ t j hj
  have F1 : Fr none w w1 := by
    rw [hw1]
    exact ⟨rfl, rfl, rfl, by rw [Lib.bytesWorld_size]; omega, fun k hk _ => Lib.bytesWorld_at_old w _ t k hk⟩
  rw [← hw1] at hcv
  generalize grownCap w t.size 0 _ = cp at hcv
  have hsz : t.size = t.data.toList.length := (Array.length_toList).symm
  have he0 : t.toList.isEmpty = false := by
    rw [ByteArray.toList_eq]
    cases h : t.data.toList with
    | nil => rw [h] at hsz; simp only [List.length_nil] at hsz; omega
    | cons c r => rfl
  obtain ⟨n, hn⟩ : ∃ n, n = t.size := ⟨_, rfl⟩
  have hnb : n ≤ 16 := by omega
  rw [← hn] at hcv
  have HC := Lib.hid hcell
  have HN := Lib.hid (hn.trans hsz)
  have HN2 := Lib.hid hn
  have HH := Lib.hid hx
  clear hcell hsz hn hw1 h1 h16 hx
  have hm1 : IntKind.u64.wrap 18446744073709551616 = 0 := by decide
  have hm2 : IntKind.u64.wrap (-1) = 18446744073709551615 := by decide
  go_enter Tryz.func134, Tryz.ntmps134
  go_wp2_with fail
  go_loopw [12, 13, 101] (fun us v i wr => ∃ (j x : Nat), us = .bool false ∧ j ≤ n ∧ i = .int .i64 j ∧ v = .int .u64 x ∧ Hid (x = hexF 0 (t.data.toList.take j)) ∧ wr = w1) (fun _ _ i _ => n - (intOf i).toNat)
  case atStart => exact ⟨0, 0, rfl, Nat.zero_le _, rfl, rfl, Lib.hid rfl, rfl⟩
  case round =>
    obtain ⟨j, x, rfl, hj, rfl, rfl, HX, rfl⟩ := hrel
    by_cases hlt : j < n
    · have k1 : j < t.data.toList.length := by have := HN.out; omega
      have hst := hexF_take _ j k1
      rw [← HX.out] at hst
      have hb16 : x < 16 ^ 15 := by
        have h1 := hexF_lt (t.data.toList.take j) 0 (fun c hc => HH.out c (List.mem_of_mem_take hc))
        rw [← HX.out, List.length_take, Nat.zero_add, Nat.one_mul] at h1
        exact Nat.lt_of_lt_of_le h1 (Nat.pow_le_pow_right (by omega) (by omega))
      have hbx := HH.out _ (List.getElem_mem k1)
      obtain ⟨b, hb⟩ : ∃ b : UInt8, b = t.data.toList[j] := ⟨_, rfl⟩
      have d1 : wr.cell? ⟨w.heap.size, j, none⟩ = some (.int .u8 b.toNat) := by
        have hq : t.data.toList.getD j 0 = t.data.toList[j] := by rw [List.getD_eq_getElem?_getD, List.getElem?_eq_getElem k1]; rfl
        rw [HC.out j (by have := HN2.out; omega), hq, hb]
      rw [← hb] at hst hbx
      have hv := hexV_lt hbx
      unfold IsHx at hbx
      obtain ⟨c, hc⟩ : ∃ c : Nat, c = b.toNat := ⟨_, rfl⟩
      rw [← hc] at d1 hbx
      obtain ⟨y, hy⟩ : ∃ y : Nat, y = hexV b := ⟨_, rfl⟩
      rw [← hy] at hst hv
      unfold hexV at hy
      rw [← hc] at hy
      have hx2 : x < 1152921504606846976 := hb16
      obtain ⟨X, hX⟩ : ∃ X : Nat, X = 16 * x := ⟨_, rfl⟩
      obtain ⟨Z, hZ⟩ : ∃ Z : Nat, Z = X + y := ⟨_, rfl⟩
      have w1' : IntKind.u64.wrap ((x : Int) * 16) = (X : Int) := by rw [IntKind.wrap_u64]; omega
      have w2' : IntKind.u64.wrap ((X : Int) + (y : Int)) = (Z : Int) := by rw [IntKind.wrap_u64]; omega
      have w4' : decide ((1152921504606846976 : Int) ≤ (x : Int)) = false := by rw [decide_eq_false_iff_not]; omega
      have w5' : decide (Z < X) = false := by rw [decide_eq_false_iff_not]; omega
      have w6' : decide ((18446744073709551615 : Int) < (Z : Int)) = false := by rw [decide_eq_false_iff_not]; omega
      have w7' : IntKind.u8.wrap (y : Int) = (y : Int) := by rw [IntKind.wrap_u8]; omega
      have w8' : IntKind.u64.wrap (y : Int) = (y : Int) := by rw [IntKind.wrap_u64]; omega
      rw [← hX, ← hZ] at hst
      have HXX := Lib.hid hX
      have HZZ := Lib.hid hZ
      have HX2 := Lib.hid hx2
      clear hx2 hX hZ
      have HST := Lib.hid hst
      clear hst hb k1 hb16
      rcases hbx with ⟨b1, b2⟩ | ⟨b1, b2⟩
      · have hyc : y + 48 = c := by rw [if_pos b2] at hy; omega
        have w3' : IntKind.u8.wrap ((c : Int) - 48) = (y : Int) := by rw [IntKind.wrap_u8]; omega
        have hc95 : ((c : Int) == 95) = false := by rw [beq_eq_false_iff_ne]; omega
        clear hy hc hyc
        go_wp2_with fail
        go_roundw
        case rel => exact ⟨j + 1, Z, rfl, by omega, by go_num, rfl, Lib.hid (by rw [HST.out]), trivial⟩
        case measure => simp [intOf]; omega
      · have hyc : y + 87 = c := by rw [if_neg (by omega)] at hy; omega
        have w3' : (c : Int) - 97 + 10 = (y : Int) := by omega
        have hc95 : ((c : Int) == 95) = false := by rw [beq_eq_false_iff_ne]; omega
        clear hy hc hyc
        go_wp2_with (go_at_call 171; refine (lower_any c (by omega) (by omega) _).mono ?_; rintro e w' ⟨rfl, rfl⟩)
        go_roundw
        case rel => exact ⟨j + 1, Z, rfl, by omega, by go_num, rfl, Lib.hid (by rw [HST.out]), trivial⟩
        case measure => simp [intOf]; omega
    · obtain rfl : j = n := by omega
      go_wp2_with fail
      go_ret2
      have e := HX.out
      rw [List.take_of_length_le (by have := HN.out; omega)] at e
      subst e
      exact ⟨rfl, F1⟩
theorem pu_any (t : ByteArray) (w : World) (hx : ∀ c ∈ t.data.toList, IsHx c) (h1 : 1 ≤ t.size) (h16 : t.size ≤ 16) :
    Calls Tryz.prog 89 #[.string t, .int .i64 16, .int .i64 64] w fun e w' => e = .returned (.tuple #[.int .u64 (hexF 0 t.data.toList : Nat), .nilIface]) ∧ Fr none w w' := by
  go_enter Tryz.func89, Tryz.ntmps89
  go_wp2_with fail
  refine (ipu_any t _ hx h1 h16).mono ?_
  rintro e w2 ⟨rfl, F⟩
  go_wp2_with fail
  go_ret2
  exact ⟨rfl, F⟩
end Go.Proofs.YtoblhcieidljjaaGreatDoor

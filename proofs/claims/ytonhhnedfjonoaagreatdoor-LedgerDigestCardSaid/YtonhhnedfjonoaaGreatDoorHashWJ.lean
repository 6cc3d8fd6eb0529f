/- Walks: the hash of bytes and the tag of a declaration (program and reference). -/
import Derived.Test.YtonhhnedfjonoaaGreatDoorProg
import Derived.Test.YtonhhnedfjonoaaGreatDoorTxtWJ
import Derived.Lib.ConvBytes
import Derived.Lib.SlBytesRow
set_option linter.unusedSimpArgs false
set_option linter.unusedVariables false
namespace Go.Proofs.YtonhhnedfjonoaaGreatDoor
open Go.RowKit

/-- FNV-1a, 64 bits. -/
def hstep (h : Nat) (b : UInt8) : Nat := ((h ^^^ b.toNat) * 1099511628211) % 18446744073709551616
def hashO : Nat := 14695981039346656037
def hashS (l : List UInt8) : Nat := l.foldl hstep hashO
theorem hstep_lt (h : Nat) (b : UInt8) : hstep h b < 18446744073709551616 := by
  unfold hstep
  exact Nat.mod_lt _ (by omega)
theorem hashS_snoc (l : List UInt8) (j : Nat) (hj : j < l.length) : hashS (l.take (j + 1)) = hstep (hashS (l.take j)) l[j] := by
  unfold hashS
  rw [List.take_succ_eq_append_getElem hj, List.foldl_append, List.foldl_cons, List.foldl_nil]
theorem hashO_lt : hashO < 18446744073709551616 := by unfold hashO; omega
theorem hashS_lt (l : List UInt8) : hashS l < 18446744073709551616 := by
  unfold hashS
  rw [← List.reverse_reverse l]
  generalize l.reverse = r
  cases r with
  | nil => rw [List.reverse_nil, List.foldl_nil]; exact hashO_lt
  | cons b r =>
    rw [List.reverse_cons, List.foldl_append, List.foldl_cons, List.foldl_nil]
    exact hstep_lt _ _

theorem xor_u64 (a b : Nat) (ha : a < 18446744073709551616) (hb : b < 18446744073709551616) : bits .xor .u64 (a : Int) (b : Int) = ((a ^^^ b : Nat) : Int) := by
  have hx : a ^^^ b < 2 ^ 64 := Nat.xor_lt_two_pow (by omega) (by omega)
  show IntKind.u64.wrap ((BitVec.ofInt 64 (a : Int) ^^^ BitVec.ofInt 64 (b : Int)).toNat : Int) = _
  have h1 : (BitVec.ofInt 64 (a : Int)).toNat = a := by rw [BitVec.ofInt_natCast, BitVec.toNat_ofNat]; exact Nat.mod_eq_of_lt (by omega)
  have h2 : (BitVec.ofInt 64 (b : Int)).toNat = b := by rw [BitVec.ofInt_natCast, BitVec.toNat_ofNat]; exact Nat.mod_eq_of_lt (by omega)
  rw [BitVec.toNat_xor, h1, h2, IntKind.wrap_u64]
  omega
theorem hstep_form (x : Nat) (hx : x < 18446744073709551616) (b : UInt8) : IntKind.u64.wrap (bits .xor .u64 (x : Int) (IntKind.u64.wrap (b.toNat : Int)) * 1099511628211) = ((hstep x b : Nat) : Int) := by
  have hb := b.toNat_lt
  have e : IntKind.u64.wrap (b.toNat : Int) = (b.toNat : Int) := by rw [IntKind.wrap_u64]; omega
  rw [e, xor_u64 x b.toNat hx (by omega), IntKind.wrap_u64]
  unfold hstep
  omega

set_option maxRecDepth 100000 in
theorem rhash_any (s : ByteArray) (w : World) (hs : s.size ≤ 34359738400) : Calls Tryz.prog 12 #[.string s] w fun e w' => e = .returned (.int .u64 (hashS s.data.toList : Nat)) ∧ w = w' := by
  obtain ⟨n, hn⟩ : ∃ n, n = s.data.toList.length := ⟨_, rfl⟩
  have hsz : s.size = s.data.toList.length := (Array.length_toList).symm
  have HN := Lib.hid hsz
  clear hn hsz
  go_enter Tryz.func12, Tryz.ntmps12
  go_wp2_with fail
  go_loop [3, 4] (fun h i => ∃ (j x : Nat), j ≤ s.size ∧ i = .int .i64 j ∧ h = .int .u64 x ∧ Hid (x = hashS (s.data.toList.take j))) (fun _ i => s.size - (intOf i).toNat)
  case atStart => exact ⟨0, hashO, Nat.zero_le _, rfl, rfl, Lib.hid rfl⟩
  case round =>
    obtain ⟨j, x, hj, rfl, rfl, HX⟩ := hrel
    by_cases hlt : j < s.size
    · have hx : x < 18446744073709551616 := by rw [HX.out]; exact hashS_lt _
      have HL := Lib.hid hx
      clear hx
      go_wp2_with fail
      go_round
      case rel =>
        refine ⟨j + 1, hstep x s[j], by omega, by go_num, ?_, Lib.hid ?_⟩
        · rw [hstep_form x HL.out]
        · rw [hashS_snoc _ j (by have := HN.out; omega), ← HX.out]
          rfl
      case measure => simp [intOf]; omega
    · obtain rfl : j = s.size := by omega
      go_wp2_with fail
      go_ret
      exact ⟨ret_int (by rw [HX.out, List.take_of_length_le (by have := HN.out; omega)]), rfl⟩

set_option maxRecDepth 100000 in
theorem hash_any (t : ByteArray) (w : World) (hs : t.size ≤ 34359738400) : Calls Tryz.prog 31 #[.string t] w fun e w' => e = .returned (.int .u64 (hashS t.data.toList : Nat)) ∧ Fr none w w' := by
  have hcv := Lib.run_convert_string_bytes (P := Tryz.prog) w 9 42 5 t (u := .string) Tryz.underlying9 Tryz.underlying42 Tryz.underlying5
  obtain ⟨w1, hw1⟩ : ∃ w1, w1 = Lib.bytesWorld w 5 t := ⟨_, rfl⟩
  have hcell : ∀ j, j < t.size → w1.cell? ⟨w.heap.size, j, none⟩ = some (.int .u8 (t.data.toList.getD j 0).toNat) := fun j hj => by rw [hw1]; exact Lib.bytesWorld_cell w _ t j hj
  have F1 : Fr none w w1 := by
    rw [hw1]
    exact ⟨rfl, rfl, rfl, by rw [Lib.bytesWorld_size]; omega, fun k hk _ => Lib.bytesWorld_at_old w _ t k hk⟩
  rw [← hw1] at hcv
  generalize grownCap w t.size 0 _ = cp at hcv
  have hsz : t.size = t.data.toList.length := (Array.length_toList).symm
  obtain ⟨n, hn⟩ : ∃ n, n = t.size := ⟨_, rfl⟩
  have hnb : n ≤ 34359738400 := by omega
  rw [← hn] at hcv
  have HC := Lib.hid hcell
  have HN := Lib.hid (hn.trans hsz)
  have HN2 := Lib.hid hn
  clear hcell hsz hn hw1 hs
  go_enter Tryz.func31, Tryz.ntmps31
  go_wp2_with fail
  go_loopw [3, 9] (fun h i wr => ∃ (j x : Nat), j ≤ n ∧ i = .int .i64 j ∧ h = .int .u64 x ∧ Hid (x = hashS (t.data.toList.take j)) ∧ wr = w1) (fun _ i _ => n - (intOf i).toNat)
  case atStart => exact ⟨0, hashO, Nat.zero_le _, rfl, rfl, Lib.hid rfl, rfl⟩
  case round =>
    obtain ⟨j, x, hj, rfl, rfl, HX, rfl⟩ := hrel
    by_cases hlt : j < n
    · have k1 : j < t.data.toList.length := by have := HN.out; omega
      have hst := hashS_snoc _ j k1
      rw [← HX.out] at hst
      obtain ⟨b, hb⟩ : ∃ b : UInt8, b = t.data.toList[j] := ⟨_, rfl⟩
      have d1 : wr.cell? ⟨w.heap.size, j, none⟩ = some (.int .u8 b.toNat) := by
        have hq : t.data.toList.getD j 0 = t.data.toList[j] := by rw [List.getD_eq_getElem?_getD, List.getElem?_eq_getElem k1]; rfl
        rw [HC.out j (by have := HN2.out; omega), hq, hb]
      rw [← hb] at hst
      have hx : x < 18446744073709551616 := by rw [HX.out]; exact hashS_lt _
      have HL := Lib.hid hx
      have HST := Lib.hid hst
      clear hx hst hb k1
      go_wp2_with fail
      go_roundw
      case rel => exact ⟨j + 1, hstep x b, by omega, by go_num, by rw [hstep_form x HL.out], Lib.hid (by rw [HST.out]), trivial⟩
      case measure => simp [intOf]; omega
    · obtain rfl : j = n := by omega
      go_wp2_with fail
      go_ret
      exact ⟨ret_int (by rw [HX.out, List.take_of_length_le (by have := HN.out; omega)]), F1⟩

/-- The eight bytes of a key, the highest ahead. -/
def be8 (k : Nat) : List UInt8 := (List.range 8).map fun i => UInt8.ofNat (k / 2 ^ (56 - 8 * i))
theorem be8_len (k : Nat) : (be8 k).length = 8 := by simp [be8]
theorem be8_get (k j : Nat) (hj : j < (be8 k).length) : (be8 k)[j] = UInt8.ofNat (k / 2 ^ (56 - 8 * j)) := by simp [be8]
def tagS (k : Nat) (l : List UInt8) : Nat := hashS (be8 k ++ l)
def u8v (b : UInt8) : Value := .int .u8 b.toNat
theorem eiU8 : EInfo Tryz.prog 42 5 1 1 := EInfo.mk_ (z := .int .u8 0) (by kernel_rfl) (by kernel_rfl) rfl (by omega)
theorem shr_form (k q : Nat) : ((k : Int) / 2 ^ q % 256) = ((UInt8.ofNat (k / 2 ^ q)).toNat : Int) := by
  have e : ((k : Int) / 2 ^ q) = ((k / 2 ^ q : Nat) : Int) := by simp
  rw [e, UInt8.toNat_ofNat']
  omega
theorem u8v_shr (k q : Nat) : u8v (UInt8.ofNat (k / 2 ^ q)) = .int .u8 ((k : Int) / 2 ^ q % 256) := by rw [shr_form]; rfl
theorem be8_bytes (k : Nat) (w : World) (g : Nat) (h : ∀ j u, ((be8 k).map u8v)[j]? = some u → w.cell? ⟨g, j, none⟩ = some u) : Lib.Bytes w g 0 (bs (be8 k)) := by
  intro i hi
  have hi2 : i < (be8 k).length := by rw [bs_size] at hi; exact hi
  have := h i (u8v (be8 k)[i]) (by simp [hi2])
  rw [Nat.zero_add, this]
  rfl
theorem tag_cat (k : Nat) (t : ByteArray) : (bs (be8 k) ++ t).data.toList = be8 k ++ t.data.toList := by
  simp [bs]
/-- The first j bytes of a key, and zeros. -/
def headV (k j : Nat) : Array Value := (((be8 k).take j).map u8v ++ List.replicate (8 - j) (Value.int .u8 0)).toArray
theorem headV_set (k j : Nat) (hj : j < 8) : (headV k j).setIfInBounds j (u8v (UInt8.ofNat (k / 2 ^ (56 - 8 * j)))) = headV k (j + 1) := by
  have hl := be8_len k
  have e1 : List.replicate (8 - j) (Value.int .u8 0) = Value.int .u8 0 :: List.replicate (8 - (j + 1)) (Value.int .u8 0) := by
    rw [show 8 - j = (8 - (j + 1)) + 1 from by omega, List.replicate_succ]
  have e2 : (((be8 k).take j).map u8v).length = j := by simp [hl]; omega
  unfold headV
  rw [List.setIfInBounds_toArray, e1, List.set_append_right (h := by rw [e2]; exact Nat.le_refl _), e2, Nat.sub_self, List.set_cons_zero, List.take_succ_eq_append_getElem (by rw [hl]; exact hj), be8_get, List.map_append]
  simp
theorem headV_get (k j : Nat) (hj : j < 8) : (headV k j)[j]? = some (.int .u8 0) := by
  have hl := be8_len k
  have e2 : (((be8 k).take j).map u8v).length = j := by simp [hl]; omega
  unfold headV
  rw [List.getElem?_toArray, List.getElem?_append_right (by rw [e2]; exact Nat.le_refl _), e2, Nat.sub_self, List.getElem?_replicate]
  simp; omega
theorem headV_8 (k : Nat) : headV k 8 = ((be8 k).map u8v).toArray := by
  unfold headV
  rw [List.take_of_length_le (by rw [be8_len]; omega)]
  simp
end Go.Proofs.YtonhhnedfjonoaaGreatDoor

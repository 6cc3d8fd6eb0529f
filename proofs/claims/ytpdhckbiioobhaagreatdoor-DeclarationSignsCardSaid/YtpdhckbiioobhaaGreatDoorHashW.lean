/- Walks: the hash of bytes and the tag of a declaration (program and reference). -/
import Derived.Test.YtpdhckbiioobhaaGreatDoorProg
import Derived.Test.YtpdhckbiioobhaaGreatDoorTxtW
import Derived.Lib.ConvBytes
import Derived.Lib.SlBytesRow
namespace Go.Proofs.YtpdhckbiioobhaaGreatDoor
open Go.RowKit

/-- FNV-1a, 64 bits. -/
def hstep (h : Nat) (b : UInt8) : Nat := ((h ^^^ b.toNat) * 1099511628211) % 18446744073709551616
def hashO : Nat := 14695981039346656037
def hashS (l : List UInt8) : Nat := l.foldl hstep hashO
theorem hstep_lt (h : Nat) (b : UInt8) : hstep h b < 18446744073709551616 := by
  unfold hstep
  exact Nat.mod_lt _ (by omega)
theorem hashS_snoc (l : List UInt8) (j : Nat) (hj : j < l.length) : hashS (l.take (j + 1)) = hstep (hashS (l.take j)) l[j] := by
  unfold hashS
  rw [List.take_succ_eq_append_getElem hj, List.foldl_append, List.foldl_cons, List.foldl_nil]
theorem hashO_lt : hashO < 18446744073709551616 := by unfold hashO; omega
theorem hashS_lt (l : List UInt8) : hashS l < 18446744073709551616 := by
  unfold hashS
  rw [← List.reverse_reverse l]
  generalize l.reverse = r
  cases r with
  | nil => rw [List.reverse_nil, List.foldl_nil]; exact hashO_lt
  | cons b r =>
    rw [List.reverse_cons, List.foldl_append, List.foldl_cons, List.foldl_nil]
    exact hstep_lt _ _

theorem xor_u64 (a b : Nat) (ha : a < 18446744073709551616) (hb : b < 18446744073709551616) : bits .xor .u64 (a : Int) (b : Int) = ((a ^^^ b : Nat) : Int) := by
  have hx : a ^^^ b < 2 ^ 64 := Nat.xor_lt_two_pow (by omega) (by omega)
  show IntKind.u64.wrap ((BitVec.ofInt 64 (a : Int) ^^^ BitVec.ofInt 64 (b : Int)).toNat : Int) = _
  have h1 : (BitVec.ofInt 64 (a : Int)).toNat = a := by rw [BitVec.ofInt_natCast, BitVec.toNat_ofNat]; exact Nat.mod_eq_of_lt (by omega)
  have h2 : (BitVec.ofInt 64 (b : Int)).toNat = b := by rw [BitVec.ofInt_natCast, BitVec.toNat_ofNat]; exact Nat.mod_eq_of_lt (by omega)
  rw [BitVec.toNat_xor, h1, h2, IntKind.wrap_u64]
  omega
theorem hstep_form (x : Nat) (hx : x < 18446744073709551616) (b : UInt8) : IntKind.u64.wrap (bits .xor .u64 (x : Int) (IntKind.u64.wrap (b.toNat : Int)) * 1099511628211) = ((hstep x b : Nat) : Int) := by
  have hb := b.toNat_lt
  have e : IntKind.u64.wrap (b.toNat : Int) = (b.toNat : Int) := by rw [IntKind.wrap_u64]; omega
  rw [e, xor_u64 x b.toNat hx (by omega), IntKind.wrap_u64]
  unfold hstep
  omega

set_option maxRecDepth 100000 in
theorem rhash_any (s : ByteArray) (w : World) (hs : s.size ≤ 34359738400) : Calls Tryz.prog 67 #[.string s] w fun e w' => e = .returned (.int .u64 (hashS s.data.toList : Nat)) ∧ w = w' := by
  obtain ⟨n, hn⟩ : ∃ n, n = s.data.toList.length := ⟨_, rfl⟩
  have hsz : s.size = s.data.toList.length := (Array.length_toList).symm
  have HN := Lib.hid hsz
  clear hn hsz
  go_enter Tryz.func67, Tryz.ntmps67
  go_wp2_with fail
  go_loop [3, 4] (fun h i => ∃ (j x : Nat), j ≤ s.size ∧ i = .int .i64 j ∧ h = .int .u64 x ∧ Hid (x = hashS (s.data.toList.take j))) (fun _ i => s.size - (intOf i).toNat)
  case atStart => exact ⟨0, hashO, Nat.zero_le _, rfl, rfl, Lib.hid rfl⟩
  case round =>
    obtain ⟨j, x, hj, rfl, rfl, HX⟩ := hrel
    by_cases hlt : j < s.size
    · have hx : x < 18446744073709551616 := by rw [HX.out]; exact hashS_lt _
      have HL := Lib.hid hx
      clear hx
      go_wp2_with fail
      go_round
      case rel =>
        refine ⟨j + 1, hstep x s[j], by omega, by go_num, ?_, Lib.hid ?_⟩
        · rw [hstep_form x HL.out]
        · rw [hashS_snoc _ j (by have := HN.out; omega), ← HX.out]
          rfl
      case measure => simp [intOf]; omega
    · obtain rfl : j = s.size := by omega
      go_wp2_with fail
      go_ret
      exact ⟨ret_int (by rw [HX.out, List.take_of_length_le (by have := HN.out; omega)]), rfl⟩

set_option maxRecDepth 100000 in
theorem hash_any (t : ByteArray) (w : World) (hs : t.size ≤ 34359738400) : Calls Tryz.prog 66 #[.string t] w fun e w' => e = .returned (.int .u64 (hashS t.data.toList : Nat)) ∧ Fr none w w' := by
  have hcv := Lib.run_convert_string_bytes (P := Tryz.prog) w 9 35 5 t (u := .string) Tryz.underlying9 Tryz.underlying35 Tryz.underlying5
  obtain ⟨w1, hw1⟩ : ∃ w1, w1 = Lib.bytesWorld w 5 t := ⟨_, rfl⟩
  have hcell : ∀ j, j < t.size → w1.cell? ⟨w.heap.size, j, none⟩ = some (.int .u8 (t.data.toList.getD j 0).toNat) := fun j hj => by rw [hw1]; exact Lib.bytesWorld_cell w _ t j hj
  have F1 : Fr none w w1 := by
    rw [hw1]
    exact ⟨rfl, rfl, rfl, by rw [Lib.bytesWorld_size]; omega, fun k hk _ => Lib.bytesWorld_at_old w _ t k hk⟩
  rw [← hw1] at hcv
  generalize grownCap w t.size 0 _ = cp at hcv
  have hsz : t.size = t.data.toList.length := (Array.length_toList).symm
  obtain ⟨n, hn⟩ : ∃ n, n = t.size := ⟨_, rfl⟩
  have hnb : n ≤ 34359738400 := by omega
  rw [← hn] at hcv
  have HC := Lib.hid hcell
  have HN := Lib.hid (hn.trans hsz)
  have HN2 := Lib.hid hn
  clear hcell hsz hn hw1 hs
  go_enter Tryz.func66, Tryz.ntmps66
  go_wp2_with fail
  go_loopw [3, 9] (fun h i wr => ∃ (j x : Nat), j ≤ n ∧ i = .int .i64 j ∧ h = .int .u64 x ∧ Hid (x = hashS (t.data.toList.take j)) ∧ wr = w1) (fun _ i _ => n - (intOf i).toNat)
  case atStart => exact ⟨0, hashO, Nat.zero_le _, rfl, rfl, Lib.hid rfl, rfl⟩
  case round =>
    obtain ⟨j, x, hj, rfl, rfl, HX, rfl⟩ := hrel
    by_cases hlt : j < n
    · have k1 : j < t.data.toList.length := by have := HN.out; omega
      have hst := hashS_snoc _ j k1
      rw [← HX.out] at hst
      obtain ⟨b, hb⟩ : ∃ b : UInt8, b = t.data.toList[j] := ⟨_, rfl⟩
      have d1 : wr.cell? ⟨w.heap.size, j, none⟩ = some (.int .u8 b.toNat) := by
        have hq : t.data.toList.getD j 0 = t.data.toList[j] := by rw [List.getD_eq_getElem?_getD, List.getElem?_eq_getElem k1]; rfl
        rw [HC.out j (by have := HN2.out; omega), hq, hb]
      rw [← hb] at hst
      have hx : x < 18446744073709551616 := by rw [HX.out]; exact hashS_lt _
      have HL := Lib.hid hx
      have HST := Lib.hid hst
      clear hx hst hb k1
      go_wp2_with fail
      go_roundw
      case rel => exact ⟨j + 1, hstep x b, by omega, by go_num, by rw [hstep_form x HL.out], Lib.hid (by rw [HST.out]), trivial⟩
      case measure => simp [intOf]; omega
    · obtain rfl : j = n := by omega
      go_wp2_with fail
      go_ret
      exact ⟨ret_int (by rw [HX.out, List.take_of_length_le (by have := HN.out; omega)]), F1⟩

/-- The eight bytes of a key, the highest ahead. -/
def be8 (k : Nat) : List UInt8 := (List.range 8).map fun i => UInt8.ofNat (k / 2 ^ (56 - 8 * i))
theorem be8_len (k : Nat) : (be8 k).length = 8 := by simp [be8]
theorem be8_get (k j : Nat) (hj : j < (be8 k).length) : (be8 k)[j] = UInt8.ofNat (k / 2 ^ (56 - 8 * j)) := by simp [be8]
def tagS (k : Nat) (l : List UInt8) : Nat := hashS (be8 k ++ l)
def u8v (b : UInt8) : Value := .int .u8 b.toNat
theorem eiU8 : EInfo Tryz.prog 35 5 1 1 := EInfo.mk_ (z := .int .u8 0) (by kernel_rfl) (by kernel_rfl) rfl (by omega)
theorem shr_form (k q : Nat) : ((k : Int) / 2 ^ q % 256) = ((UInt8.ofNat (k / 2 ^ q)).toNat : Int) := by
  have e : ((k : Int) / 2 ^ q) = ((k / 2 ^ q : Nat) : Int) := by simp
  rw [e, UInt8.toNat_ofNat']
  omega
theorem u8v_shr (k q : Nat) : u8v (UInt8.ofNat (k / 2 ^ q)) = .int .u8 ((k : Int) / 2 ^ q % 256) := by rw [shr_form]; rfl
theorem be8_bytes (k : Nat) (w : World) (g : Nat) (h : ∀ j u, ((be8 k).map u8v)[j]? = some u → w.cell? ⟨g, j, none⟩ = some u) : Lib.Bytes w g 0 (bs (be8 k)) := by
  intro i hi
  have hi2 : i < (be8 k).length := by rw [bs_size] at hi; exact hi
  have := h i (u8v (be8 k)[i]) (by simp [hi2])
  rw [Nat.zero_add, this]
  rfl
theorem tag_cat (k : Nat) (t : ByteArray) : (bs (be8 k) ++ t).data.toList = be8 k ++ t.data.toList := by
  simp [bs]
set_option maxRecDepth 100000 in
theorem rtag_any (k : Nat) (hk : k < 18446744073709551616) (t : ByteArray) (w : World) (hs : t.size ≤ 34359738390) : Calls Tryz.prog 69 #[.int .u64 k, .string t] w fun e w' => e = .returned (.int .u64 (tagS k t.data.toList : Nat)) ∧ Fr none w w' := by
  have HK := Lib.hid hk
  clear hk
  go_enter Tryz.func69, Tryz.ntmps69
  go_wp2_with fail
  go_loopw [5, 6] (fun v i wr => ∃ (j : Nat) (q : Int) (A : Option Addr) (c : Nat), j ≤ 8 ∧ q = 56 - 8 * j ∧ i = .int .i64 q ∧ v = .slice A j c ∧ Fr none w wr ∧ wr.ownsRow w.heap.size 5 1 (.slice A j c) j (((be8 k).take j).map u8v)) (fun _ i _ => (intOf i + 8).toNat)
  case atStart => exact ⟨0, 56, none, 0, Nat.zero_le _, by omega, rfl, rfl, Fr.refl _ _, World.ownsRow_nil _ _ _ _⟩
  case round =>
    obtain ⟨j, q, A, c, hj, hq, rfl, rfl, F, own⟩ := hrel
    have hz := F.size
    by_cases hlt : j < 8
    · obtain ⟨q, rfl⟩ := Int.eq_ofNat_of_zero_le (show 0 ≤ q by omega)
      have hq2 : q = 56 - 8 * j := by omega
      have hq3 : q ≤ 56 := by omega
      have hst : (be8 k).take (j + 1) = (be8 k).take j ++ [UInt8.ofNat (k / 2 ^ q)] := by
        rw [List.take_succ_eq_append_getElem (by rw [be8_len]; exact hlt), be8_get, ← hq2]
      have HQ := Lib.hid hq2
      have HQ1 := Lib.hid hq
      have HST := Lib.hid hst
      clear hst hq hq2
      go_wp2_with (at_builtin; refine app_lit eiU8 rfl _ _ rfl w.heap.size A j c _ rfl own 1 [.int .u8 ((k : Int) / 2 ^ q % 256)] _ _ rfl (by simp) rfl (by simp [Value.oneCell']) (by omega) (by unfold maxLen; omega) (by omega) ?_; intro A' c' w' own' F' bl')
      have og := own_blk_ge own
      go_roundw
      case rel =>
        refine ⟨j + 1, (q : Int) - 8, A', c', by omega, by have := HQ1.out; omega, rfl, rfl, F.own F' og, ?_⟩
        rw [HST.out, List.map_append, List.map_cons, List.map_nil, u8v_shr]
        exact own'
      case measure => simp [intOf]; omega
    · obtain rfl : j = 8 := by omega
      have e : q = -8 := by omega
      subst e
      rw [List.take_of_length_le (by rw [be8_len]; omega)] at own
      obtain ⟨g, hA⟩ : ∃ g, A = some ⟨g, 0, none⟩ := by
        rcases own.2 with ⟨_, h0⟩ | ⟨g, cap, cur, hv, _⟩
        · omega
        · injection hv with hv
          exact ⟨g, hv⟩
      subst hA
      have hcv := Lib.run_convert_whole (P := Tryz.prog) wr 35 5 9 Tryz.underlying35 Tryz.underlying5 Tryz.underlying9 g 0 (bs (be8 k)) (be8_bytes k wr g (fun j u hu => by
        have := own.cells (g := g) rfl j u hu
        rw [Addr.add_lit] at this
        simpa using this)) c
      have h8 : (bs (be8 k)).size = 8 := by rw [bs_size, be8_len]
      rw [h8] at hcv
      obtain ⟨H, hH⟩ : ∃ H, H = bs (be8 k) := ⟨_, rfl⟩
      rw [← hH] at hcv h8
      have hcat := bs_list (be8 k)
      rw [← hH] at hcat
      have HCat := Lib.hid hcat
      have h8' : H.size ≤ 8 := by omega
      have hsum : (H ++ t).size ≤ 34359738400 := by rw [ByteArray.size_append]; omega
      have HSum := Lib.hid hsum
      clear hH own hcat h8 hsum hq
      go_wp2_with fail
      refine (rhash_any _ _ HSum.out).mono ?_
      rintro e w2 ⟨rfl, rfl⟩
      go_wp2_with fail
      go_ret
      exact ⟨ret_int (by rw [HCat.out]; rfl), F⟩

/-- The first j bytes of a key, and zeros. -/
def headV (k j : Nat) : Array Value := (((be8 k).take j).map u8v ++ List.replicate (8 - j) (Value.int .u8 0)).toArray
theorem headV_set (k j : Nat) (hj : j < 8) : (headV k j).setIfInBounds j (u8v (UInt8.ofNat (k / 2 ^ (56 - 8 * j)))) = headV k (j + 1) := by
  have hl := be8_len k
  have e1 : List.replicate (8 - j) (Value.int .u8 0) = Value.int .u8 0 :: List.replicate (8 - (j + 1)) (Value.int .u8 0) := by
    rw [show 8 - j = (8 - (j + 1)) + 1 from by omega, List.replicate_succ]
  have e2 : (((be8 k).take j).map u8v).length = j := by simp [hl]; omega
  unfold headV
  rw [List.setIfInBounds_toArray, e1, List.set_append_right (h := by rw [e2]; exact Nat.le_refl _), e2, Nat.sub_self, List.set_cons_zero, List.take_succ_eq_append_getElem (by rw [hl]; exact hj), be8_get, List.map_append]
  simp
theorem headV_get (k j : Nat) (hj : j < 8) : (headV k j)[j]? = some (.int .u8 0) := by
  have hl := be8_len k
  have e2 : (((be8 k).take j).map u8v).length = j := by simp [hl]; omega
  unfold headV
  rw [List.getElem?_toArray, List.getElem?_append_right (by rw [e2]; exact Nat.le_refl _), e2, Nat.sub_self, List.getElem?_replicate]
  simp; omega
theorem headV_8 (k : Nat) : headV k 8 = ((be8 k).map u8v).toArray := by
  unfold headV
  rw [List.take_of_length_le (by rw [be8_len]; omega)]
  simp
set_option maxRecDepth 100000 in
theorem tag_any (k : Nat) (hk : k < 18446744073709551616) (t : ByteArray) (w : World) (hs : t.size ≤ 34359738390) : Calls Tryz.prog 68 #[.int .u64 k, .string t] w fun e w' => e = .returned (.int .u64 (tagS k t.data.toList : Nat)) ∧ Fr none w w' := by
  have HK := Lib.hid hk
  clear hk
  go_enter Tryz.func68, Tryz.ntmps68
  go_wp2_with fail
  generalize hW : w.alloc _ = w1
  have F1 : Fr none w w1 := hW ▸ (Fr.refl _ _).alloc _
  have B1 : Hid (w1.heap[w.heap.size]? = some (.cells (headV k 0) 133 (0, 0))) := by rw [← hW]; exact blk_new _ _
  clear hW
  go_loopw [7] (fun i wr => ∃ j : Nat, j ≤ 8 ∧ i = .int .i64 j ∧ Fr none w wr ∧ Hid (wr.heap[w.heap.size]? = some (.cells (headV k j) 133 (0, 0)))) (fun i _ => 8 - (intOf i).toNat)
  case atStart => exact ⟨0, by omega, rfl, F1, B1⟩
  case round =>
    clear F1 B1
    obtain ⟨j, hj, rfl, F, HB⟩ := hrel
    by_cases hlt : j < 8
    · have hst := headV_set k j hlt
      rw [u8v_shr] at hst
      have hc0 : wr.cell? ⟨w.heap.size, j, none⟩ = some (.int .u8 0) := (blk_cell HB.out j).trans (headV_get k j hlt)
      have HST := Lib.hid hst
      have hz := blk_free HB.out j
      have hb := blk_lt HB.out
      clear hst
      go_wp2_with fail
      go_roundw
      case rel =>
        refine ⟨j + 1, by omega, by go_num, F.setNew (by simp) _, Lib.hid ?_⟩
        rw [← HST.out]
        exact blk_set HB.out j _
      case measure => simp [intOf]; omega
    · obtain rfl : j = 8 := by omega
      have hcv := Lib.run_convert_whole (P := Tryz.prog) wr 35 5 9 Tryz.underlying35 Tryz.underlying5 Tryz.underlying9 w.heap.size 0 (bs (be8 k)) (be8_bytes k wr w.heap.size (fun j u hu => by
        rw [blk_cell HB.out j, headV_8]
        simpa using hu)) 8
      have h8 : (bs (be8 k)).size = 8 := by rw [bs_size, be8_len]
      rw [h8] at hcv
      obtain ⟨H, hH⟩ : ∃ H, H = bs (be8 k) := ⟨_, rfl⟩
      rw [← hH] at hcv h8
      have hcat := bs_list (be8 k)
      rw [← hH] at hcat
      have HCat := Lib.hid hcat
      have h8' : H.size ≤ 8 := by omega
      have hsum : (H ++ t).size ≤ 34359738400 := by rw [ByteArray.size_append]; omega
      have HSum := Lib.hid hsum
      have R := blk_cell HB.out
      clear hH hcat h8 hsum
      go_wp2_with fail
      refine (hash_any _ _ HSum.out).mono ?_
      rintro e w2 ⟨rfl, F2⟩
      go_wp2_with fail
      go_ret
      exact ⟨ret_int (by rw [HCat.out]; rfl), F.pure F2⟩
end Go.Proofs.YtpdhckbiioobhaaGreatDoor

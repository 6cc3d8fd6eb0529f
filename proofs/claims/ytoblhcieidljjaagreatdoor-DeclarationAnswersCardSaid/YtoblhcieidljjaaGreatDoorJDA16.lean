/- Some texts of this claim, joined: contracts of the functions that it reaches, and plain laws. -/
import Derived.Test.YtoblhcieidljjaaGreatDoorProg
import Derived.Test.YtoblhcieidljjaaGreatDoorJDA4
import Derived.Lib.ConvBytes
import Derived.Lib.SlBytesRow
import Derived.Test.YtoblhcieidljjaaGreatDoorJDA7
import Derived.Deep.RegionHeld3
import Derived.Test.YtoblhcieidljjaaGreatDoorJDA9
import Derived.Test.YtoblhcieidljjaaGreatDoorJDA5
import Derived.Test.YtoblhcieidljjaaGreatDoorJDA15
import Derived.Test.YtoblhcieidljjaaGreatDoorJDA13

set_option linter.unusedSimpArgs false
set_option linter.unusedVariables false
/- Walks: the hash of bytes and the tag of a declaration (program and reference). -/
namespace Go.Proofs.YtoblhcieidljjaaGreatDoor
open Go.RowKit

/-- FNV-1a, 64 bits. -/
def hstep (h : Nat) (b : UInt8) : Nat := ((h ^^^ b.toNat) * 1099511628211) % 18446744073709551616
def hashO : Nat := 14695981039346656037
def hashS (l : List UInt8) : Nat := l.foldl hstep hashO
theorem hstep_lt (h : Nat) (b : UInt8) : hstep h b < 18446744073709551616 := by
  unfold hstep
  exact Nat.mod_lt _ (by omega)
theorem hashS_snoc (l : List UInt8) (j : Nat) (hj : j < l.length) : hashS (l.take (j + 1)) = hstep (hashS (l.take j)) l[j] := by
  unfold hashS
  rw [List.take_succ_eq_append_getElem hj, List.foldl_append, List.foldl_cons, List.foldl_nil]
theorem hashO_lt : hashO < 18446744073709551616 := by unfold hashO; omega
theorem hashS_lt (l : List UInt8) : hashS l < 18446744073709551616 := by
  unfold hashS
  rw [← List.reverse_reverse l]
  generalize l.reverse = r
  cases r with
  | nil => rw [List.reverse_nil, List.foldl_nil]; exact hashO_lt
  | cons b r =>
    rw [List.reverse_cons, List.foldl_append, List.foldl_cons, List.foldl_nil]
    exact hstep_lt _ _

theorem xor_u64 (a b : Nat) (ha : a < 18446744073709551616) (hb : b < 18446744073709551616) : bits .xor .u64 (a : Int) (b : Int) = ((a ^^^ b : Nat) : Int) := by
  have hx : a ^^^ b < 2 ^ 64 := Nat.xor_lt_two_pow (by omega) (by omega)
  show IntKind.u64.wrap ((BitVec.ofInt 64 (a : Int) ^^^ BitVec.ofInt 64 (b : Int)).toNat : Int) = _
  have h1 : (BitVec.ofInt 64 (a : Int)).toNat = a := by rw [BitVec.ofInt_natCast, BitVec.toNat_ofNat]; exact Nat.mod_eq_of_lt (by omega)
  have h2 : (BitVec.ofInt 64 (b : Int)).toNat = b := by rw [BitVec.ofInt_natCast, BitVec.toNat_ofNat]; exact Nat.mod_eq_of_lt (by omega)
  rw [BitVec.toNat_xor, h1, h2, IntKind.wrap_u64]
  omega
theorem hstep_form (x : Nat) (hx : x < 18446744073709551616) (b : UInt8) : IntKind.u64.wrap (bits .xor .u64 (x : Int) (IntKind.u64.wrap (b.toNat : Int)) * 1099511628211) = ((hstep x b : Nat) : Int) := by
  have hb := b.toNat_lt
  have e : IntKind.u64.wrap (b.toNat : Int) = (b.toNat : Int) := by rw [IntKind.wrap_u64]; omega
  rw [e, xor_u64 x b.toNat hx (by omega), IntKind.wrap_u64]
  unfold hstep
  omega

set_option maxRecDepth 100000 in
theorem rhash_any (s : ByteArray) (w : World) (hs : s.size ≤ 34359738400) : Calls Tryz.prog 38 #[.string s] w fun e w' => e = .returned (.int .u64 (hashS s.data.toList : Nat)) ∧ w = w' := by
  obtain ⟨n, hn⟩ : ∃ n, n = s.data.toList.length := ⟨_, rfl⟩
  have hsz : s.size = s.data.toList.length := (Array.length_toList).symm
  have HN := Lib.hid hsz
  clear hn hsz
  go_enter Tryz.func38, Tryz.ntmps38
  go_wp2_with fail
  go_loop [3, 4] (fun h i => ∃ (j x : Nat), j ≤ s.size ∧ i = .int .i64 j ∧ h = .int .u64 x ∧ Hid (x = hashS (s.data.toList.take j))) (fun _ i => s.size - (intOf i).toNat)
  case atStart => exact ⟨0, hashO, Nat.zero_le _, rfl, rfl, Lib.hid rfl⟩
  case round =>
    obtain ⟨j, x, hj, rfl, rfl, HX⟩ := hrel
    by_cases hlt : j < s.size
    · have hx : x < 18446744073709551616 := by rw [HX.out]; exact hashS_lt _
      have HL := Lib.hid hx
      clear hx
      go_wp2_with fail
      go_round
      case rel =>
        refine ⟨j + 1, hstep x s[j], by omega, by go_num, ?_, Lib.hid ?_⟩
        · rw [hstep_form x HL.out]
        · rw [hashS_snoc _ j (by have := HN.out; omega), ← HX.out]
          rfl
      case measure => simp [intOf]; omega
    · obtain rfl : j = s.size := by omega
      go_wp2_with fail
      go_ret
      exact ⟨ret_int (by rw [HX.out, List.take_of_length_le (by have := HN.out; omega)]), rfl⟩

set_option maxRecDepth 100000 in
theorem hash_any (t : ByteArray) (w : World) (hs : t.size ≤ 34359738400) : Calls Tryz.prog 37 #[.string t] w fun e w' => e = .returned (.int .u64 (hashS t.data.toList : Nat)) ∧ Fr none w w' := by
  have hcv := Lib.run_convert_string_bytes (P := Tryz.prog) w 9 35 5 t (u := .string) Tryz.underlying9 Tryz.underlying35 Tryz.underlying5
  obtain ⟨w1, hw1⟩ : ∃ w1, w1 = Lib.bytesWorld w 5 t := ⟨_, rfl⟩
  have hcell : ∀ j, j < t.size → w1.cell? ⟨w.heap.size, j, none⟩ = some (.int .u8 (t.data.toList.getD j 0).toNat) := fun j hj => by rw [hw1]; exact Lib.bytesWorld_cell w _ t j hj
  have F1 : Fr none w w1 := by
    rw [hw1]
    exact ⟨rfl, rfl, rfl, by rw [Lib.bytesWorld_size]; omega, fun k hk _ => Lib.bytesWorld_at_old w _ t k hk⟩
  rw [← hw1] at hcv
  generalize grownCap w t.size 0 _ = cp at hcv
  have hsz : t.size = t.data.toList.length := (Array.length_toList).symm
  obtain ⟨n, hn⟩ : ∃ n, n = t.size := ⟨_, rfl⟩
  have hnb : n ≤ 34359738400 := by omega
  rw [← hn] at hcv
  have HC := Lib.hid hcell
  have HN := Lib.hid (hn.trans hsz)
  have HN2 := Lib.hid hn
  clear hcell hsz hn hw1 hs
  go_enter Tryz.func37, Tryz.ntmps37
  go_wp2_with fail
  go_loopw [3, 9] (fun h i wr => ∃ (j x : Nat), j ≤ n ∧ i = .int .i64 j ∧ h = .int .u64 x ∧ Hid (x = hashS (t.data.toList.take j)) ∧ wr = w1) (fun _ i _ => n - (intOf i).toNat)
  case atStart => exact ⟨0, hashO, Nat.zero_le _, rfl, rfl, Lib.hid rfl, rfl⟩
  case round =>
    obtain ⟨j, x, hj, rfl, rfl, HX, rfl⟩ := hrel
    by_cases hlt : j < n
    · have k1 : j < t.data.toList.length := by have := HN.out; omega
      have hst := hashS_snoc _ j k1
      rw [← HX.out] at hst
      obtain ⟨b, hb⟩ : ∃ b : UInt8, b = t.data.toList[j] := ⟨_, rfl⟩
      have d1 : wr.cell? ⟨w.heap.size, j, none⟩ = some (.int .u8 b.toNat) := by
        have hq : t.data.toList.getD j 0 = t.data.toList[j] := by rw [List.getD_eq_getElem?_getD, List.getElem?_eq_getElem k1]; rfl
        rw [HC.out j (by have := HN2.out; omega), hq, hb]
      rw [← hb] at hst
      have hx : x < 18446744073709551616 := by rw [HX.out]; exact hashS_lt _
      have HL := Lib.hid hx
      have HST := Lib.hid hst
      clear hx hst hb k1
      go_wp2_with fail
      go_roundw
      case rel => exact ⟨j + 1, hstep x b, by omega, by go_num, by rw [hstep_form x HL.out], Lib.hid (by rw [HST.out]), trivial⟩
      case measure => simp [intOf]; omega
    · obtain rfl : j = n := by omega
      go_wp2_with fail
      go_ret
      exact ⟨ret_int (by rw [HX.out, List.take_of_length_le (by have := HN.out; omega)]), F1⟩

/-- The eight bytes of a key, the highest ahead. -/
def be8 (k : Nat) : List UInt8 := (List.range 8).map fun i => UInt8.ofNat (k / 2 ^ (56 - 8 * i))
theorem be8_len (k : Nat) : (be8 k).length = 8 := by simp [be8]
theorem be8_get (k j : Nat) (hj : j < (be8 k).length) : (be8 k)[j] = UInt8.ofNat (k / 2 ^ (56 - 8 * j)) := by simp [be8]
def tagS (k : Nat) (l : List UInt8) : Nat := hashS (be8 k ++ l)
def u8v (b : UInt8) : Value := .int .u8 b.toNat
theorem eiU8 : EInfo Tryz.prog 35 5 1 1 := EInfo.mk_ (z := .int .u8 0) (by kernel_rfl) (by kernel_rfl) rfl (by omega)
theorem shr_form (k q : Nat) : ((k : Int) / 2 ^ q % 256) = ((UInt8.ofNat (k / 2 ^ q)).toNat : Int) := by
  have e : ((k : Int) / 2 ^ q) = ((k / 2 ^ q : Nat) : Int) := by simp
  rw [e, UInt8.toNat_ofNat']
  omega
theorem u8v_shr (k q : Nat) : u8v (UInt8.ofNat (k / 2 ^ q)) = .int .u8 ((k : Int) / 2 ^ q % 256) := by rw [shr_form]; rfl
theorem be8_bytes (k : Nat) (w : World) (g : Nat) (h : ∀ j u, ((be8 k).map u8v)[j]? = some u → w.cell? ⟨g, j, none⟩ = some u) : Lib.Bytes w g 0 (bs (be8 k)) := by
  intro i hi
  have hi2 : i < (be8 k).length := by rw [bs_size] at hi; exact hi
  have := h i (u8v (be8 k)[i]) (by simp [hi2])
  rw [Nat.zero_add, this]
  rfl
theorem tag_cat (k : Nat) (t : ByteArray) : (bs (be8 k) ++ t).data.toList = be8 k ++ t.data.toList := by
  simp [bs]
set_option maxRecDepth 100000 in
theorem rtag_any (k : Nat) (hk : k < 18446744073709551616) (t : ByteArray) (w : World) (hs : t.size ≤ 34359738390) : Calls Tryz.prog 40 #[.int .u64 k, .string t] w fun e w' => e = .returned (.int .u64 (tagS k t.data.toList : Nat)) ∧ Fr none w w' := by
  have HK := Lib.hid hk
  clear hk
  go_enter Tryz.func40, Tryz.ntmps40
  go_wp2_with fail
  go_loopw [5, 6] (fun v i wr => ∃ (j : Nat) (q : Int) (A : Option Addr) (c : Nat), j ≤ 8 ∧ q = 56 - 8 * j ∧ i = .int .i64 q ∧ v = .slice A j c ∧ Fr none w wr ∧ wr.ownsRow w.heap.size 5 1 (.slice A j c) j (((be8 k).take j).map u8v)) (fun _ i _ => (intOf i + 8).toNat)
  case atStart => exact ⟨0, 56, none, 0, Nat.zero_le _, by omega, rfl, rfl, Fr.refl _ _, World.ownsRow_nil _ _ _ _⟩
  case round =>
    obtain ⟨j, q, A, c, hj, hq, rfl, rfl, F, own⟩ := hrel
    have hz := F.size
    by_cases hlt : j < 8
    · obtain ⟨q, rfl⟩ := Int.eq_ofNat_of_zero_le (show 0 ≤ q by omega)
      have hq2 : q = 56 - 8 * j := by omega
      have hq3 : q ≤ 56 := by omega
      have hst : (be8 k).take (j + 1) = (be8 k).take j ++ [UInt8.ofNat (k / 2 ^ q)] := by
        rw [List.take_succ_eq_append_getElem (by rw [be8_len]; exact hlt), be8_get, ← hq2]
      have HQ := Lib.hid hq2
      have HQ1 := Lib.hid hq
      have HST := Lib.hid hst
      clear hst hq hq2
      go_wp2_with (at_builtin; refine app_lit eiU8 rfl _ _ rfl w.heap.size A j c _ rfl own 1 [.int .u8 ((k : Int) / 2 ^ q % 256)] _ _ rfl (by simp) rfl (by simp [Value.oneCell']) (by omega) (by unfold maxLen; omega) (by omega) ?_; intro A' c' w' own' F' bl')
      have og := own_blk_ge own
      go_roundw
      case rel =>
        refine ⟨j + 1, (q : Int) - 8, A', c', by omega, by have := HQ1.out; omega, rfl, rfl, F.own F' og, ?_⟩
        rw [HST.out, List.map_append, List.map_cons, List.map_nil, u8v_shr]
        exact own'
      case measure => simp [intOf]; omega
    · obtain rfl : j = 8 := by omega
      have e : q = -8 := by omega
      subst e
      rw [List.take_of_length_le (by rw [be8_len]; omega)] at own
      obtain ⟨g, hA⟩ : ∃ g, A = some ⟨g, 0, none⟩ := by
        rcases own.2 with ⟨_, h0⟩ | ⟨g, cap, cur, hv, _⟩
        · omega
        · injection hv with hv
          exact ⟨g, hv⟩
      subst hA
      have hcv := Lib.run_convert_whole (P := Tryz.prog) wr 35 5 9 Tryz.underlying35 Tryz.underlying5 Tryz.underlying9 g 0 (bs (be8 k)) (be8_bytes k wr g (fun j u hu => by
        have := own.cells (g := g) rfl j u hu
        rw [Addr.add_lit] at this
        simpa using this)) c
      have h8 : (bs (be8 k)).size = 8 := by rw [bs_size, be8_len]
      rw [h8] at hcv
      obtain ⟨H, hH⟩ : ∃ H, H = bs (be8 k) := ⟨_, rfl⟩
      rw [← hH] at hcv h8
      have hcat := bs_list (be8 k)
      rw [← hH] at hcat
      have HCat := Lib.hid hcat
      have h8' : H.size ≤ 8 := by omega
      have hsum : (H ++ t).size ≤ 34359738400 := by rw [ByteArray.size_append]; omega
      have HSum := Lib.hid hsum
      clear hH own hcat h8 hsum hq
      go_wp2_with fail
      refine (rhash_any _ _ HSum.out).mono ?_
      rintro e w2 ⟨rfl, rfl⟩
      go_wp2_with fail
      go_ret
      exact ⟨ret_int (by rw [HCat.out]; rfl), F⟩

/-- The first j bytes of a key, and zeros. -/
def headV (k j : Nat) : Array Value := (((be8 k).take j).map u8v ++ List.replicate (8 - j) (Value.int .u8 0)).toArray
theorem headV_set (k j : Nat) (hj : j < 8) : (headV k j).setIfInBounds j (u8v (UInt8.ofNat (k / 2 ^ (56 - 8 * j)))) = headV k (j + 1) := by
  have hl := be8_len k
  have e1 : List.replicate (8 - j) (Value.int .u8 0) = Value.int .u8 0 :: List.replicate (8 - (j + 1)) (Value.int .u8 0) := by
    rw [show 8 - j = (8 - (j + 1)) + 1 from by omega, List.replicate_succ]
  have e2 : (((be8 k).take j).map u8v).length = j := by simp [hl]; omega
  unfold headV
  rw [List.setIfInBounds_toArray, e1, List.set_append_right (h := by rw [e2]; exact Nat.le_refl _), e2, Nat.sub_self, List.set_cons_zero, List.take_succ_eq_append_getElem (by rw [hl]; exact hj), be8_get, List.map_append]
  simp
theorem headV_get (k j : Nat) (hj : j < 8) : (headV k j)[j]? = some (.int .u8 0) := by
  have hl := be8_len k
  have e2 : (((be8 k).take j).map u8v).length = j := by simp [hl]; omega
  unfold headV
  rw [List.getElem?_toArray, List.getElem?_append_right (by rw [e2]; exact Nat.le_refl _), e2, Nat.sub_self, List.getElem?_replicate]
  simp; omega
theorem headV_8 (k : Nat) : headV k 8 = ((be8 k).map u8v).toArray := by
  unfold headV
  rw [List.take_of_length_le (by rw [be8_len]; omega)]
  simp
set_option maxRecDepth 100000 in
theorem tag_any (k : Nat) (hk : k < 18446744073709551616) (t : ByteArray) (w : World) (hs : t.size ≤ 34359738390) : Calls Tryz.prog 39 #[.int .u64 k, .string t] w fun e w' => e = .returned (.int .u64 (tagS k t.data.toList : Nat)) ∧ Fr none w w' := by
  have HK := Lib.hid hk
  clear hk
  go_enter Tryz.func39, Tryz.ntmps39
  go_wp2_with fail
  generalize hW : w.alloc _ = w1
  have F1 : Fr none w w1 := hW ▸ (Fr.refl _ _).alloc _
  have B1 : Hid (w1.heap[w.heap.size]? = some (.cells (headV k 0) 118 (0, 0))) := by rw [← hW]; exact blk_new _ _
  clear hW
  go_loopw [7] (fun i wr => ∃ j : Nat, j ≤ 8 ∧ i = .int .i64 j ∧ Fr none w wr ∧ Hid (wr.heap[w.heap.size]? = some (.cells (headV k j) 118 (0, 0)))) (fun i _ => 8 - (intOf i).toNat)
  case atStart => exact ⟨0, by omega, rfl, F1, B1⟩
  case round =>
    clear F1 B1
    obtain ⟨j, hj, rfl, F, HB⟩ := hrel
    by_cases hlt : j < 8
    · have hst := headV_set k j hlt
      rw [u8v_shr] at hst
      have hc0 : wr.cell? ⟨w.heap.size, j, none⟩ = some (.int .u8 0) := (blk_cell HB.out j).trans (headV_get k j hlt)
      have HST := Lib.hid hst
      have hz := blk_free HB.out j
      have hb := blk_lt HB.out
      clear hst
      go_wp2_with fail
      go_roundw
      case rel =>
        refine ⟨j + 1, by omega, by go_num, F.setNew (by simp) _, Lib.hid ?_⟩
        rw [← HST.out]
        exact blk_set HB.out j _
      case measure => simp [intOf]; omega
    · obtain rfl : j = 8 := by omega
      have hcv := Lib.run_convert_whole (P := Tryz.prog) wr 35 5 9 Tryz.underlying35 Tryz.underlying5 Tryz.underlying9 w.heap.size 0 (bs (be8 k)) (be8_bytes k wr w.heap.size (fun j u hu => by
        rw [blk_cell HB.out j, headV_8]
        simpa using hu)) 8
      have h8 : (bs (be8 k)).size = 8 := by rw [bs_size, be8_len]
      rw [h8] at hcv
      obtain ⟨H, hH⟩ : ∃ H, H = bs (be8 k) := ⟨_, rfl⟩
      rw [← hH] at hcv h8
      have hcat := bs_list (be8 k)
      rw [← hH] at hcat
      have HCat := Lib.hid hcat
      have h8' : H.size ≤ 8 := by omega
      have hsum : (H ++ t).size ≤ 34359738400 := by rw [ByteArray.size_append]; omega
      have HSum := Lib.hid hsum
      have R := blk_cell HB.out
      clear hH hcat h8 hsum
      go_wp2_with fail
      refine (hash_any _ _ HSum.out).mono ?_
      rintro e w2 ⟨rfl, F2⟩
      go_wp2_with fail
      go_ret
      exact ⟨ret_int (by rw [HCat.out]; rfl), F.pure F2⟩
end Go.Proofs.YtoblhcieidljjaaGreatDoor

/- Walks: Plain of declarations (program and reference). By gen_decl.py. -/
namespace Go.Proofs.YtoblhcieidljjaaGreatDoor
open Go.RowKit

/-- A declaration. -/
structure De where
  node : Int
  seq : Int
  tr : Tr
  tag : Nat
/-- The struct value v reads as the declaration. -/
def DeD (w : World) (D : Nat → Prop) (v : Value) (d : De) : Prop :=
  ∃ th vn vi, v = .agg #[.int .i64 d.node, .int .i64 d.seq, .int .i64 th, vn, vi, .int .u64 (d.tag : Int)] ∧ TrD w D (.agg #[.int .i64 th, vn, vi]) d.tr ∧ Wi d.node ∧ Wi d.seq ∧ d.tag < 18446744073709551616
theorem DeD.keep {w w' : World} {D D' : Nat → Prop} (hD : ∀ k, D k → D' k ∧ w'.heap[k]? = w.heap[k]?) {v : Value} {d : De} (h : DeD w D v d) : DeD w' D' v d := by
  obtain ⟨th, vn, vi, e, h1, h2⟩ := h
  exact ⟨th, vn, vi, e, TrD.keep hD _ _ h1, h2⟩
theorem DeD.shape {w : World} {D : Nat → Prop} {v : Value} {d : De} (h : DeD w D v d) :
    ∃ (th : Int) (A1 : Option Addr) (n1 c1 : Nat) (A2 : Option Addr) (n2 c2 : Nat), v = .agg #[.int .i64 d.node, .int .i64 d.seq, .int .i64 th, .slice A1 n1 c1, .slice A2 n2 c2, .int .u64 (d.tag : Int)] ∧ TrD w D (.agg #[.int .i64 th, .slice A1 n1 c1, .slice A2 n2 c2]) d.tr ∧ Wi d.node ∧ Wi d.seq ∧ d.tag < 18446744073709551616 := by
  obtain ⟨th, vn, vi, e, h1, h2⟩ := h
  obtain ⟨th', A1, n1, c1, A2, n2, c2, e2⟩ := h1.shape
  simp only [Value.agg.injEq, Array.mk.injEq, List.cons.injEq, and_true] at e2
  obtain ⟨e3, rfl, rfl⟩ := e2
  exact ⟨th, A1, n1, c1, A2, n2, c2, e, h1, h2⟩
/-- The first error of a declaration, apart from its tag. -/
def plainE (d : De) : Int := if d.node < 0 ∨ 10 ≤ d.node then 5 else if d.seq < 1 ∨ 30 < d.seq then 1 else if validE d.tr ≠ 0 then validE d.tr else if 3 < d.tr.dep ∨ 40 < d.tr.size then 3 else 0

set_option maxRecDepth 100000 in
theorem rplain_any (d : De) (v : Value) (w : World) (r : Option Nat) (hs : d.tr.size ≤ 1073741000) (h : DeD w (Dm w r) v d) :
    Calls Tryz.prog 20 #[v] w fun e w' => e = .returned (.int .i64 (plainE d)) ∧ Fr none w w' := by
  obtain ⟨th, A1, n1, c1, A2, n2, c2, rfl, hT, hn, hq, ht⟩ := h.shape
  obtain ⟨nd, sq, t, tg⟩ := d
  simp only at hs hT hn hq ht ⊢
  have F1 := (Fr.refl none w).alloc (.cells #[.int .i64 nd, .int .i64 sq, .int .i64 th, .slice A1 n1 c1, .slice A2 n2 c2, .int .u64 tg] 45)
  have h1 : TrR _ r _ t := TrD.keep (fr_dm (F1.mono (r := r))) t _ hT
  have E : Hid (plainE ⟨nd, sq, t, tg⟩ = if nd < 0 ∨ 10 ≤ nd then 5 else if sq < 1 ∨ 30 < sq then 1 else if validE t ≠ 0 then validE t else if 3 < t.dep ∨ 40 < t.size then 3 else 0) := Lib.hid rfl
  by_cases c1 : nd < 0 ∨ 10 ≤ nd
  · have HF : Hid (plainE ⟨nd, sq, t, tg⟩ = 5) := by unfold Hid; rw [E.out, if_pos c1]
    clear E
    rcases c1 with c1 | c1
    · go_enter Tryz.func20, Tryz.ntmps20
      go_wp2_with fail
      go_ret
      exact ⟨ret_int (by rw [HF.out]), F1⟩
    · have c0 : 0 ≤ nd := by omega
      go_enter Tryz.func20, Tryz.ntmps20
      go_wp2_with fail
      go_ret
      exact ⟨ret_int (by rw [HF.out]), F1⟩
  · have d1 : 0 ≤ nd := by omega
    have d2 : nd < 10 := by omega
    by_cases c2 : sq < 1 ∨ 30 < sq
    · have HF : Hid (plainE ⟨nd, sq, t, tg⟩ = 1) := by unfold Hid; rw [E.out, if_neg c1, if_pos c2]
      clear E c1
      rcases c2 with c2 | c2
      · go_enter Tryz.func20, Tryz.ntmps20
        go_wp2_with fail
        go_ret
        exact ⟨ret_int (by rw [HF.out]), F1⟩
      · have c0 : 1 ≤ sq := by omega
        go_enter Tryz.func20, Tryz.ntmps20
        go_wp2_with fail
        go_ret
        exact ⟨ret_int (by rw [HF.out]), F1⟩
    · have d3 : 1 ≤ sq := by omega
      have d4 : sq ≤ 30 := by omega
      by_cases c3 : validE t = 0
      · have E2 : Hid (plainE ⟨nd, sq, t, tg⟩ = if 3 < t.dep ∨ 40 < t.size then 3 else 0) := by unfold Hid; rw [E.out, if_neg c1, if_neg c2, if_neg (by rw [c3]; simp)]
        have v0 : (validE t != 0) = false := by rw [bne_eq_false_iff_eq]; exact c3
        have HV := Lib.hid c3
        have hdep := (valid_check c3).2.2
        have hsz := (valid_check c3).2.1
        clear E c1 c2 c3
        obtain ⟨dp, hdp⟩ : ∃ x, x = t.dep := ⟨_, rfl⟩
        obtain ⟨zs, hzs⟩ : ∃ x, x = t.size := ⟨_, rfl⟩
        rw [← hdp, ← hzs] at E2
        rw [← hdp] at hdep
        rw [← hzs] at hsz
        have HD := Lib.hid hdp
        have HZ := Lib.hid hzs
        clear hdp hzs
        by_cases e1 : 3 < dp
        · have HF : Hid (plainE ⟨nd, sq, t, tg⟩ = 3) := by unfold Hid; rw [E2.out, if_pos (.inl e1)]
          clear E2
          go_enter Tryz.func20, Tryz.ntmps20
          go_wp2_with fail
          generalize hW : w.alloc _ = w1 at *
          have B1 : Hid (w1.heap[w.heap.size]? = some (.cells #[.int .i64 nd, .int .i64 sq, .int .i64 th, .slice A1 n1 c1, .slice A2 n2 c2, .int .u64 tg] 45 (0, 0))) := by rw [← hW]; exact blk_new _ _
          clear hW
          refine (rvalidT_any t _ _ r hs h1).mono ?_
          rintro e w2 ⟨rfl, F2⟩
          rw [HV.out]
          have B2 : Hid _ := blk_fr B1.out F2 (by simp)
          have R2 := blk_cell B2.out
          go_wp2_with fail
          refine (rdepth_any t.dep t _ _ r (Nat.le_refl _) (by have := HD.out; omega) (h1.fr (F2.mono (r := r)))).mono ?_
          rintro e w3 ⟨rfl, F3⟩
          rw [← HD.out]
          have R3 := blk_cell (blk_fr B2.out F3 (by simp))
          clear R2
          go_wp2_with fail
          go_ret
          exact ⟨ret_int (by rw [HF.out]), (F1.pure F2).pure F3⟩
        · by_cases e2 : 40 < zs
          · have HF : Hid (plainE ⟨nd, sq, t, tg⟩ = 3) := by unfold Hid; rw [E2.out, if_pos (.inr e2)]
            clear E2
            go_enter Tryz.func20, Tryz.ntmps20
            go_wp2_with fail
            generalize hW : w.alloc _ = w1 at *
            have B1 : Hid (w1.heap[w.heap.size]? = some (.cells #[.int .i64 nd, .int .i64 sq, .int .i64 th, .slice A1 n1 c1, .slice A2 n2 c2, .int .u64 tg] 45 (0, 0))) := by rw [← hW]; exact blk_new _ _
            clear hW
            refine (rvalidT_any t _ _ r hs h1).mono ?_
            rintro e w2 ⟨rfl, F2⟩
            rw [HV.out]
            have B2 : Hid _ := blk_fr B1.out F2 (by simp)
            have R2 := blk_cell B2.out
            go_wp2_with fail
            refine (rdepth_any t.dep t _ _ r (Nat.le_refl _) (by have := HD.out; omega) (h1.fr (F2.mono (r := r)))).mono ?_
            rintro e w3 ⟨rfl, F3⟩
            rw [← HD.out]
            have R3 := blk_cell (blk_fr B2.out F3 (by simp))
            clear R2
            go_wp2_with fail
            refine (rsize_any t.dep t _ _ r (Nat.le_refl _) (by omega) ((h1.fr (F2.mono (r := r))).fr (F3.mono (r := r)))).mono ?_
            rintro e w4 ⟨rfl, F4⟩
            rw [← HZ.out]
            go_wp2_with fail
            go_ret
            exact ⟨ret_int (by rw [HF.out]), ((F1.pure F2).pure F3).pure F4⟩
          · have HF : Hid (plainE ⟨nd, sq, t, tg⟩ = 0) := by unfold Hid; rw [E2.out, if_neg (by omega)]
            clear E2
            go_enter Tryz.func20, Tryz.ntmps20
            go_wp2_with fail
            generalize hW : w.alloc _ = w1 at *
            have B1 : Hid (w1.heap[w.heap.size]? = some (.cells #[.int .i64 nd, .int .i64 sq, .int .i64 th, .slice A1 n1 c1, .slice A2 n2 c2, .int .u64 tg] 45 (0, 0))) := by rw [← hW]; exact blk_new _ _
            clear hW
            refine (rvalidT_any t _ _ r hs h1).mono ?_
            rintro e w2 ⟨rfl, F2⟩
            rw [HV.out]
            have B2 : Hid _ := blk_fr B1.out F2 (by simp)
            have R2 := blk_cell B2.out
            go_wp2_with fail
            refine (rdepth_any t.dep t _ _ r (Nat.le_refl _) (by have := HD.out; omega) (h1.fr (F2.mono (r := r)))).mono ?_
            rintro e w3 ⟨rfl, F3⟩
            rw [← HD.out]
            have R3 := blk_cell (blk_fr B2.out F3 (by simp))
            clear R2
            go_wp2_with fail
            refine (rsize_any t.dep t _ _ r (Nat.le_refl _) (by omega) ((h1.fr (F2.mono (r := r))).fr (F3.mono (r := r)))).mono ?_
            rintro e w4 ⟨rfl, F4⟩
            rw [← HZ.out]
            go_wp2_with fail
            go_ret
            exact ⟨ret_int (by rw [HF.out]), ((F1.pure F2).pure F3).pure F4⟩
      · have HF : Hid (plainE ⟨nd, sq, t, tg⟩ = validE t) := by unfold Hid; rw [E.out, if_neg c1, if_neg c2, if_pos c3]
        have v0 : (validE t != 0) = true := by rw [bne_iff_ne]; exact c3
        clear E c1 c2 c3
        go_enter Tryz.func20, Tryz.ntmps20
        go_wp2_with fail
        generalize hW : w.alloc _ = w1 at *
        refine (rvalidT_any t _ _ r hs h1).mono ?_
        rintro e w2 ⟨rfl, F2⟩
        go_wp2_with fail
        go_ret
        exact ⟨ret_int (by rw [HF.out]), F1.pure F2⟩

set_option maxRecDepth 100000 in
theorem plain_any (d : De) (v : Value) (w : World) (r : Option Nat) (hs : d.tr.size ≤ 1073741000) (h : DeD w (Dm w r) v d) :
    Calls Tryz.prog 19 #[v] w fun e w' => e = .returned (.int .i64 (plainE d)) ∧ Fr none w w' := by
  obtain ⟨th, A1, n1, c1, A2, n2, c2, rfl, hT, hn, hq, ht⟩ := h.shape
  obtain ⟨nd, sq, t, tg⟩ := d
  simp only at hs hT hn hq ht ⊢
  have F1 := (Fr.refl none w).alloc (.cells #[.int .i64 nd, .int .i64 sq, .int .i64 th, .slice A1 n1 c1, .slice A2 n2 c2, .int .u64 tg] 45)
  have h1 : TrR _ r _ t := TrD.keep (fr_dm (F1.mono (r := r))) t _ hT
  have E : Hid (plainE ⟨nd, sq, t, tg⟩ = if nd < 0 ∨ 10 ≤ nd then 5 else if sq < 1 ∨ 30 < sq then 1 else if validE t ≠ 0 then validE t else if 3 < t.dep ∨ 40 < t.size then 3 else 0) := Lib.hid rfl
  by_cases c1 : nd < 0 ∨ 10 ≤ nd
  · have HF : Hid (plainE ⟨nd, sq, t, tg⟩ = 5) := by unfold Hid; rw [E.out, if_pos c1]
    clear E
    rcases c1 with c1 | c1
    · go_enter Tryz.func19, Tryz.ntmps19
      go_wp2_with fail
      go_ret
      exact ⟨ret_int (by rw [HF.out]), F1⟩
    · have c0 : 0 ≤ nd := by omega
      go_enter Tryz.func19, Tryz.ntmps19
      go_wp2_with fail
      go_ret
      exact ⟨ret_int (by rw [HF.out]), F1⟩
  · have d1 : 0 ≤ nd := by omega
    have d2 : nd < 10 := by omega
    by_cases c2 : sq < 1 ∨ 30 < sq
    · have HF : Hid (plainE ⟨nd, sq, t, tg⟩ = 1) := by unfold Hid; rw [E.out, if_neg c1, if_pos c2]
      clear E c1
      rcases c2 with c2 | c2
      · go_enter Tryz.func19, Tryz.ntmps19
        go_wp2_with fail
        go_ret
        exact ⟨ret_int (by rw [HF.out]), F1⟩
      · have c0 : 1 ≤ sq := by omega
        go_enter Tryz.func19, Tryz.ntmps19
        go_wp2_with fail
        go_ret
        exact ⟨ret_int (by rw [HF.out]), F1⟩
    · have d3 : 1 ≤ sq := by omega
      have d4 : sq ≤ 30 := by omega
      by_cases c3 : validE t = 0
      · have E2 : Hid (plainE ⟨nd, sq, t, tg⟩ = if 3 < t.dep ∨ 40 < t.size then 3 else 0) := by unfold Hid; rw [E.out, if_neg c1, if_neg c2, if_neg (by rw [c3]; simp)]
        have v0 : (validE t != 0) = false := by rw [bne_eq_false_iff_eq]; exact c3
        have HV := Lib.hid c3
        have hdep := (valid_check c3).2.2
        have hsz := (valid_check c3).2.1
        clear E c1 c2 c3
        obtain ⟨dp, hdp⟩ : ∃ x, x = t.dep := ⟨_, rfl⟩
        obtain ⟨zs, hzs⟩ : ∃ x, x = t.size := ⟨_, rfl⟩
        rw [← hdp, ← hzs] at E2
        rw [← hdp] at hdep
        rw [← hzs] at hsz
        have HD := Lib.hid hdp
        have HZ := Lib.hid hzs
        clear hdp hzs
        by_cases e1 : 3 < dp
        · have HF : Hid (plainE ⟨nd, sq, t, tg⟩ = 3) := by unfold Hid; rw [E2.out, if_pos (.inl e1)]
          clear E2
          go_enter Tryz.func19, Tryz.ntmps19
          go_wp2_with fail
          generalize hW : w.alloc _ = w1 at *
          have B1 : Hid (w1.heap[w.heap.size]? = some (.cells #[.int .i64 nd, .int .i64 sq, .int .i64 th, .slice A1 n1 c1, .slice A2 n2 c2, .int .u64 tg] 45 (0, 0))) := by rw [← hW]; exact blk_new _ _
          clear hW
          refine (validT_any t _ _ r hs h1).mono ?_
          rintro e w2 ⟨rfl, F2⟩
          rw [HV.out]
          have B2 : Hid _ := blk_fr B1.out F2 (by simp)
          have R2 := blk_cell B2.out
          go_wp2_with fail
          refine (depth_any t.dep t _ _ r (Nat.le_refl _) (by have := HD.out; omega) (h1.fr (F2.mono (r := r)))).mono ?_
          rintro e w3 ⟨rfl, F3⟩
          rw [← HD.out]
          have R3 := blk_cell (blk_fr B2.out F3 (by simp))
          clear R2
          go_wp2_with fail
          go_ret
          exact ⟨ret_int (by rw [HF.out]), (F1.pure F2).pure F3⟩
        · by_cases e2 : 40 < zs
          · have HF : Hid (plainE ⟨nd, sq, t, tg⟩ = 3) := by unfold Hid; rw [E2.out, if_pos (.inr e2)]
            clear E2
            go_enter Tryz.func19, Tryz.ntmps19
            go_wp2_with fail
            generalize hW : w.alloc _ = w1 at *
            have B1 : Hid (w1.heap[w.heap.size]? = some (.cells #[.int .i64 nd, .int .i64 sq, .int .i64 th, .slice A1 n1 c1, .slice A2 n2 c2, .int .u64 tg] 45 (0, 0))) := by rw [← hW]; exact blk_new _ _
            clear hW
            refine (validT_any t _ _ r hs h1).mono ?_
            rintro e w2 ⟨rfl, F2⟩
            rw [HV.out]
            have B2 : Hid _ := blk_fr B1.out F2 (by simp)
            have R2 := blk_cell B2.out
            go_wp2_with fail
            refine (depth_any t.dep t _ _ r (Nat.le_refl _) (by have := HD.out; omega) (h1.fr (F2.mono (r := r)))).mono ?_
            rintro e w3 ⟨rfl, F3⟩
            rw [← HD.out]
            have R3 := blk_cell (blk_fr B2.out F3 (by simp))
            clear R2
            go_wp2_with fail
            refine (tsize_any t.dep t _ _ r (Nat.le_refl _) (by omega) ((h1.fr (F2.mono (r := r))).fr (F3.mono (r := r)))).mono ?_
            rintro e w4 ⟨rfl, F4⟩
            rw [← HZ.out]
            go_wp2_with fail
            go_ret
            exact ⟨ret_int (by rw [HF.out]), ((F1.pure F2).pure F3).pure F4⟩
          · have HF : Hid (plainE ⟨nd, sq, t, tg⟩ = 0) := by unfold Hid; rw [E2.out, if_neg (by omega)]
            clear E2
            go_enter Tryz.func19, Tryz.ntmps19
            go_wp2_with fail
            generalize hW : w.alloc _ = w1 at *
            have B1 : Hid (w1.heap[w.heap.size]? = some (.cells #[.int .i64 nd, .int .i64 sq, .int .i64 th, .slice A1 n1 c1, .slice A2 n2 c2, .int .u64 tg] 45 (0, 0))) := by rw [← hW]; exact blk_new _ _
            clear hW
            refine (validT_any t _ _ r hs h1).mono ?_
            rintro e w2 ⟨rfl, F2⟩
            rw [HV.out]
            have B2 : Hid _ := blk_fr B1.out F2 (by simp)
            have R2 := blk_cell B2.out
            go_wp2_with fail
            refine (depth_any t.dep t _ _ r (Nat.le_refl _) (by have := HD.out; omega) (h1.fr (F2.mono (r := r)))).mono ?_
            rintro e w3 ⟨rfl, F3⟩
            rw [← HD.out]
            have R3 := blk_cell (blk_fr B2.out F3 (by simp))
            clear R2
            go_wp2_with fail
            refine (tsize_any t.dep t _ _ r (Nat.le_refl _) (by omega) ((h1.fr (F2.mono (r := r))).fr (F3.mono (r := r)))).mono ?_
            rintro e w4 ⟨rfl, F4⟩
            rw [← HZ.out]
            go_wp2_with fail
            go_ret
            exact ⟨ret_int (by rw [HF.out]), ((F1.pure F2).pure F3).pure F4⟩
      · have HF : Hid (plainE ⟨nd, sq, t, tg⟩ = validE t) := by unfold Hid; rw [E.out, if_neg c1, if_neg c2, if_pos c3]
        have v0 : (validE t != 0) = true := by rw [bne_iff_ne]; exact c3
        clear E c1 c2 c3
        go_enter Tryz.func19, Tryz.ntmps19
        go_wp2_with fail
        generalize hW : w.alloc _ = w1 at *
        refine (validT_any t _ _ r hs h1).mono ?_
        rintro e w2 ⟨rfl, F2⟩
        go_wp2_with fail
        go_ret
        exact ⟨ret_int (by rw [HF.out]), F1.pure F2⟩
end Go.Proofs.YtoblhcieidljjaaGreatDoor

/- Walks: Bytes of declarations (program and reference). -/
namespace Go.Proofs.YtoblhcieidljjaaGreatDoor
open Go.RowKit

/-- The bytes of a declaration. -/
def bytesS (d : De) : List UInt8 := if plainE d = 0 then [100, 32] ++ Lib.itoa d.node ++ [32] ++ Lib.itoa d.seq ++ [32] ++ txT d.tr else []
theorem plain_parts {d : De} (h : plainE d = 0) : (0 ≤ d.node ∧ d.node < 10) ∧ (1 ≤ d.seq ∧ d.seq ≤ 30) ∧ validE d.tr = 0 ∧ d.tr.dep ≤ 3 ∧ d.tr.size ≤ 40 := by
  unfold plainE at h
  by_cases c1 : d.node < 0 ∨ 10 ≤ d.node
  · rw [if_pos c1] at h; cases h
  rw [if_neg c1] at h
  by_cases c2 : d.seq < 1 ∨ 30 < d.seq
  · rw [if_pos c2] at h; cases h
  rw [if_neg c2] at h
  by_cases c3 : validE d.tr ≠ 0
  · rw [if_pos c3] at h; exact absurd h c3
  rw [if_neg c3] at h
  by_cases c4 : 3 < d.tr.dep ∨ 40 < d.tr.size
  · rw [if_pos c4] at h; cases h
  exact ⟨by omega, by omega, by simpa using c3, by omega, by omega⟩
theorem itoa_sm (n : Int) (h0 : 0 ≤ n) (h1 : n < 100) (w : World) : Calls Tryz.prog 61 #[.int .i64 n] w fun e w' => e = .returned (.string (bs (Lib.itoa n))) ∧ w = w' := by
  obtain ⟨k, rfl⟩ := Int.eq_ofNat_of_zero_le h0
  refine (Tryz.strconv_Itoa_small k (by omega) w).mono ?_
  rintro e w' ⟨rfl, rfl⟩
  rw [Lib.itoa_nonneg]
  exact ⟨rfl, rfl⟩
theorem itoa_at (n : Int) (S : ByteArray) (hS : Hid (S = bs (Lib.itoa n))) (h0 : 0 ≤ n) (h1 : n < 100) (w : World) : Calls Tryz.prog 61 #[.int .i64 n] w fun e w' => e = .returned (.string S) ∧ w = w' := by
  rw [hS.out]; exact itoa_sm n h0 h1 w
/-- The sum of two strings, under a name. -/
theorem str_add (a b : ByteArray) (ha : a.size ≤ 1073741824) (hb : b.size ≤ 34359738368) : ∃ X : ByteArray, Hid (X = a ++ b) ∧ X.size = a.size + b.size ∧ ∀ w : World, (Op.stringOp .add a b).run Tryz.prog w = .ok (.string X) w :=
  ⟨a ++ b, rfl, ByteArray.size_append, fun w => run_string_add_sum w a b (by omega)⟩
theorem bytes_len (d : De) : (bytesS d).length ≤ 2500 := by
  unfold bytesS
  by_cases h : plainE d = 0
  · rw [if_pos h]
    obtain ⟨h1, h2, h3, h4, h5⟩ := plain_parts h
    have e1 := itoa_len4 (k := d.node) ⟨by omega, by omega⟩
    have e2 := itoa_len4 (k := d.seq) ⟨by omega, by omega⟩
    have e3 := valid_len h3
    simp only [List.length_append, List.length_cons, List.length_nil]
    omega
  · rw [if_neg h]; simp

set_option maxRecDepth 100000 in
set_option maxHeartbeats 1000000 in
theorem bytes_any (d : De) (v : Value) (w : World) (r : Option Nat) (hs : d.tr.size ≤ 1073741000) (h : DeD w (Dm w r) v d) (hT : Tab w) :
    Calls Tryz.prog 21 #[v] w (TxtE (bytesS d) 2500 w) := by
  have hlen := bytes_len d
  obtain ⟨th, A1, n1, c1, A2, n2, c2, rfl, hTr, hn, hq, ht⟩ := h.shape
  have hD := h
  have F1 := (Fr.refl none w).alloc (.cells #[.int .i64 d.node, .int .i64 d.seq, .int .i64 th, .slice A1 n1 c1, .slice A2 n2 c2, .int .u64 d.tag] 45)
  have h1 : DeD _ (Dm _ r) _ d := h.keep (fr_dm (F1.mono (r := r)))
  have t1 : TrR _ r _ d.tr := TrD.keep (fr_dm (F1.mono (r := r))) _ _ hTr
  have T1 := hT.fr F1
  by_cases hp : plainE d = 0
  · have p0 : (plainE d != 0) = false := by rw [bne_eq_false_iff_eq]; exact hp
    obtain ⟨⟨k1, k2⟩, ⟨k3, k4⟩, hv, _, hz⟩ := plain_parts hp
    have HE : Hid (bs (bytesS d) = ⟨#[100, 32]⟩ ++ bs (Lib.itoa d.node) ++ ⟨#[32]⟩ ++ bs (Lib.itoa d.seq) ++ ⟨#[32]⟩ ++ bs (textT d.tr)) := by
      unfold Hid bytesS textT
      rw [if_pos hp, if_pos hv]
      apply ByteArray.ext
      simp [bs]
    obtain ⟨N, hN⟩ : ∃ N, N = bs (Lib.itoa d.node) := ⟨_, rfl⟩
    obtain ⟨M, hM⟩ : ∃ M, M = bs (Lib.itoa d.seq) := ⟨_, rfl⟩
    have z1 : N.size ≤ 21 := by rw [hN, bs_size]; exact itoa_len hn
    have z2 : M.size ≤ 21 := by rw [hM, bs_size]; exact itoa_len hq
    rw [← hN, ← hM] at HE
    have HN := Lib.hid hN
    have HM := Lib.hid hM
    have s2 : (⟨#[100, 32]⟩ : ByteArray).size = 2 := rfl
    have s1 : (⟨#[32]⟩ : ByteArray).size = 1 := rfl
    obtain ⟨X1, HX1, y1, k1'⟩ := str_add ⟨#[100, 32]⟩ N (by omega) (by omega)
    obtain ⟨X2, HX2, y2, k2'⟩ := str_add X1 ⟨#[32]⟩ (by omega) (by omega)
    obtain ⟨X3, HX3, y3, k3'⟩ := str_add X2 M (by omega) (by omega)
    obtain ⟨X4, HX4, y4, k4'⟩ := str_add X3 ⟨#[32]⟩ (by omega) (by omega)
    have y5 : X4.size ≤ 60 := by omega
    rw [← HX1.out, ← HX2.out, ← HX3.out, ← HX4.out] at HE
    clear hN hM y1 y2 y3 y4 s1 s2
    have HL := Lib.hid hlen
    clear hp hv hlen hTr hD h
    go_enter Tryz.func21, Tryz.ntmps21
    go_wp2_with fail
    generalize hW : w.alloc _ = w1 at *
    have B1 : Hid (w1.heap[w.heap.size]? = some (.cells #[.int .i64 d.node, .int .i64 d.seq, .int .i64 th, .slice A1 n1 c1, .slice A2 n2 c2, .int .u64 d.tag] 45 (0, 0))) := by rw [← hW]; exact blk_new _ _
    clear hW
    refine (plain_any d _ _ r hs h1).mono ?_
    rintro e w2 ⟨rfl, F2⟩
    have F12 := F1.pure F2
    have B2 : Hid _ := blk_fr B1.out F2 (by simp)
    have T2 := T1.fr F2
    have t2 := t1.fr (F2.mono (r := r))
    have q0 := blk_cell B2.out 0
    have q1 := blk_cell B2.out 1
    have q2 := blk_cell B2.out 2
    have q3 := blk_cell B2.out 3
    have q4 := blk_cell B2.out 4
    simp only [List.getElem?_toArray, List.getElem?_cons_zero, List.getElem?_cons_succ] at q0 q1 q2 q3 q4
    clear B1 F1 F2 h1 t1 T1
    go_wp2_with fail
    go_region_held3 (fun w' => w'.cell? ⟨w.heap.size, 0, none⟩ = some (.int .i64 d.node) ∧ w'.cell? ⟨w.heap.size, 1, none⟩ = some (.int .i64 d.seq) ∧ w'.cell? ⟨w.heap.size, 2, none⟩ = some (.int .i64 th) ∧ w'.cell? ⟨w.heap.size, 3, none⟩ = some (.slice A1 n1 c1) ∧ w'.cell? ⟨w.heap.size, 4, none⟩ = some (.slice A2 n2 c2) ∧ Fr none w2 w') (first | exact ⟨q0, q1, q2, q3, q4, (Fr.refl _ _).drew⟩ | exact ⟨F3.keep q0 (by simp), F3.keep q1 (by simp), F3.keep q2 (by simp), F3.keep q3 (by simp), F3.keep q4 (by simp), F3⟩)
      (first | (go_at_call 61; refine (itoa_at d.node N HN (by omega) (by omega) _).mono ?_; rintro e w' ⟨rfl, rfl⟩) | (go_at_call 61; refine (itoa_at d.seq M HM (by omega) (by omega) _).mono ?_; rintro e w' ⟨rfl, rfl⟩) | (go_at_call 77; refine (text3_any d.tr _ _ r (by omega) (t2.fr ((Fr.refl _ _).drew.mono (r := r))) (T2.fr (Fr.refl _ _).drew)).mono ?_; rintro e w3 ⟨S, rfl, hS, hSs, F3'⟩; have F3 : Fr none w2 w3 := (Fr.refl _ _).drew.pure F3'; have HS := Lib.hid hS; clear hS F3'; obtain ⟨X5, HX5, y6, k5'⟩ := str_add X4 S (by omega) (by omega); clear y6))
    go_wp2_with fail
    go_ret
    have hfin : X5 = bs (bytesS d) := by rw [HE.out, HX5.out, HS.out]
    exact ⟨_, rfl, hfin, by rw [hfin, bs_size]; exact HL.out, F12.pure F3⟩
  · have p0 : (plainE d != 0) = true := by rw [bne_iff_ne]; exact hp
    have HE : Hid (bs (bytesS d) = ⟨#[]⟩) := by unfold Hid bytesS; rw [if_neg hp]; rfl
    clear hp hlen hTr hD h
    go_enter Tryz.func21, Tryz.ntmps21
    go_wp2_with fail
    generalize hW : w.alloc _ = w1 at *
    clear hW
    refine (plain_any d _ _ r hs h1).mono ?_
    rintro e w2 ⟨rfl, F2⟩
    go_wp2_with fail
    go_ret
    exact ⟨_, rfl, HE.out.symm, by decide, F1.pure F2⟩
set_option maxRecDepth 100000 in
set_option maxHeartbeats 1000000 in
theorem rbytes_any (d : De) (v : Value) (w : World) (r : Option Nat) (hs : d.tr.size ≤ 1073741000) (h : DeD w (Dm w r) v d) (hT : Tab w) :
    Calls Tryz.prog 22 #[v] w (TxtE (bytesS d) 2500 w) := by
  have hlen := bytes_len d
  obtain ⟨th, A1, n1, c1, A2, n2, c2, rfl, hTr, hn, hq, ht⟩ := h.shape
  have hD := h
  have F1 := (Fr.refl none w).alloc (.cells #[.int .i64 d.node, .int .i64 d.seq, .int .i64 th, .slice A1 n1 c1, .slice A2 n2 c2, .int .u64 d.tag] 45)
  have h1 : DeD _ (Dm _ r) _ d := h.keep (fr_dm (F1.mono (r := r)))
  have t1 : TrR _ r _ d.tr := TrD.keep (fr_dm (F1.mono (r := r))) _ _ hTr
  have T1 := hT.fr F1
  by_cases hp : plainE d = 0
  · have p0 : (plainE d != 0) = false := by rw [bne_eq_false_iff_eq]; exact hp
    obtain ⟨⟨k1, k2⟩, ⟨k3, k4⟩, hv, _, hz⟩ := plain_parts hp
    have HE : Hid (bs (bytesS d) = ⟨#[100, 32]⟩ ++ bs (Lib.itoa d.node) ++ ⟨#[32]⟩ ++ bs (Lib.itoa d.seq) ++ ⟨#[32]⟩ ++ bs (textT d.tr)) := by
      unfold Hid bytesS textT
      rw [if_pos hp, if_pos hv]
      apply ByteArray.ext
      simp [bs]
    obtain ⟨N, hN⟩ : ∃ N, N = bs (Lib.itoa d.node) := ⟨_, rfl⟩
    obtain ⟨M, hM⟩ : ∃ M, M = bs (Lib.itoa d.seq) := ⟨_, rfl⟩
    have z1 : N.size ≤ 21 := by rw [hN, bs_size]; exact itoa_len hn
    have z2 : M.size ≤ 21 := by rw [hM, bs_size]; exact itoa_len hq
    rw [← hN, ← hM] at HE
    have HN := Lib.hid hN
    have HM := Lib.hid hM
    have s2 : (⟨#[100, 32]⟩ : ByteArray).size = 2 := rfl
    have s1 : (⟨#[32]⟩ : ByteArray).size = 1 := rfl
    obtain ⟨X1, HX1, y1, k1'⟩ := str_add ⟨#[100, 32]⟩ N (by omega) (by omega)
    obtain ⟨X2, HX2, y2, k2'⟩ := str_add X1 ⟨#[32]⟩ (by omega) (by omega)
    obtain ⟨X3, HX3, y3, k3'⟩ := str_add X2 M (by omega) (by omega)
    obtain ⟨X4, HX4, y4, k4'⟩ := str_add X3 ⟨#[32]⟩ (by omega) (by omega)
    have y5 : X4.size ≤ 60 := by omega
    rw [← HX1.out, ← HX2.out, ← HX3.out, ← HX4.out] at HE
    clear hN hM y1 y2 y3 y4 s1 s2
    have HL := Lib.hid hlen
    clear hp hv hlen hTr hD h
    go_enter Tryz.func22, Tryz.ntmps22
    go_wp2_with fail
    generalize hW : w.alloc _ = w1 at *
    have B1 : Hid (w1.heap[w.heap.size]? = some (.cells #[.int .i64 d.node, .int .i64 d.seq, .int .i64 th, .slice A1 n1 c1, .slice A2 n2 c2, .int .u64 d.tag] 45 (0, 0))) := by rw [← hW]; exact blk_new _ _
    clear hW
    refine (rplain_any d _ _ r hs h1).mono ?_
    rintro e w2 ⟨rfl, F2⟩
    have F12 := F1.pure F2
    have B2 : Hid _ := blk_fr B1.out F2 (by simp)
    have T2 := T1.fr F2
    have t2 := t1.fr (F2.mono (r := r))
    have q0 := blk_cell B2.out 0
    have q1 := blk_cell B2.out 1
    have q2 := blk_cell B2.out 2
    have q3 := blk_cell B2.out 3
    have q4 := blk_cell B2.out 4
    simp only [List.getElem?_toArray, List.getElem?_cons_zero, List.getElem?_cons_succ] at q0 q1 q2 q3 q4
    clear B1 F1 F2 h1 t1 T1
    go_wp2_with fail
    go_region_held3 (fun w' => w'.cell? ⟨w.heap.size, 0, none⟩ = some (.int .i64 d.node) ∧ w'.cell? ⟨w.heap.size, 1, none⟩ = some (.int .i64 d.seq) ∧ w'.cell? ⟨w.heap.size, 2, none⟩ = some (.int .i64 th) ∧ w'.cell? ⟨w.heap.size, 3, none⟩ = some (.slice A1 n1 c1) ∧ w'.cell? ⟨w.heap.size, 4, none⟩ = some (.slice A2 n2 c2) ∧ Fr none w2 w') (first | exact ⟨q0, q1, q2, q3, q4, (Fr.refl _ _).drew⟩ | exact ⟨F3.keep q0 (by simp), F3.keep q1 (by simp), F3.keep q2 (by simp), F3.keep q3 (by simp), F3.keep q4 (by simp), F3⟩)
      (first | (go_at_call 61; refine (itoa_at d.node N HN (by omega) (by omega) _).mono ?_; rintro e w' ⟨rfl, rfl⟩) | (go_at_call 61; refine (itoa_at d.seq M HM (by omega) (by omega) _).mono ?_; rintro e w' ⟨rfl, rfl⟩) | (go_at_call 62; refine (rtext3_any d.tr _ _ r (by omega) (t2.fr ((Fr.refl _ _).drew.mono (r := r))) (T2.fr (Fr.refl _ _).drew)).mono ?_; rintro e w3 ⟨S, rfl, hS, hSs, F3'⟩; have F3 : Fr none w2 w3 := (Fr.refl _ _).drew.pure F3'; have HS := Lib.hid hS; clear hS F3'; obtain ⟨X5, HX5, y6, k5'⟩ := str_add X4 S (by omega) (by omega); clear y6))
    go_wp2_with fail
    go_ret
    have hfin : X5 = bs (bytesS d) := by rw [HE.out, HX5.out, HS.out]
    exact ⟨_, rfl, hfin, by rw [hfin, bs_size]; exact HL.out, F12.pure F3⟩
  · have p0 : (plainE d != 0) = true := by rw [bne_iff_ne]; exact hp
    have HE : Hid (bs (bytesS d) = ⟨#[]⟩) := by unfold Hid bytesS; rw [if_neg hp]; rfl
    clear hp hlen hTr hD h
    go_enter Tryz.func22, Tryz.ntmps22
    go_wp2_with fail
    generalize hW : w.alloc _ = w1 at *
    clear hW
    refine (rplain_any d _ _ r hs h1).mono ?_
    rintro e w2 ⟨rfl, F2⟩
    go_wp2_with fail
    go_ret
    exact ⟨_, rfl, HE.out.symm, by decide, F1.pure F2⟩
end Go.Proofs.YtoblhcieidljjaaGreatDoor

/- Walks: Sign of declarations (program and reference), copied. -/
namespace Go.Proofs.YtoblhcieidljjaaGreatDoor
open Go.RowKit

/-- A declaration's block. -/
def DB (w : World) (b : Nat) (x0 x1 x2 x3 x4 x5 : Value) : Prop := w.heap[b]? = some (.cells #[x0, x1, x2, x3, x4, x5] 45 (0, 0))
theorem DB.fr {w w' : World} {b : Nat} {x0 x1 x2 x3 x4 x5 : Value} {r : Option Nat} (h : DB w b x0 x1 x2 x3 x4 x5) (f : Fr r w w') (hr : r ≠ some b) : DB w' b x0 x1 x2 x3 x4 x5 := blk_fr h f hr
theorem DB.cell {w : World} {b : Nat} {x0 x1 x2 x3 x4 x5 : Value} (h : DB w b x0 x1 x2 x3 x4 x5) (i : Nat) : w.cell? ⟨b, i, none⟩ = (#[x0, x1, x2, x3, x4, x5] : Array Value)[i]? := blk_cell h i
theorem DB.free {w : World} {b : Nat} {x0 x1 x2 x3 x4 x5 : Value} (h : DB w b x0 x1 x2 x3 x4 x5) (i : Nat) : w.frozen? ⟨b, i, none⟩ = false := blk_free h i
theorem DB.set5 {w : World} {b : Nat} {x0 x1 x2 x3 x4 x5 : Value} (h : DB w b x0 x1 x2 x3 x4 x5) (u : Value) : DB (w.setCell ⟨b, 5, none⟩ u) b x0 x1 x2 x3 x4 u := blk_set h 5 u
theorem fr_fill6 (w : World) (b : Nat) (x0 x1 x2 x3 x4 x5 : Value) : Fr (some b) w ((((((w.setCell ⟨b, 0, none⟩ x0).setCell ⟨b, 1, none⟩ x1).setCell ⟨b, 2, none⟩ x2).setCell ⟨b, 3, none⟩ x3).setCell ⟨b, 4, none⟩ x4).setCell ⟨b, 5, none⟩ x5) :=
  Fr.setRow (p := ⟨b, 5, none⟩) (Fr.setRow (p := ⟨b, 4, none⟩) (Fr.setRow (p := ⟨b, 3, none⟩) (Fr.setRow (p := ⟨b, 2, none⟩) (Fr.setRow (p := ⟨b, 1, none⟩) (Fr.set1 w ⟨b, 0, none⟩ x0) rfl x1) rfl x2) rfl x3) rfl x4) rfl x5

set_option maxRecDepth 100000 in
set_option maxHeartbeats 1000000 in
theorem rsign_any (k : Nat) (hk : k < 18446744073709551616) (nd sq : Int) (t : Tr) (th : Int) (A1 : Option Addr) (n1 c1 : Nat) (A2 : Option Addr) (n2 c2 : Nat) (w : World) (r : Option Nat) (hn : Wi nd) (hq : Wi sq) (hs : t.size ≤ 1073741000) (h : TrR w r (.agg #[.int .i64 th, .slice A1 n1 c1, .slice A2 n2 c2]) t) (hT : Tab w) (hp : plainE ⟨nd, sq, t, 0⟩ = 0) :
    Calls Tryz.prog 30 #[.int .u64 k, .int .i64 nd, .int .i64 sq, .agg #[.int .i64 th, .slice A1 n1 c1, .slice A2 n2 c2]] w fun e w' =>
      e = .returned (.tuple #[.agg #[.int .i64 nd, .int .i64 sq, .int .i64 th, .slice A1 n1 c1, .slice A2 n2 c2, .int .u64 (tagS k (bytesS ⟨nd, sq, t, 0⟩) : Nat)], .int .i64 0]) ∧ Fr none w w' := by
  have HK := Lib.hid hk
  have HP := Lib.hid hp
  have hb0 : (bytesS ⟨nd, sq, t, 0⟩).length ≤ 2500 := bytes_len _
  obtain ⟨L, hL⟩ : ∃ L, L = bytesS ⟨nd, sq, t, 0⟩ := ⟨_, rfl⟩
  rw [← hL] at hb0 ⊢
  have HL := Lib.hid hL
  clear hk hp hL
  go_enter Tryz.func30, Tryz.ntmps30
  go_wp2_with fail
  generalize hW : ((w.alloc _).alloc _).alloc _ = w1
  have hz : w1.heap.size = w.heap.size + 3 := by rw [← hW]; simp
  have F1 : Fr none w w1 := hW ▸ (((Fr.refl none w).alloc _).alloc _).alloc _
  have b8 : DB w1 (w.heap.size + 1) (.int .i64 0) (.int .i64 0) (.int .i64 0) (.slice none 0 0) (.slice none 0 0) (.int .u64 0) := by
    rw [← hW]
    exact (Below.heap_alloc _ _ _ (by simp)).trans (blk_new_at (by simp) _)
  have b10 : DB w1 (w.heap.size + 1 + 1) (.int .i64 nd) (.int .i64 sq) (.int .i64 th) (.slice A1 n1 c1) (.slice A2 n2 c2) (.int .u64 0) := by
    rw [← hW]
    exact blk_new_at (by simp) _
  clear hW
  have h1 : DeD w1 (Dm w1 r) (.agg #[.int .i64 nd, .int .i64 sq, .int .i64 th, .slice A1 n1 c1, .slice A2 n2 c2, .int .u64 0]) ⟨nd, sq, t, 0⟩ := ⟨th, _, _, rfl, TrD.keep (fr_dm (F1.mono (r := r))) _ _ h, hn, hq, by simp⟩
  have T1 := hT.fr F1
  refine (rplain_any ⟨nd, sq, t, 0⟩ _ _ r hs h1).mono ?_
  rintro e w2 ⟨rfl, F2⟩
  rw [HP.out]
  have b10' := b10.fr F2 (by simp)
  have R10 := b10'.cell
  have h2 := h1.keep (fr_dm (F2.mono (r := r)))
  have T2 := T1.fr F2
  go_wp2_with fail
  refine (rbytes_any ⟨nd, sq, t, 0⟩ _ _ r hs h2 T2).mono ?_
  rintro e w3 ⟨S, rfl, hS, hSs, F3⟩
  have HS := Lib.hid hS
  clear hS
  go_wp2_with fail
  refine (rtag_any k HK.out S _ (by omega)).mono ?_
  rintro e w4 ⟨rfl, F4⟩
  obtain ⟨g, hg⟩ : ∃ g, g = tagS k S.data.toList := ⟨_, rfl⟩
  rw [← hg]
  have hg2 : g = tagS k L := by rw [hg, HS.out, bs_list, HL.out]
  have HG := Lib.hid hg2
  have F14 := (F2.pure F3).pure F4
  have hz4 := F14.size
  have c10 := (b10.fr F14 (by simp))
  have c8 := b8.fr F14 (by simp)
  have Rc := c10.cell
  have Zc := c10.free
  have R8 := c8.cell
  have Z8 := c8.free
  clear hg hg2 R10 b10' h2 T2 HS
  go_wp2_with fail
  refine bodyPost_ret (v := .tuple #[.agg #[.int .i64 nd, .int .i64 sq, .int .i64 th, .slice A1 n1 c1, .slice A2 n2 c2, .int .u64 (g : Nat)], .int .i64 0]) (by simp [results, Tryz.results30, go_sem, R8]) rfl ?_
  refine ⟨by rw [← HG.out], ?_⟩
  have G := (Fr.set1 w4 ⟨w.heap.size + 1 + 1, 5, none⟩ (.int .u64 (g : Nat)))
  exact ((F1.pure F14).own G (by simp; omega)).own (fr_fill6 _ _ _ _ _ _ _ _) (by simp)
end Go.Proofs.YtoblhcieidljjaaGreatDoor

/- Walks: declaration.Text; declaration.Parse at the text of a plain declaration. -/
namespace Go.Proofs.YtoblhcieidljjaaGreatDoor
open Go.RowKit

/-- The text of a declaration: its bytes, a blank, its tag in 16 digits. -/
def textD (d : De) : List UInt8 := bytesS d ++ [32] ++ hexL 16 d.tag
theorem textD_len (d : De) : (textD d).length ≤ 2517 := by
  have := bytes_len d
  unfold textD
  rw [List.length_append, List.length_append, hexL_len]
  simp only [List.length_cons, List.length_nil]
  omega
theorem rep_zeros : ∀ c : Nat, Lib.repeatL [48] c = List.replicate c 48
  | 0 => rfl
  | c + 1 => by
    have := rep_zeros c
    simp only [Lib.repeatL, this, List.replicate_succ]
    rfl

set_option maxRecDepth 100000 in
set_option maxHeartbeats 2000000 in
theorem dtext_any (d : De) (v : Value) (w : World) (r : Option Nat) (h : DeD w (Dm w r) v d) (hp : plainE d = 0) (hT : Tab w) (hB : Deb w) :
    Calls Tryz.prog 23 #[v] w (TxtE (textD d) 2517 w) := by
  obtain ⟨th, A1, n1, c1, A2, n2, c2, rfl, hTr, hn, hq, ht⟩ := h.shape
  have hs : d.tr.size ≤ 1073741000 := by have := (plain_parts hp).2.2.2.2; omega
  have F1 := (Fr.refl none w).alloc (.cells #[.int .i64 d.node, .int .i64 d.seq, .int .i64 th, .slice A1 n1 c1, .slice A2 n2 c2, .int .u64 d.tag] 45)
  have h1 : DeD _ (Dm _ r) _ d := h.keep (fr_dm (F1.mono (r := r)))
  have T1 := hT.fr F1
  have D1 := hB.fr F1
  have hlen := textD_len d
  have hbl := bytes_len d
  have HP := Lib.hid hp
  have HL := Lib.hid hlen
  have HBL := Lib.hid hbl
  clear hp hTr h hlen hbl
  go_enter Tryz.func23, Tryz.ntmps23
  go_wp2_with fail
  generalize hW : w.alloc _ = w1 at *
  have B1 : DB w1 w.heap.size (.int .i64 d.node) (.int .i64 d.seq) (.int .i64 th) (.slice A1 n1 c1) (.slice A2 n2 c2) (.int .u64 d.tag) := by rw [← hW]; exact blk_new _ _
  clear hW
  refine (plain_any d _ _ r hs h1).mono ?_
  rintro e w2 ⟨rfl, F2⟩
  rw [HP.out]
  have F12 := F1.pure F2
  have B2 := B1.fr F2 (by simp)
  have T2 := T1.fr F2
  have D2 := D1.fr F2
  have h2 : DeD _ (Dm _ r) _ d := h1.keep (fr_dm (F2.mono (r := r)))
  have R2 := B2.cell
  clear B1 F1 F2 h1 T1 D1
  go_wp2_with fail
  refine (fmt_any d.tag ht _ D2).mono ?_
  rintro e w3 ⟨m, S, m1, m2, m3, rfl, hS, hSz, F3⟩
  have F13 := F12.pure F3
  have B3 := B2.fr F3 (by simp)
  have T3 := T2.fr F3
  have h3 : DeD _ (Dm _ r) _ d := h2.keep (fr_dm (F3.mono (r := r)))
  have HS := Lib.hid hS
  have HM3 := Lib.hid m3
  have hc16 : (16 : Int) - (m : Int) = ((16 - m : Nat) : Int) := by omega
  have hfin : hexL 16 d.tag = List.replicate (16 - m) 48 ++ hexL m d.tag := by
    have := hexL_pad (16 - m) m d.tag m3
    rwa [show 16 - m + m = 16 by omega] at this
  have HFIN := Lib.hid hfin
  obtain ⟨c, hc⟩ : ∃ c, c = 16 - m := ⟨_, rfl⟩
  rw [← hc] at hc16
  have hcl : c ≤ 15 := by omega
  have HCC := Lib.hid hc
  clear R2 hS m3 hfin hc B2 h2 T2 D2 F12 F3
  have R3 := B3.cell
  have HB3 := Lib.hid B3
  clear B3
  go_wp2_with fail
  refine (bytes_any d _ _ r hs h3 T3).mono ?_
  rintro e w4 ⟨X, rfl, hX, hXs, F4⟩
  obtain ⟨X1, HX1, z1, k1⟩ := str_add X ⟨#[32]⟩ (by omega) (by decide)
  have z2 : (⟨#[32]⟩ : ByteArray).size = 1 := rfl
  rw [z2] at z1
  have F14 := F13.pure F4
  have hz1 : X1.size ≤ 2501 := by omega
  have HX := Lib.hid hX
  clear hX R3 z1 z2 hXs
  go_wp2_with fail
  refine (Tryz.strings_Repeat ⟨#[48]⟩ c _ (by omega) (by show 1 * c ≤ _; omega)).mono ?_
  rintro e w5 ⟨rfl, F5⟩
  have hr : (⟨(Lib.repeatL (⟨#[48]⟩ : ByteArray).data.toList c).toArray⟩ : ByteArray) = bs (List.replicate c 48) := by
    rw [show (⟨#[48]⟩ : ByteArray).data.toList = [48] from rfl, rep_zeros]; rfl
  rw [hr]
  obtain ⟨Z, hZ⟩ : ∃ Z, Z = bs (List.replicate c 48) := ⟨_, rfl⟩
  have hZs : Z.size = c := by rw [hZ, bs_size, List.length_replicate]
  rw [← hZ]
  obtain ⟨X2, HX2, z3, k2⟩ := str_add X1 Z (by omega) (by omega)
  obtain ⟨X3, HX3, z4, k3⟩ := str_add X2 S (by omega) (by omega)
  have hz3 : X3.size ≤ 2517 := by have := HCC.out; omega
  have HZ := Lib.hid hZ
  clear hZ hr
  go_wp2_with fail
  go_ret
  refine ⟨X3, rfl, ?_, hz3, F14.pure (Fr.of_below F5)⟩
  have e1 : S = bs (hexL m d.tag) := by
    apply ByteArray.ext
    apply Array.toList_inj.1
    rw [HS.out, bs_list]
  rw [HX3.out, HX2.out, HX1.out, HX.out, HZ.out, e1]
  unfold textD
  rw [HFIN.out, ← HCC.out, show (⟨#[32]⟩ : ByteArray) = bs [32] from rfl, bs_app, bs_app, bs_app]
  congr 1
  simp
end Go.Proofs.YtoblhcieidljjaaGreatDoor

/- Plain: the reference's reading of a declaration's text. -/
namespace Go.Proofs.YtoblhcieidljjaaGreatDoor
open Go.RowKit

def wd1 (l : List UInt8) : List UInt8 := l.takeWhile (· != 32)
def wd2 (l : List UInt8) : List UInt8 := (l.dropWhile (· != 32)).drop 1
theorem wd_blank (X : List UInt8) : ∀ a : List UInt8, (∀ c ∈ a, c ≠ 32) → wd1 (a ++ 32 :: X) = a ∧ wd2 (a ++ 32 :: X) = X
  | [], _ => by simp [wd1, wd2]
  | b :: a, h => by
    have hb : (b != 32) = true := by rw [bne_iff_ne]; exact h b (by simp)
    have ih := wd_blank X a (fun c hc => h c (List.mem_cons_of_mem _ hc))
    unfold wd1 wd2 at ih ⊢
    simp only [List.cons_append, List.takeWhile_cons, List.dropWhile_cons, hb, if_true]
    exact ⟨by rw [ih.1], ih.2⟩
theorem wd_none : ∀ a : List UInt8, (∀ c ∈ a, c ≠ 32) → wd1 a = a ∧ wd2 a = []
  | [], _ => by simp [wd1, wd2]
  | b :: a, h => by
    have hb : (b != 32) = true := by rw [bne_iff_ne]; exact h b (by simp)
    have ih := wd_none a (fun c hc => h c (List.mem_cons_of_mem _ hc))
    unfold wd1 wd2 at ih ⊢
    simp only [List.takeWhile_cons, List.dropWhile_cons, hb, if_true]
    exact ⟨by rw [ih.1], ih.2⟩
theorem wd1_len (l : List UInt8) : (wd1 l).length ≤ l.length := (List.takeWhile_prefix _).length_le
theorem wd2_len (l : List UInt8) : (wd2 l).length ≤ l.length := by
  unfold wd2
  rw [List.length_drop]
  have := (List.dropWhile_suffix (l := l) (· != 32)).length_le
  omega

def smlV (l : List UInt8) : Nat := if 3 < l.length then 0 else if l.all isDg then numV 0 l else 0
theorem sml_dec {n : Nat} (h : n ≤ 999) : smlV (Lib.decDigits n) = n := by
  have h3 : (Lib.decDigits n).length ≤ 3 := by
    have : ∀ k : Fin 1000, (Lib.decDigits k.val).length ≤ 3 := by decide +kernel
    exact this ⟨n, by omega⟩
  unfold smlV
  rw [if_neg (by omega), if_pos (by rw [List.all_eq_true]; exact dec_dg n)]
  exact numV_dec n

def hxd (c : UInt8) : Nat := if 48 ≤ c.toNat ∧ c.toNat ≤ 57 then c.toNat - 48 else if 97 ≤ c.toNat ∧ c.toNat ≤ 102 then c.toNat - 87 else 0
def hxstep (n : Nat) (c : UInt8) : Nat := (n * 16 + hxd c) % 18446744073709551616
def hxV (l : List UInt8) : Nat := l.foldl hxstep 0
theorem hxd_lt (c : UInt8) : hxd c < 16 := by
  unfold hxd
  split
  · omega
  · split <;> omega
theorem hxstep_lt (n : Nat) (c : UInt8) : hxstep n c < 18446744073709551616 := Nat.mod_lt _ (by decide)
theorem hxV_lt (l : List UInt8) : hxV l < 18446744073709551616 := by
  unfold hxV
  suffices h : ∀ (l : List UInt8) (n : Nat), n < 18446744073709551616 → l.foldl hxstep n < 18446744073709551616 from h l 0 (by decide)
  intro l
  induction l with
  | nil => exact fun n h => h
  | cons c r ih => exact fun n _ => ih _ (hxstep_lt _ _)
theorem hxV_snoc (l : List UInt8) (j : Nat) (hj : j < l.length) : hxV (l.take (j + 1)) = hxstep (hxV (l.take j)) l[j] := by
  unfold hxV
  rw [List.take_succ_eq_append_getElem hj, List.foldl_append]
  rfl
theorem hxd_hexD : ∀ k : Fin 16, hxd (hexD k.val) = k.val := by decide +kernel
theorem hxV_hex : ∀ (j n : Nat), j ≤ 16 → hxV (hexL j n) = n % 16 ^ j
  | 0, n, _ => by simp [hexL, hxV, Nat.mod_one]
  | j + 1, n, hj => by
    have ih := hxV_hex j (n / 16) (by omega)
    unfold hxV at ih ⊢
    rw [hexL, List.foldl_append, ih]
    show hxstep _ _ = _
    unfold hxstep
    rw [hxd_hexD ⟨n % 16, Nat.mod_lt _ (by decide)⟩]
    show (n / 16 % 16 ^ j * 16 + n % 16) % _ = _
    have hp : 16 ^ (j + 1) ≤ 16 ^ 16 := Nat.pow_le_pow_right (by decide) hj
    have e : n / 16 % 16 ^ j * 16 + n % 16 = n % 16 ^ (j + 1) := by
      rw [Nat.pow_succ, Nat.mul_comm (16 ^ j) 16, Nat.mod_mul]
      omega
    rw [e]
    have : n % 16 ^ (j + 1) < 16 ^ (j + 1) := Nat.mod_lt _ (Nat.pow_pos (by decide))
    exact Nat.mod_eq_of_lt (Nat.lt_of_lt_of_le this (Nat.le_trans hp (by decide)))

/-- The rest behind the first three words. -/
def rdR (l : List UInt8) : List UInt8 := wd2 (wd2 (wd2 l))
/-- What the reference reads; none if it gives up ahead of its last check. -/
def rdD (l : List UInt8) : Option De :=
  if (rdR l).length < 17 then none else match parseP ((rdR l).take ((rdR l).length - 17)) with
  | .no _ _ => none
  | .ok t => some ⟨smlV (wd1 (wd2 l)), smlV (wd1 (wd2 (wd2 l))), t, hxV ((rdR l).drop ((rdR l).length - 16))⟩
theorem rdD_text (d : De) (hp : plainE d = 0) (ht : d.tag < 18446744073709551616) : rdD (textD d) = some d := by
  obtain ⟨⟨k1, k2⟩, ⟨k3, k4⟩, hv, _, _⟩ := plain_parts hp
  have hb : bytesS d = [100, 32] ++ Lib.itoa d.node ++ [32] ++ Lib.itoa d.seq ++ [32] ++ txT d.tr := by unfold bytesS; rw [if_pos hp]
  have e0 : textD d = [100] ++ 32 :: (Lib.itoa d.node ++ 32 :: (Lib.itoa d.seq ++ 32 :: (txT d.tr ++ 32 :: hexL 16 d.tag))) := by
    unfold textD; rw [hb]; simp
  have hit : ∀ k : Int, 0 ≤ k → k ≤ 99 → ∃ n : Nat, k = n ∧ n ≤ 99 ∧ Lib.itoa k = Lib.decDigits n := fun k h0 h1 => by
    obtain ⟨n, rfl⟩ := Int.eq_ofNat_of_zero_le h0
    exact ⟨n, rfl, by omega, rfl⟩
  obtain ⟨a, ha, ha2, ha3⟩ := hit d.node k1 (by omega)
  obtain ⟨b, hb, hb2, hb3⟩ := hit d.seq (by omega) (by omega)
  have hdg : ∀ n : Nat, ∀ c ∈ Lib.decDigits n, c ≠ 32 := fun n c hc => (dg_ne (dec_dg n c hc)).1
  have w1 := wd_blank (Lib.itoa d.node ++ 32 :: (Lib.itoa d.seq ++ 32 :: (txT d.tr ++ 32 :: hexL 16 d.tag))) [100] (by simp)
  have w2 := wd_blank (Lib.itoa d.seq ++ 32 :: (txT d.tr ++ 32 :: hexL 16 d.tag)) (Lib.itoa d.node) (by rw [ha3]; exact hdg a)
  have w3 := wd_blank (txT d.tr ++ 32 :: hexL 16 d.tag) (Lib.itoa d.seq) (by rw [hb3]; exact hdg b)
  have hR : rdR (textD d) = txT d.tr ++ 32 :: hexL 16 d.tag := by unfold rdR; rw [e0, w1.2, w2.2, w3.2]
  have hl16 : (hexL 16 d.tag).length = 16 := hexL_len 16 d.tag
  have hlen : (rdR (textD d)).length = (txT d.tr).length + 17 := by rw [hR]; simp [hl16]
  have hpar : parseP (txT d.tr) = .ok d.tr := parse_ok d.tr (valid_ok hv) hv _ (BB.refl _) (by have := valid_len hv; omega)
  have et : (rdR (textD d)).take ((rdR (textD d)).length - 17) = txT d.tr := by
    rw [hlen, hR, Nat.add_sub_cancel, List.take_left]
  have ed : (rdR (textD d)).drop ((rdR (textD d)).length - 16) = hexL 16 d.tag := by
    rw [hlen, hR, show (txT d.tr).length + 17 - 16 = (txT d.tr ++ [32]).length by simp, show txT d.tr ++ 32 :: hexL 16 d.tag = (txT d.tr ++ [32]) ++ hexL 16 d.tag by simp, List.drop_left]
  unfold rdD
  rw [if_neg (by omega), et, hpar]
  simp only
  rw [ed, hxV_hex 16 _ (Nat.le_refl _), Nat.mod_eq_of_lt ht, e0, w1.2, w2.1, w2.2, w3.1, ha3, hb3, sml_dec (by omega), sml_dec (by omega), ← ha, ← hb]
end Go.Proofs.YtoblhcieidljjaaGreatDoor

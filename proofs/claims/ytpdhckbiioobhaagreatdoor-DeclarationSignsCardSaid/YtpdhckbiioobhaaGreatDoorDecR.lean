/- Walks: declaration.Parse at the text of a plain declaration. -/
import Derived.Test.YtpdhckbiioobhaaGreatDoorProg
import Derived.Test.YtpdhckbiioobhaaGreatDoorDecW
namespace Go.Proofs.YtpdhckbiioobhaaGreatDoor
open Go.RowKit

/-- What Parse leaves of a text of d. -/
def ParD (d : De) (w : World) (e : Ending) (w' : World) : Prop := ∃ v, e = .returned (.tuple #[v, .int .i64 0]) ∧ DeD w' (Dn w.heap.size w') v d ∧ Fr none w w'

set_option maxRecDepth 100000 in
set_option maxHeartbeats 4000000 in
theorem dparse_any (d : De) (S : ByteArray) (w : World) (hS : S.data.toList = textD d) (hp : plainE d = 0) (ht : d.tag < 18446744073709551616) (hT : Tab w) (hB : Deb w) :
    Calls Tryz.prog 34 #[.string S] w (ParD d w) := by
  obtain ⟨⟨k1, k2⟩, ⟨k3, k4⟩, hv, _, _⟩ := plain_parts hp
  have hsz : S.size ≤ 2517 := by rw [size_list, hS]; exact textD_len d
  have hb : bytesS d = [100, 32] ++ Lib.itoa d.node ++ [32] ++ Lib.itoa d.seq ++ [32] ++ txT d.tr := by unfold bytesS; rw [if_pos hp]
  have e0 : S.data.toList = [100, 32] ++ (Lib.itoa d.node ++ 32 :: (Lib.itoa d.seq ++ 32 :: (txT d.tr ++ 32 :: hexL 16 d.tag))) := by
    rw [hS]; unfold textD; rw [hb]; simp
  have he0 : S.toList.isEmpty = false := by rw [ByteArray.toList_eq, e0]; rfl
  have hpar : parseP (txT d.tr) = .ok d.tr := parse_ok d.tr (valid_ok hv) hv _ (BB.refl _) (by have := valid_len hv; omega)
  have HS := Lib.hid hS
  have HE := Lib.hid e0
  have HPar := Lib.hid hpar
  have HP := Lib.hid hp
  clear hS e0 hpar hp hb hv
  go_enter Tryz.func34, Tryz.ntmps34
  go_wp2_with fail
  generalize hW : (w.alloc _).alloc _ = w1
  have F1 : Fr none w w1 := hW ▸ ((Fr.refl _ w).alloc _).alloc _
  have b0 : DB w1 w.heap.size (.int .i64 0) (.int .i64 0) (.int .i64 0) (.slice none 0 0) (.slice none 0 0) (.int .u64 0) := by rw [← hW]; exact (Below.heap_alloc _ _ _ (by simp)).trans (blk_new _ _)
  have b1 : DB w1 (w.heap.size + 1) (.int .i64 0) (.int .i64 0) (.int .i64 0) (.slice none 0 0) (.slice none 0 0) (.int .u64 0) := by rw [← hW]; exact blk_new_at (by simp) _
  have hz1 : w1.heap.size = w.heap.size + 2 := by rw [← hW]; simp
  clear hW
  refine (Tryz.strings_TrimPrefix S ⟨#[100, 32]⟩ _).mono ?_
  rintro e w2 ⟨rfl, hw⟩
  subst hw
  obtain ⟨R0, hR0⟩ : ∃ R0, R0 = (⟨(Lib.trimPrefix S.data.toList (⟨#[100, 32]⟩ : ByteArray).data.toList).toArray⟩ : ByteArray) := ⟨_, rfl⟩
  have hR0l : R0.data.toList = Lib.itoa d.node ++ 32 :: (Lib.itoa d.seq ++ 32 :: (txT d.tr ++ 32 :: hexL 16 d.tag)) := by
    rw [hR0, HE.out, show (⟨#[100, 32]⟩ : ByteArray).data.toList = [100, 32] from rfl, trim_pre]
  have hlS : S.size = ([100, 32] ++ (Lib.itoa d.node ++ 32 :: (Lib.itoa d.seq ++ 32 :: (txT d.tr ++ 32 :: hexL 16 d.tag)))).length := by rw [size_list, HE.out]
  rw [← hR0]
  have hR0s : R0.size ≤ 2517 := by
    rw [size_list, hR0l]
    rw [List.length_append] at hlS
    omega
  have HR0 := Lib.hid hR0l
  have HLS := Lib.hid hlS
  clear hR0 hR0l hlS
  go_wp2_with fail
  refine (num_any R0 d.node _ k1 (by omega) HR0.out (by omega) _).mono ?_
  rintro e w2 ⟨rfl, F2⟩
  have b02 := b0.fr F2 (by simp)
  have b12 := b1.fr F2 (by simp)
  have R2 := b12.cell
  have Z2 := b12.free
  have hz2 := F2.size
  obtain ⟨R1, hR1⟩ : ∃ R1, R1 = bs (Lib.itoa d.seq ++ 32 :: (txT d.tr ++ 32 :: hexL 16 d.tag)) := ⟨_, rfl⟩
  have hR1l : R1.data.toList = Lib.itoa d.seq ++ 32 :: (txT d.tr ++ 32 :: hexL 16 d.tag) := by rw [hR1, bs_list]
  rw [← hR1]
  have hR1s : R1.size ≤ 2517 := by
    have := HLS.out
    rw [size_list, hR1l]
    simp only [List.length_append, List.length_cons, List.length_nil] at this ⊢
    omega
  have HR1 := Lib.hid hR1l
  clear hR1 hR1l b1 b0
  go_wp2_with fail
  generalize hW : World.setCell _ _ _ = w3
  have G3 : Fr (some (w.heap.size + 1)) w2 w3 := hW ▸ Fr.set1 w2 ⟨w.heap.size + 1, 0, none⟩ _
  have b13 : DB w3 (w.heap.size + 1) (.int .i64 d.node) (.int .i64 0) (.int .i64 0) (.slice none 0 0) (.slice none 0 0) (.int .u64 0) := hW ▸ blk_set b12 0 _
  have b03 := b02.fr G3 (by simp)
  have F03 : Fr none w w3 := (F1.pure F2).own G3 (by simp)
  clear hW R2 Z2 b12 b02
  refine (num_any R1 d.seq _ (by omega) (by omega) HR1.out (by omega) _).mono ?_
  rintro e w4 ⟨rfl, F4⟩
  have b04 := b03.fr F4 (by simp)
  have b14 := b13.fr F4 (by simp)
  have R4 := b14.cell
  have Z4 := b14.free
  have hz4 := F4.size
  have hz3 := G3.size
  obtain ⟨R2, hR2⟩ : ∃ R2, R2 = bs (txT d.tr ++ 32 :: hexL 16 d.tag) := ⟨_, rfl⟩
  have hR2l : R2.data.toList = txT d.tr ++ 32 :: hexL 16 d.tag := by rw [hR2, bs_list]
  rw [← hR2]
  have hR2s : R2.size ≤ 2517 := by
    have := HLS.out
    rw [size_list, hR2l]
    simp only [List.length_append, List.length_cons, List.length_nil] at this ⊢
    omega
  have HR2 := Lib.hid hR2l
  clear hR2 hR2l b03 b13
  go_wp2_with fail
  generalize hW : World.setCell _ _ _ = w5
  have G5 : Fr (some (w.heap.size + 1)) w4 w5 := hW ▸ Fr.set1 w4 ⟨w.heap.size + 1, 1, none⟩ _
  have b15 : DB w5 (w.heap.size + 1) (.int .i64 d.node) (.int .i64 d.seq) (.int .i64 0) (.slice none 0 0) (.slice none 0 0) (.int .u64 0) := hW ▸ blk_set b14 1 _
  have b05 := b04.fr G5 (by simp)
  have F05 : Fr none w w5 := (F03.pure F4).own G5 (by simp)
  have hz5 := G5.size
  clear hW R4 Z4 b14 b04
  refine (Tryz.strings_LastIndexByte R2 32 (by omega) _).mono ?_
  rintro e w6 ⟨rfl, hw⟩
  subst hw
  rw [last_blank R2 _ _ HR2.out (hexL_blank 16 d.tag)]
  obtain ⟨q, hq⟩ : ∃ q, q = (txT d.tr).length := ⟨_, rfl⟩
  rw [← hq]
  have hql : R2.size = q + 17 := by rw [size_list, HR2.out, List.length_append, List.length_cons, hexL_len, hq]
  have hq2 : (q : Int) ≤ (R2.size : Int) := by omega
  have HQ := Lib.hid hq
  have HQL := Lib.hid hql
  clear hq hql
  go_wp2_with fail
  refine (Tryz.strings_TrimPrefix (R2.extract q R2.size) ⟨#[32]⟩ _).mono ?_
  rintro e w7 ⟨rfl, hw⟩
  subst hw
  obtain ⟨R3, hR3⟩ : ∃ R3, R3 = (⟨(Lib.trimPrefix (R2.extract q R2.size).data.toList (⟨#[32]⟩ : ByteArray).data.toList).toArray⟩ : ByteArray) := ⟨_, rfl⟩
  have hR3l : R3.data.toList = hexL 16 d.tag := by
    rw [hR3, Lib.extract_to_end, HR2.out, HQ.out, List.drop_left, show (⟨#[32]⟩ : ByteArray).data.toList = [32] from rfl]
    exact trim_pre [32] _
  rw [← hR3]
  have hR3s : R3.size = 16 := by rw [size_list, hR3l, hexL_len]
  have hhx : ∀ c ∈ R3.data.toList, IsHx c := by rw [hR3l]; exact hexL_hx 16 d.tag
  have htg : hexF 0 R3.data.toList = d.tag := by rw [hR3l, hexF_L]; exact Nat.mod_eq_of_lt (by omega)
  have HHX := Lib.hid hhx
  have HTG := Lib.hid htg
  clear hR3 hR3l hhx htg
  go_wp2_with fail
  refine (pu_any R3 _ HHX.out (by omega) (by omega)).mono ?_
  rintro e w8 ⟨rfl, F8⟩
  rw [HTG.out]
  have b08 := b05.fr F8 (by simp)
  have b18 := b15.fr F8 (by simp)
  have hz8 := F8.size
  have F08 := F05.pure F8
  clear b05 b15 F05
  go_wp2_with fail
  obtain ⟨R4, hR4⟩ : ∃ R4, R4 = R2.extract 0 q := ⟨_, rfl⟩
  have hR4l : R4.data.toList = txT d.tr := by rw [hR4, Lib.extract_data, HR2.out, HQ.out]; simp
  have hpr : parseP R4.data.toList = .ok d.tr := by rw [hR4l]; exact HPar.out
  rw [← hR4]
  have HPR := Lib.hid hpr
  clear hR4 hR4l hpr
  refine (parse_okW R4 d.tr _ HPR.out).mono ?_
  rintro e w9 ⟨th, A1, n1, c1, A2, n2, c2, rfl, hTr, F9⟩
  have b09 := b08.fr F9 (by simp)
  have b19 := b18.fr F9 (by simp)
  have R9 := b19.cell
  have Z9 := b19.free
  have hz9 := F9.size
  have F09 := F08.pure F9
  clear b08 b18 F08
  go_wp2_with fail
  generalize hW : World.setCell _ _ _ = wa
  have Ga : Fr (some (w.heap.size + 1)) w9 wa := by
    rw [← hW]
    exact Fr.setRow (p := ⟨w.heap.size + 1, 5, none⟩) (Fr.setRow (p := ⟨w.heap.size + 1, 4, none⟩) (Fr.setRow (p := ⟨w.heap.size + 1, 3, none⟩) (Fr.set1 w9 ⟨w.heap.size + 1, 2, none⟩ _) rfl _) rfl _) rfl _
  have b1a : DB wa (w.heap.size + 1) (.int .i64 d.node) (.int .i64 d.seq) (.int .i64 th) (.slice A1 n1 c1) (.slice A2 n2 c2) (.int .u64 d.tag) := by
    rw [← hW]
    exact blk_set (blk_set (blk_set (blk_set b19 2 _) 3 _) 4 _) 5 _
  have b0a := b09.fr Ga (by simp)
  have F0a : Fr none w wa := F09.own Ga (by simp)
  have hza := Ga.size
  have hTra : TrD wa (Dn (w.heap.size + 2) wa) (.agg #[.int .i64 th, .slice A1 n1 c1, .slice A2 n2 c2]) d.tr := TrD.keep (fun k hk => by
    obtain ⟨k1, e1⟩ := dn_fr Ga (by simp; omega) k hk
    exact ⟨⟨by have := k1.1; omega, k1.2⟩, e1⟩) _ _ hTr
  have hD : DeD wa (Dn (w.heap.size + 2) wa) (.agg #[.int .i64 d.node, .int .i64 d.seq, .int .i64 th, .slice A1 n1 c1, .slice A2 n2 c2, .int .u64 (d.tag : Int)]) d := ⟨th, _, _, rfl, hTra, by constructor <;> omega, by constructor <;> omega, ht⟩
  clear hW R9 Z9 b19 b09 hTr
  refine (dtext_any d _ _ none (hD.keep (dn_dm (by simp))) HP.out (hT.fr F0a) (hB.fr F0a)).mono ?_
  rintro e wb ⟨X, rfl, hX, hXs, Fb⟩
  have hSX : X = S := by
    rw [hX, ← HS.out]
    rfl
  subst hSX
  have b1b := b1a.fr Fb (by simp)
  have b0b := b0a.fr Fb (by simp)
  have Rb := b1b.cell
  have Z0 := b0b.free
  have hl0 := blk_lt b0b
  have R0b := b0b.cell
  have hne : (X.toList != X.toList) = false := by simp
  clear b1a b0a hX
  go_wp2_with fail
  refine bodyPost_ret (v := .tuple #[.agg #[.int .i64 d.node, .int .i64 d.seq, .int .i64 th, .slice A1 n1 c1, .slice A2 n2 c2, .int .u64 (d.tag : Int)], .int .i64 0]) (by simp [results, Tryz.results34, go_sem, R0b]) rfl ?_
  have G := fr_fill6 wb w.heap.size (.int .i64 d.node) (.int .i64 d.seq) (.int .i64 th) (.slice A1 n1 c1) (.slice A2 n2 c2) (.int .u64 (d.tag : Int))
  have hzb := Fb.size
  refine ⟨_, rfl, hD.keep (fun k hk => ?_), (F0a.pure Fb).own G (by simp)⟩
  obtain ⟨k1, e1⟩ := dn_fr Fb (by simp) k hk
  obtain ⟨k2, e2⟩ := dn_fr G (by simp) k k1
  exact ⟨⟨by have := k2.1; omega, k2.2⟩, e2.trans e1⟩
end Go.Proofs.YtpdhckbiioobhaaGreatDoor

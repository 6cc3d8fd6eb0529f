/- Some texts of this claim, joined: contracts of the functions that it reaches, and plain laws. -/
import Derived.Test.YtoblhcieidljjaaGreatDoorProg
import Derived.Test.YtoblhcieidljjaaGreatDoorJDA18
import Derived.Test.YtoblhcieidljjaaGreatDoorJDA17
import Derived.Test.YtoblhcieidljjaaGreatDoorJDA23
import Derived.Test.YtoblhcieidljjaaGreatDoorJDA5
import Derived.Test.YtoblhcieidljjaaGreatDoorJDA26
import Derived.Test.YtoblhcieidljjaaGreatDoorJDA19
import Derived.Test.YtoblhcieidljjaaGreatDoorJDA16

set_option linter.unusedSimpArgs false
set_option linter.unusedVariables false
/- Walks: declaration.number at every text; declaration.Parse at texts of no plain declaration. -/
namespace Go.Proofs.YtoblhcieidljjaaGreatDoor
open Go.RowKit

theorem DeD.parts {w : World} {D : Nat → Prop} {nd sq th tg : Int} {A1 : Option Addr} {n1 c1 : Nat} {A2 : Option Addr} {n2 c2 : Nat} {d : De} (h : DeD w D (.agg #[.int .i64 nd, .int .i64 sq, .int .i64 th, .slice A1 n1 c1, .slice A2 n2 c2, .int .u64 tg]) d) :
    TrD w D (.agg #[.int .i64 th, .slice A1 n1 c1, .slice A2 n2 c2]) d.tr ∧ Wi d.node ∧ Wi d.seq ∧ d.tag < 18446744073709551616 := by
  obtain ⟨th', vn, vi, e, h1, h2⟩ := h
  simp only [Value.agg.injEq, Array.mk.injEq, List.cons.injEq, and_true] at e
  obtain ⟨_, _, e3, e4, e5, _⟩ := e
  rw [e3, e4, e5]
  exact ⟨h1, h2⟩
/-- A declaration and a code, handed back. -/
def SgnQ (Y : De) (c : Int) (r : Option Nat) (w : World) (e : Ending) (w' : World) : Prop :=
  ∃ v, e = .returned (.tuple #[v, .int .i64 c]) ∧ DeD w' (Dm w' r) v Y ∧ Fr none w w'
theorem idxB_none : ∀ (l : List UInt8) (c : UInt8), (∀ x ∈ l, x ≠ c) → Lib.indexByte l c = -1
  | [], _, _ => rfl
  | b :: l, c, h => by
    have hb : (b == c) = false := by rw [beq_eq_false_iff_ne]; exact h b (by simp)
    have ih := idxB_none l c (fun x hx => h x (List.mem_cons_of_mem _ hx))
    simp [Lib.indexByte, hb, ih]
theorem split_by (c : UInt8) : ∀ l : List UInt8, (∃ a X, l = a ++ c :: X ∧ ∀ x ∈ a, x ≠ c) ∨ (∀ x ∈ l, x ≠ c)
  | [] => .inr (by simp)
  | b :: l => by
    by_cases hb : b = c
    · exact .inl ⟨[], l, by rw [hb]; rfl, by simp⟩
    · rcases split_by c l with ⟨a, X, h1, h2⟩ | h
      · refine .inl ⟨b :: a, X, by rw [h1]; rfl, fun x hx => ?_⟩
        rcases List.mem_cons.1 hx with rfl | hx
        · exact hb
        · exact h2 x hx
      · refine .inr (fun x hx => ?_)
        rcases List.mem_cons.1 hx with rfl | hx
        · exact hb
        · exact h x hx
theorem cutlN_any (S : ByteArray) (hS : ∀ c ∈ S.data.toList, c ≠ 32) (w : World) :
    Calls Tryz.prog 169 #[.string S, .string ⟨#[32]⟩] w fun e w' => e = .returned (.tuple #[.string S, .string ⟨#[]⟩, .bool false]) ∧ Fr none w w' := by
  have HI := Lib.hid (idxB_none _ 32 hS)
  clear hS
  go_enter Tryz.func169, Tryz.ntmps169
  go_wp2_with (go_at_call 189; refine (Tryz.stringslite_Index_one S 32 _).mono ?_; rintro e w' ⟨rfl, hw⟩; rw [hw]; clear hw w'; rw [HI.out])
  go_ret3
  exact ⟨rfl, Fr.refl _ _⟩
/-- What a cut leaves. -/
def CutE (n : Nat) (w : World) (e : Ending) (w' : World) : Prop := ∃ (a X : ByteArray) (b : Bool), e = .returned (.tuple #[.string a, .string X, .bool b]) ∧ a.size ≤ n ∧ X.size ≤ n ∧ Fr none w w'
theorem cutlG_any (S : ByteArray) (hz : S.size ≤ 1073741824) (w : World) :
    Calls Tryz.prog 169 #[.string S, .string ⟨#[32]⟩] w (CutE S.size w) := by
  rcases split_by 32 S.data.toList with ⟨a, X, h1, h2⟩ | h
  · refine (cutl_any S a X h1 h2 hz w).mono ?_
    rintro e w' ⟨rfl, F⟩
    have hl : S.size = a.length + (X.length + 1) := by rw [size_list, h1]; simp
    exact ⟨_, _, _, rfl, by rw [bs_size]; omega, by rw [bs_size]; omega, F⟩
  · refine (cutlN_any S h w).mono ?_
    rintro e w' ⟨rfl, F⟩
    exact ⟨_, _, _, rfl, Nat.le_refl _, Nat.zero_le _, F⟩
theorem cutG_any (S : ByteArray) (hz : S.size ≤ 1073741824) (w : World) :
    Calls Tryz.prog 131 #[.string S, .string ⟨#[32]⟩] w (CutE S.size w) := by
  go_enter Tryz.func131, Tryz.ntmps131
  go_wp2_with fail
  refine (cutlG_any S hz _).mono ?_
  rintro e w2 ⟨a, X, b, rfl, ha, hX, F⟩
  go_wp2_with fail
  go_ret3
  exact ⟨a, X, b, rfl, ha, hX, F⟩
theorem numG_any (S : ByteArray) (w : World) (hz : S.size ≤ 1073741824) (hE : Errs w) :
    Calls Tryz.prog 87 #[.string S] w fun e w' => ∃ n R, e = .returned (.tuple #[.int .i64 n, .string R]) ∧ Wi n ∧ R.size ≤ S.size ∧ Fr none w w' := by
  go_enter Tryz.func87, Tryz.ntmps87
  go_wp2_with fail
  refine (cutG_any S hz _).mono ?_
  rintro e w1 ⟨a, X, b, rfl, ha, hX, F1⟩
  go_wp2_with fail
  refine (atoiT_any a _ (by omega) (hE.fr F1)).mono ?_
  rintro e w2 ⟨n, v, rfl, hn, rfl | ⟨t, p, rfl⟩, F2⟩
  · go_wp2_with fail
    go_ret2
    exact ⟨n, X, rfl, hn, hX, F1.pure F2⟩
  · go_wp2_with fail
    go_ret2
    exact ⟨-1, ⟨#[]⟩, rfl, by constructor <;> decide, Nat.zero_le _, F1.pure F2⟩

def dTr0 : Tr := .mk 0 [] []
theorem trd0 (w : World) (D : Nat → Prop) : TrD w D (.agg #[.int .i64 0, .slice none 0 0, .slice none 0 0]) dTr0 :=
  TrD.mk_ (by constructor <;> omega) (SlD.nil _ _ _) (by simp) (SlD.nil _ _ _) (by simp) (by simp) (by simp [TrsD])
def zeroDv : Value := .agg #[.int .i64 0, .int .i64 0, .int .i64 0, .slice none 0 0, .slice none 0 0, .int .u64 0]
def zD : De := ⟨0, 0, dTr0, 0⟩
theorem ded0 (w : World) (D : Nat → Prop) : DeD w D zeroDv zD := ⟨0, _, _, rfl, trd0 w D, by constructor <;> decide, by constructor <;> decide, by decide⟩
/-- What a reader of trusts left, whichever way. -/
theorem got_some {p : Got} {w w' : World} {th : Int} {A1 A2 : Option Addr} {n1 c1 n2 c2 k : Nat} {er : Int} (h : match p with
      | .no a x => k = a ∧ er = x ∧ .agg #[.int .i64 th, .slice A1 n1 c1, .slice A2 n2 c2] = zeroT
      | .ok t => k = 0 ∧ er = 0 ∧ TrD w' (Dn w.heap.size w') (.agg #[.int .i64 th, .slice A1 n1 c1, .slice A2 n2 c2]) t ∧ validE t = 0) :
    ∃ t, TrD w' (Dn w.heap.size w') (.agg #[.int .i64 th, .slice A1 n1 c1, .slice A2 n2 c2]) t ∧ t.size ≤ 200 := by
  cases p with
  | no a x => exact ⟨dTr0, by rw [h.2.2]; exact trd0 _ _, by decide⟩
  | ok t => exact ⟨t, h.2.2.1, (valid_facts h.2.2.2).2.1⟩
theorem last_bd (S : ByteArray) (c : Int) : ∃ q : Nat, max (Lib.lastIndexByte S c) 0 = (q : Int) ∧ q ≤ S.size := by
  rcases Lib.lastIndexByte_spec S c with ⟨h, _⟩ | ⟨i, hi, h, _⟩
  · exact ⟨0, by rw [h]; rfl, Nat.zero_le _⟩
  · exact ⟨i, by rw [h]; omega, by omega⟩
theorem trimP_le (l p : List UInt8) : (Lib.trimPrefix l p).length ≤ l.length := by
  unfold Lib.trimPrefix
  split
  · rw [List.length_drop]; omega
  · exact Nat.le_refl _

set_option maxRecDepth 100000 in
set_option maxHeartbeats 8000000 in
theorem dparseN_any (S : ByteArray) (w : World) (hz : S.size ≤ 6000) (hno : ∀ d : De, plainE d = 0 → d.tag < 18446744073709551616 → textD d ≠ S.data.toList) (hT : Tab w) (hB : Deb w) (hE : Errs w) :
    Calls Tryz.prog 35 #[.string S] w fun e w' => e = .returned (.tuple #[zeroDv, .int .i64 2]) ∧ Fr none w w' := by
  have HNO := Lib.hid hno
  clear hno
  go_enter Tryz.func35, Tryz.ntmps35
  go_wp2_with fail
  generalize hW : (w.alloc _).alloc _ = w1
  have F1 : Fr none w w1 := hW ▸ ((Fr.refl _ w).alloc _).alloc _
  have b0 : DB w1 w.heap.size (.int .i64 0) (.int .i64 0) (.int .i64 0) (.slice none 0 0) (.slice none 0 0) (.int .u64 0) := by rw [← hW]; exact (Below.heap_alloc _ _ _ (by simp)).trans (blk_new _ _)
  have b1 : DB w1 (w.heap.size + 1) (.int .i64 0) (.int .i64 0) (.int .i64 0) (.slice none 0 0) (.slice none 0 0) (.int .u64 0) := by rw [← hW]; exact blk_new_at (by simp) _
  have hz1 : w1.heap.size = w.heap.size + 2 := by rw [← hW]; simp
  clear hW
  refine (Tryz.strings_TrimPrefix S ⟨#[100, 32]⟩ _).mono ?_
  rintro e w2 ⟨rfl, hw⟩
  subst hw
  obtain ⟨R0, hR0⟩ : ∃ R0, R0 = (⟨(Lib.trimPrefix S.data.toList (⟨#[100, 32]⟩ : ByteArray).data.toList).toArray⟩ : ByteArray) := ⟨_, rfl⟩
  rw [← hR0]
  have hR0s : R0.size ≤ 6000 := by
    have := trimP_le S.data.toList (⟨#[100, 32]⟩ : ByteArray).data.toList
    rw [← size_list] at this
    rw [hR0]
    exact Nat.le_trans this hz
  clear hR0
  go_wp2_with fail
  refine (numG_any R0 _ (by omega) (hE.fr F1)).mono ?_
  rintro e w2 ⟨nd, R1, rfl, hnd, hR1, F2⟩
  have b02 := b0.fr F2 (by simp)
  have b12 := b1.fr F2 (by simp)
  have R2 := b12.cell
  have Z2 := b12.free
  have hz2 := F2.size
  have hR1s : R1.size ≤ 6000 := by omega
  clear b1 b0 hR1
  go_wp2_with fail
  generalize hW : World.setCell _ _ _ = w3
  have G3 : Fr (some (w.heap.size + 1)) w2 w3 := hW ▸ Fr.set1 w2 ⟨w.heap.size + 1, 0, none⟩ _
  have b13 : DB w3 (w.heap.size + 1) (.int .i64 nd) (.int .i64 0) (.int .i64 0) (.slice none 0 0) (.slice none 0 0) (.int .u64 0) := hW ▸ blk_set b12 0 _
  have b03 := b02.fr G3 (by simp)
  have F03 : Fr none w w3 := (F1.pure F2).own G3 (by simp)
  clear hW R2 Z2 b12 b02
  refine (numG_any R1 _ (by omega) (hE.fr F03)).mono ?_
  rintro e w4 ⟨sq, R2, rfl, hsq, hR2, F4⟩
  have b04 := b03.fr F4 (by simp)
  have b14 := b13.fr F4 (by simp)
  have R4 := b14.cell
  have Z4 := b14.free
  have hz4 := F4.size
  have hz3 := G3.size
  have hR2s : R2.size ≤ 6000 := by omega
  clear b03 b13 hR2
  go_wp2_with fail
  generalize hW : World.setCell _ _ _ = w5
  have G5 : Fr (some (w.heap.size + 1)) w4 w5 := hW ▸ Fr.set1 w4 ⟨w.heap.size + 1, 1, none⟩ _
  have b15 : DB w5 (w.heap.size + 1) (.int .i64 nd) (.int .i64 sq) (.int .i64 0) (.slice none 0 0) (.slice none 0 0) (.int .u64 0) := hW ▸ blk_set b14 1 _
  have b05 := b04.fr G5 (by simp)
  have F05 : Fr none w w5 := (F03.pure F4).own G5 (by simp)
  have hz5 := G5.size
  clear hW R4 Z4 b14 b04
  refine (Tryz.strings_LastIndexByte R2 32 (by omega) _).mono ?_
  rintro e w6 ⟨rfl, hw⟩
  subst hw
  obtain ⟨q, hq, hql⟩ := last_bd R2 32
  obtain ⟨z, hzz⟩ : ∃ z, z = Lib.lastIndexByte R2 32 := ⟨_, rfl⟩
  rw [← hzz] at hq ⊢
  have hq2 : (q : Int) ≤ (R2.size : Int) := by omega
  clear hzz
  go_wp2_with fail
  refine (Tryz.strings_TrimPrefix (R2.extract q R2.size) ⟨#[32]⟩ _).mono ?_
  rintro e w7 ⟨rfl, hw⟩
  subst hw
  obtain ⟨R3, hR3⟩ : ∃ R3, R3 = (⟨(Lib.trimPrefix (R2.extract q R2.size).data.toList (⟨#[32]⟩ : ByteArray).data.toList).toArray⟩ : ByteArray) := ⟨_, rfl⟩
  have hR3s : R3.size ≤ 6000 := by
    have := trimP_le (R2.extract q R2.size).data.toList (⟨#[32]⟩ : ByteArray).data.toList
    rw [← size_list, ByteArray.size_extract] at this
    rw [hR3]
    exact Nat.le_trans this (by omega)
  rw [← hR3]
  clear hR3
  go_wp2_with fail
  refine (puG_any R3 _ (by omega) (hE.fr F05)).mono ?_
  rintro e w8 ⟨x, v, rfl, hv, hx, F8⟩
  have b08 := b05.fr F8 (by simp)
  have b18 := b15.fr F8 (by simp)
  have hz8 := F8.size
  have F08 := F05.pure F8
  have R0 := b08.cell
  have Z0 := b08.free
  have hl0 := blk_lt b08
  clear b05 b15 F05
  rcases hv with rfl | ⟨t, p, rfl⟩
  · obtain ⟨hx0, hx1⟩ := hx rfl
    obtain ⟨tg, rfl⟩ := Int.eq_ofNat_of_zero_le hx0
    have htg : tg < 18446744073709551616 := by omega
    have HTG := Lib.hid htg
    clear hx hx0 hx1 htg R0 Z0
    go_wp2_with fail
    obtain ⟨R4, hR4⟩ : ∃ R4, R4 = R2.extract 0 q := ⟨_, rfl⟩
    rw [← hR4]
    clear hR4
    refine (parse_any R4 _).mono ?_
    rintro e w9 ⟨th, A1, n1, c1, A2, n2, c2, k, er, rfl, F9, _, hgot⟩
    obtain ⟨t, hTr, hts⟩ := got_some hgot
    have b09 := b08.fr F9 (by simp)
    have b19 := b18.fr F9 (by simp)
    have R9 := b19.cell
    have Z9 := b19.free
    have hz9 := F9.size
    have F09 := F08.pure F9
    clear b08 b18 F08 hgot
    by_cases hS0 : S.data.toList = []
    · have he0 : S.toList.isEmpty = true := by rw [ByteArray.toList_eq, hS0]; rfl
      have R0 := b09.cell
      have Z0 := b09.free
      have hl0 := blk_lt b09
      clear hS0
      go_wp2_with fail
      refine bodyPost_ret (v := .tuple #[.agg #[.int .i64 0, .int .i64 0, .int .i64 0, .slice none 0 0, .slice none 0 0, .int .u64 0], .int .i64 2]) (by simp [results, Tryz.results35, go_sem, R0]) rfl ?_
      generalize hW : World.setCell (World.setCell (World.setCell (World.setCell w9 _ _) _ _) _ _) _ _ = wa
      have Ga : Fr (some (w.heap.size + 1)) w9 wa := by
        rw [← hW]
        exact Fr.setRow (p := ⟨w.heap.size + 1, 5, none⟩) (Fr.setRow (p := ⟨w.heap.size + 1, 4, none⟩) (Fr.setRow (p := ⟨w.heap.size + 1, 3, none⟩) (Fr.set1 w9 ⟨w.heap.size + 1, 2, none⟩ _) rfl _) rfl _) rfl _
      exact ⟨rfl, (F09.own Ga (by simp)).own (fr_fill6 wa w.heap.size (.int .i64 0) (.int .i64 0) (.int .i64 0) (.slice none 0 0) (.slice none 0 0) (.int .u64 0)) (by simp)⟩
    · have he0 : S.toList.isEmpty = false := by
        rw [ByteArray.toList_eq]
        cases h : S.data.toList with
        | nil => exact absurd h hS0
        | cons c r => rfl
      go_wp2_with fail
      generalize hW : World.setCell _ _ _ = wa
      have Ga : Fr (some (w.heap.size + 1)) w9 wa := by
        rw [← hW]
        exact Fr.setRow (p := ⟨w.heap.size + 1, 5, none⟩) (Fr.setRow (p := ⟨w.heap.size + 1, 4, none⟩) (Fr.setRow (p := ⟨w.heap.size + 1, 3, none⟩) (Fr.set1 w9 ⟨w.heap.size + 1, 2, none⟩ _) rfl _) rfl _) rfl _
      have b1a : DB wa (w.heap.size + 1) (.int .i64 nd) (.int .i64 sq) (.int .i64 th) (.slice A1 n1 c1) (.slice A2 n2 c2) (.int .u64 (tg : Int)) := by
        rw [← hW]
        exact blk_set (blk_set (blk_set (blk_set b19 2 _) 3 _) 4 _) 5 _
      have b0a := b09.fr Ga (by simp)
      have F0a : Fr none w wa := F09.own Ga (by simp)
      have hza := Ga.size
      have hTra : TrD wa (Dn (w.heap.size + 2) wa) (.agg #[.int .i64 th, .slice A1 n1 c1, .slice A2 n2 c2]) t := TrD.keep (fun k hk => by
        obtain ⟨k1, e1⟩ := dn_fr Ga (by simp; omega) k hk
        exact ⟨⟨by have := k1.1; omega, k1.2⟩, e1⟩) _ _ hTr
      have hD : DeD wa (Dn (w.heap.size + 2) wa) (.agg #[.int .i64 nd, .int .i64 sq, .int .i64 th, .slice A1 n1 c1, .slice A2 n2 c2, .int .u64 (tg : Int)]) ⟨nd, sq, t, tg⟩ := ⟨th, _, _, rfl, hTra, hnd, hsq, HTG.out⟩
      have R0 := b0a.cell
      have Z0 := b0a.free
      have hl0 := blk_lt b0a
      clear hW R9 Z9 b19 b09 hTr
      have R1a := b1a.cell
      obtain ⟨X, hX⟩ : ∃ X, X = bs (txtD ⟨nd, sq, t, tg⟩) := ⟨_, rfl⟩
      have hne : (X.toList != S.toList) = true := by
        rw [bne_iff_ne, hX, bs_toList, ByteArray.toList_eq]
        intro h
        unfold txtD at h
        split at h
        · rename_i hp
          exact HNO.out _ hp HTG.out h
        · exact hS0 h.symm
      have hne1 : (X.toList == S.toList) = false := by rw [beq_eq_false_iff_ne]; rw [bne_iff_ne] at hne; exact hne
      have con := dtextG_any ⟨nd, sq, t, tg⟩ _ _ none (hD.keep (dn_dm (by simp))) (by show t.size ≤ _; omega) (hT.fr F0a) (hB.fr F0a)
      rw [← hX] at con
      clear hS0 b1a hX hD hTra R0 Z0 hl0
      refine con.mono ?_
      rintro e wb ⟨rfl, Fb⟩
      have b0b := b0a.fr Fb (by simp)
      have R0 := b0b.cell
      have Z0 := b0b.free
      have hl0 := blk_lt b0b
      clear con R1a
      go_wp2_with fail
      refine bodyPost_ret (v := .tuple #[.agg #[.int .i64 0, .int .i64 0, .int .i64 0, .slice none 0 0, .slice none 0 0, .int .u64 0], .int .i64 2]) (by simp [results, Tryz.results35, go_sem, R0]) rfl ?_
      exact ⟨rfl, (F0a.pure Fb).own (fr_fill6 wb w.heap.size (.int .i64 0) (.int .i64 0) (.int .i64 0) (.slice none 0 0) (.slice none 0 0) (.int .u64 0)) (by simp)⟩
  · clear hx
    go_wp2_with fail
    refine bodyPost_ret (v := .tuple #[.agg #[.int .i64 0, .int .i64 0, .int .i64 0, .slice none 0 0, .slice none 0 0, .int .u64 0], .int .i64 2]) (by simp [results, Tryz.results35, go_sem, R0]) rfl ?_
    exact ⟨rfl, (F08).own (fr_fill6 w8 w.heap.size (.int .i64 0) (.int .i64 0) (.int .i64 0) (.slice none 0 0) (.slice none 0 0) (.int .u64 0)) (by simp)⟩
end Go.Proofs.YtoblhcieidljjaaGreatDoor

/- Walks: the reference's Parse of declarations. -/
namespace Go.Proofs.YtoblhcieidljjaaGreatDoor
open Go.RowKit

theorem rdtextG_any (d : De) (v : Value) (w : World) (r : Option Nat) (h : DeD w (Dm w r) v d) (hs : d.tr.size ≤ 1073741000) (hT : Tab w) :
    Calls Tryz.prog 24 #[v] w fun e w' => e = .returned (.string (bs (txtD d))) ∧ Fr none w w' := by
  unfold txtD
  by_cases hp : plainE d = 0
  · rw [if_pos hp]
    exact rdtextP_any d v w r h hp hT
  · rw [if_neg hp]
    exact rdtextN_any d v w r h hs hp
theorem numV_lt : ∀ (l : List UInt8) (n : Nat), (∀ c ∈ l, isDg c = true) → numV n l < (n + 1) * 10 ^ l.length
  | [], n, _ => by simp [numV]
  | c :: r, n, h => by
    have ih := numV_lt r (10 * n + (c.toNat - 48)) (fun x hx => h x (List.mem_cons_of_mem _ hx))
    have hc : 48 ≤ c.toNat ∧ c.toNat ≤ 57 := by simpa [isDg] using h c (by simp)
    have e : numV n (c :: r) = numV (10 * n + (c.toNat - 48)) r := rfl
    rw [e, List.length_cons, Nat.pow_succ]
    refine Nat.lt_of_lt_of_le ih ?_
    rw [Nat.mul_comm (10 ^ r.length) 10, ← Nat.mul_assoc]
    exact Nat.mul_le_mul_right _ (by omega)
theorem smlV_le (l : List UInt8) : smlV l ≤ 999 := by
  unfold smlV
  split
  · omega
  · split
    · rename_i h1 h2
      have := numV_lt l 0 (by rw [List.all_eq_true] at h2; exact h2)
      have hp : 10 ^ l.length ≤ 10 ^ 3 := Nat.pow_le_pow_right (by omega) (by omega)
      omega
    · omega
theorem parse_no {l : List UInt8} {a : Nat} {x : Int} (h : parseP l = .no a x) : x ≠ 0 := by
  unfold parseP at h
  split at h
  · injection h with _ h2; omega
  · split at h
    · injection h with _ h2; omega
    · split at h
      · injection h with _ h2; omega
      · split at h
        · injection h with _ h2; rw [← h2]; assumption
        · cases h
theorem or_u64 (a k : Nat) (h : 16 * a + k < 18446744073709551616) (hk : k < 16) : bits .or .u64 ((16 * a : Nat) : Int) (k : Int) = ((16 * a + k : Nat) : Int) := by
  show IntKind.u64.wrap ((BitVec.ofInt 64 ((16 * a : Nat) : Int) ||| BitVec.ofInt 64 (k : Int)).toNat : Int) = _
  have e1 : (BitVec.ofInt 64 ((16 * a : Nat) : Int)).toNat = 16 * a := by simp [BitVec.toNat_ofInt]; omega
  have e2 : (BitVec.ofInt 64 (k : Int)).toNat = k := by simp [BitVec.toNat_ofInt]; omega
  rw [BitVec.toNat_or, e1, e2]
  have e3 : 16 * a + k = 16 * a ||| k := Nat.two_pow_add_eq_or_of_lt (i := 4) hk a
  rw [← e3, IntKind.wrap_u64]
  omega

theorem rdR_len (l : List UInt8) : (rdR l).length ≤ l.length := by
  have h1 := wd2_len l
  have h2 := wd2_len (wd2 l)
  have h3 := wd2_len (wd2 (wd2 l))
  unfold rdR; omega
/-- What the reference leaves of a text of a declaration. -/
def RdpE (l : List UInt8) (w : World) (e : Ending) (w' : World) : Prop :=
  (∃ d v, e = .returned (.tuple #[v, .int .i64 0]) ∧ textD d = l ∧ plainE d = 0 ∧ d.tag < 18446744073709551616 ∧ DeD w' (Dn w.heap.size w') v d ∧ Fr none w w') ∨
  (e = .returned (.tuple #[zeroDv, .int .i64 2]) ∧ (∀ d : De, plainE d = 0 → d.tag < 18446744073709551616 → textD d ≠ l) ∧ Fr none w w')

set_option maxRecDepth 100000 in
set_option maxHeartbeats 16000000 in
theorem rdparse_any (S : ByteArray) (w : World) (hz : S.size ≤ 6000) (hT : Tab w) :
    Calls Tryz.prog 36 #[.string S] w (RdpE S.data.toList w) := by
  have hsl := size_list S
  obtain ⟨L, hL⟩ : ∃ L, L = S.data.toList := ⟨_, rfl⟩
  have hLl : L.length ≤ 6000 := by rw [hL]; omega
  have hw1 := wd2_len L
  have hw2 := wd2_len (wd2 L)
  have hw3 := wd2_len (wd2 (wd2 L))
  have hx1 := wd1_len (wd2 L)
  have hx2 := wd1_len (wd2 (wd2 L))
  have hR : rdR L = wd2 (wd2 (wd2 L)) := rfl
  have hRl : (rdR L).length ≤ 6000 := by rw [hR]; omega
  have HL := Lib.hid hL
  have HLl := Lib.hid hLl
  have HW1 := Lib.hid hw1
  have HW2 := Lib.hid hw2
  have HX1 := Lib.hid hx1
  have HX2 := Lib.hid hx2
  have HRL := Lib.hid hRl
  rw [← hL]
  clear hL hLl hw1 hw2 hw3 hx1 hx2 hR hRl hsl
  go_enter Tryz.func36, Tryz.ntmps36
  go_wp2_with fail
  generalize hW : w.alloc _ = w1
  have F1 : Fr none w w1 := hW ▸ (Fr.refl _ w).alloc _
  have b1 : DB w1 w.heap.size (.int .i64 0) (.int .i64 0) (.int .i64 0) (.slice none 0 0) (.slice none 0 0) (.int .u64 0) := by rw [← hW]; exact blk_new _ _
  clear hW
  refine (word_any S _ (by omega)).mono ?_
  rintro e w2 ⟨rfl, F2⟩
  rw [← HL.out]
  obtain ⟨R1, hR1⟩ : ∃ R1, R1 = bs (wd2 L) := ⟨_, rfl⟩
  have h1l : Hid (R1.data.toList = wd2 L) := by unfold Hid; rw [hR1, bs_list]
  have h1s : R1.size ≤ 6000 := by rw [hR1, bs_size]; have := HLl.out; have := HW1.out; omega
  rw [← hR1]
  clear hR1
  go_wp2_with fail
  refine (word_any R1 _ (by omega)).mono ?_
  rintro e w3 ⟨rfl, F3⟩
  rw [h1l.out]
  obtain ⟨R2, hR2⟩ : ∃ R2, R2 = bs (wd2 (wd2 L)) := ⟨_, rfl⟩
  have h2l : Hid (R2.data.toList = wd2 (wd2 L)) := by unfold Hid; rw [hR2, bs_list]
  have h2s : R2.size ≤ 6000 := by rw [hR2, bs_size]; have := HLl.out; have := HW1.out; have := HW2.out; omega
  obtain ⟨N1, hN1⟩ : ∃ N1, N1 = bs (wd1 (wd2 L)) := ⟨_, rfl⟩
  have n1l : Hid (N1.data.toList = wd1 (wd2 L)) := by unfold Hid; rw [hN1, bs_list]
  have n1s : N1.size ≤ 6000 := by rw [hN1, bs_size]; have := HLl.out; have := HW1.out; have := HX1.out; omega
  rw [← hR2, ← hN1]
  clear hR2 hN1
  go_wp2_with fail
  refine (word_any R2 _ (by omega)).mono ?_
  rintro e w4 ⟨rfl, F4⟩
  rw [h2l.out]
  obtain ⟨R, hR⟩ : ∃ R, R = bs (wd2 (wd2 (wd2 L))) := ⟨_, rfl⟩
  have hRl : Hid (R.data.toList = rdR L) := by unfold Hid; rw [hR, bs_list]; rfl
  have hRs : R.size = (rdR L).length := by rw [hR, bs_size]; rfl
  obtain ⟨N2, hN2⟩ : ∃ N2, N2 = bs (wd1 (wd2 (wd2 L))) := ⟨_, rfl⟩
  have n2l : Hid (N2.data.toList = wd1 (wd2 (wd2 L))) := by unfold Hid; rw [hN2, bs_list]
  have n2s : N2.size ≤ 6000 := by rw [hN2, bs_size]; have := HLl.out; have := HW1.out; have := HW2.out; have := HX2.out; omega
  rw [← hR, ← hN2]
  have hRz : R.size ≤ 6000 := by rw [hRs]; exact HRL.out
  have HRS := Lib.hid hRs
  clear hR hN2 hRs
  have F14 := ((F1.pure F2).pure F3).pure F4
  have b4 := ((b1.fr F2 (by simp)).fr F3 (by simp)).fr F4 (by simp)
  clear F1 F2 F3 F4 b1
  by_cases h17 : R.size < 17
  · have HNO : Hid (∀ d : De, plainE d = 0 → d.tag < 18446744073709551616 → textD d ≠ L) := by
      unfold Hid
      intro d hp ht he
      have := rdD_text d hp ht
      rw [he] at this
      unfold rdD at this
      rw [if_pos (by rw [← HRS.out]; exact h17)] at this
      cases this
    have R0 := (b4).cell
    have hl0 := blk_lt (b4)
    have Z0 := (b4).free
    go_wp2_with fail
    refine bodyPost_ret (v := .tuple #[.agg #[.int .i64 0, .int .i64 0, .int .i64 0, .slice none 0 0, .slice none 0 0, .int .u64 0], .int .i64 2]) (by simp [results, Tryz.results36, go_sem, R0]) rfl ?_
    exact .inr ⟨rfl, HNO.out, (F14).own (fr_fill6 w4 w.heap.size (.int .i64 0) (.int .i64 0) (.int .i64 0) (.slice none 0 0) (.slice none 0 0) (.int .u64 0)) (by simp)⟩
  · obtain ⟨M, hM⟩ : ∃ M : Nat, M + 17 = R.size := ⟨R.size - 17, by omega⟩
    have hMi : ((R.size : Int) - 17) = (M : Int) := by omega
    have hMj : ((R.size : Int) - 16) = ((M + 1 : Nat) : Int) := by omega
    go_wp2_with fail
    refine (small7_any N1 _ (by omega)).mono ?_
    rintro e w5 ⟨rfl, hw⟩
    subst hw
    rw [n1l.out]
    obtain ⟨nd, hnd⟩ : ∃ nd, nd = smlV (wd1 (wd2 L)) := ⟨_, rfl⟩
    have hnd9 : nd ≤ 999 := hnd ▸ smlV_le _
    rw [← hnd]
    have HND := Lib.hid hnd
    clear hnd
    go_wp2_with fail
    refine (small7_any N2 _ (by omega)).mono ?_
    rintro e w5 ⟨rfl, hw⟩
    subst hw
    rw [n2l.out]
    obtain ⟨sq, hsq⟩ : ∃ sq, sq = smlV (wd1 (wd2 (wd2 L))) := ⟨_, rfl⟩
    have hsq9 : sq ≤ 999 := hsq ▸ smlV_le _
    rw [← hsq]
    have HSQ := Lib.hid hsq
    clear hsq
    go_wp2_with fail
    generalize hW : World.alloc _ _ = w5
    have F5 : Fr none w4 w5 := hW ▸ (Fr.refl _ w4).alloc _
    have b5 : DB w5 w4.heap.size (.int .i64 (nd : Int)) (.int .i64 (sq : Int)) (.int .i64 0) (.slice none 0 0) (.slice none 0 0) (.int .u64 0) := by rw [← hW]; exact blk_new _ _
    have hz5 := F5.size
    have hl5 := blk_lt b5
    have hz4 := blk_lt b4
    have b45 := b4.fr F5 (by simp)
    have F15 := F14.pure F5
    clear hW b4
    obtain ⟨T1, hT1⟩ : ∃ T1, T1 = R.extract 0 M := ⟨_, rfl⟩
    have ht1 : Hid (T1.data.toList = (rdR L).take ((rdR L).length - 17)) := by
      unfold Hid; rw [hT1, Lib.extract_data, hRl.out, ← HRS.out]; simp; congr 1; omega
    try rw [← hT1]
    clear hT1
    refine (rparse_any T1 _).mono ?_
    rintro e w9 ⟨th, A1, n1, c1, A2, n2, c2, k, er, rfl, F9, _, hgot⟩
    rw [ht1.out] at hgot
    have b09 := b45.fr F9 (by simp)
    have b19 := b5.fr F9 (by simp)
    have R9 := b19.cell
    have Z9 := b19.free
    have hz9 := F9.size
    have F19 := F15.pure F9
    have hb9 := blk_lt b19
    clear b45 b5
    cases hpp : parseP ((rdR L).take ((rdR L).length - 17)) with
    | no a x =>
      rw [hpp] at hgot
      obtain ⟨rfl, rfl, hz0⟩ := hgot
      have hx0 : (er != 0) = true := by rw [bne_iff_ne]; exact parse_no hpp
      have HNO : Hid (∀ d : De, plainE d = 0 → d.tag < 18446744073709551616 → textD d ≠ L) := by
        unfold Hid
        intro d hp ht he
        have := rdD_text d hp ht
        rw [he] at this
        unfold rdD at this
        rw [if_neg (by rw [← HRS.out]; exact h17), hpp] at this
        cases this
      clear hpp hz0
      have R0 := b09.cell
      have Z0 := b09.free
      have hl0 := blk_lt b09
      go_wp2_with fail
      refine bodyPost_ret (v := .tuple #[.agg #[.int .i64 0, .int .i64 0, .int .i64 0, .slice none 0 0, .slice none 0 0, .int .u64 0], .int .i64 2]) (by simp [results, Tryz.results36, go_sem, R0]) rfl ?_
      generalize hW : World.setCell (World.setCell (World.setCell w9 _ _) _ _) _ _ = wa
      have Ga : Fr (some w4.heap.size) w9 wa := by
        rw [← hW]
        exact Fr.setRow (p := ⟨w4.heap.size, 4, none⟩) (Fr.setRow (p := ⟨w4.heap.size, 3, none⟩) (Fr.set1 w9 ⟨w4.heap.size, 2, none⟩ _) rfl _) rfl _
      exact .inr ⟨rfl, HNO.out, (F19.own Ga (by simp; omega)).own (fr_fill6 wa w.heap.size (.int .i64 0) (.int .i64 0) (.int .i64 0) (.slice none 0 0) (.slice none 0 0) (.int .u64 0)) (by simp)⟩
    | ok t =>
      rw [hpp] at hgot
      obtain ⟨rfl, rfl, hTr, hva⟩ := hgot
      have hts := (valid_facts hva).2.1
      have HPP := Lib.hid hpp
      clear hpp hva
      go_wp2_with fail
      generalize hW : World.setCell _ _ _ = wa
      have Ga : Fr (some w4.heap.size) w9 wa := by
        rw [← hW]
        exact Fr.setRow (p := ⟨w4.heap.size, 4, none⟩) (Fr.setRow (p := ⟨w4.heap.size, 3, none⟩) (Fr.set1 w9 ⟨w4.heap.size, 2, none⟩ _) rfl _) rfl _
      have b1a : DB wa w4.heap.size (.int .i64 (nd : Int)) (.int .i64 (sq : Int)) (.int .i64 th) (.slice A1 n1 c1) (.slice A2 n2 c2) (.int .u64 0) := by
        rw [← hW]
        exact blk_set (blk_set (blk_set b19 2 _) 3 _) 4 _
      have b0a := b09.fr Ga (by simp; omega)
      have F0a := F19.own Ga (by simp; omega)
      have hza := Ga.size
      have hTra : TrD wa (Dn (w4.heap.size + 1) wa) (.agg #[.int .i64 th, .slice A1 n1 c1, .slice A2 n2 c2]) t := TrD.keep (fun k hk => by
        obtain ⟨k1, e1⟩ := dn_fr Ga (by simp; omega) k hk
        exact ⟨⟨by have := k1.1; omega, k1.2⟩, e1⟩) _ _ hTr
      clear hW R9 Z9 b19 b09 hTr
      obtain ⟨G, hG⟩ : ∃ G, G = (rdR L).drop ((rdR L).length - 16) := ⟨_, rfl⟩
      have hGl : G.length = 16 := by rw [hG, List.length_drop, ← HRS.out]; omega
      have HGL := Lib.hid hGl
      clear hGl
      have hGc : ∀ j (hj : j < 16), ∃ h : M + 1 + j < R.size, R[M + 1 + j] = G[j]'(by have := HGL.out; omega) := by
        intro j hj
        refine ⟨by omega, ?_⟩
        have e : R[M + 1 + j]'(by omega) = R.data.toList[M + 1 + j]'(by rw [← size_list]; omega) := rfl
        rw [e]
        subst hG
        simp only [List.getElem_drop, hRl.out]
        congr 1
        rw [← HRS.out]; omega
      have HG := Lib.hid hG
      have HGC := Lib.hid hGc
      clear hG hGc
      go_loopw [10, 11, 12] (fun s10 _ _ wr => ∃ (j i : Nat), Hid (i = M + 1 + j) ∧ i ≤ R.size ∧ s10 = .int .i64 (i : Int) ∧ DB wr w4.heap.size (.int .i64 (nd : Int)) (.int .i64 (sq : Int)) (.int .i64 th) (.slice A1 n1 c1) (.slice A2 n2 c2) (.int .u64 (hxV (G.take j) : Nat)) ∧ Fr (some w4.heap.size) wa wr) (fun s10 _ _ _ => R.size - (intOf s10).toNat)
      case atStart => exact ⟨0, M + 1, rfl, by omega, by go_num, by simpa [hxV] using b1a, Fr.refl _ _⟩
      case round =>
        obtain ⟨j, i, HI, hi, rfl, B, FR⟩ := hrel
        by_cases hlt : i < R.size
        · have hj16 : j < 16 := by have := HI.out; omega
          obtain ⟨hlr, hcc⟩ := HGC.out j hj16
          have hcc2 : R[i] = G[j]'(by have := HGL.out; omega) := by rw [← hcc]; congr 1 <;> exact HI.out
          obtain ⟨c, hc⟩ : ∃ c, c = R[i] := ⟨_, rfl⟩
          obtain ⟨p, hp⟩ : ∃ p, p = hxV (G.take j) := ⟨_, rfl⟩
          have hpl : p < 18446744073709551616 := hp ▸ hxV_lt _
          have hc2 : c.toNat < 256 := c.toNat_lt
          obtain ⟨q, hq⟩ : ∃ q, q = p % 1152921504606846976 := ⟨_, rfl⟩
          have hq16 : q < 1152921504606846976 := by rw [hq]; exact Nat.mod_lt p (by decide)
          have hshl : IntKind.u64.wrap ((p : Int) * 16) = 16 * (q : Int) := by rw [IntKind.wrap_u64, hq]; omega
          obtain ⟨k, hk⟩ : ∃ k, k = hxd c := ⟨_, rfl⟩
          have hk16 : k < 16 := hk ▸ hxd_lt c
          obtain ⟨Z, hZ⟩ : ∃ Z, Z = 16 * q + k := ⟨_, rfl⟩
          have hstep : hxV (G.take (j + 1)) = Z := by
            rw [hxV_snoc G j (by have := HGL.out; omega), ← hp, ← hcc2, ← hc, hZ, hk]
            have := hxd_lt c
            unfold hxstep
            rw [hq]; omega
          have HZ := Lib.hid hstep
          have hor : bits .or .u64 (16 * (q : Int)) (k : Int) = (Z : Int) := by
            have := or_u64 q k (by omega) hk16
            rw [hZ, ← this]; congr 1
          have hor0 : k = 0 → bits .or .u64 (16 * (q : Int)) 0 = (Z : Int) := fun h => by
            rw [h] at hor; exact hor
          have HO0 := Lib.hid hor0
          have hR : R[i].toNat = c.toNat := by rw [hc]
          have hxe : k = if 48 ≤ c.toNat ∧ c.toNat ≤ 57 then c.toNat - 48 else if 97 ≤ c.toNat ∧ c.toNat ≤ 102 then c.toNat - 87 else 0 := hk
          rw [← hp] at B
          have RC := B.cell
          have ZC := B.free
          have hlb := blk_lt B
          clear hp hpl hq hstep hcc hcc2 hc hk hZ hor0 hlr
          by_cases g1 : 48 ≤ c.toNat ∧ c.toNat ≤ 57
          · rw [if_pos g1] at hxe
            obtain ⟨a1, a2⟩ := g1
            have hk1 : (c.toNat : Int) - 48 = (k : Int) := by omega
            clear hxe
            go_wp2_with fail
            generalize hW : World.setCell _ _ _ = wn
            have BN : DB wn w4.heap.size (.int .i64 (nd : Int)) (.int .i64 (sq : Int)) (.int .i64 th) (.slice A1 n1 c1) (.slice A2 n2 c2) (.int .u64 (Z : Nat)) := by rw [← hW]; exact blk_set B 5 _
            have FN : Fr (some w4.heap.size) wa wn := by rw [← hW]; exact Fr.setRow (p := ⟨w4.heap.size, 5, none⟩) FR rfl _
            clear hW RC ZC
            go_roundw
            case rel => exact ⟨j + 1, i + 1, by unfold Hid; have := HI.out; omega, by omega, by go_num, by rw [HZ.out]; exact BN, FN⟩
            case measure => simp [intOf]; omega
          · by_cases g2 : 97 ≤ c.toNat ∧ c.toNat ≤ 102
            · rw [if_neg g1, if_pos g2] at hxe
              obtain ⟨a1, a2⟩ := g2
              have a3 : 48 ≤ c.toNat := by omega
              have a4 : 57 < c.toNat := by omega
              obtain ⟨k2, hk2⟩ : ∃ k2 : Nat, k2 + 97 = c.toNat := ⟨c.toNat - 97, by omega⟩
              have hk3 : (c.toNat : Int) - 97 = (k2 : Int) := by omega
              have hk4 : (k2 : Int) + 10 = (k : Int) := by omega
              clear hxe g1 hk2
              go_wp2_with fail
              generalize hW : World.setCell _ _ _ = wn
              have BN : DB wn w4.heap.size (.int .i64 (nd : Int)) (.int .i64 (sq : Int)) (.int .i64 th) (.slice A1 n1 c1) (.slice A2 n2 c2) (.int .u64 (Z : Nat)) := by rw [← hW]; exact blk_set B 5 _
              have FN : Fr (some w4.heap.size) wa wn := by rw [← hW]; exact Fr.setRow (p := ⟨w4.heap.size, 5, none⟩) FR rfl _
              clear hW RC ZC
              go_roundw
              case rel => exact ⟨j + 1, i + 1, by unfold Hid; have := HI.out; omega, by omega, by go_num, by rw [HZ.out]; exact BN, FN⟩
              case measure => simp [intOf]; omega
            · rw [if_neg g1, if_neg g2] at hxe
              subst hxe
              have hor := HO0.out rfl
              have hcs : c.toNat < 48 ∨ (48 ≤ c.toNat ∧ 57 < c.toNat ∧ c.toNat < 97) ∨ (48 ≤ c.toNat ∧ 57 < c.toNat ∧ 97 ≤ c.toNat ∧ 102 < c.toNat) := by omega
              clear g1 g2
              rcases hcs with a1 | ⟨a1, a2, a3⟩ | ⟨a1, a2, a3, a4⟩
              · have a5 : c.toNat < 97 := by omega
                go_wp2_with fail
                generalize hW : World.setCell _ _ _ = wn
                have BN : DB wn w4.heap.size (.int .i64 (nd : Int)) (.int .i64 (sq : Int)) (.int .i64 th) (.slice A1 n1 c1) (.slice A2 n2 c2) (.int .u64 (Z : Nat)) := by rw [← hW]; exact blk_set B 5 _
                have FN : Fr (some w4.heap.size) wa wn := by rw [← hW]; exact Fr.setRow (p := ⟨w4.heap.size, 5, none⟩) FR rfl _
                clear hW RC ZC
                go_roundw
                case rel => exact ⟨j + 1, i + 1, by unfold Hid; have := HI.out; omega, by omega, by go_num, by rw [HZ.out]; exact BN, FN⟩
                case measure => simp [intOf]; omega
              · skip
                go_wp2_with fail
                generalize hW : World.setCell _ _ _ = wn
                have BN : DB wn w4.heap.size (.int .i64 (nd : Int)) (.int .i64 (sq : Int)) (.int .i64 th) (.slice A1 n1 c1) (.slice A2 n2 c2) (.int .u64 (Z : Nat)) := by rw [← hW]; exact blk_set B 5 _
                have FN : Fr (some w4.heap.size) wa wn := by rw [← hW]; exact Fr.setRow (p := ⟨w4.heap.size, 5, none⟩) FR rfl _
                clear hW RC ZC
                go_roundw
                case rel => exact ⟨j + 1, i + 1, by unfold Hid; have := HI.out; omega, by omega, by go_num, by rw [HZ.out]; exact BN, FN⟩
                case measure => simp [intOf]; omega
              · skip
                go_wp2_with fail
                generalize hW : World.setCell _ _ _ = wn
                have BN : DB wn w4.heap.size (.int .i64 (nd : Int)) (.int .i64 (sq : Int)) (.int .i64 th) (.slice A1 n1 c1) (.slice A2 n2 c2) (.int .u64 (Z : Nat)) := by rw [← hW]; exact blk_set B 5 _
                have FN : Fr (some w4.heap.size) wa wn := by rw [← hW]; exact Fr.setRow (p := ⟨w4.heap.size, 5, none⟩) FR rfl _
                clear hW RC ZC
                go_roundw
                case rel => exact ⟨j + 1, i + 1, by unfold Hid; have := HI.out; omega, by omega, by go_num, by rw [HZ.out]; exact BN, FN⟩
                case measure => simp [intOf]; omega
        · obtain rfl : i = R.size := by omega
          have hj : j = 16 := by have := HI.out; omega
          subst hj
          have HT16 : Hid (G.take 16 = G) := by unfold Hid; exact List.take_of_length_le (by have := HGL.out; omega)
          rw [HT16.out] at B
          obtain ⟨tg, htg⟩ : ∃ tg, tg = hxV G := ⟨_, rfl⟩
          have htl : tg < 18446744073709551616 := htg ▸ hxV_lt _
          rw [← htg] at B
          have HTG := Lib.hid htg
          have HTL := Lib.hid htl
          have F0r := F0a.own FR (by simp; omega)
          have b0r := b0a.fr FR (by simp; omega)
          have hzr := FR.size
          have hD : DeD wr (Dn (w4.heap.size + 1) wr) (.agg #[.int .i64 (nd : Int), .int .i64 (sq : Int), .int .i64 th, .slice A1 n1 c1, .slice A2 n2 c2, .int .u64 (tg : Int)]) ⟨nd, sq, t, tg⟩ := ⟨th, _, _, rfl, TrD.keep (fun k hk => dn_fr FR (by simp) k hk) _ _ hTra, ⟨by show (-9223372036854775808 : Int) ≤ (nd : Int); omega, by show (nd : Int) ≤ 9223372036854775807; omega⟩, ⟨by show (-9223372036854775808 : Int) ≤ (sq : Int); omega, by show (sq : Int) ≤ 9223372036854775807; omega⟩, htl⟩
          obtain ⟨X, hX⟩ : ∃ X, X = bs (txtD ⟨nd, sq, t, tg⟩) := ⟨_, rfl⟩
          have con := rdtextG_any ⟨nd, sq, t, tg⟩ _ _ none (hD.keep (dn_dm (by simp))) (by show t.size ≤ _; omega) (hT.fr F0r)
          rw [← hX] at con
          have HX := Lib.hid hX
          have RC := B.cell
          have hlb := blk_lt B
          clear hX htg htl b1a b0a HGC HI
          go_wp2_with fail
          refine con.mono ?_
          rintro e wb ⟨rfl, Fb⟩
          have b0b := b0r.fr Fb (by simp)
          have b1b := B.fr Fb (by simp)
          have F0b := F0r.pure Fb
          have hzb := Fb.size
          clear con RC
          by_cases he : txtD ⟨nd, sq, t, tg⟩ = L
          · have hne : (X.toList != S.toList) = false := by
              rw [bne_eq_false_iff_eq, HX.out, bs_toList, ByteArray.toList_eq, ← HL.out]; exact he
            have hne1 : (X.toList == S.toList) = true := by rw [beq_iff_eq]; rw [bne_eq_false_iff_eq] at hne; exact hne
            have hpl : plainE ⟨nd, sq, t, tg⟩ = 0 ∧ textD ⟨nd, sq, t, tg⟩ = L := by
              unfold txtD at he
              split at he
              · rename_i hp; exact ⟨hp, he⟩
              · have h0 := rdR_len L
                rw [← he, List.length_nil, he, ← HRS.out] at h0
                omega
            have HPL := Lib.hid hpl
            clear he hpl
            have R1 := b1b.cell
            have R0 := b0b.cell
            have Z0 := b0b.free
            have hl0 := blk_lt b0b
            have hl1 := blk_lt b1b
            go_wp2_with fail
            refine bodyPost_ret (v := .tuple #[.agg #[.int .i64 (nd : Int), .int .i64 (sq : Int), .int .i64 th, .slice A1 n1 c1, .slice A2 n2 c2, .int .u64 (tg : Int)], .int .i64 0]) (by simp [results, Tryz.results36, go_sem, R0]) rfl ?_
            have G6 := fr_fill6 wb w.heap.size (.int .i64 (nd : Int)) (.int .i64 (sq : Int)) (.int .i64 th) (.slice A1 n1 c1) (.slice A2 n2 c2) (.int .u64 (tg : Int))
            refine .inl ⟨⟨nd, sq, t, tg⟩, _, rfl, HPL.out.2, HPL.out.1, HTL.out, hD.keep (fun k hk => ?_), F0b.own G6 (by simp)⟩
            obtain ⟨k1, e1⟩ := dn_fr Fb (by simp) k hk
            obtain ⟨k2, e2⟩ := dn_fr G6 (by simp; omega) k k1
            exact ⟨⟨by have := k2.1; omega, k2.2⟩, e2.trans e1⟩
          · have hne : (X.toList != S.toList) = true := by
              rw [bne_iff_ne, HX.out, bs_toList, ByteArray.toList_eq, ← HL.out]; exact he
            have hne1 : (X.toList == S.toList) = false := by rw [beq_eq_false_iff_ne]; rw [bne_iff_ne] at hne; exact hne
            have HNO : Hid (∀ d : De, plainE d = 0 → d.tag < 18446744073709551616 → textD d ≠ L) := by
              unfold Hid
              intro d hp ht hd
              have := rdD_text d hp ht
              rw [hd] at this
              unfold rdD at this
              rw [if_neg (by rw [← HRS.out]; exact h17), HPP.out] at this
              injection this with this
              apply he
              rw [← HND.out, ← HSQ.out, ← HG.out, ← HTG.out] at this
              rw [this]
              unfold txtD
              rw [if_pos hp]; exact hd
            clear he
            have R1 := b1b.cell
            have hl1 := blk_lt b1b
            have R0 := (b0b).cell
            have hl0 := blk_lt (b0b)
            have Z0 := (b0b).free
            go_wp2_with fail
            refine bodyPost_ret (v := .tuple #[.agg #[.int .i64 0, .int .i64 0, .int .i64 0, .slice none 0 0, .slice none 0 0, .int .u64 0], .int .i64 2]) (by simp [results, Tryz.results36, go_sem, R0]) rfl ?_
            exact .inr ⟨rfl, HNO.out, (F0b).own (fr_fill6 wb w.heap.size (.int .i64 0) (.int .i64 0) (.int .i64 0) (.slice none 0 0) (.slice none 0 0) (.int .u64 0)) (by simp)⟩
end Go.Proofs.YtoblhcieidljjaaGreatDoor

/- Walks: Parse of declarations at every text (program and reference). -/
namespace Go.Proofs.YtoblhcieidljjaaGreatDoor
open Go.RowKit

/-- What Parse answers. -/
def parD (l : List UInt8) : De × Int :=
  if 6000 < l.length then (zD, 3) else match rdD l with
    | some d => if txtD d = l ∧ l ≠ [] then (d, 0) else (zD, 2)
    | none => (zD, 2)
theorem rdD_tag {l : List UInt8} {d : De} (h : rdD l = some d) : d.tag < 18446744073709551616 := by
  unfold rdD at h
  split at h
  · cases h
  · split at h
    · cases h
    · injection h with h
      rw [← h]
      exact hxV_lt _
theorem parD_yes {l : List UInt8} {d : De} (hl : l.length ≤ 6000) (hp : plainE d = 0) (ht : d.tag < 18446744073709551616) (h : textD d = l) : parD l = (d, 0) := by
  have e := rdD_text d hp ht
  rw [h] at e
  have hne : l ≠ [] := by
    rw [← h]; unfold textD; simp
  unfold parD
  rw [if_neg (by omega), e]
  simp only
  rw [if_pos ⟨by unfold txtD; rw [if_pos hp]; exact h, hne⟩]
theorem parD_no {l : List UInt8} (hl : l.length ≤ 6000) (h : ∀ d : De, plainE d = 0 → d.tag < 18446744073709551616 → textD d ≠ l) : parD l = (zD, 2) := by
  unfold parD
  rw [if_neg (by omega)]
  cases e : rdD l with
  | none => rfl
  | some d =>
    simp only
    rw [if_neg]
    rintro ⟨h1, h2⟩
    unfold txtD at h1
    split at h1
    · rename_i hp
      exact h d hp (rdD_tag e) h1
    · exact h2 h1.symm
theorem parD_size (l : List UInt8) : (parD l).1.tr.size ≤ 200 := by
  unfold parD
  split
  · decide
  · split
    · rename_i d e
      split
      · rename_i h
        obtain ⟨h1, h2⟩ := h
        unfold txtD at h1
        split at h1
        · rename_i hp
          have := (plain_parts hp).2.2.2.2
          show d.tr.size ≤ 200
          omega
        · exact absurd h1.symm h2
      · decide
    · decide

set_option maxRecDepth 100000 in
theorem dparseG_any (S : ByteArray) (w : World) (hz : S.size ≤ 1073741824) (hT : Tab w) (hB : Deb w) (hE : Errs w) :
    Calls Tryz.prog 35 #[.string S] w (SgnQ (parD S.data.toList).1 (parD S.data.toList).2 none w) := by
  have hsl := size_list S
  by_cases h6 : 6000 < S.size
  · have HP : Hid (parD S.data.toList = (zD, 3)) := by unfold Hid parD; rw [if_pos (by omega)]
    clear hsl
    unfold SgnQ
    have hd : decide ((6000 : Int) < (S.size : Int)) = true := decide_eq_true (by omega)
    clear h6
    go_enter Tryz.func35, Tryz.ntmps35
    go_wp2_with fail
    generalize hW : World.alloc _ _ = w1
    have F1 : Fr none w w1 := by rw [← hW]; first | exact (Fr.refl _ w).alloc _ | exact ((Fr.refl _ w).alloc _).alloc _
    have R1 : ∀ i, w1.cell? ⟨w.heap.size, i, none⟩ = (#[.int .i64 0, .int .i64 0, .int .i64 0, .slice none 0 0, .slice none 0 0, .int .u64 0] : Array Value)[i]? := by
      rw [← hW]; first | exact blk_cell (blk_new _ _) | exact blk_cell ((Below.heap_alloc _ _ _ (by simp)).trans (blk_new _ _))
    refine bodyPost_ret (v := .tuple #[.agg #[.int .i64 0, .int .i64 0, .int .i64 0, .slice none 0 0, .slice none 0 0, .int .u64 0], .int .i64 3]) (by simp [results, Tryz.results35, go_sem, R1]) rfl ?_
    rw [HP.out]
    exact ⟨_, rfl, ded0 _ _, F1⟩
  · by_cases h : ∃ d : De, plainE d = 0 ∧ d.tag < 18446744073709551616 ∧ textD d = S.data.toList
    · obtain ⟨d, h1, h2, h3⟩ := h
      refine (dparse_any d S w h3.symm h1 h2 hT hB).mono ?_
      rintro e w' ⟨v, rfl, hD, F⟩
      refine ⟨v, ?_, ?_, F⟩
      · rw [parD_yes (by omega) h1 h2 h3]
      · rw [parD_yes (by omega) h1 h2 h3]
        exact hD.keep (dn_dm (by simp))
    · have hno : ∀ d : De, plainE d = 0 → d.tag < 18446744073709551616 → textD d ≠ S.data.toList := fun d h1 h2 h3 => h ⟨d, h1, h2, h3⟩
      refine (dparseN_any S w (by omega) hno hT hB hE).mono ?_
      rintro e w' ⟨rfl, F⟩
      refine ⟨zeroDv, ?_, ?_, F⟩
      · rw [parD_no (by omega) hno]
      · rw [parD_no (by omega) hno]
        exact ded0 _ _

set_option maxRecDepth 100000 in
theorem rdparseG_any (S : ByteArray) (w : World) (hz : S.size ≤ 1073741824) (hT : Tab w) :
    Calls Tryz.prog 36 #[.string S] w (SgnQ (parD S.data.toList).1 (parD S.data.toList).2 none w) := by
  have hsl := size_list S
  by_cases h6 : 6000 < S.size
  · have HP : Hid (parD S.data.toList = (zD, 3)) := by unfold Hid parD; rw [if_pos (by omega)]
    clear hsl
    unfold SgnQ
    have hd : decide ((6000 : Int) < (S.size : Int)) = true := decide_eq_true (by omega)
    clear h6
    go_enter Tryz.func36, Tryz.ntmps36
    go_wp2_with fail
    generalize hW : World.alloc _ _ = w1
    have F1 : Fr none w w1 := by rw [← hW]; first | exact (Fr.refl _ w).alloc _ | exact ((Fr.refl _ w).alloc _).alloc _
    have R1 : ∀ i, w1.cell? ⟨w.heap.size, i, none⟩ = (#[.int .i64 0, .int .i64 0, .int .i64 0, .slice none 0 0, .slice none 0 0, .int .u64 0] : Array Value)[i]? := by
      rw [← hW]; first | exact blk_cell (blk_new _ _) | exact blk_cell ((Below.heap_alloc _ _ _ (by simp)).trans (blk_new _ _))
    refine bodyPost_ret (v := .tuple #[.agg #[.int .i64 0, .int .i64 0, .int .i64 0, .slice none 0 0, .slice none 0 0, .int .u64 0], .int .i64 3]) (by simp [results, Tryz.results36, go_sem, R1]) rfl ?_
    rw [HP.out]
    exact ⟨_, rfl, ded0 _ _, F1⟩
  · refine (rdparse_any S w (by omega) hT).mono ?_
    rintro e w' (⟨d, v, rfl, h3, h1, h2, hD, F⟩ | ⟨rfl, hno, F⟩)
    · refine ⟨v, ?_, ?_, F⟩
      · rw [parD_yes (by omega) h1 h2 h3]
      · rw [parD_yes (by omega) h1 h2 h3]
        exact hD.keep (dn_dm (by simp))
    · refine ⟨zeroDv, ?_, ?_, F⟩
      · rw [parD_no (by omega) hno]
      · rw [parD_no (by omega) hno]
        exact ded0 _ _
end Go.Proofs.YtoblhcieidljjaaGreatDoor

/- Walks: Sign of declarations of all sorts (program and reference). -/
namespace Go.Proofs.YtoblhcieidljjaaGreatDoor
open Go.RowKit

/-- What Sign hands back. -/
def sgD (k : Nat) (nd sq : Int) (t : Tr) : De := if plainE ⟨nd, sq, t, 0⟩ = 0 then ⟨nd, sq, t, tagS k (bytesS ⟨nd, sq, t, 0⟩)⟩ else zD

set_option maxRecDepth 100000 in
set_option maxHeartbeats 2000000 in
theorem signN_any (k : Nat) (nd sq : Int) (t : Tr) (v : Value) (w : World) (r : Option Nat) (hn : Wi nd) (hq : Wi sq) (hs : t.size ≤ 1073741000) (h : TrR w r v t) (hp : plainE ⟨nd, sq, t, 0⟩ ≠ 0) :
    Calls Tryz.prog 29 #[.int .u64 k, .int .i64 nd, .int .i64 sq, v] w fun e w' => e = .returned (.tuple #[zeroDv, .int .i64 (plainE ⟨nd, sq, t, 0⟩)]) ∧ Fr none w w' := by
  obtain ⟨th, A1, n1, c1, A2, n2, c2, rfl⟩ := TrD.shape h
  obtain ⟨E, hE⟩ : ∃ E, E = plainE ⟨nd, sq, t, 0⟩ := ⟨_, rfl⟩
  rw [← hE] at hp ⊢
  have hE0 : (E == 0) = false := by rw [beq_eq_false_iff_ne]; exact hp
  have hE1 : (E != 0) = true := by rw [bne_iff_ne]; exact hp
  have HE := Lib.hid hE
  clear hE hp
  go_enter Tryz.func29, Tryz.ntmps29
  go_wp2_with fail
  generalize hW : (w.alloc _).alloc _ = w0
  have hz0 : w0.heap.size = w.heap.size + 2 := by rw [← hW]; simp
  have F0 : Fr none w w0 := hW ▸ ((Fr.refl none w).alloc _).alloc _
  have b8 : DB w0 (w.heap.size + 1) (.int .i64 0) (.int .i64 0) (.int .i64 0) (.slice none 0 0) (.slice none 0 0) (.int .u64 0) := by
    rw [← hW]
    exact blk_new_at (by simp) _
  clear hW
  have h0 := h.fr (F0.mono (r := r))
  refine (copied_any t.dep t _ _ r (Nat.le_refl _) h0).mono ?_
  rintro e wc ⟨v3, rfl, hT3, Fc⟩
  obtain ⟨th', a1, m1, e1, a2, m2, e2, rfl⟩ := hT3.shape
  have b8 := b8.fr Fc (by simp)
  have hzc := Fc.size
  have F0c := F0.pure Fc
  have hT3 := TrD.keep (D' := fun b => w.heap.size + 2 ≤ b ∧ b < wc.heap.size) (fun q hb => ⟨⟨by have := hb.1; omega, hb.2⟩, rfl⟩) _ _ hT3
  have hlt1 : w.heap.size + 1 < wc.heap.size := by omega
  clear hz0 h0 Fc F0 h
  go_wp2_with fail
  generalize hW : wc.alloc _ = w1
  have F1 : Fr none wc w1 := hW ▸ (Fr.refl none wc).alloc _
  have b10 : DB w1 wc.heap.size (.int .i64 nd) (.int .i64 sq) (.int .i64 th') (.slice a1 m1 e1) (.slice a2 m2 e2) (.int .u64 0) := by
    rw [← hW]
    exact blk_new _ _
  clear hW
  have b8 := b8.fr F1 (by simp)
  have hT4 := TrD.keep (fun q hb => ⟨hb, F1.block q hb.2 (by simp)⟩) _ _ hT3
  have hz11 := F1.size
  have h1 : DeD w1 (Dm w1 none) (.agg #[.int .i64 nd, .int .i64 sq, .int .i64 th', .slice a1 m1 e1, .slice a2 m2 e2, .int .u64 0]) ⟨nd, sq, t, 0⟩ := ⟨th', _, _, rfl, TrD.keep (fun q hb => ⟨⟨by omega, by simp⟩, rfl⟩) _ _ hT4, hn, hq, by simp⟩
  have F01 := F0c.pure F1
  refine (plain_any ⟨nd, sq, t, 0⟩ _ _ none hs h1).mono ?_
  rintro e w2 ⟨rfl, F2⟩
  rw [← HE.out]
  have R8 := (b8.fr F2 (by simp)).cell
  have Z8 := (b8.fr F2 (by simp)).free
  have hl8 := blk_lt (b8.fr F2 (by simp))
  clear b10 b8
  go_wp2_with fail
  refine bodyPost_ret (v := .tuple #[.agg #[.int .i64 0, .int .i64 0, .int .i64 0, .slice none 0 0, .slice none 0 0, .int .u64 0], .int .i64 E]) (by simp [results, Tryz.results29, go_sem, R8]) rfl ?_
  exact ⟨rfl, (F01.pure F2).own (fr_fill6 w2 (w.heap.size + 1) (.int .i64 0) (.int .i64 0) (.int .i64 0) (.slice none 0 0) (.slice none 0 0) (.int .u64 0)) (by simp)⟩

set_option maxRecDepth 100000 in
set_option maxHeartbeats 2000000 in
theorem rsignN_any (k : Nat) (nd sq : Int) (t : Tr) (v : Value) (w : World) (r : Option Nat) (hn : Wi nd) (hq : Wi sq) (hs : t.size ≤ 1073741000) (h : TrR w r v t) (hp : plainE ⟨nd, sq, t, 0⟩ ≠ 0) :
    Calls Tryz.prog 30 #[.int .u64 k, .int .i64 nd, .int .i64 sq, v] w fun e w' => e = .returned (.tuple #[zeroDv, .int .i64 (plainE ⟨nd, sq, t, 0⟩)]) ∧ Fr none w w' := by
  obtain ⟨th, A1, n1, c1, A2, n2, c2, rfl⟩ := TrD.shape h
  obtain ⟨E, hE⟩ : ∃ E, E = plainE ⟨nd, sq, t, 0⟩ := ⟨_, rfl⟩
  rw [← hE] at hp ⊢
  have hE0 : (E == 0) = false := by rw [beq_eq_false_iff_ne]; exact hp
  have hE1 : (E != 0) = true := by rw [bne_iff_ne]; exact hp
  have HE := Lib.hid hE
  clear hE hp
  go_enter Tryz.func30, Tryz.ntmps30
  go_wp2_with fail
  generalize hW : ((w.alloc _).alloc _).alloc _ = w1
  have F1 : Fr none w w1 := hW ▸ (((Fr.refl none w).alloc _).alloc _).alloc _
  have b8 : DB w1 (w.heap.size + 1) (.int .i64 0) (.int .i64 0) (.int .i64 0) (.slice none 0 0) (.slice none 0 0) (.int .u64 0) := by
    rw [← hW]
    exact (Below.heap_alloc _ _ _ (by simp)).trans (blk_new_at (by simp) _)
  clear hW
  have h1 : DeD w1 (Dm w1 r) (.agg #[.int .i64 nd, .int .i64 sq, .int .i64 th, .slice A1 n1 c1, .slice A2 n2 c2, .int .u64 0]) ⟨nd, sq, t, 0⟩ := ⟨th, _, _, rfl, TrD.keep (fr_dm (F1.mono (r := r))) _ _ h, hn, hq, by simp⟩
  refine (rplain_any ⟨nd, sq, t, 0⟩ _ _ r hs h1).mono ?_
  rintro e w2 ⟨rfl, F2⟩
  rw [← HE.out]
  have R8 := (b8.fr F2 (by simp)).cell
  have Z8 := (b8.fr F2 (by simp)).free
  have hl8 := blk_lt (b8.fr F2 (by simp))
  clear b8
  go_wp2_with fail
  refine bodyPost_ret (v := .tuple #[.agg #[.int .i64 0, .int .i64 0, .int .i64 0, .slice none 0 0, .slice none 0 0, .int .u64 0], .int .i64 E]) (by simp [results, Tryz.results30, go_sem, R8]) rfl ?_
  exact ⟨rfl, (F1.pure F2).own (fr_fill6 w2 (w.heap.size + 1) (.int .i64 0) (.int .i64 0) (.int .i64 0) (.slice none 0 0) (.slice none 0 0) (.int .u64 0)) (by simp)⟩

theorem signG_any (k : Nat) (hk : k < 18446744073709551616) (nd sq : Int) (t : Tr) (v : Value) (w : World) (g : Nat) (hg : g < w.heap.size) (hn : Wi nd) (hq : Wi sq) (hs : t.size ≤ 1073741000) (h : TrR w (some g) v t) (hT : Tab w) :
    Calls Tryz.prog 29 #[.int .u64 k, .int .i64 nd, .int .i64 sq, v] w (SgnQ (sgD k nd sq t) (plainE ⟨nd, sq, t, 0⟩) (some g) w) := by
  by_cases hp : plainE ⟨nd, sq, t, 0⟩ = 0
  · refine (sign_any k hk nd sq t v w _ hn hq h hT hp).mono ?_
    rintro e w' ⟨x, rfl, hx, F⟩
    refine ⟨x, by rw [hp], ?_, F⟩
    unfold sgD
    rw [if_pos hp]
    exact hx.keep (dn_dm (by simp; omega))
  · refine (signN_any k nd sq t v w _ hn hq hs h hp).mono ?_
    rintro e w' ⟨rfl, F⟩
    refine ⟨_, rfl, ?_, F⟩
    unfold sgD
    rw [if_neg hp]
    exact ded0 _ _
theorem rsignG_any (k : Nat) (hk : k < 18446744073709551616) (nd sq : Int) (t : Tr) (v : Value) (w : World) (r : Option Nat) (hn : Wi nd) (hq : Wi sq) (hs : t.size ≤ 1073741000) (h : TrR w r v t) (hT : Tab w) :
    Calls Tryz.prog 30 #[.int .u64 k, .int .i64 nd, .int .i64 sq, v] w (SgnQ (sgD k nd sq t) (plainE ⟨nd, sq, t, 0⟩) r w) := by
  by_cases hp : plainE ⟨nd, sq, t, 0⟩ = 0
  · obtain ⟨th, A1, n1, c1, A2, n2, c2, rfl⟩ := TrD.shape h
    refine (rsign_any k hk nd sq t th A1 n1 c1 A2 n2 c2 w r hn hq hs h hT hp).mono ?_
    rintro e w' ⟨rfl, F⟩
    refine ⟨_, by rw [hp], ?_, F⟩
    unfold sgD
    rw [if_pos hp]
    exact ded_mk (TrD.keep (fr_dm (F.mono (r := r))) _ _ h) hn hq (tagS_lt _ _)
  · refine (rsignN_any k nd sq t v w _ hn hq hs h hp).mono ?_
    rintro e w' ⟨rfl, F⟩
    refine ⟨_, rfl, ?_, F⟩
    unfold sgD
    rw [if_neg hp]
    exact ded0 _ _
end Go.Proofs.YtoblhcieidljjaaGreatDoor

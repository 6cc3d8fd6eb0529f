/- Some texts of this claim, joined: contracts of the functions that it reaches, and plain laws. -/
import Derived.Test.YtoblhcieidljjaaGreatDoorProg
import Derived.Test.YtoblhcieidljjaaGreatDoorJG22
import Derived.Test.YtoblhcieidljjaaGreatDoorJG15

set_option linter.unusedSimpArgs false
set_option linter.unusedVariables false
/- Walks: configuration.Text. -/
namespace Go.Proofs.YtoblhcieidljjaaGreatDoor
open Go.RowKit

/-- The line of a member. -/
def lineT (k : Nat) (m : Mb) : List UInt8 := begL k ++ (if m.dec then textT m.tr else [45]) ++ [10]
def textL (L : List Mb) : List UInt8 := (L.mapIdx lineT).flatten
theorem textL_take (L : List Mb) (j : Nat) (hj : j < L.length) : textL (L.take (j + 1)) = textL (L.take j) ++ lineT j L[j] := by
  unfold textL
  rw [List.take_succ_eq_append_getElem hj, List.mapIdx_append]
  simp [Nat.min_eq_left (Nat.le_of_lt hj)]
/-- The text of a configuration. -/
def textC (L : List Mb) : List UInt8 := if validC L = 0 then textL L else [63]
theorem firE_zero : ∀ (l : List Int), firE l = 0 → ∀ x ∈ l, x = 0
  | [], _, x, hx => by simp at hx
  | e :: r, h, x, hx => by
    simp only [firE] at h
    by_cases h0 : e = 0
    · rw [if_pos h0] at h
      rcases List.mem_cons.1 hx with rfl | hx
      · exact h0
      · exact firE_zero r h x hx
    · rw [if_neg h0] at h
      exact absurd h h0
theorem validC_parts {L : List Mb} (h : validC L = 0) : L.length ≤ 10 ∧ ∀ m ∈ L, m.dec = true → validE m.tr = 0 := by
  unfold validC at h
  split at h
  · omega
  · rename_i h10
    refine ⟨by omega, fun m hm hd => ?_⟩
    have := firE_zero _ h _ (List.mem_map.2 ⟨m, hm, rfl⟩)
    unfold memE at this
    rw [if_pos hd] at this
    by_cases hv : validE m.tr = 0
    · exact hv
    · rw [if_neg hv] at this; exact this
theorem below_fr {w w1 w2 : World} {B : Nat} (F : Fr none w w1) (h : Below B w1 w2) (hB : w.heap.size ≤ B) : Fr none w w2 :=
  Fr.of_below (F.below.trans (h.mono hB))
set_option maxRecDepth 100000 in
set_option maxHeartbeats 4000000 in
theorem ctext_any (L : List Mb) (v : Value) (w : World) (h : CfD w (Dm w none) v L) (hsz : ∀ m ∈ L, m.tr.size ≤ 1073741000) (hL : L.length ≤ 1000) (hT : Tab w) :
    Calls Tryz.prog 51 #[v] w fun e w' => e = .returned (.string (bs (textC L))) ∧ Fr none w w' := by
  have h0 := h
  obtain ⟨A, c, rfl, q1, q2, hcell⟩ := h.open_
  have HC := Lib.hid hcell
  unfold maxLen at q2
  go_enter Tryz.func51, Tryz.ntmps51
  go_upto_region 1 with (fail)
  generalize hW : w.alloc _ = w1
  have F1 : Fr none w w1 := hW ▸ (Fr.refl _ _).alloc _
  have b1 : CB w1 w.heap.size (.slice A L.length c) := by rw [← hW]; exact blk_new _ _
  have hz1 : w1.heap.size = w.heap.size + 1 := by rw [← hW]; simp
  clear hW hcell
  have R1 := b1.cell
  have l1 := blk_lt b1
  go_wp2_with fail
  refine (cvalid_any L _ _ (h0.keep (fr_dm F1)) hsz hL).mono ?_
  rintro e w2 ⟨rfl, F2⟩
  have F02 := F1.pure F2
  have b2 := b1.fr F2 (by simp)
  have T2 := hT.fr F02
  clear R1 l1 h0 h b1
  by_cases hv : validC L = 0
  · have hv0 : (validC L != 0) = false := by rw [bne_eq_false_iff_eq]; exact hv
    have HF : Hid (textC L = textL L) := by unfold Hid textC; rw [if_pos hv]
    obtain ⟨hn10, hva⟩ := validC_parts hv
    have HVA := Lib.hid hva
    have HV := Lib.hid hv
    have HSZ := Lib.hid hsz
    have R2 := b2.cell
    have l2 := blk_lt b2
    clear hv hsz hva
    go_upto_region 5 with (fail)
    generalize hW : w2.alloc _ = w3
    have F3 : Fr none w2 w3 := hW ▸ (Fr.refl none w2).alloc _
    have hb3 : w3.heap[w2.heap.size]? = some (.cells #[.pointer none, .slice none 0 0] 130 (0, 0)) := by rw [← hW]; exact blk_new _ _
    have B3 := Bld.new hb3
    have b3 := b2.fr F3 (by simp)
    obtain ⟨b, hb⟩ : ∃ b, b = w2.heap.size := ⟨_, rfl⟩
    rw [← hb] at B3 ⊢
    have hb1 : w2.heap.size ≤ b := by omega
    clear hW hb3 R2 l2 hb
    go_loopw [4, 5, 6, 13] (fun _ _ _ s13 wr => ∃ j : Nat, j ≤ L.length ∧ s13 = .int .i64 (j : Int) ∧ Fr none w2 wr ∧ Bld b b (textL (L.take j)) wr ∧ (textL (L.take j)).length ≤ j * 100000) (fun _ _ _ s13 _ => L.length - (intOf s13).toNat)
    case atStart => exact ⟨0, Nat.zero_le _, rfl, F3, by simpa [textL] using B3, by simp [textL]⟩
    case round =>
      clear b3 B3 F3
      obtain ⟨j, hj, rfl, F, HB, hlen⟩ := hrel
      obtain ⟨wz, hwz⟩ : ∃ wz : World, wz = wr := ⟨_, rfl⟩
      subst hwz
      by_cases hlt : j < L.length
      · obtain ⟨b', off, th, A1, n1, c1, A2, n2, c2, rfl, hb', g0, g1, g2, g3, ht⟩ := HC.out j hlt
        have Fw := F02.pure F
        have g0 := Fw.keep g0 (by simp)
        have g1 := Fw.keep g1 (by simp)
        have g2 := Fw.keep g2 (by simp)
        have g3 := Fw.keep g3 (by simp)
        have ht : TrR wz none (.agg #[.int .i64 th, .slice A1 n1 c1, .slice A2 n2 c2]) L[j].tr := TrD.keep (fr_dm Fw) _ _ ht
        have HT : Hid (textL (L.take (j + 1)) = textL (L.take j) ++ lineT j L[j]) := textL_take L j hlt
        have HS := Lib.hid (HSZ.out _ (List.getElem_mem hlt))
        have HVJ := Lib.hid (HVA.out _ (List.getElem_mem hlt))
        have Tz := T2.fr F
        generalize hU : textL (L.take j) = U at *
        clear hU
        go_upto_region 8 with (fail)
        generalize hW : wz.alloc _ = wa
        have Fa : Fr none wz wa := hW ▸ (Fr.refl none wz).alloc _
        have m5 : MB wa wz.heap.size (.bool L[j].dec) (.int .i64 th) (.slice A1 n1 c1) (.slice A2 n2 c2) := by rw [← hW]; exact blk_new _ _
        clear hW g0 g1 g2 g3
        have hta := ht.fr Fa
        have Ta := Tz.fr Fa
        have Ba := HB.fr Fa
        have F0a := F.pure Fa
        have R5 := m5.cell
        have l5 := blk_lt m5
        generalize L[j] = m at *
        obtain ⟨d, t⟩ := m
        simp only at hta HS HVJ R5
        clear HB ht Tz m5
        obtain ⟨N, hN⟩ : ∃ N, N = bs (Lib.itoa (j : Int)) := ⟨_, rfl⟩
        have HN := Lib.hid hN
        have hNz : N.size ≤ 4 := by rw [hN, bs_size]; exact itoa_len4 ⟨by omega, by omega⟩
        clear hN
        obtain ⟨X1, H1, z1, a1⟩ := str_add N ⟨#[58, 32]⟩ (by omega) (by decide)
        have z1' : X1.size ≤ 6 := by rw [z1]; have : (⟨#[58, 32]⟩ : ByteArray).size = 2 := rfl; omega
        cases d with
        | true =>
          have hvt : validE t = 0 := HVJ.out rfl
          have htl := valid_len hvt
          have hte : textT t = txT t := by unfold textT; rw [if_pos hvt]
          go_wp2_with fail
          refine (text3_any t _ _ none HS.out hta Ta).mono ?_
          rintro e w4 ⟨S, rfl, hS, hSz, F4⟩
          have hSl : S.size ≤ 10000 := by rw [hS, bs_size, hte]; omega
          have HSS := Lib.hid hS
          clear hS hSz hte hvt htl
          have B4 := Ba.fr F4
          have F04 := F0a.pure F4
          obtain ⟨X2, H2, z2, a2⟩ := str_add X1 S (by omega) (by omega)
          obtain ⟨X3, H3, z3, a3⟩ := str_add X2 ⟨#[10]⟩ (by omega) (by decide)
          have z3' : (⟨#[10]⟩ : ByteArray).size = 1 := rfl
          have hX3 : X3 = bs (begL j ++ textT t ++ [10]) := by
            rw [H3.out, H2.out, H1.out, HN.out, HSS.out]
            show bs _ ++ bs [58, 32] ++ bs _ ++ bs [10] = _
            rw [bs_app, bs_app, bs_app]
            rfl
          have HX3 := Lib.hid hX3
          have hl3 : (begL j ++ textT t ++ [10]).length ≤ 20000 := by rw [← bs_size, ← hX3]; omega
          clear hX3
          go_wp2_with (first | (go_at_call 61; refine (itoa_at j N HN (by omega) (by omega) _).mono ?_; rintro e w' ⟨rfl, rfl⟩))
          refine (wstr_any b b U X3 (begL j ++ textT t ++ [10]) HX3.out _ B4 (by omega)).mono ?_
          rintro e w5 ⟨rfl, B5, h5⟩
          have F5 := below_fr F04 h5 hb1
          have HLT : Hid (U ++ lineT j ⟨true, t⟩ = U ++ (begL j ++ textT t ++ [10])) := rfl
          go_wp2_with fail
          go_roundw
          case rel => exact ⟨j + 1, by omega, by go_num, F5, by rw [HT.out, HLT.out]; exact B5, by rw [HT.out, HLT.out, List.length_append]; omega⟩
          case measure => simp [intOf]; omega
        | false =>
          have F4 : Fr none wa wa := Fr.refl _ _
          have hSl : (⟨#[45]⟩ : ByteArray).size ≤ 10000 := by decide
          have HSS : Hid ((⟨#[45]⟩ : ByteArray) = bs [45]) := rfl
          have B4 := Ba.fr F4
          have F04 := F0a.pure F4
          obtain ⟨X2, H2, z2, a2⟩ := str_add X1 (⟨#[45]⟩ : ByteArray) (by omega) (by omega)
          obtain ⟨X3, H3, z3, a3⟩ := str_add X2 ⟨#[10]⟩ (by omega) (by decide)
          have z3' : (⟨#[10]⟩ : ByteArray).size = 1 := rfl
          have hX3 : X3 = bs (begL j ++ [45] ++ [10]) := by
            rw [H3.out, H2.out, H1.out, HN.out, HSS.out]
            show bs _ ++ bs [58, 32] ++ bs _ ++ bs [10] = _
            rw [bs_app, bs_app, bs_app]
            rfl
          have HX3 := Lib.hid hX3
          have hl3 : (begL j ++ [45] ++ [10]).length ≤ 20000 := by rw [← bs_size, ← hX3]; omega
          clear hX3
          go_wp2_with (first | (go_at_call 61; refine (itoa_at j N HN (by omega) (by omega) _).mono ?_; rintro e w' ⟨rfl, rfl⟩))
          refine (wstr_any b b U X3 (begL j ++ [45] ++ [10]) HX3.out _ B4 (by omega)).mono ?_
          rintro e w5 ⟨rfl, B5, h5⟩
          have F5 := below_fr F04 h5 hb1
          have HLT : Hid (U ++ lineT j ⟨false, t⟩ = U ++ (begL j ++ [45] ++ [10])) := rfl
          go_wp2_with fail
          go_roundw
          case rel => exact ⟨j + 1, by omega, by go_num, F5, by rw [HT.out, HLT.out]; exact B5, by rw [HT.out, HLT.out, List.length_append]; omega⟩
          case measure => simp [intOf]; omega
      · obtain rfl : j = L.length := by omega
        rw [List.take_length] at HB
        go_wp2_with fail
        refine (bstr_any b b (textL L) _ HB).mono ?_
        rintro e w4 ⟨rfl, h4⟩
        have F4 := below_fr F h4 hb1
        go_wp2_with fail
        go_ret
        exact ⟨by rw [HF.out]; rfl, F02.pure F4⟩
  · have hv0 : (validC L != 0) = true := by rw [bne_iff_ne]; exact hv
    have HF : Hid (textC L = [63]) := by unfold Hid textC; rw [if_neg hv]
    clear hv hsz
    go_wp2_with fail
    go_ret
    exact ⟨by rw [HF.out]; rfl, F02⟩
end Go.Proofs.YtoblhcieidljjaaGreatDoor

/- The sanity check of layer 6's laws. -/
namespace Go.Proofs.YtoblhcieidljjaaGreatDoor
open Go.RowKit

def txt6 : List UInt8 := [48, 58, 32, 50, 32, 111, 102, 32, 40, 48, 44, 32, 49, 41, 10, 49, 58, 32, 45]
def mb6 : List Mb := [⟨true, .mk 2 [0, 1] []⟩, noMb]
theorem par6 : parseC txt6 = (mb6, 0, 0) := by kernel_rfl
theorem txt6C : bs (textC mb6) = ⟨#[48, 58, 32, 50, 32, 111, 102, 32, 40, 48, 44, 32, 49, 41, 10, 49, 58, 32, 45, 10]⟩ := by
  have h : textC mb6 = txt6 ++ [10] := by kernel_rfl
  rw [h]; rfl
theorem dec6S : decS mb6 mb6.length = 1 := by kernel_rfl
set_option maxRecDepth 100000 in
set_option maxHeartbeats 2000000 in
theorem awake6_any (w : World) (hT : Tab w) (hM : Mxl w) : Calls Tryz.prog 12 #[] w fun e w' => e = .returned (.bool true) ∧ Fr none w w' := by
  have HP := Lib.hid par6
  have HTX := Lib.hid txt6C
  have HD := Lib.hid dec6S
  go_enter Tryz.func12, Tryz.ntmps12
  go_wp2_with fail
  refine (cparse_any txt6 _ rfl _ (by decide) hM).mono ?_
  rintro e w1 ⟨v, rfl, hv, F1⟩
  rw [HP.out] at hv
  rw [HP.out]
  simp only at hv ⊢
  have hv : CfD w1 (Dm w1 none) v mb6 := hv.keep (dn_dm (by simp))
  have hv0 := hv
  obtain ⟨A, c, rfl, q1, q2, hcell⟩ := hv.open_
  obtain ⟨b, off, th, A1, n1, c1, A2, n2, c2, rfl, hb, g0, _⟩ := hcell 0 (by decide)
  obtain ⟨b', off', th', A1', n1', c1', A2', n2', c2', hA, hb', g1, _⟩ := hcell 1 (by decide)
  injection hA with hA
  injection hA with e1 e2
  subst e1 e2
  have g0 : w1.cell? ⟨b, off, none⟩ = some (.bool true) := by simpa [mb6] using g0
  have g1 : w1.cell? ⟨b, off + 4, none⟩ = some (.bool false) := by simpa [mb6, noMb] using g1
  have hln : mb6.length = 2 := rfl
  have T1 := hT.fr F1
  have hbl : b < w1.heap.size := hb.1
  rw [hln] at hv0 q1 ⊢
  unfold maxLen at q2
  clear hcell hT hM hv
  go_upto_region 2 with (fail)
  generalize hW : w1.alloc _ = w2
  have F2 : Fr none w1 w2 := hW ▸ (Fr.refl none w1).alloc _
  have k1 : CB w2 w1.heap.size (.slice (some ⟨b, off, none⟩) 2 c) := by rw [← hW]; exact blk_new _ _
  clear hW
  have g0 := F2.keep g0 (by simp)
  have g1 := F2.keep g1 (by simp)
  have hv2 := hv0.keep (fr_dm F2)
  have T2 := T1.fr F2
  have F02 := F1.pure F2
  have R1 := k1.cell
  have l1 := blk_lt k1
  go_wp2_with fail
  refine (declared06_any mb6 _ _ hv2 (by decide)).mono ?_
  rintro e w3 ⟨rfl, F3⟩
  rw [HD.out]
  have k3 := k1.fr F3 (by simp)
  have hv3 := hv2.keep (fr_dm F3)
  have R3 := k3.cell
  have l3 := blk_lt k3
  have T3 := T2.fr F3
  have g0 := F3.keep g0 (by simp)
  have g1 := F3.keep g1 (by simp)
  have hbl3 : b < w3.heap.size := by have := F2.size; have := F3.size; omega
  clear R1 l1
  go_wp2_with fail
  refine (ctext_any mb6 _ _ hv3 (by decide) (by decide) T3).mono ?_
  rintro e w4 ⟨rfl, F4⟩
  rw [HTX.out]
  go_wp2_with fail
  go_ret
  exact ⟨rfl, (F02.pure F3).pure F4⟩
end Go.Proofs.YtoblhcieidljjaaGreatDoor

/- The law ConfigurationRestricts: its walk. -/
namespace Go.Proofs.YtoblhcieidljjaaGreatDoor
open Go.RowKit

theorem natVB {a : Nat} (h : a < 1024) : validB (a : Int) = true := by unfold validB; exact decide_eq_true (by omega)
theorem has_and {a b : Nat} (ha : a < 1024) (hb : b < 1024) (k : Int) : hasB ((a &&& b : Nat) : Int) k = (hasB (a : Int) k && hasB (b : Int) k) := by
  have hab : a &&& b < 1024 := Nat.lt_of_le_of_lt Nat.and_le_left ha
  have v1 : validB (a : Int) = true := natVB (by omega)
  have v2 : validB (b : Int) = true := natVB (by omega)
  have v3 : validB ((a &&& b : Nat) : Int) = true := natVB (by omega)
  unfold hasB
  rw [v1, v2, v3]
  simp only [Int.toNat_natCast, Nat.testBit_and, Bool.true_and]
  cases decide (0 ≤ k ∧ k < 10) <;> simp
theorem rst_rst {a b : Nat} (ha : a < 1024) (hb : b < 1024) (L : List Mb) : rst (b : Int) (rst (a : Int) L) = rst ((a &&& b : Nat) : Int) L := by
  refine List.ext_getElem (by simp [rst_len]) fun k h1 h2 => ?_
  rw [rst_get, rst_get, rst_get, has_and ha hb]
  cases hasB (a : Int) (k : Int) <;> cases hasB (b : Int) (k : Int) <;> simp
theorem decAt_rst (s : Int) (L : List Mb) (k : Nat) : decAt (rst s L) k = (decAt L k && hasB s k) := by
  unfold decAt
  by_cases hk : k < L.length
  · rw [List.getElem?_eq_getElem (by rw [rst_len]; exact hk), List.getElem?_eq_getElem hk]
    simp only
    rw [rst_get]
    cases hasB s (k : Int) <;> simp [noMb]
  · rw [List.getElem?_eq_none (by rw [rst_len]; omega), List.getElem?_eq_none (by omega)]
    rfl
theorem dec_rst {a : Nat} (ha : a < 1024) (L : List Mb) : decS (rst (a : Int) L) (rst (a : Int) L).length = decS L L.length &&& a := by
  refine Nat.eq_of_testBit_eq fun i => ?_
  rw [Nat.testBit_and, decS_bit, decS_bit, rst_len, decAt_rst]
  have v1 : validB (a : Int) = true := natVB (by omega)
  by_cases h10 : i < 10
  · have : hasB (a : Int) (i : Int) = a.testBit i := by
      unfold hasB
      rw [v1]
      simp only [Int.toNat_natCast, Bool.true_and]
      rw [decide_eq_true (show 0 ≤ (i : Int) ∧ (i : Int) < 10 by omega)]
      simp
    rw [this]
    cases decide (i < L.length) <;> cases decide (i < 10) <;> cases decAt L i <;> simp
  · have : decide (i < 10) = false := decide_eq_false h10
    rw [this]
    simp
theorem rst_ok {n : Nat} {s : Int} {L : List Mb} (h : ∀ m ∈ L, MbOk n m) : ∀ m ∈ rst s L, MbOk n m := fun m hm => by
  obtain ⟨k, hk, rfl⟩ := List.getElem_of_mem hm
  rw [rst_get]
  split
  · exact h _ (List.getElem_mem _)
  · exact ⟨fun h => (by cases h), fun _ => rfl⟩
theorem mbok_size {n : Nat} {m : Mb} (h : MbOk n m) : m.tr.size ≤ 200 := by
  cases hd : m.dec with
  | true => exact (valid_facts (h.1 hd).1).2.1
  | false => rw [h.2 hd]; decide
theorem CfD.fr {w w' : World} {v : Value} {L : List Mb} (h : CfD w (Dm w none) v L) (F : Fr none w w') : CfD w' (Dm w' none) v L := h.keep (fr_dm F)
theorem CfD.shape {w : World} {D : Nat → Prop} {v : Value} {L : List Mb} (h : CfD w D v L) : ∃ A c, v = .agg #[.slice A L.length c] := by
  obtain ⟨A, c, cells, rfl, _⟩ := h
  exact ⟨A, c, rfl⟩

end Go.Proofs.YtoblhcieidljjaaGreatDoor

/- Walks: the reference's Valid of configurations. -/
namespace Go.Proofs.YtoblhcieidljjaaGreatDoor
open Go.RowKit

set_option maxRecDepth 100000 in
set_option maxHeartbeats 4000000 in
theorem rcvalid_any (L : List Mb) (v : Value) (w : World) (h : CfD w (Dm w none) v L) (hsz : ∀ m ∈ L, m.tr.size ≤ 1073741000) (hL : L.length ≤ 1000) :
    Calls Tryz.prog 48 #[v] w fun e w' => e = .returned (.int .i64 (validC L)) ∧ Fr none w w' := by
  obtain ⟨A, c, rfl, q1, q2, hcell⟩ := h.open_
  have HC := Lib.hid hcell
  have HSZ := Lib.hid hsz
  unfold maxLen at q2
  clear hcell h hsz
  go_enter Tryz.func48, Tryz.ntmps48
  go_upto_region 1 with (fail)
  generalize hW : w.alloc _ = w1
  have F1 : Fr none w w1 := hW ▸ (Fr.refl _ _).alloc _
  have b1 : CB w1 w.heap.size (.slice A L.length c) := by rw [← hW]; exact blk_new _ _
  clear hW
  have R1 := b1.cell
  have l1 := blk_lt b1
  by_cases h10 : 10 < L.length
  · have hd : decide ((10 : Int) < (L.length : Int)) = true := decide_eq_true (by omega)
    have HF : Hid (validC L = 3) := by unfold Hid validC; rw [if_pos h10]
    clear h10
    go_wp2_with fail
    go_ret
    exact ⟨ret_int HF.out.symm, F1⟩
  · have hd : decide ((10 : Int) < (L.length : Int)) = false := decide_eq_false (by omega)
    have hL10 : L.length ≤ 10 := by omega
    have HVC : Hid (validC L = firE (L.map (memE L.length))) := by unfold Hid validC; rw [if_neg h10]
    clear h10
    go_wp2_with fail
    go_loopw [4, 5, 13] (fun _ _ s13 wr => ∃ j : Nat, j ≤ L.length ∧ s13 = .int .i64 (j : Int) ∧ Fr none w1 wr ∧ Hid (∀ i (hi : i < L.length), i < j → memE L.length L[i] = 0)) (fun _ _ s13 _ => L.length - (intOf s13).toNat)
    case atStart => exact ⟨0, Nat.zero_le _, rfl, Fr.refl _ _, Lib.hid (fun i hi h => by omega)⟩
    case round =>
      clear R1 l1
      obtain ⟨j, hj, rfl, F, HQ⟩ := hrel
      obtain ⟨wz, hwz⟩ : ∃ wz : World, wz = wr := ⟨_, rfl⟩
      subst hwz
      have bz := b1.fr F (by simp)
      by_cases hlt : j < L.length
      · obtain ⟨b, off, th, A1, n1, c1, A2, n2, c2, rfl, hb, g0, g1, g2, g3, ht⟩ := HC.out j hlt
        have Fw := F1.pure F
        have g0 := Fw.keep g0 (by simp)
        have g1 := Fw.keep g1 (by simp)
        have g2 := Fw.keep g2 (by simp)
        have g3 := Fw.keep g3 (by simp)
        have ht : TrR wz none (.agg #[.int .i64 th, .slice A1 n1 c1, .slice A2 n2 c2]) L[j].tr := TrD.keep (fr_dm Fw) _ _ ht
        have HS := Lib.hid (HSZ.out _ (List.getElem_mem hlt))
        have Rz := bz.cell
        have lz := blk_lt bz
        have HM : Hid (∀ x, memE L.length L[j] = x → x ≠ 0 → validC L = x) := fun x hx hx0 => by
          rw [HVC.out, firE_hit _ j (by simpa using hlt) (fun i hi hij => by simpa using HQ.out i (by simpa using hi) hij) (by simpa [hx] using hx0)]
          simpa using hx
        have HM0 : Hid (memE L.length L[j] = 0 → ∀ i (hi : i < L.length), i < j + 1 → memE L.length L[i] = 0) := fun h0 i hi hij => by
          rcases Nat.lt_or_ge i j with hh | hh
          · exact HQ.out i hi hh
          · obtain rfl : i = j := by omega
            exact h0
        go_upto_region 6 with (fail)
        generalize hW : wz.alloc _ = wa
        have Fa : Fr none wz wa := hW ▸ (Fr.refl none wz).alloc _
        have m4 : MB wa wz.heap.size (.bool L[j].dec) (.int .i64 th) (.slice A1 n1 c1) (.slice A2 n2 c2) := by rw [← hW]; exact blk_new _ _
        clear hW g0 g1 g2 g3
        have hta := ht.fr Fa
        have ba := bz.fr Fa (by simp)
        have Ra := ba.cell
        have R4 := m4.cell
        have la := blk_lt ba
        have l4 := blk_lt m4
        clear Rz lz HQ
        clear ht
        generalize L[j] = m at hta HS R4 m4 HM HM0 ⊢
        obtain ⟨d, t⟩ := m
        simp only at hta HS R4 m4 ⊢
        have HS := Lib.hid HS.out
        cases d with
        | false =>
          cases hz : sameT t zeroTr with
          | true =>
            have HX : Hid (memE L.length ⟨false, t⟩ = 0) := by unfold Hid memE; simp [hz]
            go_wp2_with fail
            refine (rsame_any t.dep t zeroTr _ _ _ none (Nat.le_refl _) hta (trd_zero _ _)).mono ?_
            rintro e w2 ⟨rfl, F2⟩
            rw [hz]
            clear hz
            go_wp2_with fail
            go_roundw
            case rel => exact ⟨j + 1, by omega, by go_num, (F.pure Fa).pure F2, HM0.out HX.out⟩
            case measure => simp [intOf]; omega
          | false =>
            have HX : Hid (memE L.length ⟨false, t⟩ = 1) := by unfold Hid memE; simp [hz]
            go_wp2_with fail
            refine (rsame_any t.dep t zeroTr _ _ _ none (Nat.le_refl _) hta (trd_zero _ _)).mono ?_
            rintro e w2 ⟨rfl, F2⟩
            rw [hz]
            clear hz
            go_wp2_with fail
            go_ret
            exact ⟨ret_int (HM.out _ HX.out (by decide)).symm, ((F1.pure F).pure Fa).pure F2⟩
        | true =>
          go_wp2_with fail
          refine (rvalidT_any t _ _ none HS.out hta).mono ?_
          rintro e w2 ⟨rfl, F2⟩
          have b2 := m4.fr F2 (by simp)
          have bq := ba.fr F2 (by simp)
          have h2 := hta.fr F2
          clear R4 l4 Ra la
          by_cases hv : validE t = 0
          · have hv0 : (validE t != 0) = false := by rw [bne_eq_false_iff_eq]; exact hv
            have hp := pow2_lt L.length (by omega)
            have hw2 : IntKind.i64.wrap ((2 : Int) ^ L.length) = ((2 ^ L.length : Nat) : Int) := by rw [wrapI]; exact wrap_pow L.length (by omega)
            have hul := usesT_lt t
            obtain ⟨N, hN⟩ : ∃ N : Nat, 2 ^ L.length = N := ⟨_, rfl⟩
            rw [hN] at hw2 hp
            have HN := Lib.hid hN
            have HV := Lib.hid hv
            clear hN hv
            obtain ⟨U, hU⟩ : ∃ U, usesT t = U := ⟨_, rfl⟩
            rw [hU] at hul
            have HU := Lib.hid hU
            clear hU
            have R2 := b2.cell
            have l2 := blk_lt b2
            have Rc := bq.cell
            have lc := blk_lt bq
            obtain ⟨X, hX⟩ : ∃ X, X = decide ((N : Int) ≤ (U : Int)) := ⟨_, rfl⟩
            have HX := Lib.hid hX
            clear hX
            go_upto_region 12 with (fail)
            go_cut [38] (fun s38 wq => s38 = .bool X ∧ Fr none w2 wq)
            case first =>
              refine wp_region_held_drew (S := fun W => (∀ i, W.cell? ⟨wz.heap.size, i, none⟩ = (#[.bool true, .int .i64 th, .slice A1 n1 c1, .slice A2 n2 c2] : Array Value)[i]?) ∧ (∀ i, W.cell? ⟨w.heap.size, i, none⟩ = (#[.slice (some ⟨b, off, none⟩) L.length c] : Array Value)[i]?) ∧ Fr none w2 W) (by kernel_rfl) ⟨b2.cell, bq.cell, (Fr.refl _ _).drew⟩ (fun hH0 => ?_)
              refine wpAnyH_take (i := 0) (v := ?_) rfl (by kernel_rfl) (by kernel_rfl) (by kernel_rfl) (fun _ _ _ h => h) (Or.inl ⟨by rfl, ?_⟩) (by assumption) ?_
              rotate_left
              · (intro W hW; (try dsimp only at hW); go_simp; try with_reducible rfl)
              try simp only [Act.put, List.setIfInBounds_toArray, List.set_cons_zero, List.set_cons_succ, List.getElem_toArray, List.getElem_cons_zero, List.getElem_cons_succ]
              refine wpAnyH_take (i := 1) (v := ?_) rfl (by kernel_rfl) (by kernel_rfl) (by kernel_rfl) (fun _ _ _ h => h) (Or.inl ⟨by rfl, ?_⟩) (by assumption) ?_
              rotate_left
              · (intro W hW; (try dsimp only at hW); go_simp; try with_reducible rfl)
              try simp only [Act.put, List.setIfInBounds_toArray, List.set_cons_zero, List.set_cons_succ, List.getElem_toArray, List.getElem_cons_zero, List.getElem_cons_succ]
              refine wpAnyH_take (i := 3) (v := ?_) rfl (by kernel_rfl) (by kernel_rfl) (by kernel_rfl) (fun _ _ _ h => h) (Or.inl ⟨by rfl, ?_⟩) (by assumption) ?_
              rotate_left
              · (intro W hW; (try dsimp only at hW); go_simp; try with_reducible rfl)
              try simp only [Act.put, List.setIfInBounds_toArray, List.set_cons_zero, List.set_cons_succ, List.getElem_toArray, List.getElem_cons_zero, List.getElem_cons_succ]
              refine wpAnyH_take (i := 4) (v := ?_) rfl (by kernel_rfl) (by kernel_rfl) (by kernel_rfl) (fun _ _ _ h => h) (Or.inl ⟨by rfl, ?_⟩) (by assumption) ?_
              rotate_left
              · (intro W hW; (try dsimp only at hW); go_simp; try with_reducible rfl)
              try simp only [Act.put, List.setIfInBounds_toArray, List.set_cons_zero, List.set_cons_succ, List.getElem_toArray, List.getElem_cons_zero, List.getElem_cons_succ]
              refine wpAnyH_take (i := 5) (v := ?_) rfl (by kernel_rfl) (by kernel_rfl) (by kernel_rfl) (fun _ _ _ h => h) (Or.inl ⟨by rfl, ?_⟩) (by assumption) ?_
              rotate_left
              · (intro W hW; (try dsimp only at hW); go_simp; try with_reducible rfl)
              try simp only [Act.put, List.setIfInBounds_toArray, List.set_cons_zero, List.set_cons_succ, List.getElem_toArray, List.getElem_cons_zero, List.getElem_cons_succ]
              refine wpAnyH_take (i := 6) (v := ?_) rfl (by kernel_rfl) (by kernel_rfl) (by kernel_rfl) (fun _ _ _ h => h) (Or.inl ⟨by rfl, ?_⟩) (by assumption) ?_
              rotate_left
              · (intro W hW; (try dsimp only at hW); go_simp; try with_reducible rfl)
              try simp only [Act.put, List.setIfInBounds_toArray, List.set_cons_zero, List.set_cons_succ, List.getElem_toArray, List.getElem_cons_zero, List.getElem_cons_succ]
              refine wpAnyH_ready (rs := [2]) (by kernel_rfl) (by simp) ?_
              refine AllReadyH.cons rfl (fun K hK => ?_) AllReadyH.nil
              simp only [List.getElem_toArray, List.getElem_cons_zero, List.getElem_cons_succ]
              go_simp
              go_at_call 101
              refine (ruses_any t.dep t _ _ none (Nat.le_refl _) (h2.fr hH0.2.2)).mono ?_
              rintro e w9 ⟨rfl, F9⟩
              rw [HU.out]
              have F9' := hH0.2.2.pure F9
              refine hK.out _ _ ⟨(b2.fr F9' (by simp)).cell, (bq.fr F9' (by simp)).cell, F9'⟩ (fun hH1 => ?_)
              clear hK K hH0
              try simp only [Act.put, List.setIfInBounds_toArray, List.set_cons_zero, List.set_cons_succ, List.getElem_toArray, List.getElem_cons_zero, List.getElem_cons_succ]
              refine wpAnyH_take (i := 7) (v := ?_) rfl (by kernel_rfl) (by kernel_rfl) (by kernel_rfl) (fun _ _ _ h => h) (Or.inl ⟨by rfl, ?_⟩) (by assumption) ?_
              rotate_left
              · (intro W hW; (try dsimp only at hW); go_simp; try with_reducible rfl)
              try simp only [Act.put, List.setIfInBounds_toArray, List.set_cons_zero, List.set_cons_succ, List.getElem_toArray, List.getElem_cons_zero, List.getElem_cons_succ]
              refine wpAnyH_done (by kernel_rfl) ?_ _
              go_wp2_with fail
              go_meet
              exact ⟨by rw [HX.out]; simp, F9'⟩
            case rest =>
              obtain ⟨rfl, Fq⟩ := hcut
              have F2q := F2.pure Fq
              cases X with
              | true =>
                have hle : N ≤ U := by have := of_decide_eq_true HX.out.symm; omega
                have HF : Hid (memE L.length ⟨true, t⟩ = 5) := by unfold Hid memE; simp only [HV.out, HN.out, HU.out]; simp [hle]
                clear hle
                go_wp2_with fail
                go_ret
                exact ⟨ret_int (HM.out _ HF.out (by decide)).symm, ((F1.pure F).pure Fa).pure F2q⟩
              | false =>
                have hle : ¬ N ≤ U := by have := of_decide_eq_false HX.out.symm; omega
                have HF : Hid (memE L.length ⟨true, t⟩ = 0) := by unfold Hid memE; simp only [HV.out, HN.out, HU.out]; simp [hle]
                clear hle
                go_wp2_with fail
                go_roundw
                case rel => exact ⟨j + 1, by omega, by go_num, (F.pure Fa).pure F2q, HM0.out HF.out⟩
                case measure => simp [intOf]; omega
          · have hv0 : (validE t != 0) = true := by rw [bne_iff_ne]; exact hv
            have HF : Hid (memE L.length ⟨true, t⟩ = validE t) := by unfold Hid memE; simp [hv]
            have HNE := Lib.hid hv
            clear hv
            go_wp2_with fail
            go_ret
            exact ⟨ret_int (HM.out _ HF.out HNE.out).symm, ((F1.pure F).pure Fa).pure F2⟩
      · obtain rfl : j = L.length := by omega
        have HF : Hid (validC L = 0) := by
          unfold Hid
          rw [HVC.out]
          refine firE_miss _ fun x hx => ?_
          obtain ⟨i, hi, rfl⟩ := List.getElem_of_mem hx
          simpa using HQ.out i (by simpa using hi) (by simpa using hi)
        go_wp2_with fail
        go_ret
        exact ⟨ret_int HF.out.symm, F1.pure F⟩
end Go.Proofs.YtoblhcieidljjaaGreatDoor

/- Walks: the reference's Text of configurations. -/
namespace Go.Proofs.YtoblhcieidljjaaGreatDoor
open Go.RowKit

set_option maxRecDepth 100000 in
set_option maxHeartbeats 4000000 in
theorem rctext_any (L : List Mb) (v : Value) (w : World) (h : CfD w (Dm w none) v L) (hsz : ∀ m ∈ L, m.tr.size ≤ 1073741000) (hL : L.length ≤ 1000) (hT : Tab w) :
    Calls Tryz.prog 9 #[v] w fun e w' => e = .returned (.string (bs (textC L))) ∧ Fr none w w' := by
  have h0 := h
  obtain ⟨A, c, rfl, q1, q2, hcell⟩ := h.open_
  have HC := Lib.hid hcell
  unfold maxLen at q2
  go_enter Tryz.func9, Tryz.ntmps9
  go_upto_region 1 with (fail)
  generalize hW : w.alloc _ = w1
  have F1 : Fr none w w1 := hW ▸ (Fr.refl _ _).alloc _
  have b1 : CB w1 w.heap.size (.slice A L.length c) := by rw [← hW]; exact blk_new _ _
  clear hW hcell
  have R1 := b1.cell
  have l1 := blk_lt b1
  go_wp2_with fail
  refine (rcvalid_any L _ _ (h0.keep (fr_dm F1)) hsz hL).mono ?_
  rintro e w2 ⟨rfl, F2⟩
  have F02 := F1.pure F2
  have b2 := b1.fr F2 (by simp)
  have T2 := hT.fr F02
  clear R1 l1 h0 h b1
  by_cases hv : validC L = 0
  · have hv0 : (validC L != 0) = false := by rw [bne_eq_false_iff_eq]; exact hv
    have HF : Hid (textC L = textL L) := by unfold Hid textC; rw [if_pos hv]
    obtain ⟨hn10, hva⟩ := validC_parts hv
    have HVA := Lib.hid hva
    have HV := Lib.hid hv
    have HSZ := Lib.hid hsz
    have R2 := b2.cell
    have l2 := blk_lt b2
    clear hv hsz hva
    go_wp2_with fail
    go_loopw [3, 4, 5, 12] (fun s3 _ _ s12 wr => ∃ (j : Nat) (U : ByteArray), j ≤ L.length ∧ s12 = .int .i64 (j : Int) ∧ s3 = .string U ∧ Fr none w2 wr ∧ Hid (U = bs (textL (L.take j))) ∧ U.size ≤ j * 100000) (fun _ _ _ s12 _ => L.length - (intOf s12).toNat)
    case atStart => exact ⟨0, _, Nat.zero_le _, rfl, rfl, Fr.refl _ _, by unfold Hid; simp [textL]; rfl, by decide⟩
    case round =>
      clear R2 l2
      obtain ⟨j, V, hj, rfl, rfl, F, HU, hlen⟩ := hrel
      obtain ⟨wz, hwz⟩ : ∃ wz : World, wz = wr := ⟨_, rfl⟩
      subst hwz
      by_cases hlt : j < L.length
      · obtain ⟨b', off, th, A1, n1, c1, A2, n2, c2, rfl, hb', g0, g1, g2, g3, ht⟩ := HC.out j hlt
        have Fw := F02.pure F
        have g0 := Fw.keep g0 (by simp)
        have g1 := Fw.keep g1 (by simp)
        have g2 := Fw.keep g2 (by simp)
        have g3 := Fw.keep g3 (by simp)
        have ht : TrR wz none (.agg #[.int .i64 th, .slice A1 n1 c1, .slice A2 n2 c2]) L[j].tr := TrD.keep (fr_dm Fw) _ _ ht
        have HT : Hid (textL (L.take (j + 1)) = textL (L.take j) ++ lineT j L[j]) := textL_take L j hlt
        have HS := Lib.hid (HSZ.out _ (List.getElem_mem hlt))
        have HVJ := Lib.hid (HVA.out _ (List.getElem_mem hlt))
        have Tz := T2.fr F
        generalize hU : textL (L.take j) = U at *
        clear hU
        go_upto_region 7 with (fail)
        generalize hW : wz.alloc _ = wa
        have Fa : Fr none wz wa := hW ▸ (Fr.refl none wz).alloc _
        have m5 : MB wa wz.heap.size (.bool L[j].dec) (.int .i64 th) (.slice A1 n1 c1) (.slice A2 n2 c2) := by rw [← hW]; exact blk_new _ _
        clear hW g0 g1 g2 g3
        have hta := ht.fr Fa
        have Ta := Tz.fr Fa
        have F0a := F.pure Fa
        have R5 := m5.cell
        have l5 := blk_lt m5
        generalize L[j] = m at *
        obtain ⟨d, t⟩ := m
        simp only at hta HS HVJ R5
        clear ht Tz m5
        obtain ⟨N, hN⟩ : ∃ N, N = bs (Lib.itoa (j : Int)) := ⟨_, rfl⟩
        have HN := Lib.hid hN
        have hNz : N.size ≤ 4 := by rw [hN, bs_size]; exact itoa_len4 ⟨by omega, by omega⟩
        clear hN
        obtain ⟨X1, H1, z1, a1⟩ := str_add N ⟨#[58, 32]⟩ (by omega) (by decide)
        have z1' : X1.size ≤ 6 := by rw [z1]; have : (⟨#[58, 32]⟩ : ByteArray).size = 2 := rfl; omega
        obtain ⟨X2, H2, z2, a2⟩ := str_add V X1 (by omega) (by omega)
        cases d with
        | true =>
          have hvt : validE t = 0 := HVJ.out rfl
          have htl := valid_len hvt
          have hte : textT t = txT t := by unfold textT; rw [if_pos hvt]
          go_wp2_with (first | (go_at_call 61; refine (itoa_at j N HN (by omega) (by omega) _).mono ?_; rintro e w' ⟨rfl, rfl⟩))
          refine (rtext3_any t _ _ none HS.out hta Ta).mono ?_
          rintro e w4 ⟨S, rfl, hS, hSz, F4⟩
          have hSl : S.size ≤ 10000 := by rw [hS, bs_size, hte]; omega
          have HSS := Lib.hid hS
          clear hS hSz hte hvt htl
          obtain ⟨X3, H3, z3, a3⟩ := str_add X2 S (by omega) (by omega)
          obtain ⟨X4, H4, z4, a4⟩ := str_add X3 ⟨#[10]⟩ (by omega) (by decide)
          have z4' : (⟨#[10]⟩ : ByteArray).size = 1 := rfl
          have HE : Hid (X4 = bs (U ++ lineT j ⟨true, t⟩)) := by
            unfold Hid
            rw [H4.out, H3.out, H2.out, H1.out, HN.out, HSS.out, HU.out]
            show bs _ ++ (bs _ ++ bs [58, 32]) ++ bs _ ++ bs [10] = bs (_ ++ (begL j ++ textT t ++ [10]))
            rw [bs_app, bs_app, bs_app, bs_app]
            congr 1
            unfold begL
            simp only [List.append_assoc]
          go_wp2_with (first | (go_at_call 61; refine (itoa_at j N HN (by omega) (by omega) _).mono ?_; rintro e w' ⟨rfl, rfl⟩))
          go_roundw
          case rel => exact ⟨j + 1, X4, by omega, by go_num, rfl, F0a.pure F4, by unfold Hid; rw [HT.out]; exact HE.out, by omega⟩
          case measure => simp [intOf]; omega
        | false =>
          have F4 : Fr none wa wa := Fr.refl _ _
          have hSl : (⟨#[45]⟩ : ByteArray).size ≤ 10000 := by decide
          have HSS : Hid ((⟨#[45]⟩ : ByteArray) = bs [45]) := rfl
          obtain ⟨X3, H3, z3, a3⟩ := str_add X2 ⟨#[45]⟩ (by omega) (by omega)
          obtain ⟨X4, H4, z4, a4⟩ := str_add X3 ⟨#[10]⟩ (by omega) (by decide)
          have z4' : (⟨#[10]⟩ : ByteArray).size = 1 := rfl
          have HE : Hid (X4 = bs (U ++ lineT j ⟨false, t⟩)) := by
            unfold Hid
            rw [H4.out, H3.out, H2.out, H1.out, HN.out, HSS.out, HU.out]
            show bs _ ++ (bs _ ++ bs [58, 32]) ++ bs _ ++ bs [10] = bs (_ ++ (begL j ++ [45] ++ [10]))
            rw [bs_app, bs_app, bs_app, bs_app]
            congr 1
            unfold begL
            simp only [List.append_assoc]
          go_wp2_with (first | (go_at_call 61; refine (itoa_at j N HN (by omega) (by omega) _).mono ?_; rintro e w' ⟨rfl, rfl⟩))
          go_roundw
          case rel => exact ⟨j + 1, X4, by omega, by go_num, rfl, F0a.pure F4, by unfold Hid; rw [HT.out]; exact HE.out, by omega⟩
          case measure => simp [intOf]; omega
      · obtain rfl : j = L.length := by omega
        have HW : Hid (V = bs (textL L)) := by have := HU.out; rw [List.take_length] at this; exact this
        go_wp2_with fail
        go_ret
        exact ⟨by rw [HF.out, ← HW.out]; rfl, F02.pure F⟩
  · have hv0 : (validC L != 0) = true := by rw [bne_iff_ne]; exact hv
    have HF : Hid (textC L = [63]) := by unfold Hid textC; rw [if_neg hv]
    clear hv hsz
    go_wp2_with fail
    go_ret
    exact ⟨by rw [HF.out]; rfl, F02⟩
end Go.Proofs.YtoblhcieidljjaaGreatDoor

/- Some texts of this claim, joined: contracts of the functions that it reaches, and plain laws. -/
import Derived.Test.YtpdhckbiioobhaaGreatDoorProg
import Derived.Test.YtpdhckbiioobhaaGreatDoorJG31
import Derived.Test.YtpdhckbiioobhaaGreatDoorJG25

set_option linter.unusedSimpArgs false
set_option linter.unusedVariables false
/- Walks: configuration.Text. -/
namespace Go.Proofs.YtpdhckbiioobhaaGreatDoor
open Go.RowKit

/-- The line of a member. -/
def lineT (k : Nat) (m : Mb) : List UInt8 := begL k ++ (if m.dec then textT m.tr else [45]) ++ [10]
def textL (L : List Mb) : List UInt8 := (L.mapIdx lineT).flatten
theorem textL_take (L : List Mb) (j : Nat) (hj : j < L.length) : textL (L.take (j + 1)) = textL (L.take j) ++ lineT j L[j] := by
  unfold textL
  rw [List.take_succ_eq_append_getElem hj, List.mapIdx_append]
  simp [Nat.min_eq_left (Nat.le_of_lt hj)]
/-- The text of a configuration. -/
def textC (L : List Mb) : List UInt8 := if validC L = 0 then textL L else [63]
theorem firE_zero : ∀ (l : List Int), firE l = 0 → ∀ x ∈ l, x = 0
  | [], _, x, hx => by simp at hx
  | e :: r, h, x, hx => by
    simp only [firE] at h
    by_cases h0 : e = 0
    · rw [if_pos h0] at h
      rcases List.mem_cons.1 hx with rfl | hx
      · exact h0
      · exact firE_zero r h x hx
    · rw [if_neg h0] at h
      exact absurd h h0
theorem validC_parts {L : List Mb} (h : validC L = 0) : L.length ≤ 10 ∧ ∀ m ∈ L, m.dec = true → validE m.tr = 0 := by
  unfold validC at h
  split at h
  · omega
  · rename_i h10
    refine ⟨by omega, fun m hm hd => ?_⟩
    have := firE_zero _ h _ (List.mem_map.2 ⟨m, hm, rfl⟩)
    unfold memE at this
    rw [if_pos hd] at this
    by_cases hv : validE m.tr = 0
    · exact hv
    · rw [if_neg hv] at this; exact this
theorem below_fr {w w1 w2 : World} {B : Nat} (F : Fr none w w1) (h : Below B w1 w2) (hB : w.heap.size ≤ B) : Fr none w w2 :=
  Fr.of_below (F.below.trans (h.mono hB))
set_option maxRecDepth 100000 in
set_option maxHeartbeats 4000000 in
theorem ctext_any (L : List Mb) (v : Value) (w : World) (h : CfD w (Dm w none) v L) (hsz : ∀ m ∈ L, m.tr.size ≤ 1073741000) (hL : L.length ≤ 1000) (hT : Tab w) :
    Calls Tryz.prog 49 #[v] w fun e w' => e = .returned (.string (bs (textC L))) ∧ Fr none w w' := by
  have h0 := h
  obtain ⟨A, c, rfl, q1, q2, hcell⟩ := h.open_
  have HC := Lib.hid hcell
  unfold maxLen at q2
  go_enter Tryz.func49, Tryz.ntmps49
  go_upto_region 1 with (fail)
  generalize hW : w.alloc _ = w1
  have F1 : Fr none w w1 := hW ▸ (Fr.refl _ _).alloc _
  have b1 : CB w1 w.heap.size (.slice A L.length c) := by rw [← hW]; exact blk_new _ _
  have hz1 : w1.heap.size = w.heap.size + 1 := by rw [← hW]; simp
  clear hW hcell
  have R1 := b1.cell
  have l1 := blk_lt b1
  go_wp2_with fail
  refine (cvalid_any L _ _ (h0.keep (fr_dm F1)) hsz hL).mono ?_
  rintro e w2 ⟨rfl, F2⟩
  have F02 := F1.pure F2
  have b2 := b1.fr F2 (by simp)
  have T2 := hT.fr F02
  clear R1 l1 h0 h b1
  by_cases hv : validC L = 0
  · have hv0 : (validC L != 0) = false := by rw [bne_eq_false_iff_eq]; exact hv
    have HF : Hid (textC L = textL L) := by unfold Hid textC; rw [if_pos hv]
    obtain ⟨hn10, hva⟩ := validC_parts hv
    have HVA := Lib.hid hva
    have HV := Lib.hid hv
    have HSZ := Lib.hid hsz
    have R2 := b2.cell
    have l2 := blk_lt b2
    clear hv hsz hva
    go_upto_region 5 with (fail)
    generalize hW : w2.alloc _ = w3
    have F3 : Fr none w2 w3 := hW ▸ (Fr.refl none w2).alloc _
    have hb3 : w3.heap[w2.heap.size]? = some (.cells #[.pointer none, .slice none 0 0] 121 (0, 0)) := by rw [← hW]; exact blk_new _ _
    have B3 := Bld.new hb3
    have b3 := b2.fr F3 (by simp)
    obtain ⟨b, hb⟩ : ∃ b, b = w2.heap.size := ⟨_, rfl⟩
    rw [← hb] at B3 ⊢
    have hb1 : w2.heap.size ≤ b := by omega
    clear hW hb3 R2 l2 hb
    go_loopw [4, 5, 6, 13] (fun _ _ _ s13 wr => ∃ j : Nat, j ≤ L.length ∧ s13 = .int .i64 (j : Int) ∧ Fr none w2 wr ∧ Bld b b (textL (L.take j)) wr ∧ (textL (L.take j)).length ≤ j * 100000) (fun _ _ _ s13 _ => L.length - (intOf s13).toNat)
    case atStart => exact ⟨0, Nat.zero_le _, rfl, F3, by simpa [textL] using B3, by simp [textL]⟩
    case round =>
      clear b3 B3 F3
      obtain ⟨j, hj, rfl, F, HB, hlen⟩ := hrel
      obtain ⟨wz, hwz⟩ : ∃ wz : World, wz = wr := ⟨_, rfl⟩
      subst hwz
      by_cases hlt : j < L.length
      · obtain ⟨b', off, th, A1, n1, c1, A2, n2, c2, rfl, hb', g0, g1, g2, g3, ht⟩ := HC.out j hlt
        have Fw := F02.pure F
        have g0 := Fw.keep g0 (by simp)
        have g1 := Fw.keep g1 (by simp)
        have g2 := Fw.keep g2 (by simp)
        have g3 := Fw.keep g3 (by simp)
        have ht : TrR wz none (.agg #[.int .i64 th, .slice A1 n1 c1, .slice A2 n2 c2]) L[j].tr := TrD.keep (fr_dm Fw) _ _ ht
        have HT : Hid (textL (L.take (j + 1)) = textL (L.take j) ++ lineT j L[j]) := textL_take L j hlt
        have HS := Lib.hid (HSZ.out _ (List.getElem_mem hlt))
        have HVJ := Lib.hid (HVA.out _ (List.getElem_mem hlt))
        have Tz := T2.fr F
        generalize hU : textL (L.take j) = U at *
        clear hU
        go_upto_region 8 with (fail)
        generalize hW : wz.alloc _ = wa
        have Fa : Fr none wz wa := hW ▸ (Fr.refl none wz).alloc _
        have m5 : MB wa wz.heap.size (.bool L[j].dec) (.int .i64 th) (.slice A1 n1 c1) (.slice A2 n2 c2) := by rw [← hW]; exact blk_new _ _
        clear hW g0 g1 g2 g3
        have hta := ht.fr Fa
        have Ta := Tz.fr Fa
        have Ba := HB.fr Fa
        have F0a := F.pure Fa
        have R5 := m5.cell
        have l5 := blk_lt m5
        generalize L[j] = m at *
        obtain ⟨d, t⟩ := m
        simp only at hta HS HVJ R5
        clear HB ht Tz m5
        obtain ⟨N, hN⟩ : ∃ N, N = bs (Lib.itoa (j : Int)) := ⟨_, rfl⟩
        have HN := Lib.hid hN
        have hNz : N.size ≤ 4 := by rw [hN, bs_size]; exact itoa_len4 ⟨by omega, by omega⟩
        clear hN
        obtain ⟨X1, H1, z1, a1⟩ := str_add N ⟨#[58, 32]⟩ (by omega) (by decide)
        have z1' : X1.size ≤ 6 := by rw [z1]; have : (⟨#[58, 32]⟩ : ByteArray).size = 2 := rfl; omega
        cases d with
        | true =>
          have hvt : validE t = 0 := HVJ.out rfl
          have htl := valid_len hvt
          have hte : textT t = txT t := by unfold textT; rw [if_pos hvt]
          go_wp2_with fail
          refine (text3_any t _ _ none HS.out hta Ta).mono ?_
          rintro e w4 ⟨S, rfl, hS, hSz, F4⟩
          have hSl : S.size ≤ 10000 := by rw [hS, bs_size, hte]; omega
          have HSS := Lib.hid hS
          clear hS hSz hte hvt htl
          have B4 := Ba.fr F4
          have F04 := F0a.pure F4
          obtain ⟨X2, H2, z2, a2⟩ := str_add X1 S (by omega) (by omega)
          obtain ⟨X3, H3, z3, a3⟩ := str_add X2 ⟨#[10]⟩ (by omega) (by decide)
          have z3' : (⟨#[10]⟩ : ByteArray).size = 1 := rfl
          have hX3 : X3 = bs (begL j ++ textT t ++ [10]) := by
            rw [H3.out, H2.out, H1.out, HN.out, HSS.out]
            show bs _ ++ bs [58, 32] ++ bs _ ++ bs [10] = _
            rw [bs_app, bs_app, bs_app]
            rfl
          have HX3 := Lib.hid hX3
          have hl3 : (begL j ++ textT t ++ [10]).length ≤ 20000 := by rw [← bs_size, ← hX3]; omega
          clear hX3
          go_wp2_with (first | (go_at_call 74; refine (itoa_at j N HN (by omega) (by omega) _).mono ?_; rintro e w' ⟨rfl, rfl⟩))
          refine (wstr_any b b U X3 (begL j ++ textT t ++ [10]) HX3.out _ B4 (by omega)).mono ?_
          rintro e w5 ⟨rfl, B5, h5⟩
          have F5 := below_fr F04 h5 hb1
          have HLT : Hid (U ++ lineT j ⟨true, t⟩ = U ++ (begL j ++ textT t ++ [10])) := rfl
          go_wp2_with fail
          go_roundw
          case rel => exact ⟨j + 1, by omega, by go_num, F5, by rw [HT.out, HLT.out]; exact B5, by rw [HT.out, HLT.out, List.length_append]; omega⟩
          case measure => simp [intOf]; omega
        | false =>
          have F4 : Fr none wa wa := Fr.refl _ _
          have hSl : (⟨#[45]⟩ : ByteArray).size ≤ 10000 := by decide
          have HSS : Hid ((⟨#[45]⟩ : ByteArray) = bs [45]) := rfl
          have B4 := Ba.fr F4
          have F04 := F0a.pure F4
          obtain ⟨X2, H2, z2, a2⟩ := str_add X1 (⟨#[45]⟩ : ByteArray) (by omega) (by omega)
          obtain ⟨X3, H3, z3, a3⟩ := str_add X2 ⟨#[10]⟩ (by omega) (by decide)
          have z3' : (⟨#[10]⟩ : ByteArray).size = 1 := rfl
          have hX3 : X3 = bs (begL j ++ [45] ++ [10]) := by
            rw [H3.out, H2.out, H1.out, HN.out, HSS.out]
            show bs _ ++ bs [58, 32] ++ bs _ ++ bs [10] = _
            rw [bs_app, bs_app, bs_app]
            rfl
          have HX3 := Lib.hid hX3
          have hl3 : (begL j ++ [45] ++ [10]).length ≤ 20000 := by rw [← bs_size, ← hX3]; omega
          clear hX3
          go_wp2_with (first | (go_at_call 74; refine (itoa_at j N HN (by omega) (by omega) _).mono ?_; rintro e w' ⟨rfl, rfl⟩))
          refine (wstr_any b b U X3 (begL j ++ [45] ++ [10]) HX3.out _ B4 (by omega)).mono ?_
          rintro e w5 ⟨rfl, B5, h5⟩
          have F5 := below_fr F04 h5 hb1
          have HLT : Hid (U ++ lineT j ⟨false, t⟩ = U ++ (begL j ++ [45] ++ [10])) := rfl
          go_wp2_with fail
          go_roundw
          case rel => exact ⟨j + 1, by omega, by go_num, F5, by rw [HT.out, HLT.out]; exact B5, by rw [HT.out, HLT.out, List.length_append]; omega⟩
          case measure => simp [intOf]; omega
      · obtain rfl : j = L.length := by omega
        rw [List.take_length] at HB
        go_wp2_with fail
        refine (bstr_any b b (textL L) _ HB).mono ?_
        rintro e w4 ⟨rfl, h4⟩
        have F4 := below_fr F h4 hb1
        go_wp2_with fail
        go_ret
        exact ⟨by rw [HF.out]; rfl, F02.pure F4⟩
  · have hv0 : (validC L != 0) = true := by rw [bne_iff_ne]; exact hv
    have HF : Hid (textC L = [63]) := by unfold Hid textC; rw [if_neg hv]
    clear hv hsz
    go_wp2_with fail
    go_ret
    exact ⟨by rw [HF.out]; rfl, F02⟩
end Go.Proofs.YtpdhckbiioobhaaGreatDoor

/- The sanity check of layer 6's laws. -/
namespace Go.Proofs.YtpdhckbiioobhaaGreatDoor
open Go.RowKit

def txt6 : List UInt8 := [48, 58, 32, 50, 32, 111, 102, 32, 40, 48, 44, 32, 49, 41, 10, 49, 58, 32, 45]
def mb6 : List Mb := [⟨true, .mk 2 [0, 1] []⟩, noMb]
theorem par6 : parseC txt6 = (mb6, 0, 0) := by kernel_rfl
theorem txt6C : bs (textC mb6) = ⟨#[48, 58, 32, 50, 32, 111, 102, 32, 40, 48, 44, 32, 49, 41, 10, 49, 58, 32, 45, 10]⟩ := by
  have h : textC mb6 = txt6 ++ [10] := by kernel_rfl
  rw [h]; rfl
theorem dec6S : decS mb6 mb6.length = 1 := by kernel_rfl
set_option maxRecDepth 100000 in
set_option maxHeartbeats 2000000 in
theorem awake6_any (w : World) (hT : Tab w) (hM : Mxl w) : Calls Tryz.prog 18 #[] w fun e w' => e = .returned (.bool true) ∧ Fr none w w' := by
  have HP := Lib.hid par6
  have HTX := Lib.hid txt6C
  have HD := Lib.hid dec6S
  go_enter Tryz.func18, Tryz.ntmps18
  go_wp2_with fail
  refine (cparse_any txt6 _ rfl _ (by decide) hM).mono ?_
  rintro e w1 ⟨v, rfl, hv, F1⟩
  rw [HP.out] at hv
  rw [HP.out]
  simp only at hv ⊢
  have hv : CfD w1 (Dm w1 none) v mb6 := hv.keep (dn_dm (by simp))
  have hv0 := hv
  obtain ⟨A, c, rfl, q1, q2, hcell⟩ := hv.open_
  obtain ⟨b, off, th, A1, n1, c1, A2, n2, c2, rfl, hb, g0, _⟩ := hcell 0 (by decide)
  obtain ⟨b', off', th', A1', n1', c1', A2', n2', c2', hA, hb', g1, _⟩ := hcell 1 (by decide)
  injection hA with hA
  injection hA with e1 e2
  subst e1 e2
  have g0 : w1.cell? ⟨b, off, none⟩ = some (.bool true) := by simpa [mb6] using g0
  have g1 : w1.cell? ⟨b, off + 4, none⟩ = some (.bool false) := by simpa [mb6, noMb] using g1
  have hln : mb6.length = 2 := rfl
  have T1 := hT.fr F1
  have hbl : b < w1.heap.size := hb.1
  rw [hln] at hv0 q1 ⊢
  unfold maxLen at q2
  clear hcell hT hM hv
  go_upto_region 2 with (fail)
  generalize hW : w1.alloc _ = w2
  have F2 : Fr none w1 w2 := hW ▸ (Fr.refl none w1).alloc _
  have k1 : CB w2 w1.heap.size (.slice (some ⟨b, off, none⟩) 2 c) := by rw [← hW]; exact blk_new _ _
  clear hW
  have g0 := F2.keep g0 (by simp)
  have g1 := F2.keep g1 (by simp)
  have hv2 := hv0.keep (fr_dm F2)
  have T2 := T1.fr F2
  have F02 := F1.pure F2
  have R1 := k1.cell
  have l1 := blk_lt k1
  go_wp2_with fail
  refine (declared06_any mb6 _ _ hv2 (by decide)).mono ?_
  rintro e w3 ⟨rfl, F3⟩
  rw [HD.out]
  have k3 := k1.fr F3 (by simp)
  have hv3 := hv2.keep (fr_dm F3)
  have R3 := k3.cell
  have l3 := blk_lt k3
  have T3 := T2.fr F3
  have g0 := F3.keep g0 (by simp)
  have g1 := F3.keep g1 (by simp)
  have hbl3 : b < w3.heap.size := by have := F2.size; have := F3.size; omega
  clear R1 l1
  go_wp2_with fail
  refine (ctext_any mb6 _ _ hv3 (by decide) (by decide) T3).mono ?_
  rintro e w4 ⟨rfl, F4⟩
  rw [HTX.out]
  go_wp2_with fail
  go_ret
  exact ⟨rfl, (F02.pure F3).pure F4⟩
end Go.Proofs.YtpdhckbiioobhaaGreatDoor

/- The law ConfigurationRestricts: its walk. -/
namespace Go.Proofs.YtpdhckbiioobhaaGreatDoor
open Go.RowKit

theorem natVB {a : Nat} (h : a < 1024) : validB (a : Int) = true := by unfold validB; exact decide_eq_true (by omega)
theorem has_and {a b : Nat} (ha : a < 1024) (hb : b < 1024) (k : Int) : hasB ((a &&& b : Nat) : Int) k = (hasB (a : Int) k && hasB (b : Int) k) := by
  have hab : a &&& b < 1024 := Nat.lt_of_le_of_lt Nat.and_le_left ha
  have v1 : validB (a : Int) = true := natVB (by omega)
  have v2 : validB (b : Int) = true := natVB (by omega)
  have v3 : validB ((a &&& b : Nat) : Int) = true := natVB (by omega)
  unfold hasB
  rw [v1, v2, v3]
  simp only [Int.toNat_natCast, Nat.testBit_and, Bool.true_and]
  cases decide (0 ≤ k ∧ k < 10) <;> simp
theorem rst_rst {a b : Nat} (ha : a < 1024) (hb : b < 1024) (L : List Mb) : rst (b : Int) (rst (a : Int) L) = rst ((a &&& b : Nat) : Int) L := by
  refine List.ext_getElem (by simp [rst_len]) fun k h1 h2 => ?_
  rw [rst_get, rst_get, rst_get, has_and ha hb]
  cases hasB (a : Int) (k : Int) <;> cases hasB (b : Int) (k : Int) <;> simp
theorem decAt_rst (s : Int) (L : List Mb) (k : Nat) : decAt (rst s L) k = (decAt L k && hasB s k) := by
  unfold decAt
  by_cases hk : k < L.length
  · rw [List.getElem?_eq_getElem (by rw [rst_len]; exact hk), List.getElem?_eq_getElem hk]
    simp only
    rw [rst_get]
    cases hasB s (k : Int) <;> simp [noMb]
  · rw [List.getElem?_eq_none (by rw [rst_len]; omega), List.getElem?_eq_none (by omega)]
    rfl
theorem dec_rst {a : Nat} (ha : a < 1024) (L : List Mb) : decS (rst (a : Int) L) (rst (a : Int) L).length = decS L L.length &&& a := by
  refine Nat.eq_of_testBit_eq fun i => ?_
  rw [Nat.testBit_and, decS_bit, decS_bit, rst_len, decAt_rst]
  have v1 : validB (a : Int) = true := natVB (by omega)
  by_cases h10 : i < 10
  · have : hasB (a : Int) (i : Int) = a.testBit i := by
      unfold hasB
      rw [v1]
      simp only [Int.toNat_natCast, Bool.true_and]
      rw [decide_eq_true (show 0 ≤ (i : Int) ∧ (i : Int) < 10 by omega)]
      simp
    rw [this]
    cases decide (i < L.length) <;> cases decide (i < 10) <;> cases decAt L i <;> simp
  · have : decide (i < 10) = false := decide_eq_false h10
    rw [this]
    simp
theorem rst_ok {n : Nat} {s : Int} {L : List Mb} (h : ∀ m ∈ L, MbOk n m) : ∀ m ∈ rst s L, MbOk n m := fun m hm => by
  obtain ⟨k, hk, rfl⟩ := List.getElem_of_mem hm
  rw [rst_get]
  split
  · exact h _ (List.getElem_mem _)
  · exact ⟨fun h => (by cases h), fun _ => rfl⟩
theorem mbok_size {n : Nat} {m : Mb} (h : MbOk n m) : m.tr.size ≤ 200 := by
  cases hd : m.dec with
  | true => exact (valid_facts (h.1 hd).1).2.1
  | false => rw [h.2 hd]; decide
theorem CfD.fr {w w' : World} {v : Value} {L : List Mb} (h : CfD w (Dm w none) v L) (F : Fr none w w') : CfD w' (Dm w' none) v L := h.keep (fr_dm F)
theorem CfD.shape {w : World} {D : Nat → Prop} {v : Value} {L : List Mb} (h : CfD w D v L) : ∃ A c, v = .agg #[.slice A L.length c] := by
  obtain ⟨A, c, cells, rfl, _⟩ := h
  exact ⟨A, c, rfl⟩

set_option maxRecDepth 100000 in
set_option maxHeartbeats 8000000 in
theorem law06r_any (v : Value) (l : List Int) (w : World) (hl : SlI w none v l) (hT : Tab w) (hM : Mxl w) : Calls Tryz.prog 10 #[v] w fun e w' => e = .returned (.bool true) ∧ Fr none w w' := by
  go_enter Tryz.func10, Tryz.ntmps10
  go_wp2_with fail
  refine (tapeNew_any _ _ _ hl).mono ?_
  rintro e w1 ⟨g, rfl, hg, S1, F1⟩
  have hg1 := S1.lt
  clear hl
  go_wp2_with fail
  refine (mkconfig_any 10 g _ (by omega) (by omega) S1).mono ?_
  rintro e w2 ⟨vc, L, rfl, hc, hL1, hL10, hok, S2, F2⟩
  obtain ⟨A, c, rfl⟩ := hc.shape
  have hz2 := F2.size
  have F02 := F1.own F2 (fun q hq => by injection hq with hq; omega)
  have hc : CfD w2 (fun b => b < w2.heap.size ∧ b ≠ g) (.agg #[.slice A L.length c]) L := hc.keep (fun k hk => ⟨⟨hk.2, by have := hk.1; omega⟩, rfl⟩)
  have HOK := Lib.hid hok
  have hgw : w.heap.size ≤ g := hg
  clear S1 F1 F2 hok hg
  go_upto_region 3 with (fail)
  generalize hW : w2.alloc _ = w3
  have F3 : Fr none w2 w3 := hW ▸ (Fr.refl none w2).alloc _
  have b4 : CB w3 w2.heap.size (.slice A L.length c) := by rw [← hW]; exact blk_new _ _
  clear hW
  have hz3 := F3.size
  have S3 := S2.fr F3
  have hg2 := S2.lt
  have F03 := F02.pure F3
  have hc3 : CfD w3 (fun b => b < w2.heap.size ∧ b ≠ g) (.agg #[.slice A L.length c]) L := hc.keep (fun k hk => ⟨hk, F3.block k hk.1 (by simp)⟩)
  clear S2 F02 F3 hc
  go_wp2_with fail
  refine (tapeN_any 1024 g _ (by omega) (by omega) S3).mono ?_
  rintro e w4 ⟨a, rfl, a1, a2, S4, F4⟩
  obtain ⟨a, rfl⟩ := Int.eq_ofNat_of_zero_le (show 0 ≤ a by omega)
  go_wp2_with fail
  refine (tapeN_any 1024 g _ (by omega) (by omega) S4).mono ?_
  rintro e w5 ⟨b, rfl, b1, b2, S5, F5⟩
  obtain ⟨b, rfl⟩ := Int.eq_ofNat_of_zero_le (show 0 ≤ b by omega)
  have ha : a < 1024 := by omega
  have hb : b < 1024 := by omega
  have F35 := F4.same F5
  have hz5 := F35.size
  have b45 := b4.fr F35 (by simp; omega)
  have F05 := F03.own F35 (fun q hq => by injection hq with hq; omega)
  have hc5 : CfD w5 (Dm w5 none) (.agg #[.slice A L.length c]) L := hc3.keep (fun k hk => ⟨⟨by omega, by simp⟩, F35.block k (by omega) (by simp; omega)⟩)
  have T5 := hT.fr F05
  have M5 := hM.fr F05
  have hLz : L.length ≤ 1000 := by omega
  clear S3 S4 S5 F4 F5 F35 F03 hc3 b4 hT hM a1 a2 b1 b2
  have R4 := b45.cell
  have l4 := blk_lt b45
  go_wp2_with fail
  refine (restrict_any (a : Int) L _ _ hc5 hLz).mono ?_
  rintro e w6 ⟨vx, rfl, hx, F6⟩
  obtain ⟨Ax, cx, rfl⟩ := hx.shape
  rw [rst_len]
  obtain ⟨X, hX⟩ : ∃ X, X = rst (a : Int) L := ⟨_, rfl⟩
  have hXl : X.length = L.length := by rw [hX, rst_len]
  have hXok : ∀ m ∈ X, MbOk L.length m := by rw [hX]; exact rst_ok HOK.out
  have hXd : decS X X.length = decS L L.length &&& a := by rw [hX]; exact dec_rst ha L
  have hXg : ∀ k (hk : k < X.length), X[k].dec = true → X[k].tr = (L[k]'(by omega)).tr := fun k hk hd => by
    subst hX
    rw [rst_get] at hd ⊢
    split at hd
    · rename_i hh; rw [if_pos hh]
    · cases hd
  have hYY : rst (b : Int) X = rst ((a &&& b : Nat) : Int) L := by rw [hX]; exact rst_rst ha hb L
  rw [← hX, hXl] at hx
  have hx : CfD w6 (Dm w6 none) (.agg #[.slice Ax L.length cx]) X := hx.keep (dn_dm (by simp))
  have HXOK := Lib.hid hXok
  have HXD := Lib.hid hXd
  have HXG := Lib.hid hXg
  have HYY := Lib.hid hYY
  clear hX hXok hXd hXg hYY
  go_upto_region 5 with (fail)
  generalize hW : w6.alloc _ = w7
  have F7 : Fr none w6 w7 := hW ▸ (Fr.refl none w6).alloc _
  have b7 : CB w7 w6.heap.size (.slice Ax L.length cx) := by rw [← hW]; exact blk_new _ _
  clear hW R4 l4
  have F57 := F6.pure F7
  have b47 := b45.fr F57 (by simp)
  have hc7 := hc5.fr F57
  have hx7 := hx.fr F7
  have F07 := F05.pure F57
  have T7 := T5.fr F57
  have M7 := M5.fr F57
  have R7 := b7.cell
  have l7 := blk_lt b7
  clear hc5 hx b45 F6 F7 F57 F05 T5 M5
  go_wp2_with fail
  refine (restrict_any (b : Int) X _ _ hx7 (by omega)).mono ?_
  rintro e w8 ⟨vy, rfl, hy, F8⟩
  obtain ⟨Ay, cy, rfl⟩ := hy.shape
  rw [HYY.out] at hy ⊢
  rw [rst_len]
  obtain ⟨Y, hY⟩ : ∃ Y, Y = rst ((a &&& b : Nat) : Int) L := ⟨_, rfl⟩
  have hYl : Y.length = L.length := by rw [hY, rst_len]
  rw [← hY, hYl] at hy
  have HY := Lib.hid hY
  have hy : CfD w8 (Dm w8 none) (.agg #[.slice Ay L.length cy]) Y := hy.keep (dn_dm (by simp))
  clear hY
  go_upto_region 6 with (fail)
  generalize hW : w8.alloc _ = w9
  have F9 : Fr none w8 w9 := hW ▸ (Fr.refl none w8).alloc _
  have b9 : CB w9 w8.heap.size (.slice Ay L.length cy) := by rw [← hW]; exact blk_new _ _
  clear hW R7 l7
  have F79 := F8.pure F9
  have b49 := b47.fr F79 (by simp)
  have b79 := b7.fr F79 (by simp)
  have hc9 := hc7.fr F79
  have hx9 := hx7.fr F79
  have hy9 := hy.fr F9
  have F09 := F07.pure F79
  have T9 := T7.fr F79
  have M9 := M7.fr F79
  have hab : bits .and .i64 (a : Int) (b : Int) = ((a &&& b : Nat) : Int) := and_i64 _ _ (by omega) (by omega)
  have hdlt := decS_lt L L.length
  obtain ⟨D, hD⟩ : ∃ D, decS L L.length = D := ⟨_, rfl⟩
  rw [hD] at hdlt HXD
  have HD := Lib.hid hD
  have hda : bits .and .i64 (D : Int) (a : Int) = ((D &&& a : Nat) : Int) := and_i64 _ _ (by omega) (by omega)
  have hne : (((D &&& a : Nat) : Int) != ((D &&& a : Nat) : Int)) = false := by simp
  have l4 := blk_lt b49
  have l7 := blk_lt b79
  have l9 := blk_lt b9
  have hXz : ∀ m ∈ X, m.tr.size ≤ 1073741000 := fun m hm => by have := mbok_size (HXOK.out m hm); omega
  have HXV : Hid (validC X = 0) := validC_ok (by omega) (fun m hm => by rw [hXl]; exact HXOK.out m hm)
  clear hc7 hx7 hy b47 b7 F8 F9 F79 F07 T7 M7 hD
  go_cut [55] (fun s55 wq => s55 = .bool false ∧ Fr none w9 wq)
  case first =>
    refine wp_region_held_drew (S := fun W => (∀ i, W.cell? ⟨w2.heap.size, i, none⟩ = (#[.slice A L.length c] : Array Value)[i]?) ∧ (∀ i, W.cell? ⟨w6.heap.size, i, none⟩ = (#[.slice Ax L.length cx] : Array Value)[i]?) ∧ (∀ i, W.cell? ⟨w8.heap.size, i, none⟩ = (#[.slice Ay L.length cy] : Array Value)[i]?) ∧ Fr none w9 W) (by kernel_rfl) ⟨b49.cell, b79.cell, b9.cell, (Fr.refl _ _).drew⟩ (fun hH0 => ?_)
    refine wpAnyH_take (i := 0) (v := ?_) rfl (by kernel_rfl) (by kernel_rfl) (by kernel_rfl) (fun _ _ _ h => h) (Or.inl ⟨by rfl, ?_⟩) (by assumption) ?_
    rotate_left
    · (intro W hW; (try dsimp only at hW); go_simp; try with_reducible rfl)
    try simp only [Act.put, List.setIfInBounds_toArray, List.set_cons_zero, List.set_cons_succ, List.getElem_toArray, List.getElem_cons_zero, List.getElem_cons_succ]
    refine wpAnyH_take (i := 1) (v := ?_) rfl (by kernel_rfl) (by kernel_rfl) (by kernel_rfl) (fun _ _ _ h => h) (Or.inl ⟨by rfl, ?_⟩) (by assumption) ?_
    rotate_left
    · (intro W hW; (try dsimp only at hW); go_simp; try with_reducible rfl)
    try simp only [Act.put, List.setIfInBounds_toArray, List.set_cons_zero, List.set_cons_succ, List.getElem_toArray, List.getElem_cons_zero, List.getElem_cons_succ]
    refine wpAnyH_take (i := 2) (v := ?_) rfl (by kernel_rfl) (by kernel_rfl) (by kernel_rfl) (fun _ _ _ h => h) (Or.inl ⟨by rfl, ?_⟩) (by assumption) ?_
    rotate_left
    · (intro W hW; (try dsimp only at hW); go_simp; try with_reducible rfl)
    try simp only [Act.put, List.setIfInBounds_toArray, List.set_cons_zero, List.set_cons_succ, List.getElem_toArray, List.getElem_cons_zero, List.getElem_cons_succ]
    refine wpAnyH_take (i := 3) (v := ?_) rfl (by kernel_rfl) (by kernel_rfl) (by kernel_rfl) (fun _ _ _ h => h) (Or.inl ⟨by rfl, ?_⟩) (by assumption) ?_
    rotate_left
    · (intro W hW; (try dsimp only at hW); go_simp; try with_reducible rfl)
    try simp only [Act.put, List.setIfInBounds_toArray, List.set_cons_zero, List.set_cons_succ, List.getElem_toArray, List.getElem_cons_zero, List.getElem_cons_succ]
    refine wpAnyH_take (i := 4) (v := ?_) rfl (by kernel_rfl) (by kernel_rfl) (by kernel_rfl) (fun _ _ _ h => h) (Or.inl ⟨by rfl, ?_⟩) (by assumption) ?_
    rotate_left
    · (intro W hW; (try dsimp only at hW); go_simp; try with_reducible rfl)
    try simp only [Act.put, List.setIfInBounds_toArray, List.set_cons_zero, List.set_cons_succ, List.getElem_toArray, List.getElem_cons_zero, List.getElem_cons_succ]
    refine wpAnyH_ready (rs := [5]) (by kernel_rfl) (by simp) ?_
    refine AllReadyH.cons rfl (fun K hK => ?_) AllReadyH.nil
    simp only [List.getElem_toArray, List.getElem_cons_zero, List.getElem_cons_succ]
    go_simp
    go_at_call 45
    refine (restrict_any ((a &&& b : Nat) : Int) L _ _ (hc9.fr hH0.2.2.2) hLz).mono ?_
    rintro e wa ⟨vz, rfl, hz, Fa⟩
    obtain ⟨Az, cz, rfl⟩ := hz.shape
    rw [← HY.out, hYl] at hz
    rw [rst_len]
    have hz : CfD wa (Dm wa none) (.agg #[.slice Az L.length cz]) Y := hz.keep (dn_dm (by simp))
    have FN := hH0.2.2.2.pure Fa
    refine hK.out _ _ ⟨(b49.fr FN (by simp)).cell, (b79.fr FN (by simp)).cell, (b9.fr FN (by simp)).cell, FN⟩ (fun hH1 => ?_)
    clear hK K hH0 FN
    have hH0 := hH1
    clear hH1
    try simp only [Act.put, List.setIfInBounds_toArray, List.set_cons_zero, List.set_cons_succ, List.getElem_toArray, List.getElem_cons_zero, List.getElem_cons_succ]
    refine wpAnyH_ready (rs := [6]) (by kernel_rfl) (by simp) ?_
    refine AllReadyH.cons rfl (fun K hK => ?_) AllReadyH.nil
    simp only [List.getElem_toArray, List.getElem_cons_zero, List.getElem_cons_succ]
    go_simp
    go_at_call 46
    refine (rsameC_any Y Y _ _ _ (hy9.fr hH0.2.2.2) hz (by omega) (by omega)).mono ?_
    rintro e wb ⟨rfl, Fb⟩
    rw [(sameC_iff _ _).2 rfl]
    have FN := hH0.2.2.2.pure Fb
    refine hK.out _ _ ⟨(b49.fr FN (by simp)).cell, (b79.fr FN (by simp)).cell, (b9.fr FN (by simp)).cell, FN⟩ (fun hH1 => ?_)
    clear hK K hH0 FN
    have hH0 := hH1
    clear hH1
    try simp only [Act.put, List.setIfInBounds_toArray, List.set_cons_zero, List.set_cons_succ, List.getElem_toArray, List.getElem_cons_zero, List.getElem_cons_succ]
    clear hz
    refine wpAnyH_take (i := 7) (v := ?_) rfl (by kernel_rfl) (by kernel_rfl) (by kernel_rfl) (fun _ _ _ h => h) (Or.inl ⟨by rfl, ?_⟩) (by assumption) ?_
    rotate_left
    · (intro W hW; (try dsimp only at hW); go_simp; try with_reducible rfl)
    try simp only [Act.put, List.setIfInBounds_toArray, List.set_cons_zero, List.set_cons_succ, List.getElem_toArray, List.getElem_cons_zero, List.getElem_cons_succ]
    refine wpAnyH_take (i := 8) (v := ?_) rfl (by kernel_rfl) (by kernel_rfl) (by kernel_rfl) (fun _ _ _ h => h) (Or.inl ⟨by rfl, ?_⟩) (by assumption) ?_
    rotate_left
    · (intro W hW; (try dsimp only at hW); go_simp; try with_reducible rfl)
    try simp only [Act.put, List.setIfInBounds_toArray, List.set_cons_zero, List.set_cons_succ, List.getElem_toArray, List.getElem_cons_zero, List.getElem_cons_succ]
    refine wpAnyH_take (i := 9) (v := ?_) rfl (by kernel_rfl) (by kernel_rfl) (by kernel_rfl) (fun _ _ _ h => h) (Or.inl ⟨by rfl, ?_⟩) (by assumption) ?_
    rotate_left
    · (intro W hW; (try dsimp only at hW); go_simp; try with_reducible rfl)
    try simp only [Act.put, List.setIfInBounds_toArray, List.set_cons_zero, List.set_cons_succ, List.getElem_toArray, List.getElem_cons_zero, List.getElem_cons_succ]
    refine wpAnyH_take (i := 11) (v := ?_) rfl (by kernel_rfl) (by kernel_rfl) (by kernel_rfl) (fun _ _ _ h => h) (Or.inl ⟨by rfl, ?_⟩) (by assumption) ?_
    rotate_left
    · (intro W hW; (try dsimp only at hW); go_simp; try with_reducible rfl)
    try simp only [Act.put, List.setIfInBounds_toArray, List.set_cons_zero, List.set_cons_succ, List.getElem_toArray, List.getElem_cons_zero, List.getElem_cons_succ]
    refine wpAnyH_take (i := 13) (v := ?_) rfl (by kernel_rfl) (by kernel_rfl) (by kernel_rfl) (fun _ _ _ h => h) (Or.inl ⟨by rfl, ?_⟩) (by assumption) ?_
    rotate_left
    · (intro W hW; (try dsimp only at hW); go_simp; try with_reducible rfl)
    try simp only [Act.put, List.setIfInBounds_toArray, List.set_cons_zero, List.set_cons_succ, List.getElem_toArray, List.getElem_cons_zero, List.getElem_cons_succ]
    refine wpAnyH_ready (rs := [10]) (by kernel_rfl) (by simp) ?_
    refine AllReadyH.cons rfl (fun K hK => ?_) AllReadyH.nil
    simp only [List.getElem_toArray, List.getElem_cons_zero, List.getElem_cons_succ]
    go_simp
    go_at_call 47
    refine (declared06_any X _ _ (hx9.fr hH0.2.2.2) (by omega)).mono ?_
    rintro e wd ⟨rfl, Fd⟩
    rw [HXD.out]
    have FN := hH0.2.2.2.pure Fd
    refine hK.out _ _ ⟨(b49.fr FN (by simp)).cell, (b79.fr FN (by simp)).cell, (b9.fr FN (by simp)).cell, FN⟩ (fun hH1 => ?_)
    clear hK K hH0 FN
    have hH0 := hH1
    clear hH1
    try simp only [Act.put, List.setIfInBounds_toArray, List.set_cons_zero, List.set_cons_succ, List.getElem_toArray, List.getElem_cons_zero, List.getElem_cons_succ]
    refine wpAnyH_ready (rs := [12]) (by kernel_rfl) (by simp) ?_
    refine AllReadyH.cons rfl (fun K hK => ?_) AllReadyH.nil
    simp only [List.getElem_toArray, List.getElem_cons_zero, List.getElem_cons_succ]
    go_simp
    go_at_call 47
    refine (declared06_any L _ _ (hc9.fr hH0.2.2.2) (by omega)).mono ?_
    rintro e we ⟨rfl, Fe⟩
    rw [HD.out]
    have FN := hH0.2.2.2.pure Fe
    refine hK.out _ _ ⟨(b49.fr FN (by simp)).cell, (b79.fr FN (by simp)).cell, (b9.fr FN (by simp)).cell, FN⟩ (fun hH1 => ?_)
    clear hK K hH0 FN
    have hH0 := hH1
    clear hH1
    try simp only [Act.put, List.setIfInBounds_toArray, List.set_cons_zero, List.set_cons_succ, List.getElem_toArray, List.getElem_cons_zero, List.getElem_cons_succ]
    refine wpAnyH_take (i := 14) (v := ?_) rfl (by kernel_rfl) (by kernel_rfl) (by kernel_rfl) (fun _ _ _ h => h) (Or.inl ⟨by rfl, ?_⟩) (by assumption) ?_
    rotate_left
    · (intro W hW; (try dsimp only at hW); go_simp; try with_reducible rfl)
    try simp only [Act.put, List.setIfInBounds_toArray, List.set_cons_zero, List.set_cons_succ, List.getElem_toArray, List.getElem_cons_zero, List.getElem_cons_succ]
    refine wpAnyH_take (i := 15) (v := ?_) rfl (by kernel_rfl) (by kernel_rfl) (by kernel_rfl) (fun _ _ _ h => h) (Or.inl ⟨by rfl, ?_⟩) (by assumption) ?_
    rotate_left
    · (intro W hW; (try dsimp only at hW); go_simp; try with_reducible rfl)
    try simp only [Act.put, List.setIfInBounds_toArray, List.set_cons_zero, List.set_cons_succ, List.getElem_toArray, List.getElem_cons_zero, List.getElem_cons_succ]
    refine wpAnyH_take (i := 16) (v := ?_) rfl (by kernel_rfl) (by kernel_rfl) (by kernel_rfl) (fun _ _ _ h => h) (Or.inl ⟨by rfl, ?_⟩) (by assumption) ?_
    rotate_left
    · (intro W hW; (try dsimp only at hW); go_simp; try with_reducible rfl)
    try simp only [Act.put, List.setIfInBounds_toArray, List.set_cons_zero, List.set_cons_succ, List.getElem_toArray, List.getElem_cons_zero, List.getElem_cons_succ]
    refine wpAnyH_take (i := 17) (v := ?_) rfl (by kernel_rfl) (by kernel_rfl) (by kernel_rfl) (fun _ _ _ h => h) (Or.inl ⟨by rfl, ?_⟩) (by assumption) ?_
    rotate_left
    · (intro W hW; (try dsimp only at hW); go_simp; try with_reducible rfl)
    try simp only [Act.put, List.setIfInBounds_toArray, List.set_cons_zero, List.set_cons_succ, List.getElem_toArray, List.getElem_cons_zero, List.getElem_cons_succ]
    refine wpAnyH_take (i := 18) (v := ?_) rfl (by kernel_rfl) (by kernel_rfl) (by kernel_rfl) (fun _ _ _ h => h) (Or.inl ⟨by rfl, ?_⟩) (by assumption) ?_
    rotate_left
    · (intro W hW; (try dsimp only at hW); go_simp; try with_reducible rfl)
    try simp only [Act.put, List.setIfInBounds_toArray, List.set_cons_zero, List.set_cons_succ, List.getElem_toArray, List.getElem_cons_zero, List.getElem_cons_succ]
    refine wpAnyH_ready (rs := [19]) (by kernel_rfl) (by simp) ?_
    refine AllReadyH.cons rfl (fun K hK => ?_) AllReadyH.nil
    simp only [List.getElem_toArray, List.getElem_cons_zero, List.getElem_cons_succ]
    go_simp
    go_at_call 48
    refine (cvalid_any X _ _ (hx9.fr hH0.2.2.2) hXz (by omega)).mono ?_
    rintro e wf ⟨rfl, Ff⟩
    rw [HXV.out]
    have FN := hH0.2.2.2.pure Ff
    refine hK.out _ _ ⟨(b49.fr FN (by simp)).cell, (b79.fr FN (by simp)).cell, (b9.fr FN (by simp)).cell, FN⟩ (fun hH1 => ?_)
    clear hK K hH0 FN
    have hH0 := hH1
    clear hH1
    try simp only [Act.put, List.setIfInBounds_toArray, List.set_cons_zero, List.set_cons_succ, List.getElem_toArray, List.getElem_cons_zero, List.getElem_cons_succ]
    refine wpAnyH_take (i := 20) (v := ?_) rfl (by kernel_rfl) (by kernel_rfl) (by kernel_rfl) (fun _ _ _ h => h) (Or.inl ⟨by rfl, ?_⟩) (by assumption) ?_
    rotate_left
    · (intro W hW; (try dsimp only at hW); go_simp; try with_reducible rfl)
    try simp only [Act.put, List.setIfInBounds_toArray, List.set_cons_zero, List.set_cons_succ, List.getElem_toArray, List.getElem_cons_zero, List.getElem_cons_succ]
    refine wpAnyH_take (i := 21) (v := ?_) rfl (by kernel_rfl) (by kernel_rfl) (by kernel_rfl) (fun _ _ _ h => h) (Or.inl ⟨by rfl, ?_⟩) (by assumption) ?_
    rotate_left
    · (intro W hW; (try dsimp only at hW); go_simp; try with_reducible rfl)
    try simp only [Act.put, List.setIfInBounds_toArray, List.set_cons_zero, List.set_cons_succ, List.getElem_toArray, List.getElem_cons_zero, List.getElem_cons_succ]
    refine wpAnyH_take (i := 22) (v := ?_) rfl (by kernel_rfl) (by kernel_rfl) (by kernel_rfl) (fun _ _ _ h => h) (Or.inl ⟨by rfl, ?_⟩) (by assumption) ?_
    rotate_left
    · (intro W hW; (try dsimp only at hW); go_simp; try with_reducible rfl)
    try simp only [Act.put, List.setIfInBounds_toArray, List.set_cons_zero, List.set_cons_succ, List.getElem_toArray, List.getElem_cons_zero, List.getElem_cons_succ]
    refine wpAnyH_take (i := 23) (v := ?_) rfl (by kernel_rfl) (by kernel_rfl) (by kernel_rfl) (fun _ _ _ h => h) (Or.inl ⟨by rfl, ?_⟩) (by assumption) ?_
    rotate_left
    · (intro W hW; (try dsimp only at hW); go_simp; try with_reducible rfl)
    try simp only [Act.put, List.setIfInBounds_toArray, List.set_cons_zero, List.set_cons_succ, List.getElem_toArray, List.getElem_cons_zero, List.getElem_cons_succ]
    refine wpAnyH_take (i := 24) (v := ?_) rfl (by kernel_rfl) (by kernel_rfl) (by kernel_rfl) (fun _ _ _ h => h) (Or.inl ⟨by rfl, ?_⟩) (by assumption) ?_
    rotate_left
    · (intro W hW; (try dsimp only at hW); go_simp; try with_reducible rfl)
    try simp only [Act.put, List.setIfInBounds_toArray, List.set_cons_zero, List.set_cons_succ, List.getElem_toArray, List.getElem_cons_zero, List.getElem_cons_succ]
    refine wpAnyH_take (i := 25) (v := ?_) rfl (by kernel_rfl) (by kernel_rfl) (by kernel_rfl) (fun _ _ _ h => h) (Or.inl ⟨by rfl, ?_⟩) (by assumption) ?_
    rotate_left
    · (intro W hW; (try dsimp only at hW); go_simp; try with_reducible rfl)
    try simp only [Act.put, List.setIfInBounds_toArray, List.set_cons_zero, List.set_cons_succ, List.getElem_toArray, List.getElem_cons_zero, List.getElem_cons_succ]
    refine wpAnyH_take (i := 26) (v := ?_) rfl (by kernel_rfl) (by kernel_rfl) (by kernel_rfl) (fun _ _ _ h => h) (Or.inl ⟨by rfl, ?_⟩) (by assumption) ?_
    rotate_left
    · (intro W hW; (try dsimp only at hW); go_simp; try with_reducible rfl)
    try simp only [Act.put, List.setIfInBounds_toArray, List.set_cons_zero, List.set_cons_succ, List.getElem_toArray, List.getElem_cons_zero, List.getElem_cons_succ]
    refine wpAnyH_take (i := 27) (v := ?_) rfl (by kernel_rfl) (by kernel_rfl) (by kernel_rfl) (fun _ _ _ h => h) (Or.inl ⟨by rfl, ?_⟩) (by assumption) ?_
    rotate_left
    · (intro W hW; (try dsimp only at hW); go_simp; try with_reducible rfl)
    try simp only [Act.put, List.setIfInBounds_toArray, List.set_cons_zero, List.set_cons_succ, List.getElem_toArray, List.getElem_cons_zero, List.getElem_cons_succ]
    refine wpAnyH_take (i := 28) (v := ?_) rfl (by kernel_rfl) (by kernel_rfl) (by kernel_rfl) (fun _ _ _ h => h) (Or.inl ⟨by rfl, ?_⟩) (by assumption) ?_
    rotate_left
    · (intro W hW; (try dsimp only at hW); go_simp; try with_reducible rfl)
    try simp only [Act.put, List.setIfInBounds_toArray, List.set_cons_zero, List.set_cons_succ, List.getElem_toArray, List.getElem_cons_zero, List.getElem_cons_succ]
    refine wpAnyH_take (i := 29) (v := ?_) rfl (by kernel_rfl) (by kernel_rfl) (by kernel_rfl) (fun _ _ _ h => h) (Or.inl ⟨by rfl, ?_⟩) (by assumption) ?_
    rotate_left
    · (intro W hW; (try dsimp only at hW); go_simp; try with_reducible rfl)
    try simp only [Act.put, List.setIfInBounds_toArray, List.set_cons_zero, List.set_cons_succ, List.getElem_toArray, List.getElem_cons_zero, List.getElem_cons_succ]
    refine wpAnyH_take (i := 30) (v := ?_) rfl (by kernel_rfl) (by kernel_rfl) (by kernel_rfl) (fun _ _ _ h => h) (Or.inl ⟨by rfl, ?_⟩) (by assumption) ?_
    rotate_left
    · (intro W hW; (try dsimp only at hW); go_simp; try with_reducible rfl)
    try simp only [Act.put, List.setIfInBounds_toArray, List.set_cons_zero, List.set_cons_succ, List.getElem_toArray, List.getElem_cons_zero, List.getElem_cons_succ]
    refine wpAnyH_done (by kernel_rfl) ?_ _
    go_wp2_with fail
    go_meet
    exact ⟨rfl, hH0.2.2.2⟩
  case rest =>
    obtain ⟨rfl, Fq⟩ := hcut
    have b4c := b49.fr Fq (by simp)
    have b7c := b79.fr Fq (by simp)
    have hcc := hc9.fr Fq
    have hxc := hx9.fr Fq
    have Tc := T9.fr Fq
    have Mc := M9.fr Fq
    have F0c := F09.pure Fq
    have R7 := b7c.cell
    have l7 := blk_lt b7c
    clear b49 b79 b9 hc9 hx9 hy9 T9 M9 F09 hab hdlt hda hne l4 l9 hXz
    obtain ⟨A', c', eA, _, _, hcell⟩ := hcc.open_
    injection eA with eA
    simp only [Array.mk.injEq, List.cons.injEq, and_true] at eA
    injection eA with e1 _ e3
    subst e1 e3
    have HC := Lib.hid hcell
    clear hcell
    obtain ⟨Ax', cx', eX, q1, q2, hcellx⟩ := hxc.open_
    rw [hXl] at eX
    injection eX with eX
    simp only [Array.mk.injEq, List.cons.injEq, and_true] at eX
    injection eX with e1 _ e3
    subst e1 e3
    have HCX := Lib.hid hcellx
    unfold maxLen at q2
    clear hcellx
    go_wp2_with fail
    go_loopw [9, 10, 59] (fun _ _ s59 wr => ∃ j : Nat, j ≤ L.length ∧ s59 = .int .i64 (j : Int) ∧ Fr none wc wr) (fun _ _ s59 _ => L.length - (intOf s59).toNat)
    case atStart => exact ⟨0, Nat.zero_le _, rfl, Fr.refl _ _⟩
    case round =>
      clear R7 l7
      obtain ⟨j, hj, rfl, F⟩ := hrel
      obtain ⟨wz, hwz⟩ : ∃ wz : World, wz = wr := ⟨_, rfl⟩
      subst hwz
      have b4z := b4c.fr F (by simp)
      by_cases hlt : j < L.length
      · have hlx : j < X.length := by omega
        obtain ⟨bb, off, th, A1, n1, c1, A2, n2, c2, rfl, hb', g0, g1, g2, g3, ht⟩ := HC.out j hlt
        obtain ⟨b', off', th', A1', n1', c1', A2', n2', c2', rfl, hb'', g0', g1', g2', g3', ht'⟩ := HCX.out j hlx
        have g1 := F.keep g1 (by simp)
        have g2 := F.keep g2 (by simp)
        have g3 := F.keep g3 (by simp)
        have g0' := F.keep g0' (by simp)
        have g1' := F.keep g1' (by simp)
        have g2' := F.keep g2' (by simp)
        have g3' := F.keep g3' (by simp)
        have ht : TrR wz none (.agg #[.int .i64 th, .slice A1 n1 c1, .slice A2 n2 c2]) L[j].tr := TrD.keep (fr_dm F) _ _ ht
        have ht' : TrR wz none (.agg #[.int .i64 th', .slice A1' n1' c1', .slice A2' n2' c2']) X[j].tr := TrD.keep (fr_dm F) _ _ ht'
        have HGJ := Lib.hid (HXG.out j hlx)
        obtain ⟨d, hd⟩ : ∃ d, X[j].dec = d := ⟨_, rfl⟩
        obtain ⟨t, htt⟩ : ∃ t, X[j].tr = t := ⟨_, rfl⟩
        obtain ⟨u, hu⟩ : ∃ u, L[j].tr = u := ⟨_, rfl⟩
        rw [hd, htt, hu] at HGJ
        rw [htt] at ht'
        rw [hd] at g0'
        rw [hu] at ht
        clear hd htt hu g0
        go_upto_region 11 with (fail)
        generalize hW : wz.alloc _ = wa
        have Fa : Fr none wz wa := hW ▸ (Fr.refl none wz).alloc _
        have m10 : MB wa wz.heap.size (.bool d) (.int .i64 th') (.slice A1' n1' c1') (.slice A2' n2' c2') := by rw [← hW]; exact blk_new _ _
        clear hW g0' g1' g2' g3'
        have g1 := Fa.keep g1 (by simp)
        have g2 := Fa.keep g2 (by simp)
        have g3 := Fa.keep g3 (by simp)
        have hta := ht.fr Fa
        have hta' := ht'.fr Fa
        have b4a := b4z.fr Fa (by simp)
        have hla := blk_lt b4a
        have hlm := blk_lt m10
        go_cut [77] (fun s77 wq => s77 = .bool false ∧ Fr none wa wq)
        case first =>
          cases d with
          | true =>
            refine wp_region_held_drew (S := fun W => (∀ i, W.cell? ⟨wz.heap.size, i, none⟩ = (#[.bool true, .int .i64 th', .slice A1' n1' c1', .slice A2' n2' c2'] : Array Value)[i]?) ∧ (∀ i, W.cell? ⟨w2.heap.size, i, none⟩ = (#[.slice (some ⟨bb, off, none⟩) L.length c] : Array Value)[i]?) ∧ W.cell? ⟨bb, off + j * 4 + 1, none⟩ = some (.int .i64 th) ∧ W.cell? ⟨bb, off + j * 4 + 2, none⟩ = some (.slice A1 n1 c1) ∧ W.cell? ⟨bb, off + j * 4 + 3, none⟩ = some (.slice A2 n2 c2) ∧ Fr none wa W) (by kernel_rfl) ⟨m10.cell, b4a.cell, g1, g2, g3, (Fr.refl _ _).drew⟩ (fun hH0 => ?_)
            refine wpAnyH_take (i := 0) (v := ?_) rfl (by kernel_rfl) (by kernel_rfl) (by kernel_rfl) (fun _ _ _ h => h) (Or.inl ⟨by rfl, ?_⟩) (by assumption) ?_
            rotate_left
            · (intro W hW; (try dsimp only at hW); go_simp; try with_reducible rfl)
            try simp only [Act.put, List.setIfInBounds_toArray, List.set_cons_zero, List.set_cons_succ, List.getElem_toArray, List.getElem_cons_zero, List.getElem_cons_succ]
            refine wpAnyH_take (i := 1) (v := ?_) rfl (by kernel_rfl) (by kernel_rfl) (by kernel_rfl) (fun _ _ _ h => h) (Or.inl ⟨by rfl, ?_⟩) (by assumption) ?_
            rotate_left
            · (intro W hW; (try dsimp only at hW); go_simp; try with_reducible rfl)
            try simp only [Act.put, List.setIfInBounds_toArray, List.set_cons_zero, List.set_cons_succ, List.getElem_toArray, List.getElem_cons_zero, List.getElem_cons_succ]
            refine wpAnyH_take (i := 2) (v := ?_) rfl (by kernel_rfl) (by kernel_rfl) (by kernel_rfl) (fun _ _ _ h => h) (Or.inl ⟨by rfl, ?_⟩) (by assumption) ?_
            rotate_left
            · (intro W hW; (try dsimp only at hW); go_simp; try with_reducible rfl)
            try simp only [Act.put, List.setIfInBounds_toArray, List.set_cons_zero, List.set_cons_succ, List.getElem_toArray, List.getElem_cons_zero, List.getElem_cons_succ]
            refine wpAnyH_take (i := 3) (v := ?_) rfl (by kernel_rfl) (by kernel_rfl) (by kernel_rfl) (fun _ _ _ h => h) (Or.inl ⟨by rfl, ?_⟩) (by assumption) ?_
            rotate_left
            · (intro W hW; (try dsimp only at hW); go_simp; try with_reducible rfl)
            try simp only [Act.put, List.setIfInBounds_toArray, List.set_cons_zero, List.set_cons_succ, List.getElem_toArray, List.getElem_cons_zero, List.getElem_cons_succ]
            refine wpAnyH_take (i := 4) (v := ?_) rfl (by kernel_rfl) (by kernel_rfl) (by kernel_rfl) (fun _ _ _ h => h) (Or.inl ⟨by rfl, ?_⟩) (by assumption) ?_
            rotate_left
            · (intro W hW; (try dsimp only at hW); go_simp; try with_reducible rfl)
            try simp only [Act.put, List.setIfInBounds_toArray, List.set_cons_zero, List.set_cons_succ, List.getElem_toArray, List.getElem_cons_zero, List.getElem_cons_succ]
            refine wpAnyH_take (i := 5) (v := ?_) rfl (by kernel_rfl) (by kernel_rfl) (by kernel_rfl) (fun _ _ _ h => h) (Or.inl ⟨by rfl, ?_⟩) (by assumption) ?_
            rotate_left
            · (intro W hW; (try dsimp only at hW); go_simp; try with_reducible rfl)
            try simp only [Act.put, List.setIfInBounds_toArray, List.set_cons_zero, List.set_cons_succ, List.getElem_toArray, List.getElem_cons_zero, List.getElem_cons_succ]
            refine wpAnyH_take (i := 6) (v := ?_) rfl (by kernel_rfl) (by kernel_rfl) (by kernel_rfl) (fun _ _ _ h => h) (Or.inl ⟨by rfl, ?_⟩) (by assumption) ?_
            rotate_left
            · (intro W hW; (try dsimp only at hW); go_simp; try with_reducible rfl)
            try simp only [Act.put, List.setIfInBounds_toArray, List.set_cons_zero, List.set_cons_succ, List.getElem_toArray, List.getElem_cons_zero, List.getElem_cons_succ]
            refine wpAnyH_take (i := 7) (v := ?_) rfl (by kernel_rfl) (by kernel_rfl) (by kernel_rfl) (fun _ _ _ h => h) (Or.inl ⟨by rfl, ?_⟩) (by assumption) ?_
            rotate_left
            · (intro W hW; (try dsimp only at hW); go_simp; try with_reducible rfl)
            try simp only [Act.put, List.setIfInBounds_toArray, List.set_cons_zero, List.set_cons_succ, List.getElem_toArray, List.getElem_cons_zero, List.getElem_cons_succ]
            refine wpAnyH_take (i := 8) (v := ?_) rfl (by kernel_rfl) (by kernel_rfl) (by kernel_rfl) (fun _ _ _ h => h) (Or.inl ⟨by rfl, ?_⟩) (by assumption) ?_
            rotate_left
            · (intro W hW; (try dsimp only at hW); go_simp; try with_reducible rfl)
            try simp only [Act.put, List.setIfInBounds_toArray, List.set_cons_zero, List.set_cons_succ, List.getElem_toArray, List.getElem_cons_zero, List.getElem_cons_succ]
            refine wpAnyH_take (i := 9) (v := ?_) rfl (by kernel_rfl) (by kernel_rfl) (by kernel_rfl) (fun _ _ _ h => h) (Or.inl ⟨by rfl, ?_⟩) (by assumption) ?_
            rotate_left
            · (intro W hW; (try dsimp only at hW); go_simp; try with_reducible rfl)
            try simp only [Act.put, List.setIfInBounds_toArray, List.set_cons_zero, List.set_cons_succ, List.getElem_toArray, List.getElem_cons_zero, List.getElem_cons_succ]
            refine wpAnyH_take (i := 10) (v := ?_) rfl (by kernel_rfl) (by kernel_rfl) (by kernel_rfl) (fun _ _ _ h => h) (Or.inl ⟨by rfl, ?_⟩) (by assumption) ?_
            rotate_left
            · (intro W hW; (try dsimp only at hW); go_simp; try with_reducible rfl)
            try simp only [Act.put, List.setIfInBounds_toArray, List.set_cons_zero, List.set_cons_succ, List.getElem_toArray, List.getElem_cons_zero, List.getElem_cons_succ]
            refine wpAnyH_ready (rs := [11]) (by kernel_rfl) (by simp) ?_
            refine AllReadyH.cons rfl (fun K hK => ?_) AllReadyH.nil
            simp only [List.getElem_toArray, List.getElem_cons_zero, List.getElem_cons_succ]
            go_simp
            go_at_call 27
            have FH := hH0.2.2.2.2.2
            refine (rsame_any t.dep t u _ _ _ none (Nat.le_refl _) (hta'.fr FH) (hta.fr FH)).mono ?_
            rintro e w9' ⟨rfl, F9'⟩
            rw [(sameT_iff _ _).2 (HGJ.out rfl)]
            have FN := FH.pure F9'
            refine hK.out _ _ ⟨(m10.fr FN (by simp)).cell, (b4a.fr FN (by simp)).cell, FN.keep g1 (by simp), FN.keep g2 (by simp), FN.keep g3 (by simp), FN⟩ (fun hH1 => ?_)
            clear hK K hH0 FH
            try simp only [Act.put, List.setIfInBounds_toArray, List.set_cons_zero, List.set_cons_succ, List.getElem_toArray, List.getElem_cons_zero, List.getElem_cons_succ]
            refine wpAnyH_take (i := 12) (v := ?_) rfl (by kernel_rfl) (by kernel_rfl) (by kernel_rfl) (fun _ _ _ h => h) (Or.inl ⟨by rfl, ?_⟩) (by assumption) ?_
            rotate_left
            · (intro W hW; (try dsimp only at hW); go_simp; try with_reducible rfl)
            try simp only [Act.put, List.setIfInBounds_toArray, List.set_cons_zero, List.set_cons_succ, List.getElem_toArray, List.getElem_cons_zero, List.getElem_cons_succ]
            refine wpAnyH_take (i := 13) (v := ?_) rfl (by kernel_rfl) (by kernel_rfl) (by kernel_rfl) (fun _ _ _ h => h) (Or.inl ⟨by rfl, ?_⟩) (by assumption) ?_
            rotate_left
            · (intro W hW; (try dsimp only at hW); go_simp; try with_reducible rfl)
            try simp only [Act.put, List.setIfInBounds_toArray, List.set_cons_zero, List.set_cons_succ, List.getElem_toArray, List.getElem_cons_zero, List.getElem_cons_succ]
            refine wpAnyH_done (by kernel_rfl) ?_ _
            go_wp2_with fail
            go_meet
            exact ⟨rfl, FN⟩
          | false =>
            refine wp_region_held_drew (S := fun W => (∀ i, W.cell? ⟨wz.heap.size, i, none⟩ = (#[.bool false, .int .i64 th', .slice A1' n1' c1', .slice A2' n2' c2'] : Array Value)[i]?) ∧ Fr none wa W) (by kernel_rfl) ⟨m10.cell, (Fr.refl _ _).drew⟩ (fun hH0 => ?_)
            refine wpAnyH_take (i := 0) (v := ?_) rfl (by kernel_rfl) (by kernel_rfl) (by kernel_rfl) (fun _ _ _ h => h) (Or.inl ⟨by rfl, ?_⟩) (by assumption) ?_
            rotate_left
            · (intro W hW; (try dsimp only at hW); go_simp; try with_reducible rfl)
            try simp only [Act.put, List.setIfInBounds_toArray, List.set_cons_zero, List.set_cons_succ, List.getElem_toArray, List.getElem_cons_zero, List.getElem_cons_succ]
            refine wpAnyH_take (i := 1) (v := ?_) rfl (by kernel_rfl) (by kernel_rfl) (by kernel_rfl) (fun _ _ _ h => h) (Or.inl ⟨by rfl, ?_⟩) (by assumption) ?_
            rotate_left
            · (intro W hW; (try dsimp only at hW); go_simp; try with_reducible rfl)
            try simp only [Act.put, List.setIfInBounds_toArray, List.set_cons_zero, List.set_cons_succ, List.getElem_toArray, List.getElem_cons_zero, List.getElem_cons_succ]
            refine wpAnyH_take (i := 2) (v := ?_) rfl (by kernel_rfl) (by kernel_rfl) (by kernel_rfl) (fun _ _ _ h => h) (Or.inl ⟨by rfl, ?_⟩) (by assumption) ?_
            rotate_left
            · (intro W hW; (try dsimp only at hW); go_simp; try with_reducible rfl)
            try simp only [Act.put, List.setIfInBounds_toArray, List.set_cons_zero, List.set_cons_succ, List.getElem_toArray, List.getElem_cons_zero, List.getElem_cons_succ]
            refine wpAnyH_take (i := 3) (v := undef) rfl (by kernel_rfl) (by kernel_rfl) (by kernel_rfl) (fun _ _ _ h => h) (Or.inr ⟨by rfl, rfl⟩) (by assumption) ?_
            try simp only [Act.put, List.setIfInBounds_toArray, List.set_cons_zero, List.set_cons_succ, List.getElem_toArray, List.getElem_cons_zero, List.getElem_cons_succ]
            refine wpAnyH_take (i := 4) (v := undef) rfl (by kernel_rfl) (by kernel_rfl) (by kernel_rfl) (fun _ _ _ h => h) (Or.inr ⟨by rfl, rfl⟩) (by assumption) ?_
            try simp only [Act.put, List.setIfInBounds_toArray, List.set_cons_zero, List.set_cons_succ, List.getElem_toArray, List.getElem_cons_zero, List.getElem_cons_succ]
            refine wpAnyH_take (i := 5) (v := undef) rfl (by kernel_rfl) (by kernel_rfl) (by kernel_rfl) (fun _ _ _ h => h) (Or.inr ⟨by rfl, rfl⟩) (by assumption) ?_
            try simp only [Act.put, List.setIfInBounds_toArray, List.set_cons_zero, List.set_cons_succ, List.getElem_toArray, List.getElem_cons_zero, List.getElem_cons_succ]
            refine wpAnyH_take (i := 6) (v := undef) rfl (by kernel_rfl) (by kernel_rfl) (by kernel_rfl) (fun _ _ _ h => h) (Or.inr ⟨by rfl, rfl⟩) (by assumption) ?_
            try simp only [Act.put, List.setIfInBounds_toArray, List.set_cons_zero, List.set_cons_succ, List.getElem_toArray, List.getElem_cons_zero, List.getElem_cons_succ]
            refine wpAnyH_take (i := 7) (v := undef) rfl (by kernel_rfl) (by kernel_rfl) (by kernel_rfl) (fun _ _ _ h => h) (Or.inr ⟨by rfl, rfl⟩) (by assumption) ?_
            try simp only [Act.put, List.setIfInBounds_toArray, List.set_cons_zero, List.set_cons_succ, List.getElem_toArray, List.getElem_cons_zero, List.getElem_cons_succ]
            refine wpAnyH_take (i := 8) (v := undef) rfl (by kernel_rfl) (by kernel_rfl) (by kernel_rfl) (fun _ _ _ h => h) (Or.inr ⟨by rfl, rfl⟩) (by assumption) ?_
            try simp only [Act.put, List.setIfInBounds_toArray, List.set_cons_zero, List.set_cons_succ, List.getElem_toArray, List.getElem_cons_zero, List.getElem_cons_succ]
            refine wpAnyH_take (i := 9) (v := undef) rfl (by kernel_rfl) (by kernel_rfl) (by kernel_rfl) (fun _ _ _ h => h) (Or.inr ⟨by rfl, rfl⟩) (by assumption) ?_
            try simp only [Act.put, List.setIfInBounds_toArray, List.set_cons_zero, List.set_cons_succ, List.getElem_toArray, List.getElem_cons_zero, List.getElem_cons_succ]
            refine wpAnyH_take (i := 10) (v := undef) rfl (by kernel_rfl) (by kernel_rfl) (by kernel_rfl) (fun _ _ _ h => h) (Or.inr ⟨by rfl, rfl⟩) (by assumption) ?_
            try simp only [Act.put, List.setIfInBounds_toArray, List.set_cons_zero, List.set_cons_succ, List.getElem_toArray, List.getElem_cons_zero, List.getElem_cons_succ]
            refine wpAnyH_take (i := 11) (v := undef) rfl (by kernel_rfl) (by kernel_rfl) (by kernel_rfl) (fun _ _ _ h => h) (Or.inr ⟨by rfl, rfl⟩) (by assumption) ?_
            try simp only [Act.put, List.setIfInBounds_toArray, List.set_cons_zero, List.set_cons_succ, List.getElem_toArray, List.getElem_cons_zero, List.getElem_cons_succ]
            refine wpAnyH_take (i := 12) (v := undef) rfl (by kernel_rfl) (by kernel_rfl) (by kernel_rfl) (fun _ _ _ h => h) (Or.inr ⟨by rfl, rfl⟩) (by assumption) ?_
            try simp only [Act.put, List.setIfInBounds_toArray, List.set_cons_zero, List.set_cons_succ, List.getElem_toArray, List.getElem_cons_zero, List.getElem_cons_succ]
            refine wpAnyH_take (i := 13) (v := ?_) rfl (by kernel_rfl) (by kernel_rfl) (by kernel_rfl) (fun _ _ _ h => h) (Or.inl ⟨by rfl, ?_⟩) (by assumption) ?_
            rotate_left
            · (intro W hW; (try dsimp only at hW); go_simp; try with_reducible rfl)
            try simp only [Act.put, List.setIfInBounds_toArray, List.set_cons_zero, List.set_cons_succ, List.getElem_toArray, List.getElem_cons_zero, List.getElem_cons_succ]
            refine wpAnyH_done (by kernel_rfl) ?_ _
            go_wp2_with fail
            go_meet
            exact ⟨rfl, hH0.2⟩
        case rest =>
          obtain ⟨rfl, Fr9⟩ := hcut
          go_wp2_with fail
          go_roundw
          case rel => exact ⟨j + 1, by omega, by go_num, (F.pure Fa).pure Fr9⟩
          case measure => simp [intOf]; omega
      · obtain rfl : j = L.length := by omega
        go_wp2_with fail
        refine (awake6_any _ (Tc.fr F) (Mc.fr F)).mono ?_
        rintro e w9 ⟨rfl, F9⟩
        go_wp2_with fail
        go_ret
        exact ⟨rfl, (F0c.pure F).pure F9⟩
end Go.Proofs.YtpdhckbiioobhaaGreatDoor

/- Some texts of this claim, joined: contracts of the functions that it reaches, and plain laws. -/
import Derived.Test.YtkpgnhdmlikopaaGreatDoorProg
import Derived.Test.YtkpgnhdmlikopaaGreatDoorJA13
import Derived.Test.YtkpgnhdmlikopaaGreatDoorJA15
import Derived.Test.YtkpgnhdmlikopaaGreatDoorJA4
import Derived.Test.YtkpgnhdmlikopaaGreatDoorJA11
import Derived.Test.YtkpgnhdmlikopaaGreatDoorJA6

set_option linter.unusedSimpArgs false
set_option linter.unusedVariables false
/- The law ClaimsAnswers: its walk. -/
namespace Go.Proofs.YtkpgnhdmlikopaaGreatDoor
open Go.RowKit

/-- Lists of claims, in a block of slices. -/
def LsC (w : World) (bk n : Nat) : Prop := ∀ k, k < n → ∃ (A : Option Addr) (c : Nat) (L : List Cl), w.cell? ⟨bk, k, none⟩ = some (.slice A L.length c) ∧ SlC w none (.slice A L.length c) L ∧ L.length ≤ 200
theorem LsC.fr {w w' : World} {bk n : Nat} (h : LsC w bk n) (F : Fr none w w') : LsC w' bk n := fun k hk => by
  obtain ⟨A, c, L, h1, h2, h3⟩ := h k hk
  exact ⟨A, c, L, F.keep h1 (by simp), h2.fr F, h3⟩
/-- Three lists of claims. -/
def L3C (w : World) (A0 : Option Addr) (c0 : Nat) (l : List Cl) (A1 : Option Addr) (c1 : Nat) (m : List Cl) (A2 : Option Addr) (c2 : Nat) (n : List Cl) : Prop :=
  (SlC w none (.slice A0 l.length c0) l ∧ l.length ≤ 200) ∧ (SlC w none (.slice A1 m.length c1) m ∧ m.length ≤ 200) ∧ SlC w none (.slice A2 n.length c2) n ∧ n.length ≤ 200
theorem L3C.fr {w w' : World} {A0 : Option Addr} {c0 : Nat} {l : List Cl} {A1 : Option Addr} {c1 : Nat} {m : List Cl} {A2 : Option Addr} {c2 : Nat} {n : List Cl} (h : L3C w A0 c0 l A1 c1 m A2 c2 n) (F : Fr none w w') : L3C w' A0 c0 l A1 c1 m A2 c2 n :=
  ⟨⟨h.1.1.fr F, h.1.2⟩, ⟨h.2.1.1.fr F, h.2.1.2⟩, h.2.2.1.fr F, h.2.2.2⟩
theorem L3C.blk {w : World} {A0 : Option Addr} {c0 : Nat} {l : List Cl} {A1 : Option Addr} {c1 : Nat} {m : List Cl} {A2 : Option Addr} {c2 : Nat} {n : List Cl} (h : L3C w A0 c0 l A1 c1 m A2 c2 n) {bk : Nat} {T : TypeId} (hb : w.heap[bk]? = some (.cells #[.slice A0 l.length c0, .slice A1 m.length c1, .slice A2 n.length c2] T)) : LsC w bk 3 := fun k hk => by
  rcases (show k = 0 ∨ k = 1 ∨ k = 2 by omega) with rfl | rfl | rfl
  · exact ⟨_, _, l, by rw [blk_cell hb]; rfl, h.1.1, h.1.2⟩
  · exact ⟨_, _, m, by rw [blk_cell hb]; rfl, h.2.1.1, h.2.1.2⟩
  · exact ⟨_, _, n, by rw [blk_cell hb]; rfl, h.2.2.1, h.2.2.2⟩
/-- Claims in a block of their own. -/
def ClB (w : World) (bk n : Nat) : Prop := ∀ k, k < n → ∃ y : Cl, w.cell? ⟨bk, k * 2, none⟩ = some (.int .i64 y.1) ∧ w.cell? ⟨bk, k * 2 + 1, none⟩ = some (.int .i64 y.2) ∧ Wc y
theorem ClB.fr {w w' : World} {bk n : Nat} (h : ClB w bk n) (F : Fr none w w') : ClB w' bk n := fun k hk => by
  obtain ⟨y, h1, h2, h3⟩ := h k hk
  exact ⟨y, F.keep h1 (by simp), F.keep h2 (by simp), h3⟩
theorem ClB.mk4 {w : World} {bk : Nat} {T : TypeId} {a b x y : Cl} (hb : w.heap[bk]? = some (.cells #[.int .i64 a.1, .int .i64 a.2, .int .i64 b.1, .int .i64 b.2, .int .i64 x.1, .int .i64 x.2, .int .i64 y.1, .int .i64 y.2] T)) (ha : Wc a) (hb' : Wc b) (hx : Wc x) (hy : Wc y) : ClB w bk 4 := fun k hk => by
  rcases (show k = 0 ∨ k = 1 ∨ k = 2 ∨ k = 3 by omega) with rfl | rfl | rfl | rfl
  · exact ⟨a, by rw [blk_cell hb]; rfl, by rw [blk_cell hb]; rfl, ha⟩
  · exact ⟨b, by rw [blk_cell hb]; rfl, by rw [blk_cell hb]; rfl, hb'⟩
  · exact ⟨x, by rw [blk_cell hb]; rfl, by rw [blk_cell hb]; rfl, hx⟩
  · exact ⟨y, by rw [blk_cell hb]; rfl, by rw [blk_cell hb]; rfl, hy⟩
/-- Strings in a block of their own. -/
def StB (w : World) (bk n : Nat) : Prop := ∀ k, k < n → ∃ Z : ByteArray, w.cell? ⟨bk, k, none⟩ = some (.string Z) ∧ Z.size ≤ 1000000
theorem StB.fr {w w' : World} {bk n : Nat} (h : StB w bk n) (F : Fr none w w') : StB w' bk n := fun k hk => by
  obtain ⟨y, h1, h2⟩ := h k hk
  exact ⟨y, F.keep h1 (by simp), h2⟩
theorem StB.mk3 {w : World} {bk : Nat} {T : TypeId} {a b c : ByteArray} (hb : w.heap[bk]? = some (.cells #[.string a, .string b, .string c] T)) (h1 : a.size ≤ 1000000) (h2 : b.size ≤ 1000000) (h3 : c.size ≤ 1000000) : StB w bk 3 := fun k hk => by
  rcases (show k = 0 ∨ k = 1 ∨ k = 2 by omega) with rfl | rfl | rfl
  · exact ⟨a, by rw [blk_cell hb]; rfl, h1⟩
  · exact ⟨b, by rw [blk_cell hb]; rfl, h2⟩
  · exact ⟨c, by rw [blk_cell hb]; rfl, h3⟩
theorem rsm_self (a : List Cl) (va vb : Value) (w : World) (ha : SlC w none va a) (hb : SlC w none vb a) :
    Calls Tryz.prog 17 #[va, vb] w fun e w' => e = .returned (.bool true) ∧ Fr none w w' :=
  (rsm_any a a va vb w ha hb).mono fun e w' ⟨h, k⟩ => ⟨by rw [h, decide_eq_true rfl], k⟩
theorem ints_self (a : List Int) (va vb : Value) (w : World) (ha : SlI w none va a) (hb : SlI w none vb a) :
    Calls Tryz.prog 29 #[va, vb] w fun e w' => e = .returned (.bool true) ∧ Fr none w w' :=
  (ints_any a a va vb w ha hb).mono fun e w' ⟨h, k⟩ => ⟨by rw [h, decide_eq_true rfl], k⟩
set_option maxRecDepth 100000 in
set_option maxHeartbeats 4000000 in
theorem lawCa_any (vt : Value) (tl : List Int) (a b : Cl) (v : Value) (l : List Cl) (tp : Int) (X : ByteArray) (w : World) (ht : SlI w none vt tl) (hwa : Wc a) (hwb : Wc b) (h : SlC w none v l) (hE : Errs w) (hM : Mxl w) (hP : Spc w) :
    Calls Tryz.prog 3 #[vt, .agg #[.int .i64 a.1, .int .i64 a.2], .agg #[.int .i64 b.1, .int .i64 b.2], v, .int .i64 tp, .string X] w fun e w' => e = .returned (.bool true) ∧ Fr none w w' := by
  obtain ⟨A0, c0, rfl, _, _, _⟩ := h.open_
  go_enter Tryz.func3, Tryz.ntmps3
  go_upto_region 1 with (fail)
  generalize hW : (w.alloc _).alloc _ = w1
  have F1 : Fr none w w1 := hW ▸ ((Fr.refl none w).alloc _).alloc _
  have b7 : CB2 w1 w.heap.size (.int .i64 a.1) (.int .i64 a.2) 24 := by rw [← hW]; exact blk_fr (blk_new _ _) ((Fr.refl none _).alloc _) (by simp)
  have b8 : CB2 w1 (w.heap.size + 1) (.int .i64 b.1) (.int .i64 b.2) 24 := by rw [← hW]; exact blk_new_at (by simp) _
  clear hW
  by_cases h60 : 60 < l.length
  · have hd : decide ((60 : Int) < (l.length : Int)) = true := decide_eq_true (by omega)
    clear h60
    go_wp2_with fail
    refine (awakeC_any _ (hE.fr F1) (hM.fr F1) (hP.fr F1)).mono ?_
    rintro e w2 ⟨rfl, F2⟩
    go_wp2_with fail
    go_ret
    exact ⟨rfl, F1.pure F2⟩
  · have hd : decide ((60 : Int) < (l.length : Int)) = false := decide_eq_false (by omega)
    by_cases h1k : 1000 < X.size
    · have hd : decide ((1000 : Int) < (X.size : Int)) = true := decide_eq_true (by omega)
      clear h60 h1k
      go_wp2_with fail
      refine (awakeC_any _ (hE.fr F1) (hM.fr F1) (hP.fr F1)).mono ?_
      rintro e w2 ⟨rfl, F2⟩
      go_wp2_with fail
      go_ret
      exact ⟨rfl, F1.pure F2⟩
    · have hd2 : decide ((1000 : Int) < (X.size : Int)) = false := decide_eq_false (by omega)
      have hl : l.length ≤ 60 := by omega
      have hX : X.size ≤ 1000 := by omega
      have l8 := blk_lt b8
      clear h60 h1k
      go_wp2_with fail
      refine (tapeNew_any _ tl _ (ht.fr F1)).mono ?_
      rintro e w2 ⟨g, rfl, hg, S2, F2⟩
      have hg1 := S2.lt
      have H0 := (h.fr F1).fresh F2 hg
      have b7 := b7.fr F2 (by simp)
      have b8 := b8.fr F2 (by simp)
      have F02 := F1.pure F2
      have hgw : w.heap.size + 1 < g := by omega
      clear hd hd2 ht h F1 F2
      go_wp2_with fail
      refine (mkclms_any g 8 w2 (by omega) S2).mono ?_
      rintro e w3 ⟨v3, m, rfl, hs3, hW3, hl3, S3, F3⟩
      have H1 : SlC w3 (some g) v3 m := ⟨hs3.keep (dn_dm (fun q e => by injection e with e; omega)), hW3⟩
      have H0 := H0.fr F3
      have b7 := b7.fr F3 (by simp; omega)
      have b8 := b8.fr F3 (by simp; omega)
      have F03 := F02.own F3 (fun q e => by injection e with e; omega)
      have hz3 := F3.size
      clear hs3 hW3 S2 F02 F3
      obtain ⟨A1, c1, rfl, _, _, _⟩ := H1.open_
      go_wp2_with fail
      refine (mkclms_any g 8 w3 (by omega) S3).mono ?_
      rintro e w3b ⟨v3b, m2, rfl, hs3, hW3, hl3b, S3b, F3⟩
      have H2 : SlC w3b none v3b m2 := ⟨hs3.keep (dn_dm (by simp)), hW3⟩
      have H0 := H0.fr F3
      have H1 := H1.fr F3
      have b7 := b7.fr F3 (by simp; omega)
      have b8 := b8.fr F3 (by simp; omega)
      have F03b := F03.own F3 (fun q e => by injection e with e; omega)
      have hz3b := F3.size
      clear hs3 hW3 S3 F03 F3
      go_wp2_with fail
      refine (rsrt_any m2 _ w3b H2).mono ?_
      rintro e w4 ⟨v4, rfl, hs4, F4⟩
      have H2 := NwC.sl hs4 (srtC_wc m2) (some g) (fun q e => by injection e with e; omega)
      have hn := srtC_len m2
      generalize srtC m2 = n at *
      obtain ⟨A2, c2, rfl, _, _, _⟩ := H2.open_
      have H0 := Lib.hid (H0.fr (F4.mono (r := some g)))
      have H1 := Lib.hid (H1.fr (F4.mono (r := some g)))
      have H2 := Lib.hid H2
      have b7 := b7.fr F4 (by simp)
      have b8 := b8.fr F4 (by simp)
      have S4 := S3b.fr F4
      have F04 := F03b.pure F4
      clear hs4 S3b F03b F4
      go_upto_region 5 with (fail)
      refine wp_region_held_drew (S := fun W => (W.cell? ⟨w.heap.size, 0, none⟩ = some (.int .i64 a.1) ∧ W.cell? ⟨w.heap.size, 1, none⟩ = some (.int .i64 a.2)) ∧ (W.cell? ⟨w.heap.size + 1, 0, none⟩ = some (.int .i64 b.1) ∧ W.cell? ⟨w.heap.size + 1, 1, none⟩ = some (.int .i64 b.2)) ∧ Hid (SrcR 51 W g ∧ Fr (some g) w4 W)) (by kernel_rfl) ⟨b7.cell, b8.cell, ⟨S4.drew, (Fr.refl _ _).drew⟩⟩ (fun hH0 => ?_)
      refine wpAnyH_take (i := 0) (v := ?_) rfl (by kernel_rfl) (by kernel_rfl) (by kernel_rfl) (fun _ _ _ h => h) (Or.inl ⟨by rfl, ?_⟩) (by assumption) ?_
      rotate_left
      · (intro W hW; (try dsimp only at hW); go_simp; try with_reducible rfl)
      try simp only [Act.put, List.setIfInBounds_toArray, List.set_cons_zero, List.set_cons_succ, List.getElem_toArray, List.getElem_cons_zero, List.getElem_cons_succ]
      refine wpAnyH_take (i := 1) (v := ?_) rfl (by kernel_rfl) (by kernel_rfl) (by kernel_rfl) (fun _ _ _ h => h) (Or.inl ⟨by rfl, ?_⟩) (by assumption) ?_
      rotate_left
      · (intro W hW; (try dsimp only at hW); go_simp; try with_reducible rfl)
      try simp only [Act.put, List.setIfInBounds_toArray, List.set_cons_zero, List.set_cons_succ, List.getElem_toArray, List.getElem_cons_zero, List.getElem_cons_succ]
      refine wpAnyH_take (i := 2) (v := ?_) rfl (by kernel_rfl) (by kernel_rfl) (by kernel_rfl) (fun _ _ _ h => h) (Or.inl ⟨by rfl, ?_⟩) (by assumption) ?_
      rotate_left
      · (intro W hW; (try dsimp only at hW); go_simp; try with_reducible rfl)
      try simp only [Act.put, List.setIfInBounds_toArray, List.set_cons_zero, List.set_cons_succ, List.getElem_toArray, List.getElem_cons_zero, List.getElem_cons_succ]
      refine wpAnyH_take (i := 4) (v := ?_) rfl (by kernel_rfl) (by kernel_rfl) (by kernel_rfl) (fun _ _ _ h => h) (Or.inl ⟨by rfl, ?_⟩) (by assumption) ?_
      rotate_left
      · (intro W hW; (try dsimp only at hW); go_simp; try with_reducible rfl)
      try simp only [Act.put, List.setIfInBounds_toArray, List.set_cons_zero, List.set_cons_succ, List.getElem_toArray, List.getElem_cons_zero, List.getElem_cons_succ]
      refine wpAnyH_take (i := 8) (v := ?_) rfl (by kernel_rfl) (by kernel_rfl) (by kernel_rfl) (fun _ _ _ h => h) (Or.inl ⟨by rfl, ?_⟩) (by assumption) ?_
      rotate_left
      · (intro W hW; (try dsimp only at hW); go_simp; try with_reducible rfl)
      try simp only [Act.put, List.setIfInBounds_toArray, List.set_cons_zero, List.set_cons_succ, List.getElem_toArray, List.getElem_cons_zero, List.getElem_cons_succ]
      refine wpAnyH_ready (rs := [3]) (by kernel_rfl) (by simp) ?_
      refine AllReadyH.cons rfl (fun K hK => ?_) AllReadyH.nil
      simp only [List.getElem_toArray, List.getElem_cons_zero, List.getElem_cons_succ]
      go_simp
      go_at_call 8
      refine (mkclm_any g _ hH0.2.2.out.1).mono ?_
      rintro e wN ⟨x, rfl, hwx, SN, FN⟩
      have HWx := Lib.hid hwx
      have HN : Hid (SrcR 51 wN g ∧ Fr (some g) w4 wN) := ⟨SN, hH0.2.2.out.2.same FN⟩
      refine hK.out _ _ ⟨(b7.fr HN.out.2 (by simp; omega)).cell, (b8.fr HN.out.2 (by simp; omega)).cell, HN⟩ (fun hH1 => ?_)
      clear hK K hH0 hwx SN FN HN
      have hH0 := hH1
      clear hH1
      try simp only [Act.put, List.setIfInBounds_toArray, List.set_cons_zero, List.set_cons_succ, List.getElem_toArray, List.getElem_cons_zero, List.getElem_cons_succ]
      refine wpAnyH_ready (rs := [5]) (by kernel_rfl) (by simp) ?_
      refine AllReadyH.cons rfl (fun K hK => ?_) AllReadyH.nil
      simp only [List.getElem_toArray, List.getElem_cons_zero, List.getElem_cons_succ]
      go_simp
      go_at_call 8
      refine (mkclm_any g _ hH0.2.2.out.1).mono ?_
      rintro e wN ⟨y, rfl, hwx, SN, FN⟩
      have HWy := Lib.hid hwx
      have HN : Hid (SrcR 51 wN g ∧ Fr (some g) w4 wN) := ⟨SN, hH0.2.2.out.2.same FN⟩
      refine hK.out _ _ ⟨(b7.fr HN.out.2 (by simp; omega)).cell, (b8.fr HN.out.2 (by simp; omega)).cell, HN⟩ (fun hH1 => ?_)
      clear hK K hH0 hwx SN FN HN
      have hH0 := hH1
      clear hH1
      try simp only [Act.put, List.setIfInBounds_toArray, List.set_cons_zero, List.set_cons_succ, List.getElem_toArray, List.getElem_cons_zero, List.getElem_cons_succ]
      refine wpAnyH_ready (rs := [6]) (by kernel_rfl) (by simp) ?_
      refine AllReadyH.cons rfl (fun K hK => ?_) AllReadyH.nil
      simp only [List.getElem_toArray, List.getElem_cons_zero, List.getElem_cons_succ]
      go_simp
      generalize hW : wN.alloc _ = w5
      have FN : Fr none wN w5 := hW ▸ (Fr.refl none wN).alloc _
      have HN : Hid (SrcR 51 w5 g ∧ Fr (some g) w4 w5) := ⟨hH0.2.2.out.1.fr FN, hH0.2.2.out.2.pure FN⟩
      obtain ⟨B5, hB5⟩ : ∃ B5, B5 = wN.heap.size := ⟨_, rfl⟩
      rw [← hB5]
      have HC : Hid (ClB w5 B5 4) := ClB.mk4 (by rw [← hW]; exact blk_new_at hB5 _) hwa hwb HWx.out HWy.out
      clear hW hB5
      refine hK.out _ _ ⟨(b7.fr HN.out.2 (by simp; omega)).cell, (b8.fr HN.out.2 (by simp; omega)).cell, HN⟩ (fun hH1 => ?_)
      clear hK K hH0 FN
      have hH0 := hH1
      clear hH1
      try simp only [Act.put, List.setIfInBounds_toArray, List.set_cons_zero, List.set_cons_succ, List.getElem_toArray, List.getElem_cons_zero, List.getElem_cons_succ]
      refine wpAnyH_take (i := 7) (v := ?_) rfl (by kernel_rfl) (by kernel_rfl) (by kernel_rfl) (fun _ _ _ h => h) (Or.inl ⟨by rfl, ?_⟩) (by assumption) ?_
      rotate_left
      · (intro W hW; (try dsimp only at hW); go_simp; try with_reducible rfl)
      try simp only [Act.put, List.setIfInBounds_toArray, List.set_cons_zero, List.set_cons_succ, List.getElem_toArray, List.getElem_cons_zero, List.getElem_cons_succ]
      refine wpAnyH_done (by kernel_rfl) ?_ _
      clear hH0
      have HL : Hid (L3C w5 A0 c0 l A1 c1 m A2 c2 n) := ⟨⟨(H0.out.fr HN.out.2).weak, by omega⟩, ⟨(H1.out.fr HN.out.2).weak, by omega⟩, (H2.out.fr HN.out.2).weak, by omega⟩
      have F05 := F04.own HN.out.2 (fun q e => by injection e with e; omega)
      have b8 := b8.fr HN.out.2 (by simp; omega)
      have HS5 := Lib.hid HN.out.1
      have hgb : Hid (w.heap.size + 1 < g) := hgw
      clear HN b7 H0 H1 H2 F04 S4 HWx HWy hg hg1 hgw l8 hz3 hz3b hwa hwb hn hl3 hl3b
      go_wp2_with fail
      go_loopw [52] (fun s52 wr => ∃ j : Nat, j ≤ 4 ∧ s52 = .int .i64 (j : Int) ∧ Fr none w5 wr) (fun s52 _ => 4 - (intOf s52).toNat)
      case atStart => exact ⟨0, by omega, rfl, Fr.refl _ _⟩
      case round =>
        obtain ⟨j, hj, rfl, F⟩ := hrel
        obtain ⟨wz, hwz⟩ : ∃ wz : World, wz = wr := ⟨_, rfl⟩
        subst hwz
        by_cases hlt : j < 4
        · obtain ⟨y, k1, k2, hwy⟩ := HC.out.fr F j hlt
          have HWy := Lib.hid hwy
          clear hwy
          go_upto_region 8 with (fail)
          generalize hW : wz.alloc _ = wa
          have Fa : Fr none wz wa := hW ▸ (Fr.refl none wz).alloc _
          have b17 : CB2 wa wz.heap.size (.int .i64 y.1) (.int .i64 y.2) 24 := by rw [← hW]; exact blk_new _ _
          clear hW k1 k2
          have b8 := b8.fr (F.pure Fa) (by simp)
          refine wp_region_held_drew (S := fun W => (W.cell? ⟨wz.heap.size, 0, none⟩ = some (.int .i64 y.1) ∧ W.cell? ⟨wz.heap.size, 1, none⟩ = some (.int .i64 y.2)) ∧ (W.cell? ⟨w.heap.size + 1, 0, none⟩ = some (.int .i64 b.1) ∧ W.cell? ⟨w.heap.size + 1, 1, none⟩ = some (.int .i64 b.2)) ∧ Fr none wa W) (by kernel_rfl) ⟨b17.cell, b8.cell, (Fr.refl _ _).drew⟩ (fun hH0 => ?_)
          refine wpAnyH_take (i := 0) (v := ?_) rfl (by kernel_rfl) (by kernel_rfl) (by kernel_rfl) (fun _ _ _ h => h) (Or.inl ⟨by rfl, ?_⟩) (by assumption) ?_
          rotate_left
          · (intro W hW; (try dsimp only at hW); go_simp; try with_reducible rfl)
          try simp only [Act.put, List.setIfInBounds_toArray, List.set_cons_zero, List.set_cons_succ, List.getElem_toArray, List.getElem_cons_zero, List.getElem_cons_succ]
          refine wpAnyH_take (i := 2) (v := ?_) rfl (by kernel_rfl) (by kernel_rfl) (by kernel_rfl) (fun _ _ _ h => h) (Or.inl ⟨by rfl, ?_⟩) (by assumption) ?_
          rotate_left
          · (intro W hW; (try dsimp only at hW); go_simp; try with_reducible rfl)
          try simp only [Act.put, List.setIfInBounds_toArray, List.set_cons_zero, List.set_cons_succ, List.getElem_toArray, List.getElem_cons_zero, List.getElem_cons_succ]
          refine wpAnyH_ready (rs := [1]) (by kernel_rfl) (by simp) ?_
          refine AllReadyH.cons rfl (fun K hK => ?_) AllReadyH.nil
          simp only [List.getElem_toArray, List.getElem_cons_zero, List.getElem_cons_succ]
          go_simp
          go_at_call 9
          refine (cvl_any y _).mono ?_
          rintro e wN ⟨rfl, FN⟩
          have FN := hH0.2.2.pure FN
          refine hK.out _ _ ⟨(b17.fr FN (by simp)).cell, (b8.fr FN (by simp)).cell, FN⟩ (fun hH1 => ?_)
          clear hK K hH0 FN
          have hH0 := hH1
          clear hH1
          try simp only [Act.put, List.setIfInBounds_toArray, List.set_cons_zero, List.set_cons_succ, List.getElem_toArray, List.getElem_cons_zero, List.getElem_cons_succ]
          refine wpAnyH_ready (rs := [3]) (by kernel_rfl) (by simp) ?_
          refine AllReadyH.cons rfl (fun K hK => ?_) AllReadyH.nil
          simp only [List.getElem_toArray, List.getElem_cons_zero, List.getElem_cons_succ]
          go_simp
          go_at_call 10
          refine (rcvl_any y _).mono ?_
          rintro e wN ⟨rfl, FN⟩
          have FN := hH0.2.2.pure FN
          refine hK.out _ _ ⟨(b17.fr FN (by simp)).cell, (b8.fr FN (by simp)).cell, FN⟩ (fun hH1 => ?_)
          clear hK K hH0 FN
          have hH0 := hH1
          clear hH1
          try simp only [Act.put, List.setIfInBounds_toArray, List.set_cons_zero, List.set_cons_succ, List.getElem_toArray, List.getElem_cons_zero, List.getElem_cons_succ]
          refine wpAnyH_take (i := 4) (v := ?_) rfl (by kernel_rfl) (by kernel_rfl) (by kernel_rfl) (fun _ _ _ h => h) (Or.inl ⟨by rfl, ?_⟩) (by assumption) ?_
          rotate_left
          · (intro W hW; (try dsimp only at hW); go_simp; try with_reducible rfl)
          try simp only [Act.put, List.setIfInBounds_toArray, List.set_cons_zero, List.set_cons_succ, List.getElem_toArray, List.getElem_cons_zero, List.getElem_cons_succ]
          refine wpAnyH_take (i := 5) (v := ?_) rfl (by kernel_rfl) (by kernel_rfl) (by kernel_rfl) (fun _ _ _ h => h) (Or.inl ⟨by rfl, ?_⟩) (by assumption) ?_
          rotate_left
          · (intro W hW; (try dsimp only at hW); go_simp; try with_reducible rfl)
          try simp only [Act.put, List.setIfInBounds_toArray, List.set_cons_zero, List.set_cons_succ, List.getElem_toArray, List.getElem_cons_zero, List.getElem_cons_succ]
          refine wpAnyH_take (i := 6) (v := ?_) rfl (by kernel_rfl) (by kernel_rfl) (by kernel_rfl) (fun _ _ _ h => h) (Or.inl ⟨by rfl, ?_⟩) (by assumption) ?_
          rotate_left
          · (intro W hW; (try dsimp only at hW); go_simp; try with_reducible rfl)
          try simp only [Act.put, List.setIfInBounds_toArray, List.set_cons_zero, List.set_cons_succ, List.getElem_toArray, List.getElem_cons_zero, List.getElem_cons_succ]
          refine wpAnyH_take (i := 7) (v := ?_) rfl (by kernel_rfl) (by kernel_rfl) (by kernel_rfl) (fun _ _ _ h => h) (Or.inl ⟨by rfl, ?_⟩) (by assumption) ?_
          rotate_left
          · (intro W hW; (try dsimp only at hW); go_simp; try with_reducible rfl)
          try simp only [Act.put, List.setIfInBounds_toArray, List.set_cons_zero, List.set_cons_succ, List.getElem_toArray, List.getElem_cons_zero, List.getElem_cons_succ]
          refine wpAnyH_take (i := 9) (v := ?_) rfl (by kernel_rfl) (by kernel_rfl) (by kernel_rfl) (fun _ _ _ h => h) (Or.inl ⟨by rfl, ?_⟩) (by assumption) ?_
          rotate_left
          · (intro W hW; (try dsimp only at hW); go_simp; try with_reducible rfl)
          try simp only [Act.put, List.setIfInBounds_toArray, List.set_cons_zero, List.set_cons_succ, List.getElem_toArray, List.getElem_cons_zero, List.getElem_cons_succ]
          refine wpAnyH_take (i := 10) (v := ?_) rfl (by kernel_rfl) (by kernel_rfl) (by kernel_rfl) (fun _ _ _ h => h) (Or.inl ⟨by rfl, ?_⟩) (by assumption) ?_
          rotate_left
          · (intro W hW; (try dsimp only at hW); go_simp; try with_reducible rfl)
          try simp only [Act.put, List.setIfInBounds_toArray, List.set_cons_zero, List.set_cons_succ, List.getElem_toArray, List.getElem_cons_zero, List.getElem_cons_succ]
          refine wpAnyH_ready (rs := [8]) (by kernel_rfl) (by simp) ?_
          refine AllReadyH.cons rfl (fun K hK => ?_) AllReadyH.nil
          simp only [List.getElem_toArray, List.getElem_cons_zero, List.getElem_cons_succ]
          go_simp
          go_at_call 11
          refine (con_any y b _).mono ?_
          rintro e wN ⟨rfl, FN⟩
          have FN := hH0.2.2.pure FN
          refine hK.out _ _ ⟨(b17.fr FN (by simp)).cell, (b8.fr FN (by simp)).cell, FN⟩ (fun hH1 => ?_)
          clear hK K hH0 FN
          have hH0 := hH1
          clear hH1
          try simp only [Act.put, List.setIfInBounds_toArray, List.set_cons_zero, List.set_cons_succ, List.getElem_toArray, List.getElem_cons_zero, List.getElem_cons_succ]
          refine wpAnyH_ready (rs := [11]) (by kernel_rfl) (by simp) ?_
          refine AllReadyH.cons rfl (fun K hK => ?_) AllReadyH.nil
          simp only [List.getElem_toArray, List.getElem_cons_zero, List.getElem_cons_succ]
          go_simp
          go_at_call 12
          refine (rcon_any y b _).mono ?_
          rintro e wN ⟨rfl, FN⟩
          have FN := hH0.2.2.pure FN
          refine hK.out _ _ ⟨(b17.fr FN (by simp)).cell, (b8.fr FN (by simp)).cell, FN⟩ (fun hH1 => ?_)
          clear hK K hH0 FN
          have hH0 := hH1
          clear hH1
          try simp only [Act.put, List.setIfInBounds_toArray, List.set_cons_zero, List.set_cons_succ, List.getElem_toArray, List.getElem_cons_zero, List.getElem_cons_succ]
          refine wpAnyH_take (i := 12) (v := ?_) rfl (by kernel_rfl) (by kernel_rfl) (by kernel_rfl) (fun _ _ _ h => h) (Or.inl ⟨by rfl, ?_⟩) (by assumption) ?_
          rotate_left
          · (intro W hW; (try dsimp only at hW); go_simp; try with_reducible rfl)
          try simp only [Act.put, List.setIfInBounds_toArray, List.set_cons_zero, List.set_cons_succ, List.getElem_toArray, List.getElem_cons_zero, List.getElem_cons_succ]
          refine wpAnyH_take (i := 13) (v := ?_) rfl (by kernel_rfl) (by kernel_rfl) (by kernel_rfl) (fun _ _ _ h => h) (Or.inl ⟨by rfl, ?_⟩) (by assumption) ?_
          rotate_left
          · (intro W hW; (try dsimp only at hW); go_simp; try with_reducible rfl)
          try simp only [Act.put, List.setIfInBounds_toArray, List.set_cons_zero, List.set_cons_succ, List.getElem_toArray, List.getElem_cons_zero, List.getElem_cons_succ]
          refine wpAnyH_take (i := 14) (v := ?_) rfl (by kernel_rfl) (by kernel_rfl) (by kernel_rfl) (fun _ _ _ h => h) (Or.inl ⟨by rfl, ?_⟩) (by assumption) ?_
          rotate_left
          · (intro W hW; (try dsimp only at hW); go_simp; try with_reducible rfl)
          try simp only [Act.put, List.setIfInBounds_toArray, List.set_cons_zero, List.set_cons_succ, List.getElem_toArray, List.getElem_cons_zero, List.getElem_cons_succ]
          refine wpAnyH_take (i := 15) (v := ?_) rfl (by kernel_rfl) (by kernel_rfl) (by kernel_rfl) (fun _ _ _ h => h) (Or.inl ⟨by rfl, ?_⟩) (by assumption) ?_
          rotate_left
          · (intro W hW; (try dsimp only at hW); go_simp; try with_reducible rfl)
          try simp only [Act.put, List.setIfInBounds_toArray, List.set_cons_zero, List.set_cons_succ, List.getElem_toArray, List.getElem_cons_zero, List.getElem_cons_succ]
          refine wpAnyH_take (i := 16) (v := ?_) rfl (by kernel_rfl) (by kernel_rfl) (by kernel_rfl) (fun _ _ _ h => h) (Or.inl ⟨by rfl, ?_⟩) (by assumption) ?_
          rotate_left
          · (intro W hW; (try dsimp only at hW); go_simp; try with_reducible rfl)
          try simp only [Act.put, List.setIfInBounds_toArray, List.set_cons_zero, List.set_cons_succ, List.getElem_toArray, List.getElem_cons_zero, List.getElem_cons_succ]
          refine wpAnyH_take (i := 18) (v := ?_) rfl (by kernel_rfl) (by kernel_rfl) (by kernel_rfl) (fun _ _ _ h => h) (Or.inl ⟨by rfl, ?_⟩) (by assumption) ?_
          rotate_left
          · (intro W hW; (try dsimp only at hW); go_simp; try with_reducible rfl)
          try simp only [Act.put, List.setIfInBounds_toArray, List.set_cons_zero, List.set_cons_succ, List.getElem_toArray, List.getElem_cons_zero, List.getElem_cons_succ]
          refine wpAnyH_take (i := 19) (v := ?_) rfl (by kernel_rfl) (by kernel_rfl) (by kernel_rfl) (fun _ _ _ h => h) (Or.inl ⟨by rfl, ?_⟩) (by assumption) ?_
          rotate_left
          · (intro W hW; (try dsimp only at hW); go_simp; try with_reducible rfl)
          try simp only [Act.put, List.setIfInBounds_toArray, List.set_cons_zero, List.set_cons_succ, List.getElem_toArray, List.getElem_cons_zero, List.getElem_cons_succ]
          refine wpAnyH_ready (rs := [17]) (by kernel_rfl) (by simp) ?_
          refine AllReadyH.cons rfl (fun K hK => ?_) AllReadyH.nil
          simp only [List.getElem_toArray, List.getElem_cons_zero, List.getElem_cons_succ]
          go_simp
          go_at_call 13
          refine (ccmp_any y b _).mono ?_
          rintro e wN ⟨rfl, FN⟩
          have FN := hH0.2.2.pure FN
          refine hK.out _ _ ⟨(b17.fr FN (by simp)).cell, (b8.fr FN (by simp)).cell, FN⟩ (fun hH1 => ?_)
          clear hK K hH0 FN
          have hH0 := hH1
          clear hH1
          try simp only [Act.put, List.setIfInBounds_toArray, List.set_cons_zero, List.set_cons_succ, List.getElem_toArray, List.getElem_cons_zero, List.getElem_cons_succ]
          refine wpAnyH_ready (rs := [20]) (by kernel_rfl) (by simp) ?_
          refine AllReadyH.cons rfl (fun K hK => ?_) AllReadyH.nil
          simp only [List.getElem_toArray, List.getElem_cons_zero, List.getElem_cons_succ]
          go_simp
          go_at_call 14
          refine (rcmp_any y b _).mono ?_
          rintro e wN ⟨rfl, FN⟩
          have FN := hH0.2.2.pure FN
          refine hK.out _ _ ⟨(b17.fr FN (by simp)).cell, (b8.fr FN (by simp)).cell, FN⟩ (fun hH1 => ?_)
          clear hK K hH0 FN
          have hH0 := hH1
          clear hH1
          try simp only [Act.put, List.setIfInBounds_toArray, List.set_cons_zero, List.set_cons_succ, List.getElem_toArray, List.getElem_cons_zero, List.getElem_cons_succ]
          refine wpAnyH_take (i := 21) (v := ?_) rfl (by kernel_rfl) (by kernel_rfl) (by kernel_rfl) (fun _ _ _ h => h) (Or.inl ⟨by rfl, ?_⟩) (by assumption) ?_
          rotate_left
          · (intro W hW; (try dsimp only at hW); go_simp; try with_reducible rfl)
          try simp only [Act.put, List.setIfInBounds_toArray, List.set_cons_zero, List.set_cons_succ, List.getElem_toArray, List.getElem_cons_zero, List.getElem_cons_succ]
          refine wpAnyH_take (i := 22) (v := ?_) rfl (by kernel_rfl) (by kernel_rfl) (by kernel_rfl) (fun _ _ _ h => h) (Or.inl ⟨by rfl, ?_⟩) (by assumption) ?_
          rotate_left
          · (intro W hW; (try dsimp only at hW); go_simp; try with_reducible rfl)
          try simp only [Act.put, List.setIfInBounds_toArray, List.set_cons_zero, List.set_cons_succ, List.getElem_toArray, List.getElem_cons_zero, List.getElem_cons_succ]
          refine wpAnyH_done (by kernel_rfl) ?_ _
          have Fx := F.pure (Fa.pure hH0.2.2)
          have b17 := b17.fr hH0.2.2 (by simp)
          clear hH0 b8 F Fa
          obtain ⟨wx, hwx⟩ : ∃ wx : World, wx = wN := ⟨_, rfl⟩
          subst hwx
          go_wp2_with fail
          generalize hW : wx.alloc _ = wb
          have Fb : Fr none wx wb := hW ▸ (Fr.refl none wx).alloc _
          have HL3 := Lib.hid (HL.out.fr (Fx.pure Fb))
          have HLs : Hid (LsC wb wx.heap.size 3) := HL3.out.blk (by rw [← hW]; exact blk_new _ _)
          have b17 := b17.fr Fb (by simp)
          have Fx := Fx.pure Fb
          clear hW Fb HL3
          go_loopw [84] (fun s84 wr => ∃ k : Nat, k ≤ 3 ∧ s84 = .int .i64 (k : Int) ∧ Fr none wb wr) (fun s84 _ => 3 - (intOf s84).toNat)
          case atStart => exact ⟨0, by omega, rfl, Fr.refl _ _⟩
          case round =>
            obtain ⟨k, hk, rfl, F⟩ := hrel
            obtain ⟨wk, hwk⟩ : ∃ wk : World, wk = wr := ⟨_, rfl⟩
            subst hwk
            by_cases hlk : k < 3
            · obtain ⟨A, c, L, e1, hL, hll⟩ := HLs.out.fr F k hlk
              have HLL := Lib.hid hL
              have HLn := Lib.hid hll
              clear hL hll
              have b17 := b17.fr F (by simp)
              go_upto_region 13 with (fail)
              clear e1
              refine wp_region_held_drew (S := fun W => (W.cell? ⟨wz.heap.size, 0, none⟩ = some (.int .i64 y.1) ∧ W.cell? ⟨wz.heap.size, 1, none⟩ = some (.int .i64 y.2)) ∧ Fr none wk W) (by kernel_rfl) ⟨b17.cell, (Fr.refl _ _).drew⟩ (fun hH0 => ?_)
              refine wpAnyH_take (i := 0) (v := ?_) rfl (by kernel_rfl) (by kernel_rfl) (by kernel_rfl) (fun _ _ _ h => h) (Or.inl ⟨by rfl, ?_⟩) (by assumption) ?_
              rotate_left
              · (intro W hW; (try dsimp only at hW); go_simp; try with_reducible rfl)
              try simp only [Act.put, List.setIfInBounds_toArray, List.set_cons_zero, List.set_cons_succ, List.getElem_toArray, List.getElem_cons_zero, List.getElem_cons_succ]
              refine wpAnyH_take (i := 1) (v := ?_) rfl (by kernel_rfl) (by kernel_rfl) (by kernel_rfl) (fun _ _ _ h => h) (Or.inl ⟨by rfl, ?_⟩) (by assumption) ?_
              rotate_left
              · (intro W hW; (try dsimp only at hW); go_simp; try with_reducible rfl)
              try simp only [Act.put, List.setIfInBounds_toArray, List.set_cons_zero, List.set_cons_succ, List.getElem_toArray, List.getElem_cons_zero, List.getElem_cons_succ]
              refine wpAnyH_take (i := 3) (v := ?_) rfl (by kernel_rfl) (by kernel_rfl) (by kernel_rfl) (fun _ _ _ h => h) (Or.inl ⟨by rfl, ?_⟩) (by assumption) ?_
              rotate_left
              · (intro W hW; (try dsimp only at hW); go_simp; try with_reducible rfl)
              try simp only [Act.put, List.setIfInBounds_toArray, List.set_cons_zero, List.set_cons_succ, List.getElem_toArray, List.getElem_cons_zero, List.getElem_cons_succ]
              refine wpAnyH_take (i := 4) (v := ?_) rfl (by kernel_rfl) (by kernel_rfl) (by kernel_rfl) (fun _ _ _ h => h) (Or.inl ⟨by rfl, ?_⟩) (by assumption) ?_
              rotate_left
              · (intro W hW; (try dsimp only at hW); go_simp; try with_reducible rfl)
              try simp only [Act.put, List.setIfInBounds_toArray, List.set_cons_zero, List.set_cons_succ, List.getElem_toArray, List.getElem_cons_zero, List.getElem_cons_succ]
              refine wpAnyH_ready (rs := [2]) (by kernel_rfl) (by simp) ?_
              refine AllReadyH.cons rfl (fun K hK => ?_) AllReadyH.nil
              simp only [List.getElem_toArray, List.getElem_cons_zero, List.getElem_cons_succ]
              go_simp
              go_at_call 15
              refine (chas_any L _ y _ (HLL.out.fr hH0.2)).mono ?_
              rintro e wN ⟨rfl, FN⟩
              have GN := hH0.2.pure FN
              refine hK.out _ _ ⟨(b17.fr GN (by simp)).cell, GN⟩ (fun hH1 => ?_)
              clear hK K hH0
              have hH0 := hH1
              clear hH1
              try simp only [Act.put, List.setIfInBounds_toArray, List.set_cons_zero, List.set_cons_succ, List.getElem_toArray, List.getElem_cons_zero, List.getElem_cons_succ]
              refine wpAnyH_ready (rs := [5]) (by kernel_rfl) (by simp) ?_
              refine AllReadyH.cons rfl (fun K hK => ?_) AllReadyH.nil
              simp only [List.getElem_toArray, List.getElem_cons_zero, List.getElem_cons_succ]
              go_simp
              go_at_call 16
              refine (rhas_any L _ y _ (HLL.out.fr hH0.2)).mono ?_
              rintro e wN ⟨rfl, FN⟩
              have GN := hH0.2.pure FN
              refine hK.out _ _ ⟨(b17.fr GN (by simp)).cell, GN⟩ (fun hH1 => ?_)
              clear hK K hH0
              have hH0 := hH1
              clear hH1
              try simp only [Act.put, List.setIfInBounds_toArray, List.set_cons_zero, List.set_cons_succ, List.getElem_toArray, List.getElem_cons_zero, List.getElem_cons_succ]
              refine wpAnyH_take (i := 6) (v := ?_) rfl (by kernel_rfl) (by kernel_rfl) (by kernel_rfl) (fun _ _ _ h => h) (Or.inl ⟨by rfl, ?_⟩) (by assumption) ?_
              rotate_left
              · (intro W hW; (try dsimp only at hW); go_simp; try with_reducible rfl)
              try simp only [Act.put, List.setIfInBounds_toArray, List.set_cons_zero, List.set_cons_succ, List.getElem_toArray, List.getElem_cons_zero, List.getElem_cons_succ]
              refine wpAnyH_take (i := 7) (v := ?_) rfl (by kernel_rfl) (by kernel_rfl) (by kernel_rfl) (fun _ _ _ h => h) (Or.inl ⟨by rfl, ?_⟩) (by assumption) ?_
              rotate_left
              · (intro W hW; (try dsimp only at hW); go_simp; try with_reducible rfl)
              try simp only [Act.put, List.setIfInBounds_toArray, List.set_cons_zero, List.set_cons_succ, List.getElem_toArray, List.getElem_cons_zero, List.getElem_cons_succ]
              refine wpAnyH_take (i := 8) (v := ?_) rfl (by kernel_rfl) (by kernel_rfl) (by kernel_rfl) (fun _ _ _ h => h) (Or.inl ⟨by rfl, ?_⟩) (by assumption) ?_
              rotate_left
              · (intro W hW; (try dsimp only at hW); go_simp; try with_reducible rfl)
              try simp only [Act.put, List.setIfInBounds_toArray, List.set_cons_zero, List.set_cons_succ, List.getElem_toArray, List.getElem_cons_zero, List.getElem_cons_succ]
              refine wpAnyH_take (i := 9) (v := ?_) rfl (by kernel_rfl) (by kernel_rfl) (by kernel_rfl) (fun _ _ _ h => h) (Or.inl ⟨by rfl, ?_⟩) (by assumption) ?_
              rotate_left
              · (intro W hW; (try dsimp only at hW); go_simp; try with_reducible rfl)
              try simp only [Act.put, List.setIfInBounds_toArray, List.set_cons_zero, List.set_cons_succ, List.getElem_toArray, List.getElem_cons_zero, List.getElem_cons_succ]
              refine wpAnyH_take (i := 11) (v := ?_) rfl (by kernel_rfl) (by kernel_rfl) (by kernel_rfl) (fun _ _ _ h => h) (Or.inl ⟨by rfl, ?_⟩) (by assumption) ?_
              rotate_left
              · (intro W hW; (try dsimp only at hW); go_simp; try with_reducible rfl)
              try simp only [Act.put, List.setIfInBounds_toArray, List.set_cons_zero, List.set_cons_succ, List.getElem_toArray, List.getElem_cons_zero, List.getElem_cons_succ]
              refine wpAnyH_take (i := 12) (v := ?_) rfl (by kernel_rfl) (by kernel_rfl) (by kernel_rfl) (fun _ _ _ h => h) (Or.inl ⟨by rfl, ?_⟩) (by assumption) ?_
              rotate_left
              · (intro W hW; (try dsimp only at hW); go_simp; try with_reducible rfl)
              try simp only [Act.put, List.setIfInBounds_toArray, List.set_cons_zero, List.set_cons_succ, List.getElem_toArray, List.getElem_cons_zero, List.getElem_cons_succ]
              refine wpAnyH_ready (rs := [10]) (by kernel_rfl) (by simp) ?_
              refine AllReadyH.cons rfl (fun K hK => ?_) AllReadyH.nil
              simp only [List.getElem_toArray, List.getElem_cons_zero, List.getElem_cons_succ]
              go_simp
              go_at_call 18
              refine (cput_any L _ y _ (HLL.out.fr hH0.2) HWy.out (by have := HLn.out; omega)).mono ?_
              rintro e wN ⟨vP, rfl, hsP, FN⟩
              have GN := hH0.2.pure FN
              have HP1 := Lib.hid (NwC.sl hsP (srtC_wc _) none (by simp))
              refine hK.out _ _ ⟨(b17.fr GN (by simp)).cell, GN⟩ (fun hH1 => ?_)
              clear hK K hH0 hsP
              have hH0 := hH1
              clear hH1
              try simp only [Act.put, List.setIfInBounds_toArray, List.set_cons_zero, List.set_cons_succ, List.getElem_toArray, List.getElem_cons_zero, List.getElem_cons_succ]
              refine wpAnyH_ready (rs := [13]) (by kernel_rfl) (by simp) ?_
              refine AllReadyH.cons rfl (fun K hK => ?_) AllReadyH.nil
              simp only [List.getElem_toArray, List.getElem_cons_zero, List.getElem_cons_succ]
              go_simp
              go_at_call 19
              refine (rput_any L _ y _ (HLL.out.fr hH0.2) HWy.out (by have := HLn.out; omega)).mono ?_
              rintro e wN ⟨vR, rfl, hsP, FN⟩
              have GN := hH0.2.pure FN
              have HP2 := Lib.hid (NwC.sl hsP (srtC_wc _) none (by simp))
              refine hK.out _ _ ⟨(b17.fr GN (by simp)).cell, GN⟩ (fun hH1 => ?_)
              clear hK K hH0 hsP
              have hH0 := hH1
              clear hH1
              try simp only [Act.put, List.setIfInBounds_toArray, List.set_cons_zero, List.set_cons_succ, List.getElem_toArray, List.getElem_cons_zero, List.getElem_cons_succ]
              refine wpAnyH_ready (rs := [14]) (by kernel_rfl) (by simp) ?_
              refine AllReadyH.cons rfl (fun K hK => ?_) AllReadyH.nil
              simp only [List.getElem_toArray, List.getElem_cons_zero, List.getElem_cons_succ]
              go_simp
              go_at_call 17
              refine (rsm_self (putC L y) _ _ _ (HP1.out.fr FN) HP2.out).mono ?_
              rintro e wN ⟨rfl, FN⟩
              have GN := hH0.2.pure FN
              refine hK.out _ _ ⟨(b17.fr GN (by simp)).cell, GN⟩ (fun hH1 => ?_)
              clear hK K hH0
              have hH0 := hH1
              clear hH1
              try simp only [Act.put, List.setIfInBounds_toArray, List.set_cons_zero, List.set_cons_succ, List.getElem_toArray, List.getElem_cons_zero, List.getElem_cons_succ]
              refine wpAnyH_take (i := 15) (v := ?_) rfl (by kernel_rfl) (by kernel_rfl) (by kernel_rfl) (fun _ _ _ h => h) (Or.inl ⟨by rfl, ?_⟩) (by assumption) ?_
              rotate_left
              · (intro W hW; (try dsimp only at hW); go_simp; try with_reducible rfl)
              try simp only [Act.put, List.setIfInBounds_toArray, List.set_cons_zero, List.set_cons_succ, List.getElem_toArray, List.getElem_cons_zero, List.getElem_cons_succ]
              refine wpAnyH_take (i := 16) (v := ?_) rfl (by kernel_rfl) (by kernel_rfl) (by kernel_rfl) (fun _ _ _ h => h) (Or.inl ⟨by rfl, ?_⟩) (by assumption) ?_
              rotate_left
              · (intro W hW; (try dsimp only at hW); go_simp; try with_reducible rfl)
              try simp only [Act.put, List.setIfInBounds_toArray, List.set_cons_zero, List.set_cons_succ, List.getElem_toArray, List.getElem_cons_zero, List.getElem_cons_succ]
              refine wpAnyH_done (by kernel_rfl) ?_ _
              have FF := F.pure hH0.2
              clear hH0 FN HP1 HP2 b17
              go_wp2_with fail
              go_roundw
              case rel => exact ⟨k + 1, by omega, by go_num, FF⟩
              case measure => simp [intOf]; omega
            · obtain rfl : k = 3 := by omega
              go_wp2_with fail
              go_roundw
              case rel => exact ⟨j + 1, by omega, by go_num, Fx.pure F⟩
              case measure => simp [intOf]; omega
        · obtain rfl : j = 4 := by omega
          have F0z := F05.pure F
          have HS := Lib.hid (HS5.out.fr F)
          have HL := Lib.hid (HL.out.fr F)
          clear F F05 HS5 HC b8 hlt hj
          go_wp2_with fail
          generalize hW : wz.alloc _ = wb
          have Fb : Fr none wz wb := hW ▸ (Fr.refl none wz).alloc _
          have HL := Lib.hid (HL.out.fr Fb)
          have HS := Lib.hid (HS.out.fr Fb)
          have HLs : Hid (LsC wb wz.heap.size 3) := HL.out.blk (by rw [← hW]; exact blk_new _ _)
          have F0b := F0z.pure Fb
          clear hW Fb F0z
          go_loopw [112] (fun s112 wr => ∃ k : Nat, k ≤ 3 ∧ s112 = .int .i64 (k : Int) ∧ Fr none wb wr) (fun s112 _ => 3 - (intOf s112).toNat)
          case atStart => exact ⟨0, by omega, rfl, Fr.refl _ _⟩
          case round =>
            obtain ⟨k, hk, rfl, F⟩ := hrel
            obtain ⟨wk, hwk⟩ : ∃ wk : World, wk = wr := ⟨_, rfl⟩
            subst hwk
            by_cases hlk : k < 3
            · obtain ⟨A, c, L, e1, hL, hll⟩ := HLs.out.fr F k hlk
              have HLL := Lib.hid hL
              have HLm := Lib.hid (HL.out.fr F).2.1
              have FF := Fr.refl none wk
              clear hL
              go_wp2_with fail
              clear e1
              refine (cpln_any L _ _ (HLL.out.fr FF)).mono ?_
              rintro e wN ⟨rfl, FN⟩
              have FF := FF.pure FN
              clear FN
              go_wp2_with fail
              refine (rpln_any L _ _ (HLL.out.fr FF)).mono ?_
              rintro e wN ⟨rfl, FN⟩
              have FF := FF.pure FN
              clear FN
              go_wp2_with fail
              refine (ccons_any L _ _ (HLL.out.fr FF) (by omega)).mono ?_
              rintro e wN ⟨rfl, FN⟩
              have FF := FF.pure FN
              clear FN
              go_wp2_with fail
              refine (rcons_any L _ _ (HLL.out.fr FF)).mono ?_
              rintro e wN ⟨rfl, FN⟩
              have FF := FF.pure FN
              clear FN
              go_wp2_with fail
              refine (ctxt_any L _ _ (HLL.out.fr FF) (by omega)).mono ?_
              rintro e wN ⟨rfl, FN⟩
              have FF := FF.pure FN
              clear FN
              go_wp2_with fail
              refine (rtxt_any L _ _ (HLL.out.fr FF)).mono ?_
              rintro e wN ⟨rfl, FN⟩
              have FF := FF.pure FN
              clear FN
              go_wp2_with fail
              refine (csrt_any L _ _ (HLL.out.fr FF) (by omega)).mono ?_
              rintro e wN ⟨vP, rfl, hs, FN⟩
              have FF := FF.pure FN
              have HP1 := Lib.hid (NwC.sl hs (srtC_wc _) none (by simp))
              clear hs
              go_wp2_with fail
              refine (rsrt_any L _ _ (HLL.out.fr FF)).mono ?_
              rintro e wN ⟨vR, rfl, hs, FN⟩
              have FF := FF.pure FN
              have HP2 := Lib.hid (NwC.sl hs (srtC_wc _) none (by simp))
              clear hs
              go_wp2_with fail
              refine (rsm_self (srtC L) _ _ _ (HP1.out.fr FN) HP2.out).mono ?_
              rintro e wN ⟨rfl, FN⟩
              have FF := FF.pure FN
              clear FN
              clear HP1 HP2
              go_wp2_with fail
              refine (cuni_any L m _ _ _ (HLL.out.fr FF) (HLm.out.1.fr FF) (by have := HLm.out.2; omega)).mono ?_
              rintro e wN ⟨vP, rfl, hs, FN⟩
              have FF := FF.pure FN
              have HP1 := Lib.hid (NwC.sl hs (srtC_wc _) none (by simp))
              clear hs
              go_wp2_with fail
              refine (runi_any L m _ _ _ (HLL.out.fr FF) (HLm.out.1.fr FF) (by have := HLm.out.2; omega)).mono ?_
              rintro e wN ⟨vR, rfl, hs, FN⟩
              have FF := FF.pure FN
              have HP2 := Lib.hid (NwC.sl hs (srtC_wc _) none (by simp))
              clear hs
              go_wp2_with fail
              refine (rsm_self (uniC L m) _ _ _ (HP1.out.fr FN) HP2.out).mono ?_
              rintro e wN ⟨rfl, FN⟩
              have FF := FF.pure FN
              clear FN
              clear HP1 HP2
              go_wp2_with fail
              refine (cof_any L _ tp _ (HLL.out.fr FF) (by omega)).mono ?_
              rintro e wN ⟨vP, rfl, hs, FN⟩
              have FF := FF.pure FN
              have HP1 := Lib.hid hs
              clear hs
              go_wp2_with fail
              refine (rof_any L _ tp _ (HLL.out.fr FF) (by omega)).mono ?_
              rintro e wN ⟨vR, rfl, hs, FN⟩
              have FF := FF.pure FN
              have HP2 := Lib.hid hs
              clear hs
              go_wp2_with fail
              refine (ints_self (ofC L tp) _ _ _ (HP1.out.fr FN) HP2.out).mono ?_
              rintro e wN ⟨rfl, FN⟩
              have FF := FF.pure FN
              clear FN
              clear HP1 HP2
              go_wp2_with fail
              refine (cof_any L _ 1 _ (HLL.out.fr FF) (by omega)).mono ?_
              rintro e wN ⟨vP, rfl, hs, FN⟩
              have FF := FF.pure FN
              have HP1 := Lib.hid hs
              clear hs
              go_wp2_with fail
              refine (rof_any L _ 1 _ (HLL.out.fr FF) (by omega)).mono ?_
              rintro e wN ⟨vR, rfl, hs, FN⟩
              have FF := FF.pure FN
              have HP2 := Lib.hid hs
              clear hs
              go_wp2_with fail
              refine (ints_self (ofC L 1) _ _ _ (HP1.out.fr FN) HP2.out).mono ?_
              rintro e wN ⟨rfl, FN⟩
              have FF := FF.pure FN
              clear FN
              clear HP1 HP2 HLL HLm
              go_wp2_with fail
              go_roundw
              case rel =>
                (repeat apply Exists.intro)
                exact ⟨⟨k + 1, by omega, by go_num, F.pure FF⟩, rfl⟩
              case measure => simp [intOf]; omega
            · obtain rfl : k = 3 := by omega
              have F0k := F0b.pure F
              have S6 := HS.out.fr F
              have hzF := F0k.size
              have HN := Lib.hid (HL.out.fr F).2.2.1
              have htl : (bC (textC n)).size ≤ 640 := by rw [bC_size]; exact textC_len n
              have HTl := Lib.hid htl
              clear F F0b HS HL HLs hlk hk
              go_wp2_with fail
              refine (rtxt_any n _ _ HN.out).mono ?_
              rintro e w6 ⟨rfl, F6⟩
              have S7 := S6.fr F6
              have HN := Lib.hid (HN.out.fr F6)
              clear S6
              go_wp2_with fail
              refine (rtxt_any n _ _ HN.out).mono ?_
              rintro e w7 ⟨rfl, F7⟩
              have S8 := S7.fr F7
              clear S7 HN
              go_wp2_with fail
              refine (spoilt17_any (bC (textC n)) g _ (by have := HTl.out; omega) S8).mono ?_
              rintro e w8 ⟨Z, rfl, hzz, S9, F8⟩
              have HZz := Lib.hid hzz
              have F08 := ((F0k.pure F6).pure F7).own F8 (fun q e => by injection e with e; have := hgb.out; omega)
              clear S8 S9 F6 F7 F8 F0k hzz hzF htl
              go_wp2_with fail
              generalize hW : w8.alloc _ = w9
              have Fb : Fr none w8 w9 := hW ▸ (Fr.refl none w8).alloc _
              have HB : Hid (StB w9 w8.heap.size 3) := StB.mk3 (by rw [← hW]; exact blk_new _ _) (by have := HTl.out; omega) (by have := HTl.out; have := HZz.out; omega) (by omega)
              have F09 := F08.pure Fb
              clear hW Fb F08 HTl HZz
              go_loopw [181] (fun s181 wr => ∃ k : Nat, k ≤ 3 ∧ s181 = .int .i64 (k : Int) ∧ Fr none w9 wr) (fun s181 _ => 3 - (intOf s181).toNat)
              case atStart => exact ⟨0, by omega, rfl, Fr.refl _ _⟩
              case round =>
                obtain ⟨k, hk, rfl, F⟩ := hrel
                obtain ⟨wk, hwk⟩ : ∃ wk : World, wk = wr := ⟨_, rfl⟩
                subst hwk
                have F0k := F09.pure F
                by_cases hlk : k < 3
                · obtain ⟨Z, e1, hzs⟩ := HB.out.fr F k hlk
                  go_wp2_with fail
                  refine (cpar_any Z wk (by omega) (hE.fr F0k) (hM.fr F0k) (hP.fr F0k)).mono ?_
                  clear e1
                  obtain ⟨R, hR⟩ : ∃ R, R = parC Z.data.toList := ⟨_, rfl⟩
                  rw [← hR]
                  have HR := Lib.hid hR
                  clear hR
                  rintro e wm ⟨v7, rfl, hs7, hw7, F7⟩
                  have H7 := Lib.hid (NwC.sl hs7 hw7 none (by simp))
                  obtain ⟨A7, c7, rfl, _, _, _⟩ := H7.out.open_
                  clear hs7
                  go_wp2_with fail
                  refine (rpar_any Z wm (by omega)).mono ?_
                  rw [← HR.out]
                  rintro e wn ⟨v8, rfl, hs8, hw8, F8⟩
                  have H8 := Lib.hid (NwC.sl hs8 hw8 none (by simp))
                  obtain ⟨A8, c8, rfl, _, _, _⟩ := H8.out.open_
                  have H7 := Lib.hid (H7.out.fr F8)
                  clear hs8 hw7 hw8
                  go_wp2_with fail
                  refine (rsm_self R.1 _ _ _ H7.out H8.out).mono ?_
                  rintro e wo ⟨rfl, F9⟩
                  have FF := ((F.pure F7).pure F8).pure F9
                  clear H7 H8 F7 F8 F9
                  go_wp2_with fail
                  go_roundw
                  case rel => exact ⟨k + 1, by omega, by go_num, FF⟩
                  case measure => simp [intOf]; omega
                · obtain rfl : k = 3 := by omega
                  go_wp2_with fail
                  refine (awakeC_any _ (hE.fr F0k) (hM.fr F0k) (hP.fr F0k)).mono ?_
                  rintro e w6 ⟨rfl, F6⟩
                  go_wp2_with fail
                  go_ret
                  exact ⟨rfl, F0k.pure F6⟩
end Go.Proofs.YtkpgnhdmlikopaaGreatDoor

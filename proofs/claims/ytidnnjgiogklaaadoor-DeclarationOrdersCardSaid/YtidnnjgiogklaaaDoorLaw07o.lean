/- The law DeclarationOrders: its walk. -/
import Derived.Test.YtidnnjgiogklaaaDoorProg
import Derived.Test.YtidnnjgiogklaaaDoorOrdP
import Derived.Test.YtidnnjgiogklaaaDoorAwake7
namespace Go.Proofs.YtidnnjgiogklaaaDoor
open Go.RowKit

/-- What stays true of the world: three declarations' cells, the frame. -/
def Kt (w5 : World) (b1 b2 b3 : Nat) (x1 x2 x3 : Array Value) (W : World) : Prop := (∀ i, W.cell? ⟨b1, i, none⟩ = x1[i]?) ∧ (∀ i, W.cell? ⟨b2, i, none⟩ = x2[i]?) ∧ (∀ i, W.cell? ⟨b3, i, none⟩ = x3[i]?) ∧ Fr none w5 W
theorem Kt.fr {w5 W W' : World} {b1 b2 b3 : Nat} {x1 x2 x3 : Array Value} (h : Kt w5 b1 b2 b3 x1 x2 x3 W) (h1 : b1 < w5.heap.size) (h2 : b2 < w5.heap.size) (h3 : b3 < w5.heap.size) (F : Fr none W W') : Kt w5 b1 b2 b3 x1 x2 x3 W' := by
  have hz := h.2.2.2.size
  refine ⟨fun i => ?_, fun i => ?_, fun i => ?_, h.2.2.2.pure F⟩
  · rw [F.cell (by simp; omega) (by simp)]; exact h.1 i
  · rw [F.cell (by simp; omega) (by simp)]; exact h.2.1 i
  · rw [F.cell (by simp; omega) (by simp)]; exact h.2.2.1 i
theorem Kt.frame {w5 W : World} {b1 b2 b3 : Nat} {x1 x2 x3 : Array Value} (h : Kt w5 b1 b2 b3 x1 x2 x3 W) : Fr none w5 W := h.2.2.2
theorem kt_four {w5 W : World} {b1 b2 b3 : Nat} {x1 x2 x3 : Array Value} (h : Kt w5 b1 b2 b3 x1 x2 x3 W) : (∀ i, W.cell? ⟨b1, i, none⟩ = x1[i]?) ∧ (∀ i, W.cell? ⟨b2, i, none⟩ = x2[i]?) ∧ (∀ i, W.cell? ⟨b3, i, none⟩ = x3[i]?) ∧ Kt w5 b1 b2 b3 x1 x2 x3 W := ⟨h.1, h.2.1, h.2.2.1, h⟩
/-- A declaration of the law's: right, in memory that stays, its value written out. -/
def DOk (w : World) (d : De) (v : Value) : Prop := DeD w (Dm w none) v d ∧ plainE d = 0 ∧ d.seq ≤ 4
theorem DOk.fr {w w' : World} {d : De} {v : Value} (h : DOk w d v) (F : Fr none w w') : DOk w' d v := ⟨h.1.keep (fr_dm F), h.2⟩
/-- What mk.Declaration makes, as the law uses it. -/
def DecP (w : World) (g : Nat) (e : Ending) (w' : World) : Prop := ∃ v d, e = .returned v ∧ DeD w' (Dn w.heap.size w') v d ∧ plainE d = 0 ∧ d.seq ≤ 4 ∧ SrcR 81 w' g ∧ Fr (some g) w w'
theorem mkd_any (ks : List Nat) (kv : Value) (g : Nat) (w : World) (hn1 : 1 ≤ ks.length) (hn2 : ks.length ≤ 10) (hks : ∀ y ∈ ks, y < 18446744073709551616) (hkv : SlD w (Dm w (some g)) 1 kv (ks.map u64v)) (S0 : SrcR 81 w g) (hT : Tab w) :
    Calls Tryd.prog 21 #[.pointer (some ⟨g, 0, none⟩), kv] w (DecP w g) :=
  (mkdecl_any ks kv g w hn1 hn2 hks hkv S0 hT).mono fun e w' ⟨v, k, hk, sq, T, he, s1, s2, hv, hd, hz, D, S, F⟩ => ⟨v, _, he, D, plain_mk (by omega) (by omega) s1 (by omega) hv hd hz, s2, S, F⟩

theorem bytes_fix (d : De) (S : ByteArray) (hS : Hid (S = bs (bytesS d))) (v : Value) (w : World) (r : Option Nat) (hs : d.tr.size ≤ 1073741000) (h : DeD w (Dm w r) v d) (hT : Tab w) :
    Calls Tryd.prog 30 #[v] w fun e w' => e = .returned (.string S) ∧ Fr none w w' :=
  (bytes_any d v w r hs h hT).mono fun e w' ⟨X, he, hX, _, F⟩ => by
    rw [hS.out, ← hX]
    exact ⟨he, F⟩

set_option maxRecDepth 100000 in
set_option maxHeartbeats 4000000 in
theorem law07o_any (v : Value) (l : List Int) (w : World) (hl : SlI w none v l) (hT : Tab w) : Calls Tryd.prog 6 #[v] w fun e w' => e = .returned (.bool true) ∧ Fr none w w' := by
  go_enter Tryd.func6, Tryd.ntmps6
  go_wp2_with fail
  refine (tapeNew_any _ _ _ hl).mono ?_
  rintro e w1 ⟨g, rfl, hg, S1, F1⟩
  have T1 := hT.fr F1
  clear hl
  go_wp2_with fail
  refine (tapeRange_any 1 4 g _ (by omega) (by omega) (by omega) S1).mono ?_
  rintro e w2 ⟨x, rfl, x1, x2, S2, F2⟩
  obtain ⟨n, rfl⟩ := Int.eq_ofNat_of_zero_le (show 0 ≤ x by omega)
  have T2 := T1.src S1 F2
  go_wp2_with fail
  refine (keys_any n g _ (by omega) S2).mono ?_
  rintro e w3 ⟨kv, ks, rfl, hkl, hks, D3, S3, F3⟩
  subst hkl
  have T3 := T2.src S2 F3
  have g2 := S2.lt
  have K3 : SlD w3 (Dm w3 (some g)) 1 kv (ks.map u64v) := D3.keep (dn_dm (by simp; omega))
  have HKS := Lib.hid hks
  have F03 := F1.own (F2.same F3) (fun q hq => by injection hq with hq; omega)
  clear hks D3
  obtain ⟨A0, c0, rfl, kq1, kq2, _⟩ := keys_open K3
  go_wp2_with fail
  refine (mkd_any ks _ g _ (by omega) (by omega) HKS.out K3 S3 T3).mono ?_
  rintro e w4 ⟨va, da, rfl, Da, pa, sa, S4, F4⟩
  have T4 := T3.src S3 F4
  have g3 := S3.lt
  have K4 := K3.keep (fr_dm F4)
  have F04 := F03.own F4 (fun q hq => by injection hq with hq; omega)
  have HPa := Lib.hid pa
  clear pa
  go_wp2_with fail
  refine (mkd_any ks _ g _ (by omega) (by omega) HKS.out K4 S4 T4).mono ?_
  rintro e w5 ⟨vb, db, rfl, Db, pb, sb, S5, F5⟩
  have T5 := T4.src S4 F5
  have g4 := S4.lt
  have K5 := K4.keep (fr_dm F5)
  have F05 := F04.own F5 (fun q hq => by injection hq with hq; omega)
  have HPb := Lib.hid pb
  clear pb
  go_wp2_with fail
  refine (mkd_any ks _ g _ (by omega) (by omega) HKS.out K5 S5 T5).mono ?_
  rintro e w6 ⟨vc, dc, rfl, Dc, pc, sc, S6, F6⟩
  have T6 := T5.src S5 F6
  have g5 := S5.lt
  have F06 := F05.own F6 (fun q hq => by injection hq with hq; omega)
  have HPc := Lib.hid pc
  clear pc
  have y1 := F4.size
  have y2 := F5.size
  have y3 := F6.size
  have Dc6 : DeD w6 (Dm w6 none) vc dc := Dc.keep (dn_dm (by simp))
  have Db6 : DeD w6 (Dm w6 none) vb db := (Db.keep (dn_fr F6 (by simp; omega))).keep (dn_dm (by simp))
  have Da6 : DeD w6 (Dm w6 none) va da := ((Da.keep (dn_fr F5 (by simp; omega))).keep (dn_fr F6 (by simp; omega))).keep (dn_dm (by simp))
  obtain ⟨ta, A1, n1, c1, A2, n2, c2, rfl, _, wna, wsa, _⟩ := Da6.shape
  obtain ⟨tb, B1, m1, d1, B2, m2, d2, rfl, _, wnb, wsb, _⟩ := Db6.shape
  obtain ⟨tc, C1, k1, e1, C2, k2, e2, rfl, _, wnc, wsc, _⟩ := Dc6.shape
  clear Da Db Dc K3 K4 K5 S1 S2 S3 S4 S5 S6 F1 F2 F3 F4 F5 F6 T1 T2 T3 T4 T5 F03 F04 F05 kq1 kq2
  go_upto_region 4 with (fail)
  generalize hW : ((w6.alloc _).alloc _).alloc _ = w7
  have F7 : Fr none w6 w7 := hW ▸ (((Fr.refl none w6).alloc _).alloc _).alloc _
  have b1 : DB w7 w6.heap.size (.int .i64 da.node) (.int .i64 da.seq) (.int .i64 ta) (.slice A1 n1 c1) (.slice A2 n2 c2) (.int .u64 (da.tag : Nat)) := by rw [← hW]; exact (Below.heap_alloc _ _ _ (by simp only [World.size_alloc]; omega)).trans ((Below.heap_alloc _ _ _ (by simp)).trans (blk_new _ _))
  have b2 : DB w7 (w6.heap.size + 1) (.int .i64 db.node) (.int .i64 db.seq) (.int .i64 tb) (.slice B1 m1 d1) (.slice B2 m2 d2) (.int .u64 (db.tag : Nat)) := by rw [← hW]; exact (Below.heap_alloc _ _ _ (by simp)).trans (blk_new_at (by simp) _)
  have b3 : DB w7 (w6.heap.size + 1 + 1) (.int .i64 dc.node) (.int .i64 dc.seq) (.int .i64 tc) (.slice C1 k1 e1) (.slice C2 k2 e2) (.int .u64 (dc.tag : Nat)) := by rw [← hW]; exact blk_new_at (by simp) _
  clear hW
  have l1 := blk_lt b1
  have l2 := blk_lt b2
  have l3 := blk_lt b3
  have T7 := T6.fr F7
  have Da7 := Da6.keep (fr_dm F7)
  have Db7 := Db6.keep (fr_dm F7)
  have Dc7 := Dc6.keep (fr_dm F7)
  have F07 := F06.pure F7
  have za : da.tr.size ≤ 1073741000 := by have := (plain_parts HPa.out).2.2.2.2; omega
  have zb : db.tr.size ≤ 1073741000 := by have := (plain_parts HPb.out).2.2.2.2; omega
  have zc : dc.tr.size ≤ 1073741000 := by have := (plain_parts HPc.out).2.2.2.2; omega
  obtain ⟨X, hX⟩ : ∃ X, X = cmpD da db := ⟨_, rfl⟩
  obtain ⟨Y, hY⟩ : ∃ Y, Y = cmpD db dc := ⟨_, rfl⟩
  obtain ⟨Z, hZ⟩ : ∃ Z, Z = cmpD da dc := ⟨_, rfl⟩
  have hN : cmpD db da = -X := by rw [hX]; exact cmpD_neg da db
  have hz0 : X = 0 ↔ bytesS da = bytesS db := by rw [hX]; exact cmpD_zero HPa.out HPb.out (by omega) (by omega)
  have hlt1 : da.node < db.node → X = -1 := fun h => by rw [hX]; exact cmpD_lt h
  have hlt2 : da.node = db.node → da.seq < db.seq → X = -1 := fun h h2 => by rw [hX]; exact cmpD_seq h h2
  have htr : X ≤ 0 → Y ≤ 0 → Z ≤ 0 := by rw [hX, hY, hZ]; exact cmpD_trans
  have HX := Lib.hid hX
  have HY := Lib.hid hY
  have HZ := Lib.hid hZ
  have HN := Lib.hid hN
  have Hz0 := Lib.hid hz0
  have Hl1 := Lib.hid hlt1
  have Hl2 := Lib.hid hlt2
  have Htr := Lib.hid htr
  have K0 : Kt w7 w6.heap.size (w6.heap.size + 1) (w6.heap.size + 1 + 1) #[.int .i64 da.node, .int .i64 da.seq, .int .i64 ta, .slice A1 n1 c1, .slice A2 n2 c2, .int .u64 (da.tag : Nat)] #[.int .i64 db.node, .int .i64 db.seq, .int .i64 tb, .slice B1 m1 d1, .slice B2 m2 d2, .int .u64 (db.tag : Nat)] #[.int .i64 dc.node, .int .i64 dc.seq, .int .i64 tc, .slice C1 k1 e1, .slice C2 k2 e2, .int .u64 (dc.tag : Nat)] w7.drew := ⟨b1.cell, b2.cell, b3.cell, (Fr.refl _ _).drew⟩
  clear hX hY hZ hN hz0 hlt1 hlt2 htr F06 F7 Da6 Db6 Dc6 T6
  go_region_held3 (fun w' => (∀ i, w'.cell? ⟨w6.heap.size, i, none⟩ = (#[.int .i64 da.node, .int .i64 da.seq, .int .i64 ta, .slice A1 n1 c1, .slice A2 n2 c2, .int .u64 (da.tag : Nat)] : Array Value)[i]?) ∧ (∀ i, w'.cell? ⟨w6.heap.size + 1, i, none⟩ = (#[.int .i64 db.node, .int .i64 db.seq, .int .i64 tb, .slice B1 m1 d1, .slice B2 m2 d2, .int .u64 (db.tag : Nat)] : Array Value)[i]?) ∧ (∀ i, w'.cell? ⟨w6.heap.size + 1 + 1, i, none⟩ = (#[.int .i64 dc.node, .int .i64 dc.seq, .int .i64 tc, .slice C1 k1 e1, .slice C2 k2 e2, .int .u64 (dc.tag : Nat)] : Array Value)[i]?) ∧ Kt w7 w6.heap.size (w6.heap.size + 1) (w6.heap.size + 1 + 1) #[.int .i64 da.node, .int .i64 da.seq, .int .i64 ta, .slice A1 n1 c1, .slice A2 n2 c2, .int .u64 (da.tag : Nat)] #[.int .i64 db.node, .int .i64 db.seq, .int .i64 tb, .slice B1 m1 d1, .slice B2 m2 d2, .int .u64 (db.tag : Nat)] #[.int .i64 dc.node, .int .i64 dc.seq, .int .i64 tc, .slice C1 k1 e1, .slice C2 k2 e2, .int .u64 (dc.tag : Nat)] w') (first | (with_reducible exact kt_four K0) | (with_reducible exact kt_four KK)) (first | (go_at_call 29; (with_reducible refine (compareD_any da db (.agg #[.int .i64 da.node, .int .i64 da.seq, .int .i64 ta, .slice A1 n1 c1, .slice A2 n2 c2, .int .u64 (da.tag : Nat)]) (.agg #[.int .i64 db.node, .int .i64 db.seq, .int .i64 tb, .slice B1 m1 d1, .slice B2 m2 d2, .int .u64 (db.tag : Nat)]) _ (Da7.keep (fr_dm (‹_ ∧ _ ∧ _ ∧ Kt w7 w6.heap.size (w6.heap.size + 1) (w6.heap.size + 1 + 1) _ _ _ _›).2.2.2.frame)) (Db7.keep (fr_dm (‹_ ∧ _ ∧ _ ∧ Kt w7 w6.heap.size (w6.heap.size + 1) (w6.heap.size + 1 + 1) _ _ _ _›).2.2.2.frame)) za zb (T7.fr (‹_ ∧ _ ∧ _ ∧ Kt w7 w6.heap.size (w6.heap.size + 1) (w6.heap.size + 1 + 1) _ _ _ _›).2.2.2.frame)).mono ?_); rintro e w9 ⟨rfl, F9⟩; rw [← HX.out]; have KK := (‹_ ∧ _ ∧ _ ∧ Kt w7 w6.heap.size (w6.heap.size + 1) (w6.heap.size + 1 + 1) _ _ _ _›).2.2.2.fr l1 l2 l3 F9) | (go_at_call 29; (with_reducible refine (compareD_any db dc (.agg #[.int .i64 db.node, .int .i64 db.seq, .int .i64 tb, .slice B1 m1 d1, .slice B2 m2 d2, .int .u64 (db.tag : Nat)]) (.agg #[.int .i64 dc.node, .int .i64 dc.seq, .int .i64 tc, .slice C1 k1 e1, .slice C2 k2 e2, .int .u64 (dc.tag : Nat)]) _ (Db7.keep (fr_dm (‹_ ∧ _ ∧ _ ∧ Kt w7 w6.heap.size (w6.heap.size + 1) (w6.heap.size + 1 + 1) _ _ _ _›).2.2.2.frame)) (Dc7.keep (fr_dm (‹_ ∧ _ ∧ _ ∧ Kt w7 w6.heap.size (w6.heap.size + 1) (w6.heap.size + 1 + 1) _ _ _ _›).2.2.2.frame)) zb zc (T7.fr (‹_ ∧ _ ∧ _ ∧ Kt w7 w6.heap.size (w6.heap.size + 1) (w6.heap.size + 1 + 1) _ _ _ _›).2.2.2.frame)).mono ?_); rintro e w9 ⟨rfl, F9⟩; rw [← HY.out]; have KK := (‹_ ∧ _ ∧ _ ∧ Kt w7 w6.heap.size (w6.heap.size + 1) (w6.heap.size + 1 + 1) _ _ _ _›).2.2.2.fr l1 l2 l3 F9) | (go_at_call 29; (with_reducible refine (compareD_any da dc (.agg #[.int .i64 da.node, .int .i64 da.seq, .int .i64 ta, .slice A1 n1 c1, .slice A2 n2 c2, .int .u64 (da.tag : Nat)]) (.agg #[.int .i64 dc.node, .int .i64 dc.seq, .int .i64 tc, .slice C1 k1 e1, .slice C2 k2 e2, .int .u64 (dc.tag : Nat)]) _ (Da7.keep (fr_dm (‹_ ∧ _ ∧ _ ∧ Kt w7 w6.heap.size (w6.heap.size + 1) (w6.heap.size + 1 + 1) _ _ _ _›).2.2.2.frame)) (Dc7.keep (fr_dm (‹_ ∧ _ ∧ _ ∧ Kt w7 w6.heap.size (w6.heap.size + 1) (w6.heap.size + 1 + 1) _ _ _ _›).2.2.2.frame)) za zc (T7.fr (‹_ ∧ _ ∧ _ ∧ Kt w7 w6.heap.size (w6.heap.size + 1) (w6.heap.size + 1 + 1) _ _ _ _›).2.2.2.frame)).mono ?_); rintro e w9 ⟨rfl, F9⟩; rw [← HZ.out]; have KK := (‹_ ∧ _ ∧ _ ∧ Kt w7 w6.heap.size (w6.heap.size + 1) (w6.heap.size + 1 + 1) _ _ _ _›).2.2.2.fr l1 l2 l3 F9))
  go_upto_region 5 with (fail)
  go_cut [35, 36, 37, 38, 39, 40, 41, 42, 43, 44, 45, 46, 47, 48, 49, 50, 51, 52, 53, 54, 55, 56, 57, 58, 59, 60, 61, 62] (fun _ _ _ _ _ _ _ _ _ _ _ _ _ _ _ _ _ _ _ _ _ _ _ _ _ _ _ s62 wr => s62 = .bool false ∧ Kt w7 w6.heap.size (w6.heap.size + 1) (w6.heap.size + 1 + 1) #[.int .i64 da.node, .int .i64 da.seq, .int .i64 ta, .slice A1 n1 c1, .slice A2 n2 c2, .int .u64 (da.tag : Nat)] #[.int .i64 db.node, .int .i64 db.seq, .int .i64 tb, .slice B1 m1 d1, .slice B2 m2 d2, .int .u64 (db.tag : Nat)] #[.int .i64 dc.node, .int .i64 dc.seq, .int .i64 tc, .slice C1 k1 e1, .slice C2 k2 e2, .int .u64 (dc.tag : Nat)] wr)
  case first =>
    have hXc := cmpD_cases da db
    rw [← HX.out] at hXc
    have K1 : Kt w7 w6.heap.size (w6.heap.size + 1) (w6.heap.size + 1 + 1) #[.int .i64 da.node, .int .i64 da.seq, .int .i64 ta, .slice A1 n1 c1, .slice A2 n2 c2, .int .u64 (da.tag : Nat)] #[.int .i64 db.node, .int .i64 db.seq, .int .i64 tb, .slice B1 m1 d1, .slice B2 m2 d2, .int .u64 (db.tag : Nat)] #[.int .i64 dc.node, .int .i64 dc.seq, .int .i64 tc, .slice C1 k1 e1, .slice C2 k2 e2, .int .u64 (dc.tag : Nat)] (World.drew _) := KK.fr l1 l2 l3 (Fr.refl none _).drew
    obtain ⟨Sa, hSa⟩ : ∃ S, S = bs (bytesS da) := ⟨_, rfl⟩
    obtain ⟨Sb, hSb⟩ : ∃ S, S = bs (bytesS db) := ⟨_, rfl⟩
    have hqq : (Sa.toList == Sb.toList) = decide (X = 0) := by
      rw [hSa, hSb, bs_toList, bs_toList, Bool.eq_iff_iff, beq_iff_eq, decide_eq_true_eq]
      exact Hz0.out.symm
    have HSa := Lib.hid hSa
    have HSb := Lib.hid hSb
    have HQQ := Lib.hid hqq
    have RA := KK.1
    have RB := KK.2.1
    clear hSa hSb hqq K0 KK
    rcases (show X = 1 ∨ X = 0 ∨ X = -1 by omega) with hx | hx | hx
    · subst hx
      clear hXc
      have HM := Lib.hid (show cmpD db da = (-1 : Int) by have := HN.out; simpa using this)
      have hwx : IntKind.i64.wrap (1) = 1 := by decide
      have hq := HQQ.out
      refine wp_region_held_drew (S := (fun w' => (∀ i, w'.cell? ⟨w6.heap.size, i, none⟩ = (#[.int .i64 da.node, .int .i64 da.seq, .int .i64 ta, .slice A1 n1 c1, .slice A2 n2 c2, .int .u64 (da.tag : Nat)] : Array Value)[i]?) ∧ (∀ i, w'.cell? ⟨w6.heap.size + 1, i, none⟩ = (#[.int .i64 db.node, .int .i64 db.seq, .int .i64 tb, .slice B1 m1 d1, .slice B2 m2 d2, .int .u64 (db.tag : Nat)] : Array Value)[i]?) ∧ Kt w7 w6.heap.size (w6.heap.size + 1) (w6.heap.size + 1 + 1) #[.int .i64 da.node, .int .i64 da.seq, .int .i64 ta, .slice A1 n1 c1, .slice A2 n2 c2, .int .u64 (da.tag : Nat)] #[.int .i64 db.node, .int .i64 db.seq, .int .i64 tb, .slice B1 m1 d1, .slice B2 m2 d2, .int .u64 (db.tag : Nat)] #[.int .i64 dc.node, .int .i64 dc.seq, .int .i64 tc, .slice C1 k1 e1, .slice C2 k2 e2, .int .u64 (dc.tag : Nat)] w')) (by kernel_rfl) ⟨RA, RB, K1⟩ (fun hH0 => ?_)
      refine wpAnyH_take (i := 0) (v := ?_) rfl (by kernel_rfl) (by kernel_rfl) (by kernel_rfl) (fun _ _ _ h => h) (Or.inl ⟨by rfl, ?_⟩) (by assumption) ?_
      rotate_left
      · (intro W hW; (try dsimp only at hW); go_simp; try with_reducible rfl)
      try simp only [Act.put, List.setIfInBounds_toArray, List.set_cons_zero, List.set_cons_succ, List.getElem_toArray, List.getElem_cons_zero, List.getElem_cons_succ]
      refine wpAnyH_take (i := 1) (v := ?_) rfl (by kernel_rfl) (by kernel_rfl) (by kernel_rfl) (fun _ _ _ h => h) (Or.inl ⟨by rfl, ?_⟩) (by assumption) ?_
      rotate_left
      · (intro W hW; (try dsimp only at hW); go_simp; try with_reducible rfl)
      try simp only [Act.put, List.setIfInBounds_toArray, List.set_cons_zero, List.set_cons_succ, List.getElem_toArray, List.getElem_cons_zero, List.getElem_cons_succ]
      refine wpAnyH_take (i := 2) (v := ?_) rfl (by kernel_rfl) (by kernel_rfl) (by kernel_rfl) (fun _ _ _ h => h) (Or.inl ⟨by rfl, ?_⟩) (by assumption) ?_
      rotate_left
      · (intro W hW; (try dsimp only at hW); go_simp; try with_reducible rfl)
      try simp only [Act.put, List.setIfInBounds_toArray, List.set_cons_zero, List.set_cons_succ, List.getElem_toArray, List.getElem_cons_zero, List.getElem_cons_succ]
      refine wpAnyH_ready (rs := [3]) (by kernel_rfl) (by simp) ?_
      refine AllReadyH.cons rfl (fun K hK => ?_) AllReadyH.nil
      simp only [List.getElem_toArray, List.getElem_cons_zero, List.getElem_cons_succ]
      go_simp
      go_at_call 29
      with_reducible refine (compareD_any db da (.agg #[.int .i64 db.node, .int .i64 db.seq, .int .i64 tb, .slice B1 m1 d1, .slice B2 m2 d2, .int .u64 (db.tag : Nat)]) (.agg #[.int .i64 da.node, .int .i64 da.seq, .int .i64 ta, .slice A1 n1 c1, .slice A2 n2 c2, .int .u64 (da.tag : Nat)]) _ (Db7.keep (fr_dm hH0.2.2.frame)) (Da7.keep (fr_dm hH0.2.2.frame)) zb za (T7.fr hH0.2.2.frame)).mono ?_
      rintro e w9 ⟨rfl, F9⟩
      rw [HM.out]
      have K9 := hH0.2.2.fr l1 l2 l3 F9
      refine hK.out _ _ ⟨K9.1, K9.2.1, K9⟩ (fun hH1 => ?_)
      clear hK K
      try simp only [Act.put, List.setIfInBounds_toArray, List.set_cons_zero, List.set_cons_succ, List.getElem_toArray, List.getElem_cons_zero, List.getElem_cons_succ]
      clear hH0 K1 RA RB
      refine wpAnyH_take (i := 4) (v := ?_) rfl (by kernel_rfl) (by kernel_rfl) (by kernel_rfl) (fun _ _ _ h => h) (Or.inl ⟨by rfl, ?_⟩) (by assumption) ?_
      rotate_left
      · (intro W hW; (try dsimp only at hW); go_simp; try with_reducible rfl)
      try simp only [Act.put, List.setIfInBounds_toArray, List.set_cons_zero, List.set_cons_succ, List.getElem_toArray, List.getElem_cons_zero, List.getElem_cons_succ]
      refine wpAnyH_take (i := 5) (v := ?_) rfl (by kernel_rfl) (by kernel_rfl) (by kernel_rfl) (fun _ _ _ h => h) (Or.inl ⟨by rfl, ?_⟩) (by assumption) ?_
      rotate_left
      · (intro W hW; (try dsimp only at hW); go_simp; try with_reducible rfl)
      try simp only [Act.put, List.setIfInBounds_toArray, List.set_cons_zero, List.set_cons_succ, List.getElem_toArray, List.getElem_cons_zero, List.getElem_cons_succ]
      refine wpAnyH_take (i := 6) (v := ?_) rfl (by kernel_rfl) (by kernel_rfl) (by kernel_rfl) (fun _ _ _ h => h) (Or.inl ⟨by rfl, ?_⟩) (by assumption) ?_
      rotate_left
      · (intro W hW; (try dsimp only at hW); go_simp; try with_reducible rfl)
      try simp only [Act.put, List.setIfInBounds_toArray, List.set_cons_zero, List.set_cons_succ, List.getElem_toArray, List.getElem_cons_zero, List.getElem_cons_succ]
      refine wpAnyH_take (i := 7) (v := ?_) rfl (by kernel_rfl) (by kernel_rfl) (by kernel_rfl) (fun _ _ _ h => h) (Or.inl ⟨by rfl, ?_⟩) (by assumption) ?_
      rotate_left
      · (intro W hW; (try dsimp only at hW); go_simp; try with_reducible rfl)
      try simp only [Act.put, List.setIfInBounds_toArray, List.set_cons_zero, List.set_cons_succ, List.getElem_toArray, List.getElem_cons_zero, List.getElem_cons_succ]
      refine wpAnyH_take (i := 8) (v := ?_) rfl (by kernel_rfl) (by kernel_rfl) (by kernel_rfl) (fun _ _ _ h => h) (Or.inl ⟨by rfl, ?_⟩) (by assumption) ?_
      rotate_left
      · (intro W hW; (try dsimp only at hW); go_simp; try with_reducible rfl)
      try simp only [Act.put, List.setIfInBounds_toArray, List.set_cons_zero, List.set_cons_succ, List.getElem_toArray, List.getElem_cons_zero, List.getElem_cons_succ]
      refine wpAnyH_take (i := 9) (v := ?_) rfl (by kernel_rfl) (by kernel_rfl) (by kernel_rfl) (fun _ _ _ h => h) (Or.inl ⟨by rfl, ?_⟩) (by assumption) ?_
      rotate_left
      · (intro W hW; (try dsimp only at hW); go_simp; try with_reducible rfl)
      try simp only [Act.put, List.setIfInBounds_toArray, List.set_cons_zero, List.set_cons_succ, List.getElem_toArray, List.getElem_cons_zero, List.getElem_cons_succ]
      refine wpAnyH_take (i := 10) (v := undef) rfl (by kernel_rfl) (by kernel_rfl) (by kernel_rfl) (fun _ _ _ h => h) (Or.inr ⟨by rfl, rfl⟩) (by assumption) ?_
      try simp only [Act.put, List.setIfInBounds_toArray, List.set_cons_zero, List.set_cons_succ, List.getElem_toArray, List.getElem_cons_zero, List.getElem_cons_succ]
      refine wpAnyH_take (i := 11) (v := undef) rfl (by kernel_rfl) (by kernel_rfl) (by kernel_rfl) (fun _ _ _ h => h) (Or.inr ⟨by rfl, rfl⟩) (by assumption) ?_
      try simp only [Act.put, List.setIfInBounds_toArray, List.set_cons_zero, List.set_cons_succ, List.getElem_toArray, List.getElem_cons_zero, List.getElem_cons_succ]
      refine wpAnyH_take (i := 12) (v := ?_) rfl (by kernel_rfl) (by kernel_rfl) (by kernel_rfl) (fun _ _ _ h => h) (Or.inl ⟨by rfl, ?_⟩) (by assumption) ?_
      rotate_left
      · (intro W hW; (try dsimp only at hW); go_simp; try with_reducible rfl)
      try simp only [Act.put, List.setIfInBounds_toArray, List.set_cons_zero, List.set_cons_succ, List.getElem_toArray, List.getElem_cons_zero, List.getElem_cons_succ]
      refine wpAnyH_take (i := 13) (v := ?_) rfl (by kernel_rfl) (by kernel_rfl) (by kernel_rfl) (fun _ _ _ h => h) (Or.inl ⟨by rfl, ?_⟩) (by assumption) ?_
      rotate_left
      · (intro W hW; (try dsimp only at hW); go_simp; try with_reducible rfl)
      try simp only [Act.put, List.setIfInBounds_toArray, List.set_cons_zero, List.set_cons_succ, List.getElem_toArray, List.getElem_cons_zero, List.getElem_cons_succ]
      refine wpAnyH_take (i := 14) (v := undef) rfl (by kernel_rfl) (by kernel_rfl) (by kernel_rfl) (fun _ _ _ h => h) (Or.inr ⟨by rfl, rfl⟩) (by assumption) ?_
      try simp only [Act.put, List.setIfInBounds_toArray, List.set_cons_zero, List.set_cons_succ, List.getElem_toArray, List.getElem_cons_zero, List.getElem_cons_succ]
      refine wpAnyH_take (i := 15) (v := undef) rfl (by kernel_rfl) (by kernel_rfl) (by kernel_rfl) (fun _ _ _ h => h) (Or.inr ⟨by rfl, rfl⟩) (by assumption) ?_
      try simp only [Act.put, List.setIfInBounds_toArray, List.set_cons_zero, List.set_cons_succ, List.getElem_toArray, List.getElem_cons_zero, List.getElem_cons_succ]
      refine wpAnyH_take (i := 16) (v := ?_) rfl (by kernel_rfl) (by kernel_rfl) (by kernel_rfl) (fun _ _ _ h => h) (Or.inl ⟨by rfl, ?_⟩) (by assumption) ?_
      rotate_left
      · (intro W hW; (try dsimp only at hW); go_simp; try with_reducible rfl)
      try simp only [Act.put, List.setIfInBounds_toArray, List.set_cons_zero, List.set_cons_succ, List.getElem_toArray, List.getElem_cons_zero, List.getElem_cons_succ]
      refine wpAnyH_take (i := 17) (v := ?_) rfl (by kernel_rfl) (by kernel_rfl) (by kernel_rfl) (fun _ _ _ h => h) (Or.inl ⟨by rfl, ?_⟩) (by assumption) ?_
      rotate_left
      · (intro W hW; (try dsimp only at hW); go_simp; try with_reducible rfl)
      try simp only [Act.put, List.setIfInBounds_toArray, List.set_cons_zero, List.set_cons_succ, List.getElem_toArray, List.getElem_cons_zero, List.getElem_cons_succ]
      refine wpAnyH_take (i := 18) (v := ?_) rfl (by kernel_rfl) (by kernel_rfl) (by kernel_rfl) (fun _ _ _ h => h) (Or.inl ⟨by rfl, ?_⟩) (by assumption) ?_
      rotate_left
      · (intro W hW; (try dsimp only at hW); go_simp; try with_reducible rfl)
      try simp only [Act.put, List.setIfInBounds_toArray, List.set_cons_zero, List.set_cons_succ, List.getElem_toArray, List.getElem_cons_zero, List.getElem_cons_succ]
      refine wpAnyH_take (i := 19) (v := ?_) rfl (by kernel_rfl) (by kernel_rfl) (by kernel_rfl) (fun _ _ _ h => h) (Or.inl ⟨by rfl, ?_⟩) (by assumption) ?_
      rotate_left
      · (intro W hW; (try dsimp only at hW); go_simp; try with_reducible rfl)
      try simp only [Act.put, List.setIfInBounds_toArray, List.set_cons_zero, List.set_cons_succ, List.getElem_toArray, List.getElem_cons_zero, List.getElem_cons_succ]
      refine wpAnyH_take (i := 20) (v := ?_) rfl (by kernel_rfl) (by kernel_rfl) (by kernel_rfl) (fun _ _ _ h => h) (Or.inl ⟨by rfl, ?_⟩) (by assumption) ?_
      rotate_left
      · (intro W hW; (try dsimp only at hW); go_simp; try with_reducible rfl)
      try simp only [Act.put, List.setIfInBounds_toArray, List.set_cons_zero, List.set_cons_succ, List.getElem_toArray, List.getElem_cons_zero, List.getElem_cons_succ]
      refine wpAnyH_take (i := 21) (v := ?_) rfl (by kernel_rfl) (by kernel_rfl) (by kernel_rfl) (fun _ _ _ h => h) (Or.inl ⟨by rfl, ?_⟩) (by assumption) ?_
      rotate_left
      · (intro W hW; (try dsimp only at hW); go_simp; try with_reducible rfl)
      try simp only [Act.put, List.setIfInBounds_toArray, List.set_cons_zero, List.set_cons_succ, List.getElem_toArray, List.getElem_cons_zero, List.getElem_cons_succ]
      refine wpAnyH_take (i := 23) (v := ?_) rfl (by kernel_rfl) (by kernel_rfl) (by kernel_rfl) (fun _ _ _ h => h) (Or.inl ⟨by rfl, ?_⟩) (by assumption) ?_
      rotate_left
      · (intro W hW; (try dsimp only at hW); go_simp; try with_reducible rfl)
      try simp only [Act.put, List.setIfInBounds_toArray, List.set_cons_zero, List.set_cons_succ, List.getElem_toArray, List.getElem_cons_zero, List.getElem_cons_succ]
      refine wpAnyH_ready (rs := [22]) (by kernel_rfl) (by simp) ?_
      refine AllReadyH.cons rfl (fun K hK => ?_) AllReadyH.nil
      simp only [List.getElem_toArray, List.getElem_cons_zero, List.getElem_cons_succ]
      go_simp
      go_at_call 30
      with_reducible refine (bytes_fix da Sa HSa (.agg #[.int .i64 da.node, .int .i64 da.seq, .int .i64 ta, .slice A1 n1 c1, .slice A2 n2 c2, .int .u64 (da.tag : Nat)]) _ none za (Da7.keep (fr_dm hH1.2.2.frame)) (T7.fr hH1.2.2.frame)).mono ?_
      rintro e wA ⟨rfl, FA⟩
      have KA := hH1.2.2.fr l1 l2 l3 FA
      refine hK.out _ _ ⟨KA.1, KA.2.1, KA⟩ (fun hH2 => ?_)
      clear hK K
      try simp only [Act.put, List.setIfInBounds_toArray, List.set_cons_zero, List.set_cons_succ, List.getElem_toArray, List.getElem_cons_zero, List.getElem_cons_succ]
      refine wpAnyH_ready (rs := [24]) (by kernel_rfl) (by simp) ?_
      refine AllReadyH.cons rfl (fun K hK => ?_) AllReadyH.nil
      simp only [List.getElem_toArray, List.getElem_cons_zero, List.getElem_cons_succ]
      go_simp
      go_at_call 30
      with_reducible refine (bytes_fix db Sb HSb (.agg #[.int .i64 db.node, .int .i64 db.seq, .int .i64 tb, .slice B1 m1 d1, .slice B2 m2 d2, .int .u64 (db.tag : Nat)]) _ none zb (Db7.keep (fr_dm hH2.2.2.frame)) (T7.fr hH2.2.2.frame)).mono ?_
      rintro e wB ⟨rfl, FB⟩
      have KB := hH2.2.2.fr l1 l2 l3 FB
      refine hK.out _ _ ⟨KB.1, KB.2.1, KB⟩ (fun hH3 => ?_)
      clear hK K
      try simp only [Act.put, List.setIfInBounds_toArray, List.set_cons_zero, List.set_cons_succ, List.getElem_toArray, List.getElem_cons_zero, List.getElem_cons_succ]
      refine wpAnyH_take (i := 25) (v := ?_) rfl (by kernel_rfl) (by kernel_rfl) (by kernel_rfl) (fun _ _ _ h => h) (Or.inl ⟨by rfl, ?_⟩) (by assumption) ?_
      rotate_left
      · (intro W hW; (try dsimp only at hW); go_simp; try with_reducible rfl)
      try simp only [Act.put, List.setIfInBounds_toArray, List.set_cons_zero, List.set_cons_succ, List.getElem_toArray, List.getElem_cons_zero, List.getElem_cons_succ]
      refine wpAnyH_take (i := 26) (v := ?_) rfl (by kernel_rfl) (by kernel_rfl) (by kernel_rfl) (fun _ _ _ h => h) (Or.inl ⟨by rfl, ?_⟩) (by assumption) ?_
      rotate_left
      · (intro W hW; (try dsimp only at hW); go_simp; try with_reducible rfl)
      try simp only [Act.put, List.setIfInBounds_toArray, List.set_cons_zero, List.set_cons_succ, List.getElem_toArray, List.getElem_cons_zero, List.getElem_cons_succ]
      refine wpAnyH_take (i := 27) (v := ?_) rfl (by kernel_rfl) (by kernel_rfl) (by kernel_rfl) (fun _ _ _ h => h) (Or.inl ⟨by rfl, ?_⟩) (by assumption) ?_
      rotate_left
      · (intro W hW; (try dsimp only at hW); go_simp; try with_reducible rfl)
      try simp only [Act.put, List.setIfInBounds_toArray, List.set_cons_zero, List.set_cons_succ, List.getElem_toArray, List.getElem_cons_zero, List.getElem_cons_succ]
      refine wpAnyH_done (by kernel_rfl) ?_ _
      go_wp2_with fail
      go_meet
      exact ⟨rfl, hH3.2.2⟩
    · subst hx
      clear hXc
      have HM := Lib.hid (show cmpD db da = (0 : Int) by have := HN.out; simpa using this)
      have hwx : IntKind.i64.wrap (0) = 0 := by decide
      by_cases hy1 : Y ≤ 0
      · have hz1 : decide (0 < Z) = false := decide_eq_false (by have := Htr.out (by omega) hy1; omega)
        have hq := HQQ.out
        refine wp_region_held_drew (S := (fun w' => (∀ i, w'.cell? ⟨w6.heap.size, i, none⟩ = (#[.int .i64 da.node, .int .i64 da.seq, .int .i64 ta, .slice A1 n1 c1, .slice A2 n2 c2, .int .u64 (da.tag : Nat)] : Array Value)[i]?) ∧ (∀ i, w'.cell? ⟨w6.heap.size + 1, i, none⟩ = (#[.int .i64 db.node, .int .i64 db.seq, .int .i64 tb, .slice B1 m1 d1, .slice B2 m2 d2, .int .u64 (db.tag : Nat)] : Array Value)[i]?) ∧ Kt w7 w6.heap.size (w6.heap.size + 1) (w6.heap.size + 1 + 1) #[.int .i64 da.node, .int .i64 da.seq, .int .i64 ta, .slice A1 n1 c1, .slice A2 n2 c2, .int .u64 (da.tag : Nat)] #[.int .i64 db.node, .int .i64 db.seq, .int .i64 tb, .slice B1 m1 d1, .slice B2 m2 d2, .int .u64 (db.tag : Nat)] #[.int .i64 dc.node, .int .i64 dc.seq, .int .i64 tc, .slice C1 k1 e1, .slice C2 k2 e2, .int .u64 (dc.tag : Nat)] w')) (by kernel_rfl) ⟨RA, RB, K1⟩ (fun hH0 => ?_)
        refine wpAnyH_take (i := 0) (v := ?_) rfl (by kernel_rfl) (by kernel_rfl) (by kernel_rfl) (fun _ _ _ h => h) (Or.inl ⟨by rfl, ?_⟩) (by assumption) ?_
        rotate_left
        · (intro W hW; (try dsimp only at hW); go_simp; try with_reducible rfl)
        try simp only [Act.put, List.setIfInBounds_toArray, List.set_cons_zero, List.set_cons_succ, List.getElem_toArray, List.getElem_cons_zero, List.getElem_cons_succ]
        refine wpAnyH_take (i := 1) (v := ?_) rfl (by kernel_rfl) (by kernel_rfl) (by kernel_rfl) (fun _ _ _ h => h) (Or.inl ⟨by rfl, ?_⟩) (by assumption) ?_
        rotate_left
        · (intro W hW; (try dsimp only at hW); go_simp; try with_reducible rfl)
        try simp only [Act.put, List.setIfInBounds_toArray, List.set_cons_zero, List.set_cons_succ, List.getElem_toArray, List.getElem_cons_zero, List.getElem_cons_succ]
        refine wpAnyH_take (i := 2) (v := ?_) rfl (by kernel_rfl) (by kernel_rfl) (by kernel_rfl) (fun _ _ _ h => h) (Or.inl ⟨by rfl, ?_⟩) (by assumption) ?_
        rotate_left
        · (intro W hW; (try dsimp only at hW); go_simp; try with_reducible rfl)
        try simp only [Act.put, List.setIfInBounds_toArray, List.set_cons_zero, List.set_cons_succ, List.getElem_toArray, List.getElem_cons_zero, List.getElem_cons_succ]
        refine wpAnyH_ready (rs := [3]) (by kernel_rfl) (by simp) ?_
        refine AllReadyH.cons rfl (fun K hK => ?_) AllReadyH.nil
        simp only [List.getElem_toArray, List.getElem_cons_zero, List.getElem_cons_succ]
        go_simp
        go_at_call 29
        with_reducible refine (compareD_any db da (.agg #[.int .i64 db.node, .int .i64 db.seq, .int .i64 tb, .slice B1 m1 d1, .slice B2 m2 d2, .int .u64 (db.tag : Nat)]) (.agg #[.int .i64 da.node, .int .i64 da.seq, .int .i64 ta, .slice A1 n1 c1, .slice A2 n2 c2, .int .u64 (da.tag : Nat)]) _ (Db7.keep (fr_dm hH0.2.2.frame)) (Da7.keep (fr_dm hH0.2.2.frame)) zb za (T7.fr hH0.2.2.frame)).mono ?_
        rintro e w9 ⟨rfl, F9⟩
        rw [HM.out]
        have K9 := hH0.2.2.fr l1 l2 l3 F9
        refine hK.out _ _ ⟨K9.1, K9.2.1, K9⟩ (fun hH1 => ?_)
        clear hK K
        try simp only [Act.put, List.setIfInBounds_toArray, List.set_cons_zero, List.set_cons_succ, List.getElem_toArray, List.getElem_cons_zero, List.getElem_cons_succ]
        clear hH0 K1 RA RB
        refine wpAnyH_take (i := 4) (v := ?_) rfl (by kernel_rfl) (by kernel_rfl) (by kernel_rfl) (fun _ _ _ h => h) (Or.inl ⟨by rfl, ?_⟩) (by assumption) ?_
        rotate_left
        · (intro W hW; (try dsimp only at hW); go_simp; try with_reducible rfl)
        try simp only [Act.put, List.setIfInBounds_toArray, List.set_cons_zero, List.set_cons_succ, List.getElem_toArray, List.getElem_cons_zero, List.getElem_cons_succ]
        refine wpAnyH_take (i := 5) (v := ?_) rfl (by kernel_rfl) (by kernel_rfl) (by kernel_rfl) (fun _ _ _ h => h) (Or.inl ⟨by rfl, ?_⟩) (by assumption) ?_
        rotate_left
        · (intro W hW; (try dsimp only at hW); go_simp; try with_reducible rfl)
        try simp only [Act.put, List.setIfInBounds_toArray, List.set_cons_zero, List.set_cons_succ, List.getElem_toArray, List.getElem_cons_zero, List.getElem_cons_succ]
        refine wpAnyH_take (i := 6) (v := ?_) rfl (by kernel_rfl) (by kernel_rfl) (by kernel_rfl) (fun _ _ _ h => h) (Or.inl ⟨by rfl, ?_⟩) (by assumption) ?_
        rotate_left
        · (intro W hW; (try dsimp only at hW); go_simp; try with_reducible rfl)
        try simp only [Act.put, List.setIfInBounds_toArray, List.set_cons_zero, List.set_cons_succ, List.getElem_toArray, List.getElem_cons_zero, List.getElem_cons_succ]
        refine wpAnyH_take (i := 7) (v := ?_) rfl (by kernel_rfl) (by kernel_rfl) (by kernel_rfl) (fun _ _ _ h => h) (Or.inl ⟨by rfl, ?_⟩) (by assumption) ?_
        rotate_left
        · (intro W hW; (try dsimp only at hW); go_simp; try with_reducible rfl)
        try simp only [Act.put, List.setIfInBounds_toArray, List.set_cons_zero, List.set_cons_succ, List.getElem_toArray, List.getElem_cons_zero, List.getElem_cons_succ]
        refine wpAnyH_take (i := 8) (v := ?_) rfl (by kernel_rfl) (by kernel_rfl) (by kernel_rfl) (fun _ _ _ h => h) (Or.inl ⟨by rfl, ?_⟩) (by assumption) ?_
        rotate_left
        · (intro W hW; (try dsimp only at hW); go_simp; try with_reducible rfl)
        try simp only [Act.put, List.setIfInBounds_toArray, List.set_cons_zero, List.set_cons_succ, List.getElem_toArray, List.getElem_cons_zero, List.getElem_cons_succ]
        refine wpAnyH_take (i := 9) (v := ?_) rfl (by kernel_rfl) (by kernel_rfl) (by kernel_rfl) (fun _ _ _ h => h) (Or.inl ⟨by rfl, ?_⟩) (by assumption) ?_
        rotate_left
        · (intro W hW; (try dsimp only at hW); go_simp; try with_reducible rfl)
        try simp only [Act.put, List.setIfInBounds_toArray, List.set_cons_zero, List.set_cons_succ, List.getElem_toArray, List.getElem_cons_zero, List.getElem_cons_succ]
        refine wpAnyH_take (i := 10) (v := ?_) rfl (by kernel_rfl) (by kernel_rfl) (by kernel_rfl) (fun _ _ _ h => h) (Or.inl ⟨by rfl, ?_⟩) (by assumption) ?_
        rotate_left
        · (intro W hW; (try dsimp only at hW); go_simp; try with_reducible rfl)
        try simp only [Act.put, List.setIfInBounds_toArray, List.set_cons_zero, List.set_cons_succ, List.getElem_toArray, List.getElem_cons_zero, List.getElem_cons_succ]
        refine wpAnyH_take (i := 11) (v := ?_) rfl (by kernel_rfl) (by kernel_rfl) (by kernel_rfl) (fun _ _ _ h => h) (Or.inl ⟨by rfl, ?_⟩) (by assumption) ?_
        rotate_left
        · (intro W hW; (try dsimp only at hW); go_simp; try with_reducible rfl)
        try simp only [Act.put, List.setIfInBounds_toArray, List.set_cons_zero, List.set_cons_succ, List.getElem_toArray, List.getElem_cons_zero, List.getElem_cons_succ]
        refine wpAnyH_take (i := 12) (v := ?_) rfl (by kernel_rfl) (by kernel_rfl) (by kernel_rfl) (fun _ _ _ h => h) (Or.inl ⟨by rfl, ?_⟩) (by assumption) ?_
        rotate_left
        · (intro W hW; (try dsimp only at hW); go_simp; try with_reducible rfl)
        try simp only [Act.put, List.setIfInBounds_toArray, List.set_cons_zero, List.set_cons_succ, List.getElem_toArray, List.getElem_cons_zero, List.getElem_cons_succ]
        refine wpAnyH_take (i := 13) (v := ?_) rfl (by kernel_rfl) (by kernel_rfl) (by kernel_rfl) (fun _ _ _ h => h) (Or.inl ⟨by rfl, ?_⟩) (by assumption) ?_
        rotate_left
        · (intro W hW; (try dsimp only at hW); go_simp; try with_reducible rfl)
        try simp only [Act.put, List.setIfInBounds_toArray, List.set_cons_zero, List.set_cons_succ, List.getElem_toArray, List.getElem_cons_zero, List.getElem_cons_succ]
        refine wpAnyH_take (i := 14) (v := ?_) rfl (by kernel_rfl) (by kernel_rfl) (by kernel_rfl) (fun _ _ _ h => h) (Or.inl ⟨by rfl, ?_⟩) (by assumption) ?_
        rotate_left
        · (intro W hW; (try dsimp only at hW); go_simp; try with_reducible rfl)
        try simp only [Act.put, List.setIfInBounds_toArray, List.set_cons_zero, List.set_cons_succ, List.getElem_toArray, List.getElem_cons_zero, List.getElem_cons_succ]
        refine wpAnyH_take (i := 15) (v := ?_) rfl (by kernel_rfl) (by kernel_rfl) (by kernel_rfl) (fun _ _ _ h => h) (Or.inl ⟨by rfl, ?_⟩) (by assumption) ?_
        rotate_left
        · (intro W hW; (try dsimp only at hW); go_simp; try with_reducible rfl)
        try simp only [Act.put, List.setIfInBounds_toArray, List.set_cons_zero, List.set_cons_succ, List.getElem_toArray, List.getElem_cons_zero, List.getElem_cons_succ]
        refine wpAnyH_take (i := 16) (v := ?_) rfl (by kernel_rfl) (by kernel_rfl) (by kernel_rfl) (fun _ _ _ h => h) (Or.inl ⟨by rfl, ?_⟩) (by assumption) ?_
        rotate_left
        · (intro W hW; (try dsimp only at hW); go_simp; try with_reducible rfl)
        try simp only [Act.put, List.setIfInBounds_toArray, List.set_cons_zero, List.set_cons_succ, List.getElem_toArray, List.getElem_cons_zero, List.getElem_cons_succ]
        refine wpAnyH_take (i := 17) (v := ?_) rfl (by kernel_rfl) (by kernel_rfl) (by kernel_rfl) (fun _ _ _ h => h) (Or.inl ⟨by rfl, ?_⟩) (by assumption) ?_
        rotate_left
        · (intro W hW; (try dsimp only at hW); go_simp; try with_reducible rfl)
        try simp only [Act.put, List.setIfInBounds_toArray, List.set_cons_zero, List.set_cons_succ, List.getElem_toArray, List.getElem_cons_zero, List.getElem_cons_succ]
        refine wpAnyH_take (i := 18) (v := ?_) rfl (by kernel_rfl) (by kernel_rfl) (by kernel_rfl) (fun _ _ _ h => h) (Or.inl ⟨by rfl, ?_⟩) (by assumption) ?_
        rotate_left
        · (intro W hW; (try dsimp only at hW); go_simp; try with_reducible rfl)
        try simp only [Act.put, List.setIfInBounds_toArray, List.set_cons_zero, List.set_cons_succ, List.getElem_toArray, List.getElem_cons_zero, List.getElem_cons_succ]
        refine wpAnyH_take (i := 19) (v := ?_) rfl (by kernel_rfl) (by kernel_rfl) (by kernel_rfl) (fun _ _ _ h => h) (Or.inl ⟨by rfl, ?_⟩) (by assumption) ?_
        rotate_left
        · (intro W hW; (try dsimp only at hW); go_simp; try with_reducible rfl)
        try simp only [Act.put, List.setIfInBounds_toArray, List.set_cons_zero, List.set_cons_succ, List.getElem_toArray, List.getElem_cons_zero, List.getElem_cons_succ]
        refine wpAnyH_take (i := 20) (v := ?_) rfl (by kernel_rfl) (by kernel_rfl) (by kernel_rfl) (fun _ _ _ h => h) (Or.inl ⟨by rfl, ?_⟩) (by assumption) ?_
        rotate_left
        · (intro W hW; (try dsimp only at hW); go_simp; try with_reducible rfl)
        try simp only [Act.put, List.setIfInBounds_toArray, List.set_cons_zero, List.set_cons_succ, List.getElem_toArray, List.getElem_cons_zero, List.getElem_cons_succ]
        refine wpAnyH_take (i := 21) (v := ?_) rfl (by kernel_rfl) (by kernel_rfl) (by kernel_rfl) (fun _ _ _ h => h) (Or.inl ⟨by rfl, ?_⟩) (by assumption) ?_
        rotate_left
        · (intro W hW; (try dsimp only at hW); go_simp; try with_reducible rfl)
        try simp only [Act.put, List.setIfInBounds_toArray, List.set_cons_zero, List.set_cons_succ, List.getElem_toArray, List.getElem_cons_zero, List.getElem_cons_succ]
        refine wpAnyH_take (i := 23) (v := ?_) rfl (by kernel_rfl) (by kernel_rfl) (by kernel_rfl) (fun _ _ _ h => h) (Or.inl ⟨by rfl, ?_⟩) (by assumption) ?_
        rotate_left
        · (intro W hW; (try dsimp only at hW); go_simp; try with_reducible rfl)
        try simp only [Act.put, List.setIfInBounds_toArray, List.set_cons_zero, List.set_cons_succ, List.getElem_toArray, List.getElem_cons_zero, List.getElem_cons_succ]
        refine wpAnyH_ready (rs := [22]) (by kernel_rfl) (by simp) ?_
        refine AllReadyH.cons rfl (fun K hK => ?_) AllReadyH.nil
        simp only [List.getElem_toArray, List.getElem_cons_zero, List.getElem_cons_succ]
        go_simp
        go_at_call 30
        with_reducible refine (bytes_fix da Sa HSa (.agg #[.int .i64 da.node, .int .i64 da.seq, .int .i64 ta, .slice A1 n1 c1, .slice A2 n2 c2, .int .u64 (da.tag : Nat)]) _ none za (Da7.keep (fr_dm hH1.2.2.frame)) (T7.fr hH1.2.2.frame)).mono ?_
        rintro e wA ⟨rfl, FA⟩
        have KA := hH1.2.2.fr l1 l2 l3 FA
        refine hK.out _ _ ⟨KA.1, KA.2.1, KA⟩ (fun hH2 => ?_)
        clear hK K
        try simp only [Act.put, List.setIfInBounds_toArray, List.set_cons_zero, List.set_cons_succ, List.getElem_toArray, List.getElem_cons_zero, List.getElem_cons_succ]
        refine wpAnyH_ready (rs := [24]) (by kernel_rfl) (by simp) ?_
        refine AllReadyH.cons rfl (fun K hK => ?_) AllReadyH.nil
        simp only [List.getElem_toArray, List.getElem_cons_zero, List.getElem_cons_succ]
        go_simp
        go_at_call 30
        with_reducible refine (bytes_fix db Sb HSb (.agg #[.int .i64 db.node, .int .i64 db.seq, .int .i64 tb, .slice B1 m1 d1, .slice B2 m2 d2, .int .u64 (db.tag : Nat)]) _ none zb (Db7.keep (fr_dm hH2.2.2.frame)) (T7.fr hH2.2.2.frame)).mono ?_
        rintro e wB ⟨rfl, FB⟩
        have KB := hH2.2.2.fr l1 l2 l3 FB
        refine hK.out _ _ ⟨KB.1, KB.2.1, KB⟩ (fun hH3 => ?_)
        clear hK K
        try simp only [Act.put, List.setIfInBounds_toArray, List.set_cons_zero, List.set_cons_succ, List.getElem_toArray, List.getElem_cons_zero, List.getElem_cons_succ]
        refine wpAnyH_take (i := 25) (v := ?_) rfl (by kernel_rfl) (by kernel_rfl) (by kernel_rfl) (fun _ _ _ h => h) (Or.inl ⟨by rfl, ?_⟩) (by assumption) ?_
        rotate_left
        · (intro W hW; (try dsimp only at hW); go_simp; try with_reducible rfl)
        try simp only [Act.put, List.setIfInBounds_toArray, List.set_cons_zero, List.set_cons_succ, List.getElem_toArray, List.getElem_cons_zero, List.getElem_cons_succ]
        refine wpAnyH_take (i := 26) (v := ?_) rfl (by kernel_rfl) (by kernel_rfl) (by kernel_rfl) (fun _ _ _ h => h) (Or.inl ⟨by rfl, ?_⟩) (by assumption) ?_
        rotate_left
        · (intro W hW; (try dsimp only at hW); go_simp; try with_reducible rfl)
        try simp only [Act.put, List.setIfInBounds_toArray, List.set_cons_zero, List.set_cons_succ, List.getElem_toArray, List.getElem_cons_zero, List.getElem_cons_succ]
        refine wpAnyH_take (i := 27) (v := ?_) rfl (by kernel_rfl) (by kernel_rfl) (by kernel_rfl) (fun _ _ _ h => h) (Or.inl ⟨by rfl, ?_⟩) (by assumption) ?_
        rotate_left
        · (intro W hW; (try dsimp only at hW); go_simp; try with_reducible rfl)
        try simp only [Act.put, List.setIfInBounds_toArray, List.set_cons_zero, List.set_cons_succ, List.getElem_toArray, List.getElem_cons_zero, List.getElem_cons_succ]
        refine wpAnyH_done (by kernel_rfl) ?_ _
        go_wp2_with fail
        go_meet
        exact ⟨rfl, hH3.2.2⟩
      · have hy2 : decide (Y ≤ 0) = false := decide_eq_false hy1
        clear hy1
        have hq := HQQ.out
        refine wp_region_held_drew (S := (fun w' => (∀ i, w'.cell? ⟨w6.heap.size, i, none⟩ = (#[.int .i64 da.node, .int .i64 da.seq, .int .i64 ta, .slice A1 n1 c1, .slice A2 n2 c2, .int .u64 (da.tag : Nat)] : Array Value)[i]?) ∧ (∀ i, w'.cell? ⟨w6.heap.size + 1, i, none⟩ = (#[.int .i64 db.node, .int .i64 db.seq, .int .i64 tb, .slice B1 m1 d1, .slice B2 m2 d2, .int .u64 (db.tag : Nat)] : Array Value)[i]?) ∧ Kt w7 w6.heap.size (w6.heap.size + 1) (w6.heap.size + 1 + 1) #[.int .i64 da.node, .int .i64 da.seq, .int .i64 ta, .slice A1 n1 c1, .slice A2 n2 c2, .int .u64 (da.tag : Nat)] #[.int .i64 db.node, .int .i64 db.seq, .int .i64 tb, .slice B1 m1 d1, .slice B2 m2 d2, .int .u64 (db.tag : Nat)] #[.int .i64 dc.node, .int .i64 dc.seq, .int .i64 tc, .slice C1 k1 e1, .slice C2 k2 e2, .int .u64 (dc.tag : Nat)] w')) (by kernel_rfl) ⟨RA, RB, K1⟩ (fun hH0 => ?_)
        refine wpAnyH_take (i := 0) (v := ?_) rfl (by kernel_rfl) (by kernel_rfl) (by kernel_rfl) (fun _ _ _ h => h) (Or.inl ⟨by rfl, ?_⟩) (by assumption) ?_
        rotate_left
        · (intro W hW; (try dsimp only at hW); go_simp; try with_reducible rfl)
        try simp only [Act.put, List.setIfInBounds_toArray, List.set_cons_zero, List.set_cons_succ, List.getElem_toArray, List.getElem_cons_zero, List.getElem_cons_succ]
        refine wpAnyH_take (i := 1) (v := ?_) rfl (by kernel_rfl) (by kernel_rfl) (by kernel_rfl) (fun _ _ _ h => h) (Or.inl ⟨by rfl, ?_⟩) (by assumption) ?_
        rotate_left
        · (intro W hW; (try dsimp only at hW); go_simp; try with_reducible rfl)
        try simp only [Act.put, List.setIfInBounds_toArray, List.set_cons_zero, List.set_cons_succ, List.getElem_toArray, List.getElem_cons_zero, List.getElem_cons_succ]
        refine wpAnyH_take (i := 2) (v := ?_) rfl (by kernel_rfl) (by kernel_rfl) (by kernel_rfl) (fun _ _ _ h => h) (Or.inl ⟨by rfl, ?_⟩) (by assumption) ?_
        rotate_left
        · (intro W hW; (try dsimp only at hW); go_simp; try with_reducible rfl)
        try simp only [Act.put, List.setIfInBounds_toArray, List.set_cons_zero, List.set_cons_succ, List.getElem_toArray, List.getElem_cons_zero, List.getElem_cons_succ]
        refine wpAnyH_ready (rs := [3]) (by kernel_rfl) (by simp) ?_
        refine AllReadyH.cons rfl (fun K hK => ?_) AllReadyH.nil
        simp only [List.getElem_toArray, List.getElem_cons_zero, List.getElem_cons_succ]
        go_simp
        go_at_call 29
        with_reducible refine (compareD_any db da (.agg #[.int .i64 db.node, .int .i64 db.seq, .int .i64 tb, .slice B1 m1 d1, .slice B2 m2 d2, .int .u64 (db.tag : Nat)]) (.agg #[.int .i64 da.node, .int .i64 da.seq, .int .i64 ta, .slice A1 n1 c1, .slice A2 n2 c2, .int .u64 (da.tag : Nat)]) _ (Db7.keep (fr_dm hH0.2.2.frame)) (Da7.keep (fr_dm hH0.2.2.frame)) zb za (T7.fr hH0.2.2.frame)).mono ?_
        rintro e w9 ⟨rfl, F9⟩
        rw [HM.out]
        have K9 := hH0.2.2.fr l1 l2 l3 F9
        refine hK.out _ _ ⟨K9.1, K9.2.1, K9⟩ (fun hH1 => ?_)
        clear hK K
        try simp only [Act.put, List.setIfInBounds_toArray, List.set_cons_zero, List.set_cons_succ, List.getElem_toArray, List.getElem_cons_zero, List.getElem_cons_succ]
        clear hH0 K1 RA RB
        refine wpAnyH_take (i := 4) (v := ?_) rfl (by kernel_rfl) (by kernel_rfl) (by kernel_rfl) (fun _ _ _ h => h) (Or.inl ⟨by rfl, ?_⟩) (by assumption) ?_
        rotate_left
        · (intro W hW; (try dsimp only at hW); go_simp; try with_reducible rfl)
        try simp only [Act.put, List.setIfInBounds_toArray, List.set_cons_zero, List.set_cons_succ, List.getElem_toArray, List.getElem_cons_zero, List.getElem_cons_succ]
        refine wpAnyH_take (i := 5) (v := ?_) rfl (by kernel_rfl) (by kernel_rfl) (by kernel_rfl) (fun _ _ _ h => h) (Or.inl ⟨by rfl, ?_⟩) (by assumption) ?_
        rotate_left
        · (intro W hW; (try dsimp only at hW); go_simp; try with_reducible rfl)
        try simp only [Act.put, List.setIfInBounds_toArray, List.set_cons_zero, List.set_cons_succ, List.getElem_toArray, List.getElem_cons_zero, List.getElem_cons_succ]
        refine wpAnyH_take (i := 6) (v := ?_) rfl (by kernel_rfl) (by kernel_rfl) (by kernel_rfl) (fun _ _ _ h => h) (Or.inl ⟨by rfl, ?_⟩) (by assumption) ?_
        rotate_left
        · (intro W hW; (try dsimp only at hW); go_simp; try with_reducible rfl)
        try simp only [Act.put, List.setIfInBounds_toArray, List.set_cons_zero, List.set_cons_succ, List.getElem_toArray, List.getElem_cons_zero, List.getElem_cons_succ]
        refine wpAnyH_take (i := 7) (v := ?_) rfl (by kernel_rfl) (by kernel_rfl) (by kernel_rfl) (fun _ _ _ h => h) (Or.inl ⟨by rfl, ?_⟩) (by assumption) ?_
        rotate_left
        · (intro W hW; (try dsimp only at hW); go_simp; try with_reducible rfl)
        try simp only [Act.put, List.setIfInBounds_toArray, List.set_cons_zero, List.set_cons_succ, List.getElem_toArray, List.getElem_cons_zero, List.getElem_cons_succ]
        refine wpAnyH_take (i := 8) (v := ?_) rfl (by kernel_rfl) (by kernel_rfl) (by kernel_rfl) (fun _ _ _ h => h) (Or.inl ⟨by rfl, ?_⟩) (by assumption) ?_
        rotate_left
        · (intro W hW; (try dsimp only at hW); go_simp; try with_reducible rfl)
        try simp only [Act.put, List.setIfInBounds_toArray, List.set_cons_zero, List.set_cons_succ, List.getElem_toArray, List.getElem_cons_zero, List.getElem_cons_succ]
        refine wpAnyH_take (i := 9) (v := ?_) rfl (by kernel_rfl) (by kernel_rfl) (by kernel_rfl) (fun _ _ _ h => h) (Or.inl ⟨by rfl, ?_⟩) (by assumption) ?_
        rotate_left
        · (intro W hW; (try dsimp only at hW); go_simp; try with_reducible rfl)
        try simp only [Act.put, List.setIfInBounds_toArray, List.set_cons_zero, List.set_cons_succ, List.getElem_toArray, List.getElem_cons_zero, List.getElem_cons_succ]
        refine wpAnyH_take (i := 10) (v := ?_) rfl (by kernel_rfl) (by kernel_rfl) (by kernel_rfl) (fun _ _ _ h => h) (Or.inl ⟨by rfl, ?_⟩) (by assumption) ?_
        rotate_left
        · (intro W hW; (try dsimp only at hW); go_simp; try with_reducible rfl)
        try simp only [Act.put, List.setIfInBounds_toArray, List.set_cons_zero, List.set_cons_succ, List.getElem_toArray, List.getElem_cons_zero, List.getElem_cons_succ]
        refine wpAnyH_take (i := 11) (v := ?_) rfl (by kernel_rfl) (by kernel_rfl) (by kernel_rfl) (fun _ _ _ h => h) (Or.inl ⟨by rfl, ?_⟩) (by assumption) ?_
        rotate_left
        · (intro W hW; (try dsimp only at hW); go_simp; try with_reducible rfl)
        try simp only [Act.put, List.setIfInBounds_toArray, List.set_cons_zero, List.set_cons_succ, List.getElem_toArray, List.getElem_cons_zero, List.getElem_cons_succ]
        refine wpAnyH_take (i := 12) (v := ?_) rfl (by kernel_rfl) (by kernel_rfl) (by kernel_rfl) (fun _ _ _ h => h) (Or.inl ⟨by rfl, ?_⟩) (by assumption) ?_
        rotate_left
        · (intro W hW; (try dsimp only at hW); go_simp; try with_reducible rfl)
        try simp only [Act.put, List.setIfInBounds_toArray, List.set_cons_zero, List.set_cons_succ, List.getElem_toArray, List.getElem_cons_zero, List.getElem_cons_succ]
        refine wpAnyH_take (i := 13) (v := ?_) rfl (by kernel_rfl) (by kernel_rfl) (by kernel_rfl) (fun _ _ _ h => h) (Or.inl ⟨by rfl, ?_⟩) (by assumption) ?_
        rotate_left
        · (intro W hW; (try dsimp only at hW); go_simp; try with_reducible rfl)
        try simp only [Act.put, List.setIfInBounds_toArray, List.set_cons_zero, List.set_cons_succ, List.getElem_toArray, List.getElem_cons_zero, List.getElem_cons_succ]
        refine wpAnyH_take (i := 14) (v := undef) rfl (by kernel_rfl) (by kernel_rfl) (by kernel_rfl) (fun _ _ _ h => h) (Or.inr ⟨by rfl, rfl⟩) (by assumption) ?_
        try simp only [Act.put, List.setIfInBounds_toArray, List.set_cons_zero, List.set_cons_succ, List.getElem_toArray, List.getElem_cons_zero, List.getElem_cons_succ]
        refine wpAnyH_take (i := 15) (v := undef) rfl (by kernel_rfl) (by kernel_rfl) (by kernel_rfl) (fun _ _ _ h => h) (Or.inr ⟨by rfl, rfl⟩) (by assumption) ?_
        try simp only [Act.put, List.setIfInBounds_toArray, List.set_cons_zero, List.set_cons_succ, List.getElem_toArray, List.getElem_cons_zero, List.getElem_cons_succ]
        refine wpAnyH_take (i := 16) (v := ?_) rfl (by kernel_rfl) (by kernel_rfl) (by kernel_rfl) (fun _ _ _ h => h) (Or.inl ⟨by rfl, ?_⟩) (by assumption) ?_
        rotate_left
        · (intro W hW; (try dsimp only at hW); go_simp; try with_reducible rfl)
        try simp only [Act.put, List.setIfInBounds_toArray, List.set_cons_zero, List.set_cons_succ, List.getElem_toArray, List.getElem_cons_zero, List.getElem_cons_succ]
        refine wpAnyH_take (i := 17) (v := ?_) rfl (by kernel_rfl) (by kernel_rfl) (by kernel_rfl) (fun _ _ _ h => h) (Or.inl ⟨by rfl, ?_⟩) (by assumption) ?_
        rotate_left
        · (intro W hW; (try dsimp only at hW); go_simp; try with_reducible rfl)
        try simp only [Act.put, List.setIfInBounds_toArray, List.set_cons_zero, List.set_cons_succ, List.getElem_toArray, List.getElem_cons_zero, List.getElem_cons_succ]
        refine wpAnyH_take (i := 18) (v := ?_) rfl (by kernel_rfl) (by kernel_rfl) (by kernel_rfl) (fun _ _ _ h => h) (Or.inl ⟨by rfl, ?_⟩) (by assumption) ?_
        rotate_left
        · (intro W hW; (try dsimp only at hW); go_simp; try with_reducible rfl)
        try simp only [Act.put, List.setIfInBounds_toArray, List.set_cons_zero, List.set_cons_succ, List.getElem_toArray, List.getElem_cons_zero, List.getElem_cons_succ]
        refine wpAnyH_take (i := 19) (v := ?_) rfl (by kernel_rfl) (by kernel_rfl) (by kernel_rfl) (fun _ _ _ h => h) (Or.inl ⟨by rfl, ?_⟩) (by assumption) ?_
        rotate_left
        · (intro W hW; (try dsimp only at hW); go_simp; try with_reducible rfl)
        try simp only [Act.put, List.setIfInBounds_toArray, List.set_cons_zero, List.set_cons_succ, List.getElem_toArray, List.getElem_cons_zero, List.getElem_cons_succ]
        refine wpAnyH_take (i := 20) (v := ?_) rfl (by kernel_rfl) (by kernel_rfl) (by kernel_rfl) (fun _ _ _ h => h) (Or.inl ⟨by rfl, ?_⟩) (by assumption) ?_
        rotate_left
        · (intro W hW; (try dsimp only at hW); go_simp; try with_reducible rfl)
        try simp only [Act.put, List.setIfInBounds_toArray, List.set_cons_zero, List.set_cons_succ, List.getElem_toArray, List.getElem_cons_zero, List.getElem_cons_succ]
        refine wpAnyH_take (i := 21) (v := ?_) rfl (by kernel_rfl) (by kernel_rfl) (by kernel_rfl) (fun _ _ _ h => h) (Or.inl ⟨by rfl, ?_⟩) (by assumption) ?_
        rotate_left
        · (intro W hW; (try dsimp only at hW); go_simp; try with_reducible rfl)
        try simp only [Act.put, List.setIfInBounds_toArray, List.set_cons_zero, List.set_cons_succ, List.getElem_toArray, List.getElem_cons_zero, List.getElem_cons_succ]
        refine wpAnyH_take (i := 23) (v := ?_) rfl (by kernel_rfl) (by kernel_rfl) (by kernel_rfl) (fun _ _ _ h => h) (Or.inl ⟨by rfl, ?_⟩) (by assumption) ?_
        rotate_left
        · (intro W hW; (try dsimp only at hW); go_simp; try with_reducible rfl)
        try simp only [Act.put, List.setIfInBounds_toArray, List.set_cons_zero, List.set_cons_succ, List.getElem_toArray, List.getElem_cons_zero, List.getElem_cons_succ]
        refine wpAnyH_ready (rs := [22]) (by kernel_rfl) (by simp) ?_
        refine AllReadyH.cons rfl (fun K hK => ?_) AllReadyH.nil
        simp only [List.getElem_toArray, List.getElem_cons_zero, List.getElem_cons_succ]
        go_simp
        go_at_call 30
        with_reducible refine (bytes_fix da Sa HSa (.agg #[.int .i64 da.node, .int .i64 da.seq, .int .i64 ta, .slice A1 n1 c1, .slice A2 n2 c2, .int .u64 (da.tag : Nat)]) _ none za (Da7.keep (fr_dm hH1.2.2.frame)) (T7.fr hH1.2.2.frame)).mono ?_
        rintro e wA ⟨rfl, FA⟩
        have KA := hH1.2.2.fr l1 l2 l3 FA
        refine hK.out _ _ ⟨KA.1, KA.2.1, KA⟩ (fun hH2 => ?_)
        clear hK K
        try simp only [Act.put, List.setIfInBounds_toArray, List.set_cons_zero, List.set_cons_succ, List.getElem_toArray, List.getElem_cons_zero, List.getElem_cons_succ]
        refine wpAnyH_ready (rs := [24]) (by kernel_rfl) (by simp) ?_
        refine AllReadyH.cons rfl (fun K hK => ?_) AllReadyH.nil
        simp only [List.getElem_toArray, List.getElem_cons_zero, List.getElem_cons_succ]
        go_simp
        go_at_call 30
        with_reducible refine (bytes_fix db Sb HSb (.agg #[.int .i64 db.node, .int .i64 db.seq, .int .i64 tb, .slice B1 m1 d1, .slice B2 m2 d2, .int .u64 (db.tag : Nat)]) _ none zb (Db7.keep (fr_dm hH2.2.2.frame)) (T7.fr hH2.2.2.frame)).mono ?_
        rintro e wB ⟨rfl, FB⟩
        have KB := hH2.2.2.fr l1 l2 l3 FB
        refine hK.out _ _ ⟨KB.1, KB.2.1, KB⟩ (fun hH3 => ?_)
        clear hK K
        try simp only [Act.put, List.setIfInBounds_toArray, List.set_cons_zero, List.set_cons_succ, List.getElem_toArray, List.getElem_cons_zero, List.getElem_cons_succ]
        refine wpAnyH_take (i := 25) (v := ?_) rfl (by kernel_rfl) (by kernel_rfl) (by kernel_rfl) (fun _ _ _ h => h) (Or.inl ⟨by rfl, ?_⟩) (by assumption) ?_
        rotate_left
        · (intro W hW; (try dsimp only at hW); go_simp; try with_reducible rfl)
        try simp only [Act.put, List.setIfInBounds_toArray, List.set_cons_zero, List.set_cons_succ, List.getElem_toArray, List.getElem_cons_zero, List.getElem_cons_succ]
        refine wpAnyH_take (i := 26) (v := ?_) rfl (by kernel_rfl) (by kernel_rfl) (by kernel_rfl) (fun _ _ _ h => h) (Or.inl ⟨by rfl, ?_⟩) (by assumption) ?_
        rotate_left
        · (intro W hW; (try dsimp only at hW); go_simp; try with_reducible rfl)
        try simp only [Act.put, List.setIfInBounds_toArray, List.set_cons_zero, List.set_cons_succ, List.getElem_toArray, List.getElem_cons_zero, List.getElem_cons_succ]
        refine wpAnyH_take (i := 27) (v := ?_) rfl (by kernel_rfl) (by kernel_rfl) (by kernel_rfl) (fun _ _ _ h => h) (Or.inl ⟨by rfl, ?_⟩) (by assumption) ?_
        rotate_left
        · (intro W hW; (try dsimp only at hW); go_simp; try with_reducible rfl)
        try simp only [Act.put, List.setIfInBounds_toArray, List.set_cons_zero, List.set_cons_succ, List.getElem_toArray, List.getElem_cons_zero, List.getElem_cons_succ]
        refine wpAnyH_done (by kernel_rfl) ?_ _
        go_wp2_with fail
        go_meet
        exact ⟨rfl, hH3.2.2⟩
    · subst hx
      clear hXc
      have HM := Lib.hid (show cmpD db da = (1 : Int) by have := HN.out; simpa using this)
      have hwx : IntKind.i64.wrap (-1) = -1 := by decide
      by_cases hy1 : Y ≤ 0
      · have hz1 : decide (0 < Z) = false := decide_eq_false (by have := Htr.out (by omega) hy1; omega)
        have hq := HQQ.out
        refine wp_region_held_drew (S := (fun w' => (∀ i, w'.cell? ⟨w6.heap.size, i, none⟩ = (#[.int .i64 da.node, .int .i64 da.seq, .int .i64 ta, .slice A1 n1 c1, .slice A2 n2 c2, .int .u64 (da.tag : Nat)] : Array Value)[i]?) ∧ (∀ i, w'.cell? ⟨w6.heap.size + 1, i, none⟩ = (#[.int .i64 db.node, .int .i64 db.seq, .int .i64 tb, .slice B1 m1 d1, .slice B2 m2 d2, .int .u64 (db.tag : Nat)] : Array Value)[i]?) ∧ Kt w7 w6.heap.size (w6.heap.size + 1) (w6.heap.size + 1 + 1) #[.int .i64 da.node, .int .i64 da.seq, .int .i64 ta, .slice A1 n1 c1, .slice A2 n2 c2, .int .u64 (da.tag : Nat)] #[.int .i64 db.node, .int .i64 db.seq, .int .i64 tb, .slice B1 m1 d1, .slice B2 m2 d2, .int .u64 (db.tag : Nat)] #[.int .i64 dc.node, .int .i64 dc.seq, .int .i64 tc, .slice C1 k1 e1, .slice C2 k2 e2, .int .u64 (dc.tag : Nat)] w')) (by kernel_rfl) ⟨RA, RB, K1⟩ (fun hH0 => ?_)
        refine wpAnyH_take (i := 0) (v := ?_) rfl (by kernel_rfl) (by kernel_rfl) (by kernel_rfl) (fun _ _ _ h => h) (Or.inl ⟨by rfl, ?_⟩) (by assumption) ?_
        rotate_left
        · (intro W hW; (try dsimp only at hW); go_simp; try with_reducible rfl)
        try simp only [Act.put, List.setIfInBounds_toArray, List.set_cons_zero, List.set_cons_succ, List.getElem_toArray, List.getElem_cons_zero, List.getElem_cons_succ]
        refine wpAnyH_take (i := 1) (v := ?_) rfl (by kernel_rfl) (by kernel_rfl) (by kernel_rfl) (fun _ _ _ h => h) (Or.inl ⟨by rfl, ?_⟩) (by assumption) ?_
        rotate_left
        · (intro W hW; (try dsimp only at hW); go_simp; try with_reducible rfl)
        try simp only [Act.put, List.setIfInBounds_toArray, List.set_cons_zero, List.set_cons_succ, List.getElem_toArray, List.getElem_cons_zero, List.getElem_cons_succ]
        refine wpAnyH_take (i := 2) (v := ?_) rfl (by kernel_rfl) (by kernel_rfl) (by kernel_rfl) (fun _ _ _ h => h) (Or.inl ⟨by rfl, ?_⟩) (by assumption) ?_
        rotate_left
        · (intro W hW; (try dsimp only at hW); go_simp; try with_reducible rfl)
        try simp only [Act.put, List.setIfInBounds_toArray, List.set_cons_zero, List.set_cons_succ, List.getElem_toArray, List.getElem_cons_zero, List.getElem_cons_succ]
        refine wpAnyH_ready (rs := [3]) (by kernel_rfl) (by simp) ?_
        refine AllReadyH.cons rfl (fun K hK => ?_) AllReadyH.nil
        simp only [List.getElem_toArray, List.getElem_cons_zero, List.getElem_cons_succ]
        go_simp
        go_at_call 29
        with_reducible refine (compareD_any db da (.agg #[.int .i64 db.node, .int .i64 db.seq, .int .i64 tb, .slice B1 m1 d1, .slice B2 m2 d2, .int .u64 (db.tag : Nat)]) (.agg #[.int .i64 da.node, .int .i64 da.seq, .int .i64 ta, .slice A1 n1 c1, .slice A2 n2 c2, .int .u64 (da.tag : Nat)]) _ (Db7.keep (fr_dm hH0.2.2.frame)) (Da7.keep (fr_dm hH0.2.2.frame)) zb za (T7.fr hH0.2.2.frame)).mono ?_
        rintro e w9 ⟨rfl, F9⟩
        rw [HM.out]
        have K9 := hH0.2.2.fr l1 l2 l3 F9
        refine hK.out _ _ ⟨K9.1, K9.2.1, K9⟩ (fun hH1 => ?_)
        clear hK K
        try simp only [Act.put, List.setIfInBounds_toArray, List.set_cons_zero, List.set_cons_succ, List.getElem_toArray, List.getElem_cons_zero, List.getElem_cons_succ]
        clear hH0 K1 RA RB
        refine wpAnyH_take (i := 4) (v := ?_) rfl (by kernel_rfl) (by kernel_rfl) (by kernel_rfl) (fun _ _ _ h => h) (Or.inl ⟨by rfl, ?_⟩) (by assumption) ?_
        rotate_left
        · (intro W hW; (try dsimp only at hW); go_simp; try with_reducible rfl)
        try simp only [Act.put, List.setIfInBounds_toArray, List.set_cons_zero, List.set_cons_succ, List.getElem_toArray, List.getElem_cons_zero, List.getElem_cons_succ]
        refine wpAnyH_take (i := 5) (v := ?_) rfl (by kernel_rfl) (by kernel_rfl) (by kernel_rfl) (fun _ _ _ h => h) (Or.inl ⟨by rfl, ?_⟩) (by assumption) ?_
        rotate_left
        · (intro W hW; (try dsimp only at hW); go_simp; try with_reducible rfl)
        try simp only [Act.put, List.setIfInBounds_toArray, List.set_cons_zero, List.set_cons_succ, List.getElem_toArray, List.getElem_cons_zero, List.getElem_cons_succ]
        refine wpAnyH_take (i := 6) (v := ?_) rfl (by kernel_rfl) (by kernel_rfl) (by kernel_rfl) (fun _ _ _ h => h) (Or.inl ⟨by rfl, ?_⟩) (by assumption) ?_
        rotate_left
        · (intro W hW; (try dsimp only at hW); go_simp; try with_reducible rfl)
        try simp only [Act.put, List.setIfInBounds_toArray, List.set_cons_zero, List.set_cons_succ, List.getElem_toArray, List.getElem_cons_zero, List.getElem_cons_succ]
        refine wpAnyH_take (i := 7) (v := ?_) rfl (by kernel_rfl) (by kernel_rfl) (by kernel_rfl) (fun _ _ _ h => h) (Or.inl ⟨by rfl, ?_⟩) (by assumption) ?_
        rotate_left
        · (intro W hW; (try dsimp only at hW); go_simp; try with_reducible rfl)
        try simp only [Act.put, List.setIfInBounds_toArray, List.set_cons_zero, List.set_cons_succ, List.getElem_toArray, List.getElem_cons_zero, List.getElem_cons_succ]
        refine wpAnyH_take (i := 8) (v := ?_) rfl (by kernel_rfl) (by kernel_rfl) (by kernel_rfl) (fun _ _ _ h => h) (Or.inl ⟨by rfl, ?_⟩) (by assumption) ?_
        rotate_left
        · (intro W hW; (try dsimp only at hW); go_simp; try with_reducible rfl)
        try simp only [Act.put, List.setIfInBounds_toArray, List.set_cons_zero, List.set_cons_succ, List.getElem_toArray, List.getElem_cons_zero, List.getElem_cons_succ]
        refine wpAnyH_take (i := 9) (v := ?_) rfl (by kernel_rfl) (by kernel_rfl) (by kernel_rfl) (fun _ _ _ h => h) (Or.inl ⟨by rfl, ?_⟩) (by assumption) ?_
        rotate_left
        · (intro W hW; (try dsimp only at hW); go_simp; try with_reducible rfl)
        try simp only [Act.put, List.setIfInBounds_toArray, List.set_cons_zero, List.set_cons_succ, List.getElem_toArray, List.getElem_cons_zero, List.getElem_cons_succ]
        refine wpAnyH_take (i := 10) (v := ?_) rfl (by kernel_rfl) (by kernel_rfl) (by kernel_rfl) (fun _ _ _ h => h) (Or.inl ⟨by rfl, ?_⟩) (by assumption) ?_
        rotate_left
        · (intro W hW; (try dsimp only at hW); go_simp; try with_reducible rfl)
        try simp only [Act.put, List.setIfInBounds_toArray, List.set_cons_zero, List.set_cons_succ, List.getElem_toArray, List.getElem_cons_zero, List.getElem_cons_succ]
        refine wpAnyH_take (i := 11) (v := ?_) rfl (by kernel_rfl) (by kernel_rfl) (by kernel_rfl) (fun _ _ _ h => h) (Or.inl ⟨by rfl, ?_⟩) (by assumption) ?_
        rotate_left
        · (intro W hW; (try dsimp only at hW); go_simp; try with_reducible rfl)
        try simp only [Act.put, List.setIfInBounds_toArray, List.set_cons_zero, List.set_cons_succ, List.getElem_toArray, List.getElem_cons_zero, List.getElem_cons_succ]
        refine wpAnyH_take (i := 12) (v := ?_) rfl (by kernel_rfl) (by kernel_rfl) (by kernel_rfl) (fun _ _ _ h => h) (Or.inl ⟨by rfl, ?_⟩) (by assumption) ?_
        rotate_left
        · (intro W hW; (try dsimp only at hW); go_simp; try with_reducible rfl)
        try simp only [Act.put, List.setIfInBounds_toArray, List.set_cons_zero, List.set_cons_succ, List.getElem_toArray, List.getElem_cons_zero, List.getElem_cons_succ]
        refine wpAnyH_take (i := 13) (v := ?_) rfl (by kernel_rfl) (by kernel_rfl) (by kernel_rfl) (fun _ _ _ h => h) (Or.inl ⟨by rfl, ?_⟩) (by assumption) ?_
        rotate_left
        · (intro W hW; (try dsimp only at hW); go_simp; try with_reducible rfl)
        try simp only [Act.put, List.setIfInBounds_toArray, List.set_cons_zero, List.set_cons_succ, List.getElem_toArray, List.getElem_cons_zero, List.getElem_cons_succ]
        refine wpAnyH_take (i := 14) (v := ?_) rfl (by kernel_rfl) (by kernel_rfl) (by kernel_rfl) (fun _ _ _ h => h) (Or.inl ⟨by rfl, ?_⟩) (by assumption) ?_
        rotate_left
        · (intro W hW; (try dsimp only at hW); go_simp; try with_reducible rfl)
        try simp only [Act.put, List.setIfInBounds_toArray, List.set_cons_zero, List.set_cons_succ, List.getElem_toArray, List.getElem_cons_zero, List.getElem_cons_succ]
        refine wpAnyH_take (i := 15) (v := ?_) rfl (by kernel_rfl) (by kernel_rfl) (by kernel_rfl) (fun _ _ _ h => h) (Or.inl ⟨by rfl, ?_⟩) (by assumption) ?_
        rotate_left
        · (intro W hW; (try dsimp only at hW); go_simp; try with_reducible rfl)
        try simp only [Act.put, List.setIfInBounds_toArray, List.set_cons_zero, List.set_cons_succ, List.getElem_toArray, List.getElem_cons_zero, List.getElem_cons_succ]
        refine wpAnyH_take (i := 16) (v := ?_) rfl (by kernel_rfl) (by kernel_rfl) (by kernel_rfl) (fun _ _ _ h => h) (Or.inl ⟨by rfl, ?_⟩) (by assumption) ?_
        rotate_left
        · (intro W hW; (try dsimp only at hW); go_simp; try with_reducible rfl)
        try simp only [Act.put, List.setIfInBounds_toArray, List.set_cons_zero, List.set_cons_succ, List.getElem_toArray, List.getElem_cons_zero, List.getElem_cons_succ]
        refine wpAnyH_take (i := 17) (v := ?_) rfl (by kernel_rfl) (by kernel_rfl) (by kernel_rfl) (fun _ _ _ h => h) (Or.inl ⟨by rfl, ?_⟩) (by assumption) ?_
        rotate_left
        · (intro W hW; (try dsimp only at hW); go_simp; try with_reducible rfl)
        try simp only [Act.put, List.setIfInBounds_toArray, List.set_cons_zero, List.set_cons_succ, List.getElem_toArray, List.getElem_cons_zero, List.getElem_cons_succ]
        refine wpAnyH_take (i := 18) (v := ?_) rfl (by kernel_rfl) (by kernel_rfl) (by kernel_rfl) (fun _ _ _ h => h) (Or.inl ⟨by rfl, ?_⟩) (by assumption) ?_
        rotate_left
        · (intro W hW; (try dsimp only at hW); go_simp; try with_reducible rfl)
        try simp only [Act.put, List.setIfInBounds_toArray, List.set_cons_zero, List.set_cons_succ, List.getElem_toArray, List.getElem_cons_zero, List.getElem_cons_succ]
        refine wpAnyH_take (i := 19) (v := ?_) rfl (by kernel_rfl) (by kernel_rfl) (by kernel_rfl) (fun _ _ _ h => h) (Or.inl ⟨by rfl, ?_⟩) (by assumption) ?_
        rotate_left
        · (intro W hW; (try dsimp only at hW); go_simp; try with_reducible rfl)
        try simp only [Act.put, List.setIfInBounds_toArray, List.set_cons_zero, List.set_cons_succ, List.getElem_toArray, List.getElem_cons_zero, List.getElem_cons_succ]
        refine wpAnyH_take (i := 20) (v := ?_) rfl (by kernel_rfl) (by kernel_rfl) (by kernel_rfl) (fun _ _ _ h => h) (Or.inl ⟨by rfl, ?_⟩) (by assumption) ?_
        rotate_left
        · (intro W hW; (try dsimp only at hW); go_simp; try with_reducible rfl)
        try simp only [Act.put, List.setIfInBounds_toArray, List.set_cons_zero, List.set_cons_succ, List.getElem_toArray, List.getElem_cons_zero, List.getElem_cons_succ]
        refine wpAnyH_take (i := 21) (v := ?_) rfl (by kernel_rfl) (by kernel_rfl) (by kernel_rfl) (fun _ _ _ h => h) (Or.inl ⟨by rfl, ?_⟩) (by assumption) ?_
        rotate_left
        · (intro W hW; (try dsimp only at hW); go_simp; try with_reducible rfl)
        try simp only [Act.put, List.setIfInBounds_toArray, List.set_cons_zero, List.set_cons_succ, List.getElem_toArray, List.getElem_cons_zero, List.getElem_cons_succ]
        refine wpAnyH_take (i := 23) (v := ?_) rfl (by kernel_rfl) (by kernel_rfl) (by kernel_rfl) (fun _ _ _ h => h) (Or.inl ⟨by rfl, ?_⟩) (by assumption) ?_
        rotate_left
        · (intro W hW; (try dsimp only at hW); go_simp; try with_reducible rfl)
        try simp only [Act.put, List.setIfInBounds_toArray, List.set_cons_zero, List.set_cons_succ, List.getElem_toArray, List.getElem_cons_zero, List.getElem_cons_succ]
        refine wpAnyH_ready (rs := [22]) (by kernel_rfl) (by simp) ?_
        refine AllReadyH.cons rfl (fun K hK => ?_) AllReadyH.nil
        simp only [List.getElem_toArray, List.getElem_cons_zero, List.getElem_cons_succ]
        go_simp
        go_at_call 30
        with_reducible refine (bytes_fix da Sa HSa (.agg #[.int .i64 da.node, .int .i64 da.seq, .int .i64 ta, .slice A1 n1 c1, .slice A2 n2 c2, .int .u64 (da.tag : Nat)]) _ none za (Da7.keep (fr_dm hH1.2.2.frame)) (T7.fr hH1.2.2.frame)).mono ?_
        rintro e wA ⟨rfl, FA⟩
        have KA := hH1.2.2.fr l1 l2 l3 FA
        refine hK.out _ _ ⟨KA.1, KA.2.1, KA⟩ (fun hH2 => ?_)
        clear hK K
        try simp only [Act.put, List.setIfInBounds_toArray, List.set_cons_zero, List.set_cons_succ, List.getElem_toArray, List.getElem_cons_zero, List.getElem_cons_succ]
        refine wpAnyH_ready (rs := [24]) (by kernel_rfl) (by simp) ?_
        refine AllReadyH.cons rfl (fun K hK => ?_) AllReadyH.nil
        simp only [List.getElem_toArray, List.getElem_cons_zero, List.getElem_cons_succ]
        go_simp
        go_at_call 30
        with_reducible refine (bytes_fix db Sb HSb (.agg #[.int .i64 db.node, .int .i64 db.seq, .int .i64 tb, .slice B1 m1 d1, .slice B2 m2 d2, .int .u64 (db.tag : Nat)]) _ none zb (Db7.keep (fr_dm hH2.2.2.frame)) (T7.fr hH2.2.2.frame)).mono ?_
        rintro e wB ⟨rfl, FB⟩
        have KB := hH2.2.2.fr l1 l2 l3 FB
        refine hK.out _ _ ⟨KB.1, KB.2.1, KB⟩ (fun hH3 => ?_)
        clear hK K
        try simp only [Act.put, List.setIfInBounds_toArray, List.set_cons_zero, List.set_cons_succ, List.getElem_toArray, List.getElem_cons_zero, List.getElem_cons_succ]
        refine wpAnyH_take (i := 25) (v := ?_) rfl (by kernel_rfl) (by kernel_rfl) (by kernel_rfl) (fun _ _ _ h => h) (Or.inl ⟨by rfl, ?_⟩) (by assumption) ?_
        rotate_left
        · (intro W hW; (try dsimp only at hW); go_simp; try with_reducible rfl)
        try simp only [Act.put, List.setIfInBounds_toArray, List.set_cons_zero, List.set_cons_succ, List.getElem_toArray, List.getElem_cons_zero, List.getElem_cons_succ]
        refine wpAnyH_take (i := 26) (v := ?_) rfl (by kernel_rfl) (by kernel_rfl) (by kernel_rfl) (fun _ _ _ h => h) (Or.inl ⟨by rfl, ?_⟩) (by assumption) ?_
        rotate_left
        · (intro W hW; (try dsimp only at hW); go_simp; try with_reducible rfl)
        try simp only [Act.put, List.setIfInBounds_toArray, List.set_cons_zero, List.set_cons_succ, List.getElem_toArray, List.getElem_cons_zero, List.getElem_cons_succ]
        refine wpAnyH_take (i := 27) (v := ?_) rfl (by kernel_rfl) (by kernel_rfl) (by kernel_rfl) (fun _ _ _ h => h) (Or.inl ⟨by rfl, ?_⟩) (by assumption) ?_
        rotate_left
        · (intro W hW; (try dsimp only at hW); go_simp; try with_reducible rfl)
        try simp only [Act.put, List.setIfInBounds_toArray, List.set_cons_zero, List.set_cons_succ, List.getElem_toArray, List.getElem_cons_zero, List.getElem_cons_succ]
        refine wpAnyH_done (by kernel_rfl) ?_ _
        go_wp2_with fail
        go_meet
        exact ⟨rfl, hH3.2.2⟩
      · have hy2 : decide (Y ≤ 0) = false := decide_eq_false hy1
        clear hy1
        have hq := HQQ.out
        refine wp_region_held_drew (S := (fun w' => (∀ i, w'.cell? ⟨w6.heap.size, i, none⟩ = (#[.int .i64 da.node, .int .i64 da.seq, .int .i64 ta, .slice A1 n1 c1, .slice A2 n2 c2, .int .u64 (da.tag : Nat)] : Array Value)[i]?) ∧ (∀ i, w'.cell? ⟨w6.heap.size + 1, i, none⟩ = (#[.int .i64 db.node, .int .i64 db.seq, .int .i64 tb, .slice B1 m1 d1, .slice B2 m2 d2, .int .u64 (db.tag : Nat)] : Array Value)[i]?) ∧ Kt w7 w6.heap.size (w6.heap.size + 1) (w6.heap.size + 1 + 1) #[.int .i64 da.node, .int .i64 da.seq, .int .i64 ta, .slice A1 n1 c1, .slice A2 n2 c2, .int .u64 (da.tag : Nat)] #[.int .i64 db.node, .int .i64 db.seq, .int .i64 tb, .slice B1 m1 d1, .slice B2 m2 d2, .int .u64 (db.tag : Nat)] #[.int .i64 dc.node, .int .i64 dc.seq, .int .i64 tc, .slice C1 k1 e1, .slice C2 k2 e2, .int .u64 (dc.tag : Nat)] w')) (by kernel_rfl) ⟨RA, RB, K1⟩ (fun hH0 => ?_)
        refine wpAnyH_take (i := 0) (v := ?_) rfl (by kernel_rfl) (by kernel_rfl) (by kernel_rfl) (fun _ _ _ h => h) (Or.inl ⟨by rfl, ?_⟩) (by assumption) ?_
        rotate_left
        · (intro W hW; (try dsimp only at hW); go_simp; try with_reducible rfl)
        try simp only [Act.put, List.setIfInBounds_toArray, List.set_cons_zero, List.set_cons_succ, List.getElem_toArray, List.getElem_cons_zero, List.getElem_cons_succ]
        refine wpAnyH_take (i := 1) (v := ?_) rfl (by kernel_rfl) (by kernel_rfl) (by kernel_rfl) (fun _ _ _ h => h) (Or.inl ⟨by rfl, ?_⟩) (by assumption) ?_
        rotate_left
        · (intro W hW; (try dsimp only at hW); go_simp; try with_reducible rfl)
        try simp only [Act.put, List.setIfInBounds_toArray, List.set_cons_zero, List.set_cons_succ, List.getElem_toArray, List.getElem_cons_zero, List.getElem_cons_succ]
        refine wpAnyH_take (i := 2) (v := ?_) rfl (by kernel_rfl) (by kernel_rfl) (by kernel_rfl) (fun _ _ _ h => h) (Or.inl ⟨by rfl, ?_⟩) (by assumption) ?_
        rotate_left
        · (intro W hW; (try dsimp only at hW); go_simp; try with_reducible rfl)
        try simp only [Act.put, List.setIfInBounds_toArray, List.set_cons_zero, List.set_cons_succ, List.getElem_toArray, List.getElem_cons_zero, List.getElem_cons_succ]
        refine wpAnyH_ready (rs := [3]) (by kernel_rfl) (by simp) ?_
        refine AllReadyH.cons rfl (fun K hK => ?_) AllReadyH.nil
        simp only [List.getElem_toArray, List.getElem_cons_zero, List.getElem_cons_succ]
        go_simp
        go_at_call 29
        with_reducible refine (compareD_any db da (.agg #[.int .i64 db.node, .int .i64 db.seq, .int .i64 tb, .slice B1 m1 d1, .slice B2 m2 d2, .int .u64 (db.tag : Nat)]) (.agg #[.int .i64 da.node, .int .i64 da.seq, .int .i64 ta, .slice A1 n1 c1, .slice A2 n2 c2, .int .u64 (da.tag : Nat)]) _ (Db7.keep (fr_dm hH0.2.2.frame)) (Da7.keep (fr_dm hH0.2.2.frame)) zb za (T7.fr hH0.2.2.frame)).mono ?_
        rintro e w9 ⟨rfl, F9⟩
        rw [HM.out]
        have K9 := hH0.2.2.fr l1 l2 l3 F9
        refine hK.out _ _ ⟨K9.1, K9.2.1, K9⟩ (fun hH1 => ?_)
        clear hK K
        try simp only [Act.put, List.setIfInBounds_toArray, List.set_cons_zero, List.set_cons_succ, List.getElem_toArray, List.getElem_cons_zero, List.getElem_cons_succ]
        clear hH0 K1 RA RB
        refine wpAnyH_take (i := 4) (v := ?_) rfl (by kernel_rfl) (by kernel_rfl) (by kernel_rfl) (fun _ _ _ h => h) (Or.inl ⟨by rfl, ?_⟩) (by assumption) ?_
        rotate_left
        · (intro W hW; (try dsimp only at hW); go_simp; try with_reducible rfl)
        try simp only [Act.put, List.setIfInBounds_toArray, List.set_cons_zero, List.set_cons_succ, List.getElem_toArray, List.getElem_cons_zero, List.getElem_cons_succ]
        refine wpAnyH_take (i := 5) (v := ?_) rfl (by kernel_rfl) (by kernel_rfl) (by kernel_rfl) (fun _ _ _ h => h) (Or.inl ⟨by rfl, ?_⟩) (by assumption) ?_
        rotate_left
        · (intro W hW; (try dsimp only at hW); go_simp; try with_reducible rfl)
        try simp only [Act.put, List.setIfInBounds_toArray, List.set_cons_zero, List.set_cons_succ, List.getElem_toArray, List.getElem_cons_zero, List.getElem_cons_succ]
        refine wpAnyH_take (i := 6) (v := ?_) rfl (by kernel_rfl) (by kernel_rfl) (by kernel_rfl) (fun _ _ _ h => h) (Or.inl ⟨by rfl, ?_⟩) (by assumption) ?_
        rotate_left
        · (intro W hW; (try dsimp only at hW); go_simp; try with_reducible rfl)
        try simp only [Act.put, List.setIfInBounds_toArray, List.set_cons_zero, List.set_cons_succ, List.getElem_toArray, List.getElem_cons_zero, List.getElem_cons_succ]
        refine wpAnyH_take (i := 7) (v := ?_) rfl (by kernel_rfl) (by kernel_rfl) (by kernel_rfl) (fun _ _ _ h => h) (Or.inl ⟨by rfl, ?_⟩) (by assumption) ?_
        rotate_left
        · (intro W hW; (try dsimp only at hW); go_simp; try with_reducible rfl)
        try simp only [Act.put, List.setIfInBounds_toArray, List.set_cons_zero, List.set_cons_succ, List.getElem_toArray, List.getElem_cons_zero, List.getElem_cons_succ]
        refine wpAnyH_take (i := 8) (v := ?_) rfl (by kernel_rfl) (by kernel_rfl) (by kernel_rfl) (fun _ _ _ h => h) (Or.inl ⟨by rfl, ?_⟩) (by assumption) ?_
        rotate_left
        · (intro W hW; (try dsimp only at hW); go_simp; try with_reducible rfl)
        try simp only [Act.put, List.setIfInBounds_toArray, List.set_cons_zero, List.set_cons_succ, List.getElem_toArray, List.getElem_cons_zero, List.getElem_cons_succ]
        refine wpAnyH_take (i := 9) (v := ?_) rfl (by kernel_rfl) (by kernel_rfl) (by kernel_rfl) (fun _ _ _ h => h) (Or.inl ⟨by rfl, ?_⟩) (by assumption) ?_
        rotate_left
        · (intro W hW; (try dsimp only at hW); go_simp; try with_reducible rfl)
        try simp only [Act.put, List.setIfInBounds_toArray, List.set_cons_zero, List.set_cons_succ, List.getElem_toArray, List.getElem_cons_zero, List.getElem_cons_succ]
        refine wpAnyH_take (i := 10) (v := ?_) rfl (by kernel_rfl) (by kernel_rfl) (by kernel_rfl) (fun _ _ _ h => h) (Or.inl ⟨by rfl, ?_⟩) (by assumption) ?_
        rotate_left
        · (intro W hW; (try dsimp only at hW); go_simp; try with_reducible rfl)
        try simp only [Act.put, List.setIfInBounds_toArray, List.set_cons_zero, List.set_cons_succ, List.getElem_toArray, List.getElem_cons_zero, List.getElem_cons_succ]
        refine wpAnyH_take (i := 11) (v := ?_) rfl (by kernel_rfl) (by kernel_rfl) (by kernel_rfl) (fun _ _ _ h => h) (Or.inl ⟨by rfl, ?_⟩) (by assumption) ?_
        rotate_left
        · (intro W hW; (try dsimp only at hW); go_simp; try with_reducible rfl)
        try simp only [Act.put, List.setIfInBounds_toArray, List.set_cons_zero, List.set_cons_succ, List.getElem_toArray, List.getElem_cons_zero, List.getElem_cons_succ]
        refine wpAnyH_take (i := 12) (v := ?_) rfl (by kernel_rfl) (by kernel_rfl) (by kernel_rfl) (fun _ _ _ h => h) (Or.inl ⟨by rfl, ?_⟩) (by assumption) ?_
        rotate_left
        · (intro W hW; (try dsimp only at hW); go_simp; try with_reducible rfl)
        try simp only [Act.put, List.setIfInBounds_toArray, List.set_cons_zero, List.set_cons_succ, List.getElem_toArray, List.getElem_cons_zero, List.getElem_cons_succ]
        refine wpAnyH_take (i := 13) (v := ?_) rfl (by kernel_rfl) (by kernel_rfl) (by kernel_rfl) (fun _ _ _ h => h) (Or.inl ⟨by rfl, ?_⟩) (by assumption) ?_
        rotate_left
        · (intro W hW; (try dsimp only at hW); go_simp; try with_reducible rfl)
        try simp only [Act.put, List.setIfInBounds_toArray, List.set_cons_zero, List.set_cons_succ, List.getElem_toArray, List.getElem_cons_zero, List.getElem_cons_succ]
        refine wpAnyH_take (i := 14) (v := undef) rfl (by kernel_rfl) (by kernel_rfl) (by kernel_rfl) (fun _ _ _ h => h) (Or.inr ⟨by rfl, rfl⟩) (by assumption) ?_
        try simp only [Act.put, List.setIfInBounds_toArray, List.set_cons_zero, List.set_cons_succ, List.getElem_toArray, List.getElem_cons_zero, List.getElem_cons_succ]
        refine wpAnyH_take (i := 15) (v := undef) rfl (by kernel_rfl) (by kernel_rfl) (by kernel_rfl) (fun _ _ _ h => h) (Or.inr ⟨by rfl, rfl⟩) (by assumption) ?_
        try simp only [Act.put, List.setIfInBounds_toArray, List.set_cons_zero, List.set_cons_succ, List.getElem_toArray, List.getElem_cons_zero, List.getElem_cons_succ]
        refine wpAnyH_take (i := 16) (v := ?_) rfl (by kernel_rfl) (by kernel_rfl) (by kernel_rfl) (fun _ _ _ h => h) (Or.inl ⟨by rfl, ?_⟩) (by assumption) ?_
        rotate_left
        · (intro W hW; (try dsimp only at hW); go_simp; try with_reducible rfl)
        try simp only [Act.put, List.setIfInBounds_toArray, List.set_cons_zero, List.set_cons_succ, List.getElem_toArray, List.getElem_cons_zero, List.getElem_cons_succ]
        refine wpAnyH_take (i := 17) (v := ?_) rfl (by kernel_rfl) (by kernel_rfl) (by kernel_rfl) (fun _ _ _ h => h) (Or.inl ⟨by rfl, ?_⟩) (by assumption) ?_
        rotate_left
        · (intro W hW; (try dsimp only at hW); go_simp; try with_reducible rfl)
        try simp only [Act.put, List.setIfInBounds_toArray, List.set_cons_zero, List.set_cons_succ, List.getElem_toArray, List.getElem_cons_zero, List.getElem_cons_succ]
        refine wpAnyH_take (i := 18) (v := ?_) rfl (by kernel_rfl) (by kernel_rfl) (by kernel_rfl) (fun _ _ _ h => h) (Or.inl ⟨by rfl, ?_⟩) (by assumption) ?_
        rotate_left
        · (intro W hW; (try dsimp only at hW); go_simp; try with_reducible rfl)
        try simp only [Act.put, List.setIfInBounds_toArray, List.set_cons_zero, List.set_cons_succ, List.getElem_toArray, List.getElem_cons_zero, List.getElem_cons_succ]
        refine wpAnyH_take (i := 19) (v := ?_) rfl (by kernel_rfl) (by kernel_rfl) (by kernel_rfl) (fun _ _ _ h => h) (Or.inl ⟨by rfl, ?_⟩) (by assumption) ?_
        rotate_left
        · (intro W hW; (try dsimp only at hW); go_simp; try with_reducible rfl)
        try simp only [Act.put, List.setIfInBounds_toArray, List.set_cons_zero, List.set_cons_succ, List.getElem_toArray, List.getElem_cons_zero, List.getElem_cons_succ]
        refine wpAnyH_take (i := 20) (v := ?_) rfl (by kernel_rfl) (by kernel_rfl) (by kernel_rfl) (fun _ _ _ h => h) (Or.inl ⟨by rfl, ?_⟩) (by assumption) ?_
        rotate_left
        · (intro W hW; (try dsimp only at hW); go_simp; try with_reducible rfl)
        try simp only [Act.put, List.setIfInBounds_toArray, List.set_cons_zero, List.set_cons_succ, List.getElem_toArray, List.getElem_cons_zero, List.getElem_cons_succ]
        refine wpAnyH_take (i := 21) (v := ?_) rfl (by kernel_rfl) (by kernel_rfl) (by kernel_rfl) (fun _ _ _ h => h) (Or.inl ⟨by rfl, ?_⟩) (by assumption) ?_
        rotate_left
        · (intro W hW; (try dsimp only at hW); go_simp; try with_reducible rfl)
        try simp only [Act.put, List.setIfInBounds_toArray, List.set_cons_zero, List.set_cons_succ, List.getElem_toArray, List.getElem_cons_zero, List.getElem_cons_succ]
        refine wpAnyH_take (i := 23) (v := ?_) rfl (by kernel_rfl) (by kernel_rfl) (by kernel_rfl) (fun _ _ _ h => h) (Or.inl ⟨by rfl, ?_⟩) (by assumption) ?_
        rotate_left
        · (intro W hW; (try dsimp only at hW); go_simp; try with_reducible rfl)
        try simp only [Act.put, List.setIfInBounds_toArray, List.set_cons_zero, List.set_cons_succ, List.getElem_toArray, List.getElem_cons_zero, List.getElem_cons_succ]
        refine wpAnyH_ready (rs := [22]) (by kernel_rfl) (by simp) ?_
        refine AllReadyH.cons rfl (fun K hK => ?_) AllReadyH.nil
        simp only [List.getElem_toArray, List.getElem_cons_zero, List.getElem_cons_succ]
        go_simp
        go_at_call 30
        with_reducible refine (bytes_fix da Sa HSa (.agg #[.int .i64 da.node, .int .i64 da.seq, .int .i64 ta, .slice A1 n1 c1, .slice A2 n2 c2, .int .u64 (da.tag : Nat)]) _ none za (Da7.keep (fr_dm hH1.2.2.frame)) (T7.fr hH1.2.2.frame)).mono ?_
        rintro e wA ⟨rfl, FA⟩
        have KA := hH1.2.2.fr l1 l2 l3 FA
        refine hK.out _ _ ⟨KA.1, KA.2.1, KA⟩ (fun hH2 => ?_)
        clear hK K
        try simp only [Act.put, List.setIfInBounds_toArray, List.set_cons_zero, List.set_cons_succ, List.getElem_toArray, List.getElem_cons_zero, List.getElem_cons_succ]
        refine wpAnyH_ready (rs := [24]) (by kernel_rfl) (by simp) ?_
        refine AllReadyH.cons rfl (fun K hK => ?_) AllReadyH.nil
        simp only [List.getElem_toArray, List.getElem_cons_zero, List.getElem_cons_succ]
        go_simp
        go_at_call 30
        with_reducible refine (bytes_fix db Sb HSb (.agg #[.int .i64 db.node, .int .i64 db.seq, .int .i64 tb, .slice B1 m1 d1, .slice B2 m2 d2, .int .u64 (db.tag : Nat)]) _ none zb (Db7.keep (fr_dm hH2.2.2.frame)) (T7.fr hH2.2.2.frame)).mono ?_
        rintro e wB ⟨rfl, FB⟩
        have KB := hH2.2.2.fr l1 l2 l3 FB
        refine hK.out _ _ ⟨KB.1, KB.2.1, KB⟩ (fun hH3 => ?_)
        clear hK K
        try simp only [Act.put, List.setIfInBounds_toArray, List.set_cons_zero, List.set_cons_succ, List.getElem_toArray, List.getElem_cons_zero, List.getElem_cons_succ]
        refine wpAnyH_take (i := 25) (v := ?_) rfl (by kernel_rfl) (by kernel_rfl) (by kernel_rfl) (fun _ _ _ h => h) (Or.inl ⟨by rfl, ?_⟩) (by assumption) ?_
        rotate_left
        · (intro W hW; (try dsimp only at hW); go_simp; try with_reducible rfl)
        try simp only [Act.put, List.setIfInBounds_toArray, List.set_cons_zero, List.set_cons_succ, List.getElem_toArray, List.getElem_cons_zero, List.getElem_cons_succ]
        refine wpAnyH_take (i := 26) (v := ?_) rfl (by kernel_rfl) (by kernel_rfl) (by kernel_rfl) (fun _ _ _ h => h) (Or.inl ⟨by rfl, ?_⟩) (by assumption) ?_
        rotate_left
        · (intro W hW; (try dsimp only at hW); go_simp; try with_reducible rfl)
        try simp only [Act.put, List.setIfInBounds_toArray, List.set_cons_zero, List.set_cons_succ, List.getElem_toArray, List.getElem_cons_zero, List.getElem_cons_succ]
        refine wpAnyH_take (i := 27) (v := ?_) rfl (by kernel_rfl) (by kernel_rfl) (by kernel_rfl) (fun _ _ _ h => h) (Or.inl ⟨by rfl, ?_⟩) (by assumption) ?_
        rotate_left
        · (intro W hW; (try dsimp only at hW); go_simp; try with_reducible rfl)
        try simp only [Act.put, List.setIfInBounds_toArray, List.set_cons_zero, List.set_cons_succ, List.getElem_toArray, List.getElem_cons_zero, List.getElem_cons_succ]
        refine wpAnyH_done (by kernel_rfl) ?_ _
        go_wp2_with fail
        go_meet
        exact ⟨rfl, hH3.2.2⟩
  case rest =>
    obtain ⟨rfl, KC⟩ := hcut
    have RA := KC.1
    have RB := KC.2.1
    have TC := T7.fr KC.frame
    clear KK K0
    by_cases hn1 : da.node < db.node
    · have hx := Hl1.out hn1
      have hne : (da.node != db.node) = true := by rw [bne_iff_ne]; omega
      subst hx
      go_wp2_with fail
      refine (awake7_any _ TC).mono ?_
      rintro e w10 ⟨rfl, F10⟩
      go_wp2_with fail
      go_ret
      exact ⟨rfl, (F07.pure KC.frame).pure F10⟩
    · by_cases hn2 : da.node = db.node
      · have hne : (da.node != db.node) = false := by rw [bne_eq_false_iff_eq]; exact hn2
        have hge : db.node ≤ da.node := by omega
        by_cases hs1 : da.seq < db.seq
        · have hx := Hl2.out hn2 hs1
          subst hx
          clear hn1 hn2
          go_wp2_with fail
          refine (awake7_any _ TC).mono ?_
          rintro e w10 ⟨rfl, F10⟩
          go_wp2_with fail
          go_ret
          exact ⟨rfl, (F07.pure KC.frame).pure F10⟩
        · have hsg : db.seq ≤ da.seq := by omega
          clear hn1 hn2 hs1
          go_wp2_with fail
          refine (awake7_any _ TC).mono ?_
          rintro e w10 ⟨rfl, F10⟩
          go_wp2_with fail
          go_ret
          exact ⟨rfl, (F07.pure KC.frame).pure F10⟩
      · have hne : (da.node != db.node) = true := by rw [bne_iff_ne]; exact hn2
        have hge : db.node ≤ da.node := by omega
        clear hn1 hn2
        go_wp2_with fail
        refine (awake7_any _ TC).mono ?_
        rintro e w10 ⟨rfl, F10⟩
        go_wp2_with fail
        go_ret
        exact ⟨rfl, (F07.pure KC.frame).pure F10⟩
end Go.Proofs.YtidnnjgiogklaaaDoor

/- The law DeclarationSigns: its walk. -/
import Derived.Test.YtpdhckbiioobhaaGreatDoorProg
import Derived.Test.YtpdhckbiioobhaaGreatDoorSignW
import Derived.Test.YtpdhckbiioobhaaGreatDoorSameW
import Derived.Test.YtpdhckbiioobhaaGreatDoorAwake7
import Derived.Test.YtpdhckbiioobhaaGreatDoorDecR
import Derived.Test.YtpdhckbiioobhaaGreatDoorDecC
namespace Go.Proofs.YtpdhckbiioobhaaGreatDoor
open Go.RowKit

def SignQ2 (w : World) (d : De) (e : Ending) (w' : World) : Prop := ∃ v, e = .returned (.tuple #[v, .int .i64 0]) ∧ DeD w' (Dn w.heap.size w') v d ∧ Fr none w w'
theorem sign_fix2 (k : Nat) (hk : k < 18446744073709551616) (nd sq : Int) (t : Tr) (G : Nat) (hG : Hid (G = tagS k (bytesS ⟨nd, sq, t, 0⟩))) (v : Value) (w : World) (r : Option Nat) (hn : Wi nd) (hq : Wi sq) (h : TrR w r v t) (hT : Tab w) (hp : plainE ⟨nd, sq, t, 0⟩ = 0) :
    Calls Tryz.prog 33 #[.int .u64 k, .int .i64 nd, .int .i64 sq, v] w (SignQ2 w ⟨nd, sq, t, G⟩) :=
  (sign_any k hk nd sq t v w r hn hq h hT hp).mono fun e w' ⟨v', he, hD, F⟩ => by
    rw [hG.out]
    exact ⟨v', he, hD, F⟩
/-- A slot that points to a signed declaration, laid since w0. -/
def Sg2 (w0 : World) (d : De) (s : Value) (w : World) : Prop := ∃ (ba : Nat) (ts : Int) (D1 : Option Addr) (d1 f1 : Nat) (D2 : Option Addr) (d2 f2 : Nat), s = .pointer (some ⟨ba, 0, none⟩) ∧ w0.heap.size ≤ ba ∧
  DB w ba (.int .i64 d.node) (.int .i64 d.seq) (.int .i64 ts) (.slice D1 d1 f1) (.slice D2 d2 f2) (.int .u64 (d.tag : Int)) ∧ DeD w (fun q => w0.heap.size ≤ q ∧ q < w.heap.size) (.agg #[.int .i64 d.node, .int .i64 d.seq, .int .i64 ts, .slice D1 d1 f1, .slice D2 d2 f2, .int .u64 (d.tag : Int)]) d ∧ Fr none w0 w

set_option maxRecDepth 100000 in
set_option maxHeartbeats 4000000 in
theorem law07s_any (v : Value) (l : List Int) (w : World) (hl : SlI w none v l) (hT : Tab w) (hB : Deb w) : Calls Tryz.prog 7 #[v] w fun e w' => e = .returned (.bool true) ∧ Fr none w w' := by
  go_enter Tryz.func7, Tryz.ntmps7
  go_wp2_with fail
  refine (tapeNew_any _ _ _ hl).mono ?_
  rintro e w1 ⟨g, rfl, hg, S1, F1⟩
  clear hl
  go_wp2_with fail
  refine (tapeRange_any 1 10 g _ (by omega) (by omega) (by omega) S1).mono ?_
  rintro e w2 ⟨x, rfl, x1, x2, S2, F2⟩
  obtain ⟨n, rfl⟩ := Int.eq_ofNat_of_zero_le (show 0 ≤ x by omega)
  go_wp2_with fail
  refine (keys_any n g _ (by omega) S2).mono ?_
  rintro e w3 ⟨kv, ks, rfl, hkl, hks, D3, S3, F3⟩
  subst hkl
  have g2 := S2.lt
  have K3 : SlD w3 (Dm w3 (some g)) 1 kv (ks.map u64v) := D3.keep (dn_dm (by simp; omega))
  have HKS := Lib.hid hks
  have F03 := F1.own (F2.same F3) (fun q hq => by injection hq with hq; omega)
  clear hks D3
  obtain ⟨A0, c0, rfl, kq1, kq2, _⟩ := keys_open K3
  go_wp2_with fail
  refine (tapeN_any ks.length g _ (by omega) (by omega) S3).mono ?_
  rintro e w4 ⟨k, rfl, k1, k2, S4, F4⟩
  obtain ⟨k, rfl⟩ := Int.eq_ofNat_of_zero_le k1
  go_wp2_with fail
  refine (tapeRange_any 1 30 g _ (by omega) (by omega) (by omega) S4).mono ?_
  rintro e w5 ⟨sq, rfl, s1, s2, S5, F5⟩
  go_wp2_with fail
  refine (declared_any ks.length g _ (by omega) (by omega) S5).mono ?_
  rintro e w6 ⟨vx, t, rfl, Dt, vt, dt, zt, S6, F6⟩
  have g4 := S4.lt
  have g5 := S5.lt
  have y3 := F4.size
  have y4 := F5.size
  have y5 := F6.size
  have Dt6 : TrR w6 none vx t := TrD.keep (dn_dm (by simp)) _ _ Dt
  have K6 : SlD w6 (Dm w6 none) 1 (.slice A0 ks.length c0) (ks.map u64v) := (((K3.keep (fr_dm F4)).keep (fr_dm F5)).keep (fr_dm F6)).keep dm_none
  have F06 := ((F03.own F4 (fun q hq => by injection hq with hq; omega)).own F5 (fun q hq => by injection hq with hq; omega)).own F6 (fun q hq => by injection hq with hq; omega)
  have T6 := hT.fr F06
  have E6 := hB.fr F06
  obtain ⟨th, A1, n1, c1, A2, n2, c2, rfl⟩ := TrD.shape Dt6
  have HPt : ∀ tg, plainE ⟨(k : Int), sq, t, tg⟩ = 0 := fun tg => plain_mk (by omega) (by omega) s1 s2 vt dt zt
  have HPT := Lib.hid HPt
  clear HPt vt dt zt Dt S1 S2 S3 S4 S5 S6 F1 F2 F3 F4 F5 F6 K3 F03
  go_upto_region 4 with (fail)
  generalize hW : w6.alloc _ = w7
  have F7 : Fr none w6 w7 := hW ▸ (Fr.refl none w6).alloc _
  have bx : w7.heap[w6.heap.size]? = some (.cells #[.int .i64 th, .slice A1 n1 c1, .slice A2 n2 c2] 31 (0, 0)) := by rw [← hW]; exact blk_new _ _
  clear hW
  have T7 := T6.fr F7
  have E7 := E6.fr F7
  have t7 := TrR.fr Dt6 F7
  have K7 := K6.keep (fr_dm F7)
  have F07 := F06.pure F7
  have hlx := blk_lt bx
  clear Dt6 K6 F06 F7 T6 E6
  obtain ⟨bk, off, rfl, hbk, hcc⟩ : ∃ b off, A0 = some ⟨b, off, none⟩ ∧ b < w7.heap.size ∧ ∀ k (hk : k < ks.length), w7.cell? ⟨b, off + k, none⟩ = some (.int .u64 ((ks[k] : Nat) : Int)) := by
    obtain ⟨A, c, e0, _, _, h0⟩ := keys_open K7
    injection e0 with e1 _ _
    subst e1
    obtain ⟨b, off, h1, h2, h3⟩ := h0 (by omega)
    exact ⟨b, off, h1, h2.1, h3⟩
  have hkl : k < ks.length := by omega
  have hk0 := hcc k hkl
  obtain ⟨y, hy⟩ : ∃ y, y = ks[k] := ⟨_, rfl⟩
  rw [← hy] at hk0
  have hyl : y < 18446744073709551616 := by rw [hy]; exact HKS.out _ (List.getElem_mem _)
  have HY := Lib.hid hy
  have HYL := Lib.hid hyl
  clear hcc hy hyl
  have HTQ := Lib.hid (HPT.out 0)
  obtain ⟨ga, hga⟩ : ∃ ga, ga = tagS y (bytesS ⟨(k : Int), sq, t, 0⟩) := ⟨_, rfl⟩
  have HG := Lib.hid hga
  clear hga
  go_cut [8, 9, 28, 29, 30, 31, 32, 33, 34, 35, 36, 37, 38] (fun s8 s9 _ _ _ _ _ _ _ _ _ _ _ wr => Sg2 w7 ⟨(k : Int), sq, t, ga⟩ s8 wr ∧ s9 = .int .i64 0)
  case first =>
        refine wp_region_held_drew (S := fun W => W.cell? ⟨bk, off + k, none⟩ = some (.int .u64 (y : Int)) ∧ (∀ i, W.cell? ⟨w6.heap.size, i, none⟩ = (#[.int .i64 th, .slice A1 n1 c1, .slice A2 n2 c2] : Array Value)[i]?) ∧ Fr none w7 W) (by kernel_rfl) ⟨hk0, fun i => blk_cell bx i, (Fr.refl _ _).drew⟩ (fun hH0 => ?_)
        refine wpAnyH_take (i := 0) (v := ?_) rfl (by kernel_rfl) (by kernel_rfl) (by kernel_rfl) (fun _ _ _ h => h) (Or.inl ⟨by rfl, ?_⟩) (by assumption) ?_
        rotate_left
        · (intro W hW; (try dsimp only at hW); go_simp; try with_reducible rfl)
        try simp only [Act.put, List.setIfInBounds_toArray, List.set_cons_zero, List.set_cons_succ, List.getElem_toArray, List.getElem_cons_zero, List.getElem_cons_succ]
        refine wpAnyH_take (i := 1) (v := ?_) rfl (by kernel_rfl) (by kernel_rfl) (by kernel_rfl) (fun _ _ _ h => h) (Or.inl ⟨by rfl, ?_⟩) (by assumption) ?_
        rotate_left
        · (intro W hW; (try dsimp only at hW); go_simp; try with_reducible rfl)
        try simp only [Act.put, List.setIfInBounds_toArray, List.set_cons_zero, List.set_cons_succ, List.getElem_toArray, List.getElem_cons_zero, List.getElem_cons_succ]
        refine wpAnyH_take (i := 4) (v := ?_) rfl (by kernel_rfl) (by kernel_rfl) (by kernel_rfl) (fun _ _ _ h => h) (Or.inl ⟨by rfl, ?_⟩) (by assumption) ?_
        rotate_left
        · (intro W hW; (try dsimp only at hW); go_simp; try with_reducible rfl)
        try simp only [Act.put, List.setIfInBounds_toArray, List.set_cons_zero, List.set_cons_succ, List.getElem_toArray, List.getElem_cons_zero, List.getElem_cons_succ]
        refine wpAnyH_take (i := 5) (v := ?_) rfl (by kernel_rfl) (by kernel_rfl) (by kernel_rfl) (fun _ _ _ h => h) (Or.inl ⟨by rfl, ?_⟩) (by assumption) ?_
        rotate_left
        · (intro W hW; (try dsimp only at hW); go_simp; try with_reducible rfl)
        try simp only [Act.put, List.setIfInBounds_toArray, List.set_cons_zero, List.set_cons_succ, List.getElem_toArray, List.getElem_cons_zero, List.getElem_cons_succ]
        refine wpAnyH_take (i := 2) (v := ?_) rfl (by kernel_rfl) (by kernel_rfl) (by kernel_rfl) (fun _ _ _ h => h) (Or.inl ⟨by rfl, ?_⟩) (by assumption) ?_
        rotate_left
        · (intro W hW; (try dsimp only at hW); go_simp; try with_reducible rfl)
        try simp only [Act.put, List.setIfInBounds_toArray, List.set_cons_zero, List.set_cons_succ, List.getElem_toArray, List.getElem_cons_zero, List.getElem_cons_succ]
        refine wpAnyH_take (i := 3) (v := ?_) rfl (by kernel_rfl) (by kernel_rfl) (by kernel_rfl) (fun _ _ _ h => h) (Or.inl ⟨by rfl, ?_⟩) (by assumption) ?_
        rotate_left
        · (intro W hW; (try dsimp only at hW); go_simp; try with_reducible rfl)
        try simp only [Act.put, List.setIfInBounds_toArray, List.set_cons_zero, List.set_cons_succ, List.getElem_toArray, List.getElem_cons_zero, List.getElem_cons_succ]
        refine wpAnyH_take (i := 6) (v := ?_) rfl (by kernel_rfl) (by kernel_rfl) (by kernel_rfl) (fun _ _ _ h => h) (Or.inl ⟨by rfl, ?_⟩) (by assumption) ?_
        rotate_left
        · (intro W hW; (try dsimp only at hW); go_simp; try with_reducible rfl)
        try simp only [Act.put, List.setIfInBounds_toArray, List.set_cons_zero, List.set_cons_succ, List.getElem_toArray, List.getElem_cons_zero, List.getElem_cons_succ]
        have hwk : Wi (k : Int) := by constructor <;> omega
        have hw2 : Wi sq := by constructor <;> omega
        refine wpAnyH_ready (rs := [7, 11]) (by kernel_rfl) (by simp) ?_
        refine AllReadyH.cons rfl (fun K hK => ?_) (AllReadyH.cons rfl (fun K hK => ?_) AllReadyH.nil)
        · simp only [List.getElem_toArray, List.getElem_cons_zero, List.getElem_cons_succ]
          go_simp
          go_at_call 33
          refine (sign_fix2 y HYL.out k sq t ga HG _ _ none hwk hw2 (TrR.fr t7 hH0.2.2) (T7.fr hH0.2.2) HTQ.out).mono ?_
          rintro e wS ⟨vs, rfl, Ds, Fs⟩
          have Fs7 := hH0.2.2.pure Fs
          obtain ⟨ts, D1, d1, f1, D2, d2, f2, rfl, _, _, _, _⟩ := Ds.shape
          refine hK.out _ _ ⟨Fs7.keep hk0 (by simp), fun i => blk_cell (blk_fr bx Fs7 (by simp)) i, Fs7⟩ (fun hH1 => ?_)
          clear hK K
          try simp only [Act.put, List.setIfInBounds_toArray, List.set_cons_zero, List.set_cons_succ, List.getElem_toArray, List.getElem_cons_zero, List.getElem_cons_succ]
          refine wpAnyH_take (i := 8) (v := ?_) rfl (by kernel_rfl) (by kernel_rfl) (by kernel_rfl) (fun _ _ _ h => h) (Or.inl ⟨by rfl, ?_⟩) (by assumption) ?_
          rotate_left
          · (intro W hW; (try dsimp only at hW); go_simp; try with_reducible rfl)
          try simp only [Act.put, List.setIfInBounds_toArray, List.set_cons_zero, List.set_cons_succ, List.getElem_toArray, List.getElem_cons_zero, List.getElem_cons_succ]
          refine wpAnyH_take (i := 9) (v := ?_) rfl (by kernel_rfl) (by kernel_rfl) (by kernel_rfl) (fun _ _ _ h => h) (Or.inl ⟨by rfl, ?_⟩) (by assumption) ?_
          rotate_left
          · (intro W hW; (try dsimp only at hW); go_simp; try with_reducible rfl)
          try simp only [Act.put, List.setIfInBounds_toArray, List.set_cons_zero, List.set_cons_succ, List.getElem_toArray, List.getElem_cons_zero, List.getElem_cons_succ]
          refine wpAnyH_take (i := 10) (v := ?_) rfl (by kernel_rfl) (by kernel_rfl) (by kernel_rfl) (fun _ _ _ h => h) (Or.inl ⟨by rfl, ?_⟩) (by assumption) ?_
          rotate_left
          · (intro W hW; (try dsimp only at hW); go_simp; try with_reducible rfl)
          try simp only [Act.put, List.setIfInBounds_toArray, List.set_cons_zero, List.set_cons_succ, List.getElem_toArray, List.getElem_cons_zero, List.getElem_cons_succ]
          refine wpAnyH_ready (rs := [11]) (by kernel_rfl) (by simp) ?_
          refine AllReadyH.cons rfl (fun K hK => ?_) AllReadyH.nil
          simp only [List.getElem_toArray, List.getElem_cons_zero, List.getElem_cons_succ]
          go_simp
          have Fa7 := Fs7.alloc (.cells #[.int .i64 0, .int .i64 0, .int .i64 0, .slice none 0 0, .slice none 0 0, .int .u64 0] 61)
          refine hK.out _ _ ⟨Fa7.keep hk0 (by simp), fun i => blk_cell (blk_fr bx Fa7 (by simp)) i, Fa7⟩ (fun hH2 => ?_)
          clear hK K
          try simp only [Act.put, List.setIfInBounds_toArray, List.set_cons_zero, List.set_cons_succ, List.getElem_toArray, List.getElem_cons_zero, List.getElem_cons_succ]
          refine wpAnyH_ready (rs := [12]) (by kernel_rfl) (by simp) ?_
          refine AllReadyH.cons rfl (fun K hK => ?_) AllReadyH.nil
          simp only [List.getElem_toArray, List.getElem_cons_zero, List.getElem_cons_succ]
          go_simp
          have Fb7 := Fs7.alloc (.cells #[.int .i64 k, .int .i64 sq, .int .i64 ts, .slice D1 d1 f1, .slice D2 d2 f2, .int .u64 (ga : Int)] 61)
          refine hK.out _ _ ⟨Fb7.keep hk0 (by simp), fun i => blk_cell (blk_fr bx Fb7 (by simp)) i, Fb7⟩ (fun hH3 => ?_)
          clear hK K
          try simp only [Act.put, List.setIfInBounds_toArray, List.set_cons_zero, List.set_cons_succ, List.getElem_toArray, List.getElem_cons_zero, List.getElem_cons_succ]
          refine wpAnyH_take (i := 13) (v := ?_) rfl (by kernel_rfl) (by kernel_rfl) (by kernel_rfl) (fun _ _ _ h => h) (Or.inl ⟨by rfl, ?_⟩) (by assumption) ?_
          rotate_left
          · (intro W hW; (try dsimp only at hW); go_simp; try with_reducible rfl)
          try simp only [Act.put, List.setIfInBounds_toArray, List.set_cons_zero, List.set_cons_succ, List.getElem_toArray, List.getElem_cons_zero, List.getElem_cons_succ]
          refine wpAnyH_done (by kernel_rfl) ?_ _
          go_wp2_with fail
          go_meet
          exact ⟨⟨wS.heap.size, ts, D1, d1, f1, D2, d2, f2, rfl, Fs7.size, blk_new _ _, DeD.keep (fun q hq => ⟨⟨by have := hq.1; have := hH0.2.2.size; omega, by have := hq.2; simp; omega⟩, ((Fr.refl none wS).alloc _).block q hq.2 (by simp)⟩) Ds, Fb7⟩, rfl⟩
        · simp only [List.getElem_toArray, List.getElem_cons_zero, List.getElem_cons_succ]
          go_simp
          have Fa7 := hH0.2.2.alloc (.cells #[.int .i64 0, .int .i64 0, .int .i64 0, .slice none 0 0, .slice none 0 0, .int .u64 0] 61)
          refine hK.out _ _ ⟨Fa7.keep hk0 (by simp), fun i => blk_cell (blk_fr bx Fa7 (by simp)) i, Fa7⟩ (fun hH1 => ?_)
          clear hK K
          try simp only [Act.put, List.setIfInBounds_toArray, List.set_cons_zero, List.set_cons_succ, List.getElem_toArray, List.getElem_cons_zero, List.getElem_cons_succ]
          refine wpAnyH_ready (rs := [7]) (by kernel_rfl) (by simp) ?_
          refine AllReadyH.cons rfl (fun K hK => ?_) AllReadyH.nil
          simp only [List.getElem_toArray, List.getElem_cons_zero, List.getElem_cons_succ]
          go_simp
          go_at_call 33
          refine (sign_fix2 y HYL.out k sq t ga HG _ _ none hwk hw2 (TrR.fr t7 hH1.2.2) (T7.fr hH1.2.2) HTQ.out).mono ?_
          rintro e wS ⟨vs, rfl, Ds, Fs⟩
          have Fs7 := hH1.2.2.pure Fs
          obtain ⟨ts, D1, d1, f1, D2, d2, f2, rfl, _, _, _, _⟩ := Ds.shape
          refine hK.out _ _ ⟨Fs7.keep hk0 (by simp), fun i => blk_cell (blk_fr bx Fs7 (by simp)) i, Fs7⟩ (fun hH2 => ?_)
          clear hK K
          try simp only [Act.put, List.setIfInBounds_toArray, List.set_cons_zero, List.set_cons_succ, List.getElem_toArray, List.getElem_cons_zero, List.getElem_cons_succ]
          refine wpAnyH_take (i := 8) (v := ?_) rfl (by kernel_rfl) (by kernel_rfl) (by kernel_rfl) (fun _ _ _ h => h) (Or.inl ⟨by rfl, ?_⟩) (by assumption) ?_
          rotate_left
          · (intro W hW; (try dsimp only at hW); go_simp; try with_reducible rfl)
          try simp only [Act.put, List.setIfInBounds_toArray, List.set_cons_zero, List.set_cons_succ, List.getElem_toArray, List.getElem_cons_zero, List.getElem_cons_succ]
          refine wpAnyH_take (i := 9) (v := ?_) rfl (by kernel_rfl) (by kernel_rfl) (by kernel_rfl) (fun _ _ _ h => h) (Or.inl ⟨by rfl, ?_⟩) (by assumption) ?_
          rotate_left
          · (intro W hW; (try dsimp only at hW); go_simp; try with_reducible rfl)
          try simp only [Act.put, List.setIfInBounds_toArray, List.set_cons_zero, List.set_cons_succ, List.getElem_toArray, List.getElem_cons_zero, List.getElem_cons_succ]
          refine wpAnyH_take (i := 10) (v := ?_) rfl (by kernel_rfl) (by kernel_rfl) (by kernel_rfl) (fun _ _ _ h => h) (Or.inl ⟨by rfl, ?_⟩) (by assumption) ?_
          rotate_left
          · (intro W hW; (try dsimp only at hW); go_simp; try with_reducible rfl)
          try simp only [Act.put, List.setIfInBounds_toArray, List.set_cons_zero, List.set_cons_succ, List.getElem_toArray, List.getElem_cons_zero, List.getElem_cons_succ]
          have hzb : DB wS w7.heap.size (.int .i64 0) (.int .i64 0) (.int .i64 0) (.slice none 0 0) (.slice none 0 0) (.int .u64 0) := blk_fr (w := (w7.alloc (.cells #[.int .i64 0, .int .i64 0, .int .i64 0, .slice none 0 0, .slice none 0 0, .int .u64 0] 61)).drew) (r := none) (blk_new w7 _) Fs (by simp)
          have hsz : ∀ o : Obj, (w7.alloc o).drew.heap.size = w7.heap.size + 1 := fun o => by show (w7.alloc o).heap.size = _; simp
          have HSZ := Lib.hid hsz
          clear hsz
          have Rz := hzb.cell
          have Zz := hzb.free
          have HZ := Lib.hid hzb
          refine wpAnyH_ready (rs := [12]) (by kernel_rfl) (by simp) ?_
          refine AllReadyH.cons rfl (fun K hK => ?_) AllReadyH.nil
          simp only [List.getElem_toArray, List.getElem_cons_zero, List.getElem_cons_succ]
          go_simp
          have G := fr_fill6 wS w7.heap.size (.int .i64 k) (.int .i64 sq) (.int .i64 ts) (.slice D1 d1 f1) (.slice D2 d2 f2) (.int .u64 (ga : Int))
          have hzf := db_fill HZ.out (.int .i64 k) (.int .i64 sq) (.int .i64 ts) (.slice D1 d1 f1) (.slice D2 d2 f2) (.int .u64 (ga : Int))
          clear Rz Zz
          have Fb7 := Fs7.own G (by simp)
          refine hK.out _ _ ⟨Fb7.keep hk0 (by simp), fun i => blk_cell (blk_fr bx Fb7 (by simp)) i, Fb7⟩ (fun hH3 => ?_)
          clear hK K
          try simp only [Act.put, List.setIfInBounds_toArray, List.set_cons_zero, List.set_cons_succ, List.getElem_toArray, List.getElem_cons_zero, List.getElem_cons_succ]
          refine wpAnyH_take (i := 13) (v := ?_) rfl (by kernel_rfl) (by kernel_rfl) (by kernel_rfl) (fun _ _ _ h => h) (Or.inl ⟨by rfl, ?_⟩) (by assumption) ?_
          rotate_left
          · (intro W hW; (try dsimp only at hW); go_simp; try with_reducible rfl)
          try simp only [Act.put, List.setIfInBounds_toArray, List.set_cons_zero, List.set_cons_succ, List.getElem_toArray, List.getElem_cons_zero, List.getElem_cons_succ]
          refine wpAnyH_done (by kernel_rfl) ?_ _
          go_wp2_with fail
          go_meet
          exact ⟨⟨w7.heap.size, ts, D1, d1, f1, D2, d2, f2, rfl, Nat.le_refl _, hzf, DeD.keep (fun q hq => ⟨⟨by have := hq.1; rw [HSZ.out] at this; omega, Nat.lt_of_lt_of_le hq.2 G.size⟩, G.block q hq.2 (by have := hq.1; rw [HSZ.out] at this; simp; omega)⟩) Ds, Fb7⟩, rfl⟩
  case rest =>
    obtain ⟨⟨ba, ta, D1, d1, f1, D2, d2, f2, rfl, hba, B8, Da8, F8⟩, rfl⟩ := hcut
    obtain ⟨w8, hw8⟩ : ∃ w8, w8 = wc := ⟨_, rfl⟩
    subst hw8
    have hgl : ga < 18446744073709551616 := by rw [HG.out]; exact tagS_lt _ _
    have bx8 := blk_fr bx F8 (by simp)
    have t8 := t7.fr F8
    have T8 := T7.fr F8
    have E8 := E7.fr F8
    have K8 := K7.keep (fr_dm F8)
    have F08 := F07.pure F8
    have Da : DeD w8 (Dm w8 none) _ _ := DeD.keep (fun q hq => ⟨⟨hq.2, by simp⟩, rfl⟩) Da8
    have tta : TrR w8 none (.agg #[.int .i64 ta, .slice D1 d1 f1, .slice D2 d2 f2]) t := by
      obtain ⟨a, b, c, e, h, _⟩ := Da
      simp only [Value.agg.injEq, Array.mk.injEq, List.cons.injEq, and_true] at e
      rcases e with ⟨-, -, e1, rfl, rfl⟩
      rw [e1]
      exact h
    have hp8 := HPT.out ga
    have hchk : chkE ks ⟨(k : Int), sq, t, ga⟩ = 0 := by
      unfold chkE
      have hy0 : ks.getD k 0 = y := by rw [HY.out]; simp [List.getD_eq_getElem?_getD, hkl]
      rw [if_neg (by simp; omega), if_pos]
      simp only [Int.toNat_natCast]
      rw [hy0, bytes_tag (k : Int) sq t ga 0]
      exact HG.out
    have hsm : sameT t t = true := (sameT_iff _ _).2 rfl
    have HP8 := Lib.hid hp8
    have HCH := Lib.hid hchk
    have HSM := Lib.hid hsm
    have R8 := DB.cell B8
    have HB8 := Lib.hid B8
    clear hp8 hchk hsm B8 bx t7 T7 E7 K7 F07 hk0 Da8 F8
    go_wp2_with fail
    refine (dtext_any ⟨(k : Int), sq, t, ga⟩ _ _ none Da HP8.out T8 E8).mono ?_
    rintro e w9 ⟨X, rfl, hX, hXs, F9⟩
    have HX := Lib.hid hX
    clear hX R8
    go_wp2_with fail
    refine (dparse_any ⟨(k : Int), sq, t, ga⟩ X _ (by rw [HX.out, bs_list]) HP8.out hgl (T8.fr F9) (E8.fr F9)).mono ?_
    rintro e wa ⟨vb, rfl, Db, Fa⟩
    obtain ⟨tb, P1, p1, q1, P2, p2, q2, rfl, _, _, _, _⟩ := Db.shape
    have F8a := F9.pure Fa
    have Bda := DB.fr HB8.out F8a (by simp)
    have Rda := Bda.cell
    have hla := blk_lt Bda
    have bxa := blk_fr bx8 F8a (by simp)
    have Rxa := blk_cell bxa
    have hlx' := blk_lt bxa
    have ttaa := tta.fr F8a
    have t8a := t8.fr F8a
    have Fb := (Fr.refl none wa).alloc (.cells #[.int .i64 (k : Int), .int .i64 sq, .int .i64 tb, .slice P1 p1 q1, .slice P2 p2 q2, .int .u64 (ga : Int)] 61)
    go_wp2_with fail
    generalize hW : wa.alloc _ = wb at *
    have Bbb : DB wb wa.heap.size (.int .i64 (k : Int)) (.int .i64 sq) (.int .i64 tb) (.slice P1 p1 q1) (.slice P2 p2 q2) (.int .u64 (ga : Int)) := by rw [← hW]; exact blk_new _ _
    clear hW
    have F8b := F8a.pure Fb
    refine (rsame_any t.dep t t _ _ _ none (Nat.le_refl _) (ttaa.fr Fb) (t8a.fr Fb)).mono ?_
    rintro e wc ⟨rfl, Fc⟩
    rw [HSM.out]
    have F8c := F8b.pure Fc
    have Rdc := (DB.fr HB8.out F8c (by simp)).cell
    clear Rda Rxa bxa
    go_wp2_with fail
    refine (check_any ks _ ⟨(k : Int), sq, t, ga⟩ _ _ none HKS.out (K8.keep (fr_dm F8c)) (Da.keep (fr_dm F8c)) HP8.out (T8.fr F8c)).mono ?_
    rintro e wd ⟨rfl, Fd⟩
    rw [HCH.out]
    have F8d := F8c.pure Fd
    have Rdd := (DB.fr HB8.out F8d (by simp)).cell
    clear Rdc
    go_wp2_with fail
    refine (rchk7_any ks _ ⟨(k : Int), sq, t, ga⟩ _ _ none HKS.out (K8.keep (fr_dm F8d)) (Da.keep (fr_dm F8d)) HP8.out (T8.fr F8d)).mono ?_
    rintro e we ⟨rfl, Fe⟩
    rw [HCH.out]
    have F8e := F8d.pure Fe
    have Rde := (DB.fr HB8.out F8e (by simp)).cell
    have Fbe := (Fc.pure Fd).pure Fe
    have Rbe := (Bbb.fr Fbe (by simp)).cell
    clear Rdd
    have Dbe := Db.keep (dn_dm (r := none) (by simp)) |>.keep (fr_dm (Fb.pure Fbe))
    go_wp2_with fail
    refine (rsame7_any ⟨(k : Int), sq, t, ga⟩ ⟨(k : Int), sq, t, ga⟩ _ _ _ none Dbe (Da.keep (fr_dm F8e)) rfl).mono ?_
    rintro e wf ⟨rfl, Ff⟩
    have F8f := F8e.pure Ff
    go_wp2_with fail
    refine (awake7_any _ (T8.fr F8f)).mono ?_
    rintro e wg ⟨rfl, Fg⟩
    go_wp2_with fail
    go_ret
    exact ⟨rfl, (F08.pure F8f).pure Fg⟩
end Go.Proofs.YtpdhckbiioobhaaGreatDoor

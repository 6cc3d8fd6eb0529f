/- The law DeclarationProves: its walk. -/
import Derived.Test.YtidnnjgiogklaaaDoorProg
import Derived.Test.YtidnnjgiogklaaaDoorPrvP
import Derived.Test.YtidnnjgiogklaaaDoorSignW
import Derived.Test.YtidnnjgiogklaaaDoorSameW
import Derived.Test.YtidnnjgiogklaaaDoorAwake7
namespace Go.Proofs.YtidnnjgiogklaaaDoor
open Go.RowKit

def SignQ (w : World) (d : De) (e : Ending) (w' : World) : Prop := ∃ v, e = .returned (.tuple #[v, .int .i64 0]) ∧ DeD w' (Dn w.heap.size w') v d ∧ Fr none w w'
theorem sign_fix (k : Nat) (hk : k < 18446744073709551616) (nd sq : Int) (t : Tr) (G : Nat) (hG : Hid (G = tagS k (bytesS ⟨nd, sq, t, 0⟩))) (v : Value) (w : World) (r : Option Nat) (hn : Wi nd) (hq : Wi sq) (h : TrR w r v t) (hT : Tab w) (hp : plainE ⟨nd, sq, t, 0⟩ = 0) :
    Calls Tryd.prog 26 #[.int .u64 k, .int .i64 nd, .int .i64 sq, v] w (SignQ w ⟨nd, sq, t, G⟩) :=
  (sign_any k hk nd sq t v w r hn hq h hT hp).mono fun e w' ⟨v', he, hD, F⟩ => by
    rw [hG.out]
    exact ⟨v', he, hD, F⟩
theorem proves_fix (ks : List Nat) (kv : Value) (a b : De) (X : Int) (hX : Hid (X = provE ks a b)) (th th' : Int) (A1 A2 a1 a2 : Option Addr) (n1 c1 n2 c2 m1 e1 m2 e2 : Nat) (w : World) (hks : ∀ y ∈ ks, y < 18446744073709551616) (hkv : SlD w (Dm w none) 1 kv (ks.map u64v))
    (ha : DeD w (Dm w none) (.agg #[.int .i64 a.node, .int .i64 a.seq, .int .i64 th, .slice A1 n1 c1, .slice A2 n2 c2, .int .u64 (a.tag : Int)]) a) (hb : DeD w (Dm w none) (.agg #[.int .i64 b.node, .int .i64 b.seq, .int .i64 th', .slice a1 m1 e1, .slice a2 m2 e2, .int .u64 (b.tag : Int)]) b) (hpa : plainE a = 0) (hpb : plainE b = 0) (hT : Tab w) :
    Calls Tryd.prog 27 #[kv, .agg #[.int .i64 a.node, .int .i64 a.seq, .int .i64 th, .slice A1 n1 c1, .slice A2 n2 c2, .int .u64 (a.tag : Int), .int .i64 b.node, .int .i64 b.seq, .int .i64 th', .slice a1 m1 e1, .slice a2 m2 e2, .int .u64 (b.tag : Int)]] w fun e w' => e = .returned (.int .i64 X) ∧ Fr none w w' := by
  rw [hX.out]
  exact proves_any ks kv a b th th' A1 A2 a1 a2 n1 c1 n2 c2 m1 e1 m2 e2 w hks hkv ha hb hpa hpb hT
/-- A slot that points to a signed declaration, laid since w0. -/
def Sg (w0 : World) (d : De) (s : Value) (w : World) : Prop := ∃ (ba : Nat) (ts : Int) (D1 : Option Addr) (d1 f1 : Nat) (D2 : Option Addr) (d2 f2 : Nat), s = .pointer (some ⟨ba, 0, none⟩) ∧ w0.heap.size ≤ ba ∧
  DB w ba (.int .i64 d.node) (.int .i64 d.seq) (.int .i64 ts) (.slice D1 d1 f1) (.slice D2 d2 f2) (.int .u64 (d.tag : Int)) ∧ DeD w (fun q => w0.heap.size ≤ q ∧ q < w.heap.size) (.agg #[.int .i64 d.node, .int .i64 d.seq, .int .i64 ts, .slice D1 d1 f1, .slice D2 d2 f2, .int .u64 (d.tag : Int)]) d ∧ Fr none w0 w

set_option maxRecDepth 100000 in
set_option maxHeartbeats 4000000 in
theorem law07p_any (v : Value) (l : List Int) (w : World) (hl : SlI w none v l) (hT : Tab w) : Calls Tryd.prog 5 #[v] w fun e w' => e = .returned (.bool true) ∧ Fr none w w' := by
  go_enter Tryd.func5, Tryd.ntmps5
  go_wp2_with fail
  refine (tapeNew_any _ _ _ hl).mono ?_
  rintro e w1 ⟨g, rfl, hg, S1, F1⟩
  have T1 := hT.fr F1
  clear hl
  go_wp2_with fail
  refine (tapeRange_any 1 10 g _ (by omega) (by omega) (by omega) S1).mono ?_
  rintro e w2 ⟨x, rfl, x1, x2, S2, F2⟩
  obtain ⟨n, rfl⟩ := Int.eq_ofNat_of_zero_le (show 0 ≤ x by omega)
  have T2 := T1.src S1 F2
  go_wp2_with fail
  refine (keys_any n g _ (by omega) S2).mono ?_
  rintro e w3 ⟨kv, ks, rfl, hkl, hks, D3, S3, F3⟩
  subst hkl
  have T3 := T2.src S2 F3
  have g2 := S2.lt
  have K3 : SlD w3 (Dm w3 (some g)) 1 kv (ks.map u64v) := D3.keep (dn_dm (by simp; omega))
  have HKS := Lib.hid hks
  have F03 := F1.own (F2.same F3) (fun q hq => by injection hq with hq; omega)
  clear hks D3
  obtain ⟨A0, c0, rfl, kq1, kq2, _⟩ := keys_open K3
  go_wp2_with fail
  refine (tapeN_any ks.length g _ (by omega) (by omega) S3).mono ?_
  rintro e w4 ⟨k, rfl, k1, k2, S4, F4⟩
  obtain ⟨k, rfl⟩ := Int.eq_ofNat_of_zero_le k1
  have T4 := T3.src S3 F4
  go_wp2_with fail
  refine (declared_any ks.length g _ (by omega) (by omega) S4).mono ?_
  rintro e w5 ⟨vx, t, rfl, Dt, vt, dt, zt, S5, F5⟩
  have T5 := T4.src S4 F5
  go_wp2_with fail
  refine (declared_any ks.length g _ (by omega) (by omega) S5).mono ?_
  rintro e w6 ⟨vy, u, rfl, Du, vu, du, zu, S6, F6⟩
  have T6 := T5.src S5 F6
  have g4 := S4.lt
  have g5 := S5.lt
  have y3 := F4.size
  have y4 := F5.size
  have y5 := F6.size
  have Du6 : TrR w6 none vy u := TrD.keep (dn_dm (by simp)) _ _ Du
  have Dt6 : TrR w6 none vx t := TrD.keep (dn_dm (by simp)) _ _ (TrD.keep (dn_fr F6 (by simp; omega)) _ _ Dt)
  have K6 : SlD w6 (Dm w6 none) 1 (.slice A0 ks.length c0) (ks.map u64v) := (((K3.keep (fr_dm F4)).keep (fr_dm F5)).keep (fr_dm F6)).keep dm_none
  have F06 := ((F03.own F4 (fun q hq => by injection hq with hq; omega)).own F5 (fun q hq => by injection hq with hq; omega)).own F6 (fun q hq => by injection hq with hq; omega)
  obtain ⟨th, A1, n1, c1, A2, n2, c2, rfl⟩ := TrD.shape Dt6
  obtain ⟨th', a1, m1, e1, a2, m2, e2, rfl⟩ := TrD.shape Du6
  have HPt : ∀ sq : Int, 1 ≤ sq → sq ≤ 30 → plainE ⟨(k : Int), sq, t, 0⟩ = 0 := fun sq s1 s2 => plain_mk (by omega) (by omega) s1 s2 vt dt zt
  have HPu : ∀ sq : Int, 1 ≤ sq → sq ≤ 30 → plainE ⟨(k : Int), sq, u, 0⟩ = 0 := fun sq s1 s2 => plain_mk (by omega) (by omega) s1 s2 vu du zu
  have HPT := Lib.hid HPt
  have HPU := Lib.hid HPu
  clear HPt HPu vt vu dt du zt zu Dt Du S1 S2 S3 S4 S5 S6 F1 F2 F3 F4 F5 F6 K3 T1 T2 T3 T4 T5 F03
  go_upto_region 5 with (fail)
  generalize hW : (w6.alloc _).alloc _ = w7
  have F7 : Fr none w6 w7 := hW ▸ ((Fr.refl none w6).alloc _).alloc _
  have bx : w7.heap[w6.heap.size]? = some (.cells #[.int .i64 th, .slice A1 n1 c1, .slice A2 n2 c2] 27 (0, 0)) := by rw [← hW]; exact (Below.heap_alloc _ _ _ (by simp)).trans (blk_new _ _)
  have bY : w7.heap[w6.heap.size + 1]? = some (.cells #[.int .i64 th', .slice a1 m1 e1, .slice a2 m2 e2] 27 (0, 0)) := by rw [← hW]; exact blk_new_at (by simp) _
  clear hW
  have T7 := T6.fr F7
  have t7 := TrR.fr Dt6 F7
  have u7 := TrR.fr Du6 F7
  have K7 := K6.keep (fr_dm F7)
  have F07 := F06.pure F7
  have hlx := blk_lt bx
  have hly := blk_lt bY
  clear Dt6 Du6 K6 F06 F7 T6
  obtain ⟨bk, off, rfl, hbk, hcc⟩ : ∃ b off, A0 = some ⟨b, off, none⟩ ∧ b < w7.heap.size ∧ ∀ k (hk : k < ks.length), w7.cell? ⟨b, off + k, none⟩ = some (.int .u64 ((ks[k] : Nat) : Int)) := by
    obtain ⟨A, c, e0, _, _, h0⟩ := keys_open K7
    injection e0 with e1 _ _
    subst e1
    obtain ⟨b, off, h1, h2, h3⟩ := h0 (by omega)
    exact ⟨b, off, h1, h2.1, h3⟩
  have hkl : k < ks.length := by omega
  have hk0 := hcc k hkl
  obtain ⟨y, hy⟩ : ∃ y, y = ks[k] := ⟨_, rfl⟩
  rw [← hy] at hk0
  have hyl : y < 18446744073709551616 := by rw [hy]; exact HKS.out _ (List.getElem_mem _)
  have HY := Lib.hid hy
  have HYL := Lib.hid hyl
  clear hcc hy hyl
  have HTQ := Lib.hid (HPT.out 2 (by omega) (by omega))
  obtain ⟨ga, hga⟩ : ∃ ga, ga = tagS y (bytesS ⟨(k : Int), 2, t, 0⟩) := ⟨_, rfl⟩
  have HG := Lib.hid hga
  clear hga
  go_cut [8, 9, 34, 35, 36, 37, 38, 39, 40, 41, 42, 43] (fun s8 s9 _ _ _ _ _ _ _ _ _ _ wr => Sg w7 ⟨(k : Int), 2, t, ga⟩ s8 wr ∧ s9 = .int .i64 0)
  case first =>
        refine wp_region_held_drew (S := fun W => W.cell? ⟨bk, off + k, none⟩ = some (.int .u64 (y : Int)) ∧ (∀ i, W.cell? ⟨w6.heap.size, i, none⟩ = (#[.int .i64 th, .slice A1 n1 c1, .slice A2 n2 c2] : Array Value)[i]?) ∧ Fr none w7 W) (by kernel_rfl) ⟨hk0, fun i => blk_cell bx i, (Fr.refl _ _).drew⟩ (fun hH0 => ?_)
        refine wpAnyH_take (i := 0) (v := ?_) rfl (by kernel_rfl) (by kernel_rfl) (by kernel_rfl) (fun _ _ _ h => h) (Or.inl ⟨by rfl, ?_⟩) (by assumption) ?_
        rotate_left
        · (intro W hW; (try dsimp only at hW); go_simp; try with_reducible rfl)
        try simp only [Act.put, List.setIfInBounds_toArray, List.set_cons_zero, List.set_cons_succ, List.getElem_toArray, List.getElem_cons_zero, List.getElem_cons_succ]
        refine wpAnyH_take (i := 1) (v := ?_) rfl (by kernel_rfl) (by kernel_rfl) (by kernel_rfl) (fun _ _ _ h => h) (Or.inl ⟨by rfl, ?_⟩) (by assumption) ?_
        rotate_left
        · (intro W hW; (try dsimp only at hW); go_simp; try with_reducible rfl)
        try simp only [Act.put, List.setIfInBounds_toArray, List.set_cons_zero, List.set_cons_succ, List.getElem_toArray, List.getElem_cons_zero, List.getElem_cons_succ]
        refine wpAnyH_take (i := 4) (v := ?_) rfl (by kernel_rfl) (by kernel_rfl) (by kernel_rfl) (fun _ _ _ h => h) (Or.inl ⟨by rfl, ?_⟩) (by assumption) ?_
        rotate_left
        · (intro W hW; (try dsimp only at hW); go_simp; try with_reducible rfl)
        try simp only [Act.put, List.setIfInBounds_toArray, List.set_cons_zero, List.set_cons_succ, List.getElem_toArray, List.getElem_cons_zero, List.getElem_cons_succ]
        refine wpAnyH_take (i := 2) (v := ?_) rfl (by kernel_rfl) (by kernel_rfl) (by kernel_rfl) (fun _ _ _ h => h) (Or.inl ⟨by rfl, ?_⟩) (by assumption) ?_
        rotate_left
        · (intro W hW; (try dsimp only at hW); go_simp; try with_reducible rfl)
        try simp only [Act.put, List.setIfInBounds_toArray, List.set_cons_zero, List.set_cons_succ, List.getElem_toArray, List.getElem_cons_zero, List.getElem_cons_succ]
        refine wpAnyH_take (i := 3) (v := ?_) rfl (by kernel_rfl) (by kernel_rfl) (by kernel_rfl) (fun _ _ _ h => h) (Or.inl ⟨by rfl, ?_⟩) (by assumption) ?_
        rotate_left
        · (intro W hW; (try dsimp only at hW); go_simp; try with_reducible rfl)
        try simp only [Act.put, List.setIfInBounds_toArray, List.set_cons_zero, List.set_cons_succ, List.getElem_toArray, List.getElem_cons_zero, List.getElem_cons_succ]
        refine wpAnyH_take (i := 5) (v := ?_) rfl (by kernel_rfl) (by kernel_rfl) (by kernel_rfl) (fun _ _ _ h => h) (Or.inl ⟨by rfl, ?_⟩) (by assumption) ?_
        rotate_left
        · (intro W hW; (try dsimp only at hW); go_simp; try with_reducible rfl)
        try simp only [Act.put, List.setIfInBounds_toArray, List.set_cons_zero, List.set_cons_succ, List.getElem_toArray, List.getElem_cons_zero, List.getElem_cons_succ]
        have hwk : Wi (k : Int) := by constructor <;> omega
        have hw2 : Wi 2 := by constructor <;> omega
        refine wpAnyH_ready (rs := [6, 10]) (by kernel_rfl) (by simp) ?_
        refine AllReadyH.cons rfl (fun K hK => ?_) (AllReadyH.cons rfl (fun K hK => ?_) AllReadyH.nil)
        · simp only [List.getElem_toArray, List.getElem_cons_zero, List.getElem_cons_succ]
          go_simp
          go_at_call 26
          refine (sign_fix y HYL.out k 2 t ga HG _ _ none hwk hw2 (TrR.fr t7 hH0.2.2) (T7.fr hH0.2.2) HTQ.out).mono ?_
          rintro e wS ⟨vs, rfl, Ds, Fs⟩
          have Fs7 := hH0.2.2.pure Fs
          obtain ⟨ts, D1, d1, f1, D2, d2, f2, rfl, _, _, _, _⟩ := Ds.shape
          refine hK.out _ _ ⟨Fs7.keep hk0 (by simp), fun i => blk_cell (blk_fr bx Fs7 (by simp)) i, Fs7⟩ (fun hH1 => ?_)
          clear hK K
          try simp only [Act.put, List.setIfInBounds_toArray, List.set_cons_zero, List.set_cons_succ, List.getElem_toArray, List.getElem_cons_zero, List.getElem_cons_succ]
          refine wpAnyH_take (i := 7) (v := ?_) rfl (by kernel_rfl) (by kernel_rfl) (by kernel_rfl) (fun _ _ _ h => h) (Or.inl ⟨by rfl, ?_⟩) (by assumption) ?_
          rotate_left
          · (intro W hW; (try dsimp only at hW); go_simp; try with_reducible rfl)
          try simp only [Act.put, List.setIfInBounds_toArray, List.set_cons_zero, List.set_cons_succ, List.getElem_toArray, List.getElem_cons_zero, List.getElem_cons_succ]
          refine wpAnyH_take (i := 8) (v := ?_) rfl (by kernel_rfl) (by kernel_rfl) (by kernel_rfl) (fun _ _ _ h => h) (Or.inl ⟨by rfl, ?_⟩) (by assumption) ?_
          rotate_left
          · (intro W hW; (try dsimp only at hW); go_simp; try with_reducible rfl)
          try simp only [Act.put, List.setIfInBounds_toArray, List.set_cons_zero, List.set_cons_succ, List.getElem_toArray, List.getElem_cons_zero, List.getElem_cons_succ]
          refine wpAnyH_take (i := 9) (v := ?_) rfl (by kernel_rfl) (by kernel_rfl) (by kernel_rfl) (fun _ _ _ h => h) (Or.inl ⟨by rfl, ?_⟩) (by assumption) ?_
          rotate_left
          · (intro W hW; (try dsimp only at hW); go_simp; try with_reducible rfl)
          try simp only [Act.put, List.setIfInBounds_toArray, List.set_cons_zero, List.set_cons_succ, List.getElem_toArray, List.getElem_cons_zero, List.getElem_cons_succ]
          refine wpAnyH_ready (rs := [10]) (by kernel_rfl) (by simp) ?_
          refine AllReadyH.cons rfl (fun K hK => ?_) AllReadyH.nil
          simp only [List.getElem_toArray, List.getElem_cons_zero, List.getElem_cons_succ]
          go_simp
          have Fa7 := Fs7.alloc (.cells #[.int .i64 0, .int .i64 0, .int .i64 0, .slice none 0 0, .slice none 0 0, .int .u64 0] 43)
          refine hK.out _ _ ⟨Fa7.keep hk0 (by simp), fun i => blk_cell (blk_fr bx Fa7 (by simp)) i, Fa7⟩ (fun hH2 => ?_)
          clear hK K
          try simp only [Act.put, List.setIfInBounds_toArray, List.set_cons_zero, List.set_cons_succ, List.getElem_toArray, List.getElem_cons_zero, List.getElem_cons_succ]
          refine wpAnyH_ready (rs := [11]) (by kernel_rfl) (by simp) ?_
          refine AllReadyH.cons rfl (fun K hK => ?_) AllReadyH.nil
          simp only [List.getElem_toArray, List.getElem_cons_zero, List.getElem_cons_succ]
          go_simp
          have Fb7 := Fs7.alloc (.cells #[.int .i64 k, .int .i64 2, .int .i64 ts, .slice D1 d1 f1, .slice D2 d2 f2, .int .u64 (ga : Int)] 43)
          refine hK.out _ _ ⟨Fb7.keep hk0 (by simp), fun i => blk_cell (blk_fr bx Fb7 (by simp)) i, Fb7⟩ (fun hH3 => ?_)
          clear hK K
          try simp only [Act.put, List.setIfInBounds_toArray, List.set_cons_zero, List.set_cons_succ, List.getElem_toArray, List.getElem_cons_zero, List.getElem_cons_succ]
          refine wpAnyH_take (i := 12) (v := ?_) rfl (by kernel_rfl) (by kernel_rfl) (by kernel_rfl) (fun _ _ _ h => h) (Or.inl ⟨by rfl, ?_⟩) (by assumption) ?_
          rotate_left
          · (intro W hW; (try dsimp only at hW); go_simp; try with_reducible rfl)
          try simp only [Act.put, List.setIfInBounds_toArray, List.set_cons_zero, List.set_cons_succ, List.getElem_toArray, List.getElem_cons_zero, List.getElem_cons_succ]
          refine wpAnyH_done (by kernel_rfl) ?_ _
          go_wp2_with fail
          go_meet
          exact ⟨⟨wS.heap.size, ts, D1, d1, f1, D2, d2, f2, rfl, Fs7.size, blk_new _ _, DeD.keep (fun q hq => ⟨⟨by have := hq.1; have := hH0.2.2.size; omega, by have := hq.2; simp; omega⟩, ((Fr.refl none wS).alloc _).block q hq.2 (by simp)⟩) Ds, Fb7⟩, rfl⟩
        · simp only [List.getElem_toArray, List.getElem_cons_zero, List.getElem_cons_succ]
          go_simp
          have Fa7 := hH0.2.2.alloc (.cells #[.int .i64 0, .int .i64 0, .int .i64 0, .slice none 0 0, .slice none 0 0, .int .u64 0] 43)
          refine hK.out _ _ ⟨Fa7.keep hk0 (by simp), fun i => blk_cell (blk_fr bx Fa7 (by simp)) i, Fa7⟩ (fun hH1 => ?_)
          clear hK K
          try simp only [Act.put, List.setIfInBounds_toArray, List.set_cons_zero, List.set_cons_succ, List.getElem_toArray, List.getElem_cons_zero, List.getElem_cons_succ]
          refine wpAnyH_ready (rs := [6]) (by kernel_rfl) (by simp) ?_
          refine AllReadyH.cons rfl (fun K hK => ?_) AllReadyH.nil
          simp only [List.getElem_toArray, List.getElem_cons_zero, List.getElem_cons_succ]
          go_simp
          go_at_call 26
          refine (sign_fix y HYL.out k 2 t ga HG _ _ none hwk hw2 (TrR.fr t7 hH1.2.2) (T7.fr hH1.2.2) HTQ.out).mono ?_
          rintro e wS ⟨vs, rfl, Ds, Fs⟩
          have Fs7 := hH1.2.2.pure Fs
          obtain ⟨ts, D1, d1, f1, D2, d2, f2, rfl, _, _, _, _⟩ := Ds.shape
          refine hK.out _ _ ⟨Fs7.keep hk0 (by simp), fun i => blk_cell (blk_fr bx Fs7 (by simp)) i, Fs7⟩ (fun hH2 => ?_)
          clear hK K
          try simp only [Act.put, List.setIfInBounds_toArray, List.set_cons_zero, List.set_cons_succ, List.getElem_toArray, List.getElem_cons_zero, List.getElem_cons_succ]
          refine wpAnyH_take (i := 7) (v := ?_) rfl (by kernel_rfl) (by kernel_rfl) (by kernel_rfl) (fun _ _ _ h => h) (Or.inl ⟨by rfl, ?_⟩) (by assumption) ?_
          rotate_left
          · (intro W hW; (try dsimp only at hW); go_simp; try with_reducible rfl)
          try simp only [Act.put, List.setIfInBounds_toArray, List.set_cons_zero, List.set_cons_succ, List.getElem_toArray, List.getElem_cons_zero, List.getElem_cons_succ]
          refine wpAnyH_take (i := 8) (v := ?_) rfl (by kernel_rfl) (by kernel_rfl) (by kernel_rfl) (fun _ _ _ h => h) (Or.inl ⟨by rfl, ?_⟩) (by assumption) ?_
          rotate_left
          · (intro W hW; (try dsimp only at hW); go_simp; try with_reducible rfl)
          try simp only [Act.put, List.setIfInBounds_toArray, List.set_cons_zero, List.set_cons_succ, List.getElem_toArray, List.getElem_cons_zero, List.getElem_cons_succ]
          refine wpAnyH_take (i := 9) (v := ?_) rfl (by kernel_rfl) (by kernel_rfl) (by kernel_rfl) (fun _ _ _ h => h) (Or.inl ⟨by rfl, ?_⟩) (by assumption) ?_
          rotate_left
          · (intro W hW; (try dsimp only at hW); go_simp; try with_reducible rfl)
          try simp only [Act.put, List.setIfInBounds_toArray, List.set_cons_zero, List.set_cons_succ, List.getElem_toArray, List.getElem_cons_zero, List.getElem_cons_succ]
          have hzb : DB wS w7.heap.size (.int .i64 0) (.int .i64 0) (.int .i64 0) (.slice none 0 0) (.slice none 0 0) (.int .u64 0) := blk_fr (w := (w7.alloc (.cells #[.int .i64 0, .int .i64 0, .int .i64 0, .slice none 0 0, .slice none 0 0, .int .u64 0] 43)).drew) (r := none) (blk_new w7 _) Fs (by simp)
          have hsz : ∀ o : Obj, (w7.alloc o).drew.heap.size = w7.heap.size + 1 := fun o => by show (w7.alloc o).heap.size = _; simp
          have HSZ := Lib.hid hsz
          clear hsz
          have Rz := hzb.cell
          have Zz := hzb.free
          have HZ := Lib.hid hzb
          refine wpAnyH_ready (rs := [11]) (by kernel_rfl) (by simp) ?_
          refine AllReadyH.cons rfl (fun K hK => ?_) AllReadyH.nil
          simp only [List.getElem_toArray, List.getElem_cons_zero, List.getElem_cons_succ]
          go_simp
          have G := fr_fill6 wS w7.heap.size (.int .i64 k) (.int .i64 2) (.int .i64 ts) (.slice D1 d1 f1) (.slice D2 d2 f2) (.int .u64 (ga : Int))
          have hzf := db_fill HZ.out (.int .i64 k) (.int .i64 2) (.int .i64 ts) (.slice D1 d1 f1) (.slice D2 d2 f2) (.int .u64 (ga : Int))
          clear Rz Zz
          have Fb7 := Fs7.own G (by simp)
          refine hK.out _ _ ⟨Fb7.keep hk0 (by simp), fun i => blk_cell (blk_fr bx Fb7 (by simp)) i, Fb7⟩ (fun hH3 => ?_)
          clear hK K
          try simp only [Act.put, List.setIfInBounds_toArray, List.set_cons_zero, List.set_cons_succ, List.getElem_toArray, List.getElem_cons_zero, List.getElem_cons_succ]
          refine wpAnyH_take (i := 12) (v := ?_) rfl (by kernel_rfl) (by kernel_rfl) (by kernel_rfl) (fun _ _ _ h => h) (Or.inl ⟨by rfl, ?_⟩) (by assumption) ?_
          rotate_left
          · (intro W hW; (try dsimp only at hW); go_simp; try with_reducible rfl)
          try simp only [Act.put, List.setIfInBounds_toArray, List.set_cons_zero, List.set_cons_succ, List.getElem_toArray, List.getElem_cons_zero, List.getElem_cons_succ]
          refine wpAnyH_done (by kernel_rfl) ?_ _
          go_wp2_with fail
          go_meet
          exact ⟨⟨w7.heap.size, ts, D1, d1, f1, D2, d2, f2, rfl, Nat.le_refl _, hzf, DeD.keep (fun q hq => ⟨⟨by have := hq.1; rw [HSZ.out] at this; omega, Nat.lt_of_lt_of_le hq.2 G.size⟩, G.block q hq.2 (by have := hq.1; rw [HSZ.out] at this; simp; omega)⟩) Ds, Fb7⟩, rfl⟩
  case rest =>
    obtain ⟨⟨ba, ta, D1, d1, f1, D2, d2, f2, rfl, hba, B8, Da8, F8⟩, rfl⟩ := hcut
    obtain ⟨w8, hw8⟩ : ∃ w8, w8 = wc := ⟨_, rfl⟩
    subst hw8
    have hk8 := F8.keep hk0 (by simp)
    have by8 := blk_fr bY F8 (by simp)
    have bx8 := blk_fr bx F8 (by simp)
    have u8 := u7.fr F8
    have t8 := t7.fr F8
    have T8 := T7.fr F8
    clear HTQ
    have HTQ := Lib.hid (HPU.out 2 (by omega) (by omega))
    clear hk0
    have K8 := K7.keep (fr_dm F8)
    have HGa : Hid (ga = tagS y (bytesS ⟨(k : Int), 2, t, 0⟩)) := HG
    clear HG
    obtain ⟨gb, hgb⟩ : ∃ gb, gb = tagS y (bytesS ⟨(k : Int), 2, u, 0⟩) := ⟨_, rfl⟩
    have HG := Lib.hid hgb
    clear hgb bx bY t7 u7 T7 K7
    go_upto_region 6 with (fail)
    go_cut [10, 11, 44, 45, 46, 47, 48, 49, 50, 51, 52, 53] (fun s8 s9 _ _ _ _ _ _ _ _ _ _ wr => Sg w8 ⟨(k : Int), 2, u, gb⟩ s8 wr ∧ s9 = .int .i64 0)
    case first =>
          refine wp_region_held_drew (S := fun W => W.cell? ⟨bk, off + k, none⟩ = some (.int .u64 (y : Int)) ∧ (∀ i, W.cell? ⟨w6.heap.size + 1, i, none⟩ = (#[.int .i64 th', .slice a1 m1 e1, .slice a2 m2 e2] : Array Value)[i]?) ∧ Fr none w8 W) (by kernel_rfl) ⟨hk8, fun i => blk_cell by8 i, (Fr.refl _ _).drew⟩ (fun hH0 => ?_)
          refine wpAnyH_take (i := 0) (v := ?_) rfl (by kernel_rfl) (by kernel_rfl) (by kernel_rfl) (fun _ _ _ h => h) (Or.inl ⟨by rfl, ?_⟩) (by assumption) ?_
          rotate_left
          · (intro W hW; (try dsimp only at hW); go_simp; try with_reducible rfl)
          try simp only [Act.put, List.setIfInBounds_toArray, List.set_cons_zero, List.set_cons_succ, List.getElem_toArray, List.getElem_cons_zero, List.getElem_cons_succ]
          refine wpAnyH_take (i := 1) (v := ?_) rfl (by kernel_rfl) (by kernel_rfl) (by kernel_rfl) (fun _ _ _ h => h) (Or.inl ⟨by rfl, ?_⟩) (by assumption) ?_
          rotate_left
          · (intro W hW; (try dsimp only at hW); go_simp; try with_reducible rfl)
          try simp only [Act.put, List.setIfInBounds_toArray, List.set_cons_zero, List.set_cons_succ, List.getElem_toArray, List.getElem_cons_zero, List.getElem_cons_succ]
          refine wpAnyH_take (i := 4) (v := ?_) rfl (by kernel_rfl) (by kernel_rfl) (by kernel_rfl) (fun _ _ _ h => h) (Or.inl ⟨by rfl, ?_⟩) (by assumption) ?_
          rotate_left
          · (intro W hW; (try dsimp only at hW); go_simp; try with_reducible rfl)
          try simp only [Act.put, List.setIfInBounds_toArray, List.set_cons_zero, List.set_cons_succ, List.getElem_toArray, List.getElem_cons_zero, List.getElem_cons_succ]
          refine wpAnyH_take (i := 2) (v := ?_) rfl (by kernel_rfl) (by kernel_rfl) (by kernel_rfl) (fun _ _ _ h => h) (Or.inl ⟨by rfl, ?_⟩) (by assumption) ?_
          rotate_left
          · (intro W hW; (try dsimp only at hW); go_simp; try with_reducible rfl)
          try simp only [Act.put, List.setIfInBounds_toArray, List.set_cons_zero, List.set_cons_succ, List.getElem_toArray, List.getElem_cons_zero, List.getElem_cons_succ]
          refine wpAnyH_take (i := 3) (v := ?_) rfl (by kernel_rfl) (by kernel_rfl) (by kernel_rfl) (fun _ _ _ h => h) (Or.inl ⟨by rfl, ?_⟩) (by assumption) ?_
          rotate_left
          · (intro W hW; (try dsimp only at hW); go_simp; try with_reducible rfl)
          try simp only [Act.put, List.setIfInBounds_toArray, List.set_cons_zero, List.set_cons_succ, List.getElem_toArray, List.getElem_cons_zero, List.getElem_cons_succ]
          refine wpAnyH_take (i := 5) (v := ?_) rfl (by kernel_rfl) (by kernel_rfl) (by kernel_rfl) (fun _ _ _ h => h) (Or.inl ⟨by rfl, ?_⟩) (by assumption) ?_
          rotate_left
          · (intro W hW; (try dsimp only at hW); go_simp; try with_reducible rfl)
          try simp only [Act.put, List.setIfInBounds_toArray, List.set_cons_zero, List.set_cons_succ, List.getElem_toArray, List.getElem_cons_zero, List.getElem_cons_succ]
          have hwk : Wi (k : Int) := by constructor <;> omega
          have hw2 : Wi 2 := by constructor <;> omega
          refine wpAnyH_ready (rs := [6, 10]) (by kernel_rfl) (by simp) ?_
          refine AllReadyH.cons rfl (fun K hK => ?_) (AllReadyH.cons rfl (fun K hK => ?_) AllReadyH.nil)
          · simp only [List.getElem_toArray, List.getElem_cons_zero, List.getElem_cons_succ]
            go_simp
            go_at_call 26
            refine (sign_fix y HYL.out k 2 u gb HG _ _ none hwk hw2 (TrR.fr u8 hH0.2.2) (T8.fr hH0.2.2) HTQ.out).mono ?_
            rintro e wS ⟨vs, rfl, Ds, Fs⟩
            have Fs7 := hH0.2.2.pure Fs
            obtain ⟨ts, D1, d1, f1, D2, d2, f2, rfl, _, _, _, _⟩ := Ds.shape
            refine hK.out _ _ ⟨Fs7.keep hk8 (by simp), fun i => blk_cell (blk_fr by8 Fs7 (by simp)) i, Fs7⟩ (fun hH1 => ?_)
            clear hK K
            try simp only [Act.put, List.setIfInBounds_toArray, List.set_cons_zero, List.set_cons_succ, List.getElem_toArray, List.getElem_cons_zero, List.getElem_cons_succ]
            refine wpAnyH_take (i := 7) (v := ?_) rfl (by kernel_rfl) (by kernel_rfl) (by kernel_rfl) (fun _ _ _ h => h) (Or.inl ⟨by rfl, ?_⟩) (by assumption) ?_
            rotate_left
            · (intro W hW; (try dsimp only at hW); go_simp; try with_reducible rfl)
            try simp only [Act.put, List.setIfInBounds_toArray, List.set_cons_zero, List.set_cons_succ, List.getElem_toArray, List.getElem_cons_zero, List.getElem_cons_succ]
            refine wpAnyH_take (i := 8) (v := ?_) rfl (by kernel_rfl) (by kernel_rfl) (by kernel_rfl) (fun _ _ _ h => h) (Or.inl ⟨by rfl, ?_⟩) (by assumption) ?_
            rotate_left
            · (intro W hW; (try dsimp only at hW); go_simp; try with_reducible rfl)
            try simp only [Act.put, List.setIfInBounds_toArray, List.set_cons_zero, List.set_cons_succ, List.getElem_toArray, List.getElem_cons_zero, List.getElem_cons_succ]
            refine wpAnyH_take (i := 9) (v := ?_) rfl (by kernel_rfl) (by kernel_rfl) (by kernel_rfl) (fun _ _ _ h => h) (Or.inl ⟨by rfl, ?_⟩) (by assumption) ?_
            rotate_left
            · (intro W hW; (try dsimp only at hW); go_simp; try with_reducible rfl)
            try simp only [Act.put, List.setIfInBounds_toArray, List.set_cons_zero, List.set_cons_succ, List.getElem_toArray, List.getElem_cons_zero, List.getElem_cons_succ]
            refine wpAnyH_ready (rs := [10]) (by kernel_rfl) (by simp) ?_
            refine AllReadyH.cons rfl (fun K hK => ?_) AllReadyH.nil
            simp only [List.getElem_toArray, List.getElem_cons_zero, List.getElem_cons_succ]
            go_simp
            have Fa7 := Fs7.alloc (.cells #[.int .i64 0, .int .i64 0, .int .i64 0, .slice none 0 0, .slice none 0 0, .int .u64 0] 43)
            refine hK.out _ _ ⟨Fa7.keep hk8 (by simp), fun i => blk_cell (blk_fr by8 Fa7 (by simp)) i, Fa7⟩ (fun hH2 => ?_)
            clear hK K
            try simp only [Act.put, List.setIfInBounds_toArray, List.set_cons_zero, List.set_cons_succ, List.getElem_toArray, List.getElem_cons_zero, List.getElem_cons_succ]
            refine wpAnyH_ready (rs := [11]) (by kernel_rfl) (by simp) ?_
            refine AllReadyH.cons rfl (fun K hK => ?_) AllReadyH.nil
            simp only [List.getElem_toArray, List.getElem_cons_zero, List.getElem_cons_succ]
            go_simp
            have Fb7 := Fs7.alloc (.cells #[.int .i64 k, .int .i64 2, .int .i64 ts, .slice D1 d1 f1, .slice D2 d2 f2, .int .u64 (gb : Int)] 43)
            refine hK.out _ _ ⟨Fb7.keep hk8 (by simp), fun i => blk_cell (blk_fr by8 Fb7 (by simp)) i, Fb7⟩ (fun hH3 => ?_)
            clear hK K
            try simp only [Act.put, List.setIfInBounds_toArray, List.set_cons_zero, List.set_cons_succ, List.getElem_toArray, List.getElem_cons_zero, List.getElem_cons_succ]
            refine wpAnyH_take (i := 12) (v := ?_) rfl (by kernel_rfl) (by kernel_rfl) (by kernel_rfl) (fun _ _ _ h => h) (Or.inl ⟨by rfl, ?_⟩) (by assumption) ?_
            rotate_left
            · (intro W hW; (try dsimp only at hW); go_simp; try with_reducible rfl)
            try simp only [Act.put, List.setIfInBounds_toArray, List.set_cons_zero, List.set_cons_succ, List.getElem_toArray, List.getElem_cons_zero, List.getElem_cons_succ]
            refine wpAnyH_done (by kernel_rfl) ?_ _
            go_wp2_with fail
            go_meet
            exact ⟨⟨wS.heap.size, ts, D1, d1, f1, D2, d2, f2, rfl, Fs7.size, blk_new _ _, DeD.keep (fun q hq => ⟨⟨by have := hq.1; have := hH0.2.2.size; omega, by have := hq.2; simp; omega⟩, ((Fr.refl none wS).alloc _).block q hq.2 (by simp)⟩) Ds, Fb7⟩, rfl⟩
          · simp only [List.getElem_toArray, List.getElem_cons_zero, List.getElem_cons_succ]
            go_simp
            have Fa7 := hH0.2.2.alloc (.cells #[.int .i64 0, .int .i64 0, .int .i64 0, .slice none 0 0, .slice none 0 0, .int .u64 0] 43)
            refine hK.out _ _ ⟨Fa7.keep hk8 (by simp), fun i => blk_cell (blk_fr by8 Fa7 (by simp)) i, Fa7⟩ (fun hH1 => ?_)
            clear hK K
            try simp only [Act.put, List.setIfInBounds_toArray, List.set_cons_zero, List.set_cons_succ, List.getElem_toArray, List.getElem_cons_zero, List.getElem_cons_succ]
            refine wpAnyH_ready (rs := [6]) (by kernel_rfl) (by simp) ?_
            refine AllReadyH.cons rfl (fun K hK => ?_) AllReadyH.nil
            simp only [List.getElem_toArray, List.getElem_cons_zero, List.getElem_cons_succ]
            go_simp
            go_at_call 26
            refine (sign_fix y HYL.out k 2 u gb HG _ _ none hwk hw2 (TrR.fr u8 hH1.2.2) (T8.fr hH1.2.2) HTQ.out).mono ?_
            rintro e wS ⟨vs, rfl, Ds, Fs⟩
            have Fs7 := hH1.2.2.pure Fs
            obtain ⟨ts, D1, d1, f1, D2, d2, f2, rfl, _, _, _, _⟩ := Ds.shape
            refine hK.out _ _ ⟨Fs7.keep hk8 (by simp), fun i => blk_cell (blk_fr by8 Fs7 (by simp)) i, Fs7⟩ (fun hH2 => ?_)
            clear hK K
            try simp only [Act.put, List.setIfInBounds_toArray, List.set_cons_zero, List.set_cons_succ, List.getElem_toArray, List.getElem_cons_zero, List.getElem_cons_succ]
            refine wpAnyH_take (i := 7) (v := ?_) rfl (by kernel_rfl) (by kernel_rfl) (by kernel_rfl) (fun _ _ _ h => h) (Or.inl ⟨by rfl, ?_⟩) (by assumption) ?_
            rotate_left
            · (intro W hW; (try dsimp only at hW); go_simp; try with_reducible rfl)
            try simp only [Act.put, List.setIfInBounds_toArray, List.set_cons_zero, List.set_cons_succ, List.getElem_toArray, List.getElem_cons_zero, List.getElem_cons_succ]
            refine wpAnyH_take (i := 8) (v := ?_) rfl (by kernel_rfl) (by kernel_rfl) (by kernel_rfl) (fun _ _ _ h => h) (Or.inl ⟨by rfl, ?_⟩) (by assumption) ?_
            rotate_left
            · (intro W hW; (try dsimp only at hW); go_simp; try with_reducible rfl)
            try simp only [Act.put, List.setIfInBounds_toArray, List.set_cons_zero, List.set_cons_succ, List.getElem_toArray, List.getElem_cons_zero, List.getElem_cons_succ]
            refine wpAnyH_take (i := 9) (v := ?_) rfl (by kernel_rfl) (by kernel_rfl) (by kernel_rfl) (fun _ _ _ h => h) (Or.inl ⟨by rfl, ?_⟩) (by assumption) ?_
            rotate_left
            · (intro W hW; (try dsimp only at hW); go_simp; try with_reducible rfl)
            try simp only [Act.put, List.setIfInBounds_toArray, List.set_cons_zero, List.set_cons_succ, List.getElem_toArray, List.getElem_cons_zero, List.getElem_cons_succ]
            have hzb : DB wS w8.heap.size (.int .i64 0) (.int .i64 0) (.int .i64 0) (.slice none 0 0) (.slice none 0 0) (.int .u64 0) := blk_fr (w := (w8.alloc (.cells #[.int .i64 0, .int .i64 0, .int .i64 0, .slice none 0 0, .slice none 0 0, .int .u64 0] 43)).drew) (r := none) (blk_new w8 _) Fs (by simp)
            have hsz : ∀ o : Obj, (w8.alloc o).drew.heap.size = w8.heap.size + 1 := fun o => by show (w8.alloc o).heap.size = _; simp
            have HSZ := Lib.hid hsz
            clear hsz
            have Rz := hzb.cell
            have Zz := hzb.free
            have HZ := Lib.hid hzb
            refine wpAnyH_ready (rs := [11]) (by kernel_rfl) (by simp) ?_
            refine AllReadyH.cons rfl (fun K hK => ?_) AllReadyH.nil
            simp only [List.getElem_toArray, List.getElem_cons_zero, List.getElem_cons_succ]
            go_simp
            have G := fr_fill6 wS w8.heap.size (.int .i64 k) (.int .i64 2) (.int .i64 ts) (.slice D1 d1 f1) (.slice D2 d2 f2) (.int .u64 (gb : Int))
            have hzf := db_fill HZ.out (.int .i64 k) (.int .i64 2) (.int .i64 ts) (.slice D1 d1 f1) (.slice D2 d2 f2) (.int .u64 (gb : Int))
            clear Rz Zz
            have Fb7 := Fs7.own G (by simp)
            refine hK.out _ _ ⟨Fb7.keep hk8 (by simp), fun i => blk_cell (blk_fr by8 Fb7 (by simp)) i, Fb7⟩ (fun hH3 => ?_)
            clear hK K
            try simp only [Act.put, List.setIfInBounds_toArray, List.set_cons_zero, List.set_cons_succ, List.getElem_toArray, List.getElem_cons_zero, List.getElem_cons_succ]
            refine wpAnyH_take (i := 12) (v := ?_) rfl (by kernel_rfl) (by kernel_rfl) (by kernel_rfl) (fun _ _ _ h => h) (Or.inl ⟨by rfl, ?_⟩) (by assumption) ?_
            rotate_left
            · (intro W hW; (try dsimp only at hW); go_simp; try with_reducible rfl)
            try simp only [Act.put, List.setIfInBounds_toArray, List.set_cons_zero, List.set_cons_succ, List.getElem_toArray, List.getElem_cons_zero, List.getElem_cons_succ]
            refine wpAnyH_done (by kernel_rfl) ?_ _
            go_wp2_with fail
            go_meet
            exact ⟨⟨w8.heap.size, ts, D1, d1, f1, D2, d2, f2, rfl, Nat.le_refl _, hzf, DeD.keep (fun q hq => ⟨⟨by have := hq.1; rw [HSZ.out] at this; omega, Nat.lt_of_lt_of_le hq.2 G.size⟩, G.block q hq.2 (by have := hq.1; rw [HSZ.out] at this; simp; omega)⟩) Ds, Fb7⟩, rfl⟩
    case rest =>
      obtain ⟨⟨bb, tb, E1, p1, q1, E2, p2, q2, rfl, hbb, B9, Db9, F9⟩, rfl⟩ := hcut
      obtain ⟨w9, hw9⟩ : ∃ w9, w9 = wc := ⟨_, rfl⟩
      subst hw9
      have hk9 := F9.keep hk8 (by simp)
      have by9 := blk_fr by8 F9 (by simp)
      have bx9 := blk_fr bx8 F9 (by simp)
      have u9 := u8.fr F9
      have t9 := t8.fr F9
      have T9 := T8.fr F9
      have K9 := K8.keep (fr_dm F9)
      have Ba9 := B8.fr F9 (by simp)
      have Da9 : DeD w9 (fun q => w7.heap.size ≤ q ∧ q < w9.heap.size) _ _ := DeD.keep (fun q hq => ⟨⟨hq.1, Nat.lt_of_lt_of_le hq.2 F9.size⟩, F9.block q hq.2 (by simp)⟩) Da8
      have F79 := F8.pure F9
      have HGb : Hid (gb = tagS y (bytesS ⟨(k : Int), 2, u, 0⟩)) := HG
      clear HG HTQ
      have HTQ := Lib.hid (HPU.out 3 (by omega) (by omega))
      obtain ⟨gc, hgc⟩ : ∃ gc, gc = tagS y (bytesS ⟨(k : Int), 3, u, 0⟩) := ⟨_, rfl⟩
      have HG := Lib.hid hgc
      clear hgc hk8 by8 bx8 u8 t8 T8 K8 B8 Da8 F9 F8
      go_upto_region 7 with (fail)
      go_cut [12, 13, 54, 55, 56, 57, 58, 59, 60, 61, 62, 63] (fun s8 s9 _ _ _ _ _ _ _ _ _ _ wr => Sg w9 ⟨(k : Int), 3, u, gc⟩ s8 wr ∧ s9 = .int .i64 0)
      case first =>
            refine wp_region_held_drew (S := fun W => W.cell? ⟨bk, off + k, none⟩ = some (.int .u64 (y : Int)) ∧ (∀ i, W.cell? ⟨w6.heap.size + 1, i, none⟩ = (#[.int .i64 th', .slice a1 m1 e1, .slice a2 m2 e2] : Array Value)[i]?) ∧ Fr none w9 W) (by kernel_rfl) ⟨hk9, fun i => blk_cell by9 i, (Fr.refl _ _).drew⟩ (fun hH0 => ?_)
            refine wpAnyH_take (i := 0) (v := ?_) rfl (by kernel_rfl) (by kernel_rfl) (by kernel_rfl) (fun _ _ _ h => h) (Or.inl ⟨by rfl, ?_⟩) (by assumption) ?_
            rotate_left
            · (intro W hW; (try dsimp only at hW); go_simp; try with_reducible rfl)
            try simp only [Act.put, List.setIfInBounds_toArray, List.set_cons_zero, List.set_cons_succ, List.getElem_toArray, List.getElem_cons_zero, List.getElem_cons_succ]
            refine wpAnyH_take (i := 1) (v := ?_) rfl (by kernel_rfl) (by kernel_rfl) (by kernel_rfl) (fun _ _ _ h => h) (Or.inl ⟨by rfl, ?_⟩) (by assumption) ?_
            rotate_left
            · (intro W hW; (try dsimp only at hW); go_simp; try with_reducible rfl)
            try simp only [Act.put, List.setIfInBounds_toArray, List.set_cons_zero, List.set_cons_succ, List.getElem_toArray, List.getElem_cons_zero, List.getElem_cons_succ]
            refine wpAnyH_take (i := 4) (v := ?_) rfl (by kernel_rfl) (by kernel_rfl) (by kernel_rfl) (fun _ _ _ h => h) (Or.inl ⟨by rfl, ?_⟩) (by assumption) ?_
            rotate_left
            · (intro W hW; (try dsimp only at hW); go_simp; try with_reducible rfl)
            try simp only [Act.put, List.setIfInBounds_toArray, List.set_cons_zero, List.set_cons_succ, List.getElem_toArray, List.getElem_cons_zero, List.getElem_cons_succ]
            refine wpAnyH_take (i := 2) (v := ?_) rfl (by kernel_rfl) (by kernel_rfl) (by kernel_rfl) (fun _ _ _ h => h) (Or.inl ⟨by rfl, ?_⟩) (by assumption) ?_
            rotate_left
            · (intro W hW; (try dsimp only at hW); go_simp; try with_reducible rfl)
            try simp only [Act.put, List.setIfInBounds_toArray, List.set_cons_zero, List.set_cons_succ, List.getElem_toArray, List.getElem_cons_zero, List.getElem_cons_succ]
            refine wpAnyH_take (i := 3) (v := ?_) rfl (by kernel_rfl) (by kernel_rfl) (by kernel_rfl) (fun _ _ _ h => h) (Or.inl ⟨by rfl, ?_⟩) (by assumption) ?_
            rotate_left
            · (intro W hW; (try dsimp only at hW); go_simp; try with_reducible rfl)
            try simp only [Act.put, List.setIfInBounds_toArray, List.set_cons_zero, List.set_cons_succ, List.getElem_toArray, List.getElem_cons_zero, List.getElem_cons_succ]
            refine wpAnyH_take (i := 5) (v := ?_) rfl (by kernel_rfl) (by kernel_rfl) (by kernel_rfl) (fun _ _ _ h => h) (Or.inl ⟨by rfl, ?_⟩) (by assumption) ?_
            rotate_left
            · (intro W hW; (try dsimp only at hW); go_simp; try with_reducible rfl)
            try simp only [Act.put, List.setIfInBounds_toArray, List.set_cons_zero, List.set_cons_succ, List.getElem_toArray, List.getElem_cons_zero, List.getElem_cons_succ]
            have hwk : Wi (k : Int) := by constructor <;> omega
            have hw2 : Wi 3 := by constructor <;> omega
            refine wpAnyH_ready (rs := [6, 10]) (by kernel_rfl) (by simp) ?_
            refine AllReadyH.cons rfl (fun K hK => ?_) (AllReadyH.cons rfl (fun K hK => ?_) AllReadyH.nil)
            · simp only [List.getElem_toArray, List.getElem_cons_zero, List.getElem_cons_succ]
              go_simp
              go_at_call 26
              refine (sign_fix y HYL.out k 3 u gc HG _ _ none hwk hw2 (TrR.fr u9 hH0.2.2) (T9.fr hH0.2.2) HTQ.out).mono ?_
              rintro e wS ⟨vs, rfl, Ds, Fs⟩
              have Fs7 := hH0.2.2.pure Fs
              obtain ⟨ts, D1, d1, f1, D2, d2, f2, rfl, _, _, _, _⟩ := Ds.shape
              refine hK.out _ _ ⟨Fs7.keep hk9 (by simp), fun i => blk_cell (blk_fr by9 Fs7 (by simp)) i, Fs7⟩ (fun hH1 => ?_)
              clear hK K
              try simp only [Act.put, List.setIfInBounds_toArray, List.set_cons_zero, List.set_cons_succ, List.getElem_toArray, List.getElem_cons_zero, List.getElem_cons_succ]
              refine wpAnyH_take (i := 7) (v := ?_) rfl (by kernel_rfl) (by kernel_rfl) (by kernel_rfl) (fun _ _ _ h => h) (Or.inl ⟨by rfl, ?_⟩) (by assumption) ?_
              rotate_left
              · (intro W hW; (try dsimp only at hW); go_simp; try with_reducible rfl)
              try simp only [Act.put, List.setIfInBounds_toArray, List.set_cons_zero, List.set_cons_succ, List.getElem_toArray, List.getElem_cons_zero, List.getElem_cons_succ]
              refine wpAnyH_take (i := 8) (v := ?_) rfl (by kernel_rfl) (by kernel_rfl) (by kernel_rfl) (fun _ _ _ h => h) (Or.inl ⟨by rfl, ?_⟩) (by assumption) ?_
              rotate_left
              · (intro W hW; (try dsimp only at hW); go_simp; try with_reducible rfl)
              try simp only [Act.put, List.setIfInBounds_toArray, List.set_cons_zero, List.set_cons_succ, List.getElem_toArray, List.getElem_cons_zero, List.getElem_cons_succ]
              refine wpAnyH_take (i := 9) (v := ?_) rfl (by kernel_rfl) (by kernel_rfl) (by kernel_rfl) (fun _ _ _ h => h) (Or.inl ⟨by rfl, ?_⟩) (by assumption) ?_
              rotate_left
              · (intro W hW; (try dsimp only at hW); go_simp; try with_reducible rfl)
              try simp only [Act.put, List.setIfInBounds_toArray, List.set_cons_zero, List.set_cons_succ, List.getElem_toArray, List.getElem_cons_zero, List.getElem_cons_succ]
              refine wpAnyH_ready (rs := [10]) (by kernel_rfl) (by simp) ?_
              refine AllReadyH.cons rfl (fun K hK => ?_) AllReadyH.nil
              simp only [List.getElem_toArray, List.getElem_cons_zero, List.getElem_cons_succ]
              go_simp
              have Fa7 := Fs7.alloc (.cells #[.int .i64 0, .int .i64 0, .int .i64 0, .slice none 0 0, .slice none 0 0, .int .u64 0] 43)
              refine hK.out _ _ ⟨Fa7.keep hk9 (by simp), fun i => blk_cell (blk_fr by9 Fa7 (by simp)) i, Fa7⟩ (fun hH2 => ?_)
              clear hK K
              try simp only [Act.put, List.setIfInBounds_toArray, List.set_cons_zero, List.set_cons_succ, List.getElem_toArray, List.getElem_cons_zero, List.getElem_cons_succ]
              refine wpAnyH_ready (rs := [11]) (by kernel_rfl) (by simp) ?_
              refine AllReadyH.cons rfl (fun K hK => ?_) AllReadyH.nil
              simp only [List.getElem_toArray, List.getElem_cons_zero, List.getElem_cons_succ]
              go_simp
              have Fb7 := Fs7.alloc (.cells #[.int .i64 k, .int .i64 3, .int .i64 ts, .slice D1 d1 f1, .slice D2 d2 f2, .int .u64 (gc : Int)] 43)
              refine hK.out _ _ ⟨Fb7.keep hk9 (by simp), fun i => blk_cell (blk_fr by9 Fb7 (by simp)) i, Fb7⟩ (fun hH3 => ?_)
              clear hK K
              try simp only [Act.put, List.setIfInBounds_toArray, List.set_cons_zero, List.set_cons_succ, List.getElem_toArray, List.getElem_cons_zero, List.getElem_cons_succ]
              refine wpAnyH_take (i := 12) (v := ?_) rfl (by kernel_rfl) (by kernel_rfl) (by kernel_rfl) (fun _ _ _ h => h) (Or.inl ⟨by rfl, ?_⟩) (by assumption) ?_
              rotate_left
              · (intro W hW; (try dsimp only at hW); go_simp; try with_reducible rfl)
              try simp only [Act.put, List.setIfInBounds_toArray, List.set_cons_zero, List.set_cons_succ, List.getElem_toArray, List.getElem_cons_zero, List.getElem_cons_succ]
              refine wpAnyH_done (by kernel_rfl) ?_ _
              go_wp2_with fail
              go_meet
              exact ⟨⟨wS.heap.size, ts, D1, d1, f1, D2, d2, f2, rfl, Fs7.size, blk_new _ _, DeD.keep (fun q hq => ⟨⟨by have := hq.1; have := hH0.2.2.size; omega, by have := hq.2; simp; omega⟩, ((Fr.refl none wS).alloc _).block q hq.2 (by simp)⟩) Ds, Fb7⟩, rfl⟩
            · simp only [List.getElem_toArray, List.getElem_cons_zero, List.getElem_cons_succ]
              go_simp
              have Fa7 := hH0.2.2.alloc (.cells #[.int .i64 0, .int .i64 0, .int .i64 0, .slice none 0 0, .slice none 0 0, .int .u64 0] 43)
              refine hK.out _ _ ⟨Fa7.keep hk9 (by simp), fun i => blk_cell (blk_fr by9 Fa7 (by simp)) i, Fa7⟩ (fun hH1 => ?_)
              clear hK K
              try simp only [Act.put, List.setIfInBounds_toArray, List.set_cons_zero, List.set_cons_succ, List.getElem_toArray, List.getElem_cons_zero, List.getElem_cons_succ]
              refine wpAnyH_ready (rs := [6]) (by kernel_rfl) (by simp) ?_
              refine AllReadyH.cons rfl (fun K hK => ?_) AllReadyH.nil
              simp only [List.getElem_toArray, List.getElem_cons_zero, List.getElem_cons_succ]
              go_simp
              go_at_call 26
              refine (sign_fix y HYL.out k 3 u gc HG _ _ none hwk hw2 (TrR.fr u9 hH1.2.2) (T9.fr hH1.2.2) HTQ.out).mono ?_
              rintro e wS ⟨vs, rfl, Ds, Fs⟩
              have Fs7 := hH1.2.2.pure Fs
              obtain ⟨ts, D1, d1, f1, D2, d2, f2, rfl, _, _, _, _⟩ := Ds.shape
              refine hK.out _ _ ⟨Fs7.keep hk9 (by simp), fun i => blk_cell (blk_fr by9 Fs7 (by simp)) i, Fs7⟩ (fun hH2 => ?_)
              clear hK K
              try simp only [Act.put, List.setIfInBounds_toArray, List.set_cons_zero, List.set_cons_succ, List.getElem_toArray, List.getElem_cons_zero, List.getElem_cons_succ]
              refine wpAnyH_take (i := 7) (v := ?_) rfl (by kernel_rfl) (by kernel_rfl) (by kernel_rfl) (fun _ _ _ h => h) (Or.inl ⟨by rfl, ?_⟩) (by assumption) ?_
              rotate_left
              · (intro W hW; (try dsimp only at hW); go_simp; try with_reducible rfl)
              try simp only [Act.put, List.setIfInBounds_toArray, List.set_cons_zero, List.set_cons_succ, List.getElem_toArray, List.getElem_cons_zero, List.getElem_cons_succ]
              refine wpAnyH_take (i := 8) (v := ?_) rfl (by kernel_rfl) (by kernel_rfl) (by kernel_rfl) (fun _ _ _ h => h) (Or.inl ⟨by rfl, ?_⟩) (by assumption) ?_
              rotate_left
              · (intro W hW; (try dsimp only at hW); go_simp; try with_reducible rfl)
              try simp only [Act.put, List.setIfInBounds_toArray, List.set_cons_zero, List.set_cons_succ, List.getElem_toArray, List.getElem_cons_zero, List.getElem_cons_succ]
              refine wpAnyH_take (i := 9) (v := ?_) rfl (by kernel_rfl) (by kernel_rfl) (by kernel_rfl) (fun _ _ _ h => h) (Or.inl ⟨by rfl, ?_⟩) (by assumption) ?_
              rotate_left
              · (intro W hW; (try dsimp only at hW); go_simp; try with_reducible rfl)
              try simp only [Act.put, List.setIfInBounds_toArray, List.set_cons_zero, List.set_cons_succ, List.getElem_toArray, List.getElem_cons_zero, List.getElem_cons_succ]
              have hzb : DB wS w9.heap.size (.int .i64 0) (.int .i64 0) (.int .i64 0) (.slice none 0 0) (.slice none 0 0) (.int .u64 0) := blk_fr (w := (w9.alloc (.cells #[.int .i64 0, .int .i64 0, .int .i64 0, .slice none 0 0, .slice none 0 0, .int .u64 0] 43)).drew) (r := none) (blk_new w9 _) Fs (by simp)
              have hsz : ∀ o : Obj, (w9.alloc o).drew.heap.size = w9.heap.size + 1 := fun o => by show (w9.alloc o).heap.size = _; simp
              have HSZ := Lib.hid hsz
              clear hsz
              have Rz := hzb.cell
              have Zz := hzb.free
              have HZ := Lib.hid hzb
              refine wpAnyH_ready (rs := [11]) (by kernel_rfl) (by simp) ?_
              refine AllReadyH.cons rfl (fun K hK => ?_) AllReadyH.nil
              simp only [List.getElem_toArray, List.getElem_cons_zero, List.getElem_cons_succ]
              go_simp
              have G := fr_fill6 wS w9.heap.size (.int .i64 k) (.int .i64 3) (.int .i64 ts) (.slice D1 d1 f1) (.slice D2 d2 f2) (.int .u64 (gc : Int))
              have hzf := db_fill HZ.out (.int .i64 k) (.int .i64 3) (.int .i64 ts) (.slice D1 d1 f1) (.slice D2 d2 f2) (.int .u64 (gc : Int))
              clear Rz Zz
              have Fb7 := Fs7.own G (by simp)
              refine hK.out _ _ ⟨Fb7.keep hk9 (by simp), fun i => blk_cell (blk_fr by9 Fb7 (by simp)) i, Fb7⟩ (fun hH3 => ?_)
              clear hK K
              try simp only [Act.put, List.setIfInBounds_toArray, List.set_cons_zero, List.set_cons_succ, List.getElem_toArray, List.getElem_cons_zero, List.getElem_cons_succ]
              refine wpAnyH_take (i := 12) (v := ?_) rfl (by kernel_rfl) (by kernel_rfl) (by kernel_rfl) (fun _ _ _ h => h) (Or.inl ⟨by rfl, ?_⟩) (by assumption) ?_
              rotate_left
              · (intro W hW; (try dsimp only at hW); go_simp; try with_reducible rfl)
              try simp only [Act.put, List.setIfInBounds_toArray, List.set_cons_zero, List.set_cons_succ, List.getElem_toArray, List.getElem_cons_zero, List.getElem_cons_succ]
              refine wpAnyH_done (by kernel_rfl) ?_ _
              go_wp2_with fail
              go_meet
              exact ⟨⟨w9.heap.size, ts, D1, d1, f1, D2, d2, f2, rfl, Nat.le_refl _, hzf, DeD.keep (fun q hq => ⟨⟨by have := hq.1; rw [HSZ.out] at this; omega, Nat.lt_of_lt_of_le hq.2 G.size⟩, G.block q hq.2 (by have := hq.1; rw [HSZ.out] at this; simp; omega)⟩) Ds, Fb7⟩, rfl⟩
      case rest =>
        obtain ⟨⟨bc, tc, G1, r1, s1, G2, r2, s2, rfl, hbc, BA, DcA, FA⟩, rfl⟩ := hcut
        obtain ⟨wA, hwA⟩ : ∃ wA, wA = wc := ⟨_, rfl⟩
        subst hwA
        have byA := blk_fr by9 FA (by simp)
        have bxA := blk_fr bx9 FA (by simp)
        have uA := u9.fr FA
        have tA := t9.fr FA
        have TA := T9.fr FA
        have KA := K9.keep (fr_dm FA)
        have BaA := Ba9.fr FA (by simp)
        have BbA := B9.fr FA (by simp)
        have DaA : DeD wA (Dm wA none) _ _ := DeD.keep (fun q hq => ⟨⟨Nat.lt_of_lt_of_le hq.2 FA.size, by simp⟩, FA.block q hq.2 (by simp)⟩) Da9
        have DbA : DeD wA (Dm wA none) _ _ := DeD.keep (fun q hq => ⟨⟨Nat.lt_of_lt_of_le hq.2 FA.size, by simp⟩, FA.block q hq.2 (by simp)⟩) Db9
        have DcA : DeD wA (Dm wA none) _ _ := DeD.keep (fun q hq => ⟨⟨hq.2, by simp⟩, rfl⟩) DcA
        have F7A := F79.pure FA
        have HGc : Hid (gc = tagS y (bytesS ⟨(k : Int), 3, u, 0⟩)) := HG
        clear HG HTQ hk9 by9 bx9 u9 t9 T9 K9 Ba9 B9 Da9 Db9 FA F79
        have BaA : DB wA ba (.int .i64 (k : Int)) (.int .i64 2) (.int .i64 ta) (.slice D1 d1 f1) (.slice D2 d2 f2) (.int .u64 (ga : Int)) := BaA
        have BbA : DB wA bb (.int .i64 (k : Int)) (.int .i64 2) (.int .i64 tb) (.slice E1 p1 q1) (.slice E2 p2 q2) (.int .u64 (gb : Int)) := BbA
        have BA : DB wA bc (.int .i64 (k : Int)) (.int .i64 3) (.int .i64 tc) (.slice G1 r1 s1) (.slice G2 r2 s2) (.int .u64 (gc : Int)) := BA
        have hy0 : ks.getD k 0 = y := by rw [HY.out]; simp [List.getD_eq_getElem?_getD, hkl]
        have ea : (⟨(k : Int), 2, t, ga⟩ : De) = sgn ks k 2 t := by unfold sgn; rw [hy0, HGa.out]
        have eb : (⟨(k : Int), 2, u, gb⟩ : De) = sgn ks k 2 u := by unfold sgn; rw [hy0, HGb.out]
        have ec : (⟨(k : Int), 3, u, gc⟩ : De) = sgn ks k 3 u := by unfold sgn; rw [hy0, HGc.out]
        have pta := HPT.out 2 (by omega) (by omega)
        have pub := HPU.out 2 (by omega) (by omega)
        have pux := HPU.out 3 (by omega) (by omega)
        obtain ⟨X, hX⟩ : ∃ X, X = provE ks ⟨(k : Int), 2, t, ga⟩ ⟨(k : Int), 2, u, gb⟩ := ⟨_, rfl⟩
        obtain ⟨Y, hY⟩ : ∃ Y, Y = provE ks ⟨(k : Int), 2, u, gb⟩ ⟨(k : Int), 2, t, ga⟩ := ⟨_, rfl⟩
        obtain ⟨Z, hZ⟩ : ∃ Z, Z = provE ks ⟨(k : Int), 2, t, ga⟩ ⟨(k : Int), 3, u, gc⟩ := ⟨_, rfl⟩
        have hX2 := hX
        have hY2 := hY
        have hZ2 := hZ
        rw [ea, eb, prov_sgn hkl] at hX2
        rw [ea, eb, prov_sgn hkl] at hY2
        rw [ea, ec, prov_other hkl (by omega)] at hZ2
        obtain ⟨sm, hsm⟩ : ∃ sm, sm = sameT t u := ⟨_, rfl⟩
        have hcase : (sm = true ∧ X = 7 ∧ Y = 7) ∨ (sm = false ∧ X = 0 ∧ Y = 7) ∨ (sm = false ∧ X = 7 ∧ Y = 0) := by
          cases h : sameT t u with
          | true =>
            obtain ⟨l1, l2⟩ := less_same pta pub h
            rw [l1] at hX2
            rw [l2] at hY2
            exact .inl ⟨hsm.trans h, by simpa using hX2, by simpa using hY2⟩
          | false =>
            rw [less_other pta pub h] at hY2
            cases h2 : Op.bytesLess (bytesS ⟨(k : Int), 2, t, 0⟩) (bytesS ⟨(k : Int), 2, u, 0⟩) with
            | true => rw [h2] at hX2 hY2; exact .inr (.inl ⟨hsm.trans h, by simpa using hX2, by simpa using hY2⟩)
            | false => rw [h2] at hX2 hY2; exact .inr (.inr ⟨hsm.trans h, by simpa using hX2, by simpa using hY2⟩)
        have HX := Lib.hid hX
        have HYY := Lib.hid hY
        have HZ := Lib.hid hZ
        have HSM := Lib.hid hsm
        have HCA := Lib.hid hcase
        have HPTA := Lib.hid pta
        have HPUB := Lib.hid pub
        have HPUX := Lib.hid pux
        have HZ2 := Lib.hid hZ2
        clear hX hY hZ hX2 hY2 hZ2 hsm hcase ea eb ec pta pub pux hy0
        go_upto_region 10 with (fail)
        go_cut [14, 15] (fun s14 s15 wr => s14 = .bool (X == 0) ∧ s15 = .bool (Y == 0) ∧ Fr none wA wr)
        case first =>
          refine wp_region_held_drew (S := fun W => (∀ i, W.cell? ⟨ba, i, none⟩ = (#[.int .i64 (k : Int), .int .i64 2, .int .i64 ta, .slice D1 d1 f1, .slice D2 d2 f2, .int .u64 (ga : Int)] : Array Value)[i]?) ∧ (∀ i, W.cell? ⟨bb, i, none⟩ = (#[.int .i64 (k : Int), .int .i64 2, .int .i64 tb, .slice E1 p1 q1, .slice E2 p2 q2, .int .u64 (gb : Int)] : Array Value)[i]?) ∧ Fr none wA W) (by kernel_rfl) ⟨BaA.cell, BbA.cell, (Fr.refl _ _).drew⟩ (fun hH0 => ?_)
          refine wpAnyH_take (i := 0) (v := ?_) rfl (by kernel_rfl) (by kernel_rfl) (by kernel_rfl) (fun _ _ _ h => h) (Or.inl ⟨by rfl, ?_⟩) (by assumption) ?_
          rotate_left
          · (intro W hW; (try dsimp only at hW); go_simp; try with_reducible rfl)
          try simp only [Act.put, List.setIfInBounds_toArray, List.set_cons_zero, List.set_cons_succ, List.getElem_toArray, List.getElem_cons_zero, List.getElem_cons_succ]
          refine wpAnyH_take (i := 1) (v := ?_) rfl (by kernel_rfl) (by kernel_rfl) (by kernel_rfl) (fun _ _ _ h => h) (Or.inl ⟨by rfl, ?_⟩) (by assumption) ?_
          rotate_left
          · (intro W hW; (try dsimp only at hW); go_simp; try with_reducible rfl)
          try simp only [Act.put, List.setIfInBounds_toArray, List.set_cons_zero, List.set_cons_succ, List.getElem_toArray, List.getElem_cons_zero, List.getElem_cons_succ]
          refine wpAnyH_take (i := 2) (v := ?_) rfl (by kernel_rfl) (by kernel_rfl) (by kernel_rfl) (fun _ _ _ h => h) (Or.inl ⟨by rfl, ?_⟩) (by assumption) ?_
          rotate_left
          · (intro W hW; (try dsimp only at hW); go_simp; try with_reducible rfl)
          try simp only [Act.put, List.setIfInBounds_toArray, List.set_cons_zero, List.set_cons_succ, List.getElem_toArray, List.getElem_cons_zero, List.getElem_cons_succ]
          refine wpAnyH_take (i := 3) (v := ?_) rfl (by kernel_rfl) (by kernel_rfl) (by kernel_rfl) (fun _ _ _ h => h) (Or.inl ⟨by rfl, ?_⟩) (by assumption) ?_
          rotate_left
          · (intro W hW; (try dsimp only at hW); go_simp; try with_reducible rfl)
          try simp only [Act.put, List.setIfInBounds_toArray, List.set_cons_zero, List.set_cons_succ, List.getElem_toArray, List.getElem_cons_zero, List.getElem_cons_succ]
          refine wpAnyH_take (i := 6) (v := ?_) rfl (by kernel_rfl) (by kernel_rfl) (by kernel_rfl) (fun _ _ _ h => h) (Or.inl ⟨by rfl, ?_⟩) (by assumption) ?_
          rotate_left
          · (intro W hW; (try dsimp only at hW); go_simp; try with_reducible rfl)
          try simp only [Act.put, List.setIfInBounds_toArray, List.set_cons_zero, List.set_cons_succ, List.getElem_toArray, List.getElem_cons_zero, List.getElem_cons_succ]
          refine wpAnyH_take (i := 7) (v := ?_) rfl (by kernel_rfl) (by kernel_rfl) (by kernel_rfl) (fun _ _ _ h => h) (Or.inl ⟨by rfl, ?_⟩) (by assumption) ?_
          rotate_left
          · (intro W hW; (try dsimp only at hW); go_simp; try with_reducible rfl)
          try simp only [Act.put, List.setIfInBounds_toArray, List.set_cons_zero, List.set_cons_succ, List.getElem_toArray, List.getElem_cons_zero, List.getElem_cons_succ]
          refine wpAnyH_take (i := 8) (v := ?_) rfl (by kernel_rfl) (by kernel_rfl) (by kernel_rfl) (fun _ _ _ h => h) (Or.inl ⟨by rfl, ?_⟩) (by assumption) ?_
          rotate_left
          · (intro W hW; (try dsimp only at hW); go_simp; try with_reducible rfl)
          try simp only [Act.put, List.setIfInBounds_toArray, List.set_cons_zero, List.set_cons_succ, List.getElem_toArray, List.getElem_cons_zero, List.getElem_cons_succ]
          refine wpAnyH_take (i := 9) (v := ?_) rfl (by kernel_rfl) (by kernel_rfl) (by kernel_rfl) (fun _ _ _ h => h) (Or.inl ⟨by rfl, ?_⟩) (by assumption) ?_
          rotate_left
          · (intro W hW; (try dsimp only at hW); go_simp; try with_reducible rfl)
          try simp only [Act.put, List.setIfInBounds_toArray, List.set_cons_zero, List.set_cons_succ, List.getElem_toArray, List.getElem_cons_zero, List.getElem_cons_succ]
          refine wpAnyH_ready (rs := [4]) (by kernel_rfl) (by simp) ?_
          refine AllReadyH.cons rfl (fun K hK => ?_) AllReadyH.nil
          simp only [List.getElem_toArray, List.getElem_cons_zero, List.getElem_cons_succ]
          go_simp
          go_at_call 27
          refine (proves_fix ks _ ⟨(k : Int), 2, t, ga⟩ ⟨(k : Int), 2, u, gb⟩ X HX ta tb D1 D2 E1 E2 d1 f1 d2 f2 p1 q1 p2 q2 _ HKS.out (KA.keep (fr_dm hH0.2.2)) (DaA.keep (fr_dm hH0.2.2)) (DbA.keep (fr_dm hH0.2.2)) HPTA.out HPUB.out (TA.fr hH0.2.2)).mono ?_
          rintro e wB ⟨rfl, FB⟩
          have FB := hH0.2.2.pure FB
          refine hK.out _ _ ⟨fun i => blk_cell (blk_fr BaA FB (by simp)) i, fun i => blk_cell (blk_fr BbA FB (by simp)) i, FB⟩ (fun hH1 => ?_)
          clear hK K hH0
          try simp only [Act.put, List.setIfInBounds_toArray, List.set_cons_zero, List.set_cons_succ, List.getElem_toArray, List.getElem_cons_zero, List.getElem_cons_succ]
          refine wpAnyH_take (i := 5) (v := ?_) rfl (by kernel_rfl) (by kernel_rfl) (by kernel_rfl) (fun _ _ _ h => h) (Or.inl ⟨by rfl, ?_⟩) (by assumption) ?_
          rotate_left
          · (intro W hW; (try dsimp only at hW); go_simp; try with_reducible rfl)
          try simp only [Act.put, List.setIfInBounds_toArray, List.set_cons_zero, List.set_cons_succ, List.getElem_toArray, List.getElem_cons_zero, List.getElem_cons_succ]
          refine wpAnyH_ready (rs := [10]) (by kernel_rfl) (by simp) ?_
          refine AllReadyH.cons rfl (fun K hK => ?_) AllReadyH.nil
          simp only [List.getElem_toArray, List.getElem_cons_zero, List.getElem_cons_succ]
          go_simp
          go_at_call 27
          refine (proves_fix ks _ ⟨(k : Int), 2, u, gb⟩ ⟨(k : Int), 2, t, ga⟩ Y HYY tb ta E1 E2 D1 D2 p1 q1 p2 q2 d1 f1 d2 f2 _ HKS.out (KA.keep (fr_dm hH1.2.2)) (DbA.keep (fr_dm hH1.2.2)) (DaA.keep (fr_dm hH1.2.2)) HPUB.out HPTA.out (TA.fr hH1.2.2)).mono ?_
          rintro e wC ⟨rfl, FC⟩
          have FC := hH1.2.2.pure FC
          refine hK.out _ _ ⟨fun i => blk_cell (blk_fr BaA FC (by simp)) i, fun i => blk_cell (blk_fr BbA FC (by simp)) i, FC⟩ (fun hH2 => ?_)
          clear hK K hH1
          try simp only [Act.put, List.setIfInBounds_toArray, List.set_cons_zero, List.set_cons_succ, List.getElem_toArray, List.getElem_cons_zero, List.getElem_cons_succ]
          refine wpAnyH_take (i := 11) (v := ?_) rfl (by kernel_rfl) (by kernel_rfl) (by kernel_rfl) (fun _ _ _ h => h) (Or.inl ⟨by rfl, ?_⟩) (by assumption) ?_
          rotate_left
          · (intro W hW; (try dsimp only at hW); go_simp; try with_reducible rfl)
          try simp only [Act.put, List.setIfInBounds_toArray, List.set_cons_zero, List.set_cons_succ, List.getElem_toArray, List.getElem_cons_zero, List.getElem_cons_succ]
          refine wpAnyH_take (i := 12) (v := ?_) rfl (by kernel_rfl) (by kernel_rfl) (by kernel_rfl) (fun _ _ _ h => h) (Or.inl ⟨by rfl, ?_⟩) (by assumption) ?_
          rotate_left
          · (intro W hW; (try dsimp only at hW); go_simp; try with_reducible rfl)
          try simp only [Act.put, List.setIfInBounds_toArray, List.set_cons_zero, List.set_cons_succ, List.getElem_toArray, List.getElem_cons_zero, List.getElem_cons_succ]
          refine wpAnyH_take (i := 13) (v := ?_) rfl (by kernel_rfl) (by kernel_rfl) (by kernel_rfl) (fun _ _ _ h => h) (Or.inl ⟨by rfl, ?_⟩) (by assumption) ?_
          rotate_left
          · (intro W hW; (try dsimp only at hW); go_simp; try with_reducible rfl)
          try simp only [Act.put, List.setIfInBounds_toArray, List.set_cons_zero, List.set_cons_succ, List.getElem_toArray, List.getElem_cons_zero, List.getElem_cons_succ]
          refine wpAnyH_done (by kernel_rfl) ?_ _
          go_wp2_with fail
          go_meet
          exact ⟨rfl, rfl, FC⟩
        case rest =>
          obtain ⟨rfl, rfl, FB⟩ := hcut
          have RX := blk_cell (blk_fr bxA FB (by simp))
          have RY := blk_cell (blk_fr byA FB (by simp))
          have FA1 : Fr none w wc := (F07.pure F7A).pure FB
          go_wp2_with fail
          refine (rsame_any t.dep t u _ _ _ none (Nat.le_refl _) (tA.fr FB) (uA.fr FB)).mono ?_
          rintro e wD ⟨rfl, FD⟩
          rw [← HSM.out]
          have FAD := FA1.pure FD
          have FBD := FB.pure FD
          have TD := hT.fr FAD
          have RBa := (BaA.fr FBD (by simp)).cell
          have RBc := (BA.fr FBD (by simp)).cell
          have HZ1 : Hid ((1 : Int) = provE ks ⟨(k : Int), 2, t, ga⟩ ⟨(k : Int), 3, u, gc⟩) := by unfold Hid; rw [← HZ.out]; exact HZ2.out.symm
          clear RX RY
          rcases HCA.out with ⟨rfl, rfl, rfl⟩ | ⟨rfl, rfl, rfl⟩ | ⟨rfl, rfl, rfl⟩
          · go_wp2_with fail
            refine (awake7_any _ TD).mono ?_
            rintro e wE ⟨rfl, FE⟩
            go_wp2_with fail
            go_ret
            exact ⟨rfl, FAD.pure FE⟩
          all_goals
            go_wp2_with fail
            refine (proves_fix ks _ ⟨(k : Int), 2, t, ga⟩ ⟨(k : Int), 3, u, gc⟩ 1 HZ1 ta tc D1 D2 G1 G2 d1 f1 d2 f2 r1 s1 r2 s2 _ HKS.out (KA.keep (fr_dm FBD)) (DaA.keep (fr_dm FBD)) (DcA.keep (fr_dm FBD)) HPTA.out HPUX.out TD).mono ?_
            rintro e wE ⟨rfl, FE⟩
            go_wp2_with fail
            refine (awake7_any _ (TD.fr FE)).mono ?_
            rintro e wF ⟨rfl, FF⟩
            go_wp2_with fail
            go_ret
            exact ⟨rfl, (FAD.pure FE).pure FF⟩
end Go.Proofs.YtidnnjgiogklaaaDoor

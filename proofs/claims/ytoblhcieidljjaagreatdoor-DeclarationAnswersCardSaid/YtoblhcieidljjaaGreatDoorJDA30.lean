/- Some texts of this claim, joined: contracts of the functions that it reaches, and plain laws. -/
import Derived.Test.YtoblhcieidljjaaGreatDoorProg
import Derived.Test.YtoblhcieidljjaaGreatDoorJDA29
import Derived.Test.YtoblhcieidljjaaGreatDoorJDA24
import Derived.Test.YtoblhcieidljjaaGreatDoorJDA19

set_option linter.unusedSimpArgs false
set_option linter.unusedVariables false
/- The law DeclarationAnswers: its walk. -/
namespace Go.Proofs.YtoblhcieidljjaaGreatDoor
open Go.RowKit

/-- Six cells. -/
def Cel6 (w : World) (b o : Nat) (x0 x1 x2 x3 x4 x5 : Value) : Prop := w.cell? ⟨b, o, none⟩ = some x0 ∧ w.cell? ⟨b, o + 1, none⟩ = some x1 ∧ w.cell? ⟨b, o + 2, none⟩ = some x2 ∧ w.cell? ⟨b, o + 3, none⟩ = some x3 ∧ w.cell? ⟨b, o + 4, none⟩ = some x4 ∧ w.cell? ⟨b, o + 5, none⟩ = some x5
theorem Cel6.fr {w w' : World} {b o : Nat} {x0 x1 x2 x3 x4 x5 : Value} {r : Option Nat} (h : Cel6 w b o x0 x1 x2 x3 x4 x5) (F : Fr r w w') (hr : r ≠ some b) : Cel6 w' b o x0 x1 x2 x3 x4 x5 := by
  have hr' : some b ≠ r := fun e => hr e.symm
  exact ⟨F.keep h.1 hr', F.keep h.2.1 hr', F.keep h.2.2.1 hr', F.keep h.2.2.2.1 hr', F.keep h.2.2.2.2.1 hr', F.keep h.2.2.2.2.2 hr'⟩
/-- The declarations of the first loop: in a block, six cells each. -/
def Lst7 (w : World) (g bk : Nat) (LL : List De) : Prop := ∀ j (hj : j < LL.length), ∃ th A1 n1 c1 A2 n2 c2, Cel6 w bk (j * 6) (.int .i64 LL[j].node) (.int .i64 LL[j].seq) (.int .i64 th) (.slice A1 n1 c1) (.slice A2 n2 c2) (.int .u64 (LL[j].tag : Int)) ∧ De7 w g (.agg #[.int .i64 LL[j].node, .int .i64 LL[j].seq, .int .i64 th, .slice A1 n1 c1, .slice A2 n2 c2, .int .u64 (LL[j].tag : Int)]) LL[j]
/-- The pairs of the second loop: twelve cells each. -/
def Prs7 (w : World) (g bk : Nat) (k : Nat) : Prop := ∃ (a b : De) (th : Int) (A1 : Option Addr) (n1 c1 : Nat) (A2 : Option Addr) (n2 c2 : Nat) (th' : Int) (a1 : Option Addr) (m1 e1 : Nat) (a2 : Option Addr) (m2 e2 : Nat),
  Cel6 w bk (k * 12) (.int .i64 a.node) (.int .i64 a.seq) (.int .i64 th) (.slice A1 n1 c1) (.slice A2 n2 c2) (.int .u64 (a.tag : Int)) ∧ Cel6 w bk (k * 12 + 6) (.int .i64 b.node) (.int .i64 b.seq) (.int .i64 th') (.slice a1 m1 e1) (.slice a2 m2 e2) (.int .u64 (b.tag : Int)) ∧
  De7 w g (.agg #[.int .i64 a.node, .int .i64 a.seq, .int .i64 th, .slice A1 n1 c1, .slice A2 n2 c2, .int .u64 (a.tag : Int)]) a ∧ De7 w g (.agg #[.int .i64 b.node, .int .i64 b.seq, .int .i64 th', .slice a1 m1 e1, .slice a2 m2 e2, .int .u64 (b.tag : Int)]) b

set_option maxRecDepth 100000 in
set_option maxHeartbeats 64000000 in
theorem law07n_any (v : Value) (l : List Int) (v1 : Value) (raw : De) (v2 : Value) (oth : De) (v3 : Value) (keys : List Nat) (x : Int) (text : ByteArray) (w : World) (hl : SlI w none v l) (hraw : RwDe w v1 raw) (hoth : RwDe w v2 oth) (hkv : SlD w (Dm w none) 1 v3 (keys.map u64v)) (hks0 : ∀ y ∈ keys, y < 18446744073709551616) (hx : (Lit.int .u64 x).wf = true) (htx : text.size ≤ maxLen) (hT : Tab w) (hB : Deb w) (hE : Errs w) :
    Calls Tryz.prog 4 #[v, v1, v2, v3, .int .u64 x, .string text] w fun e w' => e = .returned (.bool true) ∧ Fr none w w' := by
  obtain ⟨x0, x1⟩ := u64_bd hx
  obtain ⟨key, rfl⟩ := Int.eq_ofNat_of_zero_le x0
  have hkey : key < 18446744073709551616 := by omega
  obtain ⟨rt, R1, rn1, rc1, R2, rn2, rc2, rfl, _, _, _, _⟩ := hraw.shape
  obtain ⟨ot, O1, on1, oc1, O2, on2, oc2, rfl, _, _, _, _⟩ := hoth.shape
  obtain ⟨A3, c3, rfl, kq1, kq2, _⟩ := keys_open hkv
  unfold maxLen at htx
  have HKS0 := Lib.hid hks0
  have HKY := Lib.hid hkey
  clear x0 x1 hx hks0 hkey
  go_enter Tryz.func4, Tryz.ntmps4
  go_upto_region 1 with (fail)
  generalize hW : (w.alloc _).alloc _ = w1
  have hz1 : w1.heap.size = w.heap.size + 2 := by rw [← hW]; simp
  have F1 : Fr none w w1 := hW ▸ ((Fr.refl _ w).alloc _).alloc _
  have b7 : DB w1 w.heap.size (.int .i64 raw.node) (.int .i64 raw.seq) (.int .i64 rt) (.slice R1 rn1 rc1) (.slice R2 rn2 rc2) (.int .u64 (raw.tag : Int)) := by
    rw [← hW]; exact (Below.heap_alloc _ _ _ (by simp <;> omega)).trans (blk_new _ _)
  have b8 : DB w1 (w.heap.size + 1) (.int .i64 oth.node) (.int .i64 oth.seq) (.int .i64 ot) (.slice O1 on1 oc1) (.slice O2 on2 oc2) (.int .u64 (oth.tag : Int)) := by
    rw [← hW]; exact blk_new_at (by simp) _
  have hz1a : w.heap.size + 2 ≤ w1.heap.size := by omega
  clear hW hz1
  obtain ⟨B8, hB8⟩ : ∃ B8, B8 = w.heap.size + 1 := ⟨_, rfl⟩
  rw [← hB8] at b8 ⊢
  have hB8a : B8 ≤ w.heap.size + 1 := by omega
  have hB8b : w.heap.size + 1 ≤ B8 := by omega
  clear hB8
  have R7 := b7.cell
  have l7 := blk_lt b7
  have hr1 := hraw.fr F1
  have ho1 := hoth.fr F1
  have hl1 := hl.fr F1
  have hk1 := hkv.keep (fr_dm F1)
  clear hraw hoth hl hkv
  go_wp2_with fail
  refine (smalld_any raw _ _ hr1).mono ?_
  rintro e w2 ⟨b, rfl, hb, F2⟩
  have F02 := F1.pure F2
  cases b with
  | false =>
    go_wp2_with fail
    refine (awake7_any _ (hT.fr F02)).mono ?_
    rintro e wf ⟨rfl, FF⟩
    go_wp2_with fail
    go_ret
    exact ⟨rfl, (F02).pure FF⟩
  | true =>
    have hrs := hb rfl
    have b72 := b7.fr F2 (by simp)
    have b82 := b8.fr F2 (by simp)
    have R8 := b82.cell
    have l8 := blk_lt b82
    have ho2 := ho1.fr F2
    have hr2 := (hr1.fr F2).small (by omega)
    have hl2 := hl1.fr F2
    have hk2 := hk1.keep (fr_dm F2)
    clear hb b7 b8 R7 l7 hr1 ho1 hl1 hk1 F1 F2
    go_wp2_with fail
    refine (smalld_any oth _ _ ho2).mono ?_
    rintro e w3 ⟨b, rfl, hb, F3⟩
    have F03 := F02.pure F3
    cases b with
    | false =>
      go_wp2_with fail
      refine (awake7_any _ (hT.fr F03)).mono ?_
      rintro e wf ⟨rfl, FF⟩
      go_wp2_with fail
      go_ret
      exact ⟨rfl, (F03).pure FF⟩
    | true =>
      have hos := hb rfl
      have b73 := b72.fr F3 (by simp)
      have b83 := b82.fr F3 (by simp)
      have ho3 := (ho2.fr F3).small (by omega)
      have hr3 := hr2.keep (fr_dm F3)
      have hl3 := hl2.fr F3
      have hk3 := hk2.keep (fr_dm F3)
      have hz3 : w.heap.size + 2 ≤ w3.heap.size := by have := F02.size; have := F3.size; have := blk_lt b83; omega
      clear hb b72 b82 R8 l8 hr2 ho2 hl2 hk2 F02 F3
      by_cases hp30 : 30 < keys.length
      · have hd : decide ((30 : Int) < (keys.length : Int)) = true := decide_eq_true (by omega)
        clear hp30
        go_wp2_with fail
        refine (awake7_any _ (hT.fr F03)).mono ?_
        rintro e wf ⟨rfl, FF⟩
        go_wp2_with fail
        go_ret
        exact ⟨rfl, (F03).pure FF⟩
      · have hd : decide ((30 : Int) < (keys.length : Int)) = false := decide_eq_false (by omega)
        have hp30' : keys.length ≤ 30 := by omega
        clear hp30
        by_cases ht8 : 8000 < text.size
        · have hd2 : decide ((8000 : Int) < (text.size : Int)) = true := decide_eq_true (by omega)
          clear ht8
          go_wp2_with fail
          refine (awake7_any _ (hT.fr F03)).mono ?_
          rintro e wf ⟨rfl, FF⟩
          go_wp2_with fail
          go_ret
          exact ⟨rfl, (F03).pure FF⟩
        · have hd2 : decide ((8000 : Int) < (text.size : Int)) = false := decide_eq_false (by omega)
          have ht8' : text.size ≤ 8000 := by omega
          clear ht8 htx
          go_wp2_with fail
          refine (tapeNew_any _ _ _ hl3).mono ?_
          rintro e w4 ⟨g, rfl, hg, S4, F4⟩
          have hg4 := S4.lt
          clear hd hd2 hl3
          go_wp2_with fail
          refine (tapeRange_any 1 10 g _ (by omega) (by omega) (by omega) S4).mono ?_
          rintro e w4a ⟨n, rfl, n1, n2, S4a, F4a⟩
          obtain ⟨n, rfl⟩ := Int.eq_ofNat_of_zero_le (show 0 ≤ n by omega)
          go_wp2_with fail
          refine (keys_any n g _ (by omega) S4a).mono ?_
          rintro e w4b ⟨kv, ks, rfl, hkl, hks, D4b, S4b, F4b⟩
          subst hkl
          have HKS := Lib.hid hks
          have hg4b := S4a.lt
          have Kb : SlD w4b (Dm w4b (some g)) 1 kv (ks.map u64v) := D4b.keep (dn_dm (by simp; omega))
          obtain ⟨Ak, ck, rfl, q1, q2, _⟩ := keys_open Kb
          have F4g : Fr (some g) w4 w4b := F4a.same F4b
          clear D4b hks
          have hz4 := F4.size
          have hz4g := F4g.size
          have F04b := (F03.pure F4).own F4g (fun q hq => by injection hq with hq; omega)
          have Ho4 : De7 w4 g (.agg #[.int .i64 oth.node, .int .i64 oth.seq, .int .i64 ot, .slice O1 on1 oc1, .slice O2 on2 oc2, .int .u64 (oth.tag : Int)]) oth := ⟨ho3.keep (fr_fresh F4 hg), by omega⟩
          have Hr4 : De7 w4 g (.agg #[.int .i64 raw.node, .int .i64 raw.seq, .int .i64 rt, .slice R1 rn1 rc1, .slice R2 rn2 rc2, .int .u64 (raw.tag : Int)]) raw := ⟨hr3.keep (fr_fresh F4 hg), by omega⟩
          have Hk4 : SlD w4 (Dm w4 (some g)) 1 (.slice A3 keys.length c3) (keys.map u64v) := hk3.keep (fr_fresh F4 hg)
          have Hob := Ho4.fr F4g
          have Hrb := Hr4.fr F4g
          have Hkb := Hk4.keep (fr_dm F4g)
          have b74 := (b73.fr F4 (by simp)).fr F4g (by simp; omega)
          have b84 := (b83.fr F4 (by simp)).fr F4g (by simp; omega)
          clear ho3 hr3 hk3 Ho4 Hr4 Hk4 b73 b83 F03 F4 F4a F4b F4g S4 S4a
          go_wp2_with fail
          refine (mkdecl_any ks _ g _ (by omega) (by omega) HKS.out Kb S4b (hT.fr F04b)).mono ?_
          rintro e w5 ⟨vd, kk, hkk, sq, T, rfl, s1, s2, hva, hdp, hsz, hD, S5, F5⟩
          obtain ⟨d, hdd⟩ : ∃ d : De, d = ⟨(kk : Int), sq, T, tagS ks[kk] (bytesS ⟨kk, sq, T, 0⟩)⟩ := ⟨_, rfl⟩
          have hpd : plainE d = 0 := by rw [hdd]; exact plain_mk (by omega) (by omega) s1 (by omega) hva hdp hsz
          have hdsz : d.tr.size ≤ 40 := by rw [hdd]; exact hsz
          rw [← hdd] at hD
          clear hdd s1 s2 hva hdp hsz hkk
          obtain ⟨dt, D1, dn1, dc1, D2, dn2, dc2, rfl, _, _, _, _⟩ := hD.shape
          have hz5 := F5.size
          have HPD := Lib.hid hpd
          have F05 := F04b.own F5 (fun q hq => by injection hq with hq; omega)
          have Hd5 : De7 w5 g (.agg #[.int .i64 d.node, .int .i64 d.seq, .int .i64 dt, .slice D1 dn1 dc1, .slice D2 dn2 dc2, .int .u64 (d.tag : Int)]) d := ⟨hD.keep (dn_dm (by simp; omega)), by omega⟩
          have Ho5 := Hob.fr F5
          have Hr5 := Hrb.fr F5
          have Hk5 := Hkb.keep (fr_dm F5)
          have K5 := Kb.keep (fr_dm F5)
          have b75 := b74.fr F5 (by simp; omega)
          have b85 := b84.fr F5 (by simp; omega)
          clear hpd hD Hob Hrb Hkb Kb b74 b84 F04b S4b F5
          go_wp2_with fail
          generalize hW : w5.alloc _ = w6
          have F6 : Fr none w5 w6 := hW ▸ (Fr.refl none w5).alloc _
          have b15 : DB w6 w5.heap.size (.int .i64 d.node) (.int .i64 d.seq) (.int .i64 dt) (.slice D1 dn1 dc1) (.slice D2 dn2 dc2) (.int .u64 (d.tag : Int)) := by rw [← hW]; exact blk_new _ _
          clear hW
          have S6 := S5.fr F6
          have Hd6 := Hd5.fr (F6.mono (r := some g))
          have hz6 := F6.size
          have l15 := blk_lt b15
          refine (bentd_any d _ g _ (by omega) Hd6.de S6).mono ?_
          rintro e w7 ⟨vb, b, rfl, hbD, hbs, S7, F7⟩
          obtain ⟨bt, B1, bn1, bc1, B2, bn2, bc2, rfl, _, _, _, _⟩ := hbD.shape
          have F57 := (F6.mono (r := some g)).same F7
          have hz7 := F7.size
          have hbs2 : b.tr.size ≤ 450 := by omega
          clear hbs
          go_upto_region 7 with (fail)
          generalize hW : w7.alloc _ = w8
          have F8 : Fr none w7 w8 := hW ▸ (Fr.refl none w7).alloc _
          have b16 : DB w8 w7.heap.size (.int .i64 b.node) (.int .i64 b.seq) (.int .i64 bt) (.slice B1 bn1 bc1) (.slice B2 bn2 bc2) (.int .u64 (b.tag : Int)) := by rw [← hW]; exact blk_new _ _
          clear hW
          have hz8 := F8.size
          have l16 := blk_lt b16
          have F58 := F57.pure F8
          have F78 : Fr (some g) w7 w8 := F8.mono
          have S8 := S7.fr F8
          have F08 : Fr none w w8 := F05.own F58 (by simp; omega)
          have Hb8 : De7 w8 g (.agg #[.int .i64 b.node, .int .i64 b.seq, .int .i64 bt, .slice B1 bn1 bc1, .slice B2 bn2 bc2, .int .u64 (b.tag : Int)]) b := De7.fr ⟨hbD, by omega⟩ F78
          have Hd8 := Hd5.fr F58
          have Ho8 := Ho5.fr F58
          have Hr8 := Hr5.fr F58
          have Hk8 := Hk5.keep (fr_dm F58)
          have K8 := K5.keep (fr_dm F58)
          have b158 := (b15.fr F7 (by simp; omega)).fr F8 (by simp)
          have b78 := b75.fr F58 (by simp; omega)
          have b88 := b85.fr F58 (by simp; omega)
          clear Hd5 Hd6 Ho5 Hr5 Hk5 K5 b15 b75 b85 S5 S6 S7 F6 F7 F8 F57 F58 F78 F05 hbD l15
          go_cut [69, 70, 71] (fun s69 s70 s71 wq => ∃ (bk : Nat) (LL : List De), s69 = .slice (some ⟨bk, 0, none⟩) 4 4 ∧ s70 = .int .i64 4 ∧ s71 = .int .i64 0 ∧ bk ≠ g ∧ bk < wq.heap.size ∧ LL.length = 4 ∧ Lst7 wq g bk LL ∧ SrcR 84 wq g ∧ Fr (some g) w8 wq)
          case first =>
            have l15 := blk_lt b158
            have l7 := blk_lt b78
            refine wp_region_held_drew (S := fun W => (∀ z, W.cell? ⟨w5.heap.size, z, none⟩ = (#[.int .i64 d.node, .int .i64 d.seq, .int .i64 dt, .slice D1 dn1 dc1, .slice D2 dn2 dc2, .int .u64 (d.tag : Int)] : Array Value)[z]?) ∧ (∀ z, W.cell? ⟨w7.heap.size, z, none⟩ = (#[.int .i64 b.node, .int .i64 b.seq, .int .i64 bt, .slice B1 bn1 bc1, .slice B2 bn2 bc2, .int .u64 (b.tag : Int)] : Array Value)[z]?) ∧ (∀ z, W.cell? ⟨w.heap.size, z, none⟩ = (#[.int .i64 raw.node, .int .i64 raw.seq, .int .i64 rt, .slice R1 rn1 rc1, .slice R2 rn2 rc2, .int .u64 (raw.tag : Int)] : Array Value)[z]?) ∧ Fr (some g) w8 W) (by kernel_rfl) ⟨b158.cell, b16.cell, b78.cell, (Fr.refl _ _).drew⟩ (fun hH0 => ?_)
            change wpAnyH _ _ _ _ _ 9 #[false, false, false, false, false, false, false, false, false] _ _
            refine wpAnyH_take (i := 0) (v := ?_) rfl (by kernel_rfl) (by kernel_rfl) (by kernel_rfl) (fun _ _ _ h => h) (Or.inl ⟨by rfl, ?_⟩) (by assumption) ?_
            rotate_left
            · (intro W hW; (try dsimp only at hW); go_simp; try with_reducible rfl)
            try simp only [Act.put, List.setIfInBounds_toArray, List.set_cons_zero, List.set_cons_succ, List.getElem_toArray, List.getElem_cons_zero, List.getElem_cons_succ]
            refine wpAnyH_take (i := 1) (v := ?_) rfl (by kernel_rfl) (by kernel_rfl) (by kernel_rfl) (fun _ _ _ h => h) (Or.inl ⟨by rfl, ?_⟩) (by assumption) ?_
            rotate_left
            · (intro W hW; (try dsimp only at hW); go_simp; try with_reducible rfl)
            try simp only [Act.put, List.setIfInBounds_toArray, List.set_cons_zero, List.set_cons_succ, List.getElem_toArray, List.getElem_cons_zero, List.getElem_cons_succ]
            refine wpAnyH_take (i := 2) (v := ?_) rfl (by kernel_rfl) (by kernel_rfl) (by kernel_rfl) (fun _ _ _ h => h) (Or.inl ⟨by rfl, ?_⟩) (by assumption) ?_
            rotate_left
            · (intro W hW; (try dsimp only at hW); go_simp; try with_reducible rfl)
            try simp only [Act.put, List.setIfInBounds_toArray, List.set_cons_zero, List.set_cons_succ, List.getElem_toArray, List.getElem_cons_zero, List.getElem_cons_succ]
            refine wpAnyH_take (i := 3) (v := ?_) rfl (by kernel_rfl) (by kernel_rfl) (by kernel_rfl) (fun _ _ _ h => h) (Or.inl ⟨by rfl, ?_⟩) (by assumption) ?_
            rotate_left
            · (intro W hW; (try dsimp only at hW); go_simp; try with_reducible rfl)
            try simp only [Act.put, List.setIfInBounds_toArray, List.set_cons_zero, List.set_cons_succ, List.getElem_toArray, List.getElem_cons_zero, List.getElem_cons_succ]
            refine wpAnyH_take (i := 5) (v := ?_) rfl (by kernel_rfl) (by kernel_rfl) (by kernel_rfl) (fun _ _ _ h => h) (Or.inl ⟨by rfl, ?_⟩) (by assumption) ?_
            rotate_left
            · (intro W hW; (try dsimp only at hW); go_simp; try with_reducible rfl)
            try simp only [Act.put, List.setIfInBounds_toArray, List.set_cons_zero, List.set_cons_succ, List.getElem_toArray, List.getElem_cons_zero, List.getElem_cons_succ]
            refine wpAnyH_take (i := 8) (v := ?_) rfl (by kernel_rfl) (by kernel_rfl) (by kernel_rfl) (fun _ _ _ h => h) (Or.inl ⟨by rfl, ?_⟩) (by assumption) ?_
            rotate_left
            · (intro W hW; (try dsimp only at hW); go_simp; try with_reducible rfl)
            try simp only [Act.put, List.setIfInBounds_toArray, List.set_cons_zero, List.set_cons_succ, List.getElem_toArray, List.getElem_cons_zero, List.getElem_cons_succ]
            refine wpAnyH_ready (rs := [4]) (by kernel_rfl) (by simp) ?_
            refine AllReadyH.cons rfl (fun K hK => ?_) AllReadyH.nil
            simp only [List.getElem_toArray, List.getElem_cons_zero, List.getElem_cons_succ]
            go_simp
            go_at_call 18
            refine (bentd_any b _ g _ (by omega) (DeD.keep (w := w8) (w' := w8.drew) (fun k hk => ⟨hk, rfl⟩) Hb8.de) S8.drew).mono ?_
            rintro e w9 ⟨vc, c, rfl, hcD, hcs, S9, F9⟩
            obtain ⟨ct, C1, cn1, cc1, C2, cn2, cc2, rfl, _, _, _, _⟩ := hcD.shape
            have F9 := ((Fr.refl (some g) w8).drew).same F9
            refine hK.out _ _ ⟨(b158.fr F9 (by simp; omega)).cell, (b16.fr F9 (by simp; omega)).cell, (b78.fr F9 (by simp; omega)).cell, F9⟩ (fun hH1 => ?_)
            clear hK K hH0
            try simp only [Act.put, List.setIfInBounds_toArray, List.set_cons_zero, List.set_cons_succ, List.getElem_toArray, List.getElem_cons_zero, List.getElem_cons_succ]
            refine wpAnyH_ready (rs := [6]) (by kernel_rfl) (by simp) ?_
            refine AllReadyH.cons rfl (fun K hK => ?_) AllReadyH.nil
            simp only [List.getElem_toArray, List.getElem_cons_zero, List.getElem_cons_succ]
            go_simp
            have FA := F9.alloc (.cells #[.int .i64 d.node, .int .i64 d.seq, .int .i64 dt, .slice D1 dn1 dc1, .slice D2 dn2 dc2, .int .u64 (d.tag : Int), .int .i64 b.node, .int .i64 b.seq, .int .i64 bt, .slice B1 bn1 bc1, .slice B2 bn2 bc2, .int .u64 (b.tag : Int), .int .i64 c.node, .int .i64 c.seq, .int .i64 ct, .slice C1 cn1 cc1, .slice C2 cn2 cc2, .int .u64 (c.tag : Int), .int .i64 raw.node, .int .i64 raw.seq, .int .i64 rt, .slice R1 rn1 rc1, .slice R2 rn2 rc2, .int .u64 (raw.tag : Int)] 45)
            refine hK.out _ _ ⟨(b158.fr FA (by simp; omega)).cell, (b16.fr FA (by simp; omega)).cell, (b78.fr FA (by simp; omega)).cell, FA⟩ (fun hH2 => ?_)
            clear hK K hH1
            try simp only [Act.put, List.setIfInBounds_toArray, List.set_cons_zero, List.set_cons_succ, List.getElem_toArray, List.getElem_cons_zero, List.getElem_cons_succ]
            refine wpAnyH_take (i := 7) (v := ?_) rfl (by kernel_rfl) (by kernel_rfl) (by kernel_rfl) (fun _ _ _ h => h) (Or.inl ⟨by rfl, ?_⟩) (by assumption) ?_
            rotate_left
            · (intro W hW; (try dsimp only at hW); go_simp; try with_reducible rfl)
            try simp only [Act.put, List.setIfInBounds_toArray, List.set_cons_zero, List.set_cons_succ, List.getElem_toArray, List.getElem_cons_zero, List.getElem_cons_succ]
            refine wpAnyH_done (by kernel_rfl) ?_ _
            go_wp2_with fail
            go_meet
            have hz9 := F9.size
            have FB := (Fr.refl none w9).alloc (.cells #[.int .i64 d.node, .int .i64 d.seq, .int .i64 dt, .slice D1 dn1 dc1, .slice D2 dn2 dc2, .int .u64 (d.tag : Int), .int .i64 b.node, .int .i64 b.seq, .int .i64 bt, .slice B1 bn1 bc1, .slice B2 bn2 bc2, .int .u64 (b.tag : Int), .int .i64 c.node, .int .i64 c.seq, .int .i64 ct, .slice C1 cn1 cc1, .slice C2 cn2 cc2, .int .u64 (c.tag : Int), .int .i64 raw.node, .int .i64 raw.seq, .int .i64 rt, .slice R1 rn1 rc1, .slice R2 rn2 rc2, .int .u64 (raw.tag : Int)] 45)
            have hbn := blk_new w9 (.cells #[.int .i64 d.node, .int .i64 d.seq, .int .i64 dt, .slice D1 dn1 dc1, .slice D2 dn2 dc2, .int .u64 (d.tag : Int), .int .i64 b.node, .int .i64 b.seq, .int .i64 bt, .slice B1 bn1 bc1, .slice B2 bn2 bc2, .int .u64 (b.tag : Int), .int .i64 c.node, .int .i64 c.seq, .int .i64 ct, .slice C1 cn1 cc1, .slice C2 cn2 cc2, .int .u64 (c.tag : Int), .int .i64 raw.node, .int .i64 raw.seq, .int .i64 rt, .slice R1 rn1 rc1, .slice R2 rn2 rc2, .int .u64 (raw.tag : Int)] 45)
            have hS9 := S9.fr FB
            have hgz := S9.lt
            have hd8 : w8.drew.heap.size = w8.heap.size := rfl
            generalize w9.alloc _ = wA at *
            have hlb := blk_lt hbn
            have hcell := blk_cell hbn
            have hd := Hd8.fr FA
            have hb := Hb8.fr FA
            have hr := Hr8.fr FA
            have hc : De7 wA g (.agg #[.int .i64 c.node, .int .i64 c.seq, .int .i64 ct, .slice C1 cn1 cc1, .slice C2 cn2 cc2, .int .u64 (c.tag : Int)]) c := De7.fr ⟨hcD, by omega⟩ (FB.mono (r := some g))
            refine ⟨w9.heap.size, [d, b, c, raw], rfl, rfl, rfl, by omega, hlb, rfl, ?_, hS9, FA⟩
            intro j hj
            rcases (show j = 0 ∨ j = 1 ∨ j = 2 ∨ j = 3 by simp at hj; omega) with rfl | rfl | rfl | rfl
            · exact ⟨_, _, _, _, _, _, _, ⟨hcell 0, hcell 1, hcell 2, hcell 3, hcell 4, hcell 5⟩, hd⟩
            · exact ⟨_, _, _, _, _, _, _, ⟨hcell 6, hcell 7, hcell 8, hcell 9, hcell 10, hcell 11⟩, hb⟩
            · exact ⟨_, _, _, _, _, _, _, ⟨hcell 12, hcell 13, hcell 14, hcell 15, hcell 16, hcell 17⟩, hc⟩
            · exact ⟨_, _, _, _, _, _, _, ⟨hcell 18, hcell 19, hcell 20, hcell 21, hcell 22, hcell 23⟩, hr⟩
          case rest =>
            obtain ⟨w10, hw10⟩ : ∃ w10 : World, w10 = wc := ⟨_, rfl⟩
            subst hw10
            obtain ⟨bk, LL, rfl, rfl, rfl, hbk, hbz, hLL, hLst, Sc, Fc⟩ := hcut
            have hgw : w.heap.size ≤ g := by omega
            have F0c : Fr none w w10 := F08.own Fc (by simp; omega)
            have b15c := b158.fr Fc (by simp; omega)
            have b8c := b88.fr Fc (by simp; omega)
            have Hd := Hd8.fr Fc
            have Ho := Ho8.fr Fc
            have Hk := Hk8.keep (fr_dm Fc)
            have K := K8.keep (fr_dm Fc)
            have hgc := Sc.lt
            have hB15g : w5.heap.size ≠ g := by omega
            have hB8g : B8 ≠ g := by omega
            have hB15z := blk_lt b15c
            have hB8z := blk_lt b8c
            have hHL := Lib.hid hLst
            have HLL := Lib.hid hLL
            have HHd := Lib.hid Hd
            have HHo := Lib.hid Ho
            clear b158 b88 b78 b16 Hd8 Hb8 Ho8 Hr8 Hk8 K8 S8 F08 Fc hLst hrs hos hz4 hz4g hz5 hz6 hz7 hz8 l16 Hd Ho hdsz hbs2
            go_wp2_with fail
            go_loopw [71] (fun s71 wr => ∃ j : Nat, j ≤ 4 ∧ s71 = .int .i64 (j : Int) ∧ Fr none w10 wr) (fun s71 _ => 4 - (intOf s71).toNat)
            case atStart => exact ⟨0, by omega, rfl, Fr.refl _ _⟩
            case round =>
              obtain ⟨j, hj, rfl, F⟩ := hrel
              obtain ⟨wz, hwz⟩ : ∃ wz : World, wz = wr := ⟨_, rfl⟩
              subst hwz
              have hzz := F.size
              by_cases hlt : j < 4
              · obtain ⟨xt, X1, xn1, xc1, X2, xn2, xc2, hcel, hX⟩ := hHL.out j (by rw [hLL]; exact hlt)
                obtain ⟨g0, g1, g2, g3, g4, g5⟩ := hcel.fr F (by simp)
                have hX := hX.fr (F.mono (r := some g))
                generalize LL[j]'(by rw [hLL]; exact hlt) = X at *
                go_upto_region 10 with (fail)
                generalize hW : wz.alloc _ = wa
                have Fa : Fr none wz wa := hW ▸ (Fr.refl none wz).alloc _
                have b18 : DB wa wz.heap.size (.int .i64 X.node) (.int .i64 X.seq) (.int .i64 xt) (.slice X1 xn1 xc1) (.slice X2 xn2 xc2) (.int .u64 (X.tag : Int)) := by rw [← hW]; exact blk_new _ _
                clear hW g0 g1 g2 g3 g4 g5 hcel
                have hza := Fa.size
                have l18 := blk_lt b18
                have Fca : Fr none w10 wa := F.pure Fa
                have Fcg : Fr (some g) w10 wa := Fca.mono
                have b15a := b15c.fr Fca (by simp)
                have b8a := b8c.fr Fca (by simp)
                have l15a := blk_lt b15a
                have l8a := blk_lt b8a
                have HHx := Lib.hid (hX.fr (Fa.mono (r := some g)))
                have Hda := Lib.hid (HHd.out.fr Fcg)
                have Hoa := Lib.hid (HHo.out.fr Fcg)
                have Hka := (Hk.keep (fr_dm Fcg)).keep dm_none
                have Ka := (K.keep (fr_dm Fcg)).keep dm_none
                have Ta := hT.fr (F0c.pure Fca)
                have Ba := hB.fr (F0c.pure Fca)
                obtain ⟨SX, hSX⟩ : ∃ S, S = bs (bytesS X) := ⟨_, rfl⟩
                have HSX := Lib.hid hSX
                clear hX hSX F
                go_cut [129] (fun s129 wq => s129 = .bool false ∧ Fr none wa wq)
                case first =>
                  refine law07r_any X d oth SX xt dt ot X1 X2 D1 D2 O1 O2 xn1 xc1 xn2 xc2 dn1 dc1 dn2 dc2 on1 oc1 on2 oc2 g _ _ B8 A3 Ak c3 ck keys ks wa _ _ _ _ _ _ _ _ _ _ _ _ _ _ _ _ _ _ _ _ _ _ _ _ _ _ _ _ _ _ _ _ _ _ _ _ _ _ _ _ _ _ _ _ _ _ _ _ _ _ _ _ _ _ _ _ _ _ _ _ _ _ _ _ _ _ _ _ _ _ _ _ _ _ _ _ _ _ _ _ _ _ _ _ _ _ _ _ _ _ _ _ _ _ _ _ _ _ _ _ _ _ _ _ _ _ _ _ _ _ _ _ _ _ _ _ _ _ _ _ _ _ _ _ _ _ _ _ _ _ _ _ _ _ _ _ _ _ _ _ _ _ _ _ _ _ _ _ _ _ _ _ _ _ _ _ _ _ _ _ _ _ _ _ _ _ _ _ _ _ _ _ _ _ _ _ _ _ _ _ _ _ _ _ _ _ _ _ _ _ _ _ _ _ _ _ _ _ _ _ _ _ _ _ _ _ _ _ _ _ _ _ _ _ _ _ _ _ _ _ _ _ _ _ _ _ _ _ _ _ _ _ _ _ _ _ _ _ _ b18 b15a b8a HHx Hda Hoa Ka Hka HKS HKS0 Ta Ba HSX _ _ (by exact Lib.hid (fun _ _ _ _ _ h => h)) (Lib.hid (fun u75 u76 u77 u78 u79 u80 u81 u82 u83 u84 u85 u86 u87 u88 u89 u90 u91 u92 u93 u94 u95 u96 u97 u98 u99 u100 u101 u102 u103 u104 u105 u106 u107 u108 u109 u110 u111 u112 u113 u114 u115 u116 u117 u118 u119 u120 u121 u122 u123 u124 u125 u126 u127 u128 wx Fx => ?_))
                  go_wp2_with fail
                  go_meet
                  exact ⟨rfl, Fx⟩
                case rest =>
                  obtain ⟨wb, hwb⟩ : ∃ wb : World, wb = wc := ⟨_, rfl⟩
                  subst hwb
                  obtain ⟨rfl, Fb⟩ := hcut
                  have hzb := Fb.size
                  have Fcb := Fca.pure Fb
                  have Fcbg : Fr (some g) w10 wb := Fcb.mono
                  have b18b := b18.fr Fb (by simp)
                  have HXb := HHx.out.fr (Fb.mono (r := some g))
                  have hXn := HXb.de
                  obtain ⟨hXT, hXW1, hXW2, _⟩ := HXb.de.parts
                  have R18 := b18b.cell
                  have l18b := blk_lt b18b
                  have b15b := b15c.fr Fcb (by simp)
                  have b8b := b8c.fr Fcb (by simp)
                  have hgb : g < wb.heap.size := by have := Fcb.size; omega
                  have Tb := hT.fr (F0c.pure Fcb)
                  obtain ⟨Y, hY⟩ : ∃ Y, Y = sgD key X.node X.seq X.tr := ⟨_, rfl⟩
                  obtain ⟨ec, hec⟩ : ∃ ec, ec = plainE ⟨X.node, X.seq, X.tr, 0⟩ := ⟨_, rfl⟩
                  have con1 : Calls Tryz.prog 29 #[.int .u64 key, .int .i64 X.node, .int .i64 X.seq, .agg #[.int .i64 xt, .slice X1 xn1 xc1, .slice X2 xn2 xc2]] wb (SgnQ Y ec (some g) wb) := by
                    rw [hY, hec]
                    exact signG_any key HKY.out X.node X.seq X.tr _ wb g hgb hXW1 hXW2 HXb.big hXT Tb
                  have con2 : ∀ w', Fr none wb w' → Calls Tryz.prog 30 #[.int .u64 key, .int .i64 X.node, .int .i64 X.seq, .agg #[.int .i64 xt, .slice X1 xn1 xc1, .slice X2 xn2 xc2]] w' (SgnQ Y ec (some g) w') := fun w' Fw => by
                    rw [hY, hec]
                    exact rsignG_any key HKY.out X.node X.seq X.tr _ w' (some g) hXW1 hXW2 HXb.big (TrD.keep (fr_dm (Fw.mono (r := some g))) _ _ hXT) (Tb.fr Fw)
                  have C1 := Lib.hid con1
                  have C2 := Lib.hid con2
                  have HHX := Lib.hid HXb
                  clear con1 con2 hY hec hXn hXT hXW1 hXW2 HXb Fca Ta Ba Ka Hka Hda Hoa HHx HSX b18 b15a b8a l18 l15a l8a Fcg
                  go_upto_region 13 with (go_at_call 29; refine C1.out.mono ?_; rintro e wq ⟨vq, rfl, hq, Fq⟩; obtain ⟨yt, Y1, yn1, yc1, Y2, yn2, yc2, rfl, _, _, _, _⟩ := hq.shape)
                  generalize hW : wq.alloc _ = wr1
                  have F1 : Fr none wq wr1 := hW ▸ (Fr.refl none wq).alloc _
                  have b19 : DB wr1 wq.heap.size (.int .i64 Y.node) (.int .i64 Y.seq) (.int .i64 yt) (.slice Y1 yn1 yc1) (.slice Y2 yn2 yc2) (.int .u64 (Y.tag : Int)) := by rw [← hW]; exact blk_new _ _
                  clear hW
                  have hzq := Fq.size
                  have hz1' := F1.size
                  have Fb1 := Fq.pure F1
                  have b181 := b18b.fr Fb1 (by simp)
                  have hq1 : DeD wr1 (Dm wr1 (some g)) (.agg #[.int .i64 Y.node, .int .i64 Y.seq, .int .i64 yt, .slice Y1 yn1 yc1, .slice Y2 yn2 yc2, .int .u64 (Y.tag : Int)]) Y := hq.keep (fr_dm (F1.mono (r := some g)))
                  have R181 := b181.cell
                  have l181 := blk_lt b181
                  have R19 := b19.cell
                  have l19 := blk_lt b19
                  clear hq Fq F1 R18 l18b
                  go_upto_region 14 with (go_at_call 30; refine (C2.out _ Fb1).mono ?_; rintro e ws ⟨vs, rfl, hs, Fs⟩; obtain ⟨zt, Z1, zn1, zc1, Z2, zn2, zc2, rfl, _, _, _, _⟩ := hs.shape)
                  generalize hW : ws.alloc _ = wt
                  have F2 : Fr none ws wt := hW ▸ (Fr.refl none ws).alloc _
                  have b21 : DB wt ws.heap.size (.int .i64 Y.node) (.int .i64 Y.seq) (.int .i64 zt) (.slice Z1 zn1 zc1) (.slice Z2 zn2 zc2) (.int .u64 (Y.tag : Int)) := by rw [← hW]; exact blk_new _ _
                  clear hW
                  have hzs := Fs.size
                  have hz2' := F2.size
                  have F1t := Fs.pure F2
                  have hq2 := hq1.keep (fr_dm (F1t.mono (r := some g)))
                  have hs2 : DeD wt (Dm wt (some g)) (.agg #[.int .i64 Y.node, .int .i64 Y.seq, .int .i64 zt, .slice Z1 zn1 zc1, .slice Z2 zn2 zc2, .int .u64 (Y.tag : Int)]) Y := hs.keep (fr_dm (F2.mono (r := some g)))
                  have b192 := b19.fr F1t (by simp)
                  have R192 := b192.cell
                  have R21 := b21.cell
                  have l192 := blk_lt b192
                  have l21 := blk_lt b21
                  have cs := rsame7_any Y Y _ _ wt _ hq2 hs2 rfl
                  have Fbt := Fb1.pure F1t
                  have b18t := b181.fr F1t (by simp)
                  have b15t := b15b.fr Fbt (by simp)
                  have b8t := b8b.fr Fbt (by simp)
                  clear hs hq1 Fs F2 F1t Fb1 R181 l181 R19 l19 b181 b19 hq2 hs2 b192 b21
                  go_upto_region 16 with (go_at_call 31; refine cs.mono ?_; rintro e wu ⟨rfl, Fu⟩)
                  clear R192 R21 l192 l21 cs
                  have b18u := b18t.fr Fu (by simp)
                  have b15u := b15t.fr Fu (by simp)
                  have b8u := b8t.fr Fu (by simp)
                  have R18 := b18u.cell
                  have R15 := b15u.cell
                  have R8 := b8u.cell
                  have l18u := blk_lt b18u
                  have l15u := blk_lt b15u
                  have l8u := blk_lt b8u
                  have Fbu := Fbt.pure Fu
                  have Fcu := Fcb.pure Fbu
                  clear b18t b15t b8t Fu Fbt b18b b15b b8b C1 C2
                  go_upto_region 17 with (fail)
                  generalize hW : wu.alloc _ = wv
                  have Fv : Fr none wu wv := hW ▸ (Fr.refl none wu).alloc _
                  have be : wv.heap[wu.heap.size]? = some (.cells #[.int .i64 d.node, .int .i64 d.seq, .int .i64 dt, .slice D1 dn1 dc1, .slice D2 dn2 dc2, .int .u64 (d.tag : Int), .int .i64 X.node, .int .i64 X.seq, .int .i64 xt, .slice X1 xn1 xc1, .slice X2 xn2 xc2, .int .u64 (X.tag : Int), .int .i64 X.node, .int .i64 X.seq, .int .i64 xt, .slice X1 xn1 xc1, .slice X2 xn2 xc2, .int .u64 (X.tag : Int), .int .i64 oth.node, .int .i64 oth.seq, .int .i64 ot, .slice O1 on1 oc1, .slice O2 on2 oc2, .int .u64 (oth.tag : Int), .int .i64 X.node, .int .i64 X.seq, .int .i64 xt, .slice X1 xn1 xc1, .slice X2 xn2 xc2, .int .u64 (X.tag : Int), .int .i64 d.node, .int .i64 d.seq, .int .i64 dt, .slice D1 dn1 dc1, .slice D2 dn2 dc2, .int .u64 (d.tag : Int)] 61) := by rw [← hW]; exact blk_new _ _
                  clear hW R18 R15 R8 l18u l15u l8u b18u b15u b8u
                  have hcell := blk_cell be
                  have lbe := blk_lt be
                  have hzv := Fv.size
                  have Fcv := Fcu.pure Fv
                  have hXv := HHX.out.fr ((Fbu.pure Fv).mono (r := some g))
                  have hdv := HHd.out.fr (Fcv.mono (r := some g))
                  have hov := HHo.out.fr (Fcv.mono (r := some g))
                  have hPr : ∀ k, k < 3 → Prs7 wv g wu.heap.size k := fun k hk => by
                    rcases (show k = 0 ∨ k = 1 ∨ k = 2 by omega) with rfl | rfl | rfl
                    · exact ⟨d, X, _, _, _, _, _, _, _, _, _, _, _, _, _, _, ⟨hcell 0, hcell 1, hcell 2, hcell 3, hcell 4, hcell 5⟩, ⟨hcell 6, hcell 7, hcell 8, hcell 9, hcell 10, hcell 11⟩, hdv, hXv⟩
                    · exact ⟨X, oth, _, _, _, _, _, _, _, _, _, _, _, _, _, _, ⟨hcell 12, hcell 13, hcell 14, hcell 15, hcell 16, hcell 17⟩, ⟨hcell 18, hcell 19, hcell 20, hcell 21, hcell 22, hcell 23⟩, hXv, hov⟩
                    · exact ⟨X, d, _, _, _, _, _, _, _, _, _, _, _, _, _, _, ⟨hcell 24, hcell 25, hcell 26, hcell 27, hcell 28, hcell 29⟩, ⟨hcell 30, hcell 31, hcell 32, hcell 33, hcell 34, hcell 35⟩, hXv, hdv⟩
                  have HPR := Lib.hid hPr
                  have Fbv := Fbu.pure Fv
                  have hKv := (K.keep (fr_dm (Fcv.mono (r := some g)))).keep dm_none
                  have hHv := (Hk.keep (fr_dm (Fcv.mono (r := some g)))).keep dm_none
                  have Tv := hT.fr (F0c.pure Fcv)
                  clear hcell be hPr hXv hdv hov Fv Fbu Fcu Tb HHX hgb
                  go_wp2_with fail
                  go_loopw [172] (fun s172 wr => ∃ k : Nat, k ≤ 3 ∧ s172 = .int .i64 (k : Int) ∧ Fr none wv wr) (fun s172 _ => 3 - (intOf s172).toNat)
                  case atStart => exact ⟨0, by omega, rfl, Fr.refl _ _⟩
                  case round =>
                    obtain ⟨k, hk, rfl, Fk⟩ := hrel
                    obtain ⟨wk, hwk⟩ : ∃ wk : World, wk = wr := ⟨_, rfl⟩
                    subst hwk
                    have hzk := Fk.size
                    by_cases hlt3 : k < 3
                    · obtain ⟨a, b, th, A1, n1, c1, A2, n2, c2, th', a1, m1, e1, a2, m2, e2, p1, p2, ha, hb⟩ := HPR.out k hlt3
                      obtain ⟨g0, g1, g2, g3, g4, g5⟩ := p1.fr Fk (by simp)
                      obtain ⟨g6, g7, g8, g9, g10, g11⟩ := p2.fr Fk (by simp)
                      go_upto_region 19 with (fail)
                      generalize hW : wk.alloc _ = wl
                      have Fl : Fr none wk wl := hW ▸ (Fr.refl none wk).alloc _
                      have b24 : wl.heap[wk.heap.size]? = some (.cells #[.int .i64 a.node, .int .i64 a.seq, .int .i64 th, .slice A1 n1 c1, .slice A2 n2 c2, .int .u64 (a.tag : Int), .int .i64 b.node, .int .i64 b.seq, .int .i64 th', .slice a1 m1 e1, .slice a2 m2 e2, .int .u64 (b.tag : Int)] 61 (0, 0)) := by rw [← hW]; exact blk_new _ _
                      clear hW g0 g1 g2 g3 g4 g5 g6 g7 g8 g9 g10 g11 p1 p2
                      have l24 := blk_lt b24
                      have Fkl := Fk.pure Fl
                      have Ha := Lib.hid (ha.fr (Fkl.mono (r := some g)))
                      have Hb := Lib.hid (hb.fr (Fkl.mono (r := some g)))
                      have Kl := hKv.keep (fr_dm Fkl)
                      have Hl := hHv.keep (fr_dm Fkl)
                      have Tl := Tv.fr Fkl
                      clear ha hb Fl
                      refine wp_region_held_drew (S := fun W => (∀ z, W.cell? ⟨wk.heap.size, z, none⟩ = (#[.int .i64 a.node, .int .i64 a.seq, .int .i64 th, .slice A1 n1 c1, .slice A2 n2 c2, .int .u64 (a.tag : Int), .int .i64 b.node, .int .i64 b.seq, .int .i64 th', .slice a1 m1 e1, .slice a2 m2 e2, .int .u64 (b.tag : Int)] : Array Value)[z]?) ∧ Fr none wl W) (by kernel_rfl) ⟨blk_cell b24, (Fr.refl _ _).drew⟩ (fun hH0 => ?_)
                      change wpAnyH _ _ _ _ _ 16 #[false, false, false, false, false, false, false, false, false, false, false, false, false, false, false, false] _ _
                      refine wpAnyH_take (i := 0) (v := ?_) rfl (by kernel_rfl) (by kernel_rfl) (by kernel_rfl) (fun _ _ _ h => h) (Or.inl ⟨by rfl, ?_⟩) (by assumption) ?_
                      rotate_left
                      · (intro W hW; (try dsimp only at hW); go_simp; try with_reducible rfl)
                      try simp only [Act.put, List.setIfInBounds_toArray, List.set_cons_zero, List.set_cons_succ, List.getElem_toArray, List.getElem_cons_zero, List.getElem_cons_succ]
                      refine wpAnyH_take (i := 1) (v := ?_) rfl (by kernel_rfl) (by kernel_rfl) (by kernel_rfl) (fun _ _ _ h => h) (Or.inl ⟨by rfl, ?_⟩) (by assumption) ?_
                      rotate_left
                      · (intro W hW; (try dsimp only at hW); go_simp; try with_reducible rfl)
                      try simp only [Act.put, List.setIfInBounds_toArray, List.set_cons_zero, List.set_cons_succ, List.getElem_toArray, List.getElem_cons_zero, List.getElem_cons_succ]
                      refine wpAnyH_take (i := 3) (v := ?_) rfl (by kernel_rfl) (by kernel_rfl) (by kernel_rfl) (fun _ _ _ h => h) (Or.inl ⟨by rfl, ?_⟩) (by assumption) ?_
                      rotate_left
                      · (intro W hW; (try dsimp only at hW); go_simp; try with_reducible rfl)
                      try simp only [Act.put, List.setIfInBounds_toArray, List.set_cons_zero, List.set_cons_succ, List.getElem_toArray, List.getElem_cons_zero, List.getElem_cons_succ]
                      refine wpAnyH_take (i := 4) (v := ?_) rfl (by kernel_rfl) (by kernel_rfl) (by kernel_rfl) (fun _ _ _ h => h) (Or.inl ⟨by rfl, ?_⟩) (by assumption) ?_
                      rotate_left
                      · (intro W hW; (try dsimp only at hW); go_simp; try with_reducible rfl)
                      try simp only [Act.put, List.setIfInBounds_toArray, List.set_cons_zero, List.set_cons_succ, List.getElem_toArray, List.getElem_cons_zero, List.getElem_cons_succ]
                      refine wpAnyH_ready (rs := [2]) (by kernel_rfl) (by simp) ?_
                      refine AllReadyH.cons rfl (fun K hK => ?_) AllReadyH.nil
                      simp only [List.getElem_toArray, List.getElem_cons_zero, List.getElem_cons_succ]
                      go_simp
                      go_at_call 32
                      refine (provesG_any ks _ a b th th' A1 A2 a1 a2 n1 c1 n2 c2 m1 e1 m2 e2 _ HKS.out (Kl.keep (fr_dm hH0.2)) (Ha.out.none.keep (fr_dm hH0.2)) (Hb.out.none.keep (fr_dm hH0.2)) Ha.out.big Hb.out.big (Tl.fr hH0.2)).mono ?_
                      rintro e wN ⟨rfl, FN⟩
                      have FN := hH0.2.pure FN
                      refine hK.out _ _ ⟨fun i => blk_cell (blk_fr b24 FN (by simp)) i, FN⟩ (fun hH1 => ?_)
                      clear hK K hH0 FN
                      have hH0 := hH1
                      clear hH1
                      try simp only [Act.put, List.setIfInBounds_toArray, List.set_cons_zero, List.set_cons_succ, List.getElem_toArray, List.getElem_cons_zero, List.getElem_cons_succ]
                      refine wpAnyH_ready (rs := [5]) (by kernel_rfl) (by simp) ?_
                      refine AllReadyH.cons rfl (fun K hK => ?_) AllReadyH.nil
                      simp only [List.getElem_toArray, List.getElem_cons_zero, List.getElem_cons_succ]
                      go_simp
                      go_at_call 33
                      refine (rprovesG_any ks _ a b th th' A1 A2 a1 a2 n1 c1 n2 c2 m1 e1 m2 e2 _ HKS.out (Kl.keep (fr_dm hH0.2)) (Ha.out.none.keep (fr_dm hH0.2)) (Hb.out.none.keep (fr_dm hH0.2)) Ha.out.big Hb.out.big (Tl.fr hH0.2)).mono ?_
                      rintro e wN ⟨rfl, FN⟩
                      have FN := hH0.2.pure FN
                      refine hK.out _ _ ⟨fun i => blk_cell (blk_fr b24 FN (by simp)) i, FN⟩ (fun hH1 => ?_)
                      clear hK K hH0 FN
                      have hH0 := hH1
                      clear hH1
                      try simp only [Act.put, List.setIfInBounds_toArray, List.set_cons_zero, List.set_cons_succ, List.getElem_toArray, List.getElem_cons_zero, List.getElem_cons_succ]
                      refine wpAnyH_take (i := 6) (v := ?_) rfl (by kernel_rfl) (by kernel_rfl) (by kernel_rfl) (fun _ _ _ h => h) (Or.inl ⟨by rfl, ?_⟩) (by assumption) ?_
                      rotate_left
                      · (intro W hW; (try dsimp only at hW); go_simp; try with_reducible rfl)
                      try simp only [Act.put, List.setIfInBounds_toArray, List.set_cons_zero, List.set_cons_succ, List.getElem_toArray, List.getElem_cons_zero, List.getElem_cons_succ]
                      refine wpAnyH_take (i := 7) (v := ?_) rfl (by kernel_rfl) (by kernel_rfl) (by kernel_rfl) (fun _ _ _ h => h) (Or.inl ⟨by rfl, ?_⟩) (by assumption) ?_
                      rotate_left
                      · (intro W hW; (try dsimp only at hW); go_simp; try with_reducible rfl)
                      try simp only [Act.put, List.setIfInBounds_toArray, List.set_cons_zero, List.set_cons_succ, List.getElem_toArray, List.getElem_cons_zero, List.getElem_cons_succ]
                      refine wpAnyH_take (i := 8) (v := ?_) rfl (by kernel_rfl) (by kernel_rfl) (by kernel_rfl) (fun _ _ _ h => h) (Or.inl ⟨by rfl, ?_⟩) (by assumption) ?_
                      rotate_left
                      · (intro W hW; (try dsimp only at hW); go_simp; try with_reducible rfl)
                      try simp only [Act.put, List.setIfInBounds_toArray, List.set_cons_zero, List.set_cons_succ, List.getElem_toArray, List.getElem_cons_zero, List.getElem_cons_succ]
                      refine wpAnyH_take (i := 9) (v := ?_) rfl (by kernel_rfl) (by kernel_rfl) (by kernel_rfl) (fun _ _ _ h => h) (Or.inl ⟨by rfl, ?_⟩) (by assumption) ?_
                      rotate_left
                      · (intro W hW; (try dsimp only at hW); go_simp; try with_reducible rfl)
                      try simp only [Act.put, List.setIfInBounds_toArray, List.set_cons_zero, List.set_cons_succ, List.getElem_toArray, List.getElem_cons_zero, List.getElem_cons_succ]
                      refine wpAnyH_take (i := 11) (v := ?_) rfl (by kernel_rfl) (by kernel_rfl) (by kernel_rfl) (fun _ _ _ h => h) (Or.inl ⟨by rfl, ?_⟩) (by assumption) ?_
                      rotate_left
                      · (intro W hW; (try dsimp only at hW); go_simp; try with_reducible rfl)
                      try simp only [Act.put, List.setIfInBounds_toArray, List.set_cons_zero, List.set_cons_succ, List.getElem_toArray, List.getElem_cons_zero, List.getElem_cons_succ]
                      refine wpAnyH_take (i := 12) (v := ?_) rfl (by kernel_rfl) (by kernel_rfl) (by kernel_rfl) (fun _ _ _ h => h) (Or.inl ⟨by rfl, ?_⟩) (by assumption) ?_
                      rotate_left
                      · (intro W hW; (try dsimp only at hW); go_simp; try with_reducible rfl)
                      try simp only [Act.put, List.setIfInBounds_toArray, List.set_cons_zero, List.set_cons_succ, List.getElem_toArray, List.getElem_cons_zero, List.getElem_cons_succ]
                      refine wpAnyH_ready (rs := [10]) (by kernel_rfl) (by simp) ?_
                      refine AllReadyH.cons rfl (fun K hK => ?_) AllReadyH.nil
                      simp only [List.getElem_toArray, List.getElem_cons_zero, List.getElem_cons_succ]
                      go_simp
                      go_at_call 32
                      refine (provesG_any keys _ a b th th' A1 A2 a1 a2 n1 c1 n2 c2 m1 e1 m2 e2 _ HKS0.out (Hl.keep (fr_dm hH0.2)) (Ha.out.none.keep (fr_dm hH0.2)) (Hb.out.none.keep (fr_dm hH0.2)) Ha.out.big Hb.out.big (Tl.fr hH0.2)).mono ?_
                      rintro e wN ⟨rfl, FN⟩
                      have FN := hH0.2.pure FN
                      refine hK.out _ _ ⟨fun i => blk_cell (blk_fr b24 FN (by simp)) i, FN⟩ (fun hH1 => ?_)
                      clear hK K hH0 FN
                      have hH0 := hH1
                      clear hH1
                      try simp only [Act.put, List.setIfInBounds_toArray, List.set_cons_zero, List.set_cons_succ, List.getElem_toArray, List.getElem_cons_zero, List.getElem_cons_succ]
                      refine wpAnyH_ready (rs := [13]) (by kernel_rfl) (by simp) ?_
                      refine AllReadyH.cons rfl (fun K hK => ?_) AllReadyH.nil
                      simp only [List.getElem_toArray, List.getElem_cons_zero, List.getElem_cons_succ]
                      go_simp
                      go_at_call 33
                      refine (rprovesG_any keys _ a b th th' A1 A2 a1 a2 n1 c1 n2 c2 m1 e1 m2 e2 _ HKS0.out (Hl.keep (fr_dm hH0.2)) (Ha.out.none.keep (fr_dm hH0.2)) (Hb.out.none.keep (fr_dm hH0.2)) Ha.out.big Hb.out.big (Tl.fr hH0.2)).mono ?_
                      rintro e wN ⟨rfl, FN⟩
                      have FN := hH0.2.pure FN
                      refine hK.out _ _ ⟨fun i => blk_cell (blk_fr b24 FN (by simp)) i, FN⟩ (fun hH1 => ?_)
                      clear hK K hH0 FN
                      have hH0 := hH1
                      clear hH1
                      try simp only [Act.put, List.setIfInBounds_toArray, List.set_cons_zero, List.set_cons_succ, List.getElem_toArray, List.getElem_cons_zero, List.getElem_cons_succ]
                      refine wpAnyH_take (i := 14) (v := ?_) rfl (by kernel_rfl) (by kernel_rfl) (by kernel_rfl) (fun _ _ _ h => h) (Or.inl ⟨by rfl, ?_⟩) (by assumption) ?_
                      rotate_left
                      · (intro W hW; (try dsimp only at hW); go_simp; try with_reducible rfl)
                      try simp only [Act.put, List.setIfInBounds_toArray, List.set_cons_zero, List.set_cons_succ, List.getElem_toArray, List.getElem_cons_zero, List.getElem_cons_succ]
                      refine wpAnyH_take (i := 15) (v := ?_) rfl (by kernel_rfl) (by kernel_rfl) (by kernel_rfl) (fun _ _ _ h => h) (Or.inl ⟨by rfl, ?_⟩) (by assumption) ?_
                      rotate_left
                      · (intro W hW; (try dsimp only at hW); go_simp; try with_reducible rfl)
                      try simp only [Act.put, List.setIfInBounds_toArray, List.set_cons_zero, List.set_cons_succ, List.getElem_toArray, List.getElem_cons_zero, List.getElem_cons_succ]
                      refine wpAnyH_done (by kernel_rfl) ?_ _
                      have FE := Fkl.pure hH0.2
                      clear Fkl Ha Hb Kl Hl Tl b24
                      go_wp2_with fail
                      go_roundw
                      case rel => exact ⟨k + 1, by omega, by go_num, FE⟩
                      case measure => simp [intOf]; omega
                    · obtain rfl : k = 3 := by omega
                      have FE := Fcv.pure Fk
                      clear Fk Fcv hKv hHv Tv HPR
                      go_wp2_with fail
                      go_roundw
                      case rel => exact ⟨j + 1, by omega, by go_num, FE⟩
                      case measure => simp [intOf]; omega
              · obtain rfl : j = 4 := by omega
                have b15z := b15c.fr F (by simp)
                have R15 := b15z.cell
                have l15z := blk_lt b15z
                have Fg : Fr (some g) w10 wz := F.mono
                have hdz := Lib.hid (HHd.out.fr Fg)
                have Sz := Sc.fr F
                have F0z := F0c.pure F
                clear hHL HLL HHo K Hk b8c b15c F0c Fg F hlt
                go_wp2_with fail
                refine (rdtextG_any d _ _ none hdz.out.none hdz.out.big (hT.fr F0z)).mono ?_
                rintro e wA ⟨rfl, FA⟩
                obtain ⟨G, hG⟩ : ∃ G, G = bs (txtD d) := ⟨_, rfl⟩
                have hGs : G.size ≤ 2517 := by rw [hG, bs_size]; unfold txtD; rw [if_pos HPD.out]; exact textD_len d
                rw [← hG]
                have SA := Sz.fr FA
                clear hG R15 l15z b15z
                go_wp2_with fail
                refine (spoilt07_any G g _ (by omega) SA).mono ?_
                rintro e wB ⟨Z, rfl, hZ, SB, FB⟩
                have F0B := (F0z.pure FA).own FB (by simp; omega)
                clear FA FB SA SB Sz F0z hdz
                go_upto_region 25 with (fail)
                generalize hW : wB.alloc _ = wC
                have FC : Fr none wB wC := hW ▸ (Fr.refl none wB).alloc _
                have bs3 : wC.heap[wB.heap.size]? = some (.cells #[.string G, .string Z, .string text] 9) := by rw [← hW]; exact blk_new _ _
                clear hW
                have hStr : ∀ k, k < 3 → ∃ S : ByteArray, wC.cell? ⟨wB.heap.size, k, none⟩ = some (.string S) ∧ S.size ≤ 8000 := fun k hk => by
                  rcases (show k = 0 ∨ k = 1 ∨ k = 2 by omega) with rfl | rfl | rfl
                  · exact ⟨G, blk_cell bs3 0, by omega⟩
                  · exact ⟨Z, blk_cell bs3 1, by omega⟩
                  · exact ⟨text, blk_cell bs3 2, ht8'⟩
                have HST := Lib.hid hStr
                have lb3 := blk_lt bs3
                have F0C := F0B.pure FC
                clear bs3 hStr FC F0B
                go_wp2_with fail
                go_loopw [203] (fun s203 wr => ∃ k : Nat, k ≤ 3 ∧ s203 = .int .i64 (k : Int) ∧ Fr none wC wr) (fun s203 _ => 3 - (intOf s203).toNat)
                case atStart => exact ⟨0, by omega, rfl, Fr.refl _ _⟩
                case round =>
                  obtain ⟨k, hk, rfl, Fk⟩ := hrel
                  obtain ⟨wk, hwk⟩ : ∃ wk : World, wk = wr := ⟨_, rfl⟩
                  subst hwk
                  have hzk := Fk.size
                  have F0k := F0C.pure Fk
                  by_cases hlt3 : k < 3
                  · obtain ⟨S, hS1, hS2⟩ := HST.out k hlt3
                    have hS1 := Fk.keep hS1 (by simp)
                    obtain ⟨Y, hY⟩ : ∃ Y, Y = (parD S.data.toList).1 := ⟨_, rfl⟩
                    obtain ⟨ec, hec⟩ : ∃ ec, ec = (parD S.data.toList).2 := ⟨_, rfl⟩
                    have con1 : Calls Tryz.prog 35 #[.string S] wk (SgnQ Y ec none wk) := by
                      rw [hY, hec]
                      exact dparseG_any S wk (by omega) (hT.fr F0k) (hB.fr F0k) (hE.fr F0k)
                    have con2 : ∀ w', Fr none wk w' → Calls Tryz.prog 36 #[.string S] w' (SgnQ Y ec none w') := fun w' Fw => by
                      rw [hY, hec]
                      exact rdparseG_any S w' (by omega) (hT.fr (F0k.pure Fw))
                    have C1 := Lib.hid con1
                    have C2 := Lib.hid con2
                    clear con1 con2 hY hec
                    go_upto_region 28 with (go_at_call 35; refine C1.out.mono ?_; rintro e wq ⟨vq, rfl, hq, Fq⟩; obtain ⟨yt, Y1, yn1, yc1, Y2, yn2, yc2, rfl, _, _, _, _⟩ := hq.shape)
                    generalize hW : wq.alloc _ = wr1
                    have F1 : Fr none wq wr1 := hW ▸ (Fr.refl none wq).alloc _
                    have b19 : DB wr1 wq.heap.size (.int .i64 Y.node) (.int .i64 Y.seq) (.int .i64 yt) (.slice Y1 yn1 yc1) (.slice Y2 yn2 yc2) (.int .u64 (Y.tag : Int)) := by rw [← hW]; exact blk_new _ _
                    clear hW hS1
                    have hzq := Fq.size
                    have hz1' := F1.size
                    have Fb1 := Fq.pure F1
                    have hq1 : DeD wr1 (Dm wr1 none) (.agg #[.int .i64 Y.node, .int .i64 Y.seq, .int .i64 yt, .slice Y1 yn1 yc1, .slice Y2 yn2 yc2, .int .u64 (Y.tag : Int)]) Y := hq.keep (fr_dm F1)
                    have R19 := b19.cell
                    have l19 := blk_lt b19
                    clear hq Fq F1
                    go_upto_region 29 with (go_at_call 36; refine (C2.out _ Fb1).mono ?_; rintro e ws ⟨vs, rfl, hs, Fs⟩; obtain ⟨zt, Z1, zn1, zc1, Z2, zn2, zc2, rfl, _, _, _, _⟩ := hs.shape)
                    generalize hW : ws.alloc _ = wt
                    have F2 : Fr none ws wt := hW ▸ (Fr.refl none ws).alloc _
                    have b21 : DB wt ws.heap.size (.int .i64 Y.node) (.int .i64 Y.seq) (.int .i64 zt) (.slice Z1 zn1 zc1) (.slice Z2 zn2 zc2) (.int .u64 (Y.tag : Int)) := by rw [← hW]; exact blk_new _ _
                    clear hW
                    have hzs := Fs.size
                    have hz2' := F2.size
                    have F1t := Fs.pure F2
                    have hq2 := hq1.keep (fr_dm F1t)
                    have hs2 : DeD wt (Dm wt none) (.agg #[.int .i64 Y.node, .int .i64 Y.seq, .int .i64 zt, .slice Z1 zn1 zc1, .slice Z2 zn2 zc2, .int .u64 (Y.tag : Int)]) Y := hs.keep (fr_dm F2)
                    have b192 := b19.fr F1t (by simp)
                    have R192 := b192.cell
                    have R21 := b21.cell
                    have l192 := blk_lt b192
                    have l21 := blk_lt b21
                    have cs := Lib.hid (rsame7_any Y Y _ _ wt _ hq2 hs2 rfl)
                    have Fkt := Fk.pure (Fb1.pure F1t)
                    clear hs hq1 Fs F2 F1t Fb1 R19 l19 b19 hq2 hs2 b192 b21 C1 C2
                    go_wp2_with (first | (go_at_call 31; refine cs.out.mono ?_; rintro e wu ⟨rfl, Fu⟩) | (go_at_call 37; refine (hash_any S _ (by omega)).mono ?_; rintro e wu2 ⟨rfl, Fu2⟩) | (go_at_call 38; refine (rhash_any S _ (by omega)).mono ?_; rintro e wu3 ⟨rfl, rfl⟩) | (go_at_call 39; refine (tag_any key HKY.out S _ (by omega)).mono ?_; rintro e wu4 ⟨rfl, Fu4⟩) | (go_at_call 40; refine (rtag_any key HKY.out S _ (by omega)).mono ?_; rintro e wu5 ⟨rfl, Fu5⟩))
                    go_roundw
                    case rel => exact ⟨k + 1, by omega, by go_num, (((Fkt.pure Fu).pure Fu2).pure Fu4).pure Fu5⟩
                    case measure => simp [intOf]; omega
                  · obtain rfl : k = 3 := by omega
                    clear HST hlt3
                    go_wp2_with fail
                    refine (awake7_any _ (hT.fr F0k)).mono ?_
                    rintro e wf ⟨rfl, FF⟩
                    go_wp2_with fail
                    go_ret
                    exact ⟨rfl, (F0k).pure FF⟩
end Go.Proofs.YtoblhcieidljjaaGreatDoor

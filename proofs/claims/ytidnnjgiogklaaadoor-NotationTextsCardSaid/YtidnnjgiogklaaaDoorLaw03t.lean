/- The law NotationTexts: its walk. -/
import Derived.Test.YtidnnjgiogklaaaDoorProg
import Derived.Test.YtidnnjgiogklaaaDoorCanW
import Derived.Test.YtidnnjgiogklaaaDoorParS
import Derived.Test.YtidnnjgiogklaaaDoorSameW
import Derived.Test.YtidnnjgiogklaaaDoorBentW
import Derived.Test.YtidnnjgiogklaaaDoorSmallW
namespace Go.Proofs.YtidnnjgiogklaaaDoor
open Go.RowKit

/-- The trusts of the loop: in memory, small enough. -/
def Lst3 (w : World) (A : Option Addr) (L : List Tr) : Prop :=
  ∃ cells, SlD w (Dm w none) 3 (.slice A 3 3) cells ∧ TrsD w (Dm w none) cells L ∧ ∀ x ∈ L, x.size ≤ 1000000

theorem text3_fix (t : Tr) (S : ByteArray) (hS : Hid (S = bs (textT t))) (v : Value) (w : World) (r : Option Nat) (hsz : t.size ≤ 1073741000) (h : TrR w r v t) (hT : Tab w) :
    Calls Tryd.prog 35 #[v] w fun e w' => e = .returned (.string S) ∧ Fr none w w' :=
  (text3_any t v w r hsz h hT).mono fun e w' ⟨X, he, hX, _, F⟩ => by
    rw [hS.out, ← hX]
    exact ⟨he, F⟩
theorem rtext3_fix (t : Tr) (S : ByteArray) (hS : Hid (S = bs (textT t))) (v : Value) (w : World) (r : Option Nat) (hsz : t.size ≤ 1073741000) (h : TrR w r v t) (hT : Tab w) :
    Calls Tryd.prog 36 #[v] w fun e w' => e = .returned (.string S) ∧ Fr none w w' :=
  (rtext3_any t v w r hsz h hT).mono fun e w' ⟨X, he, hX, _, F⟩ => by
    rw [hS.out, ← hX]
    exact ⟨he, F⟩
theorem parse_quest : parseP [63] = .no 0 2 := by kernel_rfl

set_option maxRecDepth 100000 in
set_option maxHeartbeats 4000000 in
theorem law03t_any (v u : Value) (l : List Int) (t : Tr) (w : World) (hl : SlI w none v l) (hu : RwD w u t) (hT : Tab w) : Calls Tryd.prog 7 #[v, u] w fun e w' => e = .returned (.bool true) ∧ Fr none w w' := by
  obtain ⟨th0, A1, n1, c1, A2, n2, c2, rfl⟩ := hu.shape
  go_enter Tryd.func7, Tryd.ntmps7
  go_wp2_with fail
  generalize hW : w.alloc _ = w1
  have F1 : Fr none w w1 := hW ▸ (Fr.refl none w).alloc _
  have b3 : TB w1 w.heap.size (.int .i64 th0) (.slice A1 n1 c1) (.slice A2 n2 c2) := by rw [← hW]; exact blk_new _ _
  clear hW
  have hu1 := hu.fr F1
  have hl1 := hl.fr F1
  have T1 := hT.fr F1
  refine (small_any t _ _ hu1).mono ?_
  rintro e w2 ⟨b, rfl, hb, F2⟩
  have K2 := b3.fr F2 (by simp)
  have T2 := T1.fr F2
  have F02 := F1.pure F2
  cases b with
  | false =>
    go_wp2_with fail
    refine (awake3_any _ T2).mono ?_
    rintro e w3 ⟨rfl, F3⟩
    go_wp2_with fail
    go_ret
    exact ⟨rfl, F02.pure F3⟩
  | true =>
    have hsz := hb rfl
    have hu2 := (hu1.fr F2).small (by omega)
    have hl2 := hl1.fr F2
    clear hb hu1 hl1 hu hl b3 F1 F2 T1
    go_wp2_with fail
    refine (tapeNew_any _ _ _ hl2).mono ?_
    rintro e w3 ⟨g, rfl, hg, S3, F3⟩
    have T3 := T2.fr F3
    have K3 := K2.fr F3 (by simp)
    have hu3 := hu2.fr F3
    have F03 := F02.pure F3
    have hz3 := F3.size
    have hp3 := blk_lt K2
    go_wp2_with fail
    refine (tapeRange_any 1 10 g _ (by omega) (by omega) (by omega) S3).mono ?_
    rintro e w4 ⟨x, rfl, x1, x2, S4, F4⟩
    obtain ⟨m, rfl⟩ := Int.eq_ofNat_of_zero_le (show 0 ≤ x by omega)
    have T4 := T3.src S3 F4
    go_wp2_with fail
    refine (mkTrust_any m 3 g _ (by omega) (by omega) (by omega) (by omega) S4).mono ?_
    rintro e w5 ⟨tv, X, rfl, hX, hv, hdp, hni, S5, F5⟩
    have T5 := T4.src S4 F5
    obtain ⟨th, B1, m1, d1, B2, m2, d2, rfl⟩ := hX.shape
    have hz4 := F4.size
    have hz5 := F5.size
    have hg4 := S4.lt
    have K5 := (K3.fr F4 (by simp; omega)).fr F5 (by simp; omega)
    have F05 := (F03.own F4 (fun q hq => by injection hq with hq; have := F02.size; omega)).own F5 (fun q hq => by injection hq with hq; have := F02.size; omega)
    have hraw : TrD w2 (fun b => b < w2.heap.size) (.agg #[.int .i64 th0, .slice A1 n1 c1, .slice A2 n2 c2]) t := TrD.keep (fun k hk => ⟨hk.1, rfl⟩) _ _ hu2
    have hraw5 : TrD w5 (fun b => b < w2.heap.size) (.agg #[.int .i64 th0, .slice A1 n1 c1, .slice A2 n2 c2]) t := TrD.keep (fun k hk => ⟨hk, F5.block k (by omega) (by simp; omega)⟩) _ _ (TrD.keep (fun k hk => ⟨hk, F4.block k (by omega) (by simp; omega)⟩) _ _ (TrD.keep (fun k hk => ⟨hk, F3.block k hk (by simp)⟩) _ _ hraw))
    have hXs := (valid_check hv).2.1
    have hz02 := F02.size
    clear hraw hu2 hu3 K3 K2 F3 F4 F5 S3 S4 T2 T3 T4 F02 F03 hl2 hni hv
    go_upto_region 5 with (fail)
    generalize hW : w5.alloc _ = w6
    have F6 : Fr none w5 w6 := hW ▸ (Fr.refl none w5).alloc _
    have b6 : TB w6 w5.heap.size (.int .i64 th) (.slice B1 m1 d1) (.slice B2 m2 d2) := by rw [← hW]; exact blk_new _ _
    clear hW
    have K6 := K5.fr F6 (by simp)
    have T6 := T5.fr F6
    have S6 := S5.fr F6
    have F06 := F05.pure F6
    have hz6 := F6.size
    have hX6 : TrD w6 (fun b => w4.heap.size ≤ b ∧ b < w5.heap.size) (.agg #[.int .i64 th, .slice B1 m1 d1, .slice B2 m2 d2]) X := TrD.keep (fun k hk => ⟨⟨hk.1, hk.2⟩, F6.block k hk.2 (by simp)⟩) _ _ hX
    have hraw6 : TrD w6 (fun b => b < w2.heap.size) (.agg #[.int .i64 th0, .slice A1 n1 c1, .slice A2 n2 c2]) t := TrD.keep (fun k hk => ⟨hk, F6.block k (by omega) (by simp)⟩) _ _ hraw5
    have hDd : ∀ b, (w4.heap.size ≤ b ∧ b < w5.heap.size) → b < w6.drew.heap.size ∧ b ≠ g := fun b hb => ⟨by show b < w6.heap.size; omega, by omega⟩
    have HDd := Lib.hid hDd
    have hx6 := blk_lt b6
    clear hX hraw5 K5 T5 S5 F05 F6 hDd
    go_cut [28, 29, 30] (fun s28 s29 s30 wr => ∃ bk L, s28 = .slice (some ⟨bk, 0, none⟩) 3 3 ∧ s29 = .int .i64 3 ∧ s30 = .int .i64 0 ∧ bk < wr.heap.size ∧ L.length = 3 ∧ Lst3 wr (some ⟨bk, 0, none⟩) L ∧ Fr none w wr)
    case first =>
      refine wp_region_held_drew (S := fun W => (∀ i, W.cell? ⟨w5.heap.size, i, none⟩ = (#[.int .i64 th, .slice B1 m1 d1, .slice B2 m2 d2] : Array Value)[i]?) ∧ (∀ i, W.cell? ⟨w.heap.size, i, none⟩ = (#[.int .i64 th0, .slice A1 n1 c1, .slice A2 n2 c2] : Array Value)[i]?) ∧ Fr (some g) w6 W) (by kernel_rfl) ⟨b6.cell, K6.cell, (Fr.refl _ _).drew⟩ (fun hH0 => ?_)
      refine wpAnyH_take (i := 0) (v := ?_) rfl (by kernel_rfl) (by kernel_rfl) (by kernel_rfl) (fun _ _ _ h => h) (Or.inl ⟨by rfl, ?_⟩) (by assumption) ?_
      rotate_left
      · (intro W hW; (try dsimp only at hW); go_simp; try with_reducible rfl)
      try simp only [Act.put, List.setIfInBounds_toArray, List.set_cons_zero, List.set_cons_succ, List.getElem_toArray, List.getElem_cons_zero, List.getElem_cons_succ]
      refine wpAnyH_take (i := 1) (v := ?_) rfl (by kernel_rfl) (by kernel_rfl) (by kernel_rfl) (fun _ _ _ h => h) (Or.inl ⟨by rfl, ?_⟩) (by assumption) ?_
      rotate_left
      · (intro W hW; (try dsimp only at hW); go_simp; try with_reducible rfl)
      try simp only [Act.put, List.setIfInBounds_toArray, List.set_cons_zero, List.set_cons_succ, List.getElem_toArray, List.getElem_cons_zero, List.getElem_cons_succ]
      refine wpAnyH_take (i := 2) (v := ?_) rfl (by kernel_rfl) (by kernel_rfl) (by kernel_rfl) (fun _ _ _ h => h) (Or.inl ⟨by rfl, ?_⟩) (by assumption) ?_
      rotate_left
      · (intro W hW; (try dsimp only at hW); go_simp; try with_reducible rfl)
      try simp only [Act.put, List.setIfInBounds_toArray, List.set_cons_zero, List.set_cons_succ, List.getElem_toArray, List.getElem_cons_zero, List.getElem_cons_succ]
      refine wpAnyH_take (i := 4) (v := ?_) rfl (by kernel_rfl) (by kernel_rfl) (by kernel_rfl) (fun _ _ _ h => h) (Or.inl ⟨by rfl, ?_⟩) (by assumption) ?_
      rotate_left
      · (intro W hW; (try dsimp only at hW); go_simp; try with_reducible rfl)
      try simp only [Act.put, List.setIfInBounds_toArray, List.set_cons_zero, List.set_cons_succ, List.getElem_toArray, List.getElem_cons_zero, List.getElem_cons_succ]
      refine wpAnyH_take (i := 7) (v := ?_) rfl (by kernel_rfl) (by kernel_rfl) (by kernel_rfl) (fun _ _ _ h => h) (Or.inl ⟨by rfl, ?_⟩) (by assumption) ?_
      rotate_left
      · (intro W hW; (try dsimp only at hW); go_simp; try with_reducible rfl)
      try simp only [Act.put, List.setIfInBounds_toArray, List.set_cons_zero, List.set_cons_succ, List.getElem_toArray, List.getElem_cons_zero, List.getElem_cons_succ]
      refine wpAnyH_ready (rs := [3]) (by kernel_rfl) (by simp) ?_
      refine AllReadyH.cons rfl (fun K hK => ?_) AllReadyH.nil
      simp only [List.getElem_toArray, List.getElem_cons_zero, List.getElem_cons_succ]
      go_simp
      go_at_call 34
      refine (bent_any X.dep X (.agg #[.int .i64 th, .slice B1 m1 d1, .slice B2 m2 d2]) g _ (fun b => w4.heap.size ≤ b ∧ b < w5.heap.size) (Nat.le_refl _) (by omega) HDd.out hX6.drew S6.drew).mono ?_
      rintro e w7 ⟨v7, T7, rfl, hT7, hs7, S7, F7⟩
      obtain ⟨th', a1, k1, e1, a2, k2, e2, rfl⟩ := hT7.shape
      have F7 := ((Fr.refl (some g) w6).drew).same F7
      refine hK.out _ _ ⟨(b6.fr F7 (by simp; omega)).cell, (K6.fr F7 (by simp; omega)).cell, F7⟩ (fun hH1 => ?_)
      clear hK K hH0
      try simp only [Act.put, List.setIfInBounds_toArray, List.set_cons_zero, List.set_cons_succ, List.getElem_toArray, List.getElem_cons_zero, List.getElem_cons_succ]
      refine wpAnyH_ready (rs := [5]) (by kernel_rfl) (by simp) ?_
      refine AllReadyH.cons rfl (fun K hK => ?_) AllReadyH.nil
      simp only [List.getElem_toArray, List.getElem_cons_zero, List.getElem_cons_succ]
      go_simp
      have FA := F7.alloc (.cells #[.int .i64 th, .slice B1 m1 d1, .slice B2 m2 d2, .int .i64 th', .slice a1 k1 e1, .slice a2 k2 e2, .int .i64 th0, .slice A1 n1 c1, .slice A2 n2 c2] 27)
      refine hK.out _ _ ⟨(b6.fr FA (by simp; omega)).cell, (K6.fr FA (by simp; omega)).cell, FA⟩ (fun hH2 => ?_)
      clear hK K hH1
      try simp only [Act.put, List.setIfInBounds_toArray, List.set_cons_zero, List.set_cons_succ, List.getElem_toArray, List.getElem_cons_zero, List.getElem_cons_succ]
      refine wpAnyH_take (i := 6) (v := ?_) rfl (by kernel_rfl) (by kernel_rfl) (by kernel_rfl) (fun _ _ _ h => h) (Or.inl ⟨by rfl, ?_⟩) (by assumption) ?_
      rotate_left
      · (intro W hW; (try dsimp only at hW); go_simp; try with_reducible rfl)
      try simp only [Act.put, List.setIfInBounds_toArray, List.set_cons_zero, List.set_cons_succ, List.getElem_toArray, List.getElem_cons_zero, List.getElem_cons_succ]
      refine wpAnyH_done (by kernel_rfl) ?_ _
      go_wp2_with fail
      go_meet
      have hz7 := F7.size
      have hd6 : w6.drew.heap.size = w6.heap.size := rfl
      have tX : TrD w7 (fun b => b < w7.heap.size) (.agg #[.int .i64 th, .slice B1 m1 d1, .slice B2 m2 d2]) X := TrD.keep (fun k hk => ⟨by omega, F7.block k (by omega) (by simp; omega)⟩) _ _ hX6
      have tt : TrD w7 (fun b => b < w7.heap.size) (.agg #[.int .i64 th0, .slice A1 n1 c1, .slice A2 n2 c2]) t := TrD.keep (fun k hk => ⟨by omega, F7.block k (by omega) (by simp; omega)⟩) _ _ hraw6
      have t7 : TrD w7 (fun b => b < w7.heap.size) (.agg #[.int .i64 th', .slice a1 k1 e1, .slice a2 k2 e2]) T7 := TrD.keep (fun k hk => ⟨by rcases hk with h | h <;> omega, rfl⟩) _ _ hT7
      have FB := (Fr.refl none w7).alloc (.cells #[.int .i64 th, .slice B1 m1 d1, .slice B2 m2 d2, .int .i64 th', .slice a1 k1 e1, .slice a2 k2 e2, .int .i64 th0, .slice A1 n1 c1, .slice A2 n2 c2] 27)
      have kB : ∀ k, k < w7.heap.size → Dm (w7.alloc (.cells #[.int .i64 th, .slice B1 m1 d1, .slice B2 m2 d2, .int .i64 th', .slice a1 k1 e1, .slice a2 k2 e2, .int .i64 th0, .slice A1 n1 c1, .slice A2 n2 c2] 27)) none k ∧ (w7.alloc (.cells #[.int .i64 th, .slice B1 m1 d1, .slice B2 m2 d2, .int .i64 th', .slice a1 k1 e1, .slice a2 k2 e2, .int .i64 th0, .slice A1 n1 c1, .slice A2 n2 c2] 27)).heap[k]? = w7.heap[k]? := fun k hk => ⟨⟨by have := FB.size; omega, by simp⟩, FB.block k hk (by simp)⟩
      refine ⟨w7.heap.size, [X, T7, t], rfl, rfl, rfl, by simp, rfl, ⟨_, SlD.lit_dm #[.int .i64 th, .slice B1 m1 d1, .slice B2 m2 d2, .int .i64 th', .slice a1 k1 e1, .slice a2 k2 e2, .int .i64 th0, .slice A1 n1 c1, .slice A2 n2 c2] 27 3 3 rfl (by unfold maxLen; omega) (by simp) (Fr.refl none _), ?_, ?_⟩, F06.own FA (fun b hb => by injection hb with hb; omega)⟩
      · simp only [TrsD]
        exact ⟨_, _, _, _, rfl, TrD.keep kB _ _ tX, _, _, _, _, rfl, TrD.keep kB _ _ t7, _, _, _, [], rfl, TrD.keep kB _ _ tt, rfl⟩
      · intro y hy
        simp only [List.mem_cons, List.not_mem_nil, or_false] at hy
        rcases hy with rfl | rfl | rfl <;> omega
    case rest =>
      clear b6 K6 T6 S6 F06 hz6 hX6 hraw6 HDd hx6 hXs hg4 hz5 hz4 hdp
      obtain ⟨bk, L, rfl, rfl, rfl, hbk, hL, hLst, Fc⟩ := hcut
      have Tc := hT.fr Fc
      obtain ⟨cells, hsl, hts, hLs⟩ := hLst
      have hce : ∀ i u, cells[i]? = some u → wc.cell? ⟨bk, i, none⟩ = some u := fun i u hu => by
        obtain ⟨A', n', c', e0, _, _, _, hx⟩ := hsl
        injection e0 with q1 q2 q3
        subst q1 q2 q3
        obtain ⟨b, off, h1, _, h2⟩ := hx (by omega)
        injection h1 with h1
        injection h1 with h3 h4
        subst h3 h4
        simpa using h2 i u hu
      have HCE := Lib.hid hce
      have HLs := Lib.hid hLs
      have HLL := Lib.hid hL
      clear hce hLs hL hsl
      go_wp2_with fail
      go_loopw [30] (fun s30 wr => ∃ j : Nat, j ≤ 3 ∧ s30 = .int .i64 (j : Int) ∧ Fr none wc wr) (fun s30 _ => 3 - (intOf s30).toNat)
      case atStart => exact ⟨0, by omega, rfl, Fr.refl _ _⟩
      case round =>
        obtain ⟨j, hj, rfl, Fr1⟩ := hrel
        by_cases hlt : j < 3
        · have hjL : j < L.length := by have := HLL.out; omega
          obtain ⟨a, b, c, e0, e1, e2, hy0⟩ := hts.get j hjL
          obtain ⟨ty, B1', m1', d1', B2', m2', d2', hsh⟩ := hy0.shape
          simp only [Value.agg.injEq, Array.mk.injEq, List.cons.injEq, and_true] at hsh
          obtain ⟨rfl, rfl, rfl⟩ := hsh
          have g0 := Fr1.keep (HCE.out _ _ e0) (by simp)
          have g1 := Fr1.keep (HCE.out _ _ e1) (by simp)
          have g2 := Fr1.keep (HCE.out _ _ e2) (by simp)
          have hys : (L[j]).size ≤ 1000000 := HLs.out _ (List.getElem_mem _)
          have hyr : TrR wr none (.agg #[.int .i64 ty, .slice B1' m1' d1', .slice B2' m2' d2']) L[j] := TrR.fr hy0 Fr1
          have Tr1 := Tc.fr Fr1
          generalize L[j] = y at hys hyr
          clear e0 e1 e2 hy0
          obtain ⟨S, hS⟩ : ∃ S, S = bs (textT y) := ⟨_, rfl⟩
          have hq : (S.toList == S.toList) = true := by simp
          have hSd : S.data.toList = textT y := by rw [hS, bs_list]
          have HS := Lib.hid hS
          clear hS hq
          by_cases hv : validE y = 0
          · have hp : parseP S.data.toList = .ok y := by
              rw [hSd]; unfold textT; rw [if_pos hv]
              exact parse_ok y (valid_ok hv) hv _ (BB.refl _) (by have := valid_len hv; omega)
            have HP := Lib.hid hp
            have HV := Lib.hid hv
            have HSS := Lib.hid ((sameT_iff y y).2 rfl)
            clear hp hv hSd
            go_wp2_with fail
            generalize hW : wr.alloc _ = wa
            have Fa : Fr none wr wa := hW ▸ (Fr.refl none wr).alloc _
            have ba : TB wa wr.heap.size (.int .i64 ty) (.slice B1' m1' d1') (.slice B2' m2' d2') := by rw [← hW]; exact blk_new _ _
            clear hW g0 g1 g2
            have Ra := ba.cell
            refine (text3_fix y S HS _ _ none (by omega) (hyr.fr Fa) (Tr1.fr Fa)).mono ?_
            rintro e wb ⟨rfl, Fb⟩
            have bb := ba.fr Fb (by simp)
            have Rb := bb.cell
            have Fab := Fa.pure Fb
            clear Ra ba
            go_wp2_with fail
            refine (rtext3_fix y S HS _ _ none (by omega) (hyr.fr Fab) (Tr1.fr Fab)).mono ?_
            rintro e wd ⟨rfl, Fd⟩
            have bd := bb.fr Fd (by simp)
            have Rd := bd.cell
            have Fad := Fab.pure Fd
            clear Rb bb Fa Fb Fab
            go_wp2_with fail
            refine (parse_okW S y _ HP.out).mono ?_
            rintro e wf ⟨th2, C1, p1, f1, C2, p2, f2, rfl, hD, Ff⟩
            have bf := bd.fr Ff (by simp)
            have Rf := bf.cell
            have Faf := Fad.pure Ff
            have hlt1 := blk_lt bf
            clear Rd bd Fad
            go_wp2_with fail
            generalize hW : wf.alloc _ = wg
            have Fg : Fr none wf wg := hW ▸ (Fr.refl none wf).alloc _
            have bg : TB wg wf.heap.size (.int .i64 th2) (.slice C1 p1 f1) (.slice C2 p2 f2) := by rw [← hW]; exact blk_new _ _
            clear hW
            have bh := bf.fr Fg (by simp)
            have Fag := Faf.pure Fg
            have hDg : TrR wg none (.agg #[.int .i64 th2, .slice C1 p1 f1, .slice C2 p2 f2]) y := TrD.keep (fun k hk => ⟨⟨by have := Fg.size; have := hk.2; omega, by simp⟩, Fg.block k hk.2 (by simp)⟩) _ _ hD
            clear Rf bf Faf hD
            refine (rvalidT_any y _ _ none (by omega) (hyr.fr Fag)).mono ?_
            rintro e wh ⟨rfl, Fh⟩
            rw [HV.out]
            have bg' := bg.fr Fh (by simp)
            have bh' := bh.fr Fh (by simp)
            have Rg := bg'.cell
            have Rh := bh'.cell
            go_wp2_with fail
            refine (rsame_any y.dep y y _ _ _ none (Nat.le_refl _) (hyr.fr (Fag.pure Fh)) (hDg.fr Fh)).mono ?_
            rintro e wi ⟨rfl, Fi⟩
            rw [HSS.out]
            go_wp2_with fail
            go_roundw
            case rel => exact ⟨j + 1, by omega, by go_num, ((Fr1.pure Fag).pure Fh).pure Fi⟩
            case measure => simp [intOf]; omega
          · have hp : parseP S.data.toList = .no 0 2 := by
              rw [hSd]; unfold textT; rw [if_neg hv]
              exact parse_quest
            have HP := Lib.hid hp
            have hv0 : (validE y == 0) = false := by rw [beq_eq_false_iff_ne]; exact hv
            clear hp hv hSd
            go_wp2_with fail
            generalize hW : wr.alloc _ = wa
            have Fa : Fr none wr wa := hW ▸ (Fr.refl none wr).alloc _
            have ba : TB wa wr.heap.size (.int .i64 ty) (.slice B1' m1' d1') (.slice B2' m2' d2') := by rw [← hW]; exact blk_new _ _
            clear hW g0 g1 g2
            have Ra := ba.cell
            refine (text3_fix y S HS _ _ none (by omega) (hyr.fr Fa) (Tr1.fr Fa)).mono ?_
            rintro e wb ⟨rfl, Fb⟩
            have bb := ba.fr Fb (by simp)
            have Rb := bb.cell
            have Fab := Fa.pure Fb
            clear Ra ba
            go_wp2_with fail
            refine (rtext3_fix y S HS _ _ none (by omega) (hyr.fr Fab) (Tr1.fr Fab)).mono ?_
            rintro e wd ⟨rfl, Fd⟩
            have bd := bb.fr Fd (by simp)
            have Rd := bd.cell
            have Fad := Fab.pure Fd
            clear Rb bb Fa Fb Fab
            go_wp2_with fail
            refine (parse_noW S 0 2 _ HP.out).mono ?_
            rintro e wf ⟨rfl, Ff⟩
            have bf := bd.fr Ff (by simp)
            have Faf := Fad.pure Ff
            have hlt1 := blk_lt bf
            have FA := Faf.alloc (.cells #[.int .i64 0, .slice none 0 0, .slice none 0 0] 27)
            have bh := bf.fr ((Fr.refl none wf).alloc (.cells #[.int .i64 0, .slice none 0 0, .slice none 0 0] 27)) (by simp)
            have Rf := bf.cell
            clear Rd bd Fad
            go_wp2_with fail
            refine (rvalidT_any y _ _ none (by omega) (hyr.fr FA)).mono ?_
            rintro e wh ⟨rfl, Fh⟩
            go_wp2_with fail
            go_roundw
            case rel => exact ⟨j + 1, by omega, by go_num, (Fr1.pure FA).pure Fh⟩
            case measure => simp [intOf]; omega
        · obtain rfl : j = 3 := by omega
          go_wp2_with fail
          refine (awake3_any _ (Tc.fr Fr1)).mono ?_
          rintro e w9 ⟨rfl, F9⟩
          go_wp2_with fail
          go_ret
          exact ⟨rfl, (Fc.pure Fr1).pure F9⟩
theorem law03t_card (v : Value) (l : List Int) (u : Value) (t : Tr) (w : World) (hl : SlI w none v l) (hu : RwD w u t) (hT : Tab w) : Calls Tryd.prog 7 #[v, u] w fun e w' => e = .returned (.bool true) ∧ Fr none w w' := law03t_any v u l t w hl hu hT
end Go.Proofs.YtidnnjgiogklaaaDoor

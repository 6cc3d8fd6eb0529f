/- Some texts of this claim, joined. -/
import Derived.Test.YtonhhnedfjonoaaGreatDoorProg
import Derived.Test.YtonhhnedfjonoaaGreatDoorLgClJ
import Derived.Test.YtonhhnedfjonoaaGreatDoorLgIpJ
import Derived.Test.YtonhhnedfjonoaaGreatDoorJM17

set_option linter.unusedSimpArgs false
set_option linter.unusedVariables false
/- Walks: slices.SortStableFunc of transactions (fewer than 20); ledger.Sort. -/
namespace Go.Proofs.YtonhhnedfjonoaaGreatDoor
open Go.RowKit

def ltX (a b : TxX) : Bool := decide (cmpT a b < 0)
def srtX (l : List TxX) : List TxX := srtL ltX l
theorem ltX_pl (a b : TxX) : ltX a b = ltTx a.pl b.pl := by
  have h := cmpT_geq a b
  unfold ltX
  cases hb : ltTx a.pl b.pl with
  | true => rw [hb] at h; simp at h; simp; exact h
  | false => rw [hb] at h; simp at h; simp; exact h
theorem srtX_pl (l : List TxX) : plT (srtX l) = srtL ltTx (plT l) := srtL_map TxX.pl ltX_pl l
theorem pcmp_enters : ∀ args w, Sem.run Tryz.prog (callFunc 40 args) w = .ok (.enter 40 args) w := fun _ _ => by kernel_rfl
theorem txrow4 {w : World} {base b n c : Nat} {l : List TxX} (h : w.ownsRow base 57 4 (.slice (some ⟨b, 0, none⟩) n c) n (flR txR l)) (k : Nat) (hk : k < l.length) (t : TxX) (w' : World)
    (hw : w' = (((w.setCell ⟨b, k * 4, none⟩ (.int .i64 t.src)).setCell ⟨b, k * 4 + 1, none⟩ (.int .i64 t.seq)).setCell ⟨b, k * 4 + 2, none⟩ (.int .i64 t.fee)).setCell ⟨b, k * 4 + 3, none⟩ (.slice t.A t.ops.length t.c)) :
    w'.ownsRow base 57 4 (.slice (some ⟨b, 0, none⟩) n c) n (flR txR (l.set k t)) ∧ Fr (some b) w w' := by
  have h1 := own_set7 h (k * 4) (.int .i64 t.src)
  have e1 : (flR txR l).set (k * 4) (.int .i64 t.src) = flR txR (l.set k { l[k] with src := t.src }) := flR_set txR _ _ 0 (by decide) l k hk rfl
  rw [e1] at h1
  have h2 := own_set7 h1 (k * 4 + 1) (.int .i64 t.seq)
  have e2 : (flR txR (l.set k { l[k] with src := t.src })).set (k * 4 + 1) (.int .i64 t.seq) = flR txR ((l.set k { l[k] with src := t.src }).set k { l[k] with src := t.src, seq := t.seq }) := flR_set txR _ _ 1 (by decide) _ k (by simpa using hk) (by rw [List.getElem_set_self]; rfl)
  rw [e2, List.set_set] at h2
  have h3 := own_set7 h2 (k * 4 + 2) (.int .i64 t.fee)
  have e3 : (flR txR (l.set k { l[k] with src := t.src, seq := t.seq })).set (k * 4 + 2) (.int .i64 t.fee) = flR txR ((l.set k { l[k] with src := t.src, seq := t.seq }).set k { l[k] with src := t.src, seq := t.seq, fee := t.fee }) := flR_set txR _ _ 2 (by decide) _ k (by simpa using hk) (by rw [List.getElem_set_self]; rfl)
  rw [e3, List.set_set] at h3
  have h4 := own_set7 h3 (k * 4 + 3) (.slice t.A t.ops.length t.c)
  have e4 : (flR txR (l.set k { l[k] with src := t.src, seq := t.seq, fee := t.fee })).set (k * 4 + 3) (.slice t.A t.ops.length t.c) = flR txR ((l.set k { l[k] with src := t.src, seq := t.seq, fee := t.fee }).set k t) := flR_set txR _ _ 3 (by decide) _ k (by simpa using hk) (by rw [List.getElem_set_self]; rfl)
  rw [e4, List.set_set] at h4
  subst hw
  have F0 : Fr (some b) w _ := Fr.set1 w ⟨b, k * 4, none⟩ (.int .i64 t.src)
  have F1 : Fr (some b) w _ := F0.setRow (p := ⟨b, k * 4 + 1, none⟩) rfl (.int .i64 t.seq)
  have F2 : Fr (some b) w _ := F1.setRow (p := ⟨b, k * 4 + 2, none⟩) rfl (.int .i64 t.fee)
  exact ⟨h4, F2.setRow (p := ⟨b, k * 4 + 3, none⟩) rfl _⟩
theorem txrow_cells {w : World} {base b n c : Nat} {l : List TxX} (h : w.ownsRow base 57 4 (.slice (some ⟨b, 0, none⟩) n c) n (flR txR l)) (k : Nat) (hk : k < l.length) :
    w.cell? ⟨b, k * 4, none⟩ = some (.int .i64 l[k].src) ∧ w.cell? ⟨b, k * 4 + 1, none⟩ = some (.int .i64 l[k].seq) ∧ w.cell? ⟨b, k * 4 + 2, none⟩ = some (.int .i64 l[k].fee) ∧ w.cell? ⟨b, k * 4 + 3, none⟩ = some (.slice l[k].A l[k].ops.length l[k].c) := by
  obtain ⟨-, hc, -⟩ := own_free7 h
  exact ⟨hc _ _ ((flR_get txR l k hk 0 (by decide)).trans rfl), hc _ _ ((flR_get txR l k hk 1 (by decide)).trans rfl), hc _ _ ((flR_get txR l k hk 2 (by decide)).trans rfl), hc _ _ ((flR_get txR l k hk 3 (by decide)).trans rfl)⟩
theorem txrow_at {w : World} {base b n c : Nat} {l : List TxX} (h : w.ownsRow base 57 4 (.slice (some ⟨b, 0, none⟩) n c) n (flR txR l)) {k : Nat} {t : TxX} (hk : l[k]? = some t) :
    w.cell? ⟨b, k * 4, none⟩ = some (.int .i64 t.src) ∧ w.cell? ⟨b, k * 4 + 1, none⟩ = some (.int .i64 t.seq) ∧ w.cell? ⟨b, k * 4 + 2, none⟩ = some (.int .i64 t.fee) ∧ w.cell? ⟨b, k * 4 + 3, none⟩ = some (.slice t.A t.ops.length t.c) := by
  obtain ⟨hk', rfl⟩ := List.getElem?_eq_some_iff.1 hk
  exact txrow_cells h k hk'
set_option maxRecDepth 100000 in
set_option maxHeartbeats 4000000 in
theorem pins_any (base : Nat) (l : List TxX) (A : Option Addr) (c : Nat) (w : World) (own : w.ownsRow base 57 4 (.slice A l.length c) l.length (flR txR l)) (hl : l.length ≤ 1000) :
    Calls Tryz.prog 89 #[.slice A l.length c, .int .i64 0, .int .i64 (l.length : Int), .func (.func 40) #[] #[]] w fun e w' => e = .returned (.tuple #[]) ∧ w'.ownsRow base 57 4 (.slice A l.length c) l.length (flR txR (srtX l)) ∧ Fr (Value.slice A l.length c).ownBlock w w' := by
  have hrun := pcmp_enters
  have h1 : (srtV ltX (l.take 1)).reverse ++ l.drop 1 = l := by
    cases l with
    | nil => rfl
    | cons x r => rfl
  have H1 := Lib.hid h1
  clear h1
  have HO := Lib.hid own
  clear own
  go_enter Tryz.func89, Tryz.ntmps89
  go_wp2_with fail
  go_loopw [8] (fun s8 wr => ∃ (i : Nat) (L : List TxX), 1 ≤ i ∧ s8 = .int .i64 (i : Int) ∧ Hid (i ≤ l.length ∨ i = 1) ∧ Hid (L = (srtV ltX (l.take i)).reverse ++ l.drop i) ∧ wr.ownsRow base 57 4 (.slice A l.length c) l.length (flR txR L) ∧ Fr (Value.slice A l.length c).ownBlock w wr) (fun s8 _ => l.length - (intOf s8).toNat)
  case atStart => exact ⟨1, l, Nat.le_refl _, rfl, .inr rfl, H1.out.symm, HO.out, Fr.refl _ _⟩
  case round =>
    obtain ⟨i, L, hi1, rfl, HI, HL, own, F⟩ := hrel
    by_cases hlt : i < l.length
    · obtain ⟨rb, rfl⟩ := own_some own (by omega)
      have hSl : Hid (srtV ltX (l.take (i + 1)) = insV ltX l[i] (srtV ltX (l.take i))) := srtV_succ ltX l i hlt
      have hLe : Hid (L = (srtV ltX (l.take i)).reverse ++ l[i] :: ([] ++ l.drop (i + 1))) := by unfold Hid; rw [HL.out, List.nil_append, List.drop_eq_getElem_cons hlt]
      have hSn : (srtV ltX (l.take i)).length = i := by rw [srtV_len, List.length_take]; omega
      have HT : Hid (∀ T, T = l.drop (i + 1) → T.length + i + 1 = l.length) := by intro T h; rw [h, List.length_drop]; omega
      generalize l[i] = x at *
      obtain ⟨S, hS⟩ : ∃ S, S = srtV ltX (l.take i) := ⟨_, rfl⟩
      rw [← hS] at hSl hLe hSn
      obtain ⟨T, hT⟩ : ∃ T, T = l.drop (i + 1) := ⟨_, rfl⟩
      rw [← hT] at hLe
      have hTn := HT.out T hT
      have HTT := Lib.hid hT
      clear hS hT HL HT
      have HLE := Lib.hid hLe.out
      have HSL := Lib.hid hSl.out
      clear hLe hSl
      have HOW := Lib.hid own
      clear own HO H1
      go_wp2_with fail
      go_loopw [9] (fun s9 wr2 => ∃ (P Q L2 : List TxX), s9 = .int .i64 (P.length : Int) ∧ P.length ≤ i ∧ Hid (P.length + Q.length = i) ∧ Hid (L2 = P.reverse ++ x :: (Q ++ T)) ∧ Hid (insV ltX x S = Q.reverse ++ insV ltX x P) ∧ wr2.ownsRow base 57 4 (.slice (some ⟨rb, 0, none⟩) l.length c) l.length (flR txR L2) ∧ Fr (some rb) w wr2) (fun s9 _ => (intOf s9).toNat)
      case atStart => exact ⟨S, [], L, by rw [hSn], by omega, by unfold Hid; simp; exact hSn, HLE.out, by unfold Hid; simp, HOW.out, F⟩
      case round =>
        obtain ⟨P, Q, L2, rfl, hPi, HPQ, HL2, HIN, own, F2⟩ := hrel
        clear HLE HOW F
        have HDone : Hid (insV ltX x P = x :: P → (srtV ltX (l.take (i + 1))).reverse ++ l.drop (i + 1) = L2) := by
          intro h
          rw [HSL.out, HIN.out, h, HL2.out, ← HTT.out]
          simp
        have HLN : Hid (L2.length = l.length) := by
          have := HPQ.out
          unfold Hid
          rw [HL2.out]
          simp
          omega
        cases P with
        | nil =>
          have HD2 := Lib.hid (HDone.out rfl)
          clear HDone HIN HL2
          simp only [List.length_nil] at *
          go_upto_region 4 with (fail)
          refine wp_region_fxL (fun W => Fr none wr W) 17 53 [some 34, some 33, some 32, some 31, some 30, some 29, some 28, some 27, some 26, some 25, some 24, some 23, some 22, some 21, some 20, some 19, some 18] (by kernel_rfl) (by kernel_rfl) (by kernel_rfl) (Nat.le_refl _) ((Fr.refl _ _).drew) ?_
          refine FxL.pure (v := ?_) rfl (fun ev w hS E => ?_) ?_; rotate_left
          · obtain ⟨t9, ec, ef, eg⟩ := E.get [] [9] (by kernel_rfl); clear E; go_simp; try with_reducible rfl
          refine FxL.pure (v := ?_) rfl (fun ev w hS E => ?_) ?_; rotate_left
          · obtain ⟨t1, ec, ef, eg⟩ := E.get [] [1] (by kernel_rfl); clear E; go_simp; try with_reducible rfl
          refine FxL.pure (v := ?_) rfl (fun ev w hS E => ?_) ?_; rotate_left
          · obtain ⟨t18, t19, ec, ef, eg⟩ := E.get [(1, 0, 18), (0, 1, 19)] [] (by kernel_rfl); clear E; simp only [nthV] at t18 t19; go_simp; try with_reducible rfl
          refine FxL.pure (v := ?_) rfl (fun ev w hS E => ?_) ?_; rotate_left
          · obtain ⟨t20, ec, ef, eg⟩ := E.get [(0, 2, 20)] [] (by kernel_rfl); clear E; simp only [nthV] at t20; go_simp; try with_reducible rfl
          refine FxL.skip rfl 0 rfl (by simp only [nthV]; intro h; cases h) ?_
          refine FxL.skip rfl 1 rfl (by simp only [nthV]; intro h; cases h) ?_
          refine FxL.skip rfl 2 rfl (by simp only [nthV]; intro h; cases h) ?_
          refine FxL.skip rfl 3 rfl (by simp only [nthV]; intro h; cases h) ?_
          refine FxL.skip rfl 4 rfl (by simp only [nthV]; intro h; cases h) ?_
          refine FxL.skip rfl 5 rfl (by simp only [nthV]; intro h; cases h) ?_
          refine FxL.skip rfl 6 rfl (by simp only [nthV]; intro h; cases h) ?_
          refine FxL.skip rfl 7 rfl (by simp only [nthV]; intro h; cases h) ?_
          refine FxL.skip rfl 8 rfl (by simp only [nthV]; intro h; cases h) ?_
          refine FxL.skip rfl 9 rfl (by simp only [nthV]; intro h; cases h) ?_
          refine FxL.skip rfl 10 rfl (by simp only [nthV]; intro h; cases h) ?_
          refine FxL.skip rfl 11 rfl (by simp only [nthV]; intro h; cases h) ?_
          refine FxL.pure (v := ?_) rfl (fun ev w hS E => ?_) ?_; rotate_left
          · obtain ⟨t21, t33, ec, ef, eg⟩ := E.get [(12, 3, 21), (0, 15, 33)] [] (by kernel_rfl); clear E; simp only [nthV] at t21 t33; go_simp; try with_reducible rfl
          refine FxL.done (fun W hW => ?_)
          simp only [fillZ]
          try simp only [Act.put, List.setIfInBounds_toArray, List.set_cons_zero, List.set_cons_succ, List.getElem_toArray, List.getElem_cons_zero, List.getElem_cons_succ]
          try simp only [List.drop_succ_cons, List.drop_zero, List.drop_nil]
          go_wp2_with fail
          go_roundw
          case rel => exact ⟨i + 1, L2, by omega, by go_num, .inl (by omega), HD2.out.symm, own_fr own hW (by simp), F2.pure hW⟩
          case measure => simp [intOf]; omega
        | cons y P' =>
          obtain ⟨p, hp⟩ : ∃ p, P'.length = p := ⟨_, rfl⟩
          have hpl : ((y :: P').length : Int) = (p : Int) + 1 := by rw [← hp]; simp
          rw [hpl]
          have hp1 : p + 1 ≤ i := by rw [← hp]; simpa using hPi
          have HP := Lib.hid hp
          have hx1 : L2[p + 1]? = some x := by rw [HL2.out, ← hp]; simp
          have hy1 : L2[p]? = some y := by rw [HL2.out, ← hp]; simp
          obtain ⟨c0, c1, c2, c3⟩ := txrow_at own hx1
          obtain ⟨d0, d1, d2, d3⟩ := txrow_at own hy1
          clear hpl hPi hp hx1 hy1
          have hwp : IntKind.i64.wrap (p : Int) = (p : Int) := by rw [IntKind.wrap_i64]; omega
          have jz : (p : Int) + 1 < (l.length : Int) := by omega
          have jz1 : (p : Int) < (l.length : Int) := by omega
          have p0 : (0 : Int) ≤ (p : Int) + 1 := by omega
          have p1 : (0 : Int) < (p : Int) + 1 := by omega
          have p2 : decide ((0 : Int) < (p : Int) + 1) = true := decide_eq_true (by omega)
          have e0 : ((p : Int) + 1).toNat = p + 1 := by omega
          have HOWN := Lib.hid own
          clear own
          have KQ : Hid (∀ W, Fr none wr W → (W.cell? ⟨rb, (p + 1) * 4, none⟩ = some (.int .i64 x.src) ∧ W.cell? ⟨rb, (p + 1) * 4 + 1, none⟩ = some (.int .i64 x.seq) ∧ W.cell? ⟨rb, (p + 1) * 4 + 2, none⟩ = some (.int .i64 x.fee) ∧ W.cell? ⟨rb, (p + 1) * 4 + 3, none⟩ = some (.slice x.A x.ops.length x.c)) ∧ (W.cell? ⟨rb, p * 4, none⟩ = some (.int .i64 y.src) ∧ W.cell? ⟨rb, p * 4 + 1, none⟩ = some (.int .i64 y.seq) ∧ W.cell? ⟨rb, p * 4 + 2, none⟩ = some (.int .i64 y.fee) ∧ W.cell? ⟨rb, p * 4 + 3, none⟩ = some (.slice y.A y.ops.length y.c))) := fun W FW => ⟨⟨FW.keep c0 (by simp), FW.keep c1 (by simp), FW.keep c2 (by simp), FW.keep c3 (by simp)⟩, ⟨FW.keep d0 (by simp), FW.keep d1 (by simp), FW.keep d2 (by simp), FW.keep d3 (by simp)⟩⟩
          by_cases hlv : cmpT x y < 0
          · have hdv : decide (cmpT x y < 0) = true := decide_eq_true hlv
            have HLT : Hid (ltX x y = true) := hdv
            clear hlv
            go_upto_region 4 with (fail)
            refine wp_region_fxL (fun W => Fr none wr W) 17 53 [some 34, some 33, some 32, some 31, some 30, some 29, some 28, some 27, some 26, some 25, some 24, some 23, some 22, some 21, some 20, some 19, some 18] (by kernel_rfl) (by kernel_rfl) (by kernel_rfl) (Nat.le_refl _) ((Fr.refl _ _).drew) ?_
            refine FxL.pure (v := ?_) rfl (fun ev w hS E => ?_) ?_; rotate_left
            · obtain ⟨t9, ec, ef, eg⟩ := E.get [] [9] (by kernel_rfl); clear E; go_simp; try with_reducible rfl
            refine FxL.pure (v := ?_) rfl (fun ev w hS E => ?_) ?_; rotate_left
            · obtain ⟨t1, ec, ef, eg⟩ := E.get [] [1] (by kernel_rfl); clear E; go_simp; try with_reducible rfl
            refine FxL.pure (v := ?_) rfl (fun ev w hS E => ?_) ?_; rotate_left
            · obtain ⟨t18, t19, ec, ef, eg⟩ := E.get [(1, 0, 18), (0, 1, 19)] [] (by kernel_rfl); clear E; simp only [nthV] at t18 t19; go_simp; try with_reducible rfl
            refine FxL.pure (v := ?_) rfl (fun ev w hS E => ?_) ?_; rotate_left
            · obtain ⟨t20, ec, ef, eg⟩ := E.get [(0, 2, 20)] [] (by kernel_rfl); clear E; simp only [nthV] at t20; go_simp; try with_reducible rfl
            refine FxL.gpure (v := ?_) rfl 0 rfl rfl (fun ev w hS E => ?_) ?_; rotate_left
            · obtain ⟨t3, ec, ef, eg⟩ := E.get [] [3] (by kernel_rfl); clear E; go_simp; try with_reducible rfl
            refine FxL.gpure (v := ?_) rfl 1 rfl rfl (fun ev w hS E => ?_) ?_; rotate_left
            · obtain ⟨t0, ec, ef, eg⟩ := E.get [] [0] (by kernel_rfl); clear E; go_simp; try with_reducible rfl
            refine FxL.gpure (v := ?_) rfl 2 rfl rfl (fun ev w hS E => ?_) ?_; rotate_left
            · obtain ⟨t9, ec, ef, eg⟩ := E.get [] [9] (by kernel_rfl); clear E; go_simp; try with_reducible rfl
            refine FxL.gpure (v := ?_) rfl 3 rfl rfl (fun ev w hS E => ?_) ?_; rotate_left
            · obtain ⟨⟨q0, q1, q2, q3⟩, r0, r1, r2, r3⟩ := KQ.out w hS
              obtain ⟨t23, t24, ec, ef, eg⟩ := E.get [(1, 5, 23), (0, 6, 24)] [] (by kernel_rfl); clear E; simp only [nthV] at t23 t24; go_simp; try with_reducible rfl
            refine FxL.gpure (v := ?_) rfl 4 rfl rfl (fun ev w hS E => ?_) ?_; rotate_left
            · obtain ⟨⟨q0, q1, q2, q3⟩, r0, r1, r2, r3⟩ := KQ.out w hS
              obtain ⟨t25, ec, ef, eg⟩ := E.get [(0, 7, 25)] [] (by kernel_rfl); clear E; simp only [nthV] at t25; go_simp; try with_reducible rfl
            refine FxL.gpure (v := ?_) rfl 5 rfl rfl (fun ev w hS E => ?_) ?_; rotate_left
            · obtain ⟨t0, ec, ef, eg⟩ := E.get [] [0] (by kernel_rfl); clear E; go_simp; try with_reducible rfl
            refine FxL.gpure (v := ?_) rfl 6 rfl rfl (fun ev w hS E => ?_) ?_; rotate_left
            · obtain ⟨t9, ec, ef, eg⟩ := E.get [] [9] (by kernel_rfl); clear E; go_simp; try with_reducible rfl
            refine FxL.gpure (v := ?_) rfl 7 rfl rfl (fun ev w hS E => ?_) ?_; rotate_left
            · obtain ⟨t28, ec, ef, eg⟩ := E.get [(0, 10, 28)] [] (by kernel_rfl); clear E; simp only [nthV] at t28; go_simp; try with_reducible rfl
            refine FxL.gpure (v := ?_) rfl 8 rfl rfl (fun ev w hS E => ?_) ?_; rotate_left
            · obtain ⟨⟨q0, q1, q2, q3⟩, r0, r1, r2, r3⟩ := KQ.out w hS
              obtain ⟨t27, t29, ec, ef, eg⟩ := E.get [(2, 9, 27), (0, 11, 29)] [] (by kernel_rfl); clear E; simp only [nthV] at t27 t29; go_simp; try with_reducible rfl
            refine FxL.gpure (v := ?_) rfl 9 rfl rfl (fun ev w hS E => ?_) ?_; rotate_left
            · obtain ⟨⟨q0, q1, q2, q3⟩, r0, r1, r2, r3⟩ := KQ.out w hS
              obtain ⟨t30, ec, ef, eg⟩ := E.get [(0, 12, 30)] [] (by kernel_rfl); clear E; simp only [nthV] at t30; go_simp; try with_reducible rfl
            refine FxL.gcall (v := ?_) (f := ?_) (args := ?_) rfl 10 rfl rfl (fun ev w hS E => ?_) (fun w hS => ?_) ?_; rotate_left 3
            · obtain ⟨⟨q0, q1, q2, q3⟩, r0, r1, r2, r3⟩ := KQ.out w hS
              obtain ⟨t22, t26, t31, ec, ef, eg⟩ := E.get [(9, 4, 22), (5, 8, 26), (0, 13, 31)] [] (by kernel_rfl); clear E; simp only [nthV] at t22 t26 t31; go_simp; first | (refine And.intro ?_ ?_ <;> with_reducible rfl) | with_reducible rfl
            · obtain ⟨⟨q0, q1, q2, q3⟩, r0, r1, r2, r3⟩ := KQ.out w hS
              refine (pcmp_any x y w).mono ?_
              rintro e w2 ⟨rfl, F2⟩
              refine ⟨?_, hS.pure F2⟩; with_reducible rfl
            refine FxL.gpure (v := ?_) rfl 11 rfl rfl (fun ev w hS E => ?_) ?_; rotate_left
            · obtain ⟨t32, ec, ef, eg⟩ := E.get [(0, 14, 32)] [] (by kernel_rfl); clear E; simp only [nthV] at t32; go_simp; try with_reducible rfl
            refine FxL.pure (v := ?_) rfl (fun ev w hS E => ?_) ?_; rotate_left
            · obtain ⟨t21, t33, ec, ef, eg⟩ := E.get [(12, 3, 21), (0, 15, 33)] [] (by kernel_rfl); clear E; simp only [nthV] at t21 t33; go_simp; try with_reducible rfl
            refine FxL.done (fun W hW => ?_)
            simp only [fillZ]
            try simp only [Act.put, List.setIfInBounds_toArray, List.set_cons_zero, List.set_cons_succ, List.getElem_toArray, List.getElem_cons_zero, List.getElem_cons_succ]
            try simp only [List.drop_succ_cons, List.drop_zero, List.drop_nil]
            obtain ⟨wc, hwc⟩ : ∃ wc : World, wc = W := ⟨_, rfl⟩
            subst hwc
            have HWC := Lib.hid (F2.pure hW)
            have c0 := hW.keep c0 (by simp)
            have c1 := hW.keep c1 (by simp)
            have c2 := hW.keep c2 (by simp)
            have c3 := hW.keep c3 (by simp)
            have d0 := hW.keep d0 (by simp)
            have d1 := hW.keep d1 (by simp)
            have d2 := hW.keep d2 (by simp)
            have d3 := hW.keep d3 (by simp)
            have HOWN := Lib.hid (own_fr HOWN.out hW (by simp))
            have KQ : Hid (∀ W, Fr none wc W → (W.cell? ⟨rb, (p + 1) * 4, none⟩ = some (.int .i64 x.src) ∧ W.cell? ⟨rb, (p + 1) * 4 + 1, none⟩ = some (.int .i64 x.seq) ∧ W.cell? ⟨rb, (p + 1) * 4 + 2, none⟩ = some (.int .i64 x.fee) ∧ W.cell? ⟨rb, (p + 1) * 4 + 3, none⟩ = some (.slice x.A x.ops.length x.c)) ∧ (W.cell? ⟨rb, p * 4, none⟩ = some (.int .i64 y.src) ∧ W.cell? ⟨rb, p * 4 + 1, none⟩ = some (.int .i64 y.seq) ∧ W.cell? ⟨rb, p * 4 + 2, none⟩ = some (.int .i64 y.fee) ∧ W.cell? ⟨rb, p * 4 + 3, none⟩ = some (.slice y.A y.ops.length y.c))) := fun W FW => ⟨⟨FW.keep c0 (by simp), FW.keep c1 (by simp), FW.keep c2 (by simp), FW.keep c3 (by simp)⟩, ⟨FW.keep d0 (by simp), FW.keep d1 (by simp), FW.keep d2 (by simp), FW.keep d3 (by simp)⟩⟩
            have hk1 : p + 1 < L2.length := by have := HLN.out; omega
            have HY : Hid ((L2.set (p + 1) y)[p]? = some y) := by unfold Hid; rw [List.getElem?_set_ne (by omega), HL2.out, ← HP.out]; simp
            clear hW
            go_upto_region 6 with (fail)
            refine wp_region_fxP (fun V => Fr none wc V) (fun V => Fr none wc V) [15, 17] [0, 1, 2, 3, 4, 5, 6, 7, 8, 9, 10, 11, 12, 13, 14, 15, 16, 17] 53 [none, some 52, none, some 51, some 50, some 49, some 48, some 47, some 46, some 45, some 44, some 43, some 42, some 41, some 40, some 39, some 38, some 37] (by kernel_rfl) (by kernel_rfl) (by kernel_rfl) (Nat.le_refl _) (show (fun V => Fr none wc V) _ from (Fr.refl _ _).drew) (fun W h => h) ?_
            refine FxP.pure (v := ?_) rfl rfl rfl (fun ev w E => ?_) ?_; rotate_left
            · obtain ⟨t0, ec, ef, eg⟩ := E.get [] [0] (by kernel_rfl); clear E; go_simp; try with_reducible rfl
            refine FxP.pure (v := ?_) rfl rfl rfl (fun ev w E => ?_) ?_; rotate_left
            · obtain ⟨t9, ec, ef, eg⟩ := E.get [] [9] (by kernel_rfl); clear E; go_simp; try with_reducible rfl
            refine FxP.pure (v := ?_) rfl rfl rfl (fun ev w E => ?_) ?_; rotate_left
            · obtain ⟨t0, ec, ef, eg⟩ := E.get [] [0] (by kernel_rfl); clear E; go_simp; try with_reducible rfl
            refine FxP.pure (v := ?_) rfl rfl rfl (fun ev w E => ?_) ?_; rotate_left
            · obtain ⟨t9, ec, ef, eg⟩ := E.get [] [9] (by kernel_rfl); clear E; go_simp; try with_reducible rfl
            refine FxP.pure (v := ?_) rfl rfl rfl (fun ev w E => ?_) ?_; rotate_left
            · obtain ⟨t40, ec, ef, eg⟩ := E.get [(0, 3, 40)] [] (by kernel_rfl); clear E; simp only [nthV] at t40; go_simp; try with_reducible rfl
            refine FxP.pure (v := ?_) rfl rfl rfl (fun ev w E => ?_) ?_; rotate_left
            · obtain ⟨t0, ec, ef, eg⟩ := E.get [] [0] (by kernel_rfl); clear E; go_simp; try with_reducible rfl
            refine FxP.pure (v := ?_) rfl rfl rfl (fun ev w E => ?_) ?_; rotate_left
            · obtain ⟨t9, ec, ef, eg⟩ := E.get [] [9] (by kernel_rfl); clear E; go_simp; try with_reducible rfl
            refine FxP.pure (v := ?_) rfl rfl rfl (fun ev w E => ?_) ?_; rotate_left
            · obtain ⟨t43, ec, ef, eg⟩ := E.get [(0, 6, 43)] [] (by kernel_rfl); clear E; simp only [nthV] at t43; go_simp; try with_reducible rfl
            refine FxP.pure (v := ?_) rfl rfl rfl (fun ev w E => ?_) ?_; rotate_left
            · obtain ⟨t42, t44, ec, ef, eg⟩ := E.get [(2, 5, 42), (0, 7, 44)] [] (by kernel_rfl); clear E; simp only [nthV] at t42 t44; go_simp; try with_reducible rfl
            refine FxP.load (v := ?_) rfl rfl rfl (fun ev w hS E => ?_) ?_; rotate_left
            · obtain ⟨⟨q0, q1, q2, q3⟩, r0, r1, r2, r3⟩ := KQ.out w hS
              obtain ⟨t45, ec, ef, eg⟩ := E.get [(0, 8, 45)] [] (by kernel_rfl); clear E; simp only [nthV] at t45; go_simp; try with_reducible rfl
            refine FxP.pure (v := ?_) rfl rfl rfl (fun ev w E => ?_) ?_; rotate_left
            · obtain ⟨t0, ec, ef, eg⟩ := E.get [] [0] (by kernel_rfl); clear E; go_simp; try with_reducible rfl
            refine FxP.pure (v := ?_) rfl rfl rfl (fun ev w E => ?_) ?_; rotate_left
            · obtain ⟨t9, ec, ef, eg⟩ := E.get [] [9] (by kernel_rfl); clear E; go_simp; try with_reducible rfl
            refine FxP.pure (v := ?_) rfl rfl rfl (fun ev w E => ?_) ?_; rotate_left
            · obtain ⟨t47, t48, ec, ef, eg⟩ := E.get [(1, 10, 47), (0, 11, 48)] [] (by kernel_rfl); clear E; simp only [nthV] at t47 t48; go_simp; try with_reducible rfl
            refine FxP.load (v := ?_) rfl rfl rfl (fun ev w hS E => ?_) ?_; rotate_left
            · obtain ⟨⟨q0, q1, q2, q3⟩, r0, r1, r2, r3⟩ := KQ.out w hS
              obtain ⟨t49, ec, ef, eg⟩ := E.get [(0, 12, 49)] [] (by kernel_rfl); clear E; simp only [nthV] at t49; go_simp; try with_reducible rfl
            refine FxP.pure (v := ?_) rfl rfl rfl (fun ev w E => ?_) ?_; rotate_left
            · obtain ⟨t37, t38, ec, ef, eg⟩ := E.get [(13, 0, 37), (12, 1, 38)] [] (by kernel_rfl); clear E; simp only [nthV] at t37 t38; go_simp; try with_reducible rfl
            refine FxP.store (S' := (fun V => ∃ W0, Fr none wc W0 ∧ V = (((World.setCell (W0) ⟨rb, (p + 1) * 4, none⟩ (.int .i64 y.src)).setCell ⟨rb, (p + 1) * 4 + 1, none⟩ (.int .i64 y.seq)).setCell ⟨rb, (p + 1) * 4 + 2, none⟩ (.int .i64 y.fee)).setCell ⟨rb, (p + 1) * 4 + 3, none⟩ (.slice y.A y.ops.length y.c))) rfl rfl rfl (by kernel_rfl) (fun ev w hS E => ?_) (NextP.new (G' := fun _ => True) (by kernel_rfl) (fun _ _ => trivial)) ?_
            · have hz := (own_free7 (own_fr HOWN.out hS (by simp))).1
              have q0 := hS.keep c0 (by simp)
              have q1 := hS.keep c1 (by simp)
              have q2 := hS.keep c2 (by simp)
              have q3 := hS.keep c3 (by simp)
              obtain ⟨t51, t46, ec, ef, eg⟩ := E.get [(0, 14, 51), (5, 9, 46)] [] (by kernel_rfl); clear E; simp only [nthV] at t51 t46
              refine ⟨?_, ?_, ?_⟩
              rotate_left
              · go_simp; try with_reducible rfl
              · exact ⟨_, hS, rfl⟩
            refine FxP.pure (v := ?_) rfl rfl rfl (fun ev w E => ?_) ?_; rotate_left
            · obtain ⟨t39, t41, ec, ef, eg⟩ := E.get [(13, 2, 39), (11, 4, 41)] [] (by kernel_rfl); clear E; simp only [nthV] at t39 t41; go_simp; try with_reducible rfl
            refine FxP.store (S' := (fun V => ∃ W0, Fr none wc W0 ∧ V = (((World.setCell ((((World.setCell (W0) ⟨rb, (p + 1) * 4, none⟩ (.int .i64 y.src)).setCell ⟨rb, (p + 1) * 4 + 1, none⟩ (.int .i64 y.seq)).setCell ⟨rb, (p + 1) * 4 + 2, none⟩ (.int .i64 y.fee)).setCell ⟨rb, (p + 1) * 4 + 3, none⟩ (.slice y.A y.ops.length y.c)) ⟨rb, p * 4, none⟩ (.int .i64 x.src)).setCell ⟨rb, p * 4 + 1, none⟩ (.int .i64 x.seq)).setCell ⟨rb, p * 4 + 2, none⟩ (.int .i64 x.fee)).setCell ⟨rb, p * 4 + 3, none⟩ (.slice x.A x.ops.length x.c))) rfl rfl rfl (by kernel_rfl) (fun ev w hS E => ?_) (NextP.new (G' := fun _ => True) (by kernel_rfl) (fun _ _ => trivial)) ?_
            · obtain ⟨W0, hF0, hV⟩ := hS
              have T1 := txrow4 (own_fr HOWN.out hF0 (by simp)) (p + 1) hk1 y _ hV
              have hz := (own_free7 T1.1).1
              obtain ⟨q0, q1, q2, q3⟩ := txrow_at T1.1 HY.out
              have HV := Lib.hid hV
              clear hV T1
              obtain ⟨t52, t50, ec, ef, eg⟩ := E.get [(0, 16, 52), (3, 13, 50)] [] (by kernel_rfl); clear E; simp only [nthV] at t52 t50
              refine ⟨?_, ?_, ?_⟩
              rotate_left
              · go_simp; try with_reducible rfl
              · exact ⟨W0, hF0, by rw [HV.out]⟩
            refine FxP.done (fun W hW => ?_)
            simp only [fillZ]
            try simp only [Act.put, List.setIfInBounds_toArray, List.set_cons_zero, List.set_cons_succ, List.getElem_toArray, List.getElem_cons_zero, List.getElem_cons_succ]
            obtain ⟨W0, hF0, hWe⟩ := hW
            have T1 := txrow4 (own_fr HOWN.out hF0 (by simp)) (p + 1) hk1 y _ rfl
            have T2 := txrow4 T1.1 p (by rw [List.length_set]; omega) x W hWe
            have hLs : (L2.set (p + 1) y).set p x = P'.reverse ++ x :: y :: (Q ++ T) := by
              rw [HL2.out, List.reverse_cons, List.append_assoc]
              exact swp_at HP.out
            have HLs := Lib.hid hLs
            have HT2 := Lib.hid T2.1
            have FT := (HWC.out.pure hF0).same (T1.2.same T2.2)
            clear c0 c1 c2 c3 d0 d1 d2 d3 hWe T1 T2 hLs
            go_wp2_with fail
            go_roundw
            case rel =>
              refine ⟨P', y :: Q, (L2.set (p + 1) y).set p x, by rw [HP.out], by rw [HP.out]; omega, ?_, HLs.out, ?_, HT2.out, FT⟩
              · have := HPQ.out
                unfold Hid at *
                simp only [List.length_cons] at *
                omega
              · unfold Hid
                rw [HIN.out, insV_go HLT.out]
                simp
            case measure => simp [intOf]
          · have hdv : decide (cmpT x y < 0) = false := decide_eq_false hlv
            have HLT : Hid (ltX x y = false) := hdv
            clear hlv
            go_upto_region 4 with (fail)
            refine wp_region_fxL (fun W => Fr none wr W) 17 53 [some 34, some 33, some 32, some 31, some 30, some 29, some 28, some 27, some 26, some 25, some 24, some 23, some 22, some 21, some 20, some 19, some 18] (by kernel_rfl) (by kernel_rfl) (by kernel_rfl) (Nat.le_refl _) ((Fr.refl _ _).drew) ?_
            refine FxL.pure (v := ?_) rfl (fun ev w hS E => ?_) ?_; rotate_left
            · obtain ⟨t9, ec, ef, eg⟩ := E.get [] [9] (by kernel_rfl); clear E; go_simp; try with_reducible rfl
            refine FxL.pure (v := ?_) rfl (fun ev w hS E => ?_) ?_; rotate_left
            · obtain ⟨t1, ec, ef, eg⟩ := E.get [] [1] (by kernel_rfl); clear E; go_simp; try with_reducible rfl
            refine FxL.pure (v := ?_) rfl (fun ev w hS E => ?_) ?_; rotate_left
            · obtain ⟨t18, t19, ec, ef, eg⟩ := E.get [(1, 0, 18), (0, 1, 19)] [] (by kernel_rfl); clear E; simp only [nthV] at t18 t19; go_simp; try with_reducible rfl
            refine FxL.pure (v := ?_) rfl (fun ev w hS E => ?_) ?_; rotate_left
            · obtain ⟨t20, ec, ef, eg⟩ := E.get [(0, 2, 20)] [] (by kernel_rfl); clear E; simp only [nthV] at t20; go_simp; try with_reducible rfl
            refine FxL.gpure (v := ?_) rfl 0 rfl rfl (fun ev w hS E => ?_) ?_; rotate_left
            · obtain ⟨t3, ec, ef, eg⟩ := E.get [] [3] (by kernel_rfl); clear E; go_simp; try with_reducible rfl
            refine FxL.gpure (v := ?_) rfl 1 rfl rfl (fun ev w hS E => ?_) ?_; rotate_left
            · obtain ⟨t0, ec, ef, eg⟩ := E.get [] [0] (by kernel_rfl); clear E; go_simp; try with_reducible rfl
            refine FxL.gpure (v := ?_) rfl 2 rfl rfl (fun ev w hS E => ?_) ?_; rotate_left
            · obtain ⟨t9, ec, ef, eg⟩ := E.get [] [9] (by kernel_rfl); clear E; go_simp; try with_reducible rfl
            refine FxL.gpure (v := ?_) rfl 3 rfl rfl (fun ev w hS E => ?_) ?_; rotate_left
            · obtain ⟨⟨q0, q1, q2, q3⟩, r0, r1, r2, r3⟩ := KQ.out w hS
              obtain ⟨t23, t24, ec, ef, eg⟩ := E.get [(1, 5, 23), (0, 6, 24)] [] (by kernel_rfl); clear E; simp only [nthV] at t23 t24; go_simp; try with_reducible rfl
            refine FxL.gpure (v := ?_) rfl 4 rfl rfl (fun ev w hS E => ?_) ?_; rotate_left
            · obtain ⟨⟨q0, q1, q2, q3⟩, r0, r1, r2, r3⟩ := KQ.out w hS
              obtain ⟨t25, ec, ef, eg⟩ := E.get [(0, 7, 25)] [] (by kernel_rfl); clear E; simp only [nthV] at t25; go_simp; try with_reducible rfl
            refine FxL.gpure (v := ?_) rfl 5 rfl rfl (fun ev w hS E => ?_) ?_; rotate_left
            · obtain ⟨t0, ec, ef, eg⟩ := E.get [] [0] (by kernel_rfl); clear E; go_simp; try with_reducible rfl
            refine FxL.gpure (v := ?_) rfl 6 rfl rfl (fun ev w hS E => ?_) ?_; rotate_left
            · obtain ⟨t9, ec, ef, eg⟩ := E.get [] [9] (by kernel_rfl); clear E; go_simp; try with_reducible rfl
            refine FxL.gpure (v := ?_) rfl 7 rfl rfl (fun ev w hS E => ?_) ?_; rotate_left
            · obtain ⟨t28, ec, ef, eg⟩ := E.get [(0, 10, 28)] [] (by kernel_rfl); clear E; simp only [nthV] at t28; go_simp; try with_reducible rfl
            refine FxL.gpure (v := ?_) rfl 8 rfl rfl (fun ev w hS E => ?_) ?_; rotate_left
            · obtain ⟨⟨q0, q1, q2, q3⟩, r0, r1, r2, r3⟩ := KQ.out w hS
              obtain ⟨t27, t29, ec, ef, eg⟩ := E.get [(2, 9, 27), (0, 11, 29)] [] (by kernel_rfl); clear E; simp only [nthV] at t27 t29; go_simp; try with_reducible rfl
            refine FxL.gpure (v := ?_) rfl 9 rfl rfl (fun ev w hS E => ?_) ?_; rotate_left
            · obtain ⟨⟨q0, q1, q2, q3⟩, r0, r1, r2, r3⟩ := KQ.out w hS
              obtain ⟨t30, ec, ef, eg⟩ := E.get [(0, 12, 30)] [] (by kernel_rfl); clear E; simp only [nthV] at t30; go_simp; try with_reducible rfl
            refine FxL.gcall (v := ?_) (f := ?_) (args := ?_) rfl 10 rfl rfl (fun ev w hS E => ?_) (fun w hS => ?_) ?_; rotate_left 3
            · obtain ⟨⟨q0, q1, q2, q3⟩, r0, r1, r2, r3⟩ := KQ.out w hS
              obtain ⟨t22, t26, t31, ec, ef, eg⟩ := E.get [(9, 4, 22), (5, 8, 26), (0, 13, 31)] [] (by kernel_rfl); clear E; simp only [nthV] at t22 t26 t31; go_simp; first | (refine And.intro ?_ ?_ <;> with_reducible rfl) | with_reducible rfl
            · obtain ⟨⟨q0, q1, q2, q3⟩, r0, r1, r2, r3⟩ := KQ.out w hS
              refine (pcmp_any x y w).mono ?_
              rintro e w2 ⟨rfl, F2⟩
              refine ⟨?_, hS.pure F2⟩; with_reducible rfl
            refine FxL.gpure (v := ?_) rfl 11 rfl rfl (fun ev w hS E => ?_) ?_; rotate_left
            · obtain ⟨t32, ec, ef, eg⟩ := E.get [(0, 14, 32)] [] (by kernel_rfl); clear E; simp only [nthV] at t32; go_simp; try with_reducible rfl
            refine FxL.pure (v := ?_) rfl (fun ev w hS E => ?_) ?_; rotate_left
            · obtain ⟨t21, t33, ec, ef, eg⟩ := E.get [(12, 3, 21), (0, 15, 33)] [] (by kernel_rfl); clear E; simp only [nthV] at t21 t33; go_simp; try with_reducible rfl
            refine FxL.done (fun W hW => ?_)
            simp only [fillZ]
            try simp only [Act.put, List.setIfInBounds_toArray, List.set_cons_zero, List.set_cons_succ, List.getElem_toArray, List.getElem_cons_zero, List.getElem_cons_succ]
            try simp only [List.drop_succ_cons, List.drop_zero, List.drop_nil]
            have HD2 := Lib.hid (HDone.out (insV_stop HLT.out))
            clear c0 c1 c2 c3 d0 d1 d2 d3
            go_wp2_with fail
            go_roundw
            case rel => exact ⟨i + 1, L2, by omega, by go_num, .inl (by omega), HD2.out.symm, own_fr HOWN.out hW (by simp), F2.pure hW⟩
            case measure => simp [intOf]; omega
    · have HF : Hid (L = srtX l) := by
        unfold Hid srtX srtL
        rw [HL.out]
        rcases HI.out with h | h
        · obtain rfl : i = l.length := by omega
          rw [List.drop_length, List.append_nil, List.take_length]
        · subst h
          have : l.length = 0 ∨ l.length = 1 := by omega
          rcases this with h | h
          · obtain rfl := List.eq_nil_of_length_eq_zero h
            rfl
          · rw [List.take_of_length_le (by omega), List.drop_of_length_le (by omega), List.append_nil]
      go_wp2_with fail
      go_end0
      refine ⟨rfl, ?_, F⟩
      rw [← HF.out]
      exact own
end Go.Proofs.YtonhhnedfjonoaaGreatDoor

/- Walks: slices.SortStableFunc of transactions (fewer than 20); ledger.Sort. -/
namespace Go.Proofs.YtonhhnedfjonoaaGreatDoor
open Go.RowKit

set_option maxRecDepth 100000 in
set_option maxHeartbeats 4000000 in
theorem pstab_any (base : Nat) (l : List TxX) (A : Option Addr) (c : Nat) (w : World) (own : w.ownsRow base 57 4 (.slice A l.length c) l.length (flR txR l)) (hl : l.length < 20) :
    Calls Tryz.prog 64 #[.slice A l.length c, .int .i64 (l.length : Int), .func (.func 40) #[] #[]] w fun e w' => e = .returned (.tuple #[]) ∧ w'.ownsRow base 57 4 (.slice A l.length c) l.length (flR txR (srtX l)) ∧ Fr (Value.slice A l.length c).ownBlock w w' := by
  have d1 : decide ((20 : Int) ≤ (l.length : Int)) = false := decide_eq_false (by omega)
  have d2 : decide ((20 : Int) < (l.length : Int)) = false := decide_eq_false (by omega)
  have HO := Lib.hid own
  clear own
  go_enter Tryz.func64, Tryz.ntmps64
  go_wp2_with fail
  go_loopw [7, 8] (fun s7 s8 wr => s7 = .int .i64 0 ∧ s8 = .int .i64 20 ∧ wr = w) (fun _ _ _ => 0)
  case atStart => exact ⟨rfl, rfl, rfl⟩
  case round =>
    obtain ⟨rfl, rfl, rfl⟩ := hrel
    go_wp2_with fail
    refine (pins_any base l A c _ HO.out (by omega)).mono ?_
    rintro e w2 ⟨rfl, own2, F2⟩
    have HO2 := Lib.hid own2
    clear own2
    go_wp2_with fail
    go_loopw [6] (fun s6 wr => s6 = .int .i64 20 ∧ wr = w2) (fun _ _ => 0)
    case atStart => exact ⟨rfl, rfl⟩
    case round =>
      obtain ⟨rfl, rfl⟩ := hrel
      go_wp2_with fail
      go_end0
      exact ⟨rfl, HO2.out, F2⟩
set_option maxRecDepth 100000 in
set_option maxHeartbeats 4000000 in
theorem psstb_any (base : Nat) (l : List TxX) (A : Option Addr) (c : Nat) (w : World) (own : w.ownsRow base 57 4 (.slice A l.length c) l.length (flR txR l)) (hl : l.length < 20) :
    Calls Tryz.prog 39 #[.slice A l.length c, .func (.func 40) #[] #[]] w fun e w' => e = .returned (.tuple #[]) ∧ w'.ownsRow base 57 4 (.slice A l.length c) l.length (flR txR (srtX l)) ∧ Fr (Value.slice A l.length c).ownBlock w w' := by
  have HO := Lib.hid own
  clear own
  go_enter Tryz.func39, Tryz.ntmps39
  go_wp2_with fail
  refine (pstab_any base l A c w HO.out hl).mono ?_
  rintro e w2 ⟨rfl, own2, F2⟩
  go_wp2_with fail
  go_end0
  exact ⟨rfl, own2, F2⟩
/-- Transactions in blocks of their own, from B on. -/
def SlTN (B : Nat) (w : World) (v : Value) (l : List TxX) : Prop := SlN txR B w v l ∧ ∀ t ∈ l, TxN B w t
theorem SlTN.t {B : Nat} {w : World} {v : Value} {l : List TxX} (h : SlTN B w v l) (r : Option Nat) (hr : ∀ g, r = some g → g < B) : SlT w r v l := ⟨h.1.sl r hr, fun t ht => (h.2 t ht).d r hr⟩
theorem SlTN.fr {B : Nat} {r : Option Nat} {w w' : World} {v : Value} {l : List TxX} (h : SlTN B w v l) (f : Fr r w w') (hr : ∀ g, r = some g → g < B) : SlTN B w' v l := ⟨h.1.fr f hr, fun t ht => (h.2 t ht).fr f hr⟩
theorem SlTN.mono {B B' : Nat} {w : World} {v : Value} {l : List TxX} (h : SlTN B w v l) (hB : B' ≤ B) : SlTN B' w v l := ⟨h.1.mono hB, fun t ht => (h.2 t ht).mono hB⟩
theorem TxO.n {B : Nat} {w : World} {v : Value} {t : TxX} (h : TxO B w v t) : TxN B w t := ⟨⟨h.1.1.keep dx_dn, h.1.2⟩, fun x hx => ⟨(h.2 x hx).1.keep dx_dn, (h.2 x hx).2⟩⟩
set_option maxRecDepth 100000 in
set_option maxHeartbeats 4000000 in
theorem psort_any (l : List TxX) (v : Value) (w : World) (h : SlT w none v l) (hl : l.length < 20) (hsm : ∀ t ∈ l, TxSm t) :
    Calls Tryz.prog 18 #[v] w fun e w' => ∃ v' l', e = .returned v' ∧ SlTN w.heap.size w' v' l' ∧ plT l' = srtL ltTx (plT l) ∧ Fr none w w' := by
  have HD := Lib.hid h.2
  have HW := Lib.hid h.1.2
  have HSM := Lib.hid hsm
  obtain ⟨A, c, rfl, q1, q2, hc⟩ := txR_open h.1
  have HC := Lib.hid hc
  clear h hc hsm
  go_enter Tryz.func18, Tryz.ntmps18
  go_wp2_with fail
  go_loopw [3, 8] (fun s3 s8 wr => ∃ (k : Nat) (L : List TxX) (Ap : Option Addr) (cp : Nat), k ≤ l.length ∧ s8 = .int .i64 (k : Int) ∧ s3 = .slice Ap L.length cp ∧ Hid (plT L = plT (l.take k)) ∧ Hid (L.length = k) ∧ Fr none w wr ∧ wr.ownsRow w.heap.size 57 4 (.slice Ap L.length cp) L.length (flR txR L) ∧ Hid (∀ t ∈ L, TxW t ∧ TxO w.heap.size wr (.slice Ap L.length cp) t)) (fun _ s8 _ => l.length - (intOf s8).toNat)
  case atStart => exact ⟨0, [], none, 0, Nat.zero_le _, rfl, rfl, rfl, rfl, Fr.refl _ _, World.ownsRow_nil _ _ _ _, (fun x hx => by cases hx)⟩
  case round =>
    obtain ⟨k, L, Ap, cp, hk, rfl, rfl, HPL, HLK, F, own, HPs⟩ := hrel
    by_cases hlt : k < l.length
    · obtain ⟨b, off, rfl, hb, _, hcc⟩ := HC.out (by omega)
      obtain ⟨d0, d1, d2, d3⟩ := hcc k hlt
      have d0 := F.keep d0 (by simp)
      have d1 := F.keep d1 (by simp)
      have d2 := F.keep d2 (by simp)
      have d3 := F.keep d3 (by simp)
      have HDy := Lib.hid (HD.out _ (List.getElem_mem hlt))
      have HWy := Lib.hid (HW.out _ (List.getElem_mem hlt))
      have HSy := Lib.hid (HSM.out _ (List.getElem_mem hlt))
      have HSt : Hid (plT (l.take (k + 1)) = plT (l.take k) ++ [l[k].pl]) := by unfold Hid plT; rw [List.take_succ_eq_append_getElem hlt, List.map_append]; rfl
      clear hcc
      generalize l[k] = y at *
      have hcp := own_cap own
      have hLk := HLK.out
      unfold TxX.v at d3
      go_upto_region 5 with (fail)
      generalize hWa : wr.alloc _ = wa
      have Fa : Fr none wr wa := hWa ▸ (Fr.refl none wr).alloc _
      have b5 : TxB wa wr.heap.size y := by rw [← hWa]; exact blk_new _ _
      clear hWa d0 d1 d2 d3
      obtain ⟨c0, c1, c2, c3⟩ := txcells b5
      go_wp2_with fail
      refine (pcopied_any y wa (HDy.out.fr (F.pure Fa)) HSy.out).mono ?_
      rintro e w5 ⟨t', rfl, hpl, hTN, F5⟩
      have F56 := Fa.pure F5
      have own6 := own_fr own F56 (by simp)
      have HPs6 : Hid (∀ t ∈ L, TxW t ∧ TxO w.heap.size w5 (.slice Ap L.length cp) t) := fun t ht => ⟨(HPs.out t ht).1, (HPs.out t ht).2.keep (dx_fr F56 (fun g e => by cases e))⟩
      have HOB : Hid (∀ g, (Value.slice Ap L.length cp).ownBlock = some g → g < wa.heap.size) := fun g hg => Nat.lt_of_lt_of_le (own.lt g hg).2 Fa.size
      have HTN := Lib.hid hTN
      have HPL' := Lib.hid hpl
      have HTW' : Hid (TxW t') := by
        have h1 := congrArg Txn.src hpl
        have h2 := congrArg Txn.seq hpl
        have h3 := congrArg Txn.fee hpl
        have := HWy.out
        simp only [TxX.pl] at h1 h2 h3
        show Wi t'.src ∧ Wi t'.seq ∧ Wi t'.fee
        rw [h1, h2, h3]
        exact this
      have FF6 := F.pure F56
      have hle : wr.heap.size ≤ w5.heap.size := F56.size
      have hle1 := (F.pure Fa).size
      have hle2 := F5.size
      clear own HPs F5 Fa hpl hTN c0 c1 c2 c3 b5
      obtain ⟨ts, tq, tf, tp, tA, tc⟩ := t'
      unfold txV
      dsimp only
      go_wp2_with (at_builtin; refine app_lit eiTx rfl _ _ rfl w.heap.size Ap L.length cp _ rfl own6 1 [.int .i64 ts, .int .i64 tq, .int .i64 tf, .slice tA tp.length tc] _ _ rfl (by simp) rfl (by simp [Value.oneCell']) (by omega) (by unfold maxLen; omega) (by omega) ?_; intro A7 c7 w7 own7 F7 nb7)
      go_roundw
      case rel =>
        have hdx : ∀ z : Nat, Dx w.heap.size w5 (.slice Ap L.length cp) z → Dx w.heap.size w7 (.slice A7 (L.length + 1) c7) z ∧ w7.heap[z]? = w5.heap[z]? := dx_app F7 nb7
        refine ⟨k + 1, L ++ [⟨ts, tq, tf, tp, tA, tc⟩], A7, c7, by omega, by go_num, ?_, ?_, ?_, FF6.own F7 (fun g e => own_blk_ge own6 g e), ?_, ?_⟩
        · rw [List.length_append, hLk]; rfl
        · unfold Hid
          rw [HSt.out, ← HPL.out, ← HPL'.out]
          unfold plT
          rw [List.map_append]; rfl
        · have := HLK.out
          unfold Hid
          rw [List.length_append]
          simp only [List.length_cons, List.length_nil]
          omega
        · rw [List.length_append]
          simp only [List.length_cons, List.length_nil]
          rw [flR_snoc]
          exact own7
        · rw [List.length_append]
          simp only [List.length_cons, List.length_nil]
          intro z hz
          rcases List.mem_append.1 hz with hz | hz
          · exact ⟨(HPs6.out z hz).1, (HPs6.out z hz).2.keep hdx⟩
          · rw [List.mem_singleton.1 hz]
            exact ⟨HTW'.out, (TxO.of HTN.out (dn_dx hle1 HOB.out)).keep hdx⟩
      case measure => simp [intOf]; omega
    · obtain rfl : k = l.length := by omega
      have HPF : Hid (plT L = plT l) := by
        have := HPL.out
        rw [List.take_of_length_le (Nat.le_refl _)] at this
        exact this
      go_wp2_with fail
      refine (psstb_any w.heap.size L Ap cp wr own (by have := HLK.out; omega)).mono ?_
      rintro e w5 ⟨rfl, own5, F5⟩
      have HO5 := Lib.hid own5
      clear own own5
      go_wp2_with fail
      go_ret
      refine ⟨.slice Ap L.length cp, srtX L, rfl, ⟨?_, fun t ht => ?_⟩, by rw [srtX_pl, HPF.out], F.own F5 (fun g hg => own_blk_ge HO5.out g hg)⟩
      · exact SlN.of_own (R := txR) HO5.out (fun t ht => (HPs.out t (srtL_mem.1 ht)).1)
      · exact ((HPs.out t (srtL_mem.1 ht)).2.keep (dx_app F5 (.inl rfl))).n
end Go.Proofs.YtonhhnedfjonoaaGreatDoor

/- Plain law: the text of a valid set is ASCII; when a set that ascends is right. -/
namespace Go.Proofs.YtonhhnedfjonoaaGreatDoor
open Go.RowKit

theorem dg_ac {c : UInt8} (hc : 128 ≤ c.toNat) : isDg c = false := by
  unfold isDg
  exact decide_eq_false (by omega)
theorem itoa_ac {k : Int} (h : 0 ≤ k) {c : UInt8} (hc : 128 ≤ c.toNat) : Noc c (Lib.itoa k) := itoa_noc h (dg_ac hc)
theorem k_ac {c k : UInt8} (hc : 128 ≤ c.toNat) (hk : k = 99 ∨ k = 112 ∨ k = 116 ∨ k = 111 ∨ k = 120 ∨ k = 115) : k ≠ c := fun e => by
  subst e
  rcases hk with rfl | rfl | rfl | rfl | rfl | rfl <;> exact absurd hc (by decide)
theorem one_ac {c k : UInt8} (hc : 128 ≤ c.toNat) (hk : k.toNat < 128) : Noc c [k] := fun b hb e => by
  rw [List.mem_singleton.1 hb] at e
  subst e
  omega
theorem txtA_ac {a : Ast} (h : vAst a = true) {c : UInt8} (hc : 128 ≤ c.toNat) : Noc c (txtA a) := by
  rcases vAst_cases h with rfl | ⟨hn, h1, h2, h3, h4⟩
  · unfold txtA
    rw [if_pos rfl]
    exact one_ac hc (by decide)
  · unfold txtA
    rw [if_neg hn]
    refine Noc.app (fun d hd e => ?_) (itoa_ac (by omega) hc)
    have := h4 d hd
    rw [e] at this
    omega
theorem wdsO_ac {o : Opr} (h : vOp o = true) {c : UInt8} (hc : 128 ≤ c.toNat) : ∀ x ∈ wdsO o, Noc c x := by
  rcases vo_of h with ⟨k, h1, h2, _⟩ | ⟨k, h1, h2, h3, _⟩ | ⟨k, h1, h2, _⟩ | ⟨k, h1, h2, h3, h4, _⟩ | ⟨k, h1, _⟩ | ⟨k, h1, h2, h3, h4, h5, h6⟩
  · unfold wdsO
    rw [if_pos k]
    intro x hx
    simp only [List.mem_cons, List.not_mem_nil, or_false] at hx
    rcases hx with rfl | rfl
    · exact (itoa_ac (by omega) hc).cons (k_ac hc (by simp))
    · exact itoa_ac (by omega) hc
  · unfold wdsO
    rw [if_neg (by omega), if_pos k]
    intro x hx
    simp only [List.mem_cons, List.not_mem_nil, or_false] at hx
    rcases hx with rfl | rfl | rfl
    · exact (itoa_ac (by omega) hc).cons (k_ac hc (by simp))
    · exact itoa_ac (by omega) hc
    · exact txtA_ac h3 hc
  · unfold wdsO
    rw [if_neg (by omega), if_neg (by omega), if_pos k]
    intro x hx
    simp only [List.mem_cons, List.not_mem_nil, or_false] at hx
    rcases hx with rfl | rfl
    · exact (txtA_ac h2 hc).cons (k_ac hc (by simp))
    · exact itoa_ac (by omega) hc
  · unfold wdsO
    rw [if_neg (by omega), if_neg (by omega), if_neg (by omega), if_pos k]
    intro x hx
    simp only [List.mem_cons, List.not_mem_nil, or_false] at hx
    rcases hx with rfl | rfl | rfl | rfl | rfl
    · exact (itoa_ac (by omega) hc).cons (k_ac hc (by simp))
    · exact txtA_ac h2 hc
    · exact txtA_ac h3 hc
    · exact itoa_ac (by omega) hc
    · exact itoa_ac (by omega) hc
  · unfold wdsO
    rw [if_neg (by omega), if_neg (by omega), if_neg (by omega), if_neg (by omega), if_pos k]
    intro x hx
    simp only [List.mem_cons, List.not_mem_nil, or_false] at hx
    rw [hx]
    exact (itoa_ac (by omega) hc).cons (k_ac hc (by simp))
  · unfold wdsO
    rw [if_neg (by omega), if_neg (by omega), if_neg (by omega), if_neg (by omega), if_neg (by omega), if_pos k]
    intro x hx
    simp only [List.mem_cons, List.mem_map] at hx
    rcases hx with rfl | rfl | rfl | rfl | rfl | ⟨a, ha, rfl⟩
    · exact (itoa_ac (by omega) hc).cons (k_ac hc (by simp))
    · exact itoa_ac (by omega) hc
    · exact txtA_ac h4 hc
    · exact itoa_ac (by omega) hc
    · exact txtA_ac h5 hc
    · exact txtA_ac (h6.2 a ha) hc
theorem txtO_ac {o : Opr} (h : vOp o = true) {c : UInt8} (hc : 128 ≤ c.toNat) : Noc c (txtO o) := Noc.join (one_ac hc (by decide)) _ (wdsO_ac h hc)
theorem txtT_ac {t : Txn} (h : VT t) {c : UInt8} (hc : 128 ≤ c.toNat) : Noc c (txtT t) := by
  refine Noc.join (one_ac hc (by decide)) _ ?_
  intro x hx
  unfold wdsT at hx
  simp only [List.mem_cons, List.mem_map] at hx
  rcases hx with rfl | rfl | rfl | ⟨o, ho, rfl⟩
  · exact itoa_ac (by have := h.1; omega) hc
  · exact itoa_ac (by have := h.2.1; omega) hc
  · exact itoa_ac (by have := h.2.2.1; omega) hc
  · exact txtO_ac (h.2.2.2.2 o ho) hc
/-- The text of a right set is ASCII. -/
theorem txtS_ac {l : List Txn} (h : ∀ t ∈ l, vTx t = true) : ∀ c ∈ txtS l, c.toNat < 128 := fun c hc => by
  rcases Nat.lt_or_ge c.toNat 128 with hh | hh
  · exact hh
  · exfalso
    unfold txtS at hc
    split at hc
    · rw [List.mem_singleton.1 hc] at hh
      exact absurd hh (by decide)
    · refine Noc.join (one_ac hh (by decide)) _ (fun x hx => ?_) c hc rfl
      obtain ⟨t, ht, rfl⟩ := List.mem_map.1 hx
      exact txtT_ac (vt_of (h t ht)) hh
/-- A set that ascends strictly is right. -/
theorem chkT_up {l : List Txn} (h1 : l.length ≤ 12) (h2 : ∀ t ∈ l, vTx t = true) (h3 : l.Pairwise (fun a b => ltTx a b = true)) : chkT l = 0 := by
  unfold chkT
  rw [if_neg (by omega), if_neg (by rw [List.all_eq_true.2 h2]; simp), if_pos]
  refine okAll_all fun k hk => ?_
  unfold prevOf okTx
  by_cases h0 : k = 0
  · rw [if_pos h0]
  · rw [if_neg h0]
    have hk1 : k - 1 < l.length := by omega
    rw [List.getElem?_eq_getElem hk1]
    exact List.pairwise_iff_getElem.1 h3 (k - 1) k hk1 hk (by omega)
theorem ltTx_asymm (a b : Txn) (h : ltTx a b = true) : ltTx b a = false := by
  unfold ltTx at *
  simp only [decide_eq_true_eq, decide_eq_false_iff_not] at *
  omega
theorem ltTx_trans (a b c : Txn) (h : ltTx a b = false) (k : ltTx b c = false) : ltTx a c = false := by
  unfold ltTx at *
  simp only [decide_eq_false_iff_not] at *
  omega
theorem ltTx_src {a b : Txn} (h : a.src < b.src) : ltTx a b = true := by unfold ltTx; exact decide_eq_true (.inl h)
theorem pw_pl {l : List TxX} (h : l.Pairwise (fun a b => a.src < b.src)) : (plT l).Pairwise (fun a b => ltTx a b = true) := by
  unfold plT
  rw [List.pairwise_map]
  exact h.imp fun h => ltTx_src h
end Go.Proofs.YtonhhnedfjonoaaGreatDoor

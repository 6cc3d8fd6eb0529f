/- Walk: catchup.Trusted. -/
import Derived.Test.YtidnnjgiogklaaaDoorSat
import Derived.Test.YtidnnjgiogklaaaDoorSaid
import Derived.Test.YtidnnjgiogklaaaDoorApp
namespace Go.Proofs.YtidnnjgiogklaaaDoor
open Go.RowKit Go.Maps

theorem lawU64 : Keyed Tryd.prog 30 := int_keyed Tryd.underlying30
theorem zeroInt (w : World) : (zeroValue 3).run Tryd.prog w = .ok (.int .i64 0) w := by kernel_rfl

/-- What Trusted answers. -/
def TrustedP (l : List Nat) (T : Tr) (w : World) (e : Ending) (w' : World) : Prop :=
  ∃ (x : Nat) (b : Bool), e = .returned (.tuple #[.int .u64 (x : Int), .bool b]) ∧ x < 18446744073709551616 ∧ (b = true → x ≠ 0 ∧ (∃ i, i < min l.length 10 ∧ l.getD i 0 = x) ∧ sat (maskTo l (min l.length 10) x) T = true) ∧
    (b = false → ∀ y, y ≠ 0 → (∃ i, i < min l.length 10 ∧ l.getD i 0 = y) → sat (maskTo l (min l.length 10) y) T = false) ∧ Fr none w w'

set_option maxRecDepth 100000 in
set_option maxHeartbeats 1000000 in
theorem trusted_any (l : List Nat) (T : Tr) (v tv : Value) (w : World) (r : Option Nat) (hl : SlU w r v l) (hT : TrR w r tv T) :
    Calls Tryd.prog 15 #[v, tv] w (TrustedP l T w) := by
  have hl0 := hl
  have hT0 := hT
  obtain ⟨A, c, rfl, q1, q2, hc⟩ := hl.open_
  obtain ⟨thr, nodes, inner⟩ := T
  obtain ⟨A1, c1, A2, c2, rfl, h1, h2⟩ := hT.open_
  clear h1 h2
  generalize hm : min l.length 10 = m
  have m1 : m ≤ 10 := by omega
  have m2 : m ≤ l.length := by omega
  have HM := Lib.hid hm
  have hmk := @run_makeMap Tryd.prog
  clear hm
  go_enter Tryd.func15, Tryd.ntmps15
  go_upto_region 2 with (fail)
  generalize hW : (w.alloc _).alloc _ = w1
  have F1 : Fr none w w1 := hW ▸ ((Fr.refl _ w).alloc _).alloc _
  have own1 : w1.ownsMap Tryd.prog 30 (plainElem Tryd.prog 3) (w.heap.size + 1) 0 (saidTo l 0) := by
    rw [← hW]
    have := World.ownsMap_made (w.alloc (.cells #[.int .i64 thr, .slice A1 nodes.length c1, .slice A2 inner.length c2] 27)) Tryd.prog 30 (plainElem (H := Unit) Tryd.prog 3)
    simpa [saidTo] using this
  have b3 : w1.heap[w.heap.size]? = some (.cells #[.int .i64 thr, .slice A1 nodes.length c1, .slice A2 inner.length c2] 27 (0, 0)) := by
    rw [← hW]; exact (Below.heap_alloc _ _ _ (by simp)).trans (blk_new _ _)
  have B3 := Lib.hid b3
  have hz : w.heap.size + 2 ≤ w1.heap.size := by rw [← hW]; simp
  clear hW b3
  go_cut [18, 19, 20] (fun s18 s19 s20 wr => s18 = .slice A m c ∧ s19 = .int .i64 (m : Int) ∧ s20 = .int .i64 0 ∧ wr = w1)
  case first =>
    by_cases h10 : l.length ≤ 10
    · obtain rfl : m = l.length := by have := HM.out; omega
      go_wp2_with fail
      go_meet
      exact ⟨rfl, rfl, rfl, rfl⟩
    · obtain rfl : m = 10 := by have := HM.out; omega
      go_wp2_with fail
      all_goals first | (exfalso; omega) | skip
      go_meet
      exact ⟨rfl, rfl, rfl, rfl⟩
  case rest =>
    obtain ⟨rfl, rfl, rfl, rfl⟩ := hcut
    clear hmk
    go_wp2_with fail
    go_loopw [20] (fun i wr => ∃ k : Nat, k ≤ m ∧ i = .int .i64 k ∧ Fr none w wr ∧ w.heap.size + 2 ≤ wr.heap.size ∧ Hid (wr.heap[w.heap.size]? = some (.cells #[.int .i64 thr, .slice A1 nodes.length c1, .slice A2 inner.length c2] 27 (0, 0))) ∧
      wr.ownsMap Tryd.prog 30 (plainElem Tryd.prog 3) (w.heap.size + 1) k (saidTo l k)) (fun i _ => m - (intOf i).toNat)
    case atStart => exact ⟨0, Nat.zero_le _, rfl, F1, by omega, B3, own1⟩
    case round =>
      obtain ⟨k, hk, rfl, F, hs, B, own⟩ := hrel
      by_cases hlt : k < m
      · have hl1 := hl0.fr (F.mono (r := r))
        obtain ⟨A', c', e0, q1', q2', hc'⟩ := hl1.open_
        injection e0 with e1 _ e3
        subst e1 e3
        obtain ⟨b, off, rfl, hb, hbr, hcc⟩ := hc' (by omega)
        have hck := hcc k (by omega)
        have hlk : l.getD k 0 < 18446744073709551616 := hl0.2 _ (by
          rw [List.getD_eq_getElem?_getD, List.getElem?_eq_getElem (by omega)]
          exact List.getElem_mem _)
        clear hcc hc' hc
        have HS : Hid (saidTo l (k + 1) = if l.getD k 0 = 0 then saidTo l k else (saidTo l k).put (.int .u64 (l.getD k 0 : Nat)) (.lit (.int .i64 (maskTo l (k + 1) (l.getD k 0))))) := rfl
        have hmk : Hid (maskTo l (k + 1) (l.getD k 0) = maskTo l k (l.getD k 0) ||| 2 ^ k) := by simp [Hid, maskTo]
        have hm1 := maskTo_lt l (l.getD k 0) k
        have hat := said_at l (l.getD k 0)
        generalize l.getD k 0 = y at *
        by_cases hy : y = 0
        · have hy0 : ((y : Int) != 0) = false := by simp [hy]
          have HY := Lib.hid hy
          clear hy hat hm1
          go_wp2_with fail
          go_roundw
          case rel => exact ⟨k + 1, by omega, by go_num, F, hs, B, by rw [HS.out, if_pos HY.out]; exact own.mono (by omega)⟩
          case measure => simp [intOf]; omega
        · have hy0 : ((y : Int) != 0) = true := by rw [bne_iff_ne]; omega
          have hkey : keyOf Tryd.prog 30 (.int .u64 (y : Int)) = some (.int .u64 (y : Int)) := keyOf_int_mk Tryd.underlying30 (WalkArith.wf_u64 (by omega))
          obtain ⟨cc, hrun, hat2, _⟩ := (own.drew).lookup_int lawU64 Tryd.underlying75 Tryd.underlying3 (zeroInt _) hkey
          rw [hat hy k] at hat2
          obtain rfl : ((maskTo l k y : Nat) : Int) = cc := by simpa using hat2
          have HK := Lib.hid hkey
          have hp := pow2_lt k (by omega)
          have hbits : bits .or .i64 ((maskTo l k y : Nat) : Int) (wrap64 (2 ^ k)) = ((maskTo l k y ||| 2 ^ k : Nat) : Int) := by
            rw [wrap_pow k (by omega), or_i64 _ _ (by omega) (by omega)]
          have hbits2 : bits .or .i64 ((maskTo l k y : Nat) : Int) (IntKind.i64.wrap (2 ^ k)) = ((maskTo l k y ||| 2 ^ k : Nat) : Int) := by
            rw [wrapI]; exact hbits
          have hmx : maskTo l k y ||| 2 ^ k < 2 ^ (k + 1) := Nat.or_lt_two_pow (by rw [Nat.pow_succ]; omega) (by rw [Nat.pow_succ]; have := Nat.two_pow_pos k; omega)
          have hp1 := pow2_lt (k + 1) (by omega)
          have hwf : (Lit.int .i64 ((maskTo l k y ||| 2 ^ k : Nat) : Int)).wf = true := WalkArith.wf_i64 (by omega)
          have HW := Lib.hid hwf
          have HMX := Lib.hid hmx
          clear hat hat2 hkey hwf hp hp1 hm1 hmx
          go_wp2_with fail
          go_still_tail 6, (by kernel_rfl)
          change wpList _ _ _ _ _ wr.drew
          go_wp2_with (at_mapUpdate; go_loud (refine wpList_mapUpdate_own _ rfl _ _ _ 75 rfl 30 3 lawU64 Tryd.underlying75 _ (w.heap.size + 1) k _ rfl own.drew (by unfold maxLen; omega) _ _ _ rfl rfl HK.out _ [] (plainElem_int Tryd.underlying3 HW.out) ?_); intro w2 own2 gr2)
          have F2 : Fr (some (w.heap.size + 1)) wr w2 := (Fr.refl _ wr).drew.same gr2
          have hz2 := F2.size
          go_roundw
          case rel =>
            refine ⟨k + 1, by omega, by go_num, F.own F2 (by simp), by omega, Lib.hid (blk_fr B.out F2 (by simp)), ?_⟩
            rw [HS.out, if_neg hy, hmk.out]
            exact own2
          case measure => simp [intOf]; omega
      · obtain rfl : k = m := by omega
        go_wp2_with (at_range; refine wpList_range_own _ rfl _ 75 rfl 30 3 lawU64 Tryd.underlying75 _ (w.heap.size + 1) k _ rfl own ?_; intro w0 hrg0 hg0 hs0)
        go_frame
        obtain ⟨wo, rfl⟩ : ∃ wo : World, wo = wr := ⟨_, rfl⟩
        have F0 := F.pure hg0
        have B0 := Lib.hid (blk_fr B.out hg0 (by simp))
        have hst : ∀ y : Nat, y ≠ 0 → (∃ i, i < k ∧ l.getD i 0 = y) → has (saidTo l k) (.int .u64 (y : Int)) = true := fun y h1 h2 => (said_has l y k).2 ⟨h1, h2⟩
        have HST := Lib.hid hst
        have hz0 := hg0.size
        clear hst
        go_loopw [9, 10] (fun best found wl => ∃ (x : Nat) (b : Bool) (left : Lit → Bool) (cnt : Nat), best = .int .u64 (x : Int) ∧ found = .bool b ∧ x < 18446744073709551616 ∧
          wl.ranges Tryd.prog 30 (plainElem Tryd.prog 3) (w.heap.size + 1) wo.heap.size k (saidTo l k) left cnt ∧ Fr none w wl ∧ w.heap.size + 2 ≤ wl.heap.size ∧
          Hid (wl.heap[w.heap.size]? = some (.cells #[.int .i64 thr, .slice A1 nodes.length c1, .slice A2 inner.length c2] 27 (0, 0))) ∧
          (b = true → x ≠ 0 ∧ (∃ i, i < k ∧ l.getD i 0 = x) ∧ sat (maskTo l k x) (.mk thr nodes inner) = true) ∧
          (b = false → ∀ y : Nat, y ≠ 0 → (∃ i, i < k ∧ l.getD i 0 = y) → sat (maskTo l k y) (.mk thr nodes inner) = true → left (.int .u64 (y : Int)) = true)) (fun _ _ wl => wl.rangeLeft (w.heap.size + 1) wo.heap.size)
        case atStart => exact ⟨0, false, _, _, rfl, rfl, by omega, hrg0, F0, by omega, B0, by simp, fun _ y h1 h2 _ => HST.out y h1 h2⟩
        case round =>
          obtain ⟨x, b, left, cnt, rfl, rfl, hx, hrg, FL, hsl, BL, hb1, hb2⟩ := hrel
          go_wp2_with (at_next; refine wpList_next_ranges_ii _ rfl _ rfl 30 3 .u64 .i64 lawU64 Tryd.underlying30 Tryd.underlying3 (w.heap.size + 1) wo.heap.size k _ _ _ rfl hrg ?_ ?_)
          · intro _ hl0'
            go_wp2
            go_ret2
            refine ⟨x, b, rfl, hx, ?_, ?_, FL⟩
            · rw [HM.out]; exact hb1
            · rw [HM.out]
              intro hb y y1 y2
              have := hb2 hb y y1 y2
              cases hs : sat (maskTo l k y) (.mk thr nodes inner)
              · rfl
              · have h3 := this hs
                rw [hl0'] at h3
                cases h3
          · intro x1 cc w1 cnt1 hwx hwc hlx hat hrg1 hlt hg1 hs1 hen
            have hx1 := u64_bd hwx
            obtain ⟨y, rfl⟩ := Int.eq_ofNat_of_zero_le hx1.1
            have hhas := has_true_of_atKey hat
            obtain ⟨y1, y2⟩ := (said_has l y k).1 hhas
            have hcc := hat (.lit (.int .i64 0))
            rw [said_at l y y1 k] at hcc
            obtain rfl : ((maskTo l k y : Nat) : Int) = cc := by simpa using hcc
            have G1 : Fr (some wo.heap.size) wr w1 := hg1
            have F1' : Fr none w w1 := FL.own G1 (by simp; omega)
            have B1 := Lib.hid (blk_fr BL.out G1 (by simp; omega))
            have R1 := blk_cell B1.out
            have TT := (hT0.fr (F1'.mono (r := r)))
            have hz1 := G1.size
            have hy64 : y < 18446744073709551616 := by omega
            clear hat hcc hhas hx1 hwx hwc G1 hg1 hg0 FL
            go_wp2_with fail
            refine (sat_any _ _ _ _ _ r (Nat.le_refl _) TT).mono ?_
            rintro e w2 ⟨rfl, F2⟩
            have F3 := F1'.pure F2
            have hrg2 := hrg1.kept F2 (by simp) (by simp)
            have B2 := Lib.hid (blk_fr B1.out F2 (by simp))
            have hz2 := F2.size
            clear R1 TT
            by_cases hsat : sat ((maskTo l k y : Nat) : Int) (.mk thr nodes inner) = true
            · by_cases hb : b = true ∧ x ≤ y
              · obtain ⟨rfl, hxy⟩ := hb
                have H1 := Lib.hid hb1
                clear hb1 hb2
                go_wp2_with fail
                go_roundw
                case rel => exact ⟨x, true, _, cnt1, rfl, rfl, hx, hrg2, F3, by omega, B2, fun _ => H1.out trivial, by simp⟩
                case measure => rw [hrg2.left_eq, hrg.left_eq]; exact hlt
              · have H1 := Lib.hid hb1
                clear hb1 hb2
                have hby : (b = true → (y : Int) < (x : Int)) := by
                  intro h
                  have : ¬ x ≤ y := fun h2 => hb ⟨h, h2⟩
                  omega
                cases b
                all_goals
                  try have hxy : y < x := by have := hby rfl; omega
                  clear hby hb
                  go_wp2_with fail
                  go_roundw
                  case rel => exact ⟨y, true, _, cnt1, rfl, rfl, hy64, hrg2, F3, by omega, B2, fun _ => ⟨y1, y2, hsat⟩, by simp⟩
                  case measure => rw [hrg2.left_eq, hrg.left_eq]; exact hlt
            · have H1 := Lib.hid hb1
              have H2 := Lib.hid hb2
              have hsat' : sat ((maskTo l k y : Nat) : Int) (.mk thr nodes inner) = false := by simpa using hsat
              clear hb1 hb2
              go_wp2_with fail
              go_roundw
              case rel =>
                refine ⟨x, b, _, cnt1, rfl, rfl, hx, hrg2, F3, by omega, B2, H1.out, fun hb z z1 z2 z3 => ?_⟩
                have hzy : z ≠ y := by
                  rintro rfl
                  rw [hsat'] at z3
                  cases z3
                rw [H2.out hb z z1 z2 z3, sameKey_ne (u64_ne hzy)]
                rfl
              case measure => rw [hrg2.left_eq, hrg.left_eq]; exact hlt
end Go.Proofs.YtidnnjgiogklaaaDoor

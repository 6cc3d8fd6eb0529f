/- Walks: the reference's Restrict and Declared (layer 6). -/
import Derived.Test.YtoblhcieidljjaaGreatDoorProg
import Derived.Test.YtoblhcieidljjaaGreatDoorJG20
import Derived.Test.YtoblhcieidljjaaGreatDoorJG22
set_option linter.unusedSimpArgs false
set_option linter.unusedVariables false
namespace Go.Proofs.YtoblhcieidljjaaGreatDoor
open Go.RowKit

theorem trd_zeroR (w : World) (D : Nat → Prop) : TrD w D (.agg #[.int .i64 0, .slice none 0 0, .slice none 0 0]) zeroTr :=
  TrD.mk_ (by constructor <;> omega) (SlD.nil _ _ _) (by simp) (SlD.nil _ _ _) (by simp) (by simp) (by simp [TrsD])
theorem shr_zero (m j : Nat) (hm : m < 9223372036854775808) : (bits .and .i64 ((m : Int) / 2 ^ j) 1 == 0) = !m.testBit j := by
  have e : ((m : Int) / 2 ^ j) = ((m / 2 ^ j : Nat) : Int) := by simp
  have hd : m / 2 ^ j ≤ m := Nat.div_le_self _ _
  rw [e]
  have h1 := and_i64 (m / 2 ^ j) 1 (by omega) (by omega)
  have h2 : ((1 : Nat) : Int) = 1 := rfl
  rw [h2] at h1
  rw [h1, Nat.testBit_eq_decide_div_mod_eq, Nat.and_one_is_mod]
  have hx : m / 2 ^ j % 2 < 2 := Nat.mod_lt _ (by decide)
  generalize m / 2 ^ j % 2 = x at hx
  rw [Bool.eq_iff_iff]
  simp
  omega
/-- What the reference's Restrict leaves. -/
def CfX (L : List Mb) (w : World) (e : Ending) (w' : World) : Prop := ∃ v, e = .returned v ∧ CfD w' (Dm w' none) v L ∧ Fr none w w'

set_option maxRecDepth 100000 in
set_option maxHeartbeats 4000000 in
theorem rrestrict_any (s : Int) (L : List Mb) (v : Value) (w : World) (h : CfD w (Dm w none) v L) (hL : L.length ≤ 1000) :
    Calls Tryz.prog 54 #[v, .int .i64 s] w (CfX (rst s L) w) := by
  obtain ⟨A, c, rfl, hc1, hc2, hcell⟩ := h.open_
  have HC := Lib.hid hcell
  unfold maxLen at hc2
  clear hcell h
  go_enter Tryz.func54, Tryz.ntmps54
  go_upto_region 2 with (fail)
  generalize hW : ((w.alloc _).alloc _).alloc _ = w1
  have hz : w1.heap.size = w.heap.size + 3 := by rw [← hW]; simp
  have F1 : Fr none w w1 := hW ▸ (((Fr.refl _ w).alloc _).alloc _).alloc _
  have b1 : CB w1 w.heap.size (.slice A L.length c) := by
    rw [← hW]; exact ((Below.heap_alloc _ _ _ (by simp <;> omega)).trans (Below.heap_alloc _ _ _ (by simp <;> omega))).trans (blk_new _ _)
  have b2 : CB w1 (w.heap.size + 1) (.slice none 0 0) := by
    rw [← hW]; exact (Below.heap_alloc _ _ _ (by simp)).trans (blk_new_at (by simp) _)
  have b3 : CB w1 (w.heap.size + 2) (.slice none 0 0) := by
    rw [← hW]; exact blk_new_at (by simp) _
  clear hW
  obtain ⟨B2, hB2⟩ : ∃ B2, B2 = w.heap.size + 1 + 1 := ⟨_, rfl⟩
  rw [← hB2]
  rw [show w.heap.size + 2 = B2 by omega] at b3
  have hBa : B2 ≤ w.heap.size + 2 := by omega
  have hBb : w.heap.size + 2 ≤ B2 := by omega
  clear hB2
  have R1 := b1.cell
  have l1 := blk_lt b1
  go_wp2_with fail
  go_loopw [6, 7, 11] (fun _ _ s11 wr => ∃ (j : Nat) (A1 : Option Addr) (c1 : Nat) (cells : List Value), j ≤ L.length ∧ s11 = .int .i64 (j : Int) ∧ Fr none w wr ∧ w.heap.size + 3 ≤ wr.heap.size ∧ CB wr (w.heap.size + 1) (.slice none 0 0) ∧ CB wr B2 (.slice A1 j c1) ∧
    wr.ownsRow (w.heap.size + 3) 33 4 (.slice A1 j c1) j cells ∧ Hid (MbsD w (Dm w none) cells ((rst s L).take j))) (fun _ _ s11 _ => L.length - (intOf s11).toNat)
  case atStart => exact ⟨0, none, 0, [], Nat.zero_le _, rfl, F1, by omega, b2, b3, World.ownsRow_nil _ _ _ _, Lib.hid (by simp [MbsD])⟩
  case round =>
    clear F1 b1 b2 b3 R1 l1 hz
    obtain ⟨j, A1, c1, cells, hj, rfl, F, hz, b2, b3, own, HMS⟩ := hrel
    obtain ⟨wz, hwz⟩ : ∃ wz : World, wz = wr := ⟨_, rfl⟩
    subst hwz
    by_cases hlt : j < L.length
    · obtain ⟨b, off, th, C1, n1, d1, C2, n2, d2, rfl, hb, g0, g1, g2, g3, ht⟩ := HC.out j hlt
      have g0 := F.keep g0 (by simp)
      have g1 := F.keep g1 (by simp)
      have g2 := F.keep g2 (by simp)
      have g3 := F.keep g3 (by simp)
      go_upto_region 5 with (fail)
      generalize hW : wz.alloc _ = wa
      have Fa : Fr none wz wa := hW ▸ (Fr.refl none wz).alloc _
      have m7 : MB wa wz.heap.size (.bool L[j].dec) (.int .i64 th) (.slice C1 n1 d1) (.slice C2 n2 d2) := by rw [← hW]; exact blk_new _ _
      have hza : wa.heap.size = wz.heap.size + 1 := by rw [← hW]; simp
      clear hW g0 g1 g2 g3
      have HT : Hid ((rst s L).take (j + 1) = (rst s L).take j ++ [if hasB s j then L[j] else noMb]) := by
        unfold Hid
        rw [List.take_succ_eq_append_getElem (by rw [rst_len]; exact hlt), rst_get]
      have olz := own.lt
      have own := own_fr own Fa (by simp)
      have b2a := b2.fr Fa (by simp)
      have b3a := b3.fr Fa (by simp)
      have F0a := F.pure Fa
      clear b2 b3 F Fa
      generalize L[j] = m at *
      by_cases hs0 : s < 0
      · have hf : hasB s j = false := by unfold hasB validB; rw [decide_eq_false (show ¬ (0 ≤ s ∧ s ≤ 1023) by omega)]; rfl
        rw [hf] at HT
        have d0 : decide (s < 0) = true := decide_eq_true hs0
        clear hf hs0
        have FZ := fr_mb4 wa wz.heap.size (.bool false) (.int .i64 0) (.slice none 0 0) (.slice none 0 0)
        have m7b := mb_fill4 m7 (.bool false) (.int .i64 0) (.slice none 0 0) (.slice none 0 0)
        have R7 := m7.cell
        have Z7 := m7.free
        have l7 := blk_lt m7
        go_upto_region 7 with (fail)
        have ownb := own_ne_fr own FZ (fun e => by have := (olz _ e).2; omega)
        generalize hW : (((wa.setCell _ _).setCell _ _).setCell _ _).setCell _ _ = wb at *
        have hzb := FZ.size
        have b2b := b2a.fr FZ (by simp <;> omega)
        have b3b := b3a.fr FZ (by simp <;> omega)
        have F0b := F0a.own FZ (by simp <;> omega)
        have hTz := trd_zeroR w (Dm w none)
        clear hW m7 R7 Z7 l7 own b2a b3a F0a FZ
        have R7 := m7b.cell
        have l7 := blk_lt m7b
        have R3 := b3b.cell
        have Z3 := b3b.free
        have l3 := blk_lt b3b
        go_wp2_with (at_builtin; refine app_lit eiMb rfl _ _ rfl (w.heap.size + 3) A1 j c1 _ rfl ownb 1 [.bool false, .int .i64 0, .slice none 0 0, .slice none 0 0] _ _ rfl (by simp) rfl (by simp [Value.oneCell']) (by omega) (by unfold maxLen; omega) (by omega) ?_; intro A5 c5 w6 own6 F6 nb6; have b36 := b3b.fr F6 (own_ne ownb (by omega)); have R36 := b36.cell; have Z36 := b36.free; have l36 := blk_lt b36; clear R3 Z3 l3)
        have FQ := Fr.set1 w6 ⟨B2, 0, none⟩ (.slice A5 (j + 1) c5)
        have og := own_blk_ge ownb
        have hz6 := F6.size
        have hzQ := FQ.size
        go_roundw
        case rel =>
          refine ⟨j + 1, A5, c5, cells ++ [.bool false, .int .i64 0, .slice none 0 0, .slice none 0 0], by omega, by go_num, (F0b.own F6 (fun q e => by have := og q e; omega)).own FQ (by simp <;> omega), by omega, (b2b.fr F6 (own_ne ownb (by omega))).fr FQ (by simp <;> omega), b36.set0 _, own_fr own6 FQ (by simp <;> omega), ?_⟩
          have HMS := HMS.out
          rw [HT.out]
          exact MbsD.append (by simp only [MbsD]; exact ⟨_, _, _, [], rfl, hTz, rfl⟩) HMS
        case measure => simp [intOf]; omega
      · have d0 : decide (s < 0) = false := decide_eq_false hs0
        by_cases hs1 : 1024 ≤ s
        · have hf : hasB s j = false := by unfold hasB validB; rw [decide_eq_false (show ¬ (0 ≤ s ∧ s ≤ 1023) by omega)]; rfl
          rw [hf] at HT
          have d1' : decide ((1024 : Int) ≤ s) = true := decide_eq_true hs1
          clear hf hs0 hs1
          have FZ := fr_mb4 wa wz.heap.size (.bool false) (.int .i64 0) (.slice none 0 0) (.slice none 0 0)
          have m7b := mb_fill4 m7 (.bool false) (.int .i64 0) (.slice none 0 0) (.slice none 0 0)
          have R7 := m7.cell
          have Z7 := m7.free
          have l7 := blk_lt m7
          go_upto_region 7 with (fail)
          have ownb := own_ne_fr own FZ (fun e => by have := (olz _ e).2; omega)
          generalize hW : (((wa.setCell _ _).setCell _ _).setCell _ _).setCell _ _ = wb at *
          have hzb := FZ.size
          have b2b := b2a.fr FZ (by simp <;> omega)
          have b3b := b3a.fr FZ (by simp <;> omega)
          have F0b := F0a.own FZ (by simp <;> omega)
          have hTz := trd_zeroR w (Dm w none)
          clear hW m7 R7 Z7 l7 own b2a b3a F0a FZ
          have R7 := m7b.cell
          have l7 := blk_lt m7b
          have R3 := b3b.cell
          have Z3 := b3b.free
          have l3 := blk_lt b3b
          go_wp2_with (at_builtin; refine app_lit eiMb rfl _ _ rfl (w.heap.size + 3) A1 j c1 _ rfl ownb 1 [.bool false, .int .i64 0, .slice none 0 0, .slice none 0 0] _ _ rfl (by simp) rfl (by simp [Value.oneCell']) (by omega) (by unfold maxLen; omega) (by omega) ?_; intro A5 c5 w6 own6 F6 nb6; have b36 := b3b.fr F6 (own_ne ownb (by omega)); have R36 := b36.cell; have Z36 := b36.free; have l36 := blk_lt b36; clear R3 Z3 l3)
          have FQ := Fr.set1 w6 ⟨B2, 0, none⟩ (.slice A5 (j + 1) c5)
          have og := own_blk_ge ownb
          have hz6 := F6.size
          have hzQ := FQ.size
          go_roundw
          case rel =>
            refine ⟨j + 1, A5, c5, cells ++ [.bool false, .int .i64 0, .slice none 0 0, .slice none 0 0], by omega, by go_num, (F0b.own F6 (fun q e => by have := og q e; omega)).own FQ (by simp <;> omega), by omega, (b2b.fr F6 (own_ne ownb (by omega))).fr FQ (by simp <;> omega), b36.set0 _, own_fr own6 FQ (by simp <;> omega), ?_⟩
            have HMS := HMS.out
            rw [HT.out]
            exact MbsD.append (by simp only [MbsD]; exact ⟨_, _, _, [], rfl, hTz, rfl⟩) HMS
          case measure => simp [intOf]; omega
        · have d1' : decide ((1024 : Int) ≤ s) = false := decide_eq_false hs1
          obtain ⟨k, rfl⟩ := Int.eq_ofNat_of_zero_le (show 0 ≤ s by omega)
          by_cases hj10 : 10 ≤ j
          · have hf : hasB (k : Int) j = false := by unfold hasB; rw [decide_eq_false (show ¬ (0 ≤ (j : Int) ∧ (j : Int) < 10) by omega)]; simp
            rw [hf] at HT
            have d2' : decide ((10 : Int) ≤ (j : Int)) = true := decide_eq_true (by omega)
            clear hf hs0 hs1
            have FZ := fr_mb4 wa wz.heap.size (.bool false) (.int .i64 0) (.slice none 0 0) (.slice none 0 0)
            have m7b := mb_fill4 m7 (.bool false) (.int .i64 0) (.slice none 0 0) (.slice none 0 0)
            have R7 := m7.cell
            have Z7 := m7.free
            have l7 := blk_lt m7
            go_upto_region 7 with (fail)
            have ownb := own_ne_fr own FZ (fun e => by have := (olz _ e).2; omega)
            generalize hW : (((wa.setCell _ _).setCell _ _).setCell _ _).setCell _ _ = wb at *
            have hzb := FZ.size
            have b2b := b2a.fr FZ (by simp <;> omega)
            have b3b := b3a.fr FZ (by simp <;> omega)
            have F0b := F0a.own FZ (by simp <;> omega)
            have hTz := trd_zeroR w (Dm w none)
            clear hW m7 R7 Z7 l7 own b2a b3a F0a FZ
            have R7 := m7b.cell
            have l7 := blk_lt m7b
            have R3 := b3b.cell
            have Z3 := b3b.free
            have l3 := blk_lt b3b
            go_wp2_with (at_builtin; refine app_lit eiMb rfl _ _ rfl (w.heap.size + 3) A1 j c1 _ rfl ownb 1 [.bool false, .int .i64 0, .slice none 0 0, .slice none 0 0] _ _ rfl (by simp) rfl (by simp [Value.oneCell']) (by omega) (by unfold maxLen; omega) (by omega) ?_; intro A5 c5 w6 own6 F6 nb6; have b36 := b3b.fr F6 (own_ne ownb (by omega)); have R36 := b36.cell; have Z36 := b36.free; have l36 := blk_lt b36; clear R3 Z3 l3)
            have FQ := Fr.set1 w6 ⟨B2, 0, none⟩ (.slice A5 (j + 1) c5)
            have og := own_blk_ge ownb
            have hz6 := F6.size
            have hzQ := FQ.size
            go_roundw
            case rel =>
              refine ⟨j + 1, A5, c5, cells ++ [.bool false, .int .i64 0, .slice none 0 0, .slice none 0 0], by omega, by go_num, (F0b.own F6 (fun q e => by have := og q e; omega)).own FQ (by simp <;> omega), by omega, (b2b.fr F6 (own_ne ownb (by omega))).fr FQ (by simp <;> omega), b36.set0 _, own_fr own6 FQ (by simp <;> omega), ?_⟩
              have HMS := HMS.out
              rw [HT.out]
              exact MbsD.append (by simp only [MbsD]; exact ⟨_, _, _, [], rfl, hTz, rfl⟩) HMS
            case measure => simp [intOf]; omega
          · have d2' : decide ((10 : Int) ≤ (j : Int)) = false := decide_eq_false (by omega)
            have hsb := shr_zero k j (by omega)
            have hf : hasB (k : Int) j = k.testBit j := by
              unfold hasB validB
              rw [decide_eq_true (show 0 ≤ (k : Int) ∧ (k : Int) ≤ 1023 by omega), decide_eq_true (show 0 ≤ (j : Int) ∧ (j : Int) < 10 by omega)]
              simp
            rw [hf] at HT
            clear hf
            have hj64 : j < 64 := by omega
            cases hX : k.testBit j with
            | false =>
              rw [hX] at HT hsb
              clear hX hs0 hs1
              simp only [Bool.not_false] at hsb
              have FZ := fr_mb4 wa wz.heap.size (.bool false) (.int .i64 0) (.slice none 0 0) (.slice none 0 0)
              have m7b := mb_fill4 m7 (.bool false) (.int .i64 0) (.slice none 0 0) (.slice none 0 0)
              have R7 := m7.cell
              have Z7 := m7.free
              have l7 := blk_lt m7
              go_upto_region 7 with (fail)
              have ownb := own_ne_fr own FZ (fun e => by have := (olz _ e).2; omega)
              generalize hW : (((wa.setCell _ _).setCell _ _).setCell _ _).setCell _ _ = wb at *
              have hzb := FZ.size
              have b2b := b2a.fr FZ (by simp <;> omega)
              have b3b := b3a.fr FZ (by simp <;> omega)
              have F0b := F0a.own FZ (by simp <;> omega)
              have hTz := trd_zeroR w (Dm w none)
              clear hW m7 R7 Z7 l7 own b2a b3a F0a FZ
              have R7 := m7b.cell
              have l7 := blk_lt m7b
              have R3 := b3b.cell
              have Z3 := b3b.free
              have l3 := blk_lt b3b
              go_wp2_with (at_builtin; refine app_lit eiMb rfl _ _ rfl (w.heap.size + 3) A1 j c1 _ rfl ownb 1 [.bool false, .int .i64 0, .slice none 0 0, .slice none 0 0] _ _ rfl (by simp) rfl (by simp [Value.oneCell']) (by omega) (by unfold maxLen; omega) (by omega) ?_; intro A5 c5 w6 own6 F6 nb6; have b36 := b3b.fr F6 (own_ne ownb (by omega)); have R36 := b36.cell; have Z36 := b36.free; have l36 := blk_lt b36; clear R3 Z3 l3)
              have FQ := Fr.set1 w6 ⟨B2, 0, none⟩ (.slice A5 (j + 1) c5)
              have og := own_blk_ge ownb
              have hz6 := F6.size
              have hzQ := FQ.size
              go_roundw
              case rel =>
                refine ⟨j + 1, A5, c5, cells ++ [.bool false, .int .i64 0, .slice none 0 0, .slice none 0 0], by omega, by go_num, (F0b.own F6 (fun q e => by have := og q e; omega)).own FQ (by simp <;> omega), by omega, (b2b.fr F6 (own_ne ownb (by omega))).fr FQ (by simp <;> omega), b36.set0 _, own_fr own6 FQ (by simp <;> omega), ?_⟩
                have HMS := HMS.out
                rw [HT.out]
                exact MbsD.append (by simp only [MbsD]; exact ⟨_, _, _, [], rfl, hTz, rfl⟩) HMS
              case measure => simp [intOf]; omega
            | true =>
              rw [hX] at HT hsb
              clear hX hs0 hs1
              simp only [Bool.not_true] at hsb
              have hza' : wz.heap.size + 1 ≤ wa.heap.size := by omega
              clear hza
              have m7b := m7
              have ownb := own
              have b2b := b2a
              have b3b := b3a
              have F0b := F0a
              clear m7 own b2a b3a F0a
              have R7 := m7b.cell
              have l7 := blk_lt m7b
              have R3 := b3b.cell
              have Z3 := b3b.free
              have l3 := blk_lt b3b
              go_wp2_with (at_builtin; refine app_lit eiMb rfl _ _ rfl (w.heap.size + 3) A1 j c1 _ rfl ownb 1 [.bool m.dec, .int .i64 th, .slice C1 n1 d1, .slice C2 n2 d2] _ _ rfl (by simp) rfl (by simp [Value.oneCell']) (by omega) (by unfold maxLen; omega) (by omega) ?_; intro A5 c5 w6 own6 F6 nb6; have b36 := b3b.fr F6 (own_ne ownb (by omega)); have R36 := b36.cell; have Z36 := b36.free; have l36 := blk_lt b36; clear R3 Z3 l3)
              have FQ := Fr.set1 w6 ⟨B2, 0, none⟩ (.slice A5 (j + 1) c5)
              have og := own_blk_ge ownb
              have hz6 := F6.size
              have hzQ := FQ.size
              go_roundw
              case rel =>
                refine ⟨j + 1, A5, c5, cells ++ [.bool m.dec, .int .i64 th, .slice C1 n1 d1, .slice C2 n2 d2], by omega, by go_num, (F0b.own F6 (fun q e => by have := og q e; omega)).own FQ (by simp <;> omega), by omega, (b2b.fr F6 (own_ne ownb (by omega))).fr FQ (by simp <;> omega), b36.set0 _, own_fr own6 FQ (by simp <;> omega), ?_⟩
                have HMS := HMS.out
                rw [HT.out]
                exact MbsD.append (by simp only [MbsD]; exact ⟨_, _, _, [], rfl, ht, rfl⟩) HMS
              case measure => simp [intOf]; omega
    · obtain rfl : j = L.length := by omega
      have hms := HMS.out
      rw [List.take_of_length_le (by rw [rst_len]; omega)] at hms
      have R3 := b3.cell
      have R2 := b2.cell
      have Z2 := b2.free
      have l3 := blk_lt b3
      have l2 := blk_lt b2
      go_wp2_with fail
      refine bodyPost_ret (v := .agg #[.slice A1 L.length c1]) (by simp [results, Tryz.results54, go_sem, R2]) rfl ?_
      have G := Fr.set1 wz ⟨w.heap.size + 1, 0, none⟩ (.slice A1 L.length c1)
      have F9 := F.own G (by simp)
      have kk : ∀ b, Dn (w.heap.size + 3) wz b → Dm (wz.setCell ⟨w.heap.size + 1, 0, none⟩ (.slice A1 L.length c1)) none b ∧ (wz.setCell ⟨w.heap.size + 1, 0, none⟩ (.slice A1 L.length c1)).heap[b]? = wz.heap[b]? := fun b hb => ⟨⟨Nat.lt_of_lt_of_le hb.2 G.size, by simp⟩, G.block b hb.2 (by have := hb.1; simp; omega)⟩
      exact ⟨_, rfl, ⟨A1, c1, cells, by rw [rst_len], by rw [rst_len]; exact (SlD.own_dn own).keep kk, MbsD.keep (fr_dm F9) _ _ hms⟩, F9⟩

set_option maxRecDepth 100000 in
set_option maxHeartbeats 2000000 in
theorem rdeclared06_any (L : List Mb) (v : Value) (w : World) (h : CfD w (Dm w none) v L) (hL : L.length ≤ 1000) :
    Calls Tryz.prog 50 #[v] w fun e w' => e = .returned (.int .i64 (decS L L.length : Nat)) ∧ Fr none w w' := by
  obtain ⟨A, c, rfl, q1, q2, hcell⟩ := h.open_
  have HC := Lib.hid hcell
  unfold maxLen at q2
  clear hcell h
  go_enter Tryz.func50, Tryz.ntmps50
  go_upto_region 1 with (fail)
  generalize hW : w.alloc _ = w1
  have F1 : Fr none w w1 := hW ▸ (Fr.refl _ _).alloc _
  have b1 : CB w1 w.heap.size (.slice A L.length c) := by rw [← hW]; exact blk_new _ _
  clear hW
  have R1 := b1.cell
  have l1 := blk_lt b1
  go_wp2_with fail
  go_loopw [3, 4, 5, 9] (fun s3 _ _ s9 wr => ∃ (j u : Nat), j ≤ L.length ∧ s9 = .int .i64 (j : Int) ∧ s3 = .int .i64 (u : Int) ∧ Hid (u = decS L j) ∧ Fr none w1 wr) (fun _ _ _ s9 _ => L.length - (intOf s9).toNat)
  case atStart => exact ⟨0, 0, Nat.zero_le _, rfl, rfl, rfl, Fr.refl _ _⟩
  case round =>
    clear R1 l1
    obtain ⟨j, u, hj, rfl, rfl, HU, F⟩ := hrel
    obtain ⟨wz, hwz⟩ : ∃ wz : World, wz = wr := ⟨_, rfl⟩
    subst hwz
    by_cases hlt : j < L.length
    · obtain ⟨b, off, th, A1, n1, c1, A2, n2, c2, rfl, hb, g0, g1, g2, g3, ht⟩ := HC.out j hlt
      have Fw := F1.pure F
      have g0 := Fw.keep g0 (by simp)
      have g1 := Fw.keep g1 (by simp)
      have g2 := Fw.keep g2 (by simp)
      have g3 := Fw.keep g3 (by simp)
      have hda : decAt L j = L[j].dec := by unfold decAt; rw [List.getElem?_eq_getElem hlt]
      have HDA := Lib.hid hda
      have hul : u < 1024 := by rw [HU.out]; exact decS_lt L j
      clear hda ht
      obtain ⟨d, hd⟩ : ∃ d, L[j].dec = d := ⟨_, rfl⟩
      rw [hd] at g0 HDA
      clear hd
      go_upto_region 5 with (fail)
      generalize hW : wz.alloc _ = wa
      have Fa : Fr none wz wa := hW ▸ (Fr.refl none wz).alloc _
      have m4 : MB wa wz.heap.size (.bool d) (.int .i64 th) (.slice A1 n1 c1) (.slice A2 n2 c2) := by rw [← hW]; exact blk_new _ _
      clear hW g0 g1 g2 g3
      have R4 := m4.cell
      have l4 := blk_lt m4
      by_cases h10 : j < 10
      · have hd10 : decide ((j : Int) < 10) = true := decide_eq_true (by omega)
        cases d with
        | true =>
          have hp := pow2_lt j (by omega)
          have hw2 : wrap64 (2 ^ j) = ((2 ^ j : Nat) : Int) := wrap_pow j (by omega)
          have hbits : bits .or .i64 (u : Int) (wrap64 (2 ^ j)) = ((u ||| 2 ^ j : Nat) : Int) := by
            rw [hw2]; exact or_i64 _ _ (Nat.lt_trans hul (by decide)) (Nat.lt_trans hp (by decide))
          have HN : Hid (u ||| 2 ^ j = decS L (j + 1)) := by unfold Hid; simp only [decS]; rw [if_pos ⟨HDA.out, h10⟩, HU.out]
          clear hp hw2
          go_wp2_with fail
          go_roundw
          case rel => exact ⟨j + 1, u ||| 2 ^ j, by omega, by go_num, rfl, HN, F.pure Fa⟩
          case measure => simp [intOf]; omega
        | false =>
          have HN : Hid (u = decS L (j + 1)) := by unfold Hid; simp only [decS]; rw [if_neg (fun e => by rw [HDA.out] at e; cases e.1), HU.out]
          go_wp2_with fail
          go_roundw
          case rel => exact ⟨j + 1, u, by omega, by go_num, rfl, HN, F.pure Fa⟩
          case measure => simp [intOf]; omega
      · have hd10 : decide ((j : Int) < 10) = false := decide_eq_false (by omega)
        have HN : Hid (u = decS L (j + 1)) := by unfold Hid; simp only [decS]; rw [if_neg (fun e => h10 e.2), HU.out]
        go_wp2_with fail
        go_roundw
        case rel => exact ⟨j + 1, u, by omega, by go_num, rfl, HN, F.pure Fa⟩
        case measure => simp [intOf]; omega
    · obtain rfl : j = L.length := by omega
      go_wp2_with fail
      go_ret
      exact ⟨ret_int (by rw [HU.out]), F1.pure F⟩
end Go.Proofs.YtoblhcieidljjaaGreatDoor

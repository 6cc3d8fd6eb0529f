/- Walks: the reference's Parse of layer 6. -/
import Derived.Test.YtoblhcieidljjaaGreatDoorProg
import Derived.Test.YtoblhcieidljjaaGreatDoorLnsWJ
set_option linter.unusedSimpArgs false
set_option linter.unusedVariables false
namespace Go.Proofs.YtoblhcieidljjaaGreatDoor
open Go.RowKit

theorem line_ok_memE {n k : Nat} {x : List UInt8} (h : (lineP k x).2 = 0) : memE n (lineP k x).1 = if 2 ^ n ≤ usesT (lineP k x).1.tr then 5 else 0 := by
  have hz : ¬ 2 ^ n ≤ usesT zeroTr := by
    have : usesT zeroTr = 0 := by kernel_rfl
    rw [this]
    have := Nat.pow_pos (n := n) (show 0 < 2 by decide)
    omega
  unfold lineP at h ⊢
  split
  · rename_i h1; rw [if_pos h1] at h; simp at h
  · rename_i h1
    rw [if_neg h1] at h
    split
    · rename_i h2
      rw [if_pos h2] at h
      split
      · rename_i h3
        show memE n noMb = if 2 ^ n ≤ usesT zeroTr then 5 else 0
        rw [memE_ok ⟨fun h => (by cases h), fun _ => rfl⟩, if_neg hz]
      · rename_i h3
        rw [if_neg h3] at h
        cases hq : parseP (Lib.trimPrefix x (begL k)) with
        | ok t =>
          unfold memE
          simp only [if_true]
          rw [if_pos (ok_valid hq)]
        | no a e =>
          rw [hq] at h
          exact absurd h (no_nz hq)
    · rename_i h2; rw [if_neg h2] at h; simp at h

set_option maxRecDepth 100000 in
set_option maxHeartbeats 8000000 in
theorem rcparse_any (s : List UInt8) (S : ByteArray) (hS : S = bs s) (w : World) (hz : s.length ≤ 1073741824) : Calls Tryz.prog 57 #[.string S] w (CpaE (parseC s) w) := by
  obtain ⟨r, hr⟩ : ∃ r, r = parseC s := ⟨_, rfl⟩
  rw [← hr]
  have HR := Lib.hid hr
  have HS := Lib.hid hS
  have hSz : S.size = s.length := by rw [hS, bs_size]
  have HSZ := Lib.hid hSz
  clear hr
  go_enter Tryz.func57, Tryz.ntmps57
  go_upto_region 1 with (fail)
  generalize hW : w.alloc _ = w1
  have F1 : Fr none w w1 := hW ▸ (Fr.refl _ w).alloc _
  have b2 : CB w1 w.heap.size (.slice none 0 0) := by rw [← hW]; exact blk_new _ _
  have hz1 : w1.heap.size = w.heap.size + 1 := by rw [← hW]; simp
  clear hW
  have R2 := b2.cell
  have Z2 := b2.free
  have l2 := blk_lt b2
  by_cases h6 : 6000 < S.size
  · have hd : decide ((6000 : Int) < (S.size : Int)) = true := decide_eq_true (by omega)
    have HF : Hid (r = ([], 0, 3)) := by unfold Hid; rw [HR.out]; unfold parseC; rw [if_pos (by omega)]
    clear h6 hSz hS
    go_wp2_with fail
    refine bodyPost_ret (v := .tuple #[.agg #[.slice none 0 0], .int .i64 0, .int .i64 3]) (by simp [results, Tryz.results57, go_sem, R2]) rfl ?_
    have G := Fr.set1 w1 ⟨w.heap.size, 0, none⟩ (.slice none 0 0)
    exact ⟨.agg #[.slice none 0 0], by rw [HF.out]; rfl, by rw [HF.out]; exact ⟨none, 0, [], rfl, SlD.nil _ _ _, rfl⟩, F1.own G (by simp)⟩
  · have hd : decide ((6000 : Int) < (S.size : Int)) = false := decide_eq_false (by omega)
    have hl6 : s.length ≤ 6000 := by omega
    obtain ⟨lz, hlz⟩ : ∃ lz, lz = linGo [] s := ⟨_, rfl⟩
    obtain ⟨ls, hls⟩ : ∃ ls, ls = lz.map bs := ⟨_, rfl⟩
    have hP : parseC s = match fstE 0 (errsOf ls) with
          | some (k, e) => ([], k, e)
          | none => match fstE 0 ((mbsOf ls).map (memE (mbsOf ls).length)) with
            | some (k, e) => ([], k, e)
            | none => (mbsOf ls, 0, 0) := by rw [hls, hlz]; exact parseC_R hl6
    have HP := Lib.hid hP
    have hll : ls.length = lz.length := by rw [hls]; simp
    have hlb : ls.length ≤ 6001 := by rw [hll, hlz]; have := lin_cnt s []; omega
    have hle : ∀ x ∈ ls, x.size ≤ 6000 := fun x hx => by
      rw [hls] at hx
      obtain ⟨p, hp, rfl⟩ := List.mem_map.1 hx
      rw [bs_size]
      rw [hlz] at hp
      have := lin_le s [] p hp
      simp only [List.length_nil] at this
      omega
    have HLE := Lib.hid hle
    have hrow : (lz.map fun x => Value.string (bs x)) = ls.map Value.string := by rw [hls, List.map_map]; rfl
    have HROW := Lib.hid hrow
    have HLL := Lib.hid hll
    have hlin := lines_any s S hS
    rw [← hlz] at hlin
    clear hP hll hle hrow hls hlz h6 hS hSz
    go_upto_region 4 with (fail)
    generalize hW : w1.alloc _ = w2
    have F2 : Fr none w1 w2 := hW ▸ (Fr.refl none w1).alloc _
    have b5 : CB w2 (w.heap.size + 1) (.slice none 0 0) := by rw [← hz1, ← hW]; exact blk_new _ _
    have hz2 : w2.heap.size = w.heap.size + 2 := by rw [← hW]; simp [hz1]
    have b2 := b2.fr F2 (by simp)
    clear hW R2 Z2 l2 hz1
    go_wp2_with (go_at_call 110; refine (hlin _ hl6).mono ?_; rintro e wa ⟨AL, cL, rfl, ownL, FL⟩; rw [← HLL.out])
    rw [← HLL.out, HROW.out] at ownL
    have hza := FL.size
    have b2 := b2.fr FL (by simp)
    have b5 := b5.fr FL (by simp)
    have F0a := (F1.pure F2).pure FL
    have HOL := Lib.hid (SlD.own_dn ownL)
    have olL := ownL.lt
    clear ownL FL hlin
    go_loopw [6, 7, 8, 9, 10, 11, 12, 13, 23] (fun _ _ _ _ _ _ _ _ s23 wr => ∃ (j : Nat) (A1 : Option Addr) (c1 : Nat) (cells : List Value), j ≤ ls.length ∧ j ≤ 10 ∧ s23 = .int .i64 (j : Int) ∧ Fr (some (w.heap.size + 1)) wa wr ∧ CB wr (w.heap.size + 1) (.slice A1 j c1) ∧
      wr.ownsRow wa.heap.size 33 4 (.slice A1 j c1) j cells ∧ MbsD wr (Dx wa.heap.size wr (.slice A1 j c1)) cells ((mbsOf ls).take j) ∧ Hid (∀ i (hi : i < ls.length), i < j → (lineP i ls[i].data.toList).2 = 0)) (fun _ _ _ _ _ _ _ _ s23 _ => ls.length - (intOf s23).toNat)
    case atStart => exact ⟨0, none, 0, [], Nat.zero_le _, Nat.zero_le _, rfl, Fr.refl _ _, b5, World.ownsRow_nil _ _ _ _, by simp [MbsD], Lib.hid (fun i hi h => by omega)⟩
    case round =>
      clear b5
      obtain ⟨j, A1, c1, cells, hj, hj10, rfl, F, b5, own, hms, HQ⟩ := hrel
      obtain ⟨wz, hwz⟩ : ∃ wz : World, wz = wr := ⟨_, rfl⟩
      subst hwz
      have hzz := F.size
      have b2z := b2.fr F (by simp)
      by_cases hlt : j < ls.length
      · obtain ⟨gb, off, rfl, hgb, hcj⟩ : ∃ gb off, AL = some ⟨gb, off, none⟩ ∧ Dn w2.heap.size wa gb ∧ wa.cell? ⟨gb, off + j, none⟩ = some (.string ls[j]) := by
          obtain ⟨A', n', c', e, h1, h2, h3, h4⟩ := HOL.out
          injection e with e1 e2 e3
          subst e1 e2 e3
          obtain ⟨b, off, rfl, hb, hx⟩ := h4 (by omega)
          exact ⟨b, off, rfl, hb, hx j _ (by simp [hlt])⟩
        have hcj := F.keep hcj (by have := hgb.1; simp; omega)
        have hxz := HLE.out _ (List.getElem_mem hlt)
        have HT : Hid ((mbsOf ls).take (j + 1) = (mbsOf ls).take j ++ [(lineP j ls[j].data.toList).1]) := by
          unfold Hid
          rw [List.take_succ_eq_append_getElem (by simpa [mbsOf] using hlt)]
          simp [mbsOf]
        have HEE : Hid (∀ x, (lineP j ls[j].data.toList).2 = x → x ≠ 0 → r = ([], j + 1, x)) := fun x hx hx0 => by
          rw [HR.out, HP.out, fstE_hit (errsOf ls) 0 j (by simpa [errsOf] using hlt) (fun i hi hij => by simpa [errsOf] using HQ.out i (by simpa [errsOf] using hi) hij) (by simpa [errsOf, hx] using hx0)]
          simp [errsOf, hx]
        have HE0' : Hid ((lineP j ls[j].data.toList).2 = 0 → ∀ i (hi : i < ls.length), i < j + 1 → (lineP i ls[i].data.toList).2 = 0) := fun h0 i hi hij => by
          rcases Nat.lt_or_ge i j with hh | hh
          · exact HQ.out i hi hh
          · obtain rfl : i = j := by omega
            exact h0
        clear HQ
        generalize ls[j] = X at *
        by_cases h10 : j = 10
        · have hd10 : ((j : Int) == 10) = true := by rw [beq_iff_eq]; omega
          have HF : Hid (r = ([], j + 1, 3)) := HEE.out 3 (by unfold lineP; rw [if_pos (by omega)]) (by decide)
          clear h10
          have Z2 := b2z.free
          have R2 := b2z.cell
          have l2 := blk_lt b2z
          go_wp2_with fail
          generalize hW5 : wz.setCell _ _ = w5
          have G : Fr (some w.heap.size) wz w5 := hW5 ▸ Fr.set1 wz ⟨w.heap.size, 0, none⟩ (.slice none 0 0)
          have m5 : CB w5 w.heap.size (.slice none 0 0) := by rw [← hW5]; exact b2z.set0 _
          clear hW5
          have R6 := m5.cell
          refine bodyPost_ret (v := .tuple #[.agg #[.slice none 0 0], .int .i64 ((j : Int) + 1), .int .i64 3]) (by simp [results, Tryz.results57, go_sem, R6]) rfl ?_
          exact ⟨.agg #[.slice none 0 0], by rw [HF.out]; simp, by rw [HF.out]; exact ⟨none, 0, [], rfl, SlD.nil _ _ _, rfl⟩, (F0a.own F (by simp)).own G (by simp)⟩
        · have hd10 : ((j : Int) == 10) = false := by rw [beq_eq_false_iff_ne]; omega
          have hj9 : j < 10 := by omega
          obtain ⟨N, hN⟩ : ∃ N, N = bs (Lib.itoa (j : Int)) := ⟨_, rfl⟩
          have HN := Lib.hid hN
          have hNz : N.size ≤ 4 := by rw [hN, bs_size]; exact itoa_len4 ⟨by omega, by omega⟩
          clear hN
          obtain ⟨B, HB, hBz, hBa⟩ := str_add N ⟨#[58, 32]⟩ (by omega) (by decide)
          have hBL : B.data.toList = begL j := by rw [HB.out, HN.out]; simp [bs, begL]
          have hpre := pre_iff X B
          rw [hBL] at hpre
          have HBL := Lib.hid hBL
          have HBZ : Hid (B.size = N.size + (⟨#[58, 32]⟩ : ByteArray).size) := hBz
          have hBz4 : B.size ≤ 6 := by rw [hBz]; have : (⟨#[58, 32]⟩ : ByteArray).size = 2 := rfl; omega
          clear hBL h10 hBz
          by_cases hlen : X.size < B.size
          · have hdl : decide ((X.size : Int) < (B.size : Int)) = true := decide_eq_true (by omega)
            have HF : Hid (r = ([], j + 1, 2)) := HEE.out 2 (by
              unfold lineP
              rw [if_neg (by omega), if_neg]
              intro h
              unfold Lib.hasPrefix at h
              have := (List.isPrefixOf_iff_prefix.1 h).length_le
              rw [← HBL.out, ← size_list, ← size_list] at this
              omega) (by decide)
            clear hpre
            go_upto_region 11 with (first
              | (go_at_call 61; refine (itoa_at j N HN (by omega) (by omega) _).mono ?_; rintro e w' ⟨rfl, rfl⟩)
              | fail)
            have Z2 := b2z.free
            have R2 := b2z.cell
            have l2 := blk_lt b2z
            go_wp2_with fail
            generalize hW5 : wz.setCell _ _ = w5
            have G : Fr (some w.heap.size) wz w5 := hW5 ▸ Fr.set1 wz ⟨w.heap.size, 0, none⟩ (.slice none 0 0)
            have m5 : CB w5 w.heap.size (.slice none 0 0) := by rw [← hW5]; exact b2z.set0 _
            clear hW5
            have R6 := m5.cell
            refine bodyPost_ret (v := .tuple #[.agg #[.slice none 0 0], .int .i64 ((j : Int) + 1), .int .i64 2]) (by simp [results, Tryz.results57, go_sem, R6]) rfl ?_
            exact ⟨.agg #[.slice none 0 0], by rw [HF.out]; simp, by rw [HF.out]; exact ⟨none, 0, [], rfl, SlD.nil _ _ _, rfl⟩, (F0a.own F (by simp)).own G (by simp)⟩
          · have hdl : decide ((X.size : Int) < (B.size : Int)) = false := decide_eq_false (by omega)
            have hle' : B.size ≤ X.size := by omega
            cases hp : Lib.hasPrefix X.data.toList (begL j) with
            | false =>
              rw [hp] at hpre
              have HF : Hid (r = ([], j + 1, 2)) := HEE.out 2 (by unfold lineP; rw [if_neg (by omega), if_neg (by rw [hp]; simp)]) (by decide)
              clear hp
              go_upto_region 11 with (first
                | (go_at_call 61; refine (itoa_at j N HN (by omega) (by omega) _).mono ?_; rintro e w' ⟨rfl, rfl⟩)
                | fail)
              have Z2 := b2z.free
              have R2 := b2z.cell
              have l2 := blk_lt b2z
              go_wp2_with fail
              generalize hW5 : wz.setCell _ _ = w5
              have G : Fr (some w.heap.size) wz w5 := hW5 ▸ Fr.set1 wz ⟨w.heap.size, 0, none⟩ (.slice none 0 0)
              have m5 : CB w5 w.heap.size (.slice none 0 0) := by rw [← hW5]; exact b2z.set0 _
              clear hW5
              have R6 := m5.cell
              refine bodyPost_ret (v := .tuple #[.agg #[.slice none 0 0], .int .i64 ((j : Int) + 1), .int .i64 2]) (by simp [results, Tryz.results57, go_sem, R6]) rfl ?_
              exact ⟨.agg #[.slice none 0 0], by rw [HF.out]; simp, by rw [HF.out]; exact ⟨none, 0, [], rfl, SlD.nil _ _ _, rfl⟩, (F0a.own F (by simp)).own G (by simp)⟩
            | true =>
              rw [hp] at hpre
              have HPP := Lib.hid hp
              have hRl : (X.extract B.size X.size).data.toList = Lib.trimPrefix X.data.toList (begL j) := by
                unfold Lib.trimPrefix
                rw [if_pos hp, ← HBL.out, ← size_list, ← ByteArray.toList_eq, Lib.extract_toList, List.take_of_length_le]
                rw [List.length_drop, ← size_list]
                exact Nat.le_refl _
              have hRz : (X.extract B.size X.size).size ≤ 6000 := by rw [ByteArray.size_extract]; omega
              have HRL := Lib.hid hRl
              clear hp hRl
              go_upto_region 14 with (first
                | (go_at_call 61; refine (itoa_at j N HN (by omega) (by omega) _).mono ?_; rintro e w' ⟨rfl, rfl⟩)
                | fail)
              generalize hW : wz.alloc _ = wm
              have Fm : Fr none wz wm := hW ▸ (Fr.refl none wz).alloc _
              have m8 : MB wm wz.heap.size (.bool false) (.int .i64 0) (.slice none 0 0) (.slice none 0 0) := by rw [← hW]; exact blk_new _ _
              have hzm : wm.heap.size = wz.heap.size + 1 := by rw [← hW]; simp
              clear hW
              generalize X.extract B.size X.size = R at *
              clear hpre hle' hdl hBa HB
              have b5m := b5.fr Fm (by simp)
              have b2m := b2z.fr Fm (by simp)
              have ownm := own_fr own Fm (by simp)
              have olz := own.lt
              have F0m := F.pure Fm
              have hmsm : MbsD wm (fun k => Dx wa.heap.size wm (.slice A1 j c1) k ∧ k ≠ wz.heap.size) cells ((mbsOf ls).take j) := MbsD.keep (fun k hk => ⟨⟨(dx_fr Fm (by simp) k hk).1, by have := hk.2.1; omega⟩, Fm.block k hk.2.1 (by simp)⟩) _ _ hms
              have hzm' : wz.heap.size + 1 ≤ wm.heap.size := by omega
              clear own hms b5 b2z F Fm hcj hzm
              by_cases hm : R.data.toList = [45]
              · have hmb : (R.toList == [45]) = true := by rw [ByteArray.toList_eq, beq_iff_eq]; exact hm
                have HL : Hid (lineP j X.data.toList = (noMb, 0)) := by unfold Hid lineP; rw [if_neg (by omega), if_pos HPP.out, ← HRL.out, if_pos hm]
                clear hm
                have own3 := ownm
                have b53 := b5m
                have F03 := F0m
                have hms3 : MbsD wm (Dx wa.heap.size wm (.slice A1 j c1)) cells ((mbsOf ls).take j) := MbsD.keep (fun k hk => ⟨hk.1, rfl⟩) _ _ hmsm
                have hT3 : TrD wm (Dx wa.heap.size wm (.slice A1 j c1)) (.agg #[.int .i64 0, .slice none 0 0, .slice none 0 0]) zeroTr := trd_zero _ _
                have HT2 : Hid ((mbsOf ls).take (j + 1) = (mbsOf ls).take j ++ [noMb]) := by
                  unfold Hid
                  rw [HT.out, HL.out]
                have HE0 := HE0'.out (by rw [HL.out])
                have og := own_blk_ge own3
                have R8 := m8.cell
                have l8 := blk_lt m8
                have R5 := b53.cell
                have Z5 := b53.free
                have l5 := blk_lt b53
                go_wp2_with (at_builtin; refine app_lit eiMb rfl _ _ rfl wa.heap.size A1 j c1 _ rfl own3 1 [.bool false, .int .i64 0, .slice none 0 0, .slice none 0 0] _ _ rfl (by simp) rfl (by simp [Value.oneCell']) (by omega) (by unfold maxLen; omega) (by omega) ?_; intro A5 c5 w6 own6 F6 nb6; have b56 := b53.fr F6 (own_ne own3 (by omega)); have R56 := b56.cell; have Z56 := b56.free; have l56 := blk_lt b56; clear R5 Z5 l5)
                have FQ := Fr.set1 w6 ⟨w.heap.size + 1, 0, none⟩ (.slice A5 (j + 1) c5)
                have hz6 := F6.size
                have hzQ := FQ.size
                go_roundw
                case rel =>
                  refine ⟨j + 1, A5, c5, cells ++ [.bool false, .int .i64 0, .slice none 0 0, .slice none 0 0], by omega, by omega, by go_num, (F03.own F6 (fun q e => by have := og q e; omega)).same FQ, b56.set0 _, own_fr own6 FQ (by simp <;> omega), ?_, HE0⟩
                  rw [HT2.out]
                  exact MbsD.keep (dx_fr FQ (by simp <;> omega)) _ _ (MbsD.append (by simp only [MbsD]; exact ⟨_, _, _, [], rfl, TrD.keep (dx_app F6 nb6) _ _ hT3, rfl⟩) (MbsD.keep (dx_app F6 nb6) _ _ hms3))
                case measure => simp [intOf]; omega
              · have hmb : (R.toList == [45]) = false := by rw [ByteArray.toList_eq, beq_eq_false_iff_ne]; exact hm
                have HM := Lib.hid hm
                clear hm
                go_upto_region 16 with (go_at_call 93; refine (rparse_any R _).mono ?_; rintro e w2 ⟨th, C1, n1, d1, C2, n2, d2, k, er, rfl, F2, hk, h⟩; have HG := Lib.hid h; clear h)
                have hz2 := F2.size
                have m82 := m8.fr F2 (by simp)
                have b52 := b5m.fr F2 (by simp)
                have b22 := b2m.fr F2 (by simp)
                have own2 := own_fr ownm F2 (by simp)
                have F02 := F0m.pure F2
                have hms2 : MbsD w2 (fun k => Dx wa.heap.size w2 (.slice A1 j c1) k ∧ k ≠ wz.heap.size) cells ((mbsOf ls).take j) := MbsD.keep (fun k hk => ⟨⟨(dx_fr F2 (by simp) k hk.1).1, hk.2⟩, (dx_fr F2 (by simp) k hk.1).2⟩) _ _ hmsm
                clear m8 b5m b2m ownm F0m hmsm F2
                cases hq : parseP R.data.toList with
                | no a x =>
                  have h := HG.out
                  rw [hq] at h
                  obtain ⟨rfl, rfl, hz0⟩ := h
                  have HF : Hid (r = ([], j + 1, er)) := HEE.out er (by unfold lineP; rw [if_neg (by omega), if_pos HPP.out, ← HRL.out, if_neg HM.out, hq]) (no_nz hq)
                  have hx0 : (er != 0) = true := by rw [bne_iff_ne]; exact no_nz hq
                  clear hq hz0
                  generalize hW : w2.alloc _ = w3
                  have F3 : Fr none w2 w3 := hW ▸ (Fr.refl none w2).alloc _
                  have b23 := b22.fr F3 (by simp)
                  have F03 := F02.pure F3
                  clear hW
                  have Z2 := b23.free
                  have R2 := b23.cell
                  have l2 := blk_lt b23
                  go_wp2_with fail
                  generalize hW5 : w3.setCell _ _ = w5
                  have G : Fr (some w.heap.size) w3 w5 := hW5 ▸ Fr.set1 w3 ⟨w.heap.size, 0, none⟩ (.slice none 0 0)
                  have m5 : CB w5 w.heap.size (.slice none 0 0) := by rw [← hW5]; exact b23.set0 _
                  clear hW5
                  have R6 := m5.cell
                  refine bodyPost_ret (v := .tuple #[.agg #[.slice none 0 0], .int .i64 ((j : Int) + 1), .int .i64 er]) (by simp [results, Tryz.results57, go_sem, R6]) rfl ?_
                  exact ⟨.agg #[.slice none 0 0], by rw [HF.out]; simp, by rw [HF.out]; exact ⟨none, 0, [], rfl, SlD.nil _ _ _, rfl⟩, (F0a.own F03 (by simp)).own G (by simp)⟩
                | ok t =>
                  have h := HG.out
                  rw [hq] at h
                  obtain ⟨rfl, rfl, hT, hval⟩ := h
                  have HL : Hid (lineP j X.data.toList = (⟨true, t⟩, 0)) := by unfold Hid lineP; rw [if_neg (by omega), if_pos HPP.out, ← HRL.out, if_neg HM.out, hq]
                  clear hq hval
                  generalize hW : w2.alloc _ = w3
                  have F3 : Fr none w2 w3 := hW ▸ (Fr.refl none w2).alloc _
                  have t11 : TB w3 w2.heap.size (.int .i64 th) (.slice C1 n1 d1) (.slice C2 n2 d2) := by rw [← hW]; exact blk_new _ _
                  have hz3 := F3.size
                  have m83 := m82.fr F3 (by simp)
                  have b53a := b52.fr F3 (by simp)
                  have b23 := b22.fr F3 (by simp)
                  have own3a := own_fr own2 F3 (by simp)
                  have F03a := F02.pure F3
                  have hT3a := TrD.keep (dn_fr F3 (by simp)) _ _ hT
                  have hms3a : MbsD w3 (fun k => Dx wa.heap.size w3 (.slice A1 j c1) k ∧ k ≠ wz.heap.size) cells ((mbsOf ls).take j) := MbsD.keep (fun k hk => ⟨⟨(dx_fr F3 (by simp) k hk.1).1, hk.2⟩, (dx_fr F3 (by simp) k hk.1).2⟩) _ _ hms2
                  clear hW m82 b52 b22 own2 F02 hT hms2 F3
                  have R11 := t11.cell
                  have l11 := blk_lt t11
                  have R8 := m83.cell
                  have Z8 := m83.free
                  have l8 := blk_lt m83
                  go_upto_region 19 with (fail)
                  have G := fr_mb4 w3 wz.heap.size (.bool true) (.int .i64 th) (.slice C1 n1 d1) (.slice C2 n2 d2)
                  have m8 := mb_fill4 m83 (.bool true) (.int .i64 th) (.slice C1 n1 d1) (.slice C2 n2 d2)
                  have own3 := own_ne_fr own3a G (fun e => by have := (olz _ e).2; omega)
                  generalize hW5 : (((w3.setCell _ _).setCell _ _).setCell _ _).setCell _ _ = w5 at *
                  have hz5 := G.size
                  have b53 := b53a.fr G (by simp <;> omega)
                  have F03 := F03a.own G (by simp <;> omega)
                  have hms3 : MbsD w5 (Dx wa.heap.size w5 (.slice A1 j c1)) cells ((mbsOf ls).take j) := MbsD.keep (fun k hk => ⟨⟨hk.1.1, by have := hk.1.2.1; omega, hk.1.2.2⟩, G.block k hk.1.2.1 (by have := hk.2; simp <;> omega)⟩) _ _ hms3a
                  have hT3 : TrD w5 (Dx wa.heap.size w5 (.slice A1 j c1)) (.agg #[.int .i64 th, .slice C1 n1 d1, .slice C2 n2 d2]) t := TrD.keep (fun k hk => ⟨⟨by have := hk.1; omega, by have := hk.2; omega, fun e => by have := (olz _ e).2; have := hk.1; omega⟩, G.block k hk.2 (by have := hk.1; simp <;> omega)⟩) _ _ hT3a
                  clear hW5 R8 Z8 l8 R11 l11
                  have HT2 : Hid ((mbsOf ls).take (j + 1) = (mbsOf ls).take j ++ [⟨true, t⟩]) := by
                    unfold Hid
                    rw [HT.out, HL.out]
                  have HE0 := HE0'.out (by rw [HL.out])
                  have og := own_blk_ge own3
                  have R8 := m8.cell
                  have l8 := blk_lt m8
                  have R5 := b53.cell
                  have Z5 := b53.free
                  have l5 := blk_lt b53
                  go_wp2_with (at_builtin; refine app_lit eiMb rfl _ _ rfl wa.heap.size A1 j c1 _ rfl own3 1 [.bool true, .int .i64 th, .slice C1 n1 d1, .slice C2 n2 d2] _ _ rfl (by simp) rfl (by simp [Value.oneCell']) (by omega) (by unfold maxLen; omega) (by omega) ?_; intro A5 c5 w6 own6 F6 nb6; have b56 := b53.fr F6 (own_ne own3 (by omega)); have R56 := b56.cell; have Z56 := b56.free; have l56 := blk_lt b56; clear R5 Z5 l5)
                  have FQ := Fr.set1 w6 ⟨w.heap.size + 1, 0, none⟩ (.slice A5 (j + 1) c5)
                  have hz6 := F6.size
                  have hzQ := FQ.size
                  go_roundw
                  case rel =>
                    refine ⟨j + 1, A5, c5, cells ++ [.bool true, .int .i64 th, .slice C1 n1 d1, .slice C2 n2 d2], by omega, by omega, by go_num, (F03.own F6 (fun q e => by have := og q e; omega)).same FQ, b56.set0 _, own_fr own6 FQ (by simp <;> omega), ?_, HE0⟩
                    rw [HT2.out]
                    exact MbsD.keep (dx_fr FQ (by simp <;> omega)) _ _ (MbsD.append (by simp only [MbsD]; exact ⟨_, _, _, [], rfl, TrD.keep (dx_app F6 nb6) _ _ hT3, rfl⟩) (MbsD.keep (dx_app F6 nb6) _ _ hms3))
                  case measure => simp [intOf]; omega
      · obtain rfl : j = ls.length := by omega
        have hml : (mbsOf ls).length = ls.length := by simp [mbsOf]
        rw [List.take_of_length_le (by omega)] at hms
        have HE1 : Hid (fstE 0 (errsOf ls) = none) := fstE_miss _ _ fun x hx => by
          obtain ⟨i, hi, rfl⟩ := List.getElem_of_mem hx
          have hi' : i < ls.length := by simpa [errsOf] using hi
          simpa [errsOf] using HQ.out i hi' hi'
        have hmem : ∀ i (hi : i < (mbsOf ls).length), memE ls.length (mbsOf ls)[i] = if 2 ^ ls.length ≤ usesT (mbsOf ls)[i].tr then 5 else 0 := fun i hi => by
          have hi' : i < ls.length := by omega
          simp only [mbsOf, List.getElem_mapIdx]
          exact line_ok_memE (HQ.out i hi' hi')
        have HMEM := Lib.hid hmem
        have HP2 : Hid (r = match fstE 0 ((mbsOf ls).map (memE ls.length)) with
          | some (k, e) => ([], k, e)
          | none => (mbsOf ls, 0, 0)) := by unfold Hid; rw [HR.out, HP.out, HE1.out, hml]
        have F0z := F0a.own F (by simp)
        have hcf : CfD wz (Dm wz none) (.agg #[.slice A1 ls.length c1]) (mbsOf ls) := ⟨A1, c1, cells, by rw [hml], by rw [hml]; exact (SlD.own_dn own).keep (fun k hk => ⟨⟨hk.2, by simp⟩, rfl⟩), MbsD.keep (fun k hk => ⟨⟨hk.2.1, by simp⟩, rfl⟩) _ _ hms⟩
        have hcn : CfD wz (Dn (w.heap.size + 2) wz) (.agg #[.slice A1 ls.length c1]) (mbsOf ls) := ⟨A1, c1, cells, by rw [hml], by rw [hml]; exact (SlD.own_dn own).keep (fun k hk => ⟨⟨by have := hk.1; omega, hk.2⟩, rfl⟩), MbsD.keep (fun k hk => ⟨⟨by have := hk.1; omega, hk.2.1⟩, rfl⟩) _ _ hms⟩
        obtain ⟨A', c', e', q1, q2, hcell⟩ := hcf.open_
        rw [hml] at e'
        injection e' with e'
        simp only [Array.mk.injEq, List.cons.injEq, and_true] at e'
        injection e' with e1 _ e3
        subst e1 e3
        have HC := Lib.hid hcell
        have HML := Lib.hid hml
        obtain ⟨ms, hms'⟩ : ∃ ms, ms = mbsOf ls := ⟨_, rfl⟩
        rw [← hms'] at HC HML HP2 hcn HMEM
        have R5 := b5.cell
        have l5 := blk_lt b5
        obtain ⟨n, hn⟩ : ∃ n, n = ls.length := ⟨_, rfl⟩
        try rw [← hn] at HC
        try rw [← hn] at HML
        try rw [← hn] at HP2
        try rw [← hn] at hcn
        try rw [← hn] at HMEM
        try rw [← hn] at R5
        try rw [← hn] at b5
        try rw [← hn]
        have hn10 : n ≤ 10 := by omega
        clear hcell hml hcf own hms hms' HQ HE1 hmem hn hj hj10 hlt q1 q2 hlb
        go_wp2_with fail
        go_loopw [14, 15, 82] (fun _ _ s82 wr => ∃ k : Nat, k ≤ n ∧ s82 = .int .i64 (k : Int) ∧ Fr none wz wr ∧ Hid (∀ i (hi : i < ms.length), i < k → memE n ms[i] = 0)) (fun _ _ s82 _ => n - (intOf s82).toNat)
        case atStart => exact ⟨0, Nat.zero_le _, rfl, Fr.refl _ _, Lib.hid (fun i hi h => by omega)⟩
        case round =>
          clear R5 l5
          obtain ⟨k, hk, rfl, Fk, HQ⟩ := hrel
          obtain ⟨wy, hwy⟩ : ∃ wy : World, wy = wr := ⟨_, rfl⟩
          subst hwy
          have b5y := b5.fr Fk (by simp)
          have b2y := b2z.fr Fk (by simp)
          by_cases hlk : k < n
          · have hlm : k < ms.length := by rw [HML.out]; exact hlk
            obtain ⟨b, off, th, C1, n1, d1, C2, n2, d2, rfl, hb, g0, g1, g2, g3, ht⟩ := HC.out k hlm
            have g0 := Fk.keep g0 (by simp)
            have g1 := Fk.keep g1 (by simp)
            have g2 := Fk.keep g2 (by simp)
            have g3 := Fk.keep g3 (by simp)
            have ht : TrR wy none (.agg #[.int .i64 th, .slice C1 n1 d1, .slice C2 n2 d2]) ms[k].tr := TrD.keep (fr_dm Fk) _ _ ht
            have HMk := Lib.hid (HMEM.out k hlm)
            have HM : Hid (∀ x, memE n ms[k] = x → x ≠ 0 → r = ([], k + 1, x)) := fun x hx hx0 => by
              rw [HP2.out, fstE_hit _ 0 k (by simpa using hlm) (fun i hi hij => by simpa using HQ.out i (by simpa using hi) hij) (by simpa [hx] using hx0)]
              simp [hx]
            have HM0 : Hid (memE n ms[k] = 0 → ∀ i (hi : i < ms.length), i < k + 1 → memE n ms[i] = 0) := fun h0 i hi hij => by
              rcases Nat.lt_or_ge i k with hh | hh
              · exact HQ.out i hi hh
              · obtain rfl : i = k := by omega
                exact h0
            have Ry := b5y.cell
            have ly := blk_lt b5y
            go_upto_region 24 with (fail)
            generalize hW : wy.alloc _ = wx
            have Fx : Fr none wy wx := hW ▸ (Fr.refl none wy).alloc _
            have m4 : MB wx wy.heap.size (.bool ms[k].dec) (.int .i64 th) (.slice C1 n1 d1) (.slice C2 n2 d2) := by rw [← hW]; exact blk_new _ _
            clear hW g0 g1 g2 g3 Ry ly
            have htx := ht.fr Fx
            have b5x := b5y.fr Fx (by simp)
            have b2x := b2y.fr Fx (by simp)
            clear HQ
            generalize ms[k] = m at *
            have hp := pow2_lt n (by omega)
            have hw2 : IntKind.i64.wrap ((2 : Int) ^ n) = ((2 ^ n : Nat) : Int) := by rw [wrapI]; exact wrap_pow n (by omega)
            have hul := usesT_lt m.tr
            obtain ⟨N, hN⟩ : ∃ N : Nat, 2 ^ n = N := ⟨_, rfl⟩
            rw [hN] at hw2 hp HMk
            clear hN
            obtain ⟨U, hU⟩ : ∃ U, usesT m.tr = U := ⟨_, rfl⟩
            rw [hU] at hul HMk
            have HU := Lib.hid hU
            clear hU
            have R2 := m4.cell
            have l2 := blk_lt m4
            have Rc := b5x.cell
            have lc := blk_lt b5x
            obtain ⟨Xb, hX⟩ : ∃ Xb, Xb = decide ((N : Int) ≤ (U : Int)) := ⟨_, rfl⟩
            have HX := Lib.hid hX
            clear hX
            go_cut [94] (fun s94 wq => s94 = .bool Xb ∧ Fr none wx wq)
            case first =>
              refine wp_region_held_drew (S := fun W => (∀ i, W.cell? ⟨wy.heap.size, i, none⟩ = (#[.bool m.dec, .int .i64 th, .slice C1 n1 d1, .slice C2 n2 d2] : Array Value)[i]?) ∧ (∀ i, W.cell? ⟨w.heap.size + 1, i, none⟩ = (#[.slice (some ⟨b, off, none⟩) n c1] : Array Value)[i]?) ∧ Fr none wx W) (by kernel_rfl) ⟨m4.cell, b5x.cell, (Fr.refl _ _).drew⟩ (fun hH0 => ?_)
              refine wpAnyH_take (i := 0) (v := ?_) rfl (by kernel_rfl) (by kernel_rfl) (by kernel_rfl) (fun _ _ _ h => h) (Or.inl ⟨by rfl, ?_⟩) (by assumption) ?_
              rotate_left
              · (intro W hW; (try dsimp only at hW); go_simp; try with_reducible rfl)
              try simp only [Act.put, List.setIfInBounds_toArray, List.set_cons_zero, List.set_cons_succ, List.getElem_toArray, List.getElem_cons_zero, List.getElem_cons_succ]
              refine wpAnyH_take (i := 1) (v := ?_) rfl (by kernel_rfl) (by kernel_rfl) (by kernel_rfl) (fun _ _ _ h => h) (Or.inl ⟨by rfl, ?_⟩) (by assumption) ?_
              rotate_left
              · (intro W hW; (try dsimp only at hW); go_simp; try with_reducible rfl)
              try simp only [Act.put, List.setIfInBounds_toArray, List.set_cons_zero, List.set_cons_succ, List.getElem_toArray, List.getElem_cons_zero, List.getElem_cons_succ]
              refine wpAnyH_take (i := 3) (v := ?_) rfl (by kernel_rfl) (by kernel_rfl) (by kernel_rfl) (fun _ _ _ h => h) (Or.inl ⟨by rfl, ?_⟩) (by assumption) ?_
              rotate_left
              · (intro W hW; (try dsimp only at hW); go_simp; try with_reducible rfl)
              try simp only [Act.put, List.setIfInBounds_toArray, List.set_cons_zero, List.set_cons_succ, List.getElem_toArray, List.getElem_cons_zero, List.getElem_cons_succ]
              refine wpAnyH_take (i := 4) (v := ?_) rfl (by kernel_rfl) (by kernel_rfl) (by kernel_rfl) (fun _ _ _ h => h) (Or.inl ⟨by rfl, ?_⟩) (by assumption) ?_
              rotate_left
              · (intro W hW; (try dsimp only at hW); go_simp; try with_reducible rfl)
              try simp only [Act.put, List.setIfInBounds_toArray, List.set_cons_zero, List.set_cons_succ, List.getElem_toArray, List.getElem_cons_zero, List.getElem_cons_succ]
              refine wpAnyH_take (i := 5) (v := ?_) rfl (by kernel_rfl) (by kernel_rfl) (by kernel_rfl) (fun _ _ _ h => h) (Or.inl ⟨by rfl, ?_⟩) (by assumption) ?_
              rotate_left
              · (intro W hW; (try dsimp only at hW); go_simp; try with_reducible rfl)
              try simp only [Act.put, List.setIfInBounds_toArray, List.set_cons_zero, List.set_cons_succ, List.getElem_toArray, List.getElem_cons_zero, List.getElem_cons_succ]
              refine wpAnyH_take (i := 6) (v := ?_) rfl (by kernel_rfl) (by kernel_rfl) (by kernel_rfl) (fun _ _ _ h => h) (Or.inl ⟨by rfl, ?_⟩) (by assumption) ?_
              rotate_left
              · (intro W hW; (try dsimp only at hW); go_simp; try with_reducible rfl)
              try simp only [Act.put, List.setIfInBounds_toArray, List.set_cons_zero, List.set_cons_succ, List.getElem_toArray, List.getElem_cons_zero, List.getElem_cons_succ]
              refine wpAnyH_ready (rs := [2]) (by kernel_rfl) (by simp) ?_
              refine AllReadyH.cons rfl (fun K hK => ?_) AllReadyH.nil
              simp only [List.getElem_toArray, List.getElem_cons_zero, List.getElem_cons_succ]
              go_simp
              go_at_call 101
              refine (ruses_any m.tr.dep m.tr _ _ none (Nat.le_refl _) (htx.fr hH0.2.2)).mono ?_
              rintro e w9 ⟨rfl, F9⟩
              rw [HU.out]
              have F9' := hH0.2.2.pure F9
              refine hK.out _ _ ⟨(m4.fr F9' (by simp)).cell, (b5x.fr F9' (by simp)).cell, F9'⟩ (fun hH1 => ?_)
              clear hK K hH0
              try simp only [Act.put, List.setIfInBounds_toArray, List.set_cons_zero, List.set_cons_succ, List.getElem_toArray, List.getElem_cons_zero, List.getElem_cons_succ]
              refine wpAnyH_take (i := 7) (v := ?_) rfl (by kernel_rfl) (by kernel_rfl) (by kernel_rfl) (fun _ _ _ h => h) (Or.inl ⟨by rfl, ?_⟩) (by assumption) ?_
              rotate_left
              · (intro W hW; (try dsimp only at hW); go_simp; try with_reducible rfl)
              try simp only [Act.put, List.setIfInBounds_toArray, List.set_cons_zero, List.set_cons_succ, List.getElem_toArray, List.getElem_cons_zero, List.getElem_cons_succ]
              refine wpAnyH_done (by kernel_rfl) ?_ _
              go_wp2_with fail
              go_meet
              exact ⟨by rw [HX.out]; simp, F9'⟩
            case rest =>
              obtain ⟨rfl, Fq⟩ := hcut
              have F02 := (Fk.pure Fx).pure Fq
              have b22 := b2x.fr Fq (by simp)
              clear R2 l2 Rc lc
              cases Xb with
              | true =>
                have hle : N ≤ U := by have := of_decide_eq_true HX.out.symm; omega
                have HF : Hid (r = ([], k + 1, 5)) := HM.out _ (by rw [HMk.out, if_pos hle]) (by decide)
                have R2 := b22.cell
                have Z2 := b22.free
                have l2 := blk_lt b22
                clear hle
                go_wp2_with fail
                generalize hW5 : World.setCell _ _ _ = w5
                have G : Fr (some w.heap.size) _ w5 := hW5 ▸ Fr.set1 _ ⟨w.heap.size, 0, none⟩ (.slice none 0 0)
                have m5 : CB w5 w.heap.size (.slice none 0 0) := by rw [← hW5]; exact b22.set0 _
                clear hW5
                have R6 := m5.cell
                refine bodyPost_ret (v := .tuple #[.agg #[.slice none 0 0], .int .i64 ((k : Int) + 1), .int .i64 5]) (by simp [results, Tryz.results57, go_sem, R6]) rfl ?_
                exact ⟨.agg #[.slice none 0 0], by rw [HF.out]; simp, by rw [HF.out]; exact ⟨none, 0, [], rfl, SlD.nil _ _ _, rfl⟩, ((F0z.pure F02).own G (by simp))⟩
              | false =>
                have hle : ¬ N ≤ U := fun h => by have := of_decide_eq_false HX.out.symm; omega
                have H0 := HM0.out (by rw [HMk.out, if_neg hle])
                clear hle
                go_wp2_with fail
                go_roundw
                case rel => exact ⟨k + 1, by omega, by go_num, F02, H0⟩
                case measure => simp [intOf]; omega
          · obtain rfl : k = n := by omega
            have HF : Hid (r = (ms, 0, 0)) := by
              unfold Hid
              rw [HP2.out, fstE_miss _ _ fun x hx => ?_]
              obtain ⟨i, hi, rfl⟩ := List.getElem_of_mem hx
              have hi' : i < ms.length := by simpa using hi
              simpa using HQ.out i hi' (by rw [← HML.out]; exact hi')
            have R5 := b5y.cell
            have R2 := b2y.cell
            have Z2 := b2y.free
            have l5 := blk_lt b5y
            have l2 := blk_lt b2y
            go_wp2_with fail
            generalize hW5 : wy.setCell _ _ = w5
            have G : Fr (some w.heap.size) wy w5 := hW5 ▸ Fr.set1 wy ⟨w.heap.size, 0, none⟩ (.slice A1 k c1)
            have m5 : CB w5 w.heap.size (.slice A1 k c1) := by rw [← hW5]; exact b2y.set0 _
            clear hW5
            have R6 := m5.cell
            refine bodyPost_ret (v := .tuple #[.agg #[.slice A1 k c1], .int .i64 0, .int .i64 0]) (by simp [results, Tryz.results57, go_sem, R6]) rfl ?_
            exact ⟨.agg #[.slice A1 k c1], by rw [HF.out]; rfl, by rw [HF.out]; exact CfD.keep (fun b hb => ⟨⟨by have := hb.1; omega, Nat.lt_of_lt_of_le hb.2 G.size⟩, G.block b hb.2 (by have := hb.1; simp; omega)⟩) (CfD.keep (dn_fr Fk (by simp)) hcn), (F0z.pure Fk).own G (by simp)⟩
end Go.Proofs.YtoblhcieidljjaaGreatDoor

/- Some texts of this claim, joined: contracts of the functions that it reaches, and plain laws. -/
import Derived.Test.YtpdhckbiioobhaaGreatDoorJN6
import Derived.Test.YtpdhckbiioobhaaGreatDoorJN4
import Derived.Test.YtpdhckbiioobhaaGreatDoorJN2
import Derived.Test.YtpdhckbiioobhaaGreatDoorJN5

set_option linter.unusedSimpArgs false
set_option linter.unusedVariables false
/- Walks: law 4's mixed: a trust with its entries in another order. -/
namespace Go.Proofs.YtpdhckbiioobhaaGreatDoor
open Go.RowKit

def sel {α : Type} (z : α) (l : List α) (ks : List Int) : List α := ks.map fun k => l.getD k.toNat z
theorem sel_ints {α : Type} (z : α) (l : List α) : sel z l (ints l.length) = l := by
  refine List.ext_getElem (by simp [sel, ints]) (fun i h1 h2 => ?_)
  simp [sel, ints, h2]
theorem sel_perm {α : Type} (z : α) (l : List α) {ks : List Int} (h : ks.Perm (ints l.length)) : (sel z l ks).Perm l := by
  have := h.map (fun k : Int => l.getD k.toNat z)
  have e : (ints l.length).map (fun k : Int => l.getD k.toNat z) = l := sel_ints z l
  rw [e] at this
  exact this
theorem sel_len {α : Type} (z : α) (l : List α) (ks : List Int) : (sel z l ks).length = ks.length := by simp [sel]
theorem MixL.len : ∀ {l m : List Tr}, MixL l m → m.length = l.length := fun h => h.facts.1.symm
/-- What mixed makes. -/
def MixP (T : Tr) (w : World) (g : Nat) (e : Ending) (w' : World) : Prop :=
  ∃ v' T', e = .returned v' ∧ TrD w' (Dn w.heap.size w') v' T' ∧ MixR T T' ∧ SrcR 88 w' g ∧ Fr (some g) w w'

set_option maxRecDepth 100000 in
set_option maxHeartbeats 1600000 in
theorem mixed_any (d : Nat) : ∀ (T : Tr) (v : Value) (g : Nat) (w : World), T.dep ≤ d → TrR w (some g) v T → SrcR 88 w g →
    Calls Tryz.prog 26 #[.pointer (some ⟨g, 0, none⟩), v] w (MixP T w g) := by
  induction d with
  | zero =>
    intro T v g w hd
    cases T
    simp [Tr.dep] at hd
  | succ d ih =>
    intro T v g w hd hT S0
    have hg := S0.lt
    obtain ⟨thr, nodes, inner⟩ := T
    have hdi : depL inner ≤ d := by simp only [Tr.dep] at hd; omega
    obtain ⟨A, c, A', c', rfl, h0, hn, hnl, hil, hc1, hc2, hcell⟩ := hT.open_
    obtain ⟨An, cn, en, hq1, hq2, hncell⟩ := hn.open_
    injection en with en1 _ en3
    subst en1 en3
    have HNC := Lib.hid hncell
    have HIC := Lib.hid hcell
    have HT := Lib.hid hT
    have HWN := Lib.hid hn.2
    clear hd hn hncell hcell hT
    go_enter Tryz.func26, Tryz.ntmps26
    go_wp2_with fail
    generalize hW : ((w.alloc _).alloc _).alloc _ = w1
    have hz : w1.heap.size = w.heap.size + 3 := by rw [← hW]; simp
    have F1 : Fr none w w1 := hW ▸ (((Fr.refl _ w).alloc _).alloc _).alloc _
    have b5 : TB w1 w.heap.size (.int .i64 thr) (.slice A nodes.length c) (.slice A' inner.length c') := by
      rw [← hW]; exact (Below.heap_alloc _ _ _ (by simp; omega)).trans ((Below.heap_alloc _ _ _ (by simp)).trans (blk_new _ _))
    have b6 : TB w1 (w.heap.size + 1) (.int .i64 0) (.slice none 0 0) (.slice none 0 0) := by
      rw [← hW]; exact (Below.heap_alloc _ _ _ (by simp)).trans (blk_new_at (by simp) _)
    have b7 : TB w1 (w.heap.size + 1 + 1) (.int .i64 thr) (.slice none 0 0) (.slice none 0 0) := by
      rw [← hW]; exact blk_new_at (by simp) _
    have S1 := S0.fr F1
    clear hW S0
    refine (tapeOrder_any nodes.length g _ hnl S1).mono ?_
    rintro e w2 ⟨ov, ol, rfl, hperm, hol, S2, F2⟩
    have hz2 := F2.size
    have b5 := b5.fr F2 (by simp; omega)
    have b6 := b6.fr F2 (by simp; omega)
    have b7 := b7.fr F2 (by simp; omega)
    have F2 := (F1.mono (r := some g)).same F2
    clear S1 F1
    obtain ⟨A0, c0, rfl, p1, p2⟩ := hol.formI
    have hlen : ol.length = nodes.length := by rw [hperm.length_eq, ints_len]
    have hrange : ∀ x ∈ ol, 0 ≤ x ∧ x < (nodes.length : Int) := fun x hx => by
      have := hperm.mem_iff.1 hx
      simp only [ints, List.mem_map, List.mem_range] at this
      obtain ⟨y, hy, rfl⟩ := this
      constructor <;> simp <;> omega
    have HRG := Lib.hid hrange
    have hseln := sel_perm 0 nodes hperm
    have HSN := Lib.hid hseln
    have hol3 : ol.length ≤ 1073741824 := by omega
    have hol0 : SlD w2 (fun b => w.heap.size + 3 ≤ b ∧ b < w2.heap.size) 1 (.slice A0 ol.length c0) (ol.map (Value.int .i64)) := by rw [← hz]; exact hol.keep (fun k hk => ⟨⟨hk.1, hk.2⟩, rfl⟩)
    have R5 := b5.cell
    have hl5 := blk_lt b5
    clear hlen hrange hseln hperm hol
    go_wp2_with fail
    clear R5 hl5
    go_loopw [7, 19] (fun _ i wr => ∃ (j : Nat) (A1 : Option Addr) (c1 : Nat), j ≤ ol.length ∧ i = .int .i64 j ∧ Fr (some g) w wr ∧ w2.heap.size ≤ wr.heap.size ∧ SrcR 88 wr g ∧ TB wr w.heap.size (.int .i64 thr) (.slice A nodes.length c) (.slice A' inner.length c') ∧ TB wr (w.heap.size + 1) (.int .i64 0) (.slice none 0 0) (.slice none 0 0) ∧ TB wr (w.heap.size + 1 + 1) (.int .i64 thr) (.slice A1 j c1) (.slice none 0 0) ∧
      wr.ownsRow w2.heap.size 3 1 (.slice A1 j c1) j ((sel 0 nodes (ol.take j)).map (Value.int .i64)) ∧ SlD wr (fun b => w.heap.size + 3 ≤ b ∧ b < w2.heap.size) 1 (.slice A0 ol.length c0) (ol.map (Value.int .i64))) (fun _ i _ => ol.length - (intOf i).toNat)
    case atStart => exact ⟨0, none, 0, Nat.zero_le _, rfl, F2, Nat.le_refl _, S2, b5, b6, b7, World.ownsRow_nil _ _ _ _, hol0⟩
    case round =>
      clear hol0 b5 b6 b7 S2 F2
      obtain ⟨j, A1, c1, hj, rfl, F, hs2, S, K5, K6, K7, own, hks⟩ := hrel
      by_cases hlt : j < ol.length
      · obtain ⟨b, off, rfl, hb, hcj⟩ := hks.cellI j hlt
        have HT1 : Hid (ol.take (j + 1) = ol.take j ++ [ol[j]]) := List.take_succ_eq_append_getElem hlt
        obtain ⟨k1, k2⟩ := HRG.out ol[j] (List.getElem_mem _)
        generalize hy : ol[j] = y at *
        obtain ⟨k, rfl⟩ := Int.eq_ofNat_of_zero_le k1
        have hk : k < nodes.length := by omega
        obtain ⟨bn, on, rfl, hbn, hbg, hcn⟩ := HNC.out (by omega)
        have hx := F.keep (hcn k hk) (fun e => hbg e)
        have HX : Hid (nodes.getD k 0 = nodes[k]) := by unfold Hid; simp [hk]
        have HY := Lib.hid hy
        generalize nodes[k] = xk at *
        have own' := own.drew
        have K7d : TB wr.drew (w.heap.size + 1 + 1) (.int .i64 thr) (.slice A1 j c1) (.slice none 0 0) := K7
        have R5 := K5.cell
        have R7 := K7.cell
        have Z7 := K7.free
        have hl7 := blk_lt K7
        have hl5 := blk_lt K5
        clear hy hcn
        go_upto_region 5 with (fail)
        go_region_law (refine step_app_lit eiInt rfl _ _ rfl w2.heap.size A1 j c1 _ rfl own' 1 [.int .i64 xk] 3 _ rfl (by simp) rfl (by simp [Value.oneCell']) (by omega) (by unfold maxLen; omega) (by simp; omega) ?_; intro A3 c3 w' own3 F3 bl3; have K7' := K7d.fr F3 (own_ne own' (by omega)); have R7' := K7'.cell; have Z7' := K7'.free; have hz3 := F3.size)
        all_goals
          go_wp2_with fail
          have FS := Fr.set1 w' ⟨w.heap.size + 1 + 1, 1, none⟩ (.slice A3 (j + 1) c3)
          have og := own_blk_ge own'
          have hzd : wr.heap.size ≤ w'.heap.size := F3.size
          go_roundw
          case rel =>
            refine ⟨j + 1, A3, c3, by omega, by go_num, (((F.drew).own F3 (fun q e => by have := og q e; omega)).own FS (by simp; omega)), by have := FS.size; omega, ((S.drew).frs F3 (fun q e => by have := og q e; omega)).frs FS (by simp; omega), ((show TB wr.drew _ _ _ _ from K5).fr F3 (own_ne own' (by omega))).fr FS (by simp; omega), ((show TB wr.drew _ _ _ _ from K6).fr F3 (own_ne own' (by omega))).fr FS (by simp), ?_, ?_, ?_⟩
            · simpa using K7'.set1 (.slice A3 (j + 1) c3)
            · rw [HT1.out, sel, List.map_append, List.map_append]
              have e1 : List.map (fun q : Int => nodes.getD q.toNat 0) [((k : Nat) : Int)] = [xk] := by simp only [List.map_cons, List.map_nil, Int.toNat_natCast, HX.out]
              rw [e1]
              exact own_fr own3 FS (by simp; omega)
            · exact (hks.keep (fun q hq => ⟨hq, (F3.block q (by show q < wr.heap.size; omega) (fun e => by have := og q e.symm; omega))⟩)).keep (fun q hq => ⟨hq, FS.block q (by omega) (by simp; omega)⟩)
          case measure => simp [intOf]; omega
      · obtain rfl : j = ol.length := by omega
        have hnl' : (sel 0 nodes ol).length = ol.length := sel_len _ _ _
        rw [List.take_length] at own
        have hmw : ∀ x ∈ sel 0 nodes ol, Wi x := fun x hx => HWN.out x (HSN.out.mem_iff.1 hx)
        obtain ⟨ms, hms⟩ : ∃ ms, ms = sel 0 nodes ol := ⟨_, rfl⟩
        have hmp : ms.Perm nodes := hms ▸ HSN.out
        rw [← hms] at own hnl' hmw
        rw [← hnl'] at own K7 hol3
        have hks' : SlD wr (Dn (w.heap.size + 3) wr) 1 (.slice A1 ms.length c1) (ms.map (Value.int .i64)) := (SlD.own_dn own).keep (dn_mono (by omega))
        have HMP := Lib.hid hmp
        have HMW := Lib.hid hmw
        have R5 := K5.cell
        have hl5 := blk_lt K5
        clear own hks hms hmp HSN HRG hmw hnl'
        obtain ⟨wo, rfl⟩ : ∃ wo : World, wo = wr := ⟨_, rfl⟩
        go_wp2_with fail
        refine (tapeOrder_any inner.length g _ hil S).mono ?_
        rintro e w3 ⟨ov, pl, rfl, hperm, hpl, S3, F3⟩
        have hz3 := F3.size
        have K5 := K5.fr F3 (by simp; omega)
        have K6 := K6.fr F3 (by simp; omega)
        have K7 := K7.fr F3 (by simp; omega)
        have hks3 := hks'.keep (dn_fr F3 (by simp; omega))
        have F3 := F.same F3
        obtain ⟨A9, c9, rfl, p1', p2'⟩ := hpl.formI
        have hplen : pl.length = inner.length := by rw [hperm.length_eq, ints_len]
        have hrange : ∀ x ∈ pl, 0 ≤ x ∧ x < (inner.length : Int) := fun x hx => by
          have := hperm.mem_iff.1 hx
          simp only [ints, List.mem_map, List.mem_range] at this
          obtain ⟨y, hy, rfl⟩ := this
          constructor <;> simp <;> omega
        have hseli := sel_perm (.mk 0 [] []) inner hperm
        have HRG := Lib.hid hrange
        have HSI := Lib.hid hseli
        have HPL := Lib.hid hplen
        have hpl3 : pl.length ≤ 1073741824 := by omega
        have hpl0 : SlD w3 (fun b => w.heap.size + 3 ≤ b ∧ b < w3.heap.size) 1 (.slice A9 pl.length c9) (pl.map (Value.int .i64)) := hpl.keep (fun k hk => ⟨⟨by have := hk.1; omega, hk.2⟩, rfl⟩)
        have hks4 : SlD w3 (fun b => w.heap.size + 3 ≤ b ∧ b < w3.heap.size) 1 (.slice A1 ms.length c1) (ms.map (Value.int .i64)) := hks3
        clear hplen hrange hseli hperm hpl R5 hl5 S F hks' hks3
        have R5 := K5.cell
        have hl5 := blk_lt K5
        go_wp2_with fail
        clear R5 hl5
        go_loopw [9, 40] (fun _ i wr => ∃ (j : Nat) (K : List Tr) (A2 : Option Addr) (c2 : Nat) (cells : List Value), j ≤ pl.length ∧ K.length = j ∧ i = .int .i64 j ∧ Fr (some g) w wr ∧ w3.heap.size ≤ wr.heap.size ∧ SrcR 88 wr g ∧ TB wr w.heap.size (.int .i64 thr) (.slice A nodes.length c) (.slice A' inner.length c') ∧ TB wr (w.heap.size + 1) (.int .i64 0) (.slice none 0 0) (.slice none 0 0) ∧ TB wr (w.heap.size + 1 + 1) (.int .i64 thr) (.slice A1 ms.length c1) (.slice A2 j c2) ∧
          wr.ownsRow w3.heap.size 31 3 (.slice A2 j c2) j cells ∧ TrsD wr (Dx w3.heap.size wr (.slice A2 j c2)) cells K ∧ Hid (MixL (sel (.mk 0 [] []) inner (pl.take j)) K) ∧
          SlD wr (fun b => w.heap.size + 3 ≤ b ∧ b < w3.heap.size) 1 (.slice A9 pl.length c9) (pl.map (Value.int .i64)) ∧ SlD wr (fun b => w.heap.size + 3 ≤ b ∧ b < w3.heap.size) 1 (.slice A1 ms.length c1) (ms.map (Value.int .i64))) (fun _ i _ => pl.length - (intOf i).toNat)
        case atStart => exact ⟨0, [], none, 0, [], Nat.zero_le _, rfl, rfl, F3, Nat.le_refl _, S3, K5, K6, K7, World.ownsRow_nil _ _ _ _, by simp [TrsD], by unfold Hid; simp [sel, MixL], hpl0, hks4⟩
        case round =>
          clear hpl0 hks4 K5 K6 K7 S3 F3
          obtain ⟨j, K, A2, c2, cells, hj, hKj, rfl, F, hs3, S, K5, K6, K7, own, hts, HML, hps, hks⟩ := hrel
          have HKJ := Lib.hid hKj
          clear hKj
          by_cases hlt : j < pl.length
          · obtain ⟨b, off, rfl, hb, hcj⟩ := hps.cellI j hlt
            have HT2 : Hid (pl.take (j + 1) = pl.take j ++ [pl[j]]) := List.take_succ_eq_append_getElem hlt
            obtain ⟨k1, k2⟩ := HRG.out pl[j] (List.getElem_mem _)
            generalize hy : pl[j] = y at *
            obtain ⟨k, rfl⟩ := Int.eq_ofNat_of_zero_le k1
            have hk : k < inner.length := by omega
            obtain ⟨bn, on, rfl, hbn, hbg, hcn⟩ := HIC.out (by omega)
            obtain ⟨x, y, z, g0, g1, g2, gt⟩ := hcn k hk
            have hdk : (inner[k]).dep ≤ d := Nat.le_trans (depL_get inner k hk) hdi
            have HX : Hid (inner.getD k (.mk 0 [] []) = inner[k]) := by unfold Hid; simp [hk]
            generalize inner[k] = xk at *
            obtain ⟨tx, X1, m1, e1, X2, m2, e2, rfl, rfl, rfl⟩ := gt.shape
            have g0 := F.keep g0 hbg
            have g1 := F.keep g1 hbg
            have g2 := F.keep g2 hbg
            have gt := gt.fr F
            have GT : TrR wr.drew (some g) (.agg #[.int .i64 tx, .slice X1 m1 e1, .slice X2 m2 e2]) xk := gt.fr (Fr.refl (some g) wr).drew
            have R5 := K5.cell
            have R7 := K7.cell
            have Z7 := K7.free
            have hl7 : w.heap.size + 1 + 1 < wr.heap.size := blk_lt K7
            have hl5 := blk_lt K5
            clear hy hcn gt
            go_upto_region 10 with (fail)
            go_region_law (first
              | (go_simp; go_at_call 26; refine (ih xk _ g _ hdk GT S.drew).mono ?_; rintro e w4 ⟨v4, T4, rfl, hT4, hmx, S4, F4⟩; obtain ⟨th4, a1, n1, q1, a2, n2, q2, rfl⟩ := hT4.shape; have F4' := ((Fr.refl (some g) wr).drew).same F4; have K7x := K7.fr F4' (by simp; omega); have R4 := K7x.cell; have Z4 := K7x.free; have own4 := own_fr own F4' (by simp; omega); have hz4 := F4'.size; have hl4 := blk_lt K7x)
              | (refine step_app_lit eiTrust rfl _ _ rfl w3.heap.size A2 j c2 _ rfl own4 1 [.int .i64 th4, .slice a1 n1 q1, .slice a2 n2 q2] 31 _ rfl (by simp) rfl (by simp [Value.oneCell']) (by omega) (by unfold maxLen; omega) (by omega) ?_; intro A3 c3 w5 own5 F5 bl5; have T5 := K7x.fr F5 (own_ne own4 (by omega)); have R6 := T5.cell; have Z6 := T5.free))
            all_goals
              go_wp2_with fail
              have FS := Fr.set1 w5 ⟨w.heap.size + 1 + 1, 2, none⟩ (.slice A3 (j + 1) c3)
              have og := own_blk_ge own4
              have ol' := own.lt
              have hz5 := F5.size
              have hzS := FS.size
              go_roundw
              case rel =>
                have t1 := (TrsD.keep (dx_fr FS (by simp; omega)) _ _ (TrsD.keep (dx_app F5 bl5) _ _ (TrsD.keep (dx_fr F4' (by simp; omega)) _ _ hts)))
                have t2 := TrD.keep (dx_fr FS (by simp; omega)) _ _ (TrD.keep (dx_app F5 bl5) _ _ (TrD.keep (dn_dx (B := w3.heap.size) (v := .slice A2 j c2) (by exact hs3) (fun q hq => (ol' q hq).2)) _ _ hT4))
                refine ⟨j + 1, K ++ [T4], A3, c3, cells ++ [.int .i64 th4, .slice a1 n1 q1, .slice a2 n2 q2], by omega, by simp [HKJ.out], by go_num, ((F.same F4').own F5 (fun q e => by have := og q e; omega)).own FS (by simp; omega), by omega, (S4.frs F5 (fun q e => by have := og q e; omega)).frs FS (by simp; omega), ((K5.fr F4' (by simp; omega)).fr F5 (own_ne own4 (by omega))).fr FS (by simp; omega), ((K6.fr F4' (by simp; omega)).fr F5 (own_ne own4 (by omega))).fr FS (by simp), T5.set2 _, own_fr own5 FS (by simp; omega), TrsD.append t1 (by simp only [TrsD]; exact ⟨_, _, _, [], rfl, t2, rfl⟩), ?_, ?_, ?_⟩
                · unfold Hid
                  rw [HT2.out, sel, List.map_append]
                  refine MixL.append HML.out ?_
                  simp only [List.map_cons, List.map_nil, Int.toNat_natCast, HX.out, MixL]
                  exact ⟨hmx, trivial⟩
                · exact ((hps.keep (fun q hq => ⟨hq, F4'.block q (by omega) (by simp; omega)⟩)).keep (fun q hq => ⟨hq, F5.block q (by omega) (fun e => by have := og q e.symm; omega)⟩)).keep (fun q hq => ⟨hq, FS.block q (by omega) (by simp; omega)⟩)
                · exact ((hks.keep (fun q hq => ⟨hq, F4'.block q (by omega) (by simp; omega)⟩)).keep (fun q hq => ⟨hq, F5.block q (by omega) (fun e => by have := og q e.symm; omega)⟩)).keep (fun q hq => ⟨hq, FS.block q (by omega) (by simp; omega)⟩)
              case measure => simp [intOf]; omega
          · obtain rfl : j = pl.length := by omega
            have hML := HML.out
            rw [List.take_length] at hML
            have hmr : MixR (.mk thr nodes inner) (.mk thr ms K) := mix_mk HMP.out HSI.out hML
            have HMR := Lib.hid hmr
            have hc3 : SlD wr (Dn (w.heap.size + 3) wr) 3 (.slice A2 pl.length c2) cells := (SlD.own_dn own).keep (dn_mono (by omega))
            have hk3 : SlD wr (Dn (w.heap.size + 3) wr) 1 (.slice A1 ms.length c1) (ms.map (Value.int .i64)) := hks.keep (fun k hk => ⟨⟨hk.1, by omega⟩, rfl⟩)
            have ht3 : TrsD wr (Dn (w.heap.size + 3) wr) cells K := TrsD.keep (fun k hk => ⟨⟨by have := hk.1; omega, hk.2.1⟩, rfl⟩) _ _ hts
            have R6 := K6.cell
            have Z6 := K6.free
            have R7 := K7.cell
            have hl7 := blk_lt K7
            have hl6 := blk_lt K6
            clear hML hmr own hts hps hks HML
            go_wp2_with fail
            refine bodyPost_ret (v := .agg #[.int .i64 thr, .slice A1 ms.length c1, .slice A2 pl.length c2]) (by simp [results, Tryz.results26, go_sem, R6]) rfl ?_
            have G := fr_fill3 wr (w.heap.size + 1) (.int .i64 thr) (.slice A1 ms.length c1) (.slice A2 pl.length c2)
            generalize World.setCell (World.setCell (World.setCell wr _ _) _ _) _ _ = v1 at *
            have hkk : ∀ k, Dn (w.heap.size + 3) wr k → Dn w.heap.size v1 k ∧ v1.heap[k]? = wr.heap[k]? := fun k hk => by
              obtain ⟨k0, e0⟩ := dn_fr (B := w.heap.size + 3) G (by simp) k hk
              exact ⟨⟨by have := k0.1; omega, k0.2⟩, e0⟩
            have hKl := HKJ.out
            have hpl := HPL.out
            refine ⟨_, .mk thr ms K, rfl, TrD.mk_ h0 (hk3.keep hkk) HMW.out (by rw [← hKl]; rw [← hKl] at hc3; exact hc3.keep hkk) (by omega) (by omega) (TrsD.keep hkk _ _ ht3), HMR.out, S.frs G (by simp; omega), F.own G (by simp)⟩
end Go.Proofs.YtpdhckbiioobhaaGreatDoor

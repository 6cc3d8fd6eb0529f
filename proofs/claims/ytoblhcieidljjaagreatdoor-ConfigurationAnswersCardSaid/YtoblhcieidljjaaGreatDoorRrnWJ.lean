/- Walks: the reference's renamed. -/
import Derived.Test.YtoblhcieidljjaaGreatDoorProg
import Derived.Test.YtoblhcieidljjaaGreatDoorJG18
import Derived.Test.YtoblhcieidljjaaGreatDoorJG4
import Derived.Test.YtoblhcieidljjaaGreatDoorJG2
set_option linter.unusedSimpArgs false
set_option linter.unusedVariables false
namespace Go.Proofs.YtoblhcieidljjaaGreatDoor
open Go.RowKit

mutual
theorem allN_of_in {n : Nat} : ∀ t, nodesIn n t → allN (fun x => 0 ≤ x ∧ x < (n : Int)) t
  | .mk _ l i, h => by
    simp only [nodesIn] at h
    simp only [allN]
    exact ⟨h.1, allNL_of_in i h.2⟩
theorem allNL_of_in {n : Nat} : ∀ l, nodesInL n l → allNL (fun x => 0 ≤ x ∧ x < (n : Int)) l
  | [], _ => by simp [allNL]
  | x :: r, h => by
    simp only [nodesInL] at h
    simp only [allNL]
    exact ⟨allN_of_in x h.1, allNL_of_in r h.2⟩
end
theorem pf_wi {p : List Int} (hp : ∀ n ∈ p, Wi n) (x : Int) (h : 0 ≤ x ∧ x < (p.length : Int)) : Wi (pf p x) := by
  obtain ⟨k, rfl⟩ := Int.eq_ofNat_of_zero_le h.1
  have hk : k < p.length := by omega
  rw [pf_get hk]
  exact hp _ (List.getElem_mem hk)

set_option maxRecDepth 100000 in
set_option maxHeartbeats 4000000 in
theorem rrenamed_any (p : List Int) (Ap : Option Addr) (cp : Nat) (w0 : World) (hp0 : SlI w0 none (.slice Ap p.length cp) p) (d : Nat) : ∀ (t : Tr) (v : Value) (w : World) (r : Option Nat), t.dep ≤ d → TrR w r v t → allN (fun x => 0 ≤ x ∧ x < (p.length : Int)) t → Fr none w0 w →
    Calls Tryz.prog 109 #[v, .slice Ap p.length cp] w (CopyP w (mapT (pf p) t)) := by
  have hφ : ∀ x, (0 ≤ x ∧ x < (p.length : Int)) → Wi x → Wi (pf p x) := fun x h _ => pf_wi hp0.2 x h
  induction d with
  | zero =>
    intro t v w r hd
    cases t
    simp [Tr.dep] at hd
  | succ d ih =>
    intro t v w r hd h hP F00
    obtain ⟨thr, nodes, inner⟩ := t
    obtain ⟨A, c, A', c', rfl, hthr, hn, hn2, hi2, hi3, hi4, hcell⟩ := h.open_
    have hdi : depL inner ≤ d := by simp only [Tr.dep] at hd; omega
    simp only [allN] at hP
    have hPn := Lib.hid hP.1
    have hPi := Lib.hid hP.2
    have hw := Lib.hid hn.2
    clear hd hP
    go_enter Tryz.func109, Tryz.ntmps109
    go_upto_region 2 with (fail)
    generalize hW : ((w.alloc _).alloc _).alloc _ = w1
    have hz : w1.heap.size = w.heap.size + 3 := by rw [← hW]; simp
    have F1 : Fr none w w1 := hW ▸ (((Fr.refl _ w).alloc _).alloc _).alloc _
    have b1 : TB w1 w.heap.size (.int .i64 thr) (.slice A nodes.length c) (.slice A' inner.length c') := by
      rw [← hW]; exact ((Below.heap_alloc _ _ _ (by simp <;> omega)).trans (Below.heap_alloc _ _ _ (by simp <;> omega))).trans (blk_new _ _)
    have b2 : TB w1 (w.heap.size + 1) (.int .i64 0) (.slice none 0 0) (.slice none 0 0) := by
      rw [← hW]; exact (Below.heap_alloc _ _ _ (by simp)).trans (blk_new_at (by simp) _)
    have b3 : TB w1 (w.heap.size + 2) (.int .i64 thr) (.slice none 0 0) (.slice none 0 0) := by
      rw [← hW]; exact blk_new_at (by simp) _
    clear hW
    obtain ⟨B2, hB2⟩ : ∃ B2, B2 = w.heap.size + 1 + 1 := ⟨_, rfl⟩
    rw [← hB2]
    rw [show w.heap.size + 2 = B2 by omega] at b3
    have hBa : B2 ≤ w.heap.size + 2 := by omega
    have hBb : w.heap.size + 2 ≤ B2 := by omega
    clear hB2
    have hn' := hn.fr (F1.mono (r := r))
    have R1 := b1.cell
    have l1 := blk_lt b1
    go_wp2_with fail
    go_loopw [7, 16] (fun _ s16 wr => ∃ (j : Nat) (A1 : Option Addr) (c1 : Nat), j ≤ nodes.length ∧ s16 = .int .i64 (j : Int) ∧ Fr none w wr ∧ w.heap.size + 3 ≤ wr.heap.size ∧ TB wr w.heap.size (.int .i64 thr) (.slice A nodes.length c) (.slice A' inner.length c') ∧ TB wr (w.heap.size + 1) (.int .i64 0) (.slice none 0 0) (.slice none 0 0) ∧
      TB wr (B2) (.int .i64 thr) (.slice A1 j c1) (.slice none 0 0) ∧ wr.ownsRow (w.heap.size + 3) 3 1 (.slice A1 j c1) j (((nodes.take j).map (pf p)).map (Value.int .i64))) (fun _ s16 _ => nodes.length - (intOf s16).toNat)
    case atStart => exact ⟨0, none, 0, Nat.zero_le _, rfl, F1, by omega, b1, b2, b3, World.ownsRow_nil _ _ _ _⟩
    case round =>
      clear b1 b2 b3 R1 l1 F1 hz hn'
      obtain ⟨j, A1, c1, hj, rfl, F, hz, b1, b2, b3, own⟩ := hrel
      obtain ⟨wz, hwz⟩ : ∃ wz : World, wz = wr := ⟨_, rfl⟩
      subst hwz
      by_cases hlt : j < nodes.length
      · obtain ⟨b, off, rfl, hb, hcj⟩ := (hn.fr (F.mono (r := r))).1.cellI j hlt
        have HT : Hid (nodes.take (j + 1) = nodes.take j ++ [nodes[j]]) := List.take_succ_eq_append_getElem hlt
        have hPj := Lib.hid (hPn.out _ (List.getElem_mem hlt))
        have hWj := Lib.hid (hw.out _ (List.getElem_mem hlt))
        generalize nodes[j] = x at *
        obtain ⟨x, rfl⟩ := Int.eq_ofNat_of_zero_le hPj.out.1
        have hxp : x < p.length := by have := hPj.out.2; omega
        obtain ⟨pb, po, rfl, hpb, hpx⟩ := (SlI.fr hp0 (F00.pure F)).1.cellI x hxp
        have HPF := Lib.hid (pf_get hxp)
        go_upto_region 5 with (fail)
        have R3 := b3.cell
        have Z3 := b3.free
        have l3 := blk_lt b3
        have b3d : TB wz.drew (B2) (.int .i64 thr) (.slice A1 j c1) (.slice none 0 0) := b3
        have own' := own.drew
        have hzd : w.heap.size + 3 ≤ wz.drew.heap.size := hz
        have F0z : Fr none w0 wz.drew := (F00.pure F).drew
        clear hcj
        have hpx : wz.drew.cell? ⟨pb, po + x, none⟩ = some (.int .i64 p[x]) := hpx
        go_region_law (first
          | (refine step_app_lit eiInt rfl _ _ rfl (w.heap.size + 3) A1 j c1 _ rfl own' 1 [.int .i64 p[x]] _ _ rfl (by simp) rfl (by simp [Value.oneCell']) (by omega) (by unfold maxLen; omega) (by omega) ?_; intro A5 c5 w5 own5 F5 nb5; have K5 := b3d.fr F5 (own_ne own' (by omega)); have R5 := K5.cell; have Z5 := K5.free))
        all_goals
          go_wp2_with fail
          have FS := Fr.set1 w5 ⟨B2, 1, none⟩ (.slice A5 (j + 1) c5)
          have og := own_blk_ge own'
          have hz5 := F5.size
          have hzS := FS.size
          have F14 : Fr none wz wz.drew := (Fr.refl none wz).drew
          have hz14 := F14.size
          go_roundw
          case rel =>
            refine ⟨j + 1, A5, c5, by omega, by go_num, ((F.pure F14).own F5 (fun q e => by have := og q e; omega)).own FS (by simp <;> omega), by omega, ((b1.fr F14 (by simp)).fr F5 (own_ne own' (by omega))).fr FS (by simp <;> omega), ((b2.fr F14 (by simp)).fr F5 (own_ne own' (by omega))).fr FS (by simp <;> omega), by simpa using K5.set1 (.slice A5 (j + 1) c5), ?_⟩
            rw [HT.out, List.map_append, List.map_append, List.map_singleton, HPF.out]
            exact own_fr own5 FS (by simp <;> omega)
          case measure => simp [intOf]; omega
      · obtain rfl : j = nodes.length := by omega
        rw [List.take_length] at own
        have sN : SlD wz (fun b => w.heap.size + 3 ≤ b ∧ b < wz.heap.size) 1 (.slice A1 nodes.length c1) ((nodes.map (pf p)).map (Value.int .i64)) := SlD.own_dn own
        have R1 := b1.cell
        have l1 := blk_lt b1
        clear own hn
        go_wp2_with fail
        go_loopw [33] (fun i wr => ∃ (k : Nat) (A2 : Option Addr) (c2 : Nat) (cells : List Value), k ≤ inner.length ∧ i = .int .i64 k ∧ Fr none w wr ∧ wz.heap.size ≤ wr.heap.size ∧ TB wr (w.heap.size + 1) (.int .i64 0) (.slice none 0 0) (.slice none 0 0) ∧ TB wr (B2) (.int .i64 thr) (.slice A1 nodes.length c1) (.slice A2 k c2) ∧ SlD wr (fun b => w.heap.size + 3 ≤ b ∧ b < wz.heap.size) 1 (.slice A1 nodes.length c1) ((nodes.map (pf p)).map (Value.int .i64)) ∧ wr.ownsRow wz.heap.size 31 3 (.slice A2 k c2) k cells ∧ TrsD wr (Dx wz.heap.size wr (.slice A2 k c2)) cells ((mapTL (pf p) inner).take k)) (fun i _ => inner.length - (intOf i).toNat)
        case atStart => exact ⟨0, none, 0, [], Nat.zero_le _, rfl, F, Nat.le_refl _, b2, b3, sN, World.ownsRow_nil _ _ _ _, by simp [TrsD]⟩
        case round =>
          clear F b1 b2 b3 R1 l1 sN
          obtain ⟨k, A2, c2, cells, hk, rfl, F, hwc, b2, b3, sN, own, hts⟩ := hrel
          by_cases hlt : k < inner.length
          · obtain ⟨gb, off, rfl, hb, hbr, hc⟩ := hcell (by omega)
            obtain ⟨x, y, z, g0, g1, g2, gt⟩ := hc k hlt
            obtain ⟨th, a1, m1, e1, a2, m2, e2, rfl, rfl, rfl⟩ := gt.shape
            have g0' := F.keep g0 (by simp)
            have g1' := F.keep g1 (by simp)
            have g2' := F.keep g2 (by simp)
            have hdd : (inner[k]).dep ≤ d := by have := depL_get inner k hlt; omega
            have gt' := (gt.fr (F.mono (r := r)))
            have htk : (mapTL (pf p) inner).take (k + 1) = (mapTL (pf p) inner).take k ++ [mapT (pf p) inner[k]] := by
              rw [mapTL_map, List.take_succ_eq_append_getElem (by simpa using hlt)]; simp
            have HTK := Lib.hid htk
            have hPk := allNL_get hPi.out k hlt
            have HPK := Lib.hid hPk
            clear g0 g1 g2 hc htk hPk
            go_upto_region 10 with (fail)
            generalize hW : wr.alloc _ = wq
            have Fq : Fr none wr wq := hW ▸ (Fr.refl none wr).alloc _
            have b5 : TB wq wr.heap.size (.int .i64 th) (.slice a1 m1 e1) (.slice a2 m2 e2) := by rw [← hW]; exact blk_new _ _
            have hzq := Fq.size
            have hzl : wr.heap.size < wq.heap.size := blk_lt b5
            have gq : TrR wq.drew r (.agg #[.int .i64 th, .slice a1 m1 e1, .slice a2 m2 e2]) inner[k] := (gt'.fr (Fq.mono (r := r))).fr (Fr.refl _ _).drew
            have K7 := b3.fr Fq (by simp)
            have R5 := b5.cell
            have R7 := K7.cell
            have Z7 := K7.free
            have l7 := blk_lt K7
            have ownq := own_fr own Fq (by simp)
            have F0q : Fr none w0 wq.drew := ((F00.pure F).pure Fq).drew
            clear hW g0' g1' g2' gt gt'
            go_region_law (first
              | (go_simp; go_at_call 109; refine (ih inner[k] _ _ r hdd (by exact gq) HPK.out F0q).mono ?_; rintro e w3 ⟨v3, rfl, hT3, F3'⟩; obtain ⟨th', a1', n1', e1', a2', n2', e2', rfl⟩ := hT3.shape; have F3' := ((Fr.refl none wq).drew).pure F3'; have T3x := K7.fr F3' (by simp); have R3 := T3x.cell; have Z3 := T3x.free; have own3 := own_fr ownq F3' (by simp); have hz3 := F3'.size; have hB3 : B2 < w3.heap.size := (by omega))
              | (refine step_app_lit eiTrust rfl _ _ rfl wz.heap.size A2 k c2 _ rfl own3 1 [.int .i64 th', .slice a1' n1' e1', .slice a2' n2' e2'] 31 _ rfl (by simp) rfl (by simp [Value.oneCell']) (by omega) (by unfold maxLen; omega) (by omega) ?_; intro A3 c3 w5 own5 F5 bl5; have T5 := T3x.fr F5 (own_ne own3 (by omega)); have R6 := T5.cell; have Z6 := T5.free))
            all_goals
              go_wp2_with fail
              have FS := Fr.set1 w5 ⟨B2, 2, none⟩ (.slice A3 (k + 1) c3)
              have og := own_blk_ge own3
              have ol := own.lt
              have hz5 := F5.size
              have hzS := FS.size
              go_roundw
              case rel =>
                have t1 := (TrsD.keep (dx_fr FS (by simp <;> omega)) _ _ (TrsD.keep (dx_app F5 bl5) _ _ (TrsD.keep (dx_fr F3' (by simp)) _ _ (TrsD.keep (dx_fr Fq (by simp)) _ _ hts))))
                have t3 := TrD.keep (dx_fr FS (by simp <;> omega)) _ _ (TrD.keep (dx_app F5 bl5) _ _ (TrD.keep (dn_dx (B := wz.heap.size) (v := .slice A2 k c2) (by simp; omega) (fun q hq => by have := (ol q hq).2; simp; omega)) _ _ hT3))
                refine ⟨k + 1, A3, c3, cells ++ [.int .i64 th', .slice a1' n1' e1', .slice a2' n2' e2'], by omega, by go_num, (((F.pure Fq).pure F3').own F5 (fun q e => by have := og q e; omega)).own FS (by simp <;> omega), by omega, (((b2.fr Fq (by simp)).fr F3' (by simp)).fr F5 (own_ne own3 (by omega))).fr FS (by simp <;> omega), T5.set2 _, ?_, own_fr own5 FS (by simp <;> omega), by rw [HTK.out]; exact TrsD.append t1 (by simp only [TrsD]; exact ⟨_, _, _, [], rfl, t3, rfl⟩)⟩
                exact (((sN.keep (fun q hq => ⟨hq, Fq.block q (by omega) (by simp)⟩)).keep (fun q hq => ⟨hq, F3'.block q (by omega) (by simp)⟩)).keep (fun q hq => ⟨hq, F5.block q (by omega) (fun e => by have := og q e.symm; omega)⟩)).keep (fun q hq => ⟨hq, FS.block q (by omega) (by simp; omega)⟩)
              case measure => simp [intOf]; omega
          · obtain rfl : k = inner.length := by omega
            have R7 := b3.cell
            have R2 := b2.cell
            have Z2 := b2.free
            have l7 := blk_lt b3
            have l2 := blk_lt b2
            go_wp2_with fail
            refine bodyPost_ret (v := .agg #[.int .i64 thr, .slice A1 nodes.length c1, .slice A2 inner.length c2]) (by simp [results, Tryz.results109, go_sem, R2]) rfl ?_
            have G := fr_fill3 wr (w.heap.size + 1) (.int .i64 thr) (.slice A1 nodes.length c1) (.slice A2 inner.length c2)
            have hll : (mapTL (pf p) inner).length = inner.length := by rw [mapTL_map]; simp
            rw [List.take_of_length_le (by omega)] at hts
            have hzG := G.size
            have hnl : (nodes.map (pf p)).length = nodes.length := by simp
            refine ⟨_, rfl, ?_, F.own G (by simp)⟩
            rw [mapT_mk]
            exact TrD.mk_ hthr (sN.keep (fun q hq => ⟨⟨by omega, by omega⟩, G.block q (by omega) (by simp; omega)⟩)) (fun y hy => by obtain ⟨x, hx, rfl⟩ := List.mem_map.1 hy; exact hφ x (hPn.out x hx) (hw.out x hx)) ((SlD.own_dn own).keep (fun q hq => ⟨⟨by have := hq.1; omega, by have := hq.2; omega⟩, G.block q hq.2 (by have := hq.1; simp; omega)⟩)) (by rw [hnl]; exact hn2) (by rw [hll]; exact hi2) (TrsD.keep (fun q hq => ⟨⟨by have := hq.1; omega, by have := hq.2.1; omega⟩, G.block q hq.2.1 (by have := hq.1; simp; omega)⟩) _ _ hts)
end Go.Proofs.YtoblhcieidljjaaGreatDoor

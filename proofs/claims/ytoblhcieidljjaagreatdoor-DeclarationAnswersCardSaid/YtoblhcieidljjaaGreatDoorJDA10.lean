/- Some texts of this claim, joined: contracts of the functions that it reaches, and plain laws. -/
import Derived.Test.YtoblhcieidljjaaGreatDoorJDA9
import Derived.Test.YtoblhcieidljjaaGreatDoorProg
import Derived.Test.YtoblhcieidljjaaGreatDoorJDA1
import Derived.StillTailTactics
import Derived.ArgAppend
import Derived.Deep.RegionHeld3

set_option linter.unusedSimpArgs false
set_option linter.unusedVariables false
/- Walks: trustquorummake.trust, Trust: trusts out of the tape. -/
namespace Go.Proofs.YtoblhcieidljjaaGreatDoor
open Go.RowKit

/-- What trust(t, n, d) makes. -/
def MadeP (w : World) (g n d : Nat) (e : Ending) (w' : World) : Prop :=
  ∃ v T, e = .returned v ∧ TrD w' (Dn w.heap.size w') v T ∧ T.dep ≤ d ∧ T.size ≤ sizeB d ∧ nodesIn n T ∧ SrcR 84 w' g ∧ Fr (some g) w w'

/-- The state of the trust that is being made, between the statements. -/
def Mid (w : World) (g n d : Nat) (A : Option Addr) (c : Nat) (l : List Int) (A2 : Option Addr) (c2 : Nat) (inner : List Tr) (wr : World) : Prop :=
  Fr (some g) w wr ∧ w.heap.size + 2 ≤ wr.heap.size ∧ SrcR 84 wr g ∧ TB wr w.heap.size (.int .i64 0) (.slice none 0 0) (.slice none 0 0) ∧
    TB wr (w.heap.size + 1) (.int .i64 0) (.slice A l.length c) (.slice A2 inner.length c2) ∧ SlD wr (Dn (w.heap.size + 2) wr) 1 (.slice A l.length c) (l.map (Value.int .i64)) ∧
    (∀ x ∈ l, 0 ≤ x ∧ x < (n : Int)) ∧ l.length ≤ 5 ∧
    (∃ cells, SlD wr (Dn (w.heap.size + 2) wr) 3 (.slice A2 inner.length c2) cells ∧ TrsD wr (Dn (w.heap.size + 2) wr) cells inner) ∧ (l ≠ [] ∨ inner ≠ []) ∧
    inner.length ≤ 3 ∧ depL inner ≤ d ∧ sizeL inner ≤ inner.length * sizeB d ∧ nodesInL n inner

set_option maxRecDepth 100000 in
set_option maxHeartbeats 800000 in
theorem mktrust_any (n : Nat) (hn1 : 1 ≤ n) (hn2 : n ≤ 100) (d : Nat) : ∀ (g : Nat) (w : World), 1 ≤ d → d ≤ 6 → SrcR 84 w g →
    Calls Tryz.prog 111 #[.pointer (some ⟨g, 0, none⟩), .int .i64 n, .int .i64 d] w (MadeP w g n d) := by
  induction d with
  | zero => intro g w h; omega
  | succ d ih =>
    intro g w _ hd6 S0
    have hg := S0.lt
    go_enter Tryz.func111, Tryz.ntmps111
    go_wp2_with fail
    generalize hW : (w.alloc _).alloc _ = w1
    have hz : w1.heap.size = w.heap.size + 2 := by rw [← hW]; simp
    have F1 : Fr none w w1 := hW ▸ ((Fr.refl _ w).alloc _).alloc _
    have b6 : TB w1 w.heap.size (.int .i64 0) (.slice none 0 0) (.slice none 0 0) := by
      rw [← hW]; exact (Below.heap_alloc _ _ _ (by simp)).trans (blk_new _ _)
    have b7 : TB w1 (w.heap.size + 1) (.int .i64 0) (.slice none 0 0) (.slice none 0 0) := by
      rw [← hW]; exact blk_new_at (by simp) _
    have S1 := S0.fr F1
    clear hW S0
    refine (tapeOrder_any n g _ (by omega) S1).mono ?_
    rintro e w2 ⟨ov, ol, rfl, hperm, hol, S2, F2⟩
    have hz2 := F2.size
    have b6 := b6.fr F2 (by simp; omega)
    have b7 := b7.fr F2 (by simp; omega)
    have F2 := (F1.mono (r := some g)).same F2
    clear S1 F1
    obtain ⟨A0, c0, rfl, p1, p2⟩ := hol.formI
    have hlen : ol.length = n := by rw [hperm.length_eq, ints_len]
    have HLEN := Lib.hid hlen
    have hrange : ∀ x ∈ ol, 0 ≤ x ∧ x < (n : Int) := fun x hx => by
      have := hperm.mem_iff.1 hx
      simp only [ints, List.mem_map, List.mem_range] at this
      obtain ⟨y, hy, rfl⟩ := this
      constructor <;> simp <;> omega
    clear hlen
    go_upto_region 3 with (fail)
    go_cut [8, 20, 21, 22] (fun _ s20 s21 s22 wr => ∃ (ks : List Int) (A : Option Addr) (c : Nat), s20 = .slice A ks.length c ∧ s21 = .int .i64 (ks.length : Nat) ∧ s22 = .int .i64 0 ∧ SlD wr (Dn (w.heap.size + 2) wr) 1 (.slice A ks.length c) (ks.map (Value.int .i64)) ∧ ks ≠ [] ∧ ks.length ≤ 5 ∧ (∀ x ∈ ks, 0 ≤ x ∧ x < (n : Int)) ∧
      Fr (some g) w wr ∧ w.heap.size + 2 ≤ wr.heap.size ∧ SrcR 84 wr g ∧ TB wr w.heap.size (.int .i64 0) (.slice none 0 0) (.slice none 0 0) ∧ TB wr (w.heap.size + 1) (.int .i64 0) (.slice none 0 0) (.slice none 0 0))
    case first =>
      go_wp2_with fail
      all_goals
        refine (tapeRange_any _ _ g _ (by omega) (by omega) (by omega) S2).mono ?_
        rintro e w3 ⟨x, rfl, x1, x2, S3, F3⟩
        obtain ⟨k, rfl⟩ := Int.eq_ofNat_of_zero_le (show 0 ≤ x by omega)
        have hz3 := F3.size
        have hkn : k ≤ ol.length := by have := HLEN.out; omega
        go_wp2_with fail
        go_meet
        have hk := (hol.keep (dn_mono (B := w.heap.size + 2) (by omega))).keep (dn_fr F3 (by simp; omega))
        have hkt := hk.take k hkn
        have hlt : (ol.take k).length = k := List.length_take_of_le hkn
        refine ⟨ol.take k, A0, c0, by rw [hlt], by rw [hlt], rfl, by rw [hlt]; simpa using hkt, fun h => by rw [h] at hlt; simp at hlt; omega, by rw [hlt]; omega, fun x hx => hrange x (List.mem_of_mem_take hx), F2.same F3, by omega, S3, b6.fr F3 (by simp; omega), b7.fr F3 (by simp; omega)⟩
    case rest =>
      clear b6 b7 S2 F2 hz2 hol hrange HLEN p1 p2 hperm ol A0 c0 hz
      obtain ⟨ks, A, c, rfl, rfl, rfl, hks, hkn, hk5, hkr, F, hs, S, K6, K7⟩ := hcut
      go_wp2_with fail
      have hks0 : SlD wc (fun b => w.heap.size + 2 ≤ b ∧ b < wc.heap.size) 1 (.slice A ks.length c) (ks.map (Value.int .i64)) := hks
      clear hks
      go_loopw [22] (fun i wr => ∃ (j : Nat) (A1 : Option Addr) (c1 : Nat), j ≤ ks.length ∧ i = .int .i64 j ∧ Fr (some g) w wr ∧ wc.heap.size ≤ wr.heap.size ∧ SrcR 84 wr g ∧ TB wr w.heap.size (.int .i64 0) (.slice none 0 0) (.slice none 0 0) ∧ TB wr (w.heap.size + 1) (.int .i64 0) (.slice A1 j c1) (.slice none 0 0) ∧
        wr.ownsRow wc.heap.size 3 1 (.slice A1 j c1) j ((ks.take j).map (Value.int .i64)) ∧ SlD wr (fun b => w.heap.size + 2 ≤ b ∧ b < wc.heap.size) 1 (.slice A ks.length c) (ks.map (Value.int .i64))) (fun i _ => ks.length - (intOf i).toNat)
      case atStart => exact ⟨0, none, 0, Nat.zero_le _, rfl, F, Nat.le_refl _, S, K6, K7, World.ownsRow_nil _ _ _ _, hks0⟩
      case round =>
        clear hks0 K6 K7 S F
        obtain ⟨j, A1, c1, hj, rfl, F, hs2, S, K6, K7, own, hks⟩ := hrel
        by_cases hlt : j < ks.length
        · obtain ⟨b, off, rfl, hb, hcj⟩ := hks.cellI j hlt
          have HT : Hid (ks.take (j + 1) = ks.take j ++ [ks[j]]) := List.take_succ_eq_append_getElem hlt
          have R7 := K7.cell
          have Z7 := K7.free
          go_wp2_with (at_builtin; refine app_lit eiInt rfl _ _ rfl wc.heap.size A1 j c1 _ rfl own 1 [.int .i64 ks[j]] _ _ rfl (by simp) rfl (by simp [Value.oneCell']) (by omega) (by unfold maxLen; omega) (by omega) ?_; intro A' c' w' own' F' bl'; have K7' := K7.fr F' (own_ne own (by omega)); have K6' := K6.fr F' (own_ne own (by omega)); have R7' := K7'.cell; have Z7' := K7'.free; have hz3 := F'.size; clear R7 Z7)
          have FS := Fr.set1 w' ⟨w.heap.size + 1, 1, none⟩ (.slice A' (j + 1) c')
          have og := own_blk_ge own
          go_roundw
          case rel =>
            refine ⟨j + 1, A', c', by omega, by go_num, (F.own F' (fun g e => by have := og g e; omega)).own FS (by simp), by have := FS.size; omega, (S.frs F' (fun b e => by have := og b e; omega)).frs FS (by simp; omega), K6'.fr FS (by simp), ?_, ?_, ?_⟩
            · simpa using K7'.set1 (.slice A' (j + 1) c')
            · rw [HT.out, List.map_append]; exact own_fr own' FS (by simp; omega)
            · exact (hks.keep (fun k hk => ⟨hk, F'.block k (by omega) (fun e => by have := og k e.symm; omega)⟩)).keep (fun k hk => ⟨hk, FS.block k (by omega) (by simp; omega)⟩)
          case measure => simp [intOf]; omega
        · obtain rfl : j = ks.length := by omega
          have hks' : SlD wr (Dn (w.heap.size + 2) wr) 1 (.slice A1 ks.length c1) (ks.map (Value.int .i64)) := by
            have := SlD.own_dn own
            rw [List.take_length] at this
            exact this.keep (dn_mono (by omega))
          clear own hks
          obtain ⟨wo, rfl⟩ : ∃ wo : World, wo = wr := ⟨_, rfl⟩
          go_upto_if 34 with (fail)
          go_cut [] (fun wr => ∃ (l : List Int) (A : Option Addr) (c : Nat) (A2 : Option Addr) (c2 : Nat) (inner : List Tr), Mid w g n d A c l A2 c2 inner wr)
          case first =>
            have hM : Mid w g n d A1 c1 ks none 0 [] wo := ⟨F, by omega, S, K6, K7, hks', hkr, hk5, ⟨[], SlD.nil _ _ _, by simp [TrsD]⟩, .inl hkn, by simp, by simp [depL], by simp [sizeL], by simp [nodesInL]⟩
            by_cases hd : d = 0
            · subst hd
              go_wp2_with fail
              go_meet
              exact ⟨ks, A1, c1, none, 0, [], hM⟩
            · clear hM
              go_wp2_with fail
              have FA := (Fr.refl none wo).alloc (.cells #[.int .i64 0, .int .i64 0, .int .i64 1, .int .i64 1, .int .i64 2, .int .i64 3] 3)
              have hlit : SlI (wo.alloc (.cells #[.int .i64 0, .int .i64 0, .int .i64 1, .int .i64 1, .int .i64 2, .int .i64 3] 3)) (some g) (.slice (some ⟨wo.heap.size, 0, none⟩) 6 6) [0, 0, 1, 1, 2, 3] :=
                ⟨SlD.lit_dm #[.int .i64 0, .int .i64 0, .int .i64 1, .int .i64 1, .int .i64 2, .int .i64 3] 3 6 1 rfl (by unfold maxLen; omega) (by simp; omega) (Fr.refl _ _), by intro x hx; simp at hx; constructor <;> omega⟩
              refine (tapePick_any _ [0, 0, 1, 1, 2, 3] g _ hlit (by simp) (by simp) (S.fr FA)).mono ?_
              rintro e wp ⟨x, rfl, hx, Sp, Fp⟩
              have hx0 : 0 ≤ x ∧ x ≤ 3 := by simp at hx; omega
              have FAp : Fr (some g) wo wp := FA.mono.same Fp
              have hzp := FAp.size
              have Kp6 := K6.fr FAp (by simp; omega)
              have Kp7 := K7.fr FAp (by simp; omega)
              have Fwp := F.same FAp
              have hksp := hks'.keep (dn_fr FAp (by simp; omega))
              clear hx hlit FA Fp FAp K6 K7 F S hks'
              have hksD : SlD wp (fun b => w.heap.size + 2 ≤ b ∧ b < wp.heap.size) 1 (.slice A1 ks.length c1) (ks.map (Value.int .i64)) := hksp
              clear hksp
              go_wp2_with fail
              go_loopw [11] (fun s11 wr => ∃ (i : Int) (inner : List Tr) (A2 : Option Addr) (c2 : Nat) (cells : List Value), s11 = .int .i64 i ∧ 0 ≤ i ∧ inner.length + i ≤ 3 ∧ Fr (some g) w wr ∧ wp.heap.size ≤ wr.heap.size ∧ SrcR 84 wr g ∧
                TB wr w.heap.size (.int .i64 0) (.slice none 0 0) (.slice none 0 0) ∧ TB wr (w.heap.size + 1) (.int .i64 0) (.slice A1 ks.length c1) (.slice A2 inner.length c2) ∧
                SlD wr (fun b => w.heap.size + 2 ≤ b ∧ b < wp.heap.size) 1 (.slice A1 ks.length c1) (ks.map (Value.int .i64)) ∧
                wr.ownsRow wp.heap.size 31 3 (.slice A2 inner.length c2) inner.length cells ∧ TrsD wr (Dx wp.heap.size wr (.slice A2 inner.length c2)) cells inner ∧
                depL inner ≤ d ∧ sizeL inner ≤ inner.length * sizeB d ∧ nodesInL n inner) (fun s11 _ => (intOf s11).toNat)
              case atStart => exact ⟨x, [], none, 0, [], rfl, hx0.1, by simp; omega, Fwp, Nat.le_refl _, Sp, Kp6, Kp7, hksD, World.ownsRow_nil _ _ _ _, by simp [TrsD], by simp [depL], by simp [sizeL], by simp [nodesInL]⟩
              case round =>
                clear hksD Kp6 Kp7 Sp Fwp
                obtain ⟨i, inner, A2, c2, cells, rfl, hi0, hi3, F, hs3, S, K6, K7, hks, own, hts, hdp, hsz, hni⟩ := hrel
                by_cases hi : 0 < i
                · have hsp : w.heap.size < wr.heap.size := by omega
                  have hsp1 : w.heap.size + 1 < wr.heap.size := by omega
                  have R7 := K7.cell
                  have Z7 := K7.free
                  have hwd : IntKind.i64.wrap (d : Int) = d := IntWalk.i64_in _ (by omega)
                  go_wp2_with fail
                  go_region_law (first
                    | (go_simp; go_at_call 111; refine (ih g _ (by omega) (by omega) (by exact S.drew)).mono ?_; rintro e w3 ⟨v3, T3, rfl, hT3, hd3, hs3', hn3, S3, F3⟩; obtain ⟨th, a1, n1, e1, a2, n2, e2, rfl⟩ := hT3.shape; have F3' := ((Fr.refl (some g) wr).drew).same F3; have T3x := K7.fr F3' (by simp; omega); have R3 := T3x.cell; have Z3 := T3x.free; have own3 := own_fr own F3' (by simp; omega); have hz3 := F3'.size; have hsp3 : w.heap.size < w3.heap.size := (by omega); have hsp4 : w.heap.size + 1 < w3.heap.size := (by omega))
                    | (refine step_app_lit eiTrust rfl _ _ rfl wp.heap.size A2 inner.length c2 _ rfl own3 1 [.int .i64 th, .slice a1 n1 e1, .slice a2 n2 e2] 31 _ rfl (by simp) rfl (by simp [Value.oneCell']) (by omega) (by unfold maxLen; omega) (by omega) ?_; intro A3 c3 w5 own5 F5 bl5; have T5 := T3x.fr F5 (own_ne own3 (by omega)); have R6 := T5.cell; have Z6 := T5.free))
                  all_goals
                    go_wp2_with fail
                    have FS := Fr.set1 w5 ⟨w.heap.size + 1, 2, none⟩ (.slice A3 (inner.length + 1) c3)
                    have og := own_blk_ge own3
                    have ol := own.lt
                    have hz5 := F5.size
                    have hzS := FS.size
                    go_roundw
                    case rel =>
                      have t1 := (TrsD.keep (dx_fr FS (by simp; omega)) _ _ (TrsD.keep (dx_app F5 bl5) _ _ (TrsD.keep (dx_fr F3' (by simp; omega)) _ _ hts)))
                      have t2 := TrD.keep (dx_fr FS (by simp; omega)) _ _ (TrD.keep (dx_app F5 bl5) _ _ (TrD.keep (dn_dx (B := wp.heap.size) (v := .slice A2 inner.length c2) (by exact hs3) (fun q hq => (ol q hq).2)) _ _ hT3))
                      have hln : (inner ++ [T3]).length = inner.length + 1 := by simp
                      refine ⟨i - 1, inner ++ [T3], A3, c3, cells ++ [.int .i64 th, .slice a1 n1 e1, .slice a2 n2 e2], by go_num, by omega, by rw [hln]; omega, ((F.same F3').own F5 (fun q e => by have := og q e; omega)).own FS (by simp), by omega, (S3.frs F5 (fun q e => by have := og q e; omega)).frs FS (by simp; omega), ((K6.fr F3' (by simp; omega)).fr F5 (own_ne own3 (by omega))).fr FS (by simp), by rw [hln]; exact T5.set2 _, ?_, by rw [hln]; exact own_fr own5 FS (by simp; omega), by rw [hln]; exact TrsD.append t1 (by simp only [TrsD]; exact ⟨_, _, _, [], rfl, t2, rfl⟩), ?_, ?_, nodesInL_append n _ _ hni (by simp only [nodesInL]; exact ⟨hn3, trivial⟩)⟩
                      · exact ((hks.keep (fun k hk => ⟨hk, F3'.block k (by omega) (by simp; omega)⟩)).keep (fun k hk => ⟨hk, F5.block k (by omega) (fun e => by have := og k e.symm; omega)⟩)).keep (fun k hk => ⟨hk, FS.block k (by omega) (by simp; omega)⟩)
                      · rw [depL_append]; simp only [depL]; omega
                      · rw [sizeL_append, hln, Nat.succ_mul]; simp only [sizeL]; omega
                    case measure => simp [intOf]; omega
                · have hM : Mid w g n d A1 c1 ks A2 c2 inner wr := ⟨F, by omega, S, K6, K7, hks.keep (fun k hk => ⟨⟨hk.1, by omega⟩, rfl⟩), hkr, hk5, ⟨cells, (SlD.own_dn own).keep (dn_mono (by omega)), TrsD.keep (fun k hk => ⟨⟨by have := hk.1; omega, hk.2.1⟩, rfl⟩) _ _ hts⟩, .inl hkn, by omega, hdp, hsz, hni⟩
                  have R7 := K7.cell
                  have Z7 := K7.free
                  by_cases hin : inner = []
                  · subst hin
                    have h0 : decide ((0 : Int) < ((([] : List Tr).length : Nat) : Int)) = false := by decide
                    go_wp2_with fail
                    go_meet
                    exact ⟨ks, A1, c1, A2, c2, [], hM⟩
                  · have hinl : 0 < inner.length := List.length_pos_iff.2 hin
                    clear hM
                    go_wp2_with fail
                    refine (tapeN_any 3 g _ (by omega) (by omega) S).mono ?_
                    rintro e w3 ⟨x, rfl, x1, x2, S3, F3⟩
                    have hz3 := F3.size
                    have K6' := K6.fr F3 (by simp; omega)
                    have K7' := K7.fr F3 (by simp; omega)
                    have hM : Mid w g n d A1 c1 ks A2 c2 inner w3 := ⟨F.same F3, by omega, S3, K6', K7', (hks.keep (fun k hk => ⟨(⟨hk.1, by omega⟩ : Dn (w.heap.size + 2) wr k), rfl⟩)).keep (dn_fr F3 (by simp; omega)), hkr, hk5,
                      ⟨cells, ((SlD.own_dn own).keep (dn_mono (by omega))).keep (dn_fr F3 (by simp; omega)), TrsD.keep (dn_fr F3 (by simp; omega)) _ _ (TrsD.keep (fun k hk => ⟨(⟨by have := hk.1; omega, hk.2.1⟩ : Dn (w.heap.size + 2) wr k), rfl⟩) _ _ hts)⟩, .inl hkn, by omega, hdp, hsz, hni⟩
                    have R7' := K7'.cell
                    have Z7' := K7'.free
                    clear R7 Z7 K6 K7 hks own hts F S S3 F3 K6'
                    by_cases hx : x = 0
                    · subst hx
                      go_wp2_with fail
                      go_meet
                      obtain ⟨m1, m2, m3, m4, m5, m6, m7, m8, ⟨cells', m9, m10⟩, m11, m12, m13, m14, m15⟩ := hM
                      have FS := Fr.set1 w3 ⟨w.heap.size + 1, 1, none⟩ (.slice none 0 0)
                      have hzS := FS.size
                      exact ⟨[], none, 0, A2, c2, inner, m1.own FS (by simp), by omega, m3.frs FS (by simp; omega), m4.fr FS (by simp), m5.set1 _, SlD.nil _ _ _, by simp, by simp, ⟨cells', m9.keep (dn_fr FS (by simp)), TrsD.keep (dn_fr FS (by simp)) _ _ m10⟩, .inr hin, m12, m13, m14, m15⟩
                    · have hx0 : (x == 0) = false := by rw [beq_eq_false_iff_ne]; exact hx
                      go_wp2_with fail
                      go_meet
                      exact ⟨ks, A1, c1, A2, c2, inner, hM⟩
          case rest =>
            obtain ⟨l, A, c, A2, c2, inner, hM⟩ := hcut
            clear F S K6 K7 hks' hkr hk5 hkn
            obtain ⟨F, hs, S, K6, K7, hk, hkr, hk5, ⟨cells, hc2, hts⟩, hne, hi3, hdp, hsz, hni⟩ := hM
            have hlen1 : 1 ≤ l.length + inner.length := by
              rcases hne with h | h
              · have := List.length_pos_iff.2 h; omega
              · have := List.length_pos_iff.2 h; omega
            have R7 := K7.cell
            have Z7 := K7.free
            go_wp2_with fail
            refine (tapeRange_any _ _ g _ (by omega) (by omega) (by omega) S).mono ?_
            rintro e w3 ⟨th, rfl, x1, x2, S3, F3⟩
            have hz3 := F3.size
            have K6' := K6.fr F3 (by simp; omega)
            have K7' := K7.fr F3 (by simp; omega)
            have R7' := K7'.cell
            have Z7' := K7'.free
            have R6' := K6'.cell
            have Z6' := K6'.free
            clear R7 Z7
            go_wp2_with fail
            refine bodyPost_ret (v := .agg #[.int .i64 th, .slice A l.length c, .slice A2 inner.length c2]) (by simp [results, Tryz.results111, go_sem, R6']) rfl ?_
            have hk3 := hk.keep (dn_fr F3 (by simp; omega))
            have hc3 := hc2.keep (dn_fr F3 (by simp; omega))
            have ht3 := TrsD.keep (dn_fr F3 (by simp; omega)) _ _ hts
            have F := F.same F3
            clear hk hc2 hts F3 R7' Z7' R6' Z6' K6' K7' K6 K7
            have G0 := Fr.set1 w3 ⟨w.heap.size + 1, 0, none⟩ (.int .i64 th)
            generalize hv0 : w3.setCell _ _ = v0 at *
            have G1 := Fr.set1 v0 ⟨w.heap.size, 0, none⟩ (.int .i64 th)
            generalize hv1 : v0.setCell _ _ = v1 at *
            have G2 := Fr.set1 v1 ⟨w.heap.size, 1, none⟩ (.slice A l.length c)
            generalize hv2 : v1.setCell _ _ = v2 at *
            have G3 := Fr.set1 v2 ⟨w.heap.size, 2, none⟩ (.slice A2 inner.length c2)
            generalize hv3 : v2.setCell _ _ = v3 at *
            have GG : Fr (some (w.heap.size + 1)) w3 v0 := G0
            have hkk : ∀ k, Dn (w.heap.size + 2) w3 k → Dn w.heap.size v3 k ∧ v3.heap[k]? = w3.heap[k]? := fun k hk => by
              obtain ⟨k0, e0⟩ := dn_fr (B := w.heap.size + 2) G0 (by simp) k hk
              obtain ⟨k1, e1⟩ := dn_fr (B := w.heap.size + 2) G1 (by simp) k k0
              obtain ⟨k2, e2⟩ := dn_fr (B := w.heap.size + 2) G2 (by simp) k k1
              obtain ⟨k3, e3⟩ := dn_fr (B := w.heap.size + 2) G3 (by simp) k k2
              exact ⟨⟨by have := k3.1; omega, k3.2⟩, by rw [e3, e2, e1, e0]⟩
            have SS := (((S3.frs G0 (by simp; omega)).frs G1 (by simp; omega)).frs G2 (by simp; omega)).frs G3 (by simp; omega)
            have FF := (((F.own G0 (by simp)).own G1 (by simp)).own G2 (by simp)).own G3 (by simp)
            have hsb : sizeL inner ≤ 3 * sizeB d := Nat.le_trans hsz (Nat.mul_le_mul_right _ hi3)
            refine ⟨_, .mk th l inner, rfl, TrD.mk_ (by constructor <;> omega) (hk3.keep hkk) (fun x hx => by have := hkr x hx; constructor <;> omega) (hc3.keep hkk) (by omega) (by omega) (TrsD.keep hkk _ _ ht3), ?_, ?_, ?_, SS, FF⟩
            · simp only [Tr.dep]; omega
            · simp only [Tr.size, sizeB]; omega
            · simp only [nodesIn]; exact ⟨hkr, hni⟩
/-- What Trust(t, n, d) makes: a valid trust over nodes below n. -/
def GenP (w : World) (g n d : Nat) (e : Ending) (w' : World) : Prop :=
  ∃ v T, e = .returned v ∧ TrD w' (Dn w.heap.size w') v T ∧ validE T = 0 ∧ T.dep ≤ d ∧ nodesIn n T ∧ SrcR 84 w' g ∧ Fr (some g) w w'

theorem sizeB_le : ∀ d, d ≤ 6 → sizeB d ≤ 3000 := by
  intro d hd
  have : d = 0 ∨ d = 1 ∨ d = 2 ∨ d = 3 ∨ d = 4 ∨ d = 5 ∨ d = 6 := by omega
  rcases this with rfl | rfl | rfl | rfl | rfl | rfl | rfl <;> simp [sizeB]

set_option maxRecDepth 100000 in
set_option maxHeartbeats 2000000 in
theorem mkTrust_any (n d g : Nat) (w : World) (hn1 : 1 ≤ n) (hn2 : n ≤ 10) (hd1 : 1 ≤ d) (hd6 : d ≤ 6) (S0 : SrcR 84 w g) :
    Calls Tryz.prog 58 #[.pointer (some ⟨g, 0, none⟩), .int .i64 n, .int .i64 d] w (GenP w g n d) := by
  have hg := S0.lt
  go_enter Tryz.func58, Tryz.ntmps58
  go_wp2_with fail
  generalize hW : w.alloc _ = w1
  have hz : w1.heap.size = w.heap.size + 1 := by rw [← hW]; simp
  have F1 : Fr none w w1 := hW ▸ ((Fr.refl _ w).alloc _)
  have b6 : TB w1 w.heap.size (.int .i64 0) (.slice none 0 0) (.slice none 0 0) := by
    rw [← hW]; exact blk_new _ _
  have S1 := S0.fr F1
  clear hW S0
  refine (mktrust_any n hn1 (by omega) d g _ hd1 hd6 S1).mono ?_
  rintro e w2 ⟨v, T, rfl, hT, hdp, hsz, hni, S2, F2⟩
  obtain ⟨th, A1, n1, c1, A2, n2, c2, rfl⟩ := hT.shape
  have hz2 := F2.size
  have b6 := b6.fr F2 (by simp; omega)
  have F2 := (F1.mono (r := some g)).same F2
  have hlt1 : w.heap.size < w2.heap.size := by omega
  have hT := TrD.keep (dn_mono (B := w.heap.size + 1) (by omega)) _ _ hT
  clear S1 F1
  go_wp2_with fail
  generalize hW : w2.alloc _ = w3
  have F23 : Fr none w2 w3 := hW ▸ ((Fr.refl _ w2).alloc _)
  have hz3 : w3.heap.size = w2.heap.size + 1 := by rw [← hW]; simp
  have b7 : TB w3 w2.heap.size (.int .i64 th) (.slice A1 n1 c1) (.slice A2 n2 c2) := by rw [← hW]; exact blk_new _ _
  have b6 := b6.fr F23 (by simp)
  have hT := TrD.keep (dn_fr F23 (by simp)) _ _ hT
  have S3 := S2.fr F23
  have F3 := F2.pure F23
  have hsb := sizeB_le d hd6
  clear hW S2 F2 F23
  have hT0 : TrR w3 none (.agg #[.int .i64 th, .slice A1 n1 c1, .slice A2 n2 c2]) T := TrD.keep (dn_dm (B := w.heap.size + 1) (by simp)) _ _ hT
  refine (rvalidT_any T _ _ none (by omega) hT0).mono ?_
  rintro e w4 ⟨rfl, F4⟩
  have hz4 := F4.size
  have b6 := b6.fr F4 (by simp)
  have b7 := b7.fr F4 (by simp)
  have hT := TrD.keep (dn_fr F4 (by simp)) _ _ hT
  have S4 := S3.fr F4
  have F4 := F3.pure F4
  clear hT0 S3 F3
  have R6 := b6.cell
  have Z6 := b6.free
  have R7 := b7.cell
  by_cases hv : validE T = 0
  · have hv0 : (validE T != 0) = false := by rw [bne_eq_false_iff_eq]; exact hv
    have HV := Lib.hid hv
    clear hv
    go_wp2_with fail
    refine bodyPost_ret (v := .agg #[.int .i64 th, .slice A1 n1 c1, .slice A2 n2 c2]) (by simp [results, Tryz.results58, go_sem, R6]) rfl ?_
    have G := fr_fill3 w4 w.heap.size (.int .i64 th) (.slice A1 n1 c1) (.slice A2 n2 c2)
    exact ⟨_, T, rfl, TrD.keep (dn_mono (by omega)) _ _ (TrD.keep (dn_fr G (by simp)) _ _ hT), HV.out, hdp, hni, S4.frs G (by simp; omega), F4.own G (by simp)⟩
  · have hv0 : (validE T != 0) = true := by rw [bne_iff_ne]; exact hv
    clear hv
    go_wp2_with fail
    refine (tapeN_any n g _ (by omega) (by omega) S4).mono ?_
    rintro e w5 ⟨x, rfl, x1, x2, S5, F5⟩
    have hz5 := F5.size
    have b6' := b6.fr F5 (by simp; omega)
    have R6' := b6'.cell
    have Z6' := b6'.free
    have hlt5 : w.heap.size < w5.heap.size := by omega
    clear R6 Z6 R7
    go_wp2_with fail
    refine bodyPost_ret (v := .agg #[.int .i64 1, .slice (some ⟨w5.heap.size, 0, none⟩) 1 1, .slice none 0 0]) (by simp [results, Tryz.results58, go_sem, R6', hlt5]) rfl ?_
    have G := fr_fill3 w5 w.heap.size (.int .i64 1) (.slice (some ⟨w5.heap.size, 0, none⟩) 1 1) (.slice none 0 0)
    generalize hw6 : World.setCell (World.setCell (World.setCell w5 _ _) _ _) _ _ = w6 at *
    have hz6 : w6.heap.size = w5.heap.size := by rw [← hw6]; simp [World.setCell]
    rw [← hz6]
    have hA := (Fr.refl none w6).alloc (.cells #[.int .i64 x] 3)
    refine ⟨_, .mk 1 [x] [], rfl, TrD.mk_ (by constructor <;> omega) (SlD.lit_dn #[.int .i64 x] 3 1 1 w.heap.size rfl (by unfold maxLen; omega) (by omega) (Fr.refl none _)) (by intro y hy; simp at hy; constructor <;> omega) (SlD.nil _ _ _) (by simp) (by simp) (by simp [TrsD]), validE_flat x x1 (by omega), by simp [Tr.dep, depL]; omega, by simp only [nodesIn, nodesInL]; exact ⟨by intro y hy; simp at hy; omega, trivial⟩, (S5.frs G (by simp; omega)).fr hA, ((F4.same F5).own G (by simp)).pure hA⟩
end Go.Proofs.YtoblhcieidljjaaGreatDoor

/- Walks: the reference's order of trusts, has, with. -/
namespace Go.Proofs.YtoblhcieidljjaaGreatDoor
open Go.RowKit

theorem cmpNs_end : ∀ (k : Nat) (a b : List Int), k ≤ a.length → k ≤ b.length → (a.length ≤ k ∨ b.length ≤ k) → cmpNs (a.drop k) (b.drop k) = sgnI a.length b.length := by
  intro k a b h1 h2 h3
  have e1 : a.length = k + (a.drop k).length := by simp; omega
  have e2 : b.length = k + (b.drop k).length := by simp; omega
  generalize a.drop k = x at *
  generalize b.drop k = y at *
  unfold sgnI
  cases x with
  | nil =>
    cases y with
    | nil => simp at e1 e2; simp [cmpNs, e1, e2]
    | cons y s => simp at e1 e2; rw [if_pos (by omega)]; simp [cmpNs]
  | cons x r =>
    cases y with
    | nil => simp at e1 e2; rw [if_neg (by omega), if_pos (by omega)]; simp [cmpNs]
    | cons y s => simp at e1 e2; omega
theorem cmpTs_end : ∀ (k : Nat) (a b : List Tr), k ≤ a.length → k ≤ b.length → (a.length ≤ k ∨ b.length ≤ k) → cmpTs (a.drop k) (b.drop k) = sgnI a.length b.length := by
  intro k a b h1 h2 h3
  have e1 : a.length = k + (a.drop k).length := by simp; omega
  have e2 : b.length = k + (b.drop k).length := by simp; omega
  generalize a.drop k = x at *
  generalize b.drop k = y at *
  unfold sgnI
  cases x with
  | nil =>
    cases y with
    | nil => simp at e1 e2; simp [cmpTs, e1, e2]
    | cons y s => simp at e1 e2; rw [if_pos (by omega)]; simp [cmpTs]
  | cons x r =>
    cases y with
    | nil => simp at e1 e2; rw [if_neg (by omega), if_pos (by omega)]; simp [cmpTs]
    | cons y s => simp at e1 e2; omega

end Go.Proofs.YtoblhcieidljjaaGreatDoor

/- Walks: the reference's with: one trust more, if none is equal to it. -/
namespace Go.Proofs.YtoblhcieidljjaaGreatDoor
open Go.RowKit

/-- The blocks D, and those laid between w and w'. -/
def Dw (D : Nat → Prop) (w w' : World) : Nat → Prop := fun b => D b ∨ (w.heap.size ≤ b ∧ b < w'.heap.size)
theorem dw_in {D : Nat → Prop} {w w' : World} {r : Option Nat} (hD : ∀ b, D b → b < w.heap.size ∧ r ≠ some b) (F : Fr r w w') : ∀ k, D k → Dw D w w' k ∧ w'.heap[k]? = w.heap[k]? := fun k hk =>
  ⟨.inl hk, F.block k (hD k hk).1 (fun e => (hD k hk).2 e.symm)⟩

theorem step_tm {P : Program} {ops : Array Oper} {o : Oper} {a : Act} {tm : Array Value} {w : World} {K : Act → World → Prop} {Q : Exit → Act → World → Prop} {E' : Prop} (htm : a.tmps = tm) (h : if Region.wanted o (yielded ops a.tmps) = true then Oper.wp P o a w K Q else E') :
    if Region.wanted o (yielded ops tm) = true then Oper.wp P o a w K Q else E' := htm ▸ h
/-- append of a literal that has just been laid, to a slice without room. -/
theorem step_app_full {P : Program} {t e : TypeId} {size bytes : Nat} (E : EInfo P t e size bytes) {w : World} {ops : Array Oper} {o : Oper} {a : Act} {K : Act → World → Prop} {Q : Exit → Act → World → Prop} {E' : Prop} (hgd : o.guard = none) (s x : Operand)
    (ho : o.op = .call { callee := .builtin .append, args := #[s, x], argTypes := #[t, t] })
    (b : Addr) (n : Nat) (olds : List Value) (hs : a.eval s = .slice (some b) n n) (hlo : olds.length = n * size) (holds : ∀ j u, olds[j]? = some u → w.cell? (b.add j) = some u)
    (m : Nat) (cs : List Value) (e' : TypeId) (bk : Nat) (hx : a.eval x = .slice (some ⟨bk, 0, none⟩) m m) (hbk : w.heap.size = bk) (hm : 0 < m) (hcs : cs.length = m * size) (hb : (n + m) * bytes ≤ 140737488355328) (h63 : n + m ≤ maxLen)
    (h : ∀ A' c' w', w'.ownsRow w.heap.size e size (.slice A' (n + m) c') (n + m) (olds ++ cs) → Fr none w w' → K (a.put o.dst (.slice A' (n + m) c')) w') :
    if Region.wanted o (yielded ops a.tmps) = true then Oper.wp P o a (w.alloc (.cells cs.toArray e')) K Q else E' := by
  have hw : Region.wanted o (yielded ops a.tmps) = true := by simp [Region.wanted, hgd]
  rw [if_pos hw]
  subst hbk
  obtain ⟨i, z, ht, hi, hz, hsize, hby, hzs, hsz⟩ := E
  have FA := (Fr.refl none w).alloc (.cells cs.toArray e')
  have hnews : ∀ j u, cs[j]? = some u → (w.alloc (.cells cs.toArray e')).cell? ((⟨w.heap.size, 0, none⟩ : Addr).add j) = some u := fun j u hu => by
    rw [Addr.add_lit, Nat.zero_add, cell_new]
    simpa using hu
  obtain ⟨v', w', hrun, hown, hgr⟩ := run_append_arg_grows (P := P) (w := w.alloc (.cells cs.toArray e')) t o.type e i z size bytes ht hi hz hsize hby hzs hsz b n n olds hlo (fun j u hu => FA.keep (holds j u hu) (by simp)) ⟨w.heap.size, 0, none⟩ m m cs hcs hnews (by omega) h63 hb
  unfold Oper.wp execOp
  simp only [ho, resolve, invoke, builtin, Sem.run_bind, Sem.run_pure, Result.andThen_ok, List.map_toArray, List.map_cons, List.map_nil, hs, hx, hrun]
  have hown' : w'.ownsRow w.heap.size e size v' (n + m) (olds ++ cs) := by
    refine ⟨hown.1, ?_⟩
    rcases hown.2 with h0 | ⟨g, cap, cur, hv, hg, rest⟩
    · exact .inl h0
    · exact .inr ⟨g, cap, cur, hv, by simp at hg; omega, rest⟩
  have hfr : Fr none w w' := FA.pure hgr
  rcases hown'.2 with ⟨rfl, e0⟩ | ⟨g, cap, cur, rfl, _⟩
  · omega
  · exact h _ _ w' hown' hfr

/-- What with hands back. -/
def WithP (w : World) (D : Nat → Prop) (l : List Tr) (t : Tr) (e : Ending) (w' : World) : Prop :=
  ∃ (A : Option Addr) (c : Nat) (cells : List Value), e = .returned (.slice A (withT l t).length c) ∧ (A = none → c = 0) ∧ SlD w' (Dw D w w') 3 (.slice A (withT l t).length c) cells ∧ TrsD w' (Dw D w w') cells (withT l t) ∧ Fr none w w'

end Go.Proofs.YtoblhcieidljjaaGreatDoor

/- Walks: the reference's count and merged. -/
namespace Go.Proofs.YtoblhcieidljjaaGreatDoor
open Go.RowKit

theorem size_mk' (thr : Int) (n : List Int) (i : List Tr) : (Tr.mk thr n i).size = n.length + wgt i := by simp only [Tr.size, wgt]; omega
theorem TrD.drew' {w : World} {D : Nat → Prop} {v : Value} {t : Tr} (h : TrD w D v t) : TrD w.drew D v t := TrD.keep (w := w) (w' := w.drew) (fun q (hq : D q) => ⟨hq, (rfl : w.drew.heap[q]? = w.heap[q]?)⟩) t v h
theorem own_base {w : World} {b b' : Nat} {e : TypeId} {size n : Nat} {v : Value} {xs : List Value} (h : w.ownsRow b e size v n xs) (hb : b' ≤ b) : w.ownsRow b' e size v n xs := by
  refine ⟨h.1, ?_⟩
  rcases h.2 with h0 | ⟨g, cap, cur, hv, hg, rest⟩
  · exact .inl h0
  · exact .inr ⟨g, cap, cur, hv, by omega, rest⟩
theorem own_ne_fr {w w' : World} {base : Nat} {e : TypeId} {size n g : Nat} {v : Value} {xs : List Value} (h : w.ownsRow base e size v n xs) (f : Fr (some g) w w') (hr : v.ownBlock ≠ some g) : w'.ownsRow base e size v n xs := by
  refine h.kept f ?_
  cases hv : v.ownBlock with
  | none => exact .inl rfl
  | some k => exact .inr fun e => hr (hv.trans e)
theorem tb_fill3 {w : World} {b : Nat} {z0 z1 z2 : Value} (h : TB w b z0 z1 z2) (x0 x1 x2 : Value) : TB (((w.setCell ⟨b, 0, none⟩ x0).setCell ⟨b, 1, none⟩ x1).setCell ⟨b, 2, none⟩ x2) b x0 x1 x2 := by
  have := blk_set (blk_set (blk_set h 0 x0) 1 x1) 2 x2
  simpa [TB] using this
/-- A trust that is being made: its block, its own row of nodes. -/
def OutI (w1 : World) (thr : Int) (nodes : List Int) (s : Value) (wr : World) : Prop := ∃ (B : Nat) (A5 : Option Addr) (c5 : Nat), s = .pointer (some ⟨B, 0, none⟩) ∧
  Fr none w1 wr ∧ w1.heap.size ≤ B ∧ TB wr B (.int .i64 thr) (.slice A5 nodes.length c5) (.slice none 0 0) ∧ wr.ownsRow w1.heap.size 3 1 (.slice A5 nodes.length c5) nodes.length (nodes.map (Value.int .i64)) ∧ (Value.slice A5 nodes.length c5).ownBlock ≠ some B
theorem own_lit0' {w : World} {e : TypeId} {size B g : Nat} (h : w.heap[g]? = some (.cells #[] e (0, 0))) (hB : B ≤ g) : w.ownsRow B e size (.slice (some ⟨g, 0, none⟩) 0 0) 0 [] :=
  ⟨by simp, .inr ⟨g, 0, #[], rfl, hB, h, Nat.le_refl _, by unfold maxLen; omega, by simp, by simp⟩⟩
theorem step_app_copy {P : Program} {t e : TypeId} {size bytes : Nat} (E : EInfo P t e size bytes) {w : World} {ops : Array Oper} {o : Oper} {a : Act} {K : Act → World → Prop} {Q : Exit → Act → World → Prop} {E' : Prop} (hgd : o.guard = none) (s x : Operand)
    (ho : o.op = .call { callee := .builtin .append, args := #[s, x], argTypes := #[t, t] })
    (g : Nat) (hs : a.eval s = .slice (some ⟨g, 0, none⟩) 0 0) (hg : w.heap[g]? = some (.cells #[] e (0, 0)))
    (B : Option Addr) (m d : Nat) (news : List Value) (hx : a.eval x = .slice B m d) (hr : SlD w (fun _ => True) size (.slice B m d) news) (h1 : ∀ u ∈ news, u.oneCell' = true) (hb : m * bytes ≤ 140737488355328) (h63 : m ≤ maxLen)
    (h : ∀ A' c' w', w'.ownsRow g e size (.slice A' m c') m news → Fr (some g) w w' → NewOr w.heap.size (.slice (some ⟨g, 0, none⟩) 0 0) (.slice A' m c') → K (a.put o.dst (.slice A' m c')) w') :
    if Region.wanted o (yielded ops a.tmps) = true then Oper.wp P o a w K Q else E' := by
  have hw : Region.wanted o (yielded ops a.tmps) = true := by simp [Region.wanted, hgd]
  rw [if_pos hw]
  have hgl := blk_lt hg
  obtain ⟨A', c', w', hr, h2, h3, h4⟩ := app_run (P := P) (ty := o.type) E w g (some ⟨g, 0, none⟩) 0 0 [] (own_lit0' hg (Nat.le_refl _)) B m d news hr h1 (by rw [Nat.zero_add]; exact hb) (by omega) (by omega)
  rw [Nat.zero_add] at hr h2 h4
  unfold Oper.wp execOp
  simp only [ho, resolve, invoke, builtin, Sem.run_bind, Sem.run_pure, Result.andThen_ok, List.map_toArray, List.map_cons, List.map_nil, hs, hx, hr]
  refine h A' c' w' (by simpa using h2) h3 ?_
  rcases h4 with bl' | bl'
  · exact .inl bl'
  · exact .inr ⟨_, bl', Nat.le_refl _⟩

/-- The blocks D, and those laid since w1 but for B and the row of v. -/
def Dv (D : Nat → Prop) (w1 wr : World) (B : Nat) (v : Value) : Nat → Prop := fun b => D b ∨ (w1.heap.size ≤ b ∧ b < wr.heap.size ∧ b ≠ B ∧ v.ownBlock ≠ some b)
/-- The trust that is being made, with its row of nodes and its inner trusts. -/
def MrgI (D : Nat → Prop) (w1 : World) (thr : Int) (B : Nat) (n : List Int) (i : List Tr) (A5 : Option Addr) (c5 : Nat) (A6 : Option Addr) (c6 : Nat) (wr : World) : Prop :=
  Fr none w1 wr ∧ w1.heap.size ≤ B ∧ TB wr B (.int .i64 thr) (.slice A5 n.length c5) (.slice A6 i.length c6) ∧ wr.ownsRow w1.heap.size 3 1 (.slice A5 n.length c5) n.length (n.map (Value.int .i64)) ∧ (Value.slice A5 n.length c5).ownBlock ≠ some B ∧ (∀ x ∈ n, Wi x) ∧ (A6 = none → c6 = 0) ∧
    ∃ cells, SlD wr (Dv D w1 wr B (.slice A5 n.length c5)) 3 (.slice A6 i.length c6) cells ∧ TrsD wr (Dv D w1 wr B (.slice A5 n.length c5)) cells i
theorem MrgI.pure {D : Nat → Prop} {w1 wr w' : World} {thr : Int} {B : Nat} {n : List Int} {i : List Tr} {A5 : Option Addr} {c5 : Nat} {A6 : Option Addr} {c6 : Nat} (hD : ∀ b, D b → b < w1.heap.size) (h : MrgI D w1 thr B n i A5 c5 A6 c6 wr) (F : Fr none wr w') : MrgI D w1 thr B n i A5 c5 A6 c6 w' := by
  obtain ⟨h1, h2, h3, h4, h5, h6, h7, cells, h8, h9⟩ := h
  have k : ∀ b, Dv D w1 wr B (.slice A5 n.length c5) b → Dv D w1 w' B (.slice A5 n.length c5) b ∧ w'.heap[b]? = wr.heap[b]? := fun b hb => by
    have hz := F.size
    have hz1 := h1.size
    refine ⟨?_, F.block b ?_ (by simp)⟩
    · rcases hb with hb | hb
      · exact .inl hb
      · exact .inr ⟨hb.1, by omega, hb.2.2⟩
    · rcases hb with hb | hb
      · have := hD b hb; omega
      · exact hb.2.1
  exact ⟨h1.pure F, h2, h3.fr F (by simp), own_fr h4 F (by simp), h5, h6, h7, cells, h8.keep k, TrsD.keep k _ _ h9⟩
/-- One node more. -/
theorem MrgI.node {D : Nat → Prop} {w1 wr w' : World} {thr : Int} {B : Nat} {n : List Int} {i : List Tr} {A5 : Option Addr} {c5 : Nat} {A6 : Option Addr} {c6 : Nat} (hD : ∀ b, D b → b < w1.heap.size) (h : MrgI D w1 thr B n i A5 c5 A6 c6 wr) {k : Int} (hk : Wi k) {A7 : Option Addr} {c7 : Nat}
    (own : w'.ownsRow w1.heap.size 3 1 (.slice A7 (n.length + 1) c7) (n.length + 1) (n.map (Value.int .i64) ++ [.int .i64 k])) (F : Fr (Value.slice A5 n.length c5).ownBlock wr w') (nb : NewOr wr.heap.size (.slice A5 n.length c5) (.slice A7 (n.length + 1) c7)) :
    MrgI D w1 thr B (n ++ [k]) i A7 c7 A6 c6 (w'.setCell ⟨B, 1, none⟩ (.slice A7 (n.length + 1) c7)) := by
  obtain ⟨h1, h2, h3, h4, h5, h6, h7, cells, h8, h9⟩ := h
  have hlt := blk_lt h3
  have hn : (n ++ [k]).length = n.length + 1 := by simp
  have og := own_blk_ge h4
  have ol := h4.lt
  have b1 := h3.fr F h5
  have G := Fr.set1 w' ⟨B, 1, none⟩ (.slice A7 (n.length + 1) c7)
  have hne : (Value.slice A7 (n.length + 1) c7).ownBlock ≠ some B := fun e => by
    rcases nb with e' | ⟨g, e', hg⟩
    · exact h5 (e'.symm.trans e)
    · rw [e'] at e; injection e with e; omega
  have b2 : TB (w'.setCell ⟨B, 1, none⟩ (.slice A7 (n.length + 1) c7)) B (.int .i64 thr) (.slice A7 (n.length + 1) c7) (.slice A6 i.length c6) := b1.set1 _
  have hz := F.size
  have hz1 := h1.size
  have hz2 := G.size
  have own2 := own_ne_fr own G (by simpa using hne)
  generalize World.setCell w' _ _ = w2 at *
  have kk : ∀ b, Dv D w1 wr B (.slice A5 n.length c5) b → Dv D w1 w2 B (.slice A7 (n.length + 1) c7) b ∧ w2.heap[b]? = wr.heap[b]? := fun b hb => by
    have hb2 : b < wr.heap.size ∧ (Value.slice A5 n.length c5).ownBlock ≠ some b ∧ b ≠ B := by
      rcases hb with hb | hb
      · have := hD b hb
        exact ⟨by omega, fun e => by have := og b e; omega, by omega⟩
      · exact ⟨hb.2.1, hb.2.2.2, hb.2.2.1⟩
    refine ⟨?_, (G.block b (by omega) (fun e => hb2.2.2 (by injection e))).trans (F.block b hb2.1 (fun e => hb2.2.1 e.symm))⟩
    rcases hb with hb | hb
    · exact .inl hb
    · refine .inr ⟨hb.1, by omega, hb.2.2.1, fun e => ?_⟩
      rcases nb with e' | ⟨g, e', hg⟩
      · exact hb2.2.1 (e'.symm.trans e)
      · rw [e'] at e; injection e with e; omega
  refine ⟨(h1.own F (fun g hg => by have := og g hg; omega)).own G (by simp; omega), h2, by rw [hn]; exact b2, by rw [hn, List.map_append]; exact own2, by rw [hn]; exact hne, fun x hx => ?_, h7, cells, by rw [hn]; exact h8.keep kk, by rw [hn]; exact TrsD.keep kk _ _ h9⟩
  rcases List.mem_append.1 hx with hx | hx
  · exact h6 x hx
  · simp only [List.mem_singleton] at hx; exact hx ▸ hk
/-- The inner trusts anew. -/
theorem MrgI.with_ {D : Nat → Prop} {w1 wr w' : World} {thr : Int} {B : Nat} {n : List Int} {i : List Tr} {A5 : Option Addr} {c5 : Nat} {A6 : Option Addr} {c6 : Nat} (hD : ∀ b, D b → b < w1.heap.size) (h : MrgI D w1 thr B n i A5 c5 A6 c6 wr) {x : Tr} {A7 : Option Addr} {c7 : Nat} {cells : List Value} (hA : A7 = none → c7 = 0)
    (hs : SlD w' (Dw (Dv D w1 wr B (.slice A5 n.length c5)) wr w') 3 (.slice A7 (withT i x).length c7) cells) (ht : TrsD w' (Dw (Dv D w1 wr B (.slice A5 n.length c5)) wr w') cells (withT i x)) (F : Fr none wr w') :
    MrgI D w1 thr B n (withT i x) A5 c5 A7 c7 (w'.setCell ⟨B, 2, none⟩ (.slice A7 (withT i x).length c7)) := by
  obtain ⟨h1, h2, h3, h4, h5, h6, h7, _, _, _⟩ := h
  have hlt := blk_lt h3
  have og := own_blk_ge h4
  have ol := h4.lt
  have b1 := h3.fr F (by simp)
  have own1 := own_fr h4 F (by simp)
  have G := Fr.set1 w' ⟨B, 2, none⟩ (.slice A7 (withT i x).length c7)
  have b2 : TB (w'.setCell ⟨B, 2, none⟩ (.slice A7 (withT i x).length c7)) B (.int .i64 thr) (.slice A5 n.length c5) (.slice A7 (withT i x).length c7) := b1.set2 _
  have hz := F.size
  have hz1 := h1.size
  have hz2 := G.size
  have own2 := own_ne_fr own1 G (by simpa using h5)
  generalize World.setCell w' _ _ = w2 at *
  have kk : ∀ b, Dw (Dv D w1 wr B (.slice A5 n.length c5)) wr w' b → Dv D w1 w2 B (.slice A5 n.length c5) b ∧ w2.heap[b]? = w'.heap[b]? := fun b hb => by
    have hb2 : b < w'.heap.size ∧ b ≠ B ∧ Dv D w1 w2 B (.slice A5 n.length c5) b := by
      rcases hb with (hb | hb) | hb
      · have := hD b hb
        exact ⟨by omega, by omega, .inl hb⟩
      · exact ⟨by omega, hb.2.2.1, .inr ⟨hb.1, by omega, hb.2.2⟩⟩
      · exact ⟨hb.2, by omega, .inr ⟨by omega, by omega, by omega, fun e => by have := (ol b e).2; omega⟩⟩
    exact ⟨hb2.2.2, G.block b hb2.1 (fun e => hb2.2.1 (by injection e))⟩
  exact ⟨(h1.pure F).own G (by simp; omega), h2, b2, own2, h5, h6, hA, cells, hs.keep kk, TrsD.keep kk _ _ ht⟩

theorem MrgI.fin {D : Nat → Prop} {w w1 wr wz : World} {thr th : Int} {B : Nat} {n : List Int} {i : List Tr} {A5 : Option Addr} {c5 : Nat} {A6 : Option Addr} {c6 : Nat} {r : Option Nat} (hD : ∀ b, D b → b < w.heap.size) (hz : w.heap.size + 2 ≤ w1.heap.size) (F1 : Fr none w w1) (h : MrgI D w1 thr B n i A5 c5 A6 c6 wr)
    (FS : Fr r wr wz) (hr : ∀ b, r = some b → b = B) (hth : Wi th) (hn : n.length ≤ 1073741824) (hi : i.length ≤ 1073741824) {w6 : World} (G : Fr (some (w.heap.size + 1)) wz w6) :
    TrD w6 (Dw D w w6) (.agg #[.int .i64 th, .slice A5 n.length c5, .slice A6 i.length c6]) (.mk th n i) ∧ Fr none w w6 := by
  obtain ⟨h1, h2, h3, h4, h5, h6, h7, cells, h8, h9⟩ := h
  have hlt := blk_lt h3
  have og := own_blk_ge h4
  have ol := h4.lt
  have z1 := h1.size
  have z2 := FS.size
  have z3 := G.size
  have z0 := F1.size
  have k2 : ∀ b, Dv D w1 wr B (.slice A5 n.length c5) b → Dw D w w6 b ∧ w6.heap[b]? = wr.heap[b]? := fun b hb => by
    have hb2 : b < wr.heap.size ∧ b ≠ B ∧ b ≠ w.heap.size + 1 ∧ Dw D w w6 b := by
      rcases hb with hb | hb
      · have := hD b hb
        exact ⟨by omega, by omega, by omega, .inl hb⟩
      · exact ⟨hb.2.1, hb.2.2.1, by omega, .inr ⟨by omega, by omega⟩⟩
    exact ⟨hb2.2.2.2, (G.block b (by omega) (fun e => hb2.2.2.1 (by injection e))).trans (FS.block b hb2.1 (fun e => hb2.2.1 (hr b e.symm)))⟩
  have own2 : w6.ownsRow w1.heap.size 3 1 (.slice A5 n.length c5) n.length (n.map (Value.int .i64)) := by
    have a1 : wz.ownsRow w1.heap.size 3 1 (.slice A5 n.length c5) n.length (n.map (Value.int .i64)) := by
      cases r with
      | none => exact own_fr h4 FS (by simp)
      | some g => exact own_ne_fr h4 FS (by rw [hr g rfl]; exact h5)
    exact own_ne_fr a1 G (fun e => by have := og _ e; omega)
  refine ⟨TrD.mk_ hth ((SlD.own_dn own2).keep (fun k hk => ⟨.inr ⟨by have := hk.1; omega, hk.2⟩, rfl⟩)) h6 (h8.keep k2) hn hi (TrsD.keep k2 _ _ h9), ((F1.pure h1).own FS (fun b hb => by have := hr b hb; omega)).own G (by simp)⟩

end Go.Proofs.YtoblhcieidljjaaGreatDoor

/- Walks: cmp.Or, nodeset.Compare, Next; the reference's Size, Compare. -/
namespace Go.Proofs.YtoblhcieidljjaaGreatDoor
open Go.RowKit

/-- The first that is not 0, or 0. -/
def orL : List Int → Int
  | [] => 0
  | x :: r => if x = 0 then orL r else x
theorem orL_skip : ∀ (l : List Int) (k : Nat), (∀ j (hj : j < l.length), j < k → l[j] = 0) → orL l = orL (l.drop k)
  | l, 0, _ => by simp
  | [], k + 1, _ => by simp
  | x :: r, k + 1, h => by
    have h0 := h 0 (by simp) (by omega)
    simp only [List.getElem_cons_zero] at h0
    simp only [orL, h0, List.drop_succ_cons]
    exact orL_skip r k fun j hj hk => by
      have := h (j + 1) (by simpa using hj) (by omega)
      simpa only [List.getElem_cons_succ] using this

set_option maxRecDepth 100000 in
theorem or_any (l : List Int) (v : Value) (w : World) (r : Option Nat) (h : SlI w r v l) : Calls Tryz.prog 80 #[v] w fun e w' => e = .returned (.int .i64 (orL l)) ∧ w = w' := by
  have hwi := h.2
  obtain ⟨A, c, rfl, q1, q2, hc⟩ := h.open_
  go_enter Tryz.func80, Tryz.ntmps80
  go_wp2_with fail
  go_loop [8] (fun i => ∃ k : Nat, k ≤ l.length ∧ i = .int .i64 k ∧ ∀ j (hj : j < l.length), j < k → l[j] = 0) (fun i => l.length - (intOf i).toNat)
  case atStart => exact ⟨0, Nat.zero_le _, rfl, fun j hj h => by omega⟩
  case round =>
    obtain ⟨k, hk, rfl, hno⟩ := hrel
    have HN := Lib.hid hno
    clear hno
    by_cases hlt : k < l.length
    · obtain ⟨b, off, rfl, hb, hbr, hcc⟩ := hc (by omega)
      have hck := hcc k hlt
      clear hcc hc
      by_cases hp : l[k] = 0
      · have HP := Lib.hid hp
        go_wp2_with fail
        go_round
        case rel => exact ⟨k + 1, by omega, by go_num, fun j hj h => by
          by_cases e : j = k
          · subst e; exact HP.out
          · exact HN.out j hj (by omega)⟩
        case measure => simp [intOf]; omega
      · have e1 : orL l = l[k] := by
          rw [orL_skip l k HN.out, List.drop_eq_getElem_cons hlt]
          simp [orL, hp]
        have E := Lib.hid e1
        clear e1
        go_wp2_with fail
        go_ret
        exact ⟨ret_int (by rw [E.out]), rfl⟩
    · obtain rfl : k = l.length := by omega
      have e1 : orL l = 0 := by
        rw [orL_skip l l.length HN.out, List.drop_length]
        rfl
      have E := Lib.hid e1
      clear e1
      go_wp2_with fail
      go_ret
      exact ⟨ret_int (by rw [E.out]), rfl⟩

theorem cmpI_wi (a b : Int) : Wi (cmpI a b) := by
  unfold cmpI Wi
  split
  · omega
  · split <;> omega
theorem cmpS_or (a b : Int) : orL [cmpI (rankI a) (rankI b), cmpI a b] = cmpS a b := by
  unfold cmpS
  simp only [orL]
  by_cases h : cmpI (rankI a) (rankI b) = 0
  · simp only [h, if_true]
    by_cases h2 : cmpI a b = 0 <;> simp [h2]
  · simp only [h, if_false]

/-- The first from t on, among f, of size z. -/
def srch (z : Nat) (t : Nat) : Nat → Option Nat
  | 0 => none
  | f + 1 => if sizS (t : Int) = z then some t else srch z (t + 1) f
def nextR (s n : Nat) : Nat × Bool :=
  match srch (sizS (s : Int)) (s + 1) (2 ^ n - (s + 1)) with
  | some t => (t, true)
  | none => if sizS (s : Int) = n then (0, false) else (2 ^ (sizS (s : Int) + 1) - 1, true)
theorem p10 (n : Nat) (hn : n ≤ 10) : 2 ^ n ≤ 1024 := by
  have := Nat.pow_le_pow_right (n := 2) (by omega) hn
  simpa using this
theorem belB_nat (s n : Nat) : belB (s : Int) n = decide (s < 2 ^ n) := by
  simp only [belB, Int.toNat_natCast]
  have e : ((2 : Int) ^ n) = ((2 ^ n : Nat) : Int) := by simp
  rw [decide_eq_decide, e]
  omega

/-- The reference's Size. -/
def popI (s : Int) (k : Nat) : Nat := popB s.toNat k
theorem shr_bit (m j : Nat) (hm : m < 9223372036854775808) : bits .and .i64 ((m : Int) / 2 ^ j) 1 = ((if m.testBit j then 1 else 0 : Nat) : Int) := by
  have e : ((m : Int) / 2 ^ j) = ((m / 2 ^ j : Nat) : Int) := by simp
  have hd : m / 2 ^ j ≤ m := Nat.div_le_self _ _
  rw [e]
  have h1 := and_i64 (m / 2 ^ j) 1 (by omega) (by omega)
  have h2 : ((1 : Nat) : Int) = 1 := rfl
  rw [h2] at h1
  rw [h1, Nat.testBit_eq_decide_div_mod_eq, Nat.and_one_is_mod]
  generalize m / 2 ^ j = x
  rcases Nat.mod_two_eq_zero_or_one x with h | h <;> simp [h]



end Go.Proofs.YtoblhcieidljjaaGreatDoor

/- The order of strings and of three-way comparisons, plain. -/
namespace Go.Proofs.YtoblhcieidljjaaGreatDoor
open Go.RowKit

theorem bl_irrefl : ∀ a : List UInt8, Op.bytesLess a a = false
  | [] => rfl
  | x :: a => by simp [Op.bytesLess, bl_irrefl a]
theorem bl_trans : ∀ a b c : List UInt8, Op.bytesLess a b = true → Op.bytesLess b c = true → Op.bytesLess a c = true
  | _, [], _, h, _ => by simp [Op.bytesLess] at h
  | _, _ :: _, [], _, h => by simp [Op.bytesLess] at h
  | [], _ :: _, _ :: _, _, _ => by simp [Op.bytesLess]
  | x :: a, y :: b, z :: c, h, k => by
    simp only [Op.bytesLess, Bool.or_eq_true, decide_eq_true_eq, Bool.and_eq_true, beq_iff_eq] at *
    rcases h with h | ⟨rfl, h⟩
    · rcases k with k | ⟨rfl, k⟩
      · exact .inl (UInt8.lt_trans h k)
      · exact .inl h
    · rcases k with k | ⟨rfl, k⟩
      · exact .inl k
      · exact .inr ⟨rfl, bl_trans a b c h k⟩
theorem bl_total : ∀ a b : List UInt8, Op.bytesLess a b = false → Op.bytesLess b a = false → a = b
  | [], [], _, _ => rfl
  | [], _ :: _, h, _ => by simp [Op.bytesLess] at h
  | _ :: _, [], _, h => by simp [Op.bytesLess] at h
  | x :: a, y :: b, h, k => by
    simp only [Op.bytesLess, Bool.or_eq_false_iff, decide_eq_false_iff_not, Bool.and_eq_false_iff, beq_eq_false_iff_ne] at *
    have e : x = y := by
      have h1 := h.1
      have k1 := k.1
      rw [UInt8.lt_iff_toNat_lt] at h1 k1
      exact UInt8.toNat_inj.1 (by omega)
    subst e
    rw [bl_total a b (h.2.resolve_left (by simp)) (k.2.resolve_left (by simp))]
theorem bl_asymm {a b : List UInt8} (h : Op.bytesLess a b = true) : Op.bytesLess b a = false := by
  cases hb : Op.bytesLess b a
  · rfl
  · have := bl_trans a b a h hb
    rw [bl_irrefl] at this
    cases this
/-- cmp.Compare of strings. -/
def cmpL (a b : List UInt8) : Int := if Op.bytesLess a b then -1 else if Op.bytesLess b a then 1 else 0
theorem cmpL_zero {a b : List UInt8} : cmpL a b = 0 ↔ a = b := by
  unfold cmpL
  constructor
  · intro h
    cases h1 : Op.bytesLess a b
    · cases h2 : Op.bytesLess b a
      · exact bl_total a b h1 h2
      · rw [h1, h2] at h; simp at h
    · rw [h1] at h; simp at h
  · rintro rfl
    simp [bl_irrefl]
theorem cmpL_neg (a b : List UInt8) : cmpL b a = - cmpL a b := by
  unfold cmpL
  cases h1 : Op.bytesLess a b
  · cases h2 : Op.bytesLess b a <;> simp
  · rw [bl_asymm h1]; simp
theorem cmpL_cases (a b : List UInt8) : cmpL a b = -1 ∨ cmpL a b = 0 ∨ cmpL a b = 1 := by
  unfold cmpL
  split
  · exact .inl rfl
  · split
    · exact .inr (.inr rfl)
    · exact .inr (.inl rfl)
theorem cmpL_trans {a b c : List UInt8} (h : cmpL a b ≤ 0) (k : cmpL b c ≤ 0) : cmpL a c ≤ 0 := by
  have hle : ∀ x y : List UInt8, cmpL x y ≤ 0 ↔ Op.bytesLess y x = false := by
    intro x y
    unfold cmpL
    cases h1 : Op.bytesLess x y
    · cases h2 : Op.bytesLess y x <;> simp
    · rw [bl_asymm h1]; simp
  rw [hle] at *
  cases hc : Op.bytesLess c a
  · rfl
  · exfalso
    cases hab : Op.bytesLess a b
    · have := bl_total a b hab h
      subst this
      rw [k] at hc; cases hc
    · have := bl_trans c a b hc hab
      rw [k] at this; cases this
theorem cmpI_neg (a b : Int) : cmpI b a = - cmpI a b := by
  unfold cmpI
  by_cases h1 : a < b
  · simp [h1, show ¬ b < a from by omega]
  · by_cases h2 : b < a <;> simp [h1, h2]
theorem cmpI_zero {a b : Int} : cmpI a b = 0 ↔ a = b := by
  unfold cmpI
  by_cases h1 : a < b
  · simp [h1]; omega
  · by_cases h2 : b < a
    · simp [h1, h2]; omega
    · simp [h1, h2]; omega
theorem cmpI_le {a b : Int} : cmpI a b ≤ 0 ↔ a ≤ b := by
  unfold cmpI
  by_cases h1 : a < b
  · simp [h1]; omega
  · by_cases h2 : b < a
    · simp [h1, h2]
    · simp [h1, h2]; omega
end Go.Proofs.YtoblhcieidljjaaGreatDoor

/- Some texts of this claim, joined: contracts of the functions that it reaches, and plain laws. -/
import Derived.Test.YtpdhckbiioobhaaGreatDoorJG4
import Derived.Test.YtpdhckbiioobhaaGreatDoorProg
import Derived.Test.YtpdhckbiioobhaaGreatDoorJG1
import Derived.StillTailTactics

set_option linter.unusedSimpArgs false
set_option linter.unusedVariables false
/- Walks: trustquorummake.trust, Trust: trusts out of the tape. -/
namespace Go.Proofs.YtpdhckbiioobhaaGreatDoor
open Go.RowKit

/-- What trust(t, n, d) makes. -/
def MadeP (w : World) (g n d : Nat) (e : Ending) (w' : World) : Prop :=
  ∃ v T, e = .returned v ∧ TrD w' (Dn w.heap.size w') v T ∧ T.dep ≤ d ∧ T.size ≤ sizeB d ∧ nodesIn n T ∧ SrcR 88 w' g ∧ Fr (some g) w w'

/-- The state of the trust that is being made, between the statements. -/
def Mid (w : World) (g n d : Nat) (A : Option Addr) (c : Nat) (l : List Int) (A2 : Option Addr) (c2 : Nat) (inner : List Tr) (wr : World) : Prop :=
  Fr (some g) w wr ∧ w.heap.size + 2 ≤ wr.heap.size ∧ SrcR 88 wr g ∧ TB wr w.heap.size (.int .i64 0) (.slice none 0 0) (.slice none 0 0) ∧
    TB wr (w.heap.size + 1) (.int .i64 0) (.slice A l.length c) (.slice A2 inner.length c2) ∧ SlD wr (Dn (w.heap.size + 2) wr) 1 (.slice A l.length c) (l.map (Value.int .i64)) ∧
    (∀ x ∈ l, 0 ≤ x ∧ x < (n : Int)) ∧ l.length ≤ 5 ∧
    (∃ cells, SlD wr (Dn (w.heap.size + 2) wr) 3 (.slice A2 inner.length c2) cells ∧ TrsD wr (Dn (w.heap.size + 2) wr) cells inner) ∧ (l ≠ [] ∨ inner ≠ []) ∧
    inner.length ≤ 3 ∧ depL inner ≤ d ∧ sizeL inner ≤ inner.length * sizeB d ∧ nodesInL n inner

set_option maxRecDepth 100000 in
set_option maxHeartbeats 800000 in
theorem mktrust_any (n : Nat) (hn1 : 1 ≤ n) (hn2 : n ≤ 100) (d : Nat) : ∀ (g : Nat) (w : World), 1 ≤ d → d ≤ 6 → SrcR 88 w g →
    Calls Tryz.prog 121 #[.pointer (some ⟨g, 0, none⟩), .int .i64 n, .int .i64 d] w (MadeP w g n d) := by
  induction d with
  | zero => intro g w h; omega
  | succ d ih =>
    intro g w _ hd6 S0
    have hg := S0.lt
    go_enter Tryz.func121, Tryz.ntmps121
    go_wp2_with fail
    generalize hW : (w.alloc _).alloc _ = w1
    have hz : w1.heap.size = w.heap.size + 2 := by rw [← hW]; simp
    have F1 : Fr none w w1 := hW ▸ ((Fr.refl _ w).alloc _).alloc _
    have b6 : TB w1 w.heap.size (.int .i64 0) (.slice none 0 0) (.slice none 0 0) := by
      rw [← hW]; exact (Below.heap_alloc _ _ _ (by simp)).trans (blk_new _ _)
    have b7 : TB w1 (w.heap.size + 1) (.int .i64 0) (.slice none 0 0) (.slice none 0 0) := by
      rw [← hW]; exact blk_new_at (by simp) _
    have S1 := S0.fr F1
    clear hW S0
    refine (tapeOrder_any n g _ (by omega) S1).mono ?_
    rintro e w2 ⟨ov, ol, rfl, hperm, hol, S2, F2⟩
    have hz2 := F2.size
    have b6 := b6.fr F2 (by simp; omega)
    have b7 := b7.fr F2 (by simp; omega)
    have F2 := (F1.mono (r := some g)).same F2
    clear S1 F1
    obtain ⟨A0, c0, rfl, p1, p2⟩ := hol.formI
    have hlen : ol.length = n := by rw [hperm.length_eq, ints_len]
    have HLEN := Lib.hid hlen
    have hrange : ∀ x ∈ ol, 0 ≤ x ∧ x < (n : Int) := fun x hx => by
      have := hperm.mem_iff.1 hx
      simp only [ints, List.mem_map, List.mem_range] at this
      obtain ⟨y, hy, rfl⟩ := this
      constructor <;> simp <;> omega
    clear hlen
    go_upto_region 3 with (fail)
    go_cut [8, 20, 21, 22] (fun _ s20 s21 s22 wr => ∃ (ks : List Int) (A : Option Addr) (c : Nat), s20 = .slice A ks.length c ∧ s21 = .int .i64 (ks.length : Nat) ∧ s22 = .int .i64 0 ∧ SlD wr (Dn (w.heap.size + 2) wr) 1 (.slice A ks.length c) (ks.map (Value.int .i64)) ∧ ks ≠ [] ∧ ks.length ≤ 5 ∧ (∀ x ∈ ks, 0 ≤ x ∧ x < (n : Int)) ∧
      Fr (some g) w wr ∧ w.heap.size + 2 ≤ wr.heap.size ∧ SrcR 88 wr g ∧ TB wr w.heap.size (.int .i64 0) (.slice none 0 0) (.slice none 0 0) ∧ TB wr (w.heap.size + 1) (.int .i64 0) (.slice none 0 0) (.slice none 0 0))
    case first =>
      go_wp2_with fail
      all_goals
        refine (tapeRange_any _ _ g _ (by omega) (by omega) (by omega) S2).mono ?_
        rintro e w3 ⟨x, rfl, x1, x2, S3, F3⟩
        obtain ⟨k, rfl⟩ := Int.eq_ofNat_of_zero_le (show 0 ≤ x by omega)
        have hz3 := F3.size
        have hkn : k ≤ ol.length := by have := HLEN.out; omega
        go_wp2_with fail
        go_meet
        have hk := (hol.keep (dn_mono (B := w.heap.size + 2) (by omega))).keep (dn_fr F3 (by simp; omega))
        have hkt := hk.take k hkn
        have hlt : (ol.take k).length = k := List.length_take_of_le hkn
        refine ⟨ol.take k, A0, c0, by rw [hlt], by rw [hlt], rfl, by rw [hlt]; simpa using hkt, fun h => by rw [h] at hlt; simp at hlt; omega, by rw [hlt]; omega, fun x hx => hrange x (List.mem_of_mem_take hx), F2.same F3, by omega, S3, b6.fr F3 (by simp; omega), b7.fr F3 (by simp; omega)⟩
    case rest =>
      clear b6 b7 S2 F2 hz2 hol hrange HLEN p1 p2 hperm ol A0 c0 hz
      obtain ⟨ks, A, c, rfl, rfl, rfl, hks, hkn, hk5, hkr, F, hs, S, K6, K7⟩ := hcut
      go_wp2_with fail
      have hks0 : SlD wc (fun b => w.heap.size + 2 ≤ b ∧ b < wc.heap.size) 1 (.slice A ks.length c) (ks.map (Value.int .i64)) := hks
      clear hks
      go_loopw [22] (fun i wr => ∃ (j : Nat) (A1 : Option Addr) (c1 : Nat), j ≤ ks.length ∧ i = .int .i64 j ∧ Fr (some g) w wr ∧ wc.heap.size ≤ wr.heap.size ∧ SrcR 88 wr g ∧ TB wr w.heap.size (.int .i64 0) (.slice none 0 0) (.slice none 0 0) ∧ TB wr (w.heap.size + 1) (.int .i64 0) (.slice A1 j c1) (.slice none 0 0) ∧
        wr.ownsRow wc.heap.size 3 1 (.slice A1 j c1) j ((ks.take j).map (Value.int .i64)) ∧ SlD wr (fun b => w.heap.size + 2 ≤ b ∧ b < wc.heap.size) 1 (.slice A ks.length c) (ks.map (Value.int .i64))) (fun i _ => ks.length - (intOf i).toNat)
      case atStart => exact ⟨0, none, 0, Nat.zero_le _, rfl, F, Nat.le_refl _, S, K6, K7, World.ownsRow_nil _ _ _ _, hks0⟩
      case round =>
        clear hks0 K6 K7 S F
        obtain ⟨j, A1, c1, hj, rfl, F, hs2, S, K6, K7, own, hks⟩ := hrel
        by_cases hlt : j < ks.length
        · obtain ⟨b, off, rfl, hb, hcj⟩ := hks.cellI j hlt
          have HT : Hid (ks.take (j + 1) = ks.take j ++ [ks[j]]) := List.take_succ_eq_append_getElem hlt
          have R7 := K7.cell
          have Z7 := K7.free
          go_wp2_with (at_builtin; refine app_lit eiInt rfl _ _ rfl wc.heap.size A1 j c1 _ rfl own 1 [.int .i64 ks[j]] _ _ rfl (by simp) rfl (by simp [Value.oneCell']) (by omega) (by unfold maxLen; omega) (by omega) ?_; intro A' c' w' own' F' bl'; have K7' := K7.fr F' (own_ne own (by omega)); have K6' := K6.fr F' (own_ne own (by omega)); have R7' := K7'.cell; have Z7' := K7'.free; have hz3 := F'.size; clear R7 Z7)
          have FS := Fr.set1 w' ⟨w.heap.size + 1, 1, none⟩ (.slice A' (j + 1) c')
          have og := own_blk_ge own
          go_roundw
          case rel =>
            refine ⟨j + 1, A', c', by omega, by go_num, (F.own F' (fun g e => by have := og g e; omega)).own FS (by simp), by have := FS.size; omega, (S.frs F' (fun b e => by have := og b e; omega)).frs FS (by simp; omega), K6'.fr FS (by simp), ?_, ?_, ?_⟩
            · simpa using K7'.set1 (.slice A' (j + 1) c')
            · rw [HT.out, List.map_append]; exact own_fr own' FS (by simp; omega)
            · exact (hks.keep (fun k hk => ⟨hk, F'.block k (by omega) (fun e => by have := og k e.symm; omega)⟩)).keep (fun k hk => ⟨hk, FS.block k (by omega) (by simp; omega)⟩)
          case measure => simp [intOf]; omega
        · obtain rfl : j = ks.length := by omega
          have hks' : SlD wr (Dn (w.heap.size + 2) wr) 1 (.slice A1 ks.length c1) (ks.map (Value.int .i64)) := by
            have := SlD.own_dn own
            rw [List.take_length] at this
            exact this.keep (dn_mono (by omega))
          clear own hks
          obtain ⟨wo, rfl⟩ : ∃ wo : World, wo = wr := ⟨_, rfl⟩
          go_upto_if 34 with (fail)
          go_cut [] (fun wr => ∃ (l : List Int) (A : Option Addr) (c : Nat) (A2 : Option Addr) (c2 : Nat) (inner : List Tr), Mid w g n d A c l A2 c2 inner wr)
          case first =>
            have hM : Mid w g n d A1 c1 ks none 0 [] wo := ⟨F, by omega, S, K6, K7, hks', hkr, hk5, ⟨[], SlD.nil _ _ _, by simp [TrsD]⟩, .inl hkn, by simp, by simp [depL], by simp [sizeL], by simp [nodesInL]⟩
            by_cases hd : d = 0
            · subst hd
              go_wp2_with fail
              go_meet
              exact ⟨ks, A1, c1, none, 0, [], hM⟩
            · clear hM
              go_wp2_with fail
              have FA := (Fr.refl none wo).alloc (.cells #[.int .i64 0, .int .i64 0, .int .i64 1, .int .i64 1, .int .i64 2, .int .i64 3] 3)
              have hlit : SlI (wo.alloc (.cells #[.int .i64 0, .int .i64 0, .int .i64 1, .int .i64 1, .int .i64 2, .int .i64 3] 3)) (some g) (.slice (some ⟨wo.heap.size, 0, none⟩) 6 6) [0, 0, 1, 1, 2, 3] :=
                ⟨SlD.lit_dm #[.int .i64 0, .int .i64 0, .int .i64 1, .int .i64 1, .int .i64 2, .int .i64 3] 3 6 1 rfl (by unfold maxLen; omega) (by simp; omega) (Fr.refl _ _), by intro x hx; simp at hx; constructor <;> omega⟩
              refine (tapePick_any _ [0, 0, 1, 1, 2, 3] g _ hlit (by simp) (by simp) (S.fr FA)).mono ?_
              rintro e wp ⟨x, rfl, hx, Sp, Fp⟩
              have hx0 : 0 ≤ x ∧ x ≤ 3 := by simp at hx; omega
              have FAp : Fr (some g) wo wp := FA.mono.same Fp
              have hzp := FAp.size
              have Kp6 := K6.fr FAp (by simp; omega)
              have Kp7 := K7.fr FAp (by simp; omega)
              have Fwp := F.same FAp
              have hksp := hks'.keep (dn_fr FAp (by simp; omega))
              clear hx hlit FA Fp FAp K6 K7 F S hks'
              have hksD : SlD wp (fun b => w.heap.size + 2 ≤ b ∧ b < wp.heap.size) 1 (.slice A1 ks.length c1) (ks.map (Value.int .i64)) := hksp
              clear hksp
              go_wp2_with fail
              go_loopw [11] (fun s11 wr => ∃ (i : Int) (inner : List Tr) (A2 : Option Addr) (c2 : Nat) (cells : List Value), s11 = .int .i64 i ∧ 0 ≤ i ∧ inner.length + i ≤ 3 ∧ Fr (some g) w wr ∧ wp.heap.size ≤ wr.heap.size ∧ SrcR 88 wr g ∧
                TB wr w.heap.size (.int .i64 0) (.slice none 0 0) (.slice none 0 0) ∧ TB wr (w.heap.size + 1) (.int .i64 0) (.slice A1 ks.length c1) (.slice A2 inner.length c2) ∧
                SlD wr (fun b => w.heap.size + 2 ≤ b ∧ b < wp.heap.size) 1 (.slice A1 ks.length c1) (ks.map (Value.int .i64)) ∧
                wr.ownsRow wp.heap.size 31 3 (.slice A2 inner.length c2) inner.length cells ∧ TrsD wr (Dx wp.heap.size wr (.slice A2 inner.length c2)) cells inner ∧
                depL inner ≤ d ∧ sizeL inner ≤ inner.length * sizeB d ∧ nodesInL n inner) (fun s11 _ => (intOf s11).toNat)
              case atStart => exact ⟨x, [], none, 0, [], rfl, hx0.1, by simp; omega, Fwp, Nat.le_refl _, Sp, Kp6, Kp7, hksD, World.ownsRow_nil _ _ _ _, by simp [TrsD], by simp [depL], by simp [sizeL], by simp [nodesInL]⟩
              case round =>
                clear hksD Kp6 Kp7 Sp Fwp
                obtain ⟨i, inner, A2, c2, cells, rfl, hi0, hi3, F, hs3, S, K6, K7, hks, own, hts, hdp, hsz, hni⟩ := hrel
                by_cases hi : 0 < i
                · have hsp : w.heap.size < wr.heap.size := by omega
                  have hsp1 : w.heap.size + 1 < wr.heap.size := by omega
                  have R7 := K7.cell
                  have Z7 := K7.free
                  have hwd : IntKind.i64.wrap (d : Int) = d := IntWalk.i64_in _ (by omega)
                  go_wp2_with fail
                  go_region_law (first
                    | (go_simp; go_at_call 121; refine (ih g _ (by omega) (by omega) (by exact S.drew)).mono ?_; rintro e w3 ⟨v3, T3, rfl, hT3, hd3, hs3', hn3, S3, F3⟩; obtain ⟨th, a1, n1, e1, a2, n2, e2, rfl⟩ := hT3.shape; have F3' := ((Fr.refl (some g) wr).drew).same F3; have T3x := K7.fr F3' (by simp; omega); have R3 := T3x.cell; have Z3 := T3x.free; have own3 := own_fr own F3' (by simp; omega); have hz3 := F3'.size; have hsp3 : w.heap.size < w3.heap.size := (by omega); have hsp4 : w.heap.size + 1 < w3.heap.size := (by omega))
                    | (refine step_app_lit eiTrust rfl _ _ rfl wp.heap.size A2 inner.length c2 _ rfl own3 1 [.int .i64 th, .slice a1 n1 e1, .slice a2 n2 e2] 31 _ rfl (by simp) rfl (by simp [Value.oneCell']) (by omega) (by unfold maxLen; omega) (by omega) ?_; intro A3 c3 w5 own5 F5 bl5; have T5 := T3x.fr F5 (own_ne own3 (by omega)); have R6 := T5.cell; have Z6 := T5.free))
                  all_goals
                    go_wp2_with fail
                    have FS := Fr.set1 w5 ⟨w.heap.size + 1, 2, none⟩ (.slice A3 (inner.length + 1) c3)
                    have og := own_blk_ge own3
                    have ol := own.lt
                    have hz5 := F5.size
                    have hzS := FS.size
                    go_roundw
                    case rel =>
                      have t1 := (TrsD.keep (dx_fr FS (by simp; omega)) _ _ (TrsD.keep (dx_app F5 bl5) _ _ (TrsD.keep (dx_fr F3' (by simp; omega)) _ _ hts)))
                      have t2 := TrD.keep (dx_fr FS (by simp; omega)) _ _ (TrD.keep (dx_app F5 bl5) _ _ (TrD.keep (dn_dx (B := wp.heap.size) (v := .slice A2 inner.length c2) (by exact hs3) (fun q hq => (ol q hq).2)) _ _ hT3))
                      have hln : (inner ++ [T3]).length = inner.length + 1 := by simp
                      refine ⟨i - 1, inner ++ [T3], A3, c3, cells ++ [.int .i64 th, .slice a1 n1 e1, .slice a2 n2 e2], by go_num, by omega, by rw [hln]; omega, ((F.same F3').own F5 (fun q e => by have := og q e; omega)).own FS (by simp), by omega, (S3.frs F5 (fun q e => by have := og q e; omega)).frs FS (by simp; omega), ((K6.fr F3' (by simp; omega)).fr F5 (own_ne own3 (by omega))).fr FS (by simp), by rw [hln]; exact T5.set2 _, ?_, by rw [hln]; exact own_fr own5 FS (by simp; omega), by rw [hln]; exact TrsD.append t1 (by simp only [TrsD]; exact ⟨_, _, _, [], rfl, t2, rfl⟩), ?_, ?_, nodesInL_append n _ _ hni (by simp only [nodesInL]; exact ⟨hn3, trivial⟩)⟩
                      · exact ((hks.keep (fun k hk => ⟨hk, F3'.block k (by omega) (by simp; omega)⟩)).keep (fun k hk => ⟨hk, F5.block k (by omega) (fun e => by have := og k e.symm; omega)⟩)).keep (fun k hk => ⟨hk, FS.block k (by omega) (by simp; omega)⟩)
                      · rw [depL_append]; simp only [depL]; omega
                      · rw [sizeL_append, hln, Nat.succ_mul]; simp only [sizeL]; omega
                    case measure => simp [intOf]; omega
                · have hM : Mid w g n d A1 c1 ks A2 c2 inner wr := ⟨F, by omega, S, K6, K7, hks.keep (fun k hk => ⟨⟨hk.1, by omega⟩, rfl⟩), hkr, hk5, ⟨cells, (SlD.own_dn own).keep (dn_mono (by omega)), TrsD.keep (fun k hk => ⟨⟨by have := hk.1; omega, hk.2.1⟩, rfl⟩) _ _ hts⟩, .inl hkn, by omega, hdp, hsz, hni⟩
                  have R7 := K7.cell
                  have Z7 := K7.free
                  by_cases hin : inner = []
                  · subst hin
                    have h0 : decide ((0 : Int) < ((([] : List Tr).length : Nat) : Int)) = false := by decide
                    go_wp2_with fail
                    go_meet
                    exact ⟨ks, A1, c1, A2, c2, [], hM⟩
                  · have hinl : 0 < inner.length := List.length_pos_iff.2 hin
                    clear hM
                    go_wp2_with fail
                    refine (tapeN_any 3 g _ (by omega) (by omega) S).mono ?_
                    rintro e w3 ⟨x, rfl, x1, x2, S3, F3⟩
                    have hz3 := F3.size
                    have K6' := K6.fr F3 (by simp; omega)
                    have K7' := K7.fr F3 (by simp; omega)
                    have hM : Mid w g n d A1 c1 ks A2 c2 inner w3 := ⟨F.same F3, by omega, S3, K6', K7', (hks.keep (fun k hk => ⟨(⟨hk.1, by omega⟩ : Dn (w.heap.size + 2) wr k), rfl⟩)).keep (dn_fr F3 (by simp; omega)), hkr, hk5,
                      ⟨cells, ((SlD.own_dn own).keep (dn_mono (by omega))).keep (dn_fr F3 (by simp; omega)), TrsD.keep (dn_fr F3 (by simp; omega)) _ _ (TrsD.keep (fun k hk => ⟨(⟨by have := hk.1; omega, hk.2.1⟩ : Dn (w.heap.size + 2) wr k), rfl⟩) _ _ hts)⟩, .inl hkn, by omega, hdp, hsz, hni⟩
                    have R7' := K7'.cell
                    have Z7' := K7'.free
                    clear R7 Z7 K6 K7 hks own hts F S S3 F3 K6'
                    by_cases hx : x = 0
                    · subst hx
                      go_wp2_with fail
                      go_meet
                      obtain ⟨m1, m2, m3, m4, m5, m6, m7, m8, ⟨cells', m9, m10⟩, m11, m12, m13, m14, m15⟩ := hM
                      have FS := Fr.set1 w3 ⟨w.heap.size + 1, 1, none⟩ (.slice none 0 0)
                      have hzS := FS.size
                      exact ⟨[], none, 0, A2, c2, inner, m1.own FS (by simp), by omega, m3.frs FS (by simp; omega), m4.fr FS (by simp), m5.set1 _, SlD.nil _ _ _, by simp, by simp, ⟨cells', m9.keep (dn_fr FS (by simp)), TrsD.keep (dn_fr FS (by simp)) _ _ m10⟩, .inr hin, m12, m13, m14, m15⟩
                    · have hx0 : (x == 0) = false := by rw [beq_eq_false_iff_ne]; exact hx
                      go_wp2_with fail
                      go_meet
                      exact ⟨ks, A1, c1, A2, c2, inner, hM⟩
          case rest =>
            obtain ⟨l, A, c, A2, c2, inner, hM⟩ := hcut
            clear F S K6 K7 hks' hkr hk5 hkn
            obtain ⟨F, hs, S, K6, K7, hk, hkr, hk5, ⟨cells, hc2, hts⟩, hne, hi3, hdp, hsz, hni⟩ := hM
            have hlen1 : 1 ≤ l.length + inner.length := by
              rcases hne with h | h
              · have := List.length_pos_iff.2 h; omega
              · have := List.length_pos_iff.2 h; omega
            have R7 := K7.cell
            have Z7 := K7.free
            go_wp2_with fail
            refine (tapeRange_any _ _ g _ (by omega) (by omega) (by omega) S).mono ?_
            rintro e w3 ⟨th, rfl, x1, x2, S3, F3⟩
            have hz3 := F3.size
            have K6' := K6.fr F3 (by simp; omega)
            have K7' := K7.fr F3 (by simp; omega)
            have R7' := K7'.cell
            have Z7' := K7'.free
            have R6' := K6'.cell
            have Z6' := K6'.free
            clear R7 Z7
            go_wp2_with fail
            refine bodyPost_ret (v := .agg #[.int .i64 th, .slice A l.length c, .slice A2 inner.length c2]) (by simp [results, Tryz.results121, go_sem, R6']) rfl ?_
            have hk3 := hk.keep (dn_fr F3 (by simp; omega))
            have hc3 := hc2.keep (dn_fr F3 (by simp; omega))
            have ht3 := TrsD.keep (dn_fr F3 (by simp; omega)) _ _ hts
            have F := F.same F3
            clear hk hc2 hts F3 R7' Z7' R6' Z6' K6' K7' K6 K7
            have G0 := Fr.set1 w3 ⟨w.heap.size + 1, 0, none⟩ (.int .i64 th)
            generalize hv0 : w3.setCell _ _ = v0 at *
            have G1 := Fr.set1 v0 ⟨w.heap.size, 0, none⟩ (.int .i64 th)
            generalize hv1 : v0.setCell _ _ = v1 at *
            have G2 := Fr.set1 v1 ⟨w.heap.size, 1, none⟩ (.slice A l.length c)
            generalize hv2 : v1.setCell _ _ = v2 at *
            have G3 := Fr.set1 v2 ⟨w.heap.size, 2, none⟩ (.slice A2 inner.length c2)
            generalize hv3 : v2.setCell _ _ = v3 at *
            have GG : Fr (some (w.heap.size + 1)) w3 v0 := G0
            have hkk : ∀ k, Dn (w.heap.size + 2) w3 k → Dn w.heap.size v3 k ∧ v3.heap[k]? = w3.heap[k]? := fun k hk => by
              obtain ⟨k0, e0⟩ := dn_fr (B := w.heap.size + 2) G0 (by simp) k hk
              obtain ⟨k1, e1⟩ := dn_fr (B := w.heap.size + 2) G1 (by simp) k k0
              obtain ⟨k2, e2⟩ := dn_fr (B := w.heap.size + 2) G2 (by simp) k k1
              obtain ⟨k3, e3⟩ := dn_fr (B := w.heap.size + 2) G3 (by simp) k k2
              exact ⟨⟨by have := k3.1; omega, k3.2⟩, by rw [e3, e2, e1, e0]⟩
            have SS := (((S3.frs G0 (by simp; omega)).frs G1 (by simp; omega)).frs G2 (by simp; omega)).frs G3 (by simp; omega)
            have FF := (((F.own G0 (by simp)).own G1 (by simp)).own G2 (by simp)).own G3 (by simp)
            have hsb : sizeL inner ≤ 3 * sizeB d := Nat.le_trans hsz (Nat.mul_le_mul_right _ hi3)
            refine ⟨_, .mk th l inner, rfl, TrD.mk_ (by constructor <;> omega) (hk3.keep hkk) (fun x hx => by have := hkr x hx; constructor <;> omega) (hc3.keep hkk) (by omega) (by omega) (TrsD.keep hkk _ _ ht3), ?_, ?_, ?_, SS, FF⟩
            · simp only [Tr.dep]; omega
            · simp only [Tr.size, sizeB]; omega
            · simp only [nodesIn]; exact ⟨hkr, hni⟩
/-- What Trust(t, n, d) makes: a valid trust over nodes below n. -/
def GenP (w : World) (g n d : Nat) (e : Ending) (w' : World) : Prop :=
  ∃ v T, e = .returned v ∧ TrD w' (Dn w.heap.size w') v T ∧ validE T = 0 ∧ T.dep ≤ d ∧ nodesIn n T ∧ SrcR 88 w' g ∧ Fr (some g) w w'

theorem sizeB_le : ∀ d, d ≤ 6 → sizeB d ≤ 3000 := by
  intro d hd
  have : d = 0 ∨ d = 1 ∨ d = 2 ∨ d = 3 ∨ d = 4 ∨ d = 5 ∨ d = 6 := by omega
  rcases this with rfl | rfl | rfl | rfl | rfl | rfl | rfl <;> simp [sizeB]

set_option maxRecDepth 100000 in
set_option maxHeartbeats 2000000 in
theorem mkTrust_any (n d g : Nat) (w : World) (hn1 : 1 ≤ n) (hn2 : n ≤ 10) (hd1 : 1 ≤ d) (hd6 : d ≤ 6) (S0 : SrcR 88 w g) :
    Calls Tryz.prog 70 #[.pointer (some ⟨g, 0, none⟩), .int .i64 n, .int .i64 d] w (GenP w g n d) := by
  have hg := S0.lt
  go_enter Tryz.func70, Tryz.ntmps70
  go_wp2_with fail
  generalize hW : w.alloc _ = w1
  have hz : w1.heap.size = w.heap.size + 1 := by rw [← hW]; simp
  have F1 : Fr none w w1 := hW ▸ ((Fr.refl _ w).alloc _)
  have b6 : TB w1 w.heap.size (.int .i64 0) (.slice none 0 0) (.slice none 0 0) := by
    rw [← hW]; exact blk_new _ _
  have S1 := S0.fr F1
  clear hW S0
  refine (mktrust_any n hn1 (by omega) d g _ hd1 hd6 S1).mono ?_
  rintro e w2 ⟨v, T, rfl, hT, hdp, hsz, hni, S2, F2⟩
  obtain ⟨th, A1, n1, c1, A2, n2, c2, rfl⟩ := hT.shape
  have hz2 := F2.size
  have b6 := b6.fr F2 (by simp; omega)
  have F2 := (F1.mono (r := some g)).same F2
  have hlt1 : w.heap.size < w2.heap.size := by omega
  have hT := TrD.keep (dn_mono (B := w.heap.size + 1) (by omega)) _ _ hT
  clear S1 F1
  go_wp2_with fail
  generalize hW : w2.alloc _ = w3
  have F23 : Fr none w2 w3 := hW ▸ ((Fr.refl _ w2).alloc _)
  have hz3 : w3.heap.size = w2.heap.size + 1 := by rw [← hW]; simp
  have b7 : TB w3 w2.heap.size (.int .i64 th) (.slice A1 n1 c1) (.slice A2 n2 c2) := by rw [← hW]; exact blk_new _ _
  have b6 := b6.fr F23 (by simp)
  have hT := TrD.keep (dn_fr F23 (by simp)) _ _ hT
  have S3 := S2.fr F23
  have F3 := F2.pure F23
  have hsb := sizeB_le d hd6
  clear hW S2 F2 F23
  have hT0 : TrR w3 none (.agg #[.int .i64 th, .slice A1 n1 c1, .slice A2 n2 c2]) T := TrD.keep (dn_dm (B := w.heap.size + 1) (by simp)) _ _ hT
  refine (rvalidT_any T _ _ none (by omega) hT0).mono ?_
  rintro e w4 ⟨rfl, F4⟩
  have hz4 := F4.size
  have b6 := b6.fr F4 (by simp)
  have b7 := b7.fr F4 (by simp)
  have hT := TrD.keep (dn_fr F4 (by simp)) _ _ hT
  have S4 := S3.fr F4
  have F4 := F3.pure F4
  clear hT0 S3 F3
  have R6 := b6.cell
  have Z6 := b6.free
  have R7 := b7.cell
  by_cases hv : validE T = 0
  · have hv0 : (validE T != 0) = false := by rw [bne_eq_false_iff_eq]; exact hv
    have HV := Lib.hid hv
    clear hv
    go_wp2_with fail
    refine bodyPost_ret (v := .agg #[.int .i64 th, .slice A1 n1 c1, .slice A2 n2 c2]) (by simp [results, Tryz.results70, go_sem, R6]) rfl ?_
    have G := fr_fill3 w4 w.heap.size (.int .i64 th) (.slice A1 n1 c1) (.slice A2 n2 c2)
    exact ⟨_, T, rfl, TrD.keep (dn_mono (by omega)) _ _ (TrD.keep (dn_fr G (by simp)) _ _ hT), HV.out, hdp, hni, S4.frs G (by simp; omega), F4.own G (by simp)⟩
  · have hv0 : (validE T != 0) = true := by rw [bne_iff_ne]; exact hv
    clear hv
    go_wp2_with fail
    refine (tapeN_any n g _ (by omega) (by omega) S4).mono ?_
    rintro e w5 ⟨x, rfl, x1, x2, S5, F5⟩
    have hz5 := F5.size
    have b6' := b6.fr F5 (by simp; omega)
    have R6' := b6'.cell
    have Z6' := b6'.free
    have hlt5 : w.heap.size < w5.heap.size := by omega
    clear R6 Z6 R7
    go_wp2_with fail
    refine bodyPost_ret (v := .agg #[.int .i64 1, .slice (some ⟨w5.heap.size, 0, none⟩) 1 1, .slice none 0 0]) (by simp [results, Tryz.results70, go_sem, R6', hlt5]) rfl ?_
    have G := fr_fill3 w5 w.heap.size (.int .i64 1) (.slice (some ⟨w5.heap.size, 0, none⟩) 1 1) (.slice none 0 0)
    generalize hw6 : World.setCell (World.setCell (World.setCell w5 _ _) _ _) _ _ = w6 at *
    have hz6 : w6.heap.size = w5.heap.size := by rw [← hw6]; simp [World.setCell]
    rw [← hz6]
    have hA := (Fr.refl none w6).alloc (.cells #[.int .i64 x] 3)
    refine ⟨_, .mk 1 [x] [], rfl, TrD.mk_ (by constructor <;> omega) (SlD.lit_dn #[.int .i64 x] 3 1 1 w.heap.size rfl (by unfold maxLen; omega) (by omega) (Fr.refl none _)) (by intro y hy; simp at hy; constructor <;> omega) (SlD.nil _ _ _) (by simp) (by simp) (by simp [TrsD]), validE_flat x x1 (by omega), by simp [Tr.dep, depL]; omega, by simp only [nodesIn, nodesInL]; exact ⟨by intro y hy; simp at hy; omega, trivial⟩, (S5.frs G (by simp; omega)).fr hA, ((F4.same F5).own G (by simp)).pure hA⟩
end Go.Proofs.YtpdhckbiioobhaaGreatDoor

/- Walks: the reference's order of trusts, has, with. -/
namespace Go.Proofs.YtpdhckbiioobhaaGreatDoor
open Go.RowKit

theorem rsgn_any (a b : Int) (w : World) : Calls Tryz.prog 105 #[.int .i64 a, .int .i64 b] w fun e w' => e = .returned (.int .i64 (sgnI a b)) ∧ w = w' := by
  have H : Hid (sgnI a b = if a < b then -1 else if b < a then 1 else 0) := by unfold Hid sgnI; rfl
  by_cases h1 : a < b
  · go_enter Tryz.func105, Tryz.ntmps105
    go_wp2
    go_ret
    exact ⟨ret_int (by rw [H.out, if_pos h1]), rfl⟩
  · by_cases h2 : b < a
    · go_enter Tryz.func105, Tryz.ntmps105
      go_wp2
      go_ret
      exact ⟨ret_int (by rw [H.out, if_neg (by omega), if_pos (by omega)]), rfl⟩
    · go_enter Tryz.func105, Tryz.ntmps105
      go_wp2
      go_ret
      exact ⟨ret_int (by rw [H.out, if_neg (by omega), if_neg (by omega)]), rfl⟩

theorem rsign_fix (a b C : Int) (hC : Hid (C = sgnI a b)) (w : World) : Calls Tryz.prog 105 #[.int .i64 a, .int .i64 b] w fun e w' => e = .returned (.int .i64 C) ∧ w' = w :=
  (rsgn_any a b w).mono fun e w' ⟨h, hw⟩ => ⟨by rw [h, hC.out], hw.symm⟩

set_option maxRecDepth 100000 in
theorem rhasn_any (l : List Int) (k : Int) (v : Value) (w : World) (hl : SlI w none v l) : Calls Tryz.prog 155 #[v, .int .i64 k] w fun e w' => e = .returned (.bool (l.any fun x => decide (x = k))) ∧ w = w' := by
  obtain ⟨A, c, rfl, q1, q2, hc⟩ := hl.open_
  clear hl
  go_enter Tryz.func155, Tryz.ntmps155
  go_wp2
  go_loop [9] (fun i => ∃ j : Nat, j ≤ l.length ∧ i = .int .i64 (j : Int) ∧ Hid ((l.any fun x => decide (x = k)) = (l.drop j).any fun x => decide (x = k))) (fun i => l.length - (intOf i).toNat)
  case atStart => exact ⟨0, Nat.zero_le _, rfl, by simp [Hid]⟩
  case round =>
    obtain ⟨j, hj, rfl, HJ⟩ := hrel
    by_cases hlt : j < l.length
    · obtain ⟨b, off, rfl, hb, _, hcc⟩ := hc (by omega)
      have hck := hcc j hlt
      have hd2 : Hid (l.drop j = l[j] :: l.drop (j + 1)) := List.drop_eq_getElem_cons hlt
      clear hcc hc
      obtain ⟨x, hx⟩ : ∃ x, x = l[j] := ⟨_, rfl⟩
      rw [← hx] at hck hd2
      clear hx
      by_cases he : x = k
      · subst he
        go_wp2
        go_ret
        exact ⟨ret_bool (by rw [HJ.out, hd2.out]; simp), rfl⟩
      · have he1 : (x == k) = false := by rw [beq_eq_false_iff_ne]; exact he
        have HE := Lib.hid he
        clear he
        go_wp2
        go_round
        case rel => exact ⟨j + 1, by omega, by go_num, by unfold Hid; rw [HJ.out, hd2.out, List.any_cons, decide_eq_false HE.out]; rfl⟩
        case measure => simp [intOf]; omega
    · obtain rfl : j = l.length := by omega
      go_wp2
      go_ret
      exact ⟨ret_bool (by rw [HJ.out]; simp), rfl⟩

theorem cmpNs_end : ∀ (k : Nat) (a b : List Int), k ≤ a.length → k ≤ b.length → (a.length ≤ k ∨ b.length ≤ k) → cmpNs (a.drop k) (b.drop k) = sgnI a.length b.length := by
  intro k a b h1 h2 h3
  have e1 : a.length = k + (a.drop k).length := by simp; omega
  have e2 : b.length = k + (b.drop k).length := by simp; omega
  generalize a.drop k = x at *
  generalize b.drop k = y at *
  unfold sgnI
  cases x with
  | nil =>
    cases y with
    | nil => simp at e1 e2; simp [cmpNs, e1, e2]
    | cons y s => simp at e1 e2; rw [if_pos (by omega)]; simp [cmpNs]
  | cons x r =>
    cases y with
    | nil => simp at e1 e2; rw [if_neg (by omega), if_pos (by omega)]; simp [cmpNs]
    | cons y s => simp at e1 e2; omega
theorem cmpTs_end : ∀ (k : Nat) (a b : List Tr), k ≤ a.length → k ≤ b.length → (a.length ≤ k ∨ b.length ≤ k) → cmpTs (a.drop k) (b.drop k) = sgnI a.length b.length := by
  intro k a b h1 h2 h3
  have e1 : a.length = k + (a.drop k).length := by simp; omega
  have e2 : b.length = k + (b.drop k).length := by simp; omega
  generalize a.drop k = x at *
  generalize b.drop k = y at *
  unfold sgnI
  cases x with
  | nil =>
    cases y with
    | nil => simp at e1 e2; simp [cmpTs, e1, e2]
    | cons y s => simp at e1 e2; rw [if_pos (by omega)]; simp [cmpTs]
  | cons x r =>
    cases y with
    | nil => simp at e1 e2; rw [if_neg (by omega), if_pos (by omega)]; simp [cmpTs]
    | cons y s => simp at e1 e2; omega

set_option maxRecDepth 100000 in
set_option maxHeartbeats 4000000 in
theorem rcmp_any (d : Nat) : ∀ (a b : Tr) (va vb : Value) (w : World) (r : Option Nat), a.dep ≤ d → TrR w r va a → TrR w r vb b →
    Calls Tryz.prog 44 #[va, vb] w fun e w' => e = .returned (.int .i64 (cmpT a b)) ∧ Fr none w w' := by
  induction d with
  | zero =>
    intro a b va vb w r hd
    cases a
    simp [Tr.dep] at hd
  | succ d ih =>
    intro a b va vb w r hd ha hb
    obtain ⟨t1, n1, i1⟩ := a
    obtain ⟨t2, n2, i2⟩ := b
    obtain ⟨A, c, A', c', rfl, hthr, hn, hn2, hi2, hi3, hi4, hcell⟩ := ha.open_
    obtain ⟨B, e, B', e', rfl, kthr, kn, kn2, ki2, ki3, ki4, kcell⟩ := hb.open_
    have hdi : depL i1 ≤ d := by simp only [Tr.dep] at hd; omega
    have HE : Hid (cmpT (.mk t1 n1 i1) (.mk t2 n2 i2) = if sgnI t1 t2 ≠ 0 then sgnI t1 t2 else if cmpNs n1 n2 ≠ 0 then cmpNs n1 n2 else cmpTs i1 i2) := by unfold Hid; simp only [cmpT]
    clear hd ha hb
    go_enter Tryz.func44, Tryz.ntmps44
    go_upto_region 1 with (fail)
    generalize hW : (w.alloc _).alloc _ = w1
    have F1 : Fr none w w1 := hW ▸ ((Fr.refl none w).alloc _).alloc _
    have b0 : TB w1 w.heap.size (.int .i64 t1) (.slice A n1.length c) (.slice A' i1.length c') := by rw [← hW]; exact (Below.heap_alloc _ _ _ (by simp)).trans (blk_new _ _)
    have b1 : TB w1 (w.heap.size + 1) (.int .i64 t2) (.slice B n2.length e) (.slice B' i2.length e') := by rw [← hW]; exact blk_new_at (by simp) _
    clear hW
    have hn1 := hn.fr (F1.mono (r := r))
    have kn1 := kn.fr (F1.mono (r := r))
    obtain ⟨_, _, e0, _, _, hnc⟩ := hn1.open_
    injection e0 with e01 _ e03
    subst e01 e03
    obtain ⟨_, _, e0, _, _, knc⟩ := kn1.open_
    injection e0 with e01 _ e03
    subst e01 e03
    have R0 := b0.cell
    have R1 := b1.cell
    clear hn kn hn1 kn1
    obtain ⟨C1, hC1⟩ : ∃ C, C = sgnI t1 t2 := ⟨_, rfl⟩
    rw [← hC1] at HE
    have HC1 := Lib.hid hC1
    clear hC1
    by_cases hc1 : C1 = 0
    · subst hc1
      have HF : Hid (cmpT (.mk t1 n1 i1) (.mk t2 n2 i2) = if cmpNs n1 n2 ≠ 0 then cmpNs n1 n2 else cmpTs i1 i2) := by unfold Hid; rw [HE.out, if_neg (by simp)]
      clear HE
      go_wp2_with (go_at_call 105; (with_reducible refine (rsgn_any _ _ _).mono ?_); rintro e w' ⟨rfl, rfl⟩; rw [← HC1.out])
      go_loopw [6, 7] (fun s6 s7 wr => ∃ k : Nat, s6 = .int .i64 (k : Int) ∧ k ≤ n1.length ∧ k ≤ n2.length ∧ Fr none w1 wr ∧ Hid (cmpNs n1 n2 = cmpNs (n1.drop k) (n2.drop k))) (fun s6 _ _ => n1.length - (intOf s6).toNat)
      case atStart => exact ⟨0, rfl, Nat.zero_le _, Nat.zero_le _, Fr.refl _ _, by simp [Hid]⟩
      case round =>
        clear R0 R1
        obtain ⟨k, rfl, hk1, hk2, F, HK⟩ := hrel
        have R0 := (b0.fr F (by simp)).cell
        have R1 := (b1.fr F (by simp)).cell
        by_cases hlt : k < n1.length ∧ k < n2.length
        · obtain ⟨h1, h2⟩ := hlt
          obtain ⟨p, o, rfl, p1, p2, hcc⟩ := hnc (by omega)
          obtain ⟨q, u, rfl, q1, q2, kcc⟩ := knc (by omega)
          have d1 := F.keep (hcc k h1) (by simp)
          have d2 := F.keep (kcc k h2) (by simp)
          have hd1 : Hid (n1.drop k = n1[k] :: n1.drop (k + 1)) := List.drop_eq_getElem_cons h1
          have hd2 : Hid (n2.drop k = n2[k] :: n2.drop (k + 1)) := List.drop_eq_getElem_cons h2
          obtain ⟨x, hx⟩ : ∃ x, x = n1[k] := ⟨_, rfl⟩
          obtain ⟨y, hy⟩ : ∃ y, y = n2[k] := ⟨_, rfl⟩
          rw [← hx] at d1 hd1
          rw [← hy] at d2 hd2
          obtain ⟨C2, hC2⟩ : ∃ C, C = sgnI x y := ⟨_, rfl⟩
          have HC2 := Lib.hid hC2
          have HK2 : Hid (cmpNs n1 n2 = if C2 ≠ 0 then C2 else cmpNs (n1.drop (k + 1)) (n2.drop (k + 1))) := by unfold Hid; rw [HK.out, hd1.out, hd2.out, hC2]; rfl
          clear hx hy hC2 hnc knc hcc kcc HK
          by_cases hc2 : C2 = 0
          · subst hc2
            go_wp2_with fail
            go_quiet ((go_at_call 105; exact Calls.quiet_of_same (rsign_fix x y _ HC2 _)))
            go_wp2_with fail
            go_roundw
            case rel => exact ⟨k + 1, by go_num, by omega, by omega, F.drewN _, by unfold Hid; rw [HK2.out, if_neg (by simp)]⟩
            case measure => simp [intOf]; omega
          · have hb2 : (C2 != 0) = true := by rw [bne_iff_ne]; exact hc2
            have HFF : Hid (cmpT (.mk t1 n1 i1) (.mk t2 n2 i2) = C2) := by unfold Hid; rw [HF.out, HK2.out, if_pos hc2, if_pos hc2]
            clear hc2
            go_wp2_with fail
            go_quiet ((go_at_call 105; exact Calls.quiet_of_same (rsign_fix x y _ HC2 _)))
            go_wp2_with fail
            go_ret
            exact ⟨ret_int (by rw [HFF.out]), F1.pure (F.drewN _)⟩
        · have hend : cmpNs n1 n2 = sgnI n1.length n2.length := by rw [HK.out]; exact cmpNs_end k n1 n2 hk1 hk2 (by omega)
          obtain ⟨C3, hC3⟩ : ∃ C, C = sgnI n1.length n2.length := ⟨_, rfl⟩
          rw [← hC3] at hend
          have HC3 := Lib.hid hC3
          have HG : Hid (cmpT (.mk t1 n1 i1) (.mk t2 n2 i2) = if C3 ≠ 0 then C3 else cmpTs i1 i2) := by unfold Hid; rw [HF.out, hend]
          clear hC3 hend HK hnc knc HF
          by_cases hg1 : k < n1.length
          · have hg2 : ¬ k < n2.length := by omega
            clear hlt
            by_cases hc3 : C3 = 0
            · subst hc3
              have HH : Hid (cmpT (.mk t1 n1 i1) (.mk t2 n2 i2) = cmpTs i1 i2) := by unfold Hid; rw [HG.out, if_neg (by simp)]
              clear HG
              go_wp2_with (go_at_call 105; (with_reducible refine (rsgn_any _ _ _).mono ?_); rintro e w' ⟨rfl, rfl⟩; rw [← HC3.out])
              have F2 := F1.pure F
              have b0' := b0.fr F (by simp)
              have b1' := b1.fr F (by simp)
              clear R0 R1 b0 b1 F F1
              obtain ⟨wo, hwo⟩ : ∃ wo : World, wo = wr := ⟨_, rfl⟩
              subst hwo
              go_loopw [9, 10] (fun s9 s10 wr => ∃ k : Nat, s9 = .int .i64 (k : Int) ∧ k ≤ i1.length ∧ k ≤ i2.length ∧ Fr none wo wr ∧ Hid (cmpTs i1 i2 = cmpTs (i1.drop k) (i2.drop k))) (fun s9 _ _ => i1.length - (intOf s9).toNat)
              case atStart => exact ⟨0, rfl, Nat.zero_le _, Nat.zero_le _, Fr.refl _ _, by simp [Hid]⟩
              case round =>
                obtain ⟨k, rfl, hk1, hk2, F, HK⟩ := hrel
                have F3 := F2.pure F
                have R0 := (b0'.fr F (by simp)).cell
                have R1 := (b1'.fr F (by simp)).cell
                by_cases hlt : k < i1.length ∧ k < i2.length
                · obtain ⟨h1, h2⟩ := hlt
                  obtain ⟨p, o, rfl, p1, p2, hcc⟩ := hcell (by omega)
                  obtain ⟨q, u, rfl, q1, q2, kcc⟩ := kcell (by omega)
                  obtain ⟨x, y, z, g0, g1, g2, gt⟩ := hcc k h1
                  obtain ⟨th, X1, m1, y1, X2, m2, y2, rfl, rfl, rfl⟩ := gt.shape
                  obtain ⟨x', y', z', l0, l1, l2, lt⟩ := kcc k h2
                  obtain ⟨th', x1, v1, z1, x2, v2, z2, rfl, rfl, rfl⟩ := lt.shape
                  have g0' := F3.keep g0 (by simp)
                  have g1' := F3.keep g1 (by simp)
                  have g2' := F3.keep g2 (by simp)
                  have l0' := F3.keep l0 (by simp)
                  have l1' := F3.keep l1 (by simp)
                  have l2' := F3.keep l2 (by simp)
                  have hdd : (i1[k]).dep ≤ d := by have := depL_get i1 k h1; omega
                  have gt' := gt.fr (F3.mono (r := r))
                  have lt' := lt.fr (F3.mono (r := r))
                  have hd1 : i1.drop k = i1[k] :: i1.drop (k + 1) := List.drop_eq_getElem_cons h1
                  have hd2 : i2.drop k = i2[k] :: i2.drop (k + 1) := List.drop_eq_getElem_cons h2
                  obtain ⟨C4, hC4⟩ : ∃ C, C = cmpT i1[k] i2[k] := ⟨_, rfl⟩
                  have HC4 := Lib.hid hC4
                  have HK2 : Hid (cmpTs i1 i2 = if C4 ≠ 0 then C4 else cmpTs (i1.drop (k + 1)) (i2.drop (k + 1))) := by unfold Hid; rw [HK.out, hd1, hd2, hC4]; simp only [cmpTs]
                  clear hC4 hcell kcell hcc kcc HK g0 g1 g2 l0 l1 l2 hd1 hd2
                  go_wp2_with fail
                  go_still_tail 10, (by kernel_rfl)
                  change wpList _ _ _ _ _ wr.drew
                  go_wp2_with fail
                  refine (ih i1[k] i2[k] _ _ _ r hdd (gt'.fr (Fr.refl _ _).drew) (lt'.fr (Fr.refl _ _).drew)).mono ?_
                  rintro e3 w2 ⟨rfl, F4⟩
                  rw [← HC4.out]
                  have F5 : Fr none wr w2 := (Fr.refl _ _).drew.pure F4
                  clear g0' g1' g2' l0' l1' l2' R0 R1
                  by_cases hc4 : C4 = 0
                  · subst hc4
                    go_wp2_with fail
                    go_roundw
                    case rel => exact ⟨k + 1, by go_num, by omega, by omega, F.pure F5, by unfold Hid; rw [HK2.out, if_neg (by simp)]⟩
                    case measure => simp [intOf]; omega
                  · have hb4 : (C4 != 0) = true := by rw [bne_iff_ne]; exact hc4
                    have HFF : Hid (cmpT (.mk t1 n1 i1) (.mk t2 n2 i2) = C4) := by unfold Hid; rw [HH.out, HK2.out, if_pos hc4]
                    clear hc4
                    go_wp2_with fail
                    go_ret
                    exact ⟨ret_int (by rw [HFF.out]), F3.pure F5⟩
                · have hend : cmpTs i1 i2 = sgnI i1.length i2.length := by rw [HK.out]; exact cmpTs_end k i1 i2 hk1 hk2 (by omega)
                  obtain ⟨C5, hC5⟩ : ∃ C, C = sgnI i1.length i2.length := ⟨_, rfl⟩
                  have HC5 := Lib.hid hC5
                  have HZ : Hid (cmpT (.mk t1 n1 i1) (.mk t2 n2 i2) = C5) := by unfold Hid; rw [HH.out, hend, hC5]
                  clear hC5 hend HK
                  by_cases hg1 : k < i1.length
                  · have hg2 : ¬ k < i2.length := by omega
                    clear hlt
                    go_wp2_with (go_at_call 105; (with_reducible refine (rsgn_any _ _ _).mono ?_); rintro e w' ⟨rfl, rfl⟩; rw [← HC5.out])
                    go_ret
                    exact ⟨ret_int (by rw [HZ.out]), F3⟩
                  · clear hlt
                    go_wp2_with (go_at_call 105; (with_reducible refine (rsgn_any _ _ _).mono ?_); rintro e w' ⟨rfl, rfl⟩; rw [← HC5.out])
                    go_ret
                    exact ⟨ret_int (by rw [HZ.out]), F3⟩
            · have hb3 : (C3 != 0) = true := by rw [bne_iff_ne]; exact hc3
              have HFF : Hid (cmpT (.mk t1 n1 i1) (.mk t2 n2 i2) = C3) := by unfold Hid; rw [HG.out, if_pos hc3]
              clear hc3 HG
              go_wp2_with (go_at_call 105; (with_reducible refine (rsgn_any _ _ _).mono ?_); rintro e w' ⟨rfl, rfl⟩; rw [← HC3.out])
              go_ret
              exact ⟨ret_int (by rw [HFF.out]), F1.pure F⟩
          · clear hlt
            by_cases hc3 : C3 = 0
            · subst hc3
              have HH : Hid (cmpT (.mk t1 n1 i1) (.mk t2 n2 i2) = cmpTs i1 i2) := by unfold Hid; rw [HG.out, if_neg (by simp)]
              clear HG
              go_wp2_with (go_at_call 105; (with_reducible refine (rsgn_any _ _ _).mono ?_); rintro e w' ⟨rfl, rfl⟩; rw [← HC3.out])
              have F2 := F1.pure F
              have b0' := b0.fr F (by simp)
              have b1' := b1.fr F (by simp)
              clear R0 R1 b0 b1 F F1
              obtain ⟨wo, hwo⟩ : ∃ wo : World, wo = wr := ⟨_, rfl⟩
              subst hwo
              go_loopw [9, 10] (fun s9 s10 wr => ∃ k : Nat, s9 = .int .i64 (k : Int) ∧ k ≤ i1.length ∧ k ≤ i2.length ∧ Fr none wo wr ∧ Hid (cmpTs i1 i2 = cmpTs (i1.drop k) (i2.drop k))) (fun s9 _ _ => i1.length - (intOf s9).toNat)
              case atStart => exact ⟨0, rfl, Nat.zero_le _, Nat.zero_le _, Fr.refl _ _, by simp [Hid]⟩
              case round =>
                obtain ⟨k, rfl, hk1, hk2, F, HK⟩ := hrel
                have F3 := F2.pure F
                have R0 := (b0'.fr F (by simp)).cell
                have R1 := (b1'.fr F (by simp)).cell
                by_cases hlt : k < i1.length ∧ k < i2.length
                · obtain ⟨h1, h2⟩ := hlt
                  obtain ⟨p, o, rfl, p1, p2, hcc⟩ := hcell (by omega)
                  obtain ⟨q, u, rfl, q1, q2, kcc⟩ := kcell (by omega)
                  obtain ⟨x, y, z, g0, g1, g2, gt⟩ := hcc k h1
                  obtain ⟨th, X1, m1, y1, X2, m2, y2, rfl, rfl, rfl⟩ := gt.shape
                  obtain ⟨x', y', z', l0, l1, l2, lt⟩ := kcc k h2
                  obtain ⟨th', x1, v1, z1, x2, v2, z2, rfl, rfl, rfl⟩ := lt.shape
                  have g0' := F3.keep g0 (by simp)
                  have g1' := F3.keep g1 (by simp)
                  have g2' := F3.keep g2 (by simp)
                  have l0' := F3.keep l0 (by simp)
                  have l1' := F3.keep l1 (by simp)
                  have l2' := F3.keep l2 (by simp)
                  have hdd : (i1[k]).dep ≤ d := by have := depL_get i1 k h1; omega
                  have gt' := gt.fr (F3.mono (r := r))
                  have lt' := lt.fr (F3.mono (r := r))
                  have hd1 : i1.drop k = i1[k] :: i1.drop (k + 1) := List.drop_eq_getElem_cons h1
                  have hd2 : i2.drop k = i2[k] :: i2.drop (k + 1) := List.drop_eq_getElem_cons h2
                  obtain ⟨C4, hC4⟩ : ∃ C, C = cmpT i1[k] i2[k] := ⟨_, rfl⟩
                  have HC4 := Lib.hid hC4
                  have HK2 : Hid (cmpTs i1 i2 = if C4 ≠ 0 then C4 else cmpTs (i1.drop (k + 1)) (i2.drop (k + 1))) := by unfold Hid; rw [HK.out, hd1, hd2, hC4]; simp only [cmpTs]
                  clear hC4 hcell kcell hcc kcc HK g0 g1 g2 l0 l1 l2 hd1 hd2
                  go_wp2_with fail
                  go_still_tail 10, (by kernel_rfl)
                  change wpList _ _ _ _ _ wr.drew
                  go_wp2_with fail
                  refine (ih i1[k] i2[k] _ _ _ r hdd (gt'.fr (Fr.refl _ _).drew) (lt'.fr (Fr.refl _ _).drew)).mono ?_
                  rintro e3 w2 ⟨rfl, F4⟩
                  rw [← HC4.out]
                  have F5 : Fr none wr w2 := (Fr.refl _ _).drew.pure F4
                  clear g0' g1' g2' l0' l1' l2' R0 R1
                  by_cases hc4 : C4 = 0
                  · subst hc4
                    go_wp2_with fail
                    go_roundw
                    case rel => exact ⟨k + 1, by go_num, by omega, by omega, F.pure F5, by unfold Hid; rw [HK2.out, if_neg (by simp)]⟩
                    case measure => simp [intOf]; omega
                  · have hb4 : (C4 != 0) = true := by rw [bne_iff_ne]; exact hc4
                    have HFF : Hid (cmpT (.mk t1 n1 i1) (.mk t2 n2 i2) = C4) := by unfold Hid; rw [HH.out, HK2.out, if_pos hc4]
                    clear hc4
                    go_wp2_with fail
                    go_ret
                    exact ⟨ret_int (by rw [HFF.out]), F3.pure F5⟩
                · have hend : cmpTs i1 i2 = sgnI i1.length i2.length := by rw [HK.out]; exact cmpTs_end k i1 i2 hk1 hk2 (by omega)
                  obtain ⟨C5, hC5⟩ : ∃ C, C = sgnI i1.length i2.length := ⟨_, rfl⟩
                  have HC5 := Lib.hid hC5
                  have HZ : Hid (cmpT (.mk t1 n1 i1) (.mk t2 n2 i2) = C5) := by unfold Hid; rw [HH.out, hend, hC5]
                  clear hC5 hend HK
                  by_cases hg1 : k < i1.length
                  · have hg2 : ¬ k < i2.length := by omega
                    clear hlt
                    go_wp2_with (go_at_call 105; (with_reducible refine (rsgn_any _ _ _).mono ?_); rintro e w' ⟨rfl, rfl⟩; rw [← HC5.out])
                    go_ret
                    exact ⟨ret_int (by rw [HZ.out]), F3⟩
                  · clear hlt
                    go_wp2_with (go_at_call 105; (with_reducible refine (rsgn_any _ _ _).mono ?_); rintro e w' ⟨rfl, rfl⟩; rw [← HC5.out])
                    go_ret
                    exact ⟨ret_int (by rw [HZ.out]), F3⟩
            · have hb3 : (C3 != 0) = true := by rw [bne_iff_ne]; exact hc3
              have HFF : Hid (cmpT (.mk t1 n1 i1) (.mk t2 n2 i2) = C3) := by unfold Hid; rw [HG.out, if_pos hc3]
              clear hc3 HG
              go_wp2_with (go_at_call 105; (with_reducible refine (rsgn_any _ _ _).mono ?_); rintro e w' ⟨rfl, rfl⟩; rw [← HC3.out])
              go_ret
              exact ⟨ret_int (by rw [HFF.out]), F1.pure F⟩
    · have hb1 : (C1 != 0) = true := by rw [bne_iff_ne]; exact hc1
      have HFF : Hid (cmpT (.mk t1 n1 i1) (.mk t2 n2 i2) = C1) := by unfold Hid; rw [HE.out, if_pos hc1]
      clear hc1 HE
      go_wp2_with (go_at_call 105; (with_reducible refine (rsgn_any _ _ _).mono ?_); rintro e w' ⟨rfl, rfl⟩; rw [← HC1.out])
      go_ret
      exact ⟨ret_int (by rw [HFF.out]), F1⟩
end Go.Proofs.YtpdhckbiioobhaaGreatDoor

/- Walk: (*trustquorumplay.Src).Trust: a valid trust over n nodes. -/
import Derived.Test.YtidnnjgiogklaaaDoorFlat
namespace Go.Proofs.YtidnnjgiogklaaaDoor
open Go.RowKit

/-- What Src.Trust(n) makes. -/
def Played (n : Nat) (t : Tr) : Prop :=
  t.nodes ≠ [] ∧ t.nodes.Pairwise (· < ·) ∧ (∀ x ∈ t.nodes, 0 ≤ x ∧ x < n) ∧ (t.inner = [] ∨ ∃ x : Int, 0 ≤ x ∧ x < n ∧ t.inner = [.mk 1 [x] []]) ∧
    1 ≤ t.thr ∧ t.thr ≤ t.nodes.length + t.inner.length

def PlayP (w : World) (g n : Nat) (e : Ending) (w' : World) : Prop :=
  ∃ v t, e = .returned v ∧ Played n t ∧ TrR w' (some g) v t ∧ SrcR 74 w' g ∧ Fr (some g) w w'

/-- The struct that the call fills: block b of w. -/
def TB (w : World) (b : Nat) (x y z : Value) : Prop := w.heap[b]? = some (.cells #[x, y, z] 27 (0, 0))
theorem TB.fr {w w' : World} {b : Nat} {x y z : Value} {r : Option Nat} (h : TB w b x y z) (f : Fr r w w') (hr : r ≠ some b) : TB w' b x y z := blk_fr h f hr
theorem TB.cell {w : World} {b : Nat} {x y z : Value} (h : TB w b x y z) : ∀ i, w.cell? ⟨b, i, none⟩ = #[x, y, z][i]? := blk_cell h
theorem TB.free {w : World} {b : Nat} {x y z : Value} (h : TB w b x y z) : ∀ i, w.frozen? ⟨b, i, none⟩ = false := blk_free h
theorem TB.set0 {w : World} {b : Nat} {x y z : Value} (h : TB w b x y z) (u : Value) : TB (w.setCell ⟨b, 0, none⟩ u) b u y z := by simpa [TB] using blk_set h 0 u
theorem TB.set1 {w : World} {b : Nat} {x y z : Value} (h : TB w b x y z) (u : Value) : TB (w.setCell ⟨b, 1, none⟩ u) b x u z := by simpa [TB] using blk_set h 1 u
theorem TB.set2 {w : World} {b : Nat} {x y z : Value} (h : TB w b x y z) (u : Value) : TB (w.setCell ⟨b, 2, none⟩ u) b x y u := by simpa [TB] using blk_set h 2 u

set_option maxRecDepth 100000 in
set_option maxHeartbeats 4000000 in
theorem srcTrust_any (n : Nat) (g : Nat) (w : World) (h0 : 1 ≤ n) (h1 : n ≤ 100) (hS : SrcR 74 w g) :
    Calls Tryd.prog 13 #[.pointer (some ⟨g, 0, none⟩), .int .i64 n] w (PlayP w g n) := by
  have hg := hS.lt
  go_enter Tryd.func13, Tryd.ntmps13
  go_wp2_with fail
  generalize hW : (w.alloc _).alloc _ = w1
  have hz : w1.heap.size = w.heap.size + 2 := by rw [← hW]; simp
  have F1 : Fr none w w1 := hW ▸ ((Fr.refl _ w).alloc _).alloc _
  have b4 : TB w1 w.heap.size (.int .i64 0) (.slice none 0 0) (.slice none 0 0) := by
    rw [← hW]; exact (Below.heap_alloc _ _ _ (by simp)).trans (blk_new _ _)
  have b5 : TB w1 (w.heap.size + 1) (.int .i64 0) (.slice none 0 0) (.slice none 0 0) := by
    rw [← hW]; exact blk_new_at (by simp) _
  clear hW
  go_loopw [6] (fun i wr => ∃ (j : Nat) (l : List Int), j ≤ n ∧ i = .int .i64 j ∧ Fr (some g) w wr ∧ w.heap.size + 2 ≤ wr.heap.size ∧ SrcR 74 wr g ∧ l.Pairwise (· < ·) ∧ (∀ x ∈ l, 0 ≤ x ∧ x < j) ∧ l.length ≤ j ∧
      TB wr w.heap.size (.int .i64 0) (.slice none 0 0) (.slice none 0 0) ∧
      ∃ A c, TB wr (w.heap.size + 1) (.int .i64 0) (.slice A l.length c) (.slice none 0 0) ∧ wr.ownsRow (w.heap.size + 2) 3 1 (.slice A l.length c) l.length (l.map (Value.int .i64))) (fun i _ => n - (intOf i).toNat)
  case atStart => exact ⟨0, [], Nat.zero_le _, rfl, F1.mono, by omega, hS.fr F1, .nil, by simp, by simp, b4, none, 0, b5, World.ownsRow_nil _ _ _ _⟩
  case round =>
    obtain ⟨j, l, hj, rfl, F, hs, S, lp, lb, ll, K4, A, c, K5, own⟩ := hrel
    by_cases hlt : j < n
    · go_wp2_with fail
      refine (srcN_any 5 g _ (by omega) S).mono ?_
      rintro e w2 ⟨x, rfl, x1, x2, S2, F2⟩
      have gne : some g ≠ some (w.heap.size + 1) := by simp; omega
      have K4' := K4.fr F2 (by simp; omega)
      have K5' := K5.fr F2 (by simp; omega)
      have own2 := own_fr own F2 (by simp; omega)
      have R5' := K5'.cell
      have Z5' := K5'.free
      have hz2 := F2.size
      go_wp2_with (at_builtin; refine app_lit eiInt rfl _ _ rfl (w.heap.size + 2) A l.length c _ rfl own2 1 [.int .i64 j] _ _ rfl (by simp) rfl (by simp [Value.oneCell']) (by omega) (by unfold maxLen; omega) (by omega) ?_; intro A' c' w' own' F' bl'; have K5'' := K5'.fr F' (own_ne own2 (by omega)); have K4'' := K4'.fr F' (own_ne own2 (by omega)); have R5'' := K5''.cell; have Z5'' := K5''.free; have hz3 := F'.size; clear R5' Z5')
      · go_roundw
        case rel =>
          refine ⟨j + 1, l ++ [(j : Int)], by omega, by go_num, ((F.same F2).own F' (fun g e => by have := own_blk_ge own2 g e; omega)).setNew (by simp) _, by simp; omega, (S2.frs F' (fun b e => by have := own_blk_ge own2 b e; omega)).frs (Fr.set1 _ _ _) (by simp; omega), ?_, ?_, by simp; omega, K4''.fr (Fr.set1 _ _ _) (by simp), A', c', ?_, ?_⟩
          · rw [List.pairwise_append]; exact ⟨lp, by simp, fun a ha b hb => by have := lb a ha; simp at hb; omega⟩
          · intro y hy; rcases List.mem_append.1 hy with h | h
            · have := lb y h; omega
            · simp at h; omega
          · simpa using K5''.set1 (.slice A' (l.length + 1) c')
          · rw [List.map_append]
            have := own_fr own' (Fr.set1 w' ⟨w.heap.size + 1, 1, none⟩ (.slice A' (l.length + 1) c')) (by simp)
            simpa using this
        case measure => simp [intOf]; omega
      · go_roundw
        case rel =>
          exact ⟨j + 1, l, by omega, by go_num, F.same F2, by omega, S2, lp, fun x hx => by have := lb x hx; omega, by omega, K4', A, c, K5', own2⟩
        case measure => simp [intOf]; omega
    · obtain rfl : j = n := by omega
      have R5 := K5.cell
      go_upto_if 25 with (fail)
      go_cut [] (fun wr => ∃ (l : List Int) (A : Option Addr) (c : Nat), Fr (some g) w wr ∧ w.heap.size + 2 ≤ wr.heap.size ∧ SrcR 74 wr g ∧ l ≠ [] ∧ l.Pairwise (· < ·) ∧ (∀ x ∈ l, 0 ≤ x ∧ x < (j : Int)) ∧ l.length ≤ j ∧
          TB wr w.heap.size (.int .i64 0) (.slice none 0 0) (.slice none 0 0) ∧ TB wr (w.heap.size + 1) (.int .i64 0) (.slice A l.length c) (.slice none 0 0) ∧ SlD wr (Dn (w.heap.size + 2) wr) 1 (.slice A l.length c) (l.map (Value.int .i64)))
      case first =>
        by_cases hl : l = []
        · subst hl
          have hl0 : (((([] : List Int).length : Nat) : Int) == 0) = true := rfl
          go_wp2_with fail
          refine (srcN_any j g _ (by omega) S).mono ?_
          rintro e w2 ⟨x, rfl, x1, x2, S2, F2⟩
          have K4' := K4.fr F2 (by simp; omega)
          have K5' := K5.fr F2 (by simp; omega)
          have Z5' := K5'.free
          have R5' := K5'.cell
          have hz2 := F2.size
          have hz3 : w.heap.size + 1 < w2.heap.size := by omega
          go_wp2_with fail
          go_meet
          have FS := Fr.set1 w2 ⟨w.heap.size + 1, 1, none⟩ (.slice (some ⟨w2.heap.size, 0, none⟩) 1 1)
          have S4 := S2.frs FS (by simp; omega)
          have K4'' := K4'.fr FS (by simp)
          have K5'' := K5'.set1 (.slice (some ⟨w2.heap.size, 0, none⟩) 1 1)
          have F4 := (F.same F2).own FS (by simp)
          have e4 : w2.heap.size = (w2.setCell ⟨w.heap.size + 1, 1, none⟩ (.slice (some ⟨w2.heap.size, 0, none⟩) 1 1)).heap.size := by simp [World.setCell]
          generalize hV : Value.slice (some ⟨w2.heap.size, 0, none⟩) 1 1 = V at *
          generalize w2.setCell _ _ = w4 at *
          rw [e4] at hV
          subst hV
          have hA := (Fr.refl none w4).alloc (.cells #[.int .i64 x] 3)
          exact ⟨[x], _, _, F4.pure hA, by have := hA.size; omega, S4.fr hA, by simp, by simp, by intro y hy; simp at hy; omega, by simp; omega, K4''.fr hA (by simp), K5''.fr hA (by simp), SlD.lit_dn #[.int .i64 x] 3 1 1 (w.heap.size + 2) rfl (by unfold maxLen; omega) (by omega) (Fr.refl none _)⟩
        · have hl0 : ((l.length : Int) == 0) = false := by
            rw [beq_eq_false_iff_ne]
            have := List.length_pos_iff.2 hl
            omega
          go_wp2_with fail
          go_meet
          exact ⟨l, A, c, F, hs, S, hl, lp, lb, ll, K4, K5, SlD.own_dn own⟩
      case rest =>
        clear own K5 K4 S hs F R5 A c lp lb ll l
        obtain ⟨l, A, c, F, hs, S, ln, lp, lb, ll, K4, K5, own⟩ := hcut
        go_upto_if 33 with (go_at_call 14; refine (srcN_any 4 g _ (by omega) S).mono ?_; rintro e w2 ⟨x, rfl, x1, x2, S2, F2⟩; have K4' := K4.fr F2 (by simp; omega); have K5' := K5.fr F2 (by simp; omega); have hz2 := F2.size)
        go_cut [] (fun wr => ∃ (A : Option Addr) (c : Nat) (inner : List Tr) (A2 : Option Addr) (c2 : Nat) (cells : List Value), Fr (some g) w wr ∧ w.heap.size + 2 ≤ wr.heap.size ∧ SrcR 74 wr g ∧
          (inner = [] ∨ ∃ x : Int, 0 ≤ x ∧ x < (j : Int) ∧ inner = [.mk 1 [x] []]) ∧ TB wr w.heap.size (.int .i64 0) (.slice none 0 0) (.slice none 0 0) ∧
          TB wr (w.heap.size + 1) (.int .i64 0) (.slice A l.length c) (.slice A2 inner.length c2) ∧ SlD wr (Dn (w.heap.size + 2) wr) 1 (.slice A l.length c) (l.map (Value.int .i64)) ∧ SlD wr (Dn (w.heap.size + 2) wr) 3 (.slice A2 inner.length c2) cells ∧ TrsD wr (Dn (w.heap.size + 2) wr) cells inner)
        case first =>
          have own2 := own.keep (dn_fr F2 (by simp; omega))
          by_cases hx : x = 3
          · subst hx
            have Z5' := K5'.free
            have R5' := K5'.cell
            go_wp2_with fail
            have hz4 : w.heap.size + 1 < w2.heap.size := by omega
            go_region_law (first
                | (go_simp; go_at_call 14; refine (srcN_any j g _ (by omega) (by exact S2.drew)).mono ?_; rintro e w3 ⟨y, rfl, y1, y2, S3, F3⟩; have T3 := (K5'.fr (Fr.refl none w2).drew (by simp)).fr F3 (by simp; omega); have R3 := T3.cell; have Z3 := T3.free; have hz5 : w.heap.size + 1 < w3.heap.size := (by (have := F3.size; simp at this; omega)); have hz6 : w.heap.size < w3.heap.size := (by omega))
                | (refine step_app_lit eiTrust rfl _ _ rfl (w.heap.size + 2) none 0 0 [] rfl (World.ownsRow_nil _ _ _ _) 1 [.int .i64 1, .slice (some ⟨w3.heap.size, 0, none⟩) 1 1, .slice none 0 0] 27 _ rfl (by simp) rfl (by simp [Value.oneCell']) (by omega) (by unfold maxLen; omega) (by simp; omega) ?_; intro A2 c2 w5 own5 F5 bl5; have T5 := (T3.fr ((Fr.refl none w3).alloc _) (by simp)).fr F5 (by simp [Value.ownBlock]); have R6 := T5.cell; have Z6 := T5.free))
            all_goals
              go_wp2_with fail
              go_meet
              have F25 : Fr (some g) w2 w5 := ((((Fr.refl (some g) w2).drew).same F3).alloc _).pure F5
              have FS := Fr.set1 w5 ⟨w.heap.size + 1, 2, none⟩ (.slice A2 1 c2)
              have S6 := ((S3.fr ((Fr.refl none w3).alloc _)).fr F5).frs FS (by simp; omega)
              have T4 := ((K4'.fr F25 (by simp; omega)).fr FS (by simp))
              have T6 := T5.set2 (.slice A2 1 c2)
              have n6 := (own2.keep (dn_fr F25 (by simp; omega))).keep (dn_fr FS (by simp))
              have o6 := (SlD.own_dn own5).keep (dn_fr FS (by simp))
              have l6 := (SlD.lit_dn #[.int .i64 y] 3 1 1 (w.heap.size + 2) rfl (by unfold maxLen; omega) (by omega) F5).keep (dn_fr FS (by simp))
              refine ⟨A, c, [.mk 1 [y] []], A2, c2, _, ((F.same F2).same F25).own FS (by simp), by have := FS.size; have := F25.size; omega, S6, .inr ⟨y, y1, by omega, rfl⟩, T4, T6, n6, o6, ?_⟩
              simp only [List.nil_append, TrsD, TrD]
              exact ⟨_, _, _, [], rfl, ⟨_, _, [], rfl, by constructor <;> omega, l6, by simp; constructor <;> omega, SlD.nil _ _ _, by unfold Few; simp, by unfold Few; simp, rfl⟩, rfl⟩
          · have hx3 : (x == 3) = false := by rw [beq_eq_false_iff_ne]; exact hx
            go_wp2_with fail
            go_meet
            exact ⟨A, c, [], none, 0, [], F.same F2, by omega, S2, .inl rfl, K4', K5', own2, SlD.nil _ _ _, by simp [TrsD]⟩
        case rest =>
          clear own K5 K4 S hs F K4' K5' S2 F2 hz2 A c
          obtain ⟨A, c, inner, A2, c2, cells, F, hs, S, hin, K4, K5, own, own2, hts⟩ := hcut
          have hil : inner.length ≤ 1 := by rcases hin with rfl | ⟨x, _, _, rfl⟩ <;> simp
          have hl1 : 1 ≤ l.length := List.length_pos_iff.2 ln
          have R5 := K5.cell
          have Z5 := K5.free
          go_wp2_with fail
          refine (srcRange_any _ _ g _ (by omega) (by omega) (by omega) (by omega) S).mono ?_
          rintro e w3 ⟨y, rfl, y1, y2, S3, F3⟩
          have y3 : 1 ≤ y := by omega
          have y4 : y ≤ l.length + inner.length := by omega
          have hz3 := F3.size
          have K4' := K4.fr F3 (by simp; omega)
          have K5' := K5.fr F3 (by simp; omega)
          have Z5' := K5'.free
          have R5' := K5'.cell
          clear R5 Z5 y1 y2
          go_wp2_with fail
          have FS := Fr.set1 w3 ⟨w.heap.size + 1, 0, none⟩ (.int .i64 y)
          have S4 := S3.frs FS (by simp; omega)
          have K4'' := K4'.fr FS (by simp)
          have K5'' := K5'.set0 (.int .i64 y)
          generalize w3.setCell _ _ = w4 at *
          have own' := (own.keep (dn_fr F3 (by simp; omega))).keep (dn_fr FS (by simp))
          have own2' := (own2.keep (dn_fr F3 (by simp; omega))).keep (dn_fr FS (by simp))
          have hts' := TrsD.keep (dn_fr FS (by simp)) _ _ (TrsD.keep (dn_fr F3 (by simp; omega)) _ _ hts)
          have F4 := (F.same F3).own FS (by simp)
          have hz4 := FS.size
          generalize w3.setCell _ _ = w4 at *
          clear F3 S3 K4' K5' K4 K5 R5' Z5' FS own own2 hts F S
          refine (srcN_any 6 g _ (by omega) S4).mono ?_
          rintro e w5 ⟨q, rfl, q1, q2, S5, F5⟩
          have K4 := K4''.fr F5 (by simp; omega)
          have K5 := K5''.fr F5 (by simp; omega)
          have own := own'.keep (dn_fr F5 (by simp; omega))
          have own2 := own2'.keep (dn_fr F5 (by simp; omega))
          have hts := TrsD.keep (dn_fr F5 (by simp; omega)) _ _ hts'
          have F := F4.same F5
          have hz5 := F5.size
          clear K4'' K5'' own' own2' hts' S4 F4 F5
          go_upto_if 60 with (fail)
          go_cut [] (fun wr => ∃ th : Int, 1 ≤ th ∧ th ≤ l.length + inner.length ∧ Fr (some g) w wr ∧ w.heap.size + 2 ≤ wr.heap.size ∧ SrcR 74 wr g ∧ TB wr w.heap.size (.int .i64 0) (.slice none 0 0) (.slice none 0 0) ∧
            TB wr (w.heap.size + 1) (.int .i64 th) (.slice A l.length c) (.slice A2 inner.length c2) ∧ SlD wr (Dn (w.heap.size + 2) wr) 1 (.slice A l.length c) (l.map (Value.int .i64)) ∧ SlD wr (Dn (w.heap.size + 2) wr) 3 (.slice A2 inner.length c2) cells ∧ TrsD wr (Dn (w.heap.size + 2) wr) cells inner)
          case first =>
            have R5 := K5.cell
            have Z5 := K5.free
            by_cases hq : q = 5
            · subst hq
              go_wp2_with fail
              go_meet
              have FS := Fr.set1 w5 ⟨w.heap.size + 1, 0, none⟩ (.int .i64 1)
              exact ⟨1, by omega, by omega, F.own FS (by simp), by have := FS.size; omega, S5.frs FS (by simp; omega), K4.fr FS (by simp), K5.set0 _, own.keep (dn_fr FS (by simp)), own2.keep (dn_fr FS (by simp)), TrsD.keep (dn_fr FS (by simp)) _ _ hts⟩
            · have hq5 : (q == 5) = false := by rw [beq_eq_false_iff_ne]; exact hq
              go_wp2_with fail
              go_meet
              exact ⟨y, y3, y4, F, by omega, S5, K4, K5, own, own2, hts⟩
          case rest =>
            clear own own2 hts S5 F K4 K5 y3 y4
            obtain ⟨th, t1, t2, F, hs6, S, K4, K5, own, own2, hts⟩ := hcut
            have R4 := K4.cell
            have Z4 := K4.free
            have R5 := K5.cell
            go_wp2_with fail
            refine bodyPost_ret (v := .agg #[.int .i64 th, .slice A l.length c, .slice A2 inner.length c2]) (by simp [results, Tryd.results13, go_sem, R4]) rfl ?_
            have G1 := Fr.set1 wc ⟨w.heap.size, 0, none⟩ (.int .i64 th)
            have F := F.own G1 (by simp)
            have S := S.frs G1 (by simp; omega)
            have own := own.keep (dn_fr G1 (by simp))
            have own2 := own2.keep (dn_fr G1 (by simp))
            have hts := TrsD.keep (dn_fr G1 (by simp)) _ _ hts
            generalize wc.setCell _ _ = v1 at *
            have G1 := Fr.set1 v1 ⟨w.heap.size, 1, none⟩ (.slice A l.length c)
            have F := F.own G1 (by simp)
            have S := S.frs G1 (by simp; omega)
            have own := own.keep (dn_fr G1 (by simp))
            have own2 := own2.keep (dn_fr G1 (by simp))
            have hts := TrsD.keep (dn_fr G1 (by simp)) _ _ hts
            generalize v1.setCell _ _ = v2 at *
            have G1 := Fr.set1 v2 ⟨w.heap.size, 2, none⟩ (.slice A2 inner.length c2)
            have F := F.own G1 (by simp)
            have S := S.frs G1 (by simp; omega)
            have own := own.keep (dn_fr G1 (by simp))
            have own2 := own2.keep (dn_fr G1 (by simp))
            have hts := TrsD.keep (dn_fr G1 (by simp)) _ _ hts
            generalize v2.setCell _ _ = v3 at *
            have hd : ∀ k, Dn (w.heap.size + 2) v3 k → Dm v3 (some g) k ∧ v3.heap[k]? = v3.heap[k]? := dn_dm (by simp; omega)
            refine ⟨_, .mk th l inner, rfl, ⟨ln, lp, lb, hin, t1, by simpa [Tr.thr, Tr.nodes, Tr.inner] using t2⟩, TrR.mk_ (by constructor <;> omega) ⟨own.keep hd, fun x hx => by have := lb x hx; constructor <;> omega⟩ (own2.keep hd) (by omega) (by omega) (TrsD.keep hd _ _ hts), S, F⟩
end Go.Proofs.YtidnnjgiogklaaaDoor

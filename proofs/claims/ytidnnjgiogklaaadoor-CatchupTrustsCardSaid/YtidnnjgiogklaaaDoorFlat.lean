/- Walks: trustquorumplay.Flat. -/
import Derived.Test.YtidnnjgiogklaaaDoorPlay
import Derived.Test.YtidnnjgiogklaaaDoorApp
namespace Go.Proofs.YtidnnjgiogklaaaDoor
open Go.RowKit

theorem eiInt : EInfo Tryd.prog 22 3 1 8 := EInfo.mk_ (z := .int .i64 0) (by kernel_rfl) (by kernel_rfl) rfl (by omega)
theorem eiTrust : EInfo Tryd.prog 25 27 3 56 := EInfo.mk_ (z := .agg #[.int .i64 0, .slice none 0 0, .slice none 0 0]) (by kernel_rfl) (by kernel_rfl) rfl (by omega)

/-- Every block of r is there. -/
def Lt (r : Option Nat) (w : World) : Prop := ∀ g, r = some g → g < w.heap.size

/-- A call that makes a trust, and touches nothing. -/
def TrP (w : World) (r : Option Nat) (t : Tr) (e : Ending) (w' : World) : Prop := ∃ v, e = .returned v ∧ TrR w' r v t ∧ Fr none w w'

def ints (n : Nat) : List Int := (List.range n).map Int.ofNat
theorem ints_succ (n : Nat) : ints (n + 1) = ints n ++ [(n : Int)] := by simp [ints, List.range_succ]
theorem ints_len (n : Nat) : (ints n).length = n := by simp [ints]

theorem flat_any (n k : Int) (w : World) (r : Option Nat) (hr : Lt r w) (h0 : 0 ≤ n) (h1 : n ≤ 100) (hk : Wi k) :
    Calls Tryd.prog 49 #[.int .i64 n, .int .i64 k] w (TrP w r (.mk k (ints n.toNat) [])) := by
  obtain ⟨m, rfl⟩ := Int.eq_ofNat_of_zero_le h0
  rw [Int.toNat_natCast]
  go_enter Tryd.func49, Tryd.ntmps49
  go_wp2_with fail
  generalize hW : (w.alloc _).alloc _ = w1
  have hz : w1.heap.size = w.heap.size + 2 := by rw [← hW]; simp
  have F1 : Fr none w w1 := hW ▸ ((Fr.refl _ w).alloc _).alloc _
  have b4 : w1.heap[w.heap.size]? = some (.cells #[.int .i64 0, .slice none 0 0, .slice none 0 0] 27 (0, 0)) := by
    rw [← hW, Below.heap_alloc _ _ _ (by simp)]; exact blk_new _ _
  have b5 : w1.heap[w.heap.size + 1]? = some (.cells #[.int .i64 k, .slice none 0 0, .slice none 0 0] 27 (0, 0)) := by
    rw [← hW]; exact blk_new_at (by simp) _
  clear hW
  have H4 := Lib.hid b4
  have H5 := Lib.hid b5
  clear b4 b5
  go_loopw [6] (fun i wr => ∃ j : Nat, j ≤ m ∧ i = .int .i64 j ∧ Fr none w wr ∧ w.heap.size + 2 ≤ wr.heap.size ∧
      Hid (wr.heap[w.heap.size]? = some (.cells #[.int .i64 0, .slice none 0 0, .slice none 0 0] 27 (0, 0))) ∧
      ∃ A c, Hid (wr.heap[w.heap.size + 1]? = some (.cells #[.int .i64 k, .slice A j c, .slice none 0 0] 27 (0, 0))) ∧
        wr.ownsRow (w.heap.size + 2) 3 1 (.slice A j c) j ((ints j).map (Value.int .i64))) (fun i _ => m - (intOf i).toNat)
  case atStart => exact ⟨0, Nat.zero_le _, rfl, F1, by omega, H4, none, 0, H5, World.ownsRow_nil _ _ _ _⟩
  case round =>
    obtain ⟨j, hj, rfl, F, hs, K4, A, c, K5, own⟩ := hrel
    have R4 := blk_cell K4.out
    have Z4 := blk_free K4.out
    have R5 := blk_cell K5.out
    have Z5 := blk_free K5.out
    by_cases hlt : j < m
    · go_wp2_with (at_builtin; refine app_lit eiInt rfl _ _ rfl (w.heap.size + 2) A j c _ rfl own 1 [.int .i64 j] _ _ rfl (by simp) rfl (by simp [Value.oneCell']) (by omega) (by unfold maxLen; omega) (by omega) ?_; intro A' c' w' own' F' bl'; have K5' := Lib.hid (blk_fr K5.out F' (own_ne own (by omega))); have K4' := Lib.hid (blk_fr K4.out F' (own_ne own (by omega))); have R5' := blk_cell K5'.out; have Z5' := blk_free K5'.out; clear R4 Z4 R5 Z5)
      go_roundw
      case rel =>
        refine ⟨j + 1, by omega, by go_num, (F.own F' (fun g e => by have := own_blk_ge own g e; omega)).setNew (by simp) _, by have := F'.size; simp; omega, Lib.hid (blk_fr K4'.out (Fr.set1 _ _ _) (by simp)), A', c', Lib.hid ?_, ?_⟩
        · have := blk_set K5'.out 1 (.slice A' (j + 1) c')
          simpa using this
        · rw [ints_succ, List.map_append]
          exact own_fr own' (Fr.set1 _ _ _) (by simp)
      case measure => simp [intOf]; omega
    · obtain rfl : j = m := by omega
      go_wp2
      refine bodyPost_ret (v := .agg #[.int .i64 k, .slice A j c, .slice none 0 0]) (by simp [results, Tryd.results49, go_sem, R4]) rfl ?_
      have F2 : Fr none w (((wr.setCell ⟨w.heap.size, 0, none⟩ (.int .i64 k)).setCell ⟨w.heap.size, 1, none⟩ (.slice A j c)).setCell ⟨w.heap.size, 2, none⟩ (.slice none 0 0)) := ((F.setNew (by simp) _).setNew (by simp) _).setNew (by simp) _
      refine ⟨_, rfl, TrR.mk_ hk (SlI.of_own (base := w.heap.size + 2) (e := 3) (n := j) ?_ ?_ ?_) (SlD.nil _ _ _) (by simp [ints]; omega) (by simp) (by simp [TrsD]), F2⟩
      · exact own_fr (own_fr (own_fr own (Fr.set1 _ _ _) (by simp)) (Fr.set1 _ _ _) (by simp)) (Fr.set1 _ _ _) (by simp)
      · intro g e; have := hr g e; omega
      · intro x hx
        simp only [ints, List.mem_map, List.mem_range] at hx
        obtain ⟨y, hy, rfl⟩ := hx
        constructor <;> simp <;> omega
end Go.Proofs.YtidnnjgiogklaaaDoor

/- Walks: the reference's Nodes. -/
import Derived.Test.YtidcjafmcjfkgaaDoorProg
import Derived.Test.YtidcjafmcjfkgaaDoorNsT
import Derived.Test.YtidcjafmcjfkgaaDoorSet
namespace Go.Proofs.YtidcjafmcjfkgaaDoor
open Go.RowKit

set_option maxRecDepth 100000 in
theorem rnodes_any (s : Int) (w : World) : Calls Tryd.prog 14 #[.int .i64 s] w fun e w' =>
    ∃ A c, e = .returned (.slice A (nodesK s 10).length c) ∧ Fr none w w' ∧ w'.ownsRow w.heap.size 3 1 (.slice A (nodesK s 10).length c) (nodesK s 10).length ((nodesK s 10).map (Value.int .i64)) := by
  go_enter Tryd.func14, Tryd.ntmps14
  go_wp2_with fail
  go_loopw [3, 4] (fun v i wr => ∃ (j : Nat) (l : List Int) (A : Option Addr) (c : Nat), j ≤ 10 ∧ i = .int .i64 j ∧ l = nodesK s j ∧ v = .slice A l.length c ∧ Fr none w wr ∧ wr.ownsRow w.heap.size 3 1 (.slice A l.length c) l.length (l.map (Value.int .i64))) (fun _ i _ => 10 - (intOf i).toNat)
  case atStart => exact ⟨0, [], none, 0, Nat.zero_le _, rfl, rfl, rfl, Fr.refl _ _, World.ownsRow_nil _ _ _ _⟩
  case round =>
    obtain ⟨j, l, A, c, hj, rfl, hl, rfl, F, own⟩ := hrel
    have hz := F.size
    have hlen : l.length ≤ 10 := by rw [hl]; have := nodesK_len s j; omega
    have HL := Lib.hid hl
    clear hl
    by_cases hlt : j < 10
    · cases hb : hasB s j with
      | true =>
        have HB := Lib.hid hb
        clear hb
        go_wp2_with (first | (go_at_call 37; refine (rhas_any _ _ _).mono ?_; rintro e w' ⟨rfl, rfl⟩; rw [HB.out]) | (at_builtin; refine app_lit eiInt rfl _ _ rfl w.heap.size A l.length c _ rfl own 1 [.int .i64 j] _ _ rfl (by simp) rfl (by simp [Value.oneCell']) (by omega) (by unfold maxLen; omega) (by omega) ?_; intro A' c' w' own' F' bl'))
        have og := own_blk_ge own
        go_roundw
        case rel => exact ⟨j + 1, l ++ [(j : Int)], A', c', by omega, by go_num, by rw [nodesK_succ, HB.out, HL.out]; rfl, by simp, F.own F' og, by simpa using own'⟩
        case measure => simp [intOf]; omega
      | false =>
        have HB := Lib.hid hb
        clear hb
        go_wp2_with (go_at_call 37; refine (rhas_any _ _ _).mono ?_; rintro e w' ⟨rfl, rfl⟩; rw [HB.out])
        go_roundw
        case rel => exact ⟨j + 1, l, A, c, by omega, by go_num, by rw [nodesK_succ, HB.out, HL.out]; simp, rfl, F, own⟩
        case measure => simp [intOf]; omega
    · obtain rfl : j = 10 := by omega
      go_wp2_with fail
      go_ret
      rw [← HL.out]
      exact ⟨A, c, rfl, F, own⟩
end Go.Proofs.YtidcjafmcjfkgaaDoor

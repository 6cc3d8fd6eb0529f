/- Walks: nodeset.Subsets. -/
import Derived.Test.YtidcjafmcjfkgaaDoorProg
import Derived.Test.YtidcjafmcjfkgaaDoorLeastW
import Derived.Test.YtidcjafmcjfkgaaDoorSubP
namespace Go.Proofs.YtidcjafmcjfkgaaDoor
open Go.RowKit

def rawSub (s k : Nat) : List Int := (ints k).filter fun t => subI t (s : Int)
def subS (s : Nat) : List Int := sortS (rawSub s (s + 1))
theorem rawSub_succ (s k : Nat) : rawSub s (k + 1) = rawSub s k ++ (if subI (k : Int) (s : Int) then [(k : Int)] else []) := by
  simp [rawSub, ints_succ, List.filter_append, List.filter_cons]
theorem rawSub_len (s k : Nat) : (rawSub s k).length ≤ k := by
  have h := List.length_filter_le (fun t => subI t (s : Int)) (ints k)
  rw [ints_len] at h
  exact h

set_option maxRecDepth 100000 in
theorem subsets_any (s : Nat) (hs : s ≤ 1023) (w : World) : Calls Tryd.prog 16 #[.int .i64 s] w fun e w' =>
    ∃ v', e = .returned v' ∧ OwnH w' w.heap.size v' (subS s) ∧ Fr none w w' := by
  have hv : validB (s : Int) = true := by simp [validB]; omega
  have H := Lib.hid hv
  clear hv
  go_enter Tryd.func16, Tryd.ntmps16
  go_wp2_with fail
  go_loopw [3, 4] (fun v i wr => ∃ (j : Nat) (o : List Int) (B : Option Addr) (d : Nat), j ≤ s + 1 ∧ i = .int .i64 j ∧ o = rawSub s j ∧ v = .slice B o.length d ∧ Fr none w wr ∧ wr.ownsRow w.heap.size 3 1 (.slice B o.length d) o.length (o.map (Value.int .i64))) (fun _ i _ => s + 1 - (intOf i).toNat)
  case atStart => exact ⟨0, [], none, 0, Nat.zero_le _, rfl, rfl, rfl, Fr.refl _ _, World.ownsRow_nil _ _ _ _⟩
  case round =>
    obtain ⟨j, o, B, d, hj, rfl, ho, rfl, F, own⟩ := hrel
    have hz := F.size
    have hol : o.length ≤ j := by rw [ho]; exact rawSub_len s j
    have HO := Lib.hid ho
    clear ho
    by_cases hlt : j < s + 1
    · have hjs : j ≤ s := by omega
      cases hb : subI (j : Int) (s : Int) with
      | true =>
        have hb2 : (bits .andNot .i64 (j : Int) (s : Int) == 0) = true := hb
        have HB := Lib.hid hb
        have hb3 : bits .andNot .i64 (j : Int) (s : Int) = 0 := by simpa using hb2
        clear hb hb2
        go_wp2_with (first | (go_at_call 28; refine (valid_any _ _).mono ?_; rintro e w' ⟨rfl, rfl⟩; rw [H.out]) | (at_builtin; refine app_lit eiInt rfl _ _ rfl w.heap.size B o.length d _ rfl own 1 [.int .i64 j] _ _ rfl (by simp) rfl (by simp [Value.oneCell']) (by omega) (by unfold maxLen; omega) (by omega) ?_; intro A' c' w' own' F' bl'))
        have og := own_blk_ge own
        go_roundw
        case rel => exact ⟨j + 1, o ++ [(j : Int)], A', c', by omega, by go_num, by rw [rawSub_succ, HB.out, HO.out]; rfl, by simp, F.own F' og, by simpa using own'⟩
        case measure => simp [intOf]; omega
      | false =>
        have hb2 : (bits .andNot .i64 (j : Int) (s : Int) == 0) = false := hb
        have HB := Lib.hid hb
        have hb3 : ¬ bits .andNot .i64 (j : Int) (s : Int) = 0 := by simpa using hb2
        clear hb hb2
        go_wp2_with (go_at_call 28; refine (valid_any _ _).mono ?_; rintro e w' ⟨rfl, rfl⟩; rw [H.out])
        go_roundw
        case rel => exact ⟨j + 1, o, B, d, by omega, by go_num, by rw [rawSub_succ, HB.out, HO.out]; simp, rfl, F, own⟩
        case measure => simp [intOf]; omega
    · obtain rfl : j = s + 1 := by omega
      have O1 := OwnH.of_own own
      have hfin : sortS o = subS s := by rw [HO.out]; rfl
      have HF := Lib.hid hfin
      clear hfin
      go_wp2_with (first | (go_at_call 28; refine (valid_any _ _).mono ?_; rintro e w' ⟨rfl, rfl⟩; rw [H.out]) | (go_at_call 29; refine (sort_any o _ _ _ O1 (by omega)).mono ?_; rintro e w2 ⟨rfl, O2, r2, F2, hr2⟩; rw [HF.out] at O2))
      go_ret
      exact ⟨_, rfl, O2, F.own F2 hr2⟩
end Go.Proofs.YtidcjafmcjfkgaaDoor

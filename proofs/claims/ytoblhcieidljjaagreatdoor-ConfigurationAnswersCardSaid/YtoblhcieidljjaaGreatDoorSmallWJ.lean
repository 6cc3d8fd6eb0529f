/- Walks: mk.entries, mk.SmallTrust at trusts as they come in. -/
import Derived.Test.YtoblhcieidljjaaGreatDoorProg
import Derived.Test.YtoblhcieidljjaaGreatDoorRawJ
import Derived.Test.YtoblhcieidljjaaGreatDoorJG4
set_option linter.unusedSimpArgs false
set_option linter.unusedVariables false
namespace Go.Proofs.YtoblhcieidljjaaGreatDoor
open Go.RowKit

/-- What entries hands back: up to 400 it is the count. -/
def EntP (n : Nat) (t : Tr) (w : World) (e : Ending) (w' : World) : Prop :=
  ∃ m : Nat, e = .returned (.int .i64 (m : Int)) ∧ m ≤ 17592186044900 ∧ (m ≤ 400 → m = n + 1 + t.size) ∧ Fr none w w'

set_option maxRecDepth 100000 in
set_option maxHeartbeats 1000000 in
theorem entries_any (d : Nat) : ∀ (t : Tr) (v : Value) (n : Nat) (w : World), t.dep ≤ d → n ≤ 400 → RwD w v t →
    Calls Tryz.prog 100 #[v, .int .i64 (n : Int)] w (EntP n t w) := by
  induction d with
  | zero =>
    intro t v n w hd
    cases t
    simp [Tr.dep] at hd
  | succ d ih =>
    intro t v n w hd hn h
    obtain ⟨thr, nodes, inner⟩ := t
    obtain ⟨A, c, A', c', rfl, hthr, hl1, hl2, hi2, hi3, hcell⟩ := h.open_
    clear h
    go_enter Tryz.func100, Tryz.ntmps100
    go_wp2_with fail
    generalize hW : w.alloc _ = w1
    have F1 : Fr none w w1 := hW ▸ (Fr.refl none w).alloc _
    have b1 : TB w1 w.heap.size (.int .i64 thr) (.slice A nodes.length c) (.slice A' inner.length c') := by rw [← hW]; exact blk_new _ _
    clear hW
    go_loopw [1, 5] (fun s1 s5 wr => ∃ (m k : Nat), s1 = .int .i64 (m : Int) ∧ s5 = .int .i64 (k : Int) ∧ k ≤ inner.length ∧ m ≤ 17592186044900 ∧ (m ≤ 400 → m = n + 1 + nodes.length + k + sizeL (inner.take k)) ∧ (400 < m ∨ n + 1 + nodes.length + k ≤ m) ∧ Fr none w1 wr) (fun _ s5 _ => inner.length - (intOf s5).toNat)
    case atStart => exact ⟨n + (1 + nodes.length), 0, by go_num, rfl, Nat.zero_le _, by omega, fun _ => by simp [sizeL]; omega, by omega, Fr.refl _ _⟩
    case round =>
      obtain ⟨m, k, rfl, rfl, hk, hm, hm1, hm2, F2⟩ := hrel
      have K2 := b1.fr F2 (by simp)
      have R2 := K2.cell
      by_cases hq : m ≤ 400
      · by_cases hlt : k < inner.length
        · obtain ⟨b, off, rfl, hb, hc⟩ := hcell (by omega)
          obtain ⟨x, y, z, g0, g1, g2, gt⟩ := hc k hlt
          obtain ⟨th, A1, n1, c1, A2, n2, c2, rfl, rfl, rfl⟩ := gt.shape3
          have F3 := F1.pure F2
          have g0' := F3.keep g0 (by simp)
          have g1' := F3.keep g1 (by simp)
          have g2' := F3.keep g2 (by simp)
          have hdd : (inner[k]).dep ≤ d := by have := depL_get inner k hlt; simp only [Tr.dep] at hd; omega
          have gt' := gt.fr F3
          have hs := sizeL_take inner k hlt
          have HM := Lib.hid hm1
          have HS := Lib.hid hs
          clear g0 g1 g2 hc hcell hm1 hs
          go_wp2_with fail
          refine (ih inner[k] _ m _ hdd hq gt').mono ?_
          rintro e w2 ⟨m', rfl, hm', hm1', F4⟩
          go_wp2_with fail
          go_roundw
          case rel => exact ⟨m', k + 1, rfl, by go_num, by omega, hm', fun h => by have h1 := hm1' h; have h2 := HM.out hq; rw [HS.out]; omega, by have h2 := HM.out hq; omega, F2.pure F4⟩
          case measure => simp [intOf]; omega
        · obtain rfl : k = inner.length := by omega
          have HM := Lib.hid hm1
          clear hm1
          go_wp2_with fail
          go_ret
          exact ⟨m, rfl, hm, fun h => by have h2 := HM.out h; rw [List.take_length] at h2; simp only [Tr.size]; omega, F1.pure F2⟩
      · clear hm1 hm2
        by_cases hlt : k < inner.length
        all_goals
          go_wp2_with fail
          go_ret
          exact ⟨m, rfl, hm, fun h => absurd h hq, F1.pure F2⟩
/-- Is a trust small? If so it reads as one. -/
def SmallP (t : Tr) (w : World) (e : Ending) (w' : World) : Prop := ∃ b, e = .returned (.bool b) ∧ (b = true → t.size ≤ 400) ∧ Fr none w w'
theorem small_any (t : Tr) (v : Value) (w : World) (h : RwD w v t) : Calls Tryz.prog 67 #[v] w (SmallP t w) := by
  obtain ⟨th, A1, n1, c1, A2, n2, c2, rfl⟩ := h.shape
  go_enter Tryz.func67, Tryz.ntmps67
  go_wp2_with fail
  generalize hW : w.alloc _ = w1
  have F1 : Fr none w w1 := hW ▸ (Fr.refl none w).alloc _
  have h1 := h.fr F1
  clear hW
  refine (entries_any t.dep t _ 0 _ (Nat.le_refl _) (by omega) h1).mono ?_
  rintro e w2 ⟨m, rfl, hm, hm1, F2⟩
  go_wp2_with fail
  go_ret
  exact ⟨_, rfl, fun hb => by have hb := of_decide_eq_true hb; have := hm1 (by omega); omega, F1.pure F2⟩
end Go.Proofs.YtoblhcieidljjaaGreatDoor

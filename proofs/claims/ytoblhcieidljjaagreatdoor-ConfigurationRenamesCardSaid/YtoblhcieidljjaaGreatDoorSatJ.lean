/- Walks: Satisfied of package threshold and of the reference: what 'sat' says. -/
import Derived.Test.YtoblhcieidljjaaGreatDoorJG7
set_option linter.unusedSimpArgs false
set_option linter.unusedVariables false
namespace Go.Proofs.YtoblhcieidljjaaGreatDoor
open Go.RowKit

theorem rsat_any (d : Nat) : ∀ (t : Tr) (s : Int) (v : Value) (w : World) (r : Option Nat), t.dep ≤ d → TrR w r v t →
    Calls Tryz.prog 45 #[v, .int .i64 s] w fun e w' => e = .returned (.bool (sat s t)) ∧ Fr none w w' := by
  induction d with
  | zero =>
    intro t s v w r hd
    cases t
    simp [Tr.dep] at hd
  | succ d ih =>
    intro t s v w r hd h
    obtain ⟨thr, nodes, inner⟩ := t
    obtain ⟨A, c, A', c', rfl, hthr, hn, hn2, hi2, hi3, hi4, hcell⟩ := h.open_
    by_cases hv : validB s = true
    · go_enter Tryz.func45, Tryz.ntmps45
      go_wp2_with (go_at_call 98; refine (rvalid_any _ _).mono ?_; rintro e w' ⟨rfl, rfl⟩)
      generalize hW : w.alloc _ = w1
      have F1 : Fr none w w1 := hW ▸ (Fr.refl _ _).alloc _
      have hn' := hn.fr (F1.mono (r := r))
      obtain ⟨A0, c0, e0, q1, q2, hc1⟩ := hn'.open_
      injection e0 with e1 _ e3
      subst e1 e3
      have c0' : w1.cell? ⟨w.heap.size, 0, none⟩ = some (.int .i64 thr) := by rw [← hW]; exact cell_new _ _ _ _
      have c2' : w1.cell? ⟨w.heap.size, 2, none⟩ = some (.slice A' inner.length c') := by rw [← hW]; exact cell_new _ _ _ _
      have hz : w.heap.size < w1.heap.size := by rw [← hW]; simp
      have HS := Lib.hid hv
      clear hW hv
      go_loop [5, 16] (fun n i => ∃ k : Nat, k ≤ nodes.length ∧ i = .int .i64 k ∧ n = .int .i64 ((cntN s (nodes.take k) : Nat) : Int)) (fun _ i => nodes.length - (intOf i).toNat)
      case atStart => exact ⟨0, Nat.zero_le _, rfl, rfl⟩
      case round =>
        obtain ⟨k, hk, rfl, rfl⟩ := hrel
        have hle := cntN_le s (nodes.take k)
        have hle2 : (nodes.take k).length ≤ k := List.length_take_le _ _
        by_cases hlt : k < nodes.length
        · obtain ⟨b, off, rfl, hb, hbr, hc⟩ := hc1 (by omega)
          have hck := hc k hlt
          have ht := Lib.hid (cntN_take s nodes k hlt)
          go_wp2_with (go_at_call 99; refine (rhas_any _ _ _).mono ?_; rintro e w' ⟨rfl, rfl⟩)
          all_goals
            go_round
            case rel => exact ⟨k + 1, by omega, by go_num, by rw [ht.out]; simp [*]⟩
            case measure => simp [intOf]; omega
        · obtain rfl : k = nodes.length := by omega
          go_wp2_with fail
          have hle2 := cntN_le s nodes
          go_loopw [5, 29] (fun n i wr => Fr none w1 wr ∧ ∃ k : Nat, k ≤ inner.length ∧ i = .int .i64 k ∧ n = .int .i64 ((cntN s nodes + cntI s (inner.take k) : Nat) : Int)) (fun _ i _ => inner.length - (intOf i).toNat)
          case atStart => exact ⟨Fr.refl _ _, 0, Nat.zero_le _, rfl, by simp [cntI]⟩
          case round =>
            obtain ⟨F2, k, hk, rfl, rfl⟩ := hrel
            have hle := cntI_le s (inner.take k)
            have hle3 : (inner.take k).length ≤ k := List.length_take_le _ _
            have c0'' := F2.keep c0' (by simp)
            by_cases hlt : k < inner.length
            · obtain ⟨b, off, rfl, hb, hbr, hc⟩ := hcell (by omega)
              obtain ⟨x, y, z, g0, g1, g2, gt⟩ := hc k hlt
              obtain ⟨th, A1, n1, c1, A2, n2, c2, rfl, rfl, rfl⟩ := gt.shape
              have F3 := F1.pure F2
              have g0' := F3.keep g0 (by simp)
              have g1' := F3.keep g1 (by simp)
              have g2' := F3.keep g2 (by simp)
              have ht := Lib.hid (cntI_take s inner k hlt)
              have hdd : (inner[k]).dep ≤ d := by have := depL_get inner k hlt; simp only [Tr.dep] at hd; omega
              have gt' := (gt.fr (F3.mono (r := r)))
              clear c0' c2' g0 g1 g2
              go_wp2_with fail
              refine (ih inner[k] s _ _ r hdd (gt'.fr ((Fr.refl _ _).alloc _))).mono ?_
              rintro e w2 ⟨rfl, F4⟩
              have F5 := (F2.alloc _).pure F4
              clear c0'' g0' g1' g2' F4
              go_wp2_with fail
              all_goals
                go_roundw
                case rel => exact ⟨F5, k + 1, by omega, by go_num, by rw [ht.out]; simp [*]; try omega⟩
                case measure => simp [intOf]; omega
            · obtain rfl : k = inner.length := by omega
              go_wp2
              go_ret
              refine ⟨ret_bool ?_, F1.pure F2⟩
              simp [sat, HS.out]
    · have hb : sat s (.mk thr nodes inner) = false := by simp [sat, hv]
      have H := Lib.hid hb
      clear hb
      go_enter Tryz.func45, Tryz.ntmps45
      go_wp2_with (go_at_call 98; refine (rvalid_any _ _).mono ?_; rintro e w' ⟨rfl, rfl⟩)
      all_goals (go_ret; exact ⟨ret_bool H.out.symm, (Fr.refl _ _).alloc _⟩)

end Go.Proofs.YtoblhcieidljjaaGreatDoor

/- Some texts of this claim, joined: contracts of the functions that it reaches, and plain laws. -/
import Derived.Test.YtkpgnhdmlikopaaDoorProg
import Derived.Test.YtkpgnhdmlikopaaDoorJC4
import Derived.Test.YtkpgnhdmlikopaaDoorJC1
import Derived.RegionTactic

set_option linter.unusedSimpArgs false
set_option linter.unusedVariables false
/- Walks: claims.Plain; the reference's. -/
namespace Go.Proofs.YtkpgnhdmlikopaaDoor
open Go.RowKit

set_option maxRecDepth 100000 in
set_option maxHeartbeats 1000000 in
theorem cpln_any (l : List Cl) (v : Value) (w : World) (h : SlC w none v l) : Calls Tryd.prog 14 #[v] w fun e w' => e = .returned (.bool (plnC l)) ∧ Fr none w w' := by
  have h0 := h
  obtain ⟨A, c, rfl, q1, q2, hc⟩ := h.open_
  obtain ⟨X, hX⟩ : ∃ X, X = plnC l := ⟨_, rfl⟩
  rw [← hX]
  have HX := Lib.hid hX
  have HC := Lib.hid hc
  clear h hX hc h0
  go_enter Tryd.func14, Tryd.ntmps14
  go_wp2_with fail
  go_loopw [7] (fun s7 wr => ∃ k : Nat, k ≤ l.length ∧ s7 = .int .i64 (k : Int) ∧ Fr none w wr ∧ Hid (∀ j (hj : j < l.length), j < k → vCl l[j] = true ∧ (∀ _ : 0 < j, ltC (l[j - 1]'(by omega)) l[j] = true))) (fun s7 _ => l.length - (intOf s7).toNat)
  case atStart => exact ⟨0, Nat.zero_le _, rfl, Fr.refl _ _, Lib.hid (fun j hj h => by omega)⟩
  case round =>
    obtain ⟨k, hk, rfl, F, HN⟩ := hrel
    obtain ⟨wz, hwz⟩ : ∃ wz : World, wz = wr := ⟨_, rfl⟩
    subst hwz
    by_cases hlt : k < l.length
    · obtain ⟨b, off, rfl, hb, _, hcc⟩ := HC.out (by omega)
      obtain ⟨c1, c2⟩ := hcc k hlt
      have c1 := F.keep c1 (by simp)
      have c2 := F.keep c2 (by simp)
      obtain ⟨y, hy⟩ : ∃ y, y = l[k] := ⟨_, rfl⟩
      rw [← hy] at c1 c2
      have HY := Lib.hid hy
      have HCC := Lib.hid hcc
      clear hy hcc
      go_upto_region 4 with (fail)
      generalize hW : wz.alloc _ = wa
      have Fa : Fr none wz wa := hW ▸ (Fr.refl none wz).alloc _
      have b4 : CB2 wa wz.heap.size (.int .i64 y.1) (.int .i64 y.2) 38 := by rw [← hW]; exact blk_new _ _
      clear hW
      have F0a := F.pure Fa
      cases hv : vCl y with
      | false =>
        have HE : Hid (X = false) := by
          unfold Hid
          cases hx : X with
          | false => rfl
          | true =>
            have := (plnC_iff l).1 (by rw [← HX.out, hx])
            have := (this k hlt).1
            rw [← HY.out, hv] at this; cases this
        have HV := Lib.hid hv
        clear hv
        refine wp_region_held_drew (S := fun W => (W.cell? ⟨wz.heap.size, 0, none⟩ = some (.int .i64 y.1) ∧ W.cell? ⟨wz.heap.size, 1, none⟩ = some (.int .i64 y.2)) ∧ Fr none wa W) (by kernel_rfl) ⟨b4.cell, (Fr.refl _ _).drew⟩ (fun hH0 => ?_)
        refine wpAnyH_take (i := 0) (v := ?_) rfl (by kernel_rfl) (by kernel_rfl) (by kernel_rfl) (fun _ _ _ h => h) (Or.inl ⟨by rfl, ?_⟩) (by assumption) ?_
        rotate_left
        · (intro W hW; (try dsimp only at hW); go_simp; try with_reducible rfl)
        try simp only [Act.put, List.setIfInBounds_toArray, List.set_cons_zero, List.set_cons_succ, List.getElem_toArray, List.getElem_cons_zero, List.getElem_cons_succ]
        refine wpAnyH_ready (rs := [1]) (by kernel_rfl) (by simp) ?_
        refine AllReadyH.cons rfl (fun K hK => ?_) AllReadyH.nil
        simp only [List.getElem_toArray, List.getElem_cons_zero, List.getElem_cons_succ]
        go_simp
        go_at_call 26
        refine (cvl_any y _).mono ?_
        rintro e wN ⟨rfl, FN⟩
        have FN := hH0.2.pure FN
        refine hK.out _ _ ⟨(b4.fr FN (by simp)).cell, FN⟩ (fun hH1 => ?_)
        clear hK K hH0 FN
        have hH0 := hH1
        clear hH1
        rw [HV.out]
        try simp only [Act.put, List.setIfInBounds_toArray, List.set_cons_zero, List.set_cons_succ, List.getElem_toArray, List.getElem_cons_zero, List.getElem_cons_succ]
        refine wpAnyH_take (i := 2) (v := ?_) rfl (by kernel_rfl) (by kernel_rfl) (by kernel_rfl) (fun _ _ _ h => h) (Or.inl ⟨by rfl, ?_⟩) (by assumption) ?_
        rotate_left
        · (intro W hW; (try dsimp only at hW); go_simp; try with_reducible rfl)
        try simp only [Act.put, List.setIfInBounds_toArray, List.set_cons_zero, List.set_cons_succ, List.getElem_toArray, List.getElem_cons_zero, List.getElem_cons_succ]
        refine wpAnyH_take (i := 3) (v := ?_) rfl (by kernel_rfl) (by kernel_rfl) (by kernel_rfl) (fun _ _ _ h => h) (Or.inl ⟨by rfl, ?_⟩) (by assumption) ?_
        rotate_left
        · (intro W hW; (try dsimp only at hW); go_simp; try with_reducible rfl)
        try simp only [Act.put, List.setIfInBounds_toArray, List.set_cons_zero, List.set_cons_succ, List.getElem_toArray, List.getElem_cons_zero, List.getElem_cons_succ]
        refine wpAnyH_take (i := 4) (v := undef) rfl (by kernel_rfl) (by kernel_rfl) (by kernel_rfl) (fun _ _ _ h => h) (Or.inr ⟨by rfl, rfl⟩) (by assumption) ?_
        try simp only [Act.put, List.setIfInBounds_toArray, List.set_cons_zero, List.set_cons_succ, List.getElem_toArray, List.getElem_cons_zero, List.getElem_cons_succ]
        refine wpAnyH_take (i := 5) (v := undef) rfl (by kernel_rfl) (by kernel_rfl) (by kernel_rfl) (fun _ _ _ h => h) (Or.inr ⟨by rfl, rfl⟩) (by assumption) ?_
        try simp only [Act.put, List.setIfInBounds_toArray, List.set_cons_zero, List.set_cons_succ, List.getElem_toArray, List.getElem_cons_zero, List.getElem_cons_succ]
        refine wpAnyH_take (i := 6) (v := undef) rfl (by kernel_rfl) (by kernel_rfl) (by kernel_rfl) (fun _ _ _ h => h) (Or.inr ⟨by rfl, rfl⟩) (by assumption) ?_
        try simp only [Act.put, List.setIfInBounds_toArray, List.set_cons_zero, List.set_cons_succ, List.getElem_toArray, List.getElem_cons_zero, List.getElem_cons_succ]
        refine wpAnyH_take (i := 7) (v := undef) rfl (by kernel_rfl) (by kernel_rfl) (by kernel_rfl) (fun _ _ _ h => h) (Or.inr ⟨by rfl, rfl⟩) (by assumption) ?_
        try simp only [Act.put, List.setIfInBounds_toArray, List.set_cons_zero, List.set_cons_succ, List.getElem_toArray, List.getElem_cons_zero, List.getElem_cons_succ]
        refine wpAnyH_take (i := 8) (v := undef) rfl (by kernel_rfl) (by kernel_rfl) (by kernel_rfl) (fun _ _ _ h => h) (Or.inr ⟨by rfl, rfl⟩) (by assumption) ?_
        try simp only [Act.put, List.setIfInBounds_toArray, List.set_cons_zero, List.set_cons_succ, List.getElem_toArray, List.getElem_cons_zero, List.getElem_cons_succ]
        refine wpAnyH_take (i := 9) (v := undef) rfl (by kernel_rfl) (by kernel_rfl) (by kernel_rfl) (fun _ _ _ h => h) (Or.inr ⟨by rfl, rfl⟩) (by assumption) ?_
        try simp only [Act.put, List.setIfInBounds_toArray, List.set_cons_zero, List.set_cons_succ, List.getElem_toArray, List.getElem_cons_zero, List.getElem_cons_succ]
        refine wpAnyH_take (i := 10) (v := undef) rfl (by kernel_rfl) (by kernel_rfl) (by kernel_rfl) (fun _ _ _ h => h) (Or.inr ⟨by rfl, rfl⟩) (by assumption) ?_
        try simp only [Act.put, List.setIfInBounds_toArray, List.set_cons_zero, List.set_cons_succ, List.getElem_toArray, List.getElem_cons_zero, List.getElem_cons_succ]
        refine wpAnyH_take (i := 11) (v := undef) rfl (by kernel_rfl) (by kernel_rfl) (by kernel_rfl) (fun _ _ _ h => h) (Or.inr ⟨by rfl, rfl⟩) (by assumption) ?_
        try simp only [Act.put, List.setIfInBounds_toArray, List.set_cons_zero, List.set_cons_succ, List.getElem_toArray, List.getElem_cons_zero, List.getElem_cons_succ]
        refine wpAnyH_take (i := 12) (v := undef) rfl (by kernel_rfl) (by kernel_rfl) (by kernel_rfl) (fun _ _ _ h => h) (Or.inr ⟨by rfl, rfl⟩) (by assumption) ?_
        try simp only [Act.put, List.setIfInBounds_toArray, List.set_cons_zero, List.set_cons_succ, List.getElem_toArray, List.getElem_cons_zero, List.getElem_cons_succ]
        refine wpAnyH_take (i := 13) (v := undef) rfl (by kernel_rfl) (by kernel_rfl) (by kernel_rfl) (fun _ _ _ h => h) (Or.inr ⟨by rfl, rfl⟩) (by assumption) ?_
        try simp only [Act.put, List.setIfInBounds_toArray, List.set_cons_zero, List.set_cons_succ, List.getElem_toArray, List.getElem_cons_zero, List.getElem_cons_succ]
        refine wpAnyH_take (i := 14) (v := undef) rfl (by kernel_rfl) (by kernel_rfl) (by kernel_rfl) (fun _ _ _ h => h) (Or.inr ⟨by rfl, rfl⟩) (by assumption) ?_
        try simp only [Act.put, List.setIfInBounds_toArray, List.set_cons_zero, List.set_cons_succ, List.getElem_toArray, List.getElem_cons_zero, List.getElem_cons_succ]
        refine wpAnyH_take (i := 15) (v := undef) rfl (by kernel_rfl) (by kernel_rfl) (by kernel_rfl) (fun _ _ _ h => h) (Or.inr ⟨by rfl, rfl⟩) (by assumption) ?_
        try simp only [Act.put, List.setIfInBounds_toArray, List.set_cons_zero, List.set_cons_succ, List.getElem_toArray, List.getElem_cons_zero, List.getElem_cons_succ]
        refine wpAnyH_take (i := 16) (v := ?_) rfl (by kernel_rfl) (by kernel_rfl) (by kernel_rfl) (fun _ _ _ h => h) (Or.inl ⟨by rfl, ?_⟩) (by assumption) ?_
        rotate_left
        · (intro W hW; (try dsimp only at hW); go_simp; try with_reducible rfl)
        try simp only [Act.put, List.setIfInBounds_toArray, List.set_cons_zero, List.set_cons_succ, List.getElem_toArray, List.getElem_cons_zero, List.getElem_cons_succ]
        refine wpAnyH_done (by kernel_rfl) ?_ _
        go_wp2_with fail
        go_ret
        exact ⟨ret_bool HE.out.symm, F0a.pure hH0.2⟩
      | true =>
        have HV := Lib.hid hv
        clear hv
        rcases Nat.eq_zero_or_pos k with h0 | h0
        · subst h0
          refine wp_region_held_drew (S := fun W => (W.cell? ⟨wz.heap.size, 0, none⟩ = some (.int .i64 y.1) ∧ W.cell? ⟨wz.heap.size, 1, none⟩ = some (.int .i64 y.2)) ∧ Fr none wa W) (by kernel_rfl) ⟨b4.cell, (Fr.refl _ _).drew⟩ (fun hH0 => ?_)
          refine wpAnyH_take (i := 0) (v := ?_) rfl (by kernel_rfl) (by kernel_rfl) (by kernel_rfl) (fun _ _ _ h => h) (Or.inl ⟨by rfl, ?_⟩) (by assumption) ?_
          rotate_left
          · (intro W hW; (try dsimp only at hW); go_simp; try with_reducible rfl)
          try simp only [Act.put, List.setIfInBounds_toArray, List.set_cons_zero, List.set_cons_succ, List.getElem_toArray, List.getElem_cons_zero, List.getElem_cons_succ]
          refine wpAnyH_ready (rs := [1]) (by kernel_rfl) (by simp) ?_
          refine AllReadyH.cons rfl (fun K hK => ?_) AllReadyH.nil
          simp only [List.getElem_toArray, List.getElem_cons_zero, List.getElem_cons_succ]
          go_simp
          go_at_call 26
          refine (cvl_any y _).mono ?_
          rintro e wN ⟨rfl, FN⟩
          have FN := hH0.2.pure FN
          refine hK.out _ _ ⟨(b4.fr FN (by simp)).cell, FN⟩ (fun hH1 => ?_)
          clear hK K hH0 FN
          have hH0 := hH1
          clear hH1
          rw [HV.out]
          try simp only [Act.put, List.setIfInBounds_toArray, List.set_cons_zero, List.set_cons_succ, List.getElem_toArray, List.getElem_cons_zero, List.getElem_cons_succ]
          refine wpAnyH_take (i := 2) (v := ?_) rfl (by kernel_rfl) (by kernel_rfl) (by kernel_rfl) (fun _ _ _ h => h) (Or.inl ⟨by rfl, ?_⟩) (by assumption) ?_
          rotate_left
          · (intro W hW; (try dsimp only at hW); go_simp; try with_reducible rfl)
          try simp only [Act.put, List.setIfInBounds_toArray, List.set_cons_zero, List.set_cons_succ, List.getElem_toArray, List.getElem_cons_zero, List.getElem_cons_succ]
          refine wpAnyH_take (i := 3) (v := ?_) rfl (by kernel_rfl) (by kernel_rfl) (by kernel_rfl) (fun _ _ _ h => h) (Or.inl ⟨by rfl, ?_⟩) (by assumption) ?_
          rotate_left
          · (intro W hW; (try dsimp only at hW); go_simp; try with_reducible rfl)
          try simp only [Act.put, List.setIfInBounds_toArray, List.set_cons_zero, List.set_cons_succ, List.getElem_toArray, List.getElem_cons_zero, List.getElem_cons_succ]
          refine wpAnyH_take (i := 4) (v := ?_) rfl (by kernel_rfl) (by kernel_rfl) (by kernel_rfl) (fun _ _ _ h => h) (Or.inl ⟨by rfl, ?_⟩) (by assumption) ?_
          rotate_left
          · (intro W hW; (try dsimp only at hW); go_simp; try with_reducible rfl)
          try simp only [Act.put, List.setIfInBounds_toArray, List.set_cons_zero, List.set_cons_succ, List.getElem_toArray, List.getElem_cons_zero, List.getElem_cons_succ]
          refine wpAnyH_take (i := 5) (v := ?_) rfl (by kernel_rfl) (by kernel_rfl) (by kernel_rfl) (fun _ _ _ h => h) (Or.inl ⟨by rfl, ?_⟩) (by assumption) ?_
          rotate_left
          · (intro W hW; (try dsimp only at hW); go_simp; try with_reducible rfl)
          try simp only [Act.put, List.setIfInBounds_toArray, List.set_cons_zero, List.set_cons_succ, List.getElem_toArray, List.getElem_cons_zero, List.getElem_cons_succ]
          refine wpAnyH_take (i := 6) (v := ?_) rfl (by kernel_rfl) (by kernel_rfl) (by kernel_rfl) (fun _ _ _ h => h) (Or.inl ⟨by rfl, ?_⟩) (by assumption) ?_
          rotate_left
          · (intro W hW; (try dsimp only at hW); go_simp; try with_reducible rfl)
          try simp only [Act.put, List.setIfInBounds_toArray, List.set_cons_zero, List.set_cons_succ, List.getElem_toArray, List.getElem_cons_zero, List.getElem_cons_succ]
          refine wpAnyH_take (i := 7) (v := undef) rfl (by kernel_rfl) (by kernel_rfl) (by kernel_rfl) (fun _ _ _ h => h) (Or.inr ⟨by rfl, rfl⟩) (by assumption) ?_
          try simp only [Act.put, List.setIfInBounds_toArray, List.set_cons_zero, List.set_cons_succ, List.getElem_toArray, List.getElem_cons_zero, List.getElem_cons_succ]
          refine wpAnyH_take (i := 8) (v := undef) rfl (by kernel_rfl) (by kernel_rfl) (by kernel_rfl) (fun _ _ _ h => h) (Or.inr ⟨by rfl, rfl⟩) (by assumption) ?_
          try simp only [Act.put, List.setIfInBounds_toArray, List.set_cons_zero, List.set_cons_succ, List.getElem_toArray, List.getElem_cons_zero, List.getElem_cons_succ]
          refine wpAnyH_take (i := 9) (v := undef) rfl (by kernel_rfl) (by kernel_rfl) (by kernel_rfl) (fun _ _ _ h => h) (Or.inr ⟨by rfl, rfl⟩) (by assumption) ?_
          try simp only [Act.put, List.setIfInBounds_toArray, List.set_cons_zero, List.set_cons_succ, List.getElem_toArray, List.getElem_cons_zero, List.getElem_cons_succ]
          refine wpAnyH_take (i := 10) (v := undef) rfl (by kernel_rfl) (by kernel_rfl) (by kernel_rfl) (fun _ _ _ h => h) (Or.inr ⟨by rfl, rfl⟩) (by assumption) ?_
          try simp only [Act.put, List.setIfInBounds_toArray, List.set_cons_zero, List.set_cons_succ, List.getElem_toArray, List.getElem_cons_zero, List.getElem_cons_succ]
          refine wpAnyH_take (i := 11) (v := undef) rfl (by kernel_rfl) (by kernel_rfl) (by kernel_rfl) (fun _ _ _ h => h) (Or.inr ⟨by rfl, rfl⟩) (by assumption) ?_
          try simp only [Act.put, List.setIfInBounds_toArray, List.set_cons_zero, List.set_cons_succ, List.getElem_toArray, List.getElem_cons_zero, List.getElem_cons_succ]
          refine wpAnyH_take (i := 12) (v := undef) rfl (by kernel_rfl) (by kernel_rfl) (by kernel_rfl) (fun _ _ _ h => h) (Or.inr ⟨by rfl, rfl⟩) (by assumption) ?_
          try simp only [Act.put, List.setIfInBounds_toArray, List.set_cons_zero, List.set_cons_succ, List.getElem_toArray, List.getElem_cons_zero, List.getElem_cons_succ]
          refine wpAnyH_take (i := 13) (v := undef) rfl (by kernel_rfl) (by kernel_rfl) (by kernel_rfl) (fun _ _ _ h => h) (Or.inr ⟨by rfl, rfl⟩) (by assumption) ?_
          try simp only [Act.put, List.setIfInBounds_toArray, List.set_cons_zero, List.set_cons_succ, List.getElem_toArray, List.getElem_cons_zero, List.getElem_cons_succ]
          refine wpAnyH_take (i := 14) (v := undef) rfl (by kernel_rfl) (by kernel_rfl) (by kernel_rfl) (fun _ _ _ h => h) (Or.inr ⟨by rfl, rfl⟩) (by assumption) ?_
          try simp only [Act.put, List.setIfInBounds_toArray, List.set_cons_zero, List.set_cons_succ, List.getElem_toArray, List.getElem_cons_zero, List.getElem_cons_succ]
          refine wpAnyH_take (i := 15) (v := ?_) rfl (by kernel_rfl) (by kernel_rfl) (by kernel_rfl) (fun _ _ _ h => h) (Or.inl ⟨by rfl, ?_⟩) (by assumption) ?_
          rotate_left
          · (intro W hW; (try dsimp only at hW); go_simp; try with_reducible rfl)
          try simp only [Act.put, List.setIfInBounds_toArray, List.set_cons_zero, List.set_cons_succ, List.getElem_toArray, List.getElem_cons_zero, List.getElem_cons_succ]
          refine wpAnyH_take (i := 16) (v := ?_) rfl (by kernel_rfl) (by kernel_rfl) (by kernel_rfl) (fun _ _ _ h => h) (Or.inl ⟨by rfl, ?_⟩) (by assumption) ?_
          rotate_left
          · (intro W hW; (try dsimp only at hW); go_simp; try with_reducible rfl)
          try simp only [Act.put, List.setIfInBounds_toArray, List.set_cons_zero, List.set_cons_succ, List.getElem_toArray, List.getElem_cons_zero, List.getElem_cons_succ]
          refine wpAnyH_done (by kernel_rfl) ?_ _
          go_wp2_with fail
          go_roundw
          case rel => exact ⟨1, by omega, by go_num, F0a.pure hH0.2, Lib.hid (fun j hj hj1 => by obtain rfl : j = 0 := (by omega); exact ⟨by rw [← HY.out]; exact HV.out, fun h => absurd h (by omega)⟩)⟩
          case measure => simp [intOf]; omega
        · obtain ⟨p, rfl⟩ : ∃ p, k = p + 1 := ⟨k - 1, by omega⟩
          obtain ⟨d1, d2⟩ := HCC.out p (by omega)
          have d1 := F0a.keep d1 (by simp)
          have d2 := F0a.keep d2 (by simp)
          obtain ⟨z, hz⟩ : ∃ z, z = l[p]'(by omega) := ⟨_, rfl⟩
          rw [← hz] at d1 d2
          have HZ := Lib.hid hz
          clear hz
          obtain ⟨C, hC⟩ : ∃ C, C = cmpC z y := ⟨_, rfl⟩
          have hw1 : IntKind.i64.wrap (p : Int) = (p : Int) := IntWalk.i64_in _ (by omega)
          have hp0 : decide ((0 : Int) < (p : Int) + 1) = true := decide_eq_true (by omega)
          have HCe := Lib.hid hC
          have hpl : p < l.length := by omega
          have K0 : Hid (∀ W, Fr none wa W → W.cell? ⟨b, off + p * 2, none⟩ = some (.int .i64 z.1) ∧ W.cell? ⟨b, off + p * 2 + 1, none⟩ = some (.int .i64 z.2)) := fun W FW => ⟨FW.keep d1 (by simp), FW.keep d2 (by simp)⟩
          cases hl : ltC z y with
          | true =>
            have hc0 : decide ((0 : Int) ≤ C) = false := decide_eq_false (by rw [hC]; have := (cmpC_neg z y).2 hl; omega)
            have HL := Lib.hid hl
            clear hl hC d1 d2
            refine wp_region_held_drew (S := fun W => (W.cell? ⟨wz.heap.size, 0, none⟩ = some (.int .i64 y.1) ∧ W.cell? ⟨wz.heap.size, 1, none⟩ = some (.int .i64 y.2)) ∧ (W.cell? ⟨b, off + p * 2, none⟩ = some (.int .i64 z.1) ∧ W.cell? ⟨b, off + p * 2 + 1, none⟩ = some (.int .i64 z.2)) ∧ Fr none wa W) (by kernel_rfl) ⟨b4.cell, K0.out _ (Fr.refl _ _).drew, (Fr.refl _ _).drew⟩ (fun hH0 => ?_)
            refine wpAnyH_take (i := 0) (v := ?_) rfl (by kernel_rfl) (by kernel_rfl) (by kernel_rfl) (fun _ _ _ h => h) (Or.inl ⟨by rfl, ?_⟩) (by assumption) ?_
            rotate_left
            · (intro W hW; (try dsimp only at hW); go_simp; try with_reducible rfl)
            try simp only [Act.put, List.setIfInBounds_toArray, List.set_cons_zero, List.set_cons_succ, List.getElem_toArray, List.getElem_cons_zero, List.getElem_cons_succ]
            refine wpAnyH_ready (rs := [1]) (by kernel_rfl) (by simp) ?_
            refine AllReadyH.cons rfl (fun K hK => ?_) AllReadyH.nil
            simp only [List.getElem_toArray, List.getElem_cons_zero, List.getElem_cons_succ]
            go_simp
            go_at_call 26
            refine (cvl_any y _).mono ?_
            rintro e wN ⟨rfl, FN⟩
            have FN := hH0.2.2.pure FN
            refine hK.out _ _ ⟨(b4.fr FN (by simp)).cell, K0.out _ FN, FN⟩ (fun hH1 => ?_)
            clear hK K hH0 FN
            have hH0 := hH1
            clear hH1
            rw [HV.out]
            try simp only [Act.put, List.setIfInBounds_toArray, List.set_cons_zero, List.set_cons_succ, List.getElem_toArray, List.getElem_cons_zero, List.getElem_cons_succ]
            refine wpAnyH_take (i := 2) (v := ?_) rfl (by kernel_rfl) (by kernel_rfl) (by kernel_rfl) (fun _ _ _ h => h) (Or.inl ⟨by rfl, ?_⟩) (by assumption) ?_
            rotate_left
            · (intro W hW; (try dsimp only at hW); go_simp; try with_reducible rfl)
            try simp only [Act.put, List.setIfInBounds_toArray, List.set_cons_zero, List.set_cons_succ, List.getElem_toArray, List.getElem_cons_zero, List.getElem_cons_succ]
            refine wpAnyH_take (i := 3) (v := ?_) rfl (by kernel_rfl) (by kernel_rfl) (by kernel_rfl) (fun _ _ _ h => h) (Or.inl ⟨by rfl, ?_⟩) (by assumption) ?_
            rotate_left
            · (intro W hW; (try dsimp only at hW); go_simp; try with_reducible rfl)
            try simp only [Act.put, List.setIfInBounds_toArray, List.set_cons_zero, List.set_cons_succ, List.getElem_toArray, List.getElem_cons_zero, List.getElem_cons_succ]
            refine wpAnyH_take (i := 4) (v := ?_) rfl (by kernel_rfl) (by kernel_rfl) (by kernel_rfl) (fun _ _ _ h => h) (Or.inl ⟨by rfl, ?_⟩) (by assumption) ?_
            rotate_left
            · (intro W hW; (try dsimp only at hW); go_simp; try with_reducible rfl)
            try simp only [Act.put, List.setIfInBounds_toArray, List.set_cons_zero, List.set_cons_succ, List.getElem_toArray, List.getElem_cons_zero, List.getElem_cons_succ]
            refine wpAnyH_take (i := 5) (v := ?_) rfl (by kernel_rfl) (by kernel_rfl) (by kernel_rfl) (fun _ _ _ h => h) (Or.inl ⟨by rfl, ?_⟩) (by assumption) ?_
            rotate_left
            · (intro W hW; (try dsimp only at hW); go_simp; try with_reducible rfl)
            try simp only [Act.put, List.setIfInBounds_toArray, List.set_cons_zero, List.set_cons_succ, List.getElem_toArray, List.getElem_cons_zero, List.getElem_cons_succ]
            refine wpAnyH_take (i := 6) (v := ?_) rfl (by kernel_rfl) (by kernel_rfl) (by kernel_rfl) (fun _ _ _ h => h) (Or.inl ⟨by rfl, ?_⟩) (by assumption) ?_
            rotate_left
            · (intro W hW; (try dsimp only at hW); go_simp; try with_reducible rfl)
            try simp only [Act.put, List.setIfInBounds_toArray, List.set_cons_zero, List.set_cons_succ, List.getElem_toArray, List.getElem_cons_zero, List.getElem_cons_succ]
            refine wpAnyH_take (i := 7) (v := ?_) rfl (by kernel_rfl) (by kernel_rfl) (by kernel_rfl) (fun _ _ _ h => h) (Or.inl ⟨by rfl, ?_⟩) (by assumption) ?_
            rotate_left
            · (intro W hW; (try dsimp only at hW); go_simp; try with_reducible rfl)
            try simp only [Act.put, List.setIfInBounds_toArray, List.set_cons_zero, List.set_cons_succ, List.getElem_toArray, List.getElem_cons_zero, List.getElem_cons_succ]
            refine wpAnyH_take (i := 8) (v := ?_) rfl (by kernel_rfl) (by kernel_rfl) (by kernel_rfl) (fun _ _ _ h => h) (Or.inl ⟨by rfl, ?_⟩) (by assumption) ?_
            rotate_left
            · (intro W hW; (try dsimp only at hW); go_simp; try with_reducible rfl)
            try simp only [Act.put, List.setIfInBounds_toArray, List.set_cons_zero, List.set_cons_succ, List.getElem_toArray, List.getElem_cons_zero, List.getElem_cons_succ]
            refine wpAnyH_take (i := 9) (v := ?_) rfl (by kernel_rfl) (by kernel_rfl) (by kernel_rfl) (fun _ _ _ h => h) (Or.inl ⟨by rfl, ?_⟩) (by assumption) ?_
            rotate_left
            · (intro W hW; (try dsimp only at hW); go_simp; try with_reducible rfl)
            try simp only [Act.put, List.setIfInBounds_toArray, List.set_cons_zero, List.set_cons_succ, List.getElem_toArray, List.getElem_cons_zero, List.getElem_cons_succ]
            refine wpAnyH_take (i := 10) (v := ?_) rfl (by kernel_rfl) (by kernel_rfl) (by kernel_rfl) (fun _ _ _ h => h) (Or.inl ⟨by rfl, ?_⟩) (by assumption) ?_
            rotate_left
            · (intro W hW; (try dsimp only at hW); go_simp; try with_reducible rfl)
            try simp only [Act.put, List.setIfInBounds_toArray, List.set_cons_zero, List.set_cons_succ, List.getElem_toArray, List.getElem_cons_zero, List.getElem_cons_succ]
            refine wpAnyH_take (i := 11) (v := ?_) rfl (by kernel_rfl) (by kernel_rfl) (by kernel_rfl) (fun _ _ _ h => h) (Or.inl ⟨by rfl, ?_⟩) (by assumption) ?_
            rotate_left
            · (intro W hW; (try dsimp only at hW); go_simp; try with_reducible rfl)
            try simp only [Act.put, List.setIfInBounds_toArray, List.set_cons_zero, List.set_cons_succ, List.getElem_toArray, List.getElem_cons_zero, List.getElem_cons_succ]
            refine wpAnyH_take (i := 12) (v := ?_) rfl (by kernel_rfl) (by kernel_rfl) (by kernel_rfl) (fun _ _ _ h => h) (Or.inl ⟨by rfl, ?_⟩) (by assumption) ?_
            rotate_left
            · (intro W hW; (try dsimp only at hW); go_simp; try with_reducible rfl)
            try simp only [Act.put, List.setIfInBounds_toArray, List.set_cons_zero, List.set_cons_succ, List.getElem_toArray, List.getElem_cons_zero, List.getElem_cons_succ]
            refine wpAnyH_ready (rs := [13]) (by kernel_rfl) (by simp) ?_
            refine AllReadyH.cons rfl (fun K hK => ?_) AllReadyH.nil
            simp only [List.getElem_toArray, List.getElem_cons_zero, List.getElem_cons_succ]
            go_simp
            go_at_call 28
            refine (ccmp_any z y _).mono ?_
            rintro e wN ⟨rfl, FN⟩
            have FN := hH0.2.2.pure FN
            refine hK.out _ _ ⟨(b4.fr FN (by simp)).cell, K0.out _ FN, FN⟩ (fun hH1 => ?_)
            clear hK K hH0 FN
            have hH0 := hH1
            clear hH1
            rw [← HCe.out]
            try simp only [Act.put, List.setIfInBounds_toArray, List.set_cons_zero, List.set_cons_succ, List.getElem_toArray, List.getElem_cons_zero, List.getElem_cons_succ]
            refine wpAnyH_take (i := 14) (v := ?_) rfl (by kernel_rfl) (by kernel_rfl) (by kernel_rfl) (fun _ _ _ h => h) (Or.inl ⟨by rfl, ?_⟩) (by assumption) ?_
            rotate_left
            · (intro W hW; (try dsimp only at hW); go_simp; try with_reducible rfl)
            try simp only [Act.put, List.setIfInBounds_toArray, List.set_cons_zero, List.set_cons_succ, List.getElem_toArray, List.getElem_cons_zero, List.getElem_cons_succ]
            refine wpAnyH_take (i := 15) (v := ?_) rfl (by kernel_rfl) (by kernel_rfl) (by kernel_rfl) (fun _ _ _ h => h) (Or.inl ⟨by rfl, ?_⟩) (by assumption) ?_
            rotate_left
            · (intro W hW; (try dsimp only at hW); go_simp; try with_reducible rfl)
            try simp only [Act.put, List.setIfInBounds_toArray, List.set_cons_zero, List.set_cons_succ, List.getElem_toArray, List.getElem_cons_zero, List.getElem_cons_succ]
            refine wpAnyH_take (i := 16) (v := ?_) rfl (by kernel_rfl) (by kernel_rfl) (by kernel_rfl) (fun _ _ _ h => h) (Or.inl ⟨by rfl, ?_⟩) (by assumption) ?_
            rotate_left
            · (intro W hW; (try dsimp only at hW); go_simp; try with_reducible rfl)
            try simp only [Act.put, List.setIfInBounds_toArray, List.set_cons_zero, List.set_cons_succ, List.getElem_toArray, List.getElem_cons_zero, List.getElem_cons_succ]
            refine wpAnyH_done (by kernel_rfl) ?_ _
            go_wp2_with fail
            go_roundw
            case rel => exact ⟨p + 1 + 1, by omega, by go_num, F0a.pure hH0.2.2, Lib.hid (fun j hj hj1 => by
              rcases Nat.lt_or_ge j (p + 1) with hh | hh
              · exact HN.out j hj hh
              · obtain rfl : j = p + 1 := by omega
                exact ⟨by rw [← HY.out]; exact HV.out, fun _ => by rw [← HY.out, ← HL.out, HZ.out]; rfl⟩)⟩
            case measure => simp [intOf]; omega
          | false =>
            have hc0 : decide ((0 : Int) ≤ C) = true := decide_eq_true (by
              rw [hC]
              rcases Int.lt_or_le (cmpC z y) 0 with hh | hh
              · have := (cmpC_neg z y).1 hh; rw [hl] at this; cases this
              · exact hh)
            have HE : Hid (X = false) := by
              unfold Hid
              cases hx : X with
              | false => rfl
              | true =>
                have := (plnC_iff l).1 (by rw [← HX.out, hx])
                have := (this (p + 1) hlt).2 (by omega)
                rw [← HY.out] at this
                have e : l[p + 1 - 1]'(by omega) = z := HZ.out.symm
                rw [e, hl] at this; cases this
            clear hl hC d1 d2
            refine wp_region_held_drew (S := fun W => (W.cell? ⟨wz.heap.size, 0, none⟩ = some (.int .i64 y.1) ∧ W.cell? ⟨wz.heap.size, 1, none⟩ = some (.int .i64 y.2)) ∧ (W.cell? ⟨b, off + p * 2, none⟩ = some (.int .i64 z.1) ∧ W.cell? ⟨b, off + p * 2 + 1, none⟩ = some (.int .i64 z.2)) ∧ Fr none wa W) (by kernel_rfl) ⟨b4.cell, K0.out _ (Fr.refl _ _).drew, (Fr.refl _ _).drew⟩ (fun hH0 => ?_)
            refine wpAnyH_take (i := 0) (v := ?_) rfl (by kernel_rfl) (by kernel_rfl) (by kernel_rfl) (fun _ _ _ h => h) (Or.inl ⟨by rfl, ?_⟩) (by assumption) ?_
            rotate_left
            · (intro W hW; (try dsimp only at hW); go_simp; try with_reducible rfl)
            try simp only [Act.put, List.setIfInBounds_toArray, List.set_cons_zero, List.set_cons_succ, List.getElem_toArray, List.getElem_cons_zero, List.getElem_cons_succ]
            refine wpAnyH_ready (rs := [1]) (by kernel_rfl) (by simp) ?_
            refine AllReadyH.cons rfl (fun K hK => ?_) AllReadyH.nil
            simp only [List.getElem_toArray, List.getElem_cons_zero, List.getElem_cons_succ]
            go_simp
            go_at_call 26
            refine (cvl_any y _).mono ?_
            rintro e wN ⟨rfl, FN⟩
            have FN := hH0.2.2.pure FN
            refine hK.out _ _ ⟨(b4.fr FN (by simp)).cell, K0.out _ FN, FN⟩ (fun hH1 => ?_)
            clear hK K hH0 FN
            have hH0 := hH1
            clear hH1
            rw [HV.out]
            try simp only [Act.put, List.setIfInBounds_toArray, List.set_cons_zero, List.set_cons_succ, List.getElem_toArray, List.getElem_cons_zero, List.getElem_cons_succ]
            refine wpAnyH_take (i := 2) (v := ?_) rfl (by kernel_rfl) (by kernel_rfl) (by kernel_rfl) (fun _ _ _ h => h) (Or.inl ⟨by rfl, ?_⟩) (by assumption) ?_
            rotate_left
            · (intro W hW; (try dsimp only at hW); go_simp; try with_reducible rfl)
            try simp only [Act.put, List.setIfInBounds_toArray, List.set_cons_zero, List.set_cons_succ, List.getElem_toArray, List.getElem_cons_zero, List.getElem_cons_succ]
            refine wpAnyH_take (i := 3) (v := ?_) rfl (by kernel_rfl) (by kernel_rfl) (by kernel_rfl) (fun _ _ _ h => h) (Or.inl ⟨by rfl, ?_⟩) (by assumption) ?_
            rotate_left
            · (intro W hW; (try dsimp only at hW); go_simp; try with_reducible rfl)
            try simp only [Act.put, List.setIfInBounds_toArray, List.set_cons_zero, List.set_cons_succ, List.getElem_toArray, List.getElem_cons_zero, List.getElem_cons_succ]
            refine wpAnyH_take (i := 4) (v := ?_) rfl (by kernel_rfl) (by kernel_rfl) (by kernel_rfl) (fun _ _ _ h => h) (Or.inl ⟨by rfl, ?_⟩) (by assumption) ?_
            rotate_left
            · (intro W hW; (try dsimp only at hW); go_simp; try with_reducible rfl)
            try simp only [Act.put, List.setIfInBounds_toArray, List.set_cons_zero, List.set_cons_succ, List.getElem_toArray, List.getElem_cons_zero, List.getElem_cons_succ]
            refine wpAnyH_take (i := 5) (v := ?_) rfl (by kernel_rfl) (by kernel_rfl) (by kernel_rfl) (fun _ _ _ h => h) (Or.inl ⟨by rfl, ?_⟩) (by assumption) ?_
            rotate_left
            · (intro W hW; (try dsimp only at hW); go_simp; try with_reducible rfl)
            try simp only [Act.put, List.setIfInBounds_toArray, List.set_cons_zero, List.set_cons_succ, List.getElem_toArray, List.getElem_cons_zero, List.getElem_cons_succ]
            refine wpAnyH_take (i := 6) (v := ?_) rfl (by kernel_rfl) (by kernel_rfl) (by kernel_rfl) (fun _ _ _ h => h) (Or.inl ⟨by rfl, ?_⟩) (by assumption) ?_
            rotate_left
            · (intro W hW; (try dsimp only at hW); go_simp; try with_reducible rfl)
            try simp only [Act.put, List.setIfInBounds_toArray, List.set_cons_zero, List.set_cons_succ, List.getElem_toArray, List.getElem_cons_zero, List.getElem_cons_succ]
            refine wpAnyH_take (i := 7) (v := ?_) rfl (by kernel_rfl) (by kernel_rfl) (by kernel_rfl) (fun _ _ _ h => h) (Or.inl ⟨by rfl, ?_⟩) (by assumption) ?_
            rotate_left
            · (intro W hW; (try dsimp only at hW); go_simp; try with_reducible rfl)
            try simp only [Act.put, List.setIfInBounds_toArray, List.set_cons_zero, List.set_cons_succ, List.getElem_toArray, List.getElem_cons_zero, List.getElem_cons_succ]
            refine wpAnyH_take (i := 8) (v := ?_) rfl (by kernel_rfl) (by kernel_rfl) (by kernel_rfl) (fun _ _ _ h => h) (Or.inl ⟨by rfl, ?_⟩) (by assumption) ?_
            rotate_left
            · (intro W hW; (try dsimp only at hW); go_simp; try with_reducible rfl)
            try simp only [Act.put, List.setIfInBounds_toArray, List.set_cons_zero, List.set_cons_succ, List.getElem_toArray, List.getElem_cons_zero, List.getElem_cons_succ]
            refine wpAnyH_take (i := 9) (v := ?_) rfl (by kernel_rfl) (by kernel_rfl) (by kernel_rfl) (fun _ _ _ h => h) (Or.inl ⟨by rfl, ?_⟩) (by assumption) ?_
            rotate_left
            · (intro W hW; (try dsimp only at hW); go_simp; try with_reducible rfl)
            try simp only [Act.put, List.setIfInBounds_toArray, List.set_cons_zero, List.set_cons_succ, List.getElem_toArray, List.getElem_cons_zero, List.getElem_cons_succ]
            refine wpAnyH_take (i := 10) (v := ?_) rfl (by kernel_rfl) (by kernel_rfl) (by kernel_rfl) (fun _ _ _ h => h) (Or.inl ⟨by rfl, ?_⟩) (by assumption) ?_
            rotate_left
            · (intro W hW; (try dsimp only at hW); go_simp; try with_reducible rfl)
            try simp only [Act.put, List.setIfInBounds_toArray, List.set_cons_zero, List.set_cons_succ, List.getElem_toArray, List.getElem_cons_zero, List.getElem_cons_succ]
            refine wpAnyH_take (i := 11) (v := ?_) rfl (by kernel_rfl) (by kernel_rfl) (by kernel_rfl) (fun _ _ _ h => h) (Or.inl ⟨by rfl, ?_⟩) (by assumption) ?_
            rotate_left
            · (intro W hW; (try dsimp only at hW); go_simp; try with_reducible rfl)
            try simp only [Act.put, List.setIfInBounds_toArray, List.set_cons_zero, List.set_cons_succ, List.getElem_toArray, List.getElem_cons_zero, List.getElem_cons_succ]
            refine wpAnyH_take (i := 12) (v := ?_) rfl (by kernel_rfl) (by kernel_rfl) (by kernel_rfl) (fun _ _ _ h => h) (Or.inl ⟨by rfl, ?_⟩) (by assumption) ?_
            rotate_left
            · (intro W hW; (try dsimp only at hW); go_simp; try with_reducible rfl)
            try simp only [Act.put, List.setIfInBounds_toArray, List.set_cons_zero, List.set_cons_succ, List.getElem_toArray, List.getElem_cons_zero, List.getElem_cons_succ]
            refine wpAnyH_ready (rs := [13]) (by kernel_rfl) (by simp) ?_
            refine AllReadyH.cons rfl (fun K hK => ?_) AllReadyH.nil
            simp only [List.getElem_toArray, List.getElem_cons_zero, List.getElem_cons_succ]
            go_simp
            go_at_call 28
            refine (ccmp_any z y _).mono ?_
            rintro e wN ⟨rfl, FN⟩
            have FN := hH0.2.2.pure FN
            refine hK.out _ _ ⟨(b4.fr FN (by simp)).cell, K0.out _ FN, FN⟩ (fun hH1 => ?_)
            clear hK K hH0 FN
            have hH0 := hH1
            clear hH1
            rw [← HCe.out]
            try simp only [Act.put, List.setIfInBounds_toArray, List.set_cons_zero, List.set_cons_succ, List.getElem_toArray, List.getElem_cons_zero, List.getElem_cons_succ]
            refine wpAnyH_take (i := 14) (v := ?_) rfl (by kernel_rfl) (by kernel_rfl) (by kernel_rfl) (fun _ _ _ h => h) (Or.inl ⟨by rfl, ?_⟩) (by assumption) ?_
            rotate_left
            · (intro W hW; (try dsimp only at hW); go_simp; try with_reducible rfl)
            try simp only [Act.put, List.setIfInBounds_toArray, List.set_cons_zero, List.set_cons_succ, List.getElem_toArray, List.getElem_cons_zero, List.getElem_cons_succ]
            refine wpAnyH_take (i := 15) (v := ?_) rfl (by kernel_rfl) (by kernel_rfl) (by kernel_rfl) (fun _ _ _ h => h) (Or.inl ⟨by rfl, ?_⟩) (by assumption) ?_
            rotate_left
            · (intro W hW; (try dsimp only at hW); go_simp; try with_reducible rfl)
            try simp only [Act.put, List.setIfInBounds_toArray, List.set_cons_zero, List.set_cons_succ, List.getElem_toArray, List.getElem_cons_zero, List.getElem_cons_succ]
            refine wpAnyH_take (i := 16) (v := ?_) rfl (by kernel_rfl) (by kernel_rfl) (by kernel_rfl) (fun _ _ _ h => h) (Or.inl ⟨by rfl, ?_⟩) (by assumption) ?_
            rotate_left
            · (intro W hW; (try dsimp only at hW); go_simp; try with_reducible rfl)
            try simp only [Act.put, List.setIfInBounds_toArray, List.set_cons_zero, List.set_cons_succ, List.getElem_toArray, List.getElem_cons_zero, List.getElem_cons_succ]
            refine wpAnyH_done (by kernel_rfl) ?_ _
            go_wp2_with fail
            go_ret
            exact ⟨ret_bool HE.out.symm, F0a.pure hH0.2.2⟩
    · obtain rfl : k = l.length := by omega
      have HE : Hid (X = true) := by
        unfold Hid
        rw [HX.out]
        exact (plnC_iff l).2 (fun i hi => HN.out i hi hi)
      go_wp2_with fail
      go_ret
      exact ⟨ret_bool HE.out.symm, F⟩
end Go.Proofs.YtkpgnhdmlikopaaDoor

/- Walks: the tape trustquorummake.Tape: New, N, Range, Pick, Order. -/
namespace Go.Proofs.YtkpgnhdmlikopaaDoor
open Go.RowKit

abbrev TapeT : TypeId := 48

theorem tapeNew_any (v : Value) (l : List Int) (w : World) (h : SlI w none v l) :
    Calls Tryd.prog 7 #[v] w (NewP 48 w) := by
  have h0 := h
  obtain ⟨A, c, rfl, q1, q2, hc⟩ := h.open_
  by_cases hl : l.length ≤ 400
  · go_enter Tryd.func7, Tryd.ntmps7
    go_wp2
    go_ret
    exact ⟨_, rfl, Nat.le_refl _, SrcR.made h0 (by omega), (Fr.refl _ _).alloc _⟩
  · go_enter Tryd.func7, Tryd.ntmps7
    go_wp2
    all_goals first | (exfalso; omega) | skip
    go_ret
    exact ⟨_, rfl, Nat.le_refl _, SrcR.made (h0.take 400 (by omega)) (by have := List.length_take_le 400 l; omega), (Fr.refl _ _).alloc _⟩

theorem tapeN_any (n : Int) (g : Nat) (w : World) (hn0 : 1 ≤ n) (hn : n ≤ 4294967296) (h : SrcR 48 w g) :
    Calls Tryd.prog 30 #[.pointer (some ⟨g, 0, none⟩), .int .i64 n] w (NumP 48 w g 0 (n - 1)) := by
  have h0 := h
  have hgl := h.lt
  obtain ⟨A, c, l, k, hb, hs, hw, hl, hk, q1, q2, hc⟩ := h.open_
  have c0 : w.cell? ⟨g, 0, none⟩ = some (.slice A l.length c) := cell_of_row w g 0 _ _ _ hb
  have c1 : w.cell? ⟨g, 1, none⟩ = some (.int .i64 k) := cell_of_row w g 1 _ _ _ hb
  have f1 : w.frozen? ⟨g, 1, none⟩ = false := by simp [World.frozen?, hb]
  have HB := Lib.hid hb
  clear hb
  by_cases hkl : k < l.length
  · obtain ⟨b, off, rfl, hb, hcc⟩ := hc (by omega)
    have d2 := hcc k hkl
    have m1 : l[k].tmod n < n := Int.tmod_lt_of_pos _ (by omega)
    have m2 : -n < l[k].tmod n := by have := Int.lt_tmod_of_pos l[k] (b := n) (by omega); omega
    clear hcc hc
    by_cases hx : l[k].tmod n < 0
    all_goals
      go_enter Tryd.func30, Tryd.ntmps30
      go_wp2_with fail
      go_quiet (fail)
      go_wp2_with fail
      go_quiet (fail)
      go_wp2
      go_ret
      exact ⟨_, rfl, by omega, by omega, SrcR.next (k := k) (by exact HB.out) hs hw hl hkl (by exact hgl), ((Fr.refl _ w).drewN _).setRow rfl _⟩
  · go_enter Tryd.func30, Tryd.ntmps30
    go_wp2_with fail
    go_quiet (fail)
    go_wp2
    go_ret
    exact ⟨0, rfl, by omega, by omega, h0.drewN _, (Fr.refl _ _).drewN _⟩
/-- One of some numbers. -/
def PickP (T : TypeId) (w : World) (g : Nat) (l : List Int) (e : Ending) (w' : World) : Prop :=
  ∃ x : Int, e = .returned (.int .i64 x) ∧ x ∈ l ∧ SrcR T w' g ∧ Fr (some g) w w'

theorem tapePick_any (v : Value) (l : List Int) (g : Nat) (w : World) (hl : SlI w (some g) v l) (h1 : 1 ≤ l.length) (h2 : l.length ≤ 1073741824) (h : SrcR 48 w g) :
    Calls Tryd.prog 36 #[.pointer (some ⟨g, 0, none⟩), v] w (PickP 48 w g l) := by
  obtain ⟨A, c, rfl, q1, q2, hc⟩ := hl.open_
  obtain ⟨b, off, rfl, hb, hbr, hcc⟩ := hc (by omega)
  clear hc
  go_enter Tryd.func36, Tryd.ntmps36
  go_wp2_with fail
  refine (tapeN_any _ _ _ (by omega) (by omega) h).mono ?_
  rintro e w' ⟨x, rfl, x1, x2, S, F⟩
  obtain ⟨k, rfl⟩ := Int.eq_ofNat_of_zero_le x1
  have hk : k < l.length := by omega
  have d := F.keep (hcc k hk) (by simpa using hbr)
  clear hcc
  go_wp2
  go_ret
  exact ⟨_, rfl, List.getElem_mem _, S, F⟩

/-- The numbers below n, in some order. -/
def OrderP (T : TypeId) (w : World) (g n : Nat) (e : Ending) (w' : World) : Prop :=
  ∃ (v : Value) (l : List Int), e = .returned v ∧ l.Perm (ints n) ∧ SlD w' (Dn w.heap.size w') 1 v (l.map (Value.int .i64)) ∧ SrcR T w' g ∧ Fr (some g) w w'

end Go.Proofs.YtkpgnhdmlikopaaDoor

/- Walks: trustquorummake.Claim, Claims. -/
namespace Go.Proofs.YtkpgnhdmlikopaaDoor
open Go.RowKit

theorem snoc_wc {l : List Cl} {x : Cl} (h : ∀ c ∈ l, Wc c) (hx : Wc x) : ∀ c ∈ l ++ [x], Wc c := fun y hy => by
  rcases List.mem_append.1 hy with hy | hy
  · exact h y hy
  · obtain rfl := List.mem_singleton.1 hy
    exact hx
/-- A claim out of the tape. -/
def OneC (w : World) (g : Nat) (e : Ending) (w' : World) : Prop := ∃ c : Cl, e = .returned (.agg #[.int .i64 c.1, .int .i64 c.2]) ∧ Wc c ∧ SrcR 48 w' g ∧ Fr (some g) w w'
/-- Claims out of the tape. -/
def SomeC (w : World) (g n : Nat) (e : Ending) (w' : World) : Prop := ∃ (v : Value) (l : List Cl), e = .returned v ∧ SlD w' (Dn w.heap.size w') 2 v (flC l) ∧ (∀ c ∈ l, Wc c) ∧ l.length ≤ n ∧ SrcR 48 w' g ∧ Fr (some g) w w'
set_option maxRecDepth 100000 in
set_option maxHeartbeats 1000000 in
theorem mkclm_any (g : Nat) (w : World) (S : SrcR 48 w g) : Calls Tryd.prog 15 #[.pointer (some ⟨g, 0, none⟩)] w (OneC w g) := by
  have hg := S.lt
  go_enter Tryd.func15, Tryd.ntmps15
  go_upto_region 1 with (fail)
  generalize hW : w.alloc _ = w1
  have F1 : Fr none w w1 := hW ▸ (Fr.refl none w).alloc _
  have b2 : CB2 w1 w.heap.size (.int .i64 0) (.int .i64 0) 38 := by rw [← hW]; exact blk_new _ _
  clear hW
  have S1 := S.fr F1
  have hz1 := blk_lt b2
  go_wp2_with fail
  refine (tapeN_any 30 g _ (by omega) (by omega) S1).mono ?_
  rintro e w2 ⟨x, rfl, x1, x2, S2, F2⟩
  have hz2 := F2.size
  by_cases hx : x = 29
  · subst hx
    go_wp2_with fail
    have hl1 : SlI (w2.alloc (.cells #[.int .i64 (-1), .int .i64 0, .int .i64 7, .int .i64 8] 3)) (some g) (.slice (some ⟨w2.heap.size, 0, none⟩) 4 4) [-1, 0, 7, 8] := ⟨SlD.lit_dm #[.int .i64 (-1), .int .i64 0, .int .i64 7, .int .i64 8] 3 4 1 rfl (by unfold maxLen; omega) (by simp; omega) (Fr.refl _ _), by intro x hx; simp at hx; constructor <;> omega⟩
    refine (tapePick_any _ [-1, 0, 7, 8] g _ hl1 (by simp) (by simp) (S2.fr ((Fr.refl none w2).alloc _))).mono ?_
    rintro e w4 ⟨a, rfl, ha, S4, F4⟩
    have F24 : Fr (some g) w2 w4 := ((Fr.refl (some g) w2).alloc _).same F4
    have hz4 := F24.size
    go_wp2_with fail
    have hl2 : SlI (w4.alloc (.cells #[.int .i64 (-1), .int .i64 0, .int .i64 15, .int .i64 16] 3)) (some g) (.slice (some ⟨w4.heap.size, 0, none⟩) 4 4) [-1, 0, 15, 16] := ⟨SlD.lit_dm #[.int .i64 (-1), .int .i64 0, .int .i64 15, .int .i64 16] 3 4 1 rfl (by unfold maxLen; omega) (by simp; omega) (Fr.refl _ _), by intro x hx; simp at hx; constructor <;> omega⟩
    refine (tapePick_any _ [-1, 0, 15, 16] g _ hl2 (by simp) (by simp) (S4.fr ((Fr.refl none w4).alloc _))).mono ?_
    rintro e w3 ⟨b, rfl, hb, S3, F3⟩
    have F43 : Fr (some g) w4 w3 := ((Fr.refl (some g) w4).alloc _).same F3
    have F03 : Fr (some g) w1 w3 := (F2.same F24).same F43
    clear F4 F3 F24 F43 hl1 hl2
    have hab : Wc (a, b) := by simp at ha hb; constructor <;> constructor <;> simp only <;> omega
    have HAB := Lib.hid hab
    clear ha hb hab
    have hgne : some g ≠ some w.heap.size := by simp; omega
    have bz := b2.fr F03 hgne
    obtain ⟨r1, r2⟩ := bz.cell
    obtain ⟨z1, z2⟩ := bz.free
    have lz := blk_lt bz
    go_wp2_with fail
    refine bodyPost_ret (v := .agg #[.int .i64 a, .int .i64 b]) (by simp [results, Tryd.results15, go_sem, r1, r2]) rfl ?_
    have FF := (Fr.set1 w3 ⟨w.heap.size, 0, none⟩ (.int .i64 a)).same (Fr.set1 _ ⟨w.heap.size, 1, none⟩ (.int .i64 b))
    exact ⟨(a, b), rfl, HAB.out, S3.frs FF (by simp; omega), (F1.mono.same F03).own FF (by simp)⟩
  · have hx0 : (x == 29) = false := by rw [beq_eq_false_iff_ne]; exact hx
    clear hx
    go_wp2_with fail
    refine (tapeN_any 3 g _ (by omega) (by omega) S2).mono ?_
    rintro e w4 ⟨a, rfl, a1, a2, S4, F4⟩
    go_wp2_with fail
    refine (tapeN_any 3 g _ (by omega) (by omega) S4).mono ?_
    rintro e w3 ⟨b, rfl, bb1, bb2, S3, F3⟩
    have F03 : Fr (some g) w1 w3 := (F2.same F4).same F3
    clear F4 F3
    have hab : Wc (a, b) := by constructor <;> constructor <;> simp only <;> omega
    have HAB := Lib.hid hab
    clear hab
    have hgne : some g ≠ some w.heap.size := by simp; omega
    have bz := b2.fr F03 hgne
    obtain ⟨r1, r2⟩ := bz.cell
    obtain ⟨z1, z2⟩ := bz.free
    have lz := blk_lt bz
    go_wp2_with fail
    refine bodyPost_ret (v := .agg #[.int .i64 a, .int .i64 b]) (by simp [results, Tryd.results15, go_sem, r1, r2]) rfl ?_
    have FF := (Fr.set1 w3 ⟨w.heap.size, 0, none⟩ (.int .i64 a)).same (Fr.set1 _ ⟨w.heap.size, 1, none⟩ (.int .i64 b))
    exact ⟨(a, b), rfl, HAB.out, S3.frs FF (by simp; omega), (F1.mono.same F03).own FF (by simp)⟩
set_option maxRecDepth 100000 in
set_option maxHeartbeats 1000000 in
theorem mkclms_any (g n : Nat) (w : World) (hn : n ≤ 100) (S : SrcR 48 w g) : Calls Tryd.prog 9 #[.pointer (some ⟨g, 0, none⟩), .int .i64 n] w (SomeC w g n) := by
  have hg := S.lt
  go_enter Tryd.func9, Tryd.ntmps9
  go_wp2_with fail
  refine (tapeN_any ((n : Int) + 1) g _ (by omega) (by omega) S).mono ?_
  rintro e w2 ⟨m, rfl, m1, m2, S2, F2⟩
  go_wp2_with fail
  go_loopw [5, 6] (fun s5 s6 wr => ∃ (k : Int) (l : List Cl) (A : Option Addr) (c : Nat), s6 = .int .i64 k ∧ 0 ≤ k ∧ s5 = .slice A l.length c ∧ (l.length : Int) + k ≤ n ∧ Hid (∀ c ∈ l, Wc c) ∧ SrcR 48 wr g ∧ Fr (some g) w wr ∧ wr.ownsRow w.heap.size 38 2 (.slice A l.length c) l.length (flC l)) (fun _ s6 _ => (intOf s6).toNat)
  case atStart => exact ⟨m, [], none, 0, rfl, by omega, rfl, by simp; omega, Lib.hid (by simp), S2, F2, World.ownsRow_nil _ _ _ _⟩
  case round =>
    clear S2 F2 m1 m2
    obtain ⟨k, l, A, c, rfl, hk, rfl, hlk, HL, S, F, own⟩ := hrel
    have hz := F.size
    by_cases hk0 : 0 < k
    · go_wp2_with fail
      refine (mkclm_any g _ S).mono ?_
      rintro e w3 ⟨x, rfl, hx, S3, F3⟩
      have HXx := Lib.hid hx
      clear hx
      have own3 := own_fr own F3 (by simp; omega)
      have og := own_blk_ge own3
      have hz3 := F3.size
      go_wp2_with (at_builtin; refine app_lit eiClm rfl _ _ rfl w.heap.size A l.length c _ rfl own3 1 [.int .i64 x.1, .int .i64 x.2] _ _ rfl (by simp) rfl (by simp [Value.oneCell']) (by omega) (by unfold maxLen; omega) (by omega) ?_; intro A' c' w' own' F' bl')
      have hln : (l ++ [x]).length = l.length + 1 := by simp
      go_roundw
      case rel => exact ⟨k - 1, l ++ [x], A', c', by go_num, by omega, by rw [hln], by rw [hln]; omega, Lib.hid (snoc_wc HL.out HXx.out), S3.frs F' (fun q e => by have := og q e; omega), (F.same F3).own F' og, by rw [hln, flC_snoc]; exact own'⟩
      case measure => simp [intOf]; omega
    · go_wp2_with fail
      go_ret
      exact ⟨_, l, rfl, SlD.own_dn own, HL.out, by omega, S, F⟩
end Go.Proofs.YtkpgnhdmlikopaaDoor

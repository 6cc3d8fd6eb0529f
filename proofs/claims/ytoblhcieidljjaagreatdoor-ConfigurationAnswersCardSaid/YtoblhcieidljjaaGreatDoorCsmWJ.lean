/- Walks: configuration.Same. -/
import Derived.Test.YtoblhcieidljjaaGreatDoorProg
import Derived.Test.YtoblhcieidljjaaGreatDoorJG21
import Derived.Test.YtoblhcieidljjaaGreatDoorJG11
set_option linter.unusedSimpArgs false
set_option linter.unusedVariables false
namespace Go.Proofs.YtoblhcieidljjaaGreatDoor
open Go.RowKit

set_option maxRecDepth 100000 in
set_option maxHeartbeats 2000000 in
theorem smM_any (m m' : Mb) (th th' : Int) (A1 : Option Addr) (n1 c1 : Nat) (A2 : Option Addr) (n2 c2 : Nat) (A1' : Option Addr) (n1' c1' : Nat) (A2' : Option Addr) (n2' c2' : Nat) (w : World) (h : TrR w none (.agg #[.int .i64 th, .slice A1 n1 c1, .slice A2 n2 c2]) m.tr) (h' : TrR w none (.agg #[.int .i64 th', .slice A1' n1' c1', .slice A2' n2' c2']) m'.tr) :
    Calls Tryz.prog 105 #[.agg #[.bool m.dec, .int .i64 th, .slice A1 n1 c1, .slice A2 n2 c2], .agg #[.bool m'.dec, .int .i64 th', .slice A1' n1' c1', .slice A2' n2' c2']] w fun e w' => e = .returned (.bool (sameM m m')) ∧ Fr none w w' := by
  obtain ⟨d, t⟩ := m
  obtain ⟨d', t'⟩ := m'
  simp only at h h' ⊢
  obtain ⟨E, hE⟩ : ∃ E, E = sameM ⟨d, t⟩ ⟨d', t'⟩ := ⟨_, rfl⟩
  rw [← hE]
  have HE := Lib.hid hE
  clear hE
  go_enter Tryz.func105, Tryz.ntmps105
  go_upto_region 1 with (fail)
  generalize hW : (w.alloc _).alloc _ = w1
  have F1 : Fr none w w1 := hW ▸ ((Fr.refl _ w).alloc _).alloc _
  have b2 : MB w1 w.heap.size (.bool d) (.int .i64 th) (.slice A1 n1 c1) (.slice A2 n2 c2) := by rw [← hW]; exact (Below.heap_alloc _ _ _ (by simp)).trans (blk_new _ _)
  have b3 : MB w1 (w.heap.size + 1) (.bool d') (.int .i64 th') (.slice A1' n1' c1') (.slice A2' n2' c2') := by rw [← hW]; exact blk_new_at (by simp) _
  clear hW
  have h1 := h.fr F1
  have h1' := h'.fr F1
  have R2 := b2.cell
  have R3 := b3.cell
  have l2 := blk_lt b2
  have l3 := blk_lt b3
  by_cases hd : d = d'
  · subst hd
    have hdd : (d == d) = true := by simp
    obtain ⟨X, hX⟩ : ∃ X, sameT t t' = X := ⟨_, rfl⟩
    have HF : Hid (E = X) := by unfold Hid; rw [HE.out]; unfold sameM; rw [hX]; simp
    have HX := Lib.hid hX
    clear hX h h'
    go_wp2_with fail
    refine (tsame_any t.dep t t' _ _ _ none (Nat.le_refl _) h1 h1').mono ?_
    rintro e w2 ⟨rfl, F2⟩
    rw [HX.out]
    go_wp2_with fail
    go_ret
    exact ⟨ret_bool HF.out.symm, F1.pure F2⟩
  · have HF : Hid (E = false) := by unfold Hid; rw [HE.out]; unfold sameM; rw [(beq_eq_false_iff_ne (a := d) (b := d')).2 hd]; rfl
    cases d with
    | true =>
      cases d' with
      | true => exact absurd rfl hd
      | false =>
        clear hd
        go_wp2_with fail
        go_ret
        exact ⟨ret_bool HF.out.symm, F1⟩
    | false =>
      cases d' with
      | false => exact absurd rfl hd
      | true =>
        clear hd
        go_wp2_with fail
        go_ret
        exact ⟨ret_bool HF.out.symm, F1⟩
set_option maxRecDepth 100000 in
set_option maxHeartbeats 4000000 in
theorem eqfM_any (L L' : List Mb) (A A' : Option Addr) (c c' : Nat) (w : World) (h : CfD w (Dm w none) (.agg #[.slice A L.length c]) L) (h' : CfD w (Dm w none) (.agg #[.slice A' L'.length c']) L') (hL : L.length ≤ 1000) (hL' : L'.length ≤ 1000) :
    Calls Tryz.prog 104 #[.slice A L.length c, .slice A' L'.length c', .func (.func 105) #[] #[]] w fun e w' => e = .returned (.bool (sameC L L')) ∧ Fr none w w' := by
  have hrun : ∀ args w, Sem.run Tryz.prog (callFunc 105 args) w = .ok (.enter 105 args) w := fun _ _ => by kernel_rfl
  obtain ⟨A0, c0, e0, q1, q2, hcell⟩ := h.open_
  obtain ⟨A0', c0', e0', q1', q2', hcell'⟩ := h'.open_
  injection e0 with e0
  simp only [Array.mk.injEq, List.cons.injEq, and_true] at e0
  injection e0 with e1 _ e3
  subst e1 e3
  injection e0' with e0'
  simp only [Array.mk.injEq, List.cons.injEq, and_true] at e0'
  injection e0' with e1 _ e3
  subst e1 e3
  have HC := Lib.hid hcell
  have HC' := Lib.hid hcell'
  unfold maxLen at q2 q2'
  clear hcell hcell' h h'
  by_cases hll : L.length = L'.length
  · have hb0 : ((L.length : Int) != (L.length : Int)) = false := by simp
    have HLL := Lib.hid hll
    rw [← hll] at q1' ⊢
    clear hll
    go_enter Tryz.func104, Tryz.ntmps104
    go_wp2_with fail
    go_loopw [7, 8, 9, 17] (fun _ _ _ s17 wr => ∃ j : Nat, j ≤ L.length ∧ s17 = .int .i64 (j : Int) ∧ Fr none w wr ∧ Hid (∀ i (hi : i < L.length), i < j → L[i] = L'[i]'(by have := HLL.out; omega))) (fun _ _ _ s17 _ => L.length - (intOf s17).toNat)
    case atStart => exact ⟨0, Nat.zero_le _, rfl, Fr.refl _ _, Lib.hid (fun i hi h => by omega)⟩
    case round =>
      obtain ⟨j, hj, rfl, F, HQ⟩ := hrel
      obtain ⟨wz, hwz⟩ : ∃ wz : World, wz = wr := ⟨_, rfl⟩
      subst hwz
      by_cases hlt : j < L.length
      · have hlt' : j < L'.length := by have := HLL.out; omega
        obtain ⟨b, off, th, A1, n1, c1, A2, n2, c2, rfl, hb, g0, g1, g2, g3, ht⟩ := HC.out j hlt
        obtain ⟨b', off', th', A1', n1', c1', A2', n2', c2', rfl, hb', g0', g1', g2', g3', ht'⟩ := HC'.out j hlt'
        have g0 := F.keep g0 (by simp)
        have g1 := F.keep g1 (by simp)
        have g2 := F.keep g2 (by simp)
        have g3 := F.keep g3 (by simp)
        have g0' := F.keep g0' (by simp)
        have g1' := F.keep g1' (by simp)
        have g2' := F.keep g2' (by simp)
        have g3' := F.keep g3' (by simp)
        have ht : TrR wz none (.agg #[.int .i64 th, .slice A1 n1 c1, .slice A2 n2 c2]) L[j].tr := TrD.keep (fr_dm F) _ _ ht
        have ht' : TrR wz none (.agg #[.int .i64 th', .slice A1' n1' c1', .slice A2' n2' c2']) L'[j].tr := TrD.keep (fr_dm F) _ _ ht'
        have hbz : b < wz.heap.size := by have := F.size; have := hb.1; omega
        have hbz' : b' < wz.heap.size := by have := F.size; have := hb'.1; omega
        have HNE : Hid (sameM L[j] L'[j] = false → sameC L L' = false) := fun hn => sameC_ne fun e => by
          subst e
          rw [(sameM_iff _ _).2 rfl] at hn
          cases hn
        have HEQ : Hid (sameM L[j] L'[j] = true → ∀ i (hi : i < L.length), i < j + 1 → L[i] = L'[i]'(by have := HLL.out; omega)) := fun he i hi hij => by
          rcases Nat.lt_or_ge i j with hh | hh
          · exact HQ.out i hi hh
          · obtain rfl : i = j := by omega
            exact (sameM_iff _ _).1 he
        clear HQ
        generalize L[j] = m at *
        generalize L'[j] = m' at *
        go_upto_region 7 with (fail)
        generalize hW : (wz.alloc _).alloc _ = wa
        have Fa : Fr none wz wa := hW ▸ ((Fr.refl _ wz).alloc _).alloc _
        have k8 : MB wa wz.heap.size (.bool m.dec) (.int .i64 th) (.slice A1 n1 c1) (.slice A2 n2 c2) := by rw [← hW]; exact (Below.heap_alloc _ _ _ (by simp)).trans (blk_new _ _)
        have k9 : MB wa (wz.heap.size + 1) (.bool m'.dec) (.int .i64 th') (.slice A1' n1' c1') (.slice A2' n2' c2') := by rw [← hW]; exact blk_new_at (by simp) _
        clear hW g0 g1 g2 g3 g0' g1' g2' g3'
        have hta := ht.fr Fa
        have hta' := ht'.fr Fa
        have R8 := k8.cell
        have R9 := k9.cell
        have l8 := blk_lt k8
        have l9 := blk_lt k9
        go_wp2_with fail
        refine (smM_any m m' _ _ _ _ _ _ _ _ _ _ _ _ _ _ _ hta hta').mono ?_
        rintro e w2 ⟨rfl, F2⟩
        cases hs : sameM m m' with
        | true =>
          have HS := Lib.hid hs
          clear hs
          go_wp2_with fail
          go_roundw
          case rel => exact ⟨j + 1, by omega, by go_num, (F.pure Fa).pure F2, HEQ.out HS.out⟩
          case measure => simp [intOf]; omega
        | false =>
          have HF : Hid (sameC L L' = false) := HNE.out hs
          clear hs
          go_wp2_with fail
          go_ret
          exact ⟨ret_bool HF.out.symm, (F.pure Fa).pure F2⟩
      · obtain rfl : j = L.length := by omega
        have HS : Hid (sameC L L' = true) := ref_same HLL.out (fun i hi => HQ.out i hi hi)
        go_wp2_with fail
        go_ret
        exact ⟨ret_bool HS.out.symm, F⟩
  · have hb0 : ((L.length : Int) != (L'.length : Int)) = true := by rw [bne_iff_ne]; omega
    have HN : Hid (sameC L L' = false) := sameC_ne fun e => hll (by rw [e])
    clear hll
    go_enter Tryz.func104, Tryz.ntmps104
    go_wp2_with fail
    go_ret
    exact ⟨ret_bool HN.out.symm, Fr.refl _ _⟩
set_option maxRecDepth 100000 in
set_option maxHeartbeats 2000000 in
theorem csame_any (L L' : List Mb) (v v' : Value) (w : World) (h : CfD w (Dm w none) v L) (h' : CfD w (Dm w none) v' L') (hL : L.length ≤ 1000) (hL' : L'.length ≤ 1000) :
    Calls Tryz.prog 52 #[v, v'] w fun e w' => e = .returned (.bool (sameC L L')) ∧ Fr none w w' := by
  obtain ⟨A, c, rfl⟩ : ∃ A c, v = .agg #[.slice A L.length c] := by obtain ⟨A, c, cells, rfl, _⟩ := h; exact ⟨A, c, rfl⟩
  obtain ⟨A', c', rfl⟩ : ∃ A c, v' = .agg #[.slice A L'.length c] := by obtain ⟨A, c, cells, rfl, _⟩ := h'; exact ⟨A, c, rfl⟩
  go_enter Tryz.func52, Tryz.ntmps52
  go_upto_region 1 with (fail)
  generalize hW : (w.alloc _).alloc _ = w1
  have F1 : Fr none w w1 := hW ▸ ((Fr.refl _ w).alloc _).alloc _
  have b2 : CB w1 w.heap.size (.slice A L.length c) := by rw [← hW]; exact (Below.heap_alloc _ _ _ (by simp)).trans (blk_new _ _)
  have b3 : CB w1 (w.heap.size + 1) (.slice A' L'.length c') := by rw [← hW]; exact blk_new_at (by simp) _
  clear hW
  have R2 := b2.cell
  have R3 := b3.cell
  have l2 := blk_lt b2
  have l3 := blk_lt b3
  go_wp2_with fail
  refine (eqfM_any L L' A A' c c' _ (h.keep (fr_dm F1)) (h'.keep (fr_dm F1)) hL hL').mono ?_
  rintro e w2 ⟨rfl, F2⟩
  go_wp2_with fail
  go_ret
  exact ⟨rfl, F1.pure F2⟩
end Go.Proofs.YtoblhcieidljjaaGreatDoor

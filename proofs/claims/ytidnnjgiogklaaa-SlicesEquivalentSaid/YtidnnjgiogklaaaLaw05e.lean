/- The law SlicesEquivalent: its walk. -/
import Derived.Test.YtidnnjgiogklaaaProg
import Derived.Test.YtidnnjgiogklaaaAwake5
import Derived.Test.YtidnnjgiogklaaaMkTrust
import Derived.Test.YtidnnjgiogklaaaInts
import Derived.Test.YtidnnjgiogklaaaEqvP
namespace Go.Proofs.Ytidnnjgiogklaaa
open Go.RowKit

theorem slc_wi (t : Tr) : ∀ x ∈ slcS ordI t, Wi x := fun x hx => by
  obtain ⟨a, rfl, ha, _⟩ := slc_mem ordI_all hx
  constructor <;> omega

set_option maxRecDepth 100000 in
set_option maxHeartbeats 8000000 in
theorem law05e_any (v : Value) (l : List Int) (w : World) (hl : SlI w none v l) : Calls Try.prog 5 #[v] w fun e w' => e = .returned (.bool true) ∧ Fr none w w' := by
  go_enter Try.func5, Try.ntmps5
  go_wp2_with fail
  refine (tapeNew_any _ _ _ hl).mono ?_
  rintro e w1 ⟨g, rfl, hg, S1, F1⟩
  clear hl
  go_wp2_with fail
  refine (mkTrust_any 3 2 g _ (by omega) (by omega) (by omega) (by omega) S1).mono ?_
  rintro e w2 ⟨tv, t, rfl, hD, hv, hdp, hni, S2, F2⟩
  obtain ⟨th, A1, n1, c1, A2, n2, c2, rfl⟩ := hD.shape
  go_wp2_with fail
  refine (mkTrust_any 3 2 g _ (by omega) (by omega) (by omega) (by omega) S2).mono ?_
  rintro e w3 ⟨uv, u, rfl, hE, hv', hdp', hni', S3, F3⟩
  obtain ⟨th', A1', n1', c1', A2', n2', c2', rfl⟩ := hE.shape
  have hg1 : g < w1.heap.size := S1.lt
  have hz2 := F2.size
  have hz3 := F3.size
  have F03 := F1.own (F2.same F3) (fun q hq => by injection hq with hq; omega)
  have hT3 : TrR w3 none (.agg #[.int .i64 th, .slice A1 n1 c1, .slice A2 n2 c2]) t := TrD.keep (fun b hb => ⟨⟨by have := hb.2; omega, by simp⟩, F3.block b hb.2 (by have := hb.1; simp; omega)⟩) _ _ hD
  have hU3 : TrR w3 none (.agg #[.int .i64 th', .slice A1' n1' c1', .slice A2' n2' c2']) u := TrD.keep (dn_dm (by simp)) _ _ hE
  have HV := Lib.hid hv
  have HV' := Lib.hid hv'
  have HT := Lib.hid hT3
  have HU := Lib.hid hU3
  clear hv hv' hD hE S1 S2 S3 F1 F2 F3 hni hni' hT3 hU3
  go_wp2_with fail
  generalize hW : (w3.alloc _).alloc _ = w4
  have F34 : Fr none w3 w4 := hW ▸ ((Fr.refl none w3).alloc _).alloc _
  have b4 : TB w4 w3.heap.size (.int .i64 th) (.slice A1 n1 c1) (.slice A2 n2 c2) := by rw [← hW]; exact (Below.heap_alloc _ _ _ (by simp)).trans (blk_new _ _)
  have b5 : TB w4 (w3.heap.size + 1) (.int .i64 th') (.slice A1' n1' c1') (.slice A2' n2' c2') := by rw [← hW]; exact blk_new_at (by simp) _
  clear hW
  have F04 := F03.pure F34
  have HT4 := Lib.hid (HT.out.fr F34)
  have HU4 := Lib.hid (HU.out.fr F34)
  have HB4 := Lib.hid b4
  have HB5 := Lib.hid b5
  clear b4 b5
  refine (rNormal_any t _ _ HT4.out HV.out).mono ?_
  rintro e w5 ⟨nv, rfl, hN, F5⟩
  obtain ⟨nh, X1, m1, d1, X2, m2, d2, rfl⟩ := TrD.shape hN
  have R1 := (HB4.out.fr F5 (by simp)).cell
  have R2 := (HB5.out.fr F5 (by simp)).cell
  have HN := Lib.hid hN
  have hNV := Lib.hid (norm_ok HV.out).1
  have F05 := F04.pure F5
  have y1 := blk_lt (HB4.out.fr F5 (by simp))
  have y2 := blk_lt (HB5.out.fr F5 (by simp))
  clear hN
  obtain ⟨same, there, back, k, a, b, hk, ha, hb, q1, q2, q3, x1, x2, x3, x4, x5⟩ := eqv_ans t u
  have Q1 := Lib.hid q1
  have Q2 := Lib.hid q2
  have Q3 := Lib.hid q3
  have X1' := Lib.hid x1
  have X2' := Lib.hid x2
  have X3 := Lib.hid x3
  have X4 := Lib.hid x4
  have X5 := Lib.hid x5
  clear q1 q2 q3 x1 x2 x3 x4 x5
  go_wp2_with fail
  generalize hW : w5.alloc _ = w6
  have F56 : Fr none w5 w6 := hW ▸ (Fr.refl none w5).alloc _
  have F46 := F5.pure F56
  have HT6 := Lib.hid (HT4.out.fr F46)
  have HU6 := Lib.hid (HU4.out.fr F46)
  have C1 := Lib.hid (HB4.out.fr F46 (by simp))
  have C2 := Lib.hid (HB5.out.fr F46 (by simp))
  clear hW R1 R2
  have HNS := Lib.hid (norm_same HV.out)
  refine (eqv_any t (normT t) _ _ _ HT6.out (HN.out.fr F56) HV.out hNV.out).mono ?_
  rintro e w7 ⟨rfl, F7⟩
  rw [HNS.out]
  have E7 := F7
  have R1 := (C1.out.fr E7 (by simp)).cell
  have R2 := (C2.out.fr E7 (by simp)).cell
  go_wp2_with fail
  refine (eqv_any t u _ _ _ (HT6.out.fr E7) (HU6.out.fr E7) HV.out HV'.out).mono ?_
  rintro e w8 ⟨rfl, F8⟩
  rw [Q1.out]
  have E8 := E7.pure F8
  clear R1 R2
  have R1 := (C1.out.fr E8 (by simp)).cell
  have R2 := (C2.out.fr E8 (by simp)).cell
  go_wp2_with fail
  refine (imp_any t u _ _ _ (HT6.out.fr E8) (HU6.out.fr E8) HV.out HV'.out).mono ?_
  rintro e w9 ⟨rfl, F9⟩
  rw [Q2.out]
  have E9 := E8.pure F9
  clear R1 R2
  have R1 := (C1.out.fr E9 (by simp)).cell
  have R2 := (C2.out.fr E9 (by simp)).cell
  go_wp2_with fail
  refine (imp_any u t _ _ _ (HU6.out.fr E9) (HT6.out.fr E9) HV'.out HV.out).mono ?_
  rintro e w10 ⟨rfl, F10⟩
  rw [Q3.out]
  have E10 := E9.pure F10
  clear R1 R2
  have R1 := (C1.out.fr E10 (by simp)).cell
  have R2 := (C2.out.fr E10 (by simp)).cell
  go_wp2_with fail
  refine (slices_any t _ _ (HT6.out.fr E10) HV.out).mono ?_
  rintro e w11 ⟨v11, rfl, D11, F11⟩
  have E11 := E10.pure F11
  have I11 := Lib.hid (show SlI w11 none v11 (slcS ordI t) from ⟨D11.keep (dn_dm (by simp)), slc_wi t⟩)
  clear R1 R2 D11
  have R1 := (C1.out.fr E11 (by simp)).cell
  have R2 := (C2.out.fr E11 (by simp)).cell
  go_wp2_with fail
  refine (slices_any u _ _ (HU6.out.fr E11) HV'.out).mono ?_
  rintro e w12 ⟨v12, rfl, D12, F12⟩
  have E12 := E11.pure F12
  have I12 := Lib.hid (show SlI w12 none v12 (slcS ordI u) from ⟨D12.keep (dn_dm (by simp)), slc_wi u⟩)
  have J11 := Lib.hid (I11.out.fr F12)
  clear R1 R2 D12
  have R1 := (C1.out.fr E12 (by simp)).cell
  have R2 := (C2.out.fr E12 (by simp)).cell
  have hs := X1'.out
  have ld1 := blk_lt (C1.out.fr E12 (by simp))
  have ld2 := blk_lt (C2.out.fr E12 (by simp))
  cases there <;> cases back <;> (simp only [Bool.and_self, Bool.and_false, Bool.and_true] at hs; subst hs)
  all_goals
    go_wp2_with fail
    refine (ints_any (slcS ordI t) (slcS ordI u) _ _ _ J11.out I12.out).mono ?_
    rintro e w13 ⟨rfl, F13⟩
    rw [← X2'.out]
    have E13 := E12.pure F13
    clear R1 R2
    have R1 := (C1.out.fr E13 (by simp)).cell
    have R2 := (C2.out.fr E13 (by simp)).cell
    go_wp2_with fail
  ·
    refine (rsat_any t.dep t _ _ _ none (Nat.le_refl _) (HT6.out.fr E13)).mono ?_
    rintro e w14 ⟨rfl, F14⟩
    rw [(X3.out (by simp)).1]
    have E14 := (E13).pure F14
    clear R1 R2
    have R1 := (C1.out.fr E14 (by simp)).cell
    have R2 := (C2.out.fr E14 (by simp)).cell
    go_wp2_with fail
    refine (rsat_any u.dep u _ _ _ none (Nat.le_refl _) (HU6.out.fr E14)).mono ?_
    rintro e w15 ⟨rfl, F15⟩
    rw [(X3.out (by simp)).2]
    have E15 := (E14).pure F15
    clear R1 R2
    have R1 := (C1.out.fr E15 (by simp)).cell
    have R2 := (C2.out.fr E15 (by simp)).cell
    go_wp2_with fail
    refine (rsat_any u.dep u _ _ _ none (Nat.le_refl _) (HU6.out.fr E15)).mono ?_
    rintro e w16 ⟨rfl, F16⟩
    rw [(X4.out (by simp)).1]
    have E16 := (E15).pure F16
    clear R1 R2
    have R1 := (C1.out.fr E16 (by simp)).cell
    have R2 := (C2.out.fr E16 (by simp)).cell
    go_wp2_with fail
    refine (rsat_any t.dep t _ _ _ none (Nat.le_refl _) (HT6.out.fr E16)).mono ?_
    rintro e w17 ⟨rfl, F17⟩
    rw [(X4.out (by simp)).2]
    have E17 := (E16).pure F17
    clear R1 R2
    have R1 := (C1.out.fr E17 (by simp)).cell
    have R2 := (C2.out.fr E17 (by simp)).cell
    go_wp2_with fail
    have HX : Hid (∀ W, Fr none w6 W → (∀ k, W.cell? ⟨w3.heap.size, k, none⟩ = (#[.int .i64 th, .slice A1 n1 c1, .slice A2 n2 c2] : Array Value)[k]?) ∧ (∀ k, W.cell? ⟨w3.heap.size + 1, k, none⟩ = (#[.int .i64 th', .slice A1' n1' c1', .slice A2' n2' c2'] : Array Value)[k]?) ∧ Fr none w6 W) := fun W F => ⟨(C1.out.fr F (by simp)).cell, (C2.out.fr F (by simp)).cell, F⟩
    have hx5 : (sat (k : Int) t == sat (k : Int) u) = false := X5.out.symm
    refine wp_region_held_drew (S := fun W => (∀ k, W.cell? ⟨w3.heap.size, k, none⟩ = (#[.int .i64 th, .slice A1 n1 c1, .slice A2 n2 c2] : Array Value)[k]?) ∧ (∀ k, W.cell? ⟨w3.heap.size + 1, k, none⟩ = (#[.int .i64 th', .slice A1' n1' c1', .slice A2' n2' c2'] : Array Value)[k]?) ∧ Fr none w6 W) (by kernel_rfl) (HX.out _ (E17).drew) (fun hH0 => ?_)
    refine wpAnyH_take (i := 0) (v := ?_) rfl (by kernel_rfl) (by kernel_rfl) (by kernel_rfl) (fun _ _ _ h => h) (Or.inl ⟨by rfl, ?_⟩) (by assumption) ?_
    rotate_left
    · (intro W hW; (try dsimp only at hW); go_simp; try with_reducible rfl)
    try simp only [Act.put, List.setIfInBounds_toArray, List.set_cons_zero, List.set_cons_succ, List.getElem_toArray, List.getElem_cons_zero, List.getElem_cons_succ]
    refine wpAnyH_take (i := 1) (v := ?_) rfl (by kernel_rfl) (by kernel_rfl) (by kernel_rfl) (fun _ _ _ h => h) (Or.inl ⟨by rfl, ?_⟩) (by assumption) ?_
    rotate_left
    · (intro W hW; (try dsimp only at hW); go_simp; try with_reducible rfl)
    try simp only [Act.put, List.setIfInBounds_toArray, List.set_cons_zero, List.set_cons_succ, List.getElem_toArray, List.getElem_cons_zero, List.getElem_cons_succ]
    refine wpAnyH_take (i := 2) (v := ?_) rfl (by kernel_rfl) (by kernel_rfl) (by kernel_rfl) (fun _ _ _ h => h) (Or.inl ⟨by rfl, ?_⟩) (by assumption) ?_
    rotate_left
    · (intro W hW; (try dsimp only at hW); go_simp; try with_reducible rfl)
    try simp only [Act.put, List.setIfInBounds_toArray, List.set_cons_zero, List.set_cons_succ, List.getElem_toArray, List.getElem_cons_zero, List.getElem_cons_succ]
    refine wpAnyH_take (i := 4) (v := ?_) rfl (by kernel_rfl) (by kernel_rfl) (by kernel_rfl) (fun _ _ _ h => h) (Or.inl ⟨by rfl, ?_⟩) (by assumption) ?_
    rotate_left
    · (intro W hW; (try dsimp only at hW); go_simp; try with_reducible rfl)
    try simp only [Act.put, List.setIfInBounds_toArray, List.set_cons_zero, List.set_cons_succ, List.getElem_toArray, List.getElem_cons_zero, List.getElem_cons_succ]
    refine wpAnyH_take (i := 5) (v := ?_) rfl (by kernel_rfl) (by kernel_rfl) (by kernel_rfl) (fun _ _ _ h => h) (Or.inl ⟨by rfl, ?_⟩) (by assumption) ?_
    rotate_left
    · (intro W hW; (try dsimp only at hW); go_simp; try with_reducible rfl)
    try simp only [Act.put, List.setIfInBounds_toArray, List.set_cons_zero, List.set_cons_succ, List.getElem_toArray, List.getElem_cons_zero, List.getElem_cons_succ]
    refine wpAnyH_ready (rs := [3]) (by kernel_rfl) (by simp) ?_
    refine AllReadyH.cons rfl (fun K hK => ?_) AllReadyH.nil
    simp only [List.getElem_toArray, List.getElem_cons_zero, List.getElem_cons_succ]
    go_simp
    go_at_call 11
    refine (rsat_any t.dep t _ _ _ none (Nat.le_refl _) (HT6.out.fr hH0.2.2)).mono ?_
    rintro e wa ⟨rfl, Fa⟩
    refine hK.out _ _ (HX.out _ (hH0.2.2.pure Fa)) (fun hH1 => ?_)
    clear hK K hH0
    try simp only [Act.put, List.setIfInBounds_toArray, List.set_cons_zero, List.set_cons_succ, List.getElem_toArray, List.getElem_cons_zero, List.getElem_cons_succ]
    refine wpAnyH_ready (rs := [6]) (by kernel_rfl) (by simp) ?_
    refine AllReadyH.cons rfl (fun K hK => ?_) AllReadyH.nil
    simp only [List.getElem_toArray, List.getElem_cons_zero, List.getElem_cons_succ]
    go_simp
    go_at_call 11
    refine (rsat_any u.dep u _ _ _ none (Nat.le_refl _) (HU6.out.fr hH1.2.2)).mono ?_
    rintro e wb ⟨rfl, Fb⟩
    refine hK.out _ _ (HX.out _ (hH1.2.2.pure Fb)) (fun hH2 => ?_)
    clear hK K hH1
    try simp only [Act.put, List.setIfInBounds_toArray, List.set_cons_zero, List.set_cons_succ, List.getElem_toArray, List.getElem_cons_zero, List.getElem_cons_succ]
    refine wpAnyH_take (i := 7) (v := ?_) rfl (by kernel_rfl) (by kernel_rfl) (by kernel_rfl) (fun _ _ _ h => h) (Or.inl ⟨by rfl, ?_⟩) (by assumption) ?_
    rotate_left
    · (intro W hW; (try dsimp only at hW); go_simp; try with_reducible rfl)
    try simp only [Act.put, List.setIfInBounds_toArray, List.set_cons_zero, List.set_cons_succ, List.getElem_toArray, List.getElem_cons_zero, List.getElem_cons_succ]
    refine wpAnyH_take (i := 8) (v := ?_) rfl (by kernel_rfl) (by kernel_rfl) (by kernel_rfl) (fun _ _ _ h => h) (Or.inl ⟨by rfl, ?_⟩) (by assumption) ?_
    rotate_left
    · (intro W hW; (try dsimp only at hW); go_simp; try with_reducible rfl)
    try simp only [Act.put, List.setIfInBounds_toArray, List.set_cons_zero, List.set_cons_succ, List.getElem_toArray, List.getElem_cons_zero, List.getElem_cons_succ]
    refine wpAnyH_take (i := 9) (v := ?_) rfl (by kernel_rfl) (by kernel_rfl) (by kernel_rfl) (fun _ _ _ h => h) (Or.inl ⟨by rfl, ?_⟩) (by assumption) ?_
    rotate_left
    · (intro W hW; (try dsimp only at hW); go_simp; try with_reducible rfl)
    try simp only [Act.put, List.setIfInBounds_toArray, List.set_cons_zero, List.set_cons_succ, List.getElem_toArray, List.getElem_cons_zero, List.getElem_cons_succ]
    refine wpAnyH_ready (rs := [10]) (by kernel_rfl) (by simp) ?_
    refine AllReadyH.cons rfl (fun K hK => ?_) AllReadyH.nil
    simp only [List.getElem_toArray, List.getElem_cons_zero, List.getElem_cons_succ]
    go_simp
    go_at_call 13
    refine (awake5_any _).mono ?_
    rintro e wz ⟨rfl, Fz⟩
    refine hK.out _ _ (HX.out _ (hH2.2.2.pure Fz)) (fun hH3 => ?_)
    clear hK K hH2
    try simp only [Act.put, List.setIfInBounds_toArray, List.set_cons_zero, List.set_cons_succ, List.getElem_toArray, List.getElem_cons_zero, List.getElem_cons_succ]
    refine wpAnyH_take (i := 11) (v := ?_) rfl (by kernel_rfl) (by kernel_rfl) (by kernel_rfl) (fun _ _ _ h => h) (Or.inl ⟨by rfl, ?_⟩) (by assumption) ?_
    rotate_left
    · (intro W hW; (try dsimp only at hW); go_simp; try with_reducible rfl)
    try simp only [Act.put, List.setIfInBounds_toArray, List.set_cons_zero, List.set_cons_succ, List.getElem_toArray, List.getElem_cons_zero, List.getElem_cons_succ]
    refine wpAnyH_take (i := 12) (v := ?_) rfl (by kernel_rfl) (by kernel_rfl) (by kernel_rfl) (fun _ _ _ h => h) (Or.inl ⟨by rfl, ?_⟩) (by assumption) ?_
    rotate_left
    · (intro W hW; (try dsimp only at hW); go_simp; try with_reducible rfl)
    try simp only [Act.put, List.setIfInBounds_toArray, List.set_cons_zero, List.set_cons_succ, List.getElem_toArray, List.getElem_cons_zero, List.getElem_cons_succ]
    refine wpAnyH_done (by kernel_rfl) ?_ _
    go_wp2_with fail
    go_ret
    exact ⟨rfl, (F04.pure F46).pure hH3.2.2⟩
  ·
    refine (rsat_any t.dep t _ _ _ none (Nat.le_refl _) (HT6.out.fr E13)).mono ?_
    rintro e w14 ⟨rfl, F14⟩
    rw [(X3.out (by simp)).1]
    have E14 := (E13).pure F14
    clear R1 R2
    have R1 := (C1.out.fr E14 (by simp)).cell
    have R2 := (C2.out.fr E14 (by simp)).cell
    go_wp2_with fail
    refine (rsat_any u.dep u _ _ _ none (Nat.le_refl _) (HU6.out.fr E14)).mono ?_
    rintro e w15 ⟨rfl, F15⟩
    rw [(X3.out (by simp)).2]
    have E15 := (E14).pure F15
    clear R1 R2
    have R1 := (C1.out.fr E15 (by simp)).cell
    have R2 := (C2.out.fr E15 (by simp)).cell
    go_wp2_with fail
    have HX : Hid (∀ W, Fr none w6 W → (∀ k, W.cell? ⟨w3.heap.size, k, none⟩ = (#[.int .i64 th, .slice A1 n1 c1, .slice A2 n2 c2] : Array Value)[k]?) ∧ (∀ k, W.cell? ⟨w3.heap.size + 1, k, none⟩ = (#[.int .i64 th', .slice A1' n1' c1', .slice A2' n2' c2'] : Array Value)[k]?) ∧ Fr none w6 W) := fun W F => ⟨(C1.out.fr F (by simp)).cell, (C2.out.fr F (by simp)).cell, F⟩
    have hx5 : (sat (k : Int) t == sat (k : Int) u) = false := X5.out.symm
    refine wp_region_held_drew (S := fun W => (∀ k, W.cell? ⟨w3.heap.size, k, none⟩ = (#[.int .i64 th, .slice A1 n1 c1, .slice A2 n2 c2] : Array Value)[k]?) ∧ (∀ k, W.cell? ⟨w3.heap.size + 1, k, none⟩ = (#[.int .i64 th', .slice A1' n1' c1', .slice A2' n2' c2'] : Array Value)[k]?) ∧ Fr none w6 W) (by kernel_rfl) (HX.out _ (E15).drew) (fun hH0 => ?_)
    refine wpAnyH_take (i := 0) (v := ?_) rfl (by kernel_rfl) (by kernel_rfl) (by kernel_rfl) (fun _ _ _ h => h) (Or.inl ⟨by rfl, ?_⟩) (by assumption) ?_
    rotate_left
    · (intro W hW; (try dsimp only at hW); go_simp; try with_reducible rfl)
    try simp only [Act.put, List.setIfInBounds_toArray, List.set_cons_zero, List.set_cons_succ, List.getElem_toArray, List.getElem_cons_zero, List.getElem_cons_succ]
    refine wpAnyH_take (i := 1) (v := ?_) rfl (by kernel_rfl) (by kernel_rfl) (by kernel_rfl) (fun _ _ _ h => h) (Or.inl ⟨by rfl, ?_⟩) (by assumption) ?_
    rotate_left
    · (intro W hW; (try dsimp only at hW); go_simp; try with_reducible rfl)
    try simp only [Act.put, List.setIfInBounds_toArray, List.set_cons_zero, List.set_cons_succ, List.getElem_toArray, List.getElem_cons_zero, List.getElem_cons_succ]
    refine wpAnyH_take (i := 2) (v := ?_) rfl (by kernel_rfl) (by kernel_rfl) (by kernel_rfl) (fun _ _ _ h => h) (Or.inl ⟨by rfl, ?_⟩) (by assumption) ?_
    rotate_left
    · (intro W hW; (try dsimp only at hW); go_simp; try with_reducible rfl)
    try simp only [Act.put, List.setIfInBounds_toArray, List.set_cons_zero, List.set_cons_succ, List.getElem_toArray, List.getElem_cons_zero, List.getElem_cons_succ]
    refine wpAnyH_take (i := 4) (v := ?_) rfl (by kernel_rfl) (by kernel_rfl) (by kernel_rfl) (fun _ _ _ h => h) (Or.inl ⟨by rfl, ?_⟩) (by assumption) ?_
    rotate_left
    · (intro W hW; (try dsimp only at hW); go_simp; try with_reducible rfl)
    try simp only [Act.put, List.setIfInBounds_toArray, List.set_cons_zero, List.set_cons_succ, List.getElem_toArray, List.getElem_cons_zero, List.getElem_cons_succ]
    refine wpAnyH_take (i := 5) (v := ?_) rfl (by kernel_rfl) (by kernel_rfl) (by kernel_rfl) (fun _ _ _ h => h) (Or.inl ⟨by rfl, ?_⟩) (by assumption) ?_
    rotate_left
    · (intro W hW; (try dsimp only at hW); go_simp; try with_reducible rfl)
    try simp only [Act.put, List.setIfInBounds_toArray, List.set_cons_zero, List.set_cons_succ, List.getElem_toArray, List.getElem_cons_zero, List.getElem_cons_succ]
    refine wpAnyH_ready (rs := [3]) (by kernel_rfl) (by simp) ?_
    refine AllReadyH.cons rfl (fun K hK => ?_) AllReadyH.nil
    simp only [List.getElem_toArray, List.getElem_cons_zero, List.getElem_cons_succ]
    go_simp
    go_at_call 11
    refine (rsat_any t.dep t _ _ _ none (Nat.le_refl _) (HT6.out.fr hH0.2.2)).mono ?_
    rintro e wa ⟨rfl, Fa⟩
    refine hK.out _ _ (HX.out _ (hH0.2.2.pure Fa)) (fun hH1 => ?_)
    clear hK K hH0
    try simp only [Act.put, List.setIfInBounds_toArray, List.set_cons_zero, List.set_cons_succ, List.getElem_toArray, List.getElem_cons_zero, List.getElem_cons_succ]
    refine wpAnyH_ready (rs := [6]) (by kernel_rfl) (by simp) ?_
    refine AllReadyH.cons rfl (fun K hK => ?_) AllReadyH.nil
    simp only [List.getElem_toArray, List.getElem_cons_zero, List.getElem_cons_succ]
    go_simp
    go_at_call 11
    refine (rsat_any u.dep u _ _ _ none (Nat.le_refl _) (HU6.out.fr hH1.2.2)).mono ?_
    rintro e wb ⟨rfl, Fb⟩
    refine hK.out _ _ (HX.out _ (hH1.2.2.pure Fb)) (fun hH2 => ?_)
    clear hK K hH1
    try simp only [Act.put, List.setIfInBounds_toArray, List.set_cons_zero, List.set_cons_succ, List.getElem_toArray, List.getElem_cons_zero, List.getElem_cons_succ]
    refine wpAnyH_take (i := 7) (v := ?_) rfl (by kernel_rfl) (by kernel_rfl) (by kernel_rfl) (fun _ _ _ h => h) (Or.inl ⟨by rfl, ?_⟩) (by assumption) ?_
    rotate_left
    · (intro W hW; (try dsimp only at hW); go_simp; try with_reducible rfl)
    try simp only [Act.put, List.setIfInBounds_toArray, List.set_cons_zero, List.set_cons_succ, List.getElem_toArray, List.getElem_cons_zero, List.getElem_cons_succ]
    refine wpAnyH_take (i := 8) (v := ?_) rfl (by kernel_rfl) (by kernel_rfl) (by kernel_rfl) (fun _ _ _ h => h) (Or.inl ⟨by rfl, ?_⟩) (by assumption) ?_
    rotate_left
    · (intro W hW; (try dsimp only at hW); go_simp; try with_reducible rfl)
    try simp only [Act.put, List.setIfInBounds_toArray, List.set_cons_zero, List.set_cons_succ, List.getElem_toArray, List.getElem_cons_zero, List.getElem_cons_succ]
    refine wpAnyH_take (i := 9) (v := ?_) rfl (by kernel_rfl) (by kernel_rfl) (by kernel_rfl) (fun _ _ _ h => h) (Or.inl ⟨by rfl, ?_⟩) (by assumption) ?_
    rotate_left
    · (intro W hW; (try dsimp only at hW); go_simp; try with_reducible rfl)
    try simp only [Act.put, List.setIfInBounds_toArray, List.set_cons_zero, List.set_cons_succ, List.getElem_toArray, List.getElem_cons_zero, List.getElem_cons_succ]
    refine wpAnyH_ready (rs := [10]) (by kernel_rfl) (by simp) ?_
    refine AllReadyH.cons rfl (fun K hK => ?_) AllReadyH.nil
    simp only [List.getElem_toArray, List.getElem_cons_zero, List.getElem_cons_succ]
    go_simp
    go_at_call 13
    refine (awake5_any _).mono ?_
    rintro e wz ⟨rfl, Fz⟩
    refine hK.out _ _ (HX.out _ (hH2.2.2.pure Fz)) (fun hH3 => ?_)
    clear hK K hH2
    try simp only [Act.put, List.setIfInBounds_toArray, List.set_cons_zero, List.set_cons_succ, List.getElem_toArray, List.getElem_cons_zero, List.getElem_cons_succ]
    refine wpAnyH_take (i := 11) (v := ?_) rfl (by kernel_rfl) (by kernel_rfl) (by kernel_rfl) (fun _ _ _ h => h) (Or.inl ⟨by rfl, ?_⟩) (by assumption) ?_
    rotate_left
    · (intro W hW; (try dsimp only at hW); go_simp; try with_reducible rfl)
    try simp only [Act.put, List.setIfInBounds_toArray, List.set_cons_zero, List.set_cons_succ, List.getElem_toArray, List.getElem_cons_zero, List.getElem_cons_succ]
    refine wpAnyH_take (i := 12) (v := ?_) rfl (by kernel_rfl) (by kernel_rfl) (by kernel_rfl) (fun _ _ _ h => h) (Or.inl ⟨by rfl, ?_⟩) (by assumption) ?_
    rotate_left
    · (intro W hW; (try dsimp only at hW); go_simp; try with_reducible rfl)
    try simp only [Act.put, List.setIfInBounds_toArray, List.set_cons_zero, List.set_cons_succ, List.getElem_toArray, List.getElem_cons_zero, List.getElem_cons_succ]
    refine wpAnyH_done (by kernel_rfl) ?_ _
    go_wp2_with fail
    go_ret
    exact ⟨rfl, (F04.pure F46).pure hH3.2.2⟩
  ·
    refine (rsat_any u.dep u _ _ _ none (Nat.le_refl _) (HU6.out.fr E13)).mono ?_
    rintro e w14 ⟨rfl, F14⟩
    rw [(X4.out (by simp)).1]
    have E14 := (E13).pure F14
    clear R1 R2
    have R1 := (C1.out.fr E14 (by simp)).cell
    have R2 := (C2.out.fr E14 (by simp)).cell
    go_wp2_with fail
    refine (rsat_any t.dep t _ _ _ none (Nat.le_refl _) (HT6.out.fr E14)).mono ?_
    rintro e w15 ⟨rfl, F15⟩
    rw [(X4.out (by simp)).2]
    have E15 := (E14).pure F15
    clear R1 R2
    have R1 := (C1.out.fr E15 (by simp)).cell
    have R2 := (C2.out.fr E15 (by simp)).cell
    go_wp2_with fail
    have HX : Hid (∀ W, Fr none w6 W → (∀ k, W.cell? ⟨w3.heap.size, k, none⟩ = (#[.int .i64 th, .slice A1 n1 c1, .slice A2 n2 c2] : Array Value)[k]?) ∧ (∀ k, W.cell? ⟨w3.heap.size + 1, k, none⟩ = (#[.int .i64 th', .slice A1' n1' c1', .slice A2' n2' c2'] : Array Value)[k]?) ∧ Fr none w6 W) := fun W F => ⟨(C1.out.fr F (by simp)).cell, (C2.out.fr F (by simp)).cell, F⟩
    have hx5 : (sat (k : Int) t == sat (k : Int) u) = false := X5.out.symm
    refine wp_region_held_drew (S := fun W => (∀ k, W.cell? ⟨w3.heap.size, k, none⟩ = (#[.int .i64 th, .slice A1 n1 c1, .slice A2 n2 c2] : Array Value)[k]?) ∧ (∀ k, W.cell? ⟨w3.heap.size + 1, k, none⟩ = (#[.int .i64 th', .slice A1' n1' c1', .slice A2' n2' c2'] : Array Value)[k]?) ∧ Fr none w6 W) (by kernel_rfl) (HX.out _ (E15).drew) (fun hH0 => ?_)
    refine wpAnyH_take (i := 0) (v := ?_) rfl (by kernel_rfl) (by kernel_rfl) (by kernel_rfl) (fun _ _ _ h => h) (Or.inl ⟨by rfl, ?_⟩) (by assumption) ?_
    rotate_left
    · (intro W hW; (try dsimp only at hW); go_simp; try with_reducible rfl)
    try simp only [Act.put, List.setIfInBounds_toArray, List.set_cons_zero, List.set_cons_succ, List.getElem_toArray, List.getElem_cons_zero, List.getElem_cons_succ]
    refine wpAnyH_take (i := 1) (v := ?_) rfl (by kernel_rfl) (by kernel_rfl) (by kernel_rfl) (fun _ _ _ h => h) (Or.inl ⟨by rfl, ?_⟩) (by assumption) ?_
    rotate_left
    · (intro W hW; (try dsimp only at hW); go_simp; try with_reducible rfl)
    try simp only [Act.put, List.setIfInBounds_toArray, List.set_cons_zero, List.set_cons_succ, List.getElem_toArray, List.getElem_cons_zero, List.getElem_cons_succ]
    refine wpAnyH_take (i := 2) (v := ?_) rfl (by kernel_rfl) (by kernel_rfl) (by kernel_rfl) (fun _ _ _ h => h) (Or.inl ⟨by rfl, ?_⟩) (by assumption) ?_
    rotate_left
    · (intro W hW; (try dsimp only at hW); go_simp; try with_reducible rfl)
    try simp only [Act.put, List.setIfInBounds_toArray, List.set_cons_zero, List.set_cons_succ, List.getElem_toArray, List.getElem_cons_zero, List.getElem_cons_succ]
    refine wpAnyH_take (i := 4) (v := ?_) rfl (by kernel_rfl) (by kernel_rfl) (by kernel_rfl) (fun _ _ _ h => h) (Or.inl ⟨by rfl, ?_⟩) (by assumption) ?_
    rotate_left
    · (intro W hW; (try dsimp only at hW); go_simp; try with_reducible rfl)
    try simp only [Act.put, List.setIfInBounds_toArray, List.set_cons_zero, List.set_cons_succ, List.getElem_toArray, List.getElem_cons_zero, List.getElem_cons_succ]
    refine wpAnyH_take (i := 5) (v := ?_) rfl (by kernel_rfl) (by kernel_rfl) (by kernel_rfl) (fun _ _ _ h => h) (Or.inl ⟨by rfl, ?_⟩) (by assumption) ?_
    rotate_left
    · (intro W hW; (try dsimp only at hW); go_simp; try with_reducible rfl)
    try simp only [Act.put, List.setIfInBounds_toArray, List.set_cons_zero, List.set_cons_succ, List.getElem_toArray, List.getElem_cons_zero, List.getElem_cons_succ]
    refine wpAnyH_ready (rs := [3]) (by kernel_rfl) (by simp) ?_
    refine AllReadyH.cons rfl (fun K hK => ?_) AllReadyH.nil
    simp only [List.getElem_toArray, List.getElem_cons_zero, List.getElem_cons_succ]
    go_simp
    go_at_call 11
    refine (rsat_any t.dep t _ _ _ none (Nat.le_refl _) (HT6.out.fr hH0.2.2)).mono ?_
    rintro e wa ⟨rfl, Fa⟩
    refine hK.out _ _ (HX.out _ (hH0.2.2.pure Fa)) (fun hH1 => ?_)
    clear hK K hH0
    try simp only [Act.put, List.setIfInBounds_toArray, List.set_cons_zero, List.set_cons_succ, List.getElem_toArray, List.getElem_cons_zero, List.getElem_cons_succ]
    refine wpAnyH_ready (rs := [6]) (by kernel_rfl) (by simp) ?_
    refine AllReadyH.cons rfl (fun K hK => ?_) AllReadyH.nil
    simp only [List.getElem_toArray, List.getElem_cons_zero, List.getElem_cons_succ]
    go_simp
    go_at_call 11
    refine (rsat_any u.dep u _ _ _ none (Nat.le_refl _) (HU6.out.fr hH1.2.2)).mono ?_
    rintro e wb ⟨rfl, Fb⟩
    refine hK.out _ _ (HX.out _ (hH1.2.2.pure Fb)) (fun hH2 => ?_)
    clear hK K hH1
    try simp only [Act.put, List.setIfInBounds_toArray, List.set_cons_zero, List.set_cons_succ, List.getElem_toArray, List.getElem_cons_zero, List.getElem_cons_succ]
    refine wpAnyH_take (i := 7) (v := ?_) rfl (by kernel_rfl) (by kernel_rfl) (by kernel_rfl) (fun _ _ _ h => h) (Or.inl ⟨by rfl, ?_⟩) (by assumption) ?_
    rotate_left
    · (intro W hW; (try dsimp only at hW); go_simp; try with_reducible rfl)
    try simp only [Act.put, List.setIfInBounds_toArray, List.set_cons_zero, List.set_cons_succ, List.getElem_toArray, List.getElem_cons_zero, List.getElem_cons_succ]
    refine wpAnyH_take (i := 8) (v := ?_) rfl (by kernel_rfl) (by kernel_rfl) (by kernel_rfl) (fun _ _ _ h => h) (Or.inl ⟨by rfl, ?_⟩) (by assumption) ?_
    rotate_left
    · (intro W hW; (try dsimp only at hW); go_simp; try with_reducible rfl)
    try simp only [Act.put, List.setIfInBounds_toArray, List.set_cons_zero, List.set_cons_succ, List.getElem_toArray, List.getElem_cons_zero, List.getElem_cons_succ]
    refine wpAnyH_take (i := 9) (v := ?_) rfl (by kernel_rfl) (by kernel_rfl) (by kernel_rfl) (fun _ _ _ h => h) (Or.inl ⟨by rfl, ?_⟩) (by assumption) ?_
    rotate_left
    · (intro W hW; (try dsimp only at hW); go_simp; try with_reducible rfl)
    try simp only [Act.put, List.setIfInBounds_toArray, List.set_cons_zero, List.set_cons_succ, List.getElem_toArray, List.getElem_cons_zero, List.getElem_cons_succ]
    refine wpAnyH_ready (rs := [10]) (by kernel_rfl) (by simp) ?_
    refine AllReadyH.cons rfl (fun K hK => ?_) AllReadyH.nil
    simp only [List.getElem_toArray, List.getElem_cons_zero, List.getElem_cons_succ]
    go_simp
    go_at_call 13
    refine (awake5_any _).mono ?_
    rintro e wz ⟨rfl, Fz⟩
    refine hK.out _ _ (HX.out _ (hH2.2.2.pure Fz)) (fun hH3 => ?_)
    clear hK K hH2
    try simp only [Act.put, List.setIfInBounds_toArray, List.set_cons_zero, List.set_cons_succ, List.getElem_toArray, List.getElem_cons_zero, List.getElem_cons_succ]
    refine wpAnyH_take (i := 11) (v := ?_) rfl (by kernel_rfl) (by kernel_rfl) (by kernel_rfl) (fun _ _ _ h => h) (Or.inl ⟨by rfl, ?_⟩) (by assumption) ?_
    rotate_left
    · (intro W hW; (try dsimp only at hW); go_simp; try with_reducible rfl)
    try simp only [Act.put, List.setIfInBounds_toArray, List.set_cons_zero, List.set_cons_succ, List.getElem_toArray, List.getElem_cons_zero, List.getElem_cons_succ]
    refine wpAnyH_take (i := 12) (v := ?_) rfl (by kernel_rfl) (by kernel_rfl) (by kernel_rfl) (fun _ _ _ h => h) (Or.inl ⟨by rfl, ?_⟩) (by assumption) ?_
    rotate_left
    · (intro W hW; (try dsimp only at hW); go_simp; try with_reducible rfl)
    try simp only [Act.put, List.setIfInBounds_toArray, List.set_cons_zero, List.set_cons_succ, List.getElem_toArray, List.getElem_cons_zero, List.getElem_cons_succ]
    refine wpAnyH_done (by kernel_rfl) ?_ _
    go_wp2_with fail
    go_ret
    exact ⟨rfl, (F04.pure F46).pure hH3.2.2⟩
  ·
    have HX : Hid (∀ W, Fr none w6 W → (∀ k, W.cell? ⟨w3.heap.size, k, none⟩ = (#[.int .i64 th, .slice A1 n1 c1, .slice A2 n2 c2] : Array Value)[k]?) ∧ (∀ k, W.cell? ⟨w3.heap.size + 1, k, none⟩ = (#[.int .i64 th', .slice A1' n1' c1', .slice A2' n2' c2'] : Array Value)[k]?) ∧ Fr none w6 W) := fun W F => ⟨(C1.out.fr F (by simp)).cell, (C2.out.fr F (by simp)).cell, F⟩
    have hx5 : (sat (k : Int) t == sat (k : Int) u) = true := X5.out.symm
    refine wp_region_held_drew (S := fun W => (∀ k, W.cell? ⟨w3.heap.size, k, none⟩ = (#[.int .i64 th, .slice A1 n1 c1, .slice A2 n2 c2] : Array Value)[k]?) ∧ (∀ k, W.cell? ⟨w3.heap.size + 1, k, none⟩ = (#[.int .i64 th', .slice A1' n1' c1', .slice A2' n2' c2'] : Array Value)[k]?) ∧ Fr none w6 W) (by kernel_rfl) (HX.out _ (E13).drew) (fun hH0 => ?_)
    refine wpAnyH_take (i := 0) (v := ?_) rfl (by kernel_rfl) (by kernel_rfl) (by kernel_rfl) (fun _ _ _ h => h) (Or.inl ⟨by rfl, ?_⟩) (by assumption) ?_
    rotate_left
    · (intro W hW; (try dsimp only at hW); go_simp; try with_reducible rfl)
    try simp only [Act.put, List.setIfInBounds_toArray, List.set_cons_zero, List.set_cons_succ, List.getElem_toArray, List.getElem_cons_zero, List.getElem_cons_succ]
    refine wpAnyH_take (i := 1) (v := ?_) rfl (by kernel_rfl) (by kernel_rfl) (by kernel_rfl) (fun _ _ _ h => h) (Or.inl ⟨by rfl, ?_⟩) (by assumption) ?_
    rotate_left
    · (intro W hW; (try dsimp only at hW); go_simp; try with_reducible rfl)
    try simp only [Act.put, List.setIfInBounds_toArray, List.set_cons_zero, List.set_cons_succ, List.getElem_toArray, List.getElem_cons_zero, List.getElem_cons_succ]
    refine wpAnyH_take (i := 2) (v := ?_) rfl (by kernel_rfl) (by kernel_rfl) (by kernel_rfl) (fun _ _ _ h => h) (Or.inl ⟨by rfl, ?_⟩) (by assumption) ?_
    rotate_left
    · (intro W hW; (try dsimp only at hW); go_simp; try with_reducible rfl)
    try simp only [Act.put, List.setIfInBounds_toArray, List.set_cons_zero, List.set_cons_succ, List.getElem_toArray, List.getElem_cons_zero, List.getElem_cons_succ]
    refine wpAnyH_take (i := 4) (v := ?_) rfl (by kernel_rfl) (by kernel_rfl) (by kernel_rfl) (fun _ _ _ h => h) (Or.inl ⟨by rfl, ?_⟩) (by assumption) ?_
    rotate_left
    · (intro W hW; (try dsimp only at hW); go_simp; try with_reducible rfl)
    try simp only [Act.put, List.setIfInBounds_toArray, List.set_cons_zero, List.set_cons_succ, List.getElem_toArray, List.getElem_cons_zero, List.getElem_cons_succ]
    refine wpAnyH_take (i := 5) (v := ?_) rfl (by kernel_rfl) (by kernel_rfl) (by kernel_rfl) (fun _ _ _ h => h) (Or.inl ⟨by rfl, ?_⟩) (by assumption) ?_
    rotate_left
    · (intro W hW; (try dsimp only at hW); go_simp; try with_reducible rfl)
    try simp only [Act.put, List.setIfInBounds_toArray, List.set_cons_zero, List.set_cons_succ, List.getElem_toArray, List.getElem_cons_zero, List.getElem_cons_succ]
    refine wpAnyH_ready (rs := [3]) (by kernel_rfl) (by simp) ?_
    refine AllReadyH.cons rfl (fun K hK => ?_) AllReadyH.nil
    simp only [List.getElem_toArray, List.getElem_cons_zero, List.getElem_cons_succ]
    go_simp
    go_at_call 11
    refine (rsat_any t.dep t _ _ _ none (Nat.le_refl _) (HT6.out.fr hH0.2.2)).mono ?_
    rintro e wa ⟨rfl, Fa⟩
    refine hK.out _ _ (HX.out _ (hH0.2.2.pure Fa)) (fun hH1 => ?_)
    clear hK K hH0
    try simp only [Act.put, List.setIfInBounds_toArray, List.set_cons_zero, List.set_cons_succ, List.getElem_toArray, List.getElem_cons_zero, List.getElem_cons_succ]
    refine wpAnyH_ready (rs := [6]) (by kernel_rfl) (by simp) ?_
    refine AllReadyH.cons rfl (fun K hK => ?_) AllReadyH.nil
    simp only [List.getElem_toArray, List.getElem_cons_zero, List.getElem_cons_succ]
    go_simp
    go_at_call 11
    refine (rsat_any u.dep u _ _ _ none (Nat.le_refl _) (HU6.out.fr hH1.2.2)).mono ?_
    rintro e wb ⟨rfl, Fb⟩
    refine hK.out _ _ (HX.out _ (hH1.2.2.pure Fb)) (fun hH2 => ?_)
    clear hK K hH1
    try simp only [Act.put, List.setIfInBounds_toArray, List.set_cons_zero, List.set_cons_succ, List.getElem_toArray, List.getElem_cons_zero, List.getElem_cons_succ]
    refine wpAnyH_take (i := 7) (v := ?_) rfl (by kernel_rfl) (by kernel_rfl) (by kernel_rfl) (fun _ _ _ h => h) (Or.inl ⟨by rfl, ?_⟩) (by assumption) ?_
    rotate_left
    · (intro W hW; (try dsimp only at hW); go_simp; try with_reducible rfl)
    try simp only [Act.put, List.setIfInBounds_toArray, List.set_cons_zero, List.set_cons_succ, List.getElem_toArray, List.getElem_cons_zero, List.getElem_cons_succ]
    refine wpAnyH_take (i := 8) (v := ?_) rfl (by kernel_rfl) (by kernel_rfl) (by kernel_rfl) (fun _ _ _ h => h) (Or.inl ⟨by rfl, ?_⟩) (by assumption) ?_
    rotate_left
    · (intro W hW; (try dsimp only at hW); go_simp; try with_reducible rfl)
    try simp only [Act.put, List.setIfInBounds_toArray, List.set_cons_zero, List.set_cons_succ, List.getElem_toArray, List.getElem_cons_zero, List.getElem_cons_succ]
    refine wpAnyH_take (i := 9) (v := ?_) rfl (by kernel_rfl) (by kernel_rfl) (by kernel_rfl) (fun _ _ _ h => h) (Or.inl ⟨by rfl, ?_⟩) (by assumption) ?_
    rotate_left
    · (intro W hW; (try dsimp only at hW); go_simp; try with_reducible rfl)
    try simp only [Act.put, List.setIfInBounds_toArray, List.set_cons_zero, List.set_cons_succ, List.getElem_toArray, List.getElem_cons_zero, List.getElem_cons_succ]
    refine wpAnyH_ready (rs := [10]) (by kernel_rfl) (by simp) ?_
    refine AllReadyH.cons rfl (fun K hK => ?_) AllReadyH.nil
    simp only [List.getElem_toArray, List.getElem_cons_zero, List.getElem_cons_succ]
    go_simp
    go_at_call 13
    refine (awake5_any _).mono ?_
    rintro e wz ⟨rfl, Fz⟩
    refine hK.out _ _ (HX.out _ (hH2.2.2.pure Fz)) (fun hH3 => ?_)
    clear hK K hH2
    try simp only [Act.put, List.setIfInBounds_toArray, List.set_cons_zero, List.set_cons_succ, List.getElem_toArray, List.getElem_cons_zero, List.getElem_cons_succ]
    refine wpAnyH_take (i := 11) (v := ?_) rfl (by kernel_rfl) (by kernel_rfl) (by kernel_rfl) (fun _ _ _ h => h) (Or.inl ⟨by rfl, ?_⟩) (by assumption) ?_
    rotate_left
    · (intro W hW; (try dsimp only at hW); go_simp; try with_reducible rfl)
    try simp only [Act.put, List.setIfInBounds_toArray, List.set_cons_zero, List.set_cons_succ, List.getElem_toArray, List.getElem_cons_zero, List.getElem_cons_succ]
    refine wpAnyH_take (i := 12) (v := ?_) rfl (by kernel_rfl) (by kernel_rfl) (by kernel_rfl) (fun _ _ _ h => h) (Or.inl ⟨by rfl, ?_⟩) (by assumption) ?_
    rotate_left
    · (intro W hW; (try dsimp only at hW); go_simp; try with_reducible rfl)
    try simp only [Act.put, List.setIfInBounds_toArray, List.set_cons_zero, List.set_cons_succ, List.getElem_toArray, List.getElem_cons_zero, List.getElem_cons_succ]
    refine wpAnyH_done (by kernel_rfl) ?_ _
    go_wp2_with fail
    go_ret
    exact ⟨rfl, (F04.pure F46).pure hH3.2.2⟩
end Go.Proofs.Ytidnnjgiogklaaa

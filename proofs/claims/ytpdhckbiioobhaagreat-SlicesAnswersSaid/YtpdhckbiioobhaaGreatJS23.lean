/- Some texts of this claim, joined: contracts of the functions that it reaches, and plain laws. -/
import Derived.Test.YtpdhckbiioobhaaGreatProg
import Derived.Test.YtpdhckbiioobhaaGreatJS12
import Derived.Test.YtpdhckbiioobhaaGreatJS22
import Derived.Test.YtpdhckbiioobhaaGreatJS21
import Derived.Test.YtpdhckbiioobhaaGreatJS6

set_option linter.unusedSimpArgs false
set_option linter.unusedVariables false
/- Walks: the reference's Implies, Equivalent. -/
namespace Go.Proofs.YtpdhckbiioobhaaGreat
open Go.RowKit

/-- What Implies and Equivalent answer for all trusts. -/
def ansE (t u : Tr) (p : Nat → Bool) : Value := if validE t = 0 then (if validE u = 0 then ansV p else .tuple #[.bool false, .int .i64 0, .int .i64 (validE u)]) else .tuple #[.bool false, .int .i64 0, .int .i64 (validE t)]
/-- The first one, so far. -/
def fsI : Option Nat → Int
  | none => 0
  | some b => (b : Int)
theorem fst_skip {p : Nat → Bool} {j : Nat} {o : Option Nat} (h : fstC p j = o) (hp : p j = false) : fstC p (j + 1) = o := by simp only [fstC, hp]; exact h
theorem fst_new {p : Nat → Bool} {j : Nat} (h : fstC p j = none) (hp : p j = true) : fstC p (j + 1) = some j := by simp only [fstC, hp, h]; rfl
theorem fst_lt {p : Nat → Bool} {j b : Nat} (h : fstC p j = some b) (hp : p j = true) (hc : cmpS (j : Int) (b : Int) < 0) : fstC p (j + 1) = some j := by simp only [fstC, hp, h]; simp [hc]
theorem fst_ge {p : Nat → Bool} {j b : Nat} (h : fstC p j = some b) (hp : p j = true) (hc : ¬ cmpS (j : Int) (b : Int) < 0) : fstC p (j + 1) = some b := by simp only [fstC, hp, h]; simp [hc]

set_option maxRecDepth 100000 in
set_option maxHeartbeats 4000000 in
theorem rimp_any (t u : Tr) (v v' : Value) (w : World) (h : TrR w none v t) (h' : TrR w none v' u) (hsz : t.size ≤ 1073741000) (hsz' : u.size ≤ 1073741000) :
    Calls Tryz.prog 22 #[v, v'] w fun e w' => e = .returned (ansE t u (fun s : Nat => sat (s : Int) t && !sat (s : Int) u)) ∧ Fr none w w' := by
  obtain ⟨th, A1, n1, c1, A2, n2, c2, rfl⟩ := TrD.shape h
  obtain ⟨th', A1', n1', c1', A2', n2', c2', rfl⟩ := TrD.shape h'
  obtain ⟨p, hp⟩ : ∃ p : Nat → Bool, p = (fun s : Nat => sat (s : Int) t && !sat (s : Int) u) := ⟨_, rfl⟩
  rw [← hp]
  have HP := Lib.hid hp
  clear hp
  go_enter Tryz.func22, Tryz.ntmps22
  go_wp2_with fail
  generalize hW : (w.alloc _).alloc _ = w1
  have F1 : Fr none w w1 := hW ▸ ((Fr.refl none w).alloc _).alloc _
  have b2 : TB w1 w.heap.size (.int .i64 th) (.slice A1 n1 c1) (.slice A2 n2 c2) := by rw [← hW]; exact (Below.heap_alloc _ _ _ (by simp)).trans (blk_new _ _)
  have b4 : TB w1 (w.heap.size + 1) (.int .i64 th') (.slice A1' n1' c1') (.slice A2' n2' c2') := by rw [← hW]; exact blk_new_at (by simp) _
  clear hW
  refine (rvalidT_any t _ _ none hsz (h.fr F1)).mono ?_
  rintro e w2 ⟨rfl, F2⟩
  have F02 := F1.pure F2
  have bx := b2.fr F2 (by simp)
  have by_ := b4.fr F2 (by simp)
  have hx := h.fr F02
  have hy := h'.fr F02
  have R4 := by_.cell
  have l4 := blk_lt by_
  clear b2 b4 h h'
  by_cases hv : validE t = 0
  · have hv0 : (validE t != 0) = false := by rw [bne_eq_false_iff_eq]; exact hv
    have HV := Lib.hid hv
    clear hv
    go_wp2_with fail
    refine (rvalidT_any u _ _ none hsz' hy).mono ?_
    rintro e w3 ⟨rfl, F3⟩
    have F03 := F02.pure F3
    have bx := bx.fr F3 (by simp)
    have by_ := by_.fr F3 (by simp)
    have hx := hx.fr F3
    have hy := hy.fr F3
    clear R4 l4 F02 F1 F2
    by_cases hv' : validE u = 0
    · have hv0' : (validE u != 0) = false := by rw [bne_eq_false_iff_eq]; exact hv'
      have HA : Hid (ansE t u p = ansV p) := by unfold Hid ansE; rw [if_pos HV.out, if_pos hv']
      clear hv'
      go_wp2_with fail
      go_loopw [9, 10, 11] (fun s9 s10 s11 wr => ∃ (j : Nat) (o : Option Nat), j ≤ 1024 ∧ s11 = .int .i64 (j : Int) ∧ s9 = .int .i64 (fsI o) ∧ s10 = .bool o.isSome ∧ Hid (fstC p j = o) ∧ Fr none w3 wr) (fun _ _ s11 _ => 1024 - (intOf s11).toNat)
      case atStart => exact ⟨0, none, by omega, rfl, rfl, rfl, rfl, Fr.refl _ _⟩
      case round =>
        obtain ⟨j, o, hj, rfl, rfl, rfl, HO, F⟩ := hrel
        have bx := bx.fr F (by simp)
        have by_ := by_.fr F (by simp)
        have hx := hx.fr F
        have hy := hy.fr F
        by_cases hlt : j < 1024
        · obtain ⟨X, hX⟩ : ∃ X : Bool, X = sat (j : Int) t := ⟨_, rfl⟩
          obtain ⟨Y, hY⟩ : ∃ Y : Bool, Y = sat (j : Int) u := ⟨_, rfl⟩
          have HX := Lib.hid hX
          have HY := Lib.hid hY
          clear hX hY
          have lx := blk_lt bx
          have ly := blk_lt by_
          have Rx := bx.cell
          have HPJ : Hid (p j = (X && !Y)) := by unfold Hid; rw [HP.out, HX.out, HY.out]
          go_wp2_with fail
          refine (rsat_any t.dep t _ _ _ none (Nat.le_refl _) hx).mono ?_
          rintro e w4 ⟨rfl, F4⟩
          rw [← HX.out]
          have by4 := by_.fr F4 (by simp)
          have hy4 := hy.fr F4
          have R4 := by4.cell
          have l4 := blk_lt by4
          clear Rx lx ly
          cases X with
          | false =>
            have HPF : Hid (p j = false) := by rw [HPJ.out]; rfl
            go_wp2_with fail
            go_roundw
            case rel => exact ⟨j + 1, o, by omega, by go_num, rfl, rfl, fst_skip HO.out HPF.out, F.pure F4⟩
            case measure => simp [intOf]; omega
          | true =>
            go_wp2_with fail
            refine (rsat_any u.dep u _ _ _ none (Nat.le_refl _) hy4).mono ?_
            rintro e w5 ⟨rfl, F5⟩
            rw [← HY.out]
            have F45 := F4.pure F5
            clear R4 l4
            cases Y with
            | true =>
              have HPF : Hid (p j = false) := by rw [HPJ.out]; rfl
              go_wp2_with fail
              go_roundw
              case rel => exact ⟨j + 1, o, by omega, by go_num, rfl, rfl, fst_skip HO.out HPF.out, F.pure F45⟩
              case measure => simp [intOf]; omega
            | false =>
              have HPT : Hid (p j = true) := by rw [HPJ.out]; rfl
              cases o with
              | none =>
                simp only [fsI, Option.isSome_none]
                go_wp2_with fail
                go_roundw
                case rel => exact ⟨j + 1, some j, by omega, by go_num, rfl, rfl, fst_new HO.out HPT.out, F.pure F45⟩
                case measure => simp [intOf]; omega
              | some b =>
                have hb := (fstC_some p j b HO.out).1
                simp only [fsI, Option.isSome_some]
                obtain ⟨c, hc⟩ : ∃ c, c = cmpS (j : Int) (b : Int) := ⟨_, rfl⟩
                have HC := Lib.hid hc
                clear hc
                by_cases hcl : c < 0
                · have hcd : decide (c < 0) = true := decide_eq_true hcl
                  have HCL := Lib.hid hcl
                  clear hcl
                  go_wp2_with fail
                  refine (rcompare_v (j : Int) (b : Int) (nat_validB (by omega)) (nat_validB (by omega)) _).mono ?_
                  rintro e w6 ⟨rfl, rfl⟩
                  rw [← HC.out]
                  go_wp2_with fail
                  go_roundw
                  case rel => exact ⟨j + 1, some j, by omega, by go_num, rfl, rfl, fst_lt HO.out HPT.out (by rw [← HC.out]; have := HCL.out; omega), F.pure F45⟩
                  case measure => simp [intOf]; omega
                · have hcd : decide (c < 0) = false := decide_eq_false hcl
                  have HCL := Lib.hid hcl
                  clear hcl
                  go_wp2_with fail
                  refine (rcompare_v (j : Int) (b : Int) (nat_validB (by omega)) (nat_validB (by omega)) _).mono ?_
                  rintro e w6 ⟨rfl, rfl⟩
                  rw [← HC.out]
                  go_wp2_with fail
                  go_roundw
                  case rel => exact ⟨j + 1, some b, by omega, by go_num, rfl, rfl, fst_ge HO.out HPT.out (by rw [← HC.out]; have := HCL.out; omega), F.pure F45⟩
                  case measure => simp [intOf]; omega
        · obtain rfl : j = 1024 := by omega
          have HF : Hid (ordN.find? p = o) := (fst_find p).symm.trans HO.out
          cases o with
          | none =>
            have HN : Hid (ansV p = .tuple #[.bool true, .int .i64 0, .int .i64 0]) := by unfold Hid ansV; rw [HF.out]
            simp only [fsI, Option.isSome_none]
            go_wp2_with fail
            refine bodyPost_ret (v := .tuple #[.bool true, .int .i64 0, .int .i64 0]) (by simp [results, Tryz.results22, go_sem]) rfl ?_
            exact ⟨by rw [HA.out, HN.out], F03.pure F⟩
          | some b =>
            have HN : Hid (ansV p = .tuple #[.bool false, .int .i64 (b : Int), .int .i64 0]) := by unfold Hid ansV; rw [HF.out]
            simp only [fsI, Option.isSome_some]
            go_wp2_with fail
            refine bodyPost_ret (v := .tuple #[.bool false, .int .i64 (b : Int), .int .i64 0]) (by simp [results, Tryz.results22, go_sem]) rfl ?_
            exact ⟨by rw [HA.out, HN.out], F03.pure F⟩
    · have hv0' : (validE u != 0) = true := by rw [bne_iff_ne]; exact hv'
      have HA : Hid (ansE t u p = .tuple #[.bool false, .int .i64 0, .int .i64 (validE u)]) := by unfold Hid ansE; rw [if_pos HV.out, if_neg hv']
      clear hv'
      go_wp2_with fail
      refine bodyPost_ret (v := .tuple #[.bool false, .int .i64 0, .int .i64 (validE u)]) (by simp [results, Tryz.results22, go_sem]) rfl ?_
      exact ⟨by rw [HA.out], F03⟩
  · have hv0 : (validE t != 0) = true := by rw [bne_iff_ne]; exact hv
    have HA : Hid (ansE t u p = .tuple #[.bool false, .int .i64 0, .int .i64 (validE t)]) := by unfold Hid ansE; rw [if_neg hv]
    clear hv
    go_wp2_with fail
    refine bodyPost_ret (v := .tuple #[.bool false, .int .i64 0, .int .i64 (validE t)]) (by simp [results, Tryz.results22, go_sem]) rfl ?_
    exact ⟨by rw [HA.out], F02⟩

set_option maxRecDepth 100000 in
set_option maxHeartbeats 4000000 in
theorem reqv_any (t u : Tr) (v v' : Value) (w : World) (h : TrR w none v t) (h' : TrR w none v' u) (hsz : t.size ≤ 1073741000) (hsz' : u.size ≤ 1073741000) :
    Calls Tryz.prog 23 #[v, v'] w fun e w' => e = .returned (ansE t u (fun s : Nat => sat (s : Int) t != sat (s : Int) u)) ∧ Fr none w w' := by
  obtain ⟨th, A1, n1, c1, A2, n2, c2, rfl⟩ := TrD.shape h
  obtain ⟨th', A1', n1', c1', A2', n2', c2', rfl⟩ := TrD.shape h'
  obtain ⟨p, hp⟩ : ∃ p : Nat → Bool, p = (fun s : Nat => sat (s : Int) t != sat (s : Int) u) := ⟨_, rfl⟩
  rw [← hp]
  have HP := Lib.hid hp
  clear hp
  go_enter Tryz.func23, Tryz.ntmps23
  go_wp2_with fail
  generalize hW : (w.alloc _).alloc _ = w1
  have F1 : Fr none w w1 := hW ▸ ((Fr.refl none w).alloc _).alloc _
  have b2 : TB w1 w.heap.size (.int .i64 th) (.slice A1 n1 c1) (.slice A2 n2 c2) := by rw [← hW]; exact (Below.heap_alloc _ _ _ (by simp)).trans (blk_new _ _)
  have b4 : TB w1 (w.heap.size + 1) (.int .i64 th') (.slice A1' n1' c1') (.slice A2' n2' c2') := by rw [← hW]; exact blk_new_at (by simp) _
  clear hW
  refine (rvalidT_any t _ _ none hsz (h.fr F1)).mono ?_
  rintro e w2 ⟨rfl, F2⟩
  have F02 := F1.pure F2
  have bx := b2.fr F2 (by simp)
  have by_ := b4.fr F2 (by simp)
  have hx := h.fr F02
  have hy := h'.fr F02
  have R4 := by_.cell
  have l4 := blk_lt by_
  clear b2 b4 h h'
  by_cases hv : validE t = 0
  · have hv0 : (validE t != 0) = false := by rw [bne_eq_false_iff_eq]; exact hv
    have HV := Lib.hid hv
    clear hv
    go_wp2_with fail
    refine (rvalidT_any u _ _ none hsz' hy).mono ?_
    rintro e w3 ⟨rfl, F3⟩
    have F03 := F02.pure F3
    have bx := bx.fr F3 (by simp)
    have by_ := by_.fr F3 (by simp)
    have hx := hx.fr F3
    have hy := hy.fr F3
    clear R4 l4 F02 F1 F2
    by_cases hv' : validE u = 0
    · have hv0' : (validE u != 0) = false := by rw [bne_eq_false_iff_eq]; exact hv'
      have HA : Hid (ansE t u p = ansV p) := by unfold Hid ansE; rw [if_pos HV.out, if_pos hv']
      clear hv'
      go_wp2_with fail
      go_loopw [9, 10, 11] (fun s9 s10 s11 wr => ∃ (j : Nat) (o : Option Nat), j ≤ 1024 ∧ s11 = .int .i64 (j : Int) ∧ s9 = .int .i64 (fsI o) ∧ s10 = .bool o.isSome ∧ Hid (fstC p j = o) ∧ Fr none w3 wr) (fun _ _ s11 _ => 1024 - (intOf s11).toNat)
      case atStart => exact ⟨0, none, by omega, rfl, rfl, rfl, rfl, Fr.refl _ _⟩
      case round =>
        obtain ⟨j, o, hj, rfl, rfl, rfl, HO, F⟩ := hrel
        have bx := bx.fr F (by simp)
        have by_ := by_.fr F (by simp)
        have hx := hx.fr F
        have hy := hy.fr F
        by_cases hlt : j < 1024
        · obtain ⟨X, hX⟩ : ∃ X : Bool, X = sat (j : Int) t := ⟨_, rfl⟩
          obtain ⟨Y, hY⟩ : ∃ Y : Bool, Y = sat (j : Int) u := ⟨_, rfl⟩
          have HX := Lib.hid hX
          have HY := Lib.hid hY
          clear hX hY
          have lx := blk_lt bx
          have ly := blk_lt by_
          have HPJ : Hid (p j = (X != Y)) := by unfold Hid; rw [HP.out, HX.out, HY.out]
          cases X with
          | false =>
            cases Y with
            | false =>
              have HPZ : Hid (p j = false) := by rw [HPJ.out]; rfl
              go_upto_region 11 with (fail)
              go_cut [42] (fun s42 wq => s42 = .bool false ∧ Fr none wr wq)
              case first =>
                refine wp_region_held_drew (S := fun W => (∀ i, W.cell? ⟨w.heap.size, i, none⟩ = (#[.int .i64 th, .slice A1 n1 c1, .slice A2 n2 c2] : Array Value)[i]?) ∧ (∀ i, W.cell? ⟨w.heap.size + 1, i, none⟩ = (#[.int .i64 th', .slice A1' n1' c1', .slice A2' n2' c2'] : Array Value)[i]?) ∧ Fr none wr W) (by kernel_rfl) ⟨bx.cell, by_.cell, (Fr.refl _ _).drew⟩ (fun hH0 => ?_)
                refine wpAnyH_take (i := 0) (v := ?_) rfl (by kernel_rfl) (by kernel_rfl) (by kernel_rfl) (fun _ _ _ h => h) (Or.inl ⟨by rfl, ?_⟩) (by assumption) ?_
                rotate_left
                · (intro W hW; (try dsimp only at hW); go_simp; try with_reducible rfl)
                try simp only [Act.put, List.setIfInBounds_toArray, List.set_cons_zero, List.set_cons_succ, List.getElem_toArray, List.getElem_cons_zero, List.getElem_cons_succ]
                refine wpAnyH_take (i := 1) (v := ?_) rfl (by kernel_rfl) (by kernel_rfl) (by kernel_rfl) (fun _ _ _ h => h) (Or.inl ⟨by rfl, ?_⟩) (by assumption) ?_
                rotate_left
                · (intro W hW; (try dsimp only at hW); go_simp; try with_reducible rfl)
                try simp only [Act.put, List.setIfInBounds_toArray, List.set_cons_zero, List.set_cons_succ, List.getElem_toArray, List.getElem_cons_zero, List.getElem_cons_succ]
                refine wpAnyH_take (i := 3) (v := ?_) rfl (by kernel_rfl) (by kernel_rfl) (by kernel_rfl) (fun _ _ _ h => h) (Or.inl ⟨by rfl, ?_⟩) (by assumption) ?_
                rotate_left
                · (intro W hW; (try dsimp only at hW); go_simp; try with_reducible rfl)
                try simp only [Act.put, List.setIfInBounds_toArray, List.set_cons_zero, List.set_cons_succ, List.getElem_toArray, List.getElem_cons_zero, List.getElem_cons_succ]
                refine wpAnyH_take (i := 4) (v := ?_) rfl (by kernel_rfl) (by kernel_rfl) (by kernel_rfl) (fun _ _ _ h => h) (Or.inl ⟨by rfl, ?_⟩) (by assumption) ?_
                rotate_left
                · (intro W hW; (try dsimp only at hW); go_simp; try with_reducible rfl)
                try simp only [Act.put, List.setIfInBounds_toArray, List.set_cons_zero, List.set_cons_succ, List.getElem_toArray, List.getElem_cons_zero, List.getElem_cons_succ]
                refine wpAnyH_ready (rs := [2]) (by kernel_rfl) (by simp) ?_
                refine AllReadyH.cons rfl (fun K hK => ?_) AllReadyH.nil
                simp only [List.getElem_toArray, List.getElem_cons_zero, List.getElem_cons_succ]
                go_simp
                go_at_call 46
                refine (rsat_any t.dep t _ _ _ none (Nat.le_refl _) (hx.fr hH0.2.2)).mono ?_
                rintro e w9 ⟨rfl, F9⟩
                rw [← HX.out]
                have F9' := hH0.2.2.pure F9
                refine hK.out _ _ ⟨(bx.fr F9' (by simp)).cell, (by_.fr F9' (by simp)).cell, F9'⟩ (fun hH1 => ?_)
                clear hK K hH0 F9'
                have hH0 := hH1
                clear hH1 F9
                try simp only [Act.put, List.setIfInBounds_toArray, List.set_cons_zero, List.set_cons_succ, List.getElem_toArray, List.getElem_cons_zero, List.getElem_cons_succ]
                refine wpAnyH_ready (rs := [5]) (by kernel_rfl) (by simp) ?_
                refine AllReadyH.cons rfl (fun K hK => ?_) AllReadyH.nil
                simp only [List.getElem_toArray, List.getElem_cons_zero, List.getElem_cons_succ]
                go_simp
                go_at_call 46
                refine (rsat_any u.dep u _ _ _ none (Nat.le_refl _) (hy.fr hH0.2.2)).mono ?_
                rintro e w9 ⟨rfl, F9⟩
                rw [← HY.out]
                have F9' := hH0.2.2.pure F9
                refine hK.out _ _ ⟨(bx.fr F9' (by simp)).cell, (by_.fr F9' (by simp)).cell, F9'⟩ (fun hH1 => ?_)
                clear hK K hH0 F9'
                have hH0 := hH1
                clear hH1 F9
                try simp only [Act.put, List.setIfInBounds_toArray, List.set_cons_zero, List.set_cons_succ, List.getElem_toArray, List.getElem_cons_zero, List.getElem_cons_succ]
                refine wpAnyH_take (i := 6) (v := ?_) rfl (by kernel_rfl) (by kernel_rfl) (by kernel_rfl) (fun _ _ _ h => h) (Or.inl ⟨by rfl, ?_⟩) (by assumption) ?_
                rotate_left
                · (intro W hW; (try dsimp only at hW); go_simp; try with_reducible rfl)
                try simp only [Act.put, List.setIfInBounds_toArray, List.set_cons_zero, List.set_cons_succ, List.getElem_toArray, List.getElem_cons_zero, List.getElem_cons_succ]
                refine wpAnyH_take (i := 7) (v := ?_) rfl (by kernel_rfl) (by kernel_rfl) (by kernel_rfl) (fun _ _ _ h => h) (Or.inl ⟨by rfl, ?_⟩) (by assumption) ?_
                rotate_left
                · (intro W hW; (try dsimp only at hW); go_simp; try with_reducible rfl)
                try simp only [Act.put, List.setIfInBounds_toArray, List.set_cons_zero, List.set_cons_succ, List.getElem_toArray, List.getElem_cons_zero, List.getElem_cons_succ]
                refine wpAnyH_take (i := 8) (v := undef) rfl (by kernel_rfl) (by kernel_rfl) (by kernel_rfl) (fun _ _ _ h => h) (Or.inr ⟨by rfl, rfl⟩) (by assumption) ?_
                try simp only [Act.put, List.setIfInBounds_toArray, List.set_cons_zero, List.set_cons_succ, List.getElem_toArray, List.getElem_cons_zero, List.getElem_cons_succ]
                refine wpAnyH_take (i := 9) (v := undef) rfl (by kernel_rfl) (by kernel_rfl) (by kernel_rfl) (fun _ _ _ h => h) (Or.inr ⟨by rfl, rfl⟩) (by assumption) ?_
                try simp only [Act.put, List.setIfInBounds_toArray, List.set_cons_zero, List.set_cons_succ, List.getElem_toArray, List.getElem_cons_zero, List.getElem_cons_succ]
                refine wpAnyH_take (i := 10) (v := undef) rfl (by kernel_rfl) (by kernel_rfl) (by kernel_rfl) (fun _ _ _ h => h) (Or.inr ⟨by rfl, rfl⟩) (by assumption) ?_
                try simp only [Act.put, List.setIfInBounds_toArray, List.set_cons_zero, List.set_cons_succ, List.getElem_toArray, List.getElem_cons_zero, List.getElem_cons_succ]
                refine wpAnyH_take (i := 11) (v := undef) rfl (by kernel_rfl) (by kernel_rfl) (by kernel_rfl) (fun _ _ _ h => h) (Or.inr ⟨by rfl, rfl⟩) (by assumption) ?_
                try simp only [Act.put, List.setIfInBounds_toArray, List.set_cons_zero, List.set_cons_succ, List.getElem_toArray, List.getElem_cons_zero, List.getElem_cons_succ]
                refine wpAnyH_take (i := 12) (v := undef) rfl (by kernel_rfl) (by kernel_rfl) (by kernel_rfl) (fun _ _ _ h => h) (Or.inr ⟨by rfl, rfl⟩) (by assumption) ?_
                try simp only [Act.put, List.setIfInBounds_toArray, List.set_cons_zero, List.set_cons_succ, List.getElem_toArray, List.getElem_cons_zero, List.getElem_cons_succ]
                refine wpAnyH_take (i := 13) (v := undef) rfl (by kernel_rfl) (by kernel_rfl) (by kernel_rfl) (fun _ _ _ h => h) (Or.inr ⟨by rfl, rfl⟩) (by assumption) ?_
                try simp only [Act.put, List.setIfInBounds_toArray, List.set_cons_zero, List.set_cons_succ, List.getElem_toArray, List.getElem_cons_zero, List.getElem_cons_succ]
                refine wpAnyH_take (i := 14) (v := undef) rfl (by kernel_rfl) (by kernel_rfl) (by kernel_rfl) (fun _ _ _ h => h) (Or.inr ⟨by rfl, rfl⟩) (by assumption) ?_
                try simp only [Act.put, List.setIfInBounds_toArray, List.set_cons_zero, List.set_cons_succ, List.getElem_toArray, List.getElem_cons_zero, List.getElem_cons_succ]
                refine wpAnyH_take (i := 15) (v := undef) rfl (by kernel_rfl) (by kernel_rfl) (by kernel_rfl) (fun _ _ _ h => h) (Or.inr ⟨by rfl, rfl⟩) (by assumption) ?_
                try simp only [Act.put, List.setIfInBounds_toArray, List.set_cons_zero, List.set_cons_succ, List.getElem_toArray, List.getElem_cons_zero, List.getElem_cons_succ]
                refine wpAnyH_take (i := 16) (v := ?_) rfl (by kernel_rfl) (by kernel_rfl) (by kernel_rfl) (fun _ _ _ h => h) (Or.inl ⟨by rfl, ?_⟩) (by assumption) ?_
                rotate_left
                · (intro W hW; (try dsimp only at hW); go_simp; try with_reducible rfl)
                try simp only [Act.put, List.setIfInBounds_toArray, List.set_cons_zero, List.set_cons_succ, List.getElem_toArray, List.getElem_cons_zero, List.getElem_cons_succ]
                refine wpAnyH_done (by kernel_rfl) ?_ _
                go_wp2_with fail
                go_meet
                exact ⟨rfl, hH0.2.2⟩
              case rest =>
                obtain ⟨rfl, Fq⟩ := hcut
                go_wp2_with fail
                go_roundw
                case rel => exact ⟨j + 1, o, by omega, by go_num, rfl, rfl, fst_skip HO.out HPZ.out, F.pure Fq⟩
                case measure => simp [intOf]; omega
            | true =>
              have HPZ : Hid (p j = true) := by rw [HPJ.out]; rfl
              cases o with
              | none =>
                simp only [fsI, Option.isSome_none]
                go_upto_region 11 with (fail)
                go_cut [42] (fun s42 wq => s42 = .bool true ∧ Fr none wr wq)
                case first =>
                  refine wp_region_held_drew (S := fun W => (∀ i, W.cell? ⟨w.heap.size, i, none⟩ = (#[.int .i64 th, .slice A1 n1 c1, .slice A2 n2 c2] : Array Value)[i]?) ∧ (∀ i, W.cell? ⟨w.heap.size + 1, i, none⟩ = (#[.int .i64 th', .slice A1' n1' c1', .slice A2' n2' c2'] : Array Value)[i]?) ∧ Fr none wr W) (by kernel_rfl) ⟨bx.cell, by_.cell, (Fr.refl _ _).drew⟩ (fun hH0 => ?_)
                  refine wpAnyH_take (i := 0) (v := ?_) rfl (by kernel_rfl) (by kernel_rfl) (by kernel_rfl) (fun _ _ _ h => h) (Or.inl ⟨by rfl, ?_⟩) (by assumption) ?_
                  rotate_left
                  · (intro W hW; (try dsimp only at hW); go_simp; try with_reducible rfl)
                  try simp only [Act.put, List.setIfInBounds_toArray, List.set_cons_zero, List.set_cons_succ, List.getElem_toArray, List.getElem_cons_zero, List.getElem_cons_succ]
                  refine wpAnyH_take (i := 1) (v := ?_) rfl (by kernel_rfl) (by kernel_rfl) (by kernel_rfl) (fun _ _ _ h => h) (Or.inl ⟨by rfl, ?_⟩) (by assumption) ?_
                  rotate_left
                  · (intro W hW; (try dsimp only at hW); go_simp; try with_reducible rfl)
                  try simp only [Act.put, List.setIfInBounds_toArray, List.set_cons_zero, List.set_cons_succ, List.getElem_toArray, List.getElem_cons_zero, List.getElem_cons_succ]
                  refine wpAnyH_take (i := 3) (v := ?_) rfl (by kernel_rfl) (by kernel_rfl) (by kernel_rfl) (fun _ _ _ h => h) (Or.inl ⟨by rfl, ?_⟩) (by assumption) ?_
                  rotate_left
                  · (intro W hW; (try dsimp only at hW); go_simp; try with_reducible rfl)
                  try simp only [Act.put, List.setIfInBounds_toArray, List.set_cons_zero, List.set_cons_succ, List.getElem_toArray, List.getElem_cons_zero, List.getElem_cons_succ]
                  refine wpAnyH_take (i := 4) (v := ?_) rfl (by kernel_rfl) (by kernel_rfl) (by kernel_rfl) (fun _ _ _ h => h) (Or.inl ⟨by rfl, ?_⟩) (by assumption) ?_
                  rotate_left
                  · (intro W hW; (try dsimp only at hW); go_simp; try with_reducible rfl)
                  try simp only [Act.put, List.setIfInBounds_toArray, List.set_cons_zero, List.set_cons_succ, List.getElem_toArray, List.getElem_cons_zero, List.getElem_cons_succ]
                  refine wpAnyH_ready (rs := [2]) (by kernel_rfl) (by simp) ?_
                  refine AllReadyH.cons rfl (fun K hK => ?_) AllReadyH.nil
                  simp only [List.getElem_toArray, List.getElem_cons_zero, List.getElem_cons_succ]
                  go_simp
                  go_at_call 46
                  refine (rsat_any t.dep t _ _ _ none (Nat.le_refl _) (hx.fr hH0.2.2)).mono ?_
                  rintro e w9 ⟨rfl, F9⟩
                  rw [← HX.out]
                  have F9' := hH0.2.2.pure F9
                  refine hK.out _ _ ⟨(bx.fr F9' (by simp)).cell, (by_.fr F9' (by simp)).cell, F9'⟩ (fun hH1 => ?_)
                  clear hK K hH0 F9'
                  have hH0 := hH1
                  clear hH1 F9
                  try simp only [Act.put, List.setIfInBounds_toArray, List.set_cons_zero, List.set_cons_succ, List.getElem_toArray, List.getElem_cons_zero, List.getElem_cons_succ]
                  refine wpAnyH_ready (rs := [5]) (by kernel_rfl) (by simp) ?_
                  refine AllReadyH.cons rfl (fun K hK => ?_) AllReadyH.nil
                  simp only [List.getElem_toArray, List.getElem_cons_zero, List.getElem_cons_succ]
                  go_simp
                  go_at_call 46
                  refine (rsat_any u.dep u _ _ _ none (Nat.le_refl _) (hy.fr hH0.2.2)).mono ?_
                  rintro e w9 ⟨rfl, F9⟩
                  rw [← HY.out]
                  have F9' := hH0.2.2.pure F9
                  refine hK.out _ _ ⟨(bx.fr F9' (by simp)).cell, (by_.fr F9' (by simp)).cell, F9'⟩ (fun hH1 => ?_)
                  clear hK K hH0 F9'
                  have hH0 := hH1
                  clear hH1 F9
                  try simp only [Act.put, List.setIfInBounds_toArray, List.set_cons_zero, List.set_cons_succ, List.getElem_toArray, List.getElem_cons_zero, List.getElem_cons_succ]
                  refine wpAnyH_take (i := 6) (v := ?_) rfl (by kernel_rfl) (by kernel_rfl) (by kernel_rfl) (fun _ _ _ h => h) (Or.inl ⟨by rfl, ?_⟩) (by assumption) ?_
                  rotate_left
                  · (intro W hW; (try dsimp only at hW); go_simp; try with_reducible rfl)
                  try simp only [Act.put, List.setIfInBounds_toArray, List.set_cons_zero, List.set_cons_succ, List.getElem_toArray, List.getElem_cons_zero, List.getElem_cons_succ]
                  refine wpAnyH_take (i := 7) (v := ?_) rfl (by kernel_rfl) (by kernel_rfl) (by kernel_rfl) (fun _ _ _ h => h) (Or.inl ⟨by rfl, ?_⟩) (by assumption) ?_
                  rotate_left
                  · (intro W hW; (try dsimp only at hW); go_simp; try with_reducible rfl)
                  try simp only [Act.put, List.setIfInBounds_toArray, List.set_cons_zero, List.set_cons_succ, List.getElem_toArray, List.getElem_cons_zero, List.getElem_cons_succ]
                  refine wpAnyH_take (i := 8) (v := ?_) rfl (by kernel_rfl) (by kernel_rfl) (by kernel_rfl) (fun _ _ _ h => h) (Or.inl ⟨by rfl, ?_⟩) (by assumption) ?_
                  rotate_left
                  · (intro W hW; (try dsimp only at hW); go_simp; try with_reducible rfl)
                  try simp only [Act.put, List.setIfInBounds_toArray, List.set_cons_zero, List.set_cons_succ, List.getElem_toArray, List.getElem_cons_zero, List.getElem_cons_succ]
                  refine wpAnyH_take (i := 9) (v := ?_) rfl (by kernel_rfl) (by kernel_rfl) (by kernel_rfl) (fun _ _ _ h => h) (Or.inl ⟨by rfl, ?_⟩) (by assumption) ?_
                  rotate_left
                  · (intro W hW; (try dsimp only at hW); go_simp; try with_reducible rfl)
                  try simp only [Act.put, List.setIfInBounds_toArray, List.set_cons_zero, List.set_cons_succ, List.getElem_toArray, List.getElem_cons_zero, List.getElem_cons_succ]
                  refine wpAnyH_take (i := 10) (v := ?_) rfl (by kernel_rfl) (by kernel_rfl) (by kernel_rfl) (fun _ _ _ h => h) (Or.inl ⟨by rfl, ?_⟩) (by assumption) ?_
                  rotate_left
                  · (intro W hW; (try dsimp only at hW); go_simp; try with_reducible rfl)
                  try simp only [Act.put, List.setIfInBounds_toArray, List.set_cons_zero, List.set_cons_succ, List.getElem_toArray, List.getElem_cons_zero, List.getElem_cons_succ]
                  refine wpAnyH_take (i := 11) (v := undef) rfl (by kernel_rfl) (by kernel_rfl) (by kernel_rfl) (fun _ _ _ h => h) (Or.inr ⟨by rfl, rfl⟩) (by assumption) ?_
                  try simp only [Act.put, List.setIfInBounds_toArray, List.set_cons_zero, List.set_cons_succ, List.getElem_toArray, List.getElem_cons_zero, List.getElem_cons_succ]
                  refine wpAnyH_take (i := 12) (v := undef) rfl (by kernel_rfl) (by kernel_rfl) (by kernel_rfl) (fun _ _ _ h => h) (Or.inr ⟨by rfl, rfl⟩) (by assumption) ?_
                  try simp only [Act.put, List.setIfInBounds_toArray, List.set_cons_zero, List.set_cons_succ, List.getElem_toArray, List.getElem_cons_zero, List.getElem_cons_succ]
                  refine wpAnyH_take (i := 13) (v := undef) rfl (by kernel_rfl) (by kernel_rfl) (by kernel_rfl) (fun _ _ _ h => h) (Or.inr ⟨by rfl, rfl⟩) (by assumption) ?_
                  try simp only [Act.put, List.setIfInBounds_toArray, List.set_cons_zero, List.set_cons_succ, List.getElem_toArray, List.getElem_cons_zero, List.getElem_cons_succ]
                  refine wpAnyH_take (i := 14) (v := undef) rfl (by kernel_rfl) (by kernel_rfl) (by kernel_rfl) (fun _ _ _ h => h) (Or.inr ⟨by rfl, rfl⟩) (by assumption) ?_
                  try simp only [Act.put, List.setIfInBounds_toArray, List.set_cons_zero, List.set_cons_succ, List.getElem_toArray, List.getElem_cons_zero, List.getElem_cons_succ]
                  refine wpAnyH_take (i := 15) (v := ?_) rfl (by kernel_rfl) (by kernel_rfl) (by kernel_rfl) (fun _ _ _ h => h) (Or.inl ⟨by rfl, ?_⟩) (by assumption) ?_
                  rotate_left
                  · (intro W hW; (try dsimp only at hW); go_simp; try with_reducible rfl)
                  try simp only [Act.put, List.setIfInBounds_toArray, List.set_cons_zero, List.set_cons_succ, List.getElem_toArray, List.getElem_cons_zero, List.getElem_cons_succ]
                  refine wpAnyH_take (i := 16) (v := ?_) rfl (by kernel_rfl) (by kernel_rfl) (by kernel_rfl) (fun _ _ _ h => h) (Or.inl ⟨by rfl, ?_⟩) (by assumption) ?_
                  rotate_left
                  · (intro W hW; (try dsimp only at hW); go_simp; try with_reducible rfl)
                  try simp only [Act.put, List.setIfInBounds_toArray, List.set_cons_zero, List.set_cons_succ, List.getElem_toArray, List.getElem_cons_zero, List.getElem_cons_succ]
                  refine wpAnyH_done (by kernel_rfl) ?_ _
                  go_wp2_with fail
                  go_meet
                  exact ⟨rfl, hH0.2.2⟩
                case rest =>
                  obtain ⟨rfl, Fq⟩ := hcut
                  go_wp2_with fail
                  go_roundw
                  case rel => exact ⟨j + 1, some j, by omega, by go_num, rfl, rfl, fst_new HO.out HPZ.out, F.pure Fq⟩
                  case measure => simp [intOf]; omega
              | some b =>
                have hb := (fstC_some p j b HO.out).1
                simp only [fsI, Option.isSome_some]
                obtain ⟨c, hc⟩ : ∃ c, c = cmpS (j : Int) (b : Int) := ⟨_, rfl⟩
                have HC := Lib.hid hc
                clear hc
                by_cases hcl : c < 0
                · have hcd : decide (c < 0) = true := decide_eq_true hcl
                  have HCL := Lib.hid hcl
                  clear hcl
                  go_upto_region 11 with (fail)
                  go_cut [42] (fun s42 wq => s42 = .bool true ∧ Fr none wr wq)
                  case first =>
                    refine wp_region_held_drew (S := fun W => (∀ i, W.cell? ⟨w.heap.size, i, none⟩ = (#[.int .i64 th, .slice A1 n1 c1, .slice A2 n2 c2] : Array Value)[i]?) ∧ (∀ i, W.cell? ⟨w.heap.size + 1, i, none⟩ = (#[.int .i64 th', .slice A1' n1' c1', .slice A2' n2' c2'] : Array Value)[i]?) ∧ Fr none wr W) (by kernel_rfl) ⟨bx.cell, by_.cell, (Fr.refl _ _).drew⟩ (fun hH0 => ?_)
                    refine wpAnyH_take (i := 0) (v := ?_) rfl (by kernel_rfl) (by kernel_rfl) (by kernel_rfl) (fun _ _ _ h => h) (Or.inl ⟨by rfl, ?_⟩) (by assumption) ?_
                    rotate_left
                    · (intro W hW; (try dsimp only at hW); go_simp; try with_reducible rfl)
                    try simp only [Act.put, List.setIfInBounds_toArray, List.set_cons_zero, List.set_cons_succ, List.getElem_toArray, List.getElem_cons_zero, List.getElem_cons_succ]
                    refine wpAnyH_take (i := 1) (v := ?_) rfl (by kernel_rfl) (by kernel_rfl) (by kernel_rfl) (fun _ _ _ h => h) (Or.inl ⟨by rfl, ?_⟩) (by assumption) ?_
                    rotate_left
                    · (intro W hW; (try dsimp only at hW); go_simp; try with_reducible rfl)
                    try simp only [Act.put, List.setIfInBounds_toArray, List.set_cons_zero, List.set_cons_succ, List.getElem_toArray, List.getElem_cons_zero, List.getElem_cons_succ]
                    refine wpAnyH_take (i := 3) (v := ?_) rfl (by kernel_rfl) (by kernel_rfl) (by kernel_rfl) (fun _ _ _ h => h) (Or.inl ⟨by rfl, ?_⟩) (by assumption) ?_
                    rotate_left
                    · (intro W hW; (try dsimp only at hW); go_simp; try with_reducible rfl)
                    try simp only [Act.put, List.setIfInBounds_toArray, List.set_cons_zero, List.set_cons_succ, List.getElem_toArray, List.getElem_cons_zero, List.getElem_cons_succ]
                    refine wpAnyH_take (i := 4) (v := ?_) rfl (by kernel_rfl) (by kernel_rfl) (by kernel_rfl) (fun _ _ _ h => h) (Or.inl ⟨by rfl, ?_⟩) (by assumption) ?_
                    rotate_left
                    · (intro W hW; (try dsimp only at hW); go_simp; try with_reducible rfl)
                    try simp only [Act.put, List.setIfInBounds_toArray, List.set_cons_zero, List.set_cons_succ, List.getElem_toArray, List.getElem_cons_zero, List.getElem_cons_succ]
                    refine wpAnyH_ready (rs := [2]) (by kernel_rfl) (by simp) ?_
                    refine AllReadyH.cons rfl (fun K hK => ?_) AllReadyH.nil
                    simp only [List.getElem_toArray, List.getElem_cons_zero, List.getElem_cons_succ]
                    go_simp
                    go_at_call 46
                    refine (rsat_any t.dep t _ _ _ none (Nat.le_refl _) (hx.fr hH0.2.2)).mono ?_
                    rintro e w9 ⟨rfl, F9⟩
                    rw [← HX.out]
                    have F9' := hH0.2.2.pure F9
                    refine hK.out _ _ ⟨(bx.fr F9' (by simp)).cell, (by_.fr F9' (by simp)).cell, F9'⟩ (fun hH1 => ?_)
                    clear hK K hH0 F9'
                    have hH0 := hH1
                    clear hH1 F9
                    try simp only [Act.put, List.setIfInBounds_toArray, List.set_cons_zero, List.set_cons_succ, List.getElem_toArray, List.getElem_cons_zero, List.getElem_cons_succ]
                    refine wpAnyH_ready (rs := [5]) (by kernel_rfl) (by simp) ?_
                    refine AllReadyH.cons rfl (fun K hK => ?_) AllReadyH.nil
                    simp only [List.getElem_toArray, List.getElem_cons_zero, List.getElem_cons_succ]
                    go_simp
                    go_at_call 46
                    refine (rsat_any u.dep u _ _ _ none (Nat.le_refl _) (hy.fr hH0.2.2)).mono ?_
                    rintro e w9 ⟨rfl, F9⟩
                    rw [← HY.out]
                    have F9' := hH0.2.2.pure F9
                    refine hK.out _ _ ⟨(bx.fr F9' (by simp)).cell, (by_.fr F9' (by simp)).cell, F9'⟩ (fun hH1 => ?_)
                    clear hK K hH0 F9'
                    have hH0 := hH1
                    clear hH1 F9
                    try simp only [Act.put, List.setIfInBounds_toArray, List.set_cons_zero, List.set_cons_succ, List.getElem_toArray, List.getElem_cons_zero, List.getElem_cons_succ]
                    refine wpAnyH_take (i := 6) (v := ?_) rfl (by kernel_rfl) (by kernel_rfl) (by kernel_rfl) (fun _ _ _ h => h) (Or.inl ⟨by rfl, ?_⟩) (by assumption) ?_
                    rotate_left
                    · (intro W hW; (try dsimp only at hW); go_simp; try with_reducible rfl)
                    try simp only [Act.put, List.setIfInBounds_toArray, List.set_cons_zero, List.set_cons_succ, List.getElem_toArray, List.getElem_cons_zero, List.getElem_cons_succ]
                    refine wpAnyH_take (i := 7) (v := ?_) rfl (by kernel_rfl) (by kernel_rfl) (by kernel_rfl) (fun _ _ _ h => h) (Or.inl ⟨by rfl, ?_⟩) (by assumption) ?_
                    rotate_left
                    · (intro W hW; (try dsimp only at hW); go_simp; try with_reducible rfl)
                    try simp only [Act.put, List.setIfInBounds_toArray, List.set_cons_zero, List.set_cons_succ, List.getElem_toArray, List.getElem_cons_zero, List.getElem_cons_succ]
                    refine wpAnyH_take (i := 8) (v := ?_) rfl (by kernel_rfl) (by kernel_rfl) (by kernel_rfl) (fun _ _ _ h => h) (Or.inl ⟨by rfl, ?_⟩) (by assumption) ?_
                    rotate_left
                    · (intro W hW; (try dsimp only at hW); go_simp; try with_reducible rfl)
                    try simp only [Act.put, List.setIfInBounds_toArray, List.set_cons_zero, List.set_cons_succ, List.getElem_toArray, List.getElem_cons_zero, List.getElem_cons_succ]
                    refine wpAnyH_take (i := 9) (v := ?_) rfl (by kernel_rfl) (by kernel_rfl) (by kernel_rfl) (fun _ _ _ h => h) (Or.inl ⟨by rfl, ?_⟩) (by assumption) ?_
                    rotate_left
                    · (intro W hW; (try dsimp only at hW); go_simp; try with_reducible rfl)
                    try simp only [Act.put, List.setIfInBounds_toArray, List.set_cons_zero, List.set_cons_succ, List.getElem_toArray, List.getElem_cons_zero, List.getElem_cons_succ]
                    refine wpAnyH_take (i := 10) (v := ?_) rfl (by kernel_rfl) (by kernel_rfl) (by kernel_rfl) (fun _ _ _ h => h) (Or.inl ⟨by rfl, ?_⟩) (by assumption) ?_
                    rotate_left
                    · (intro W hW; (try dsimp only at hW); go_simp; try with_reducible rfl)
                    try simp only [Act.put, List.setIfInBounds_toArray, List.set_cons_zero, List.set_cons_succ, List.getElem_toArray, List.getElem_cons_zero, List.getElem_cons_succ]
                    refine wpAnyH_take (i := 11) (v := ?_) rfl (by kernel_rfl) (by kernel_rfl) (by kernel_rfl) (fun _ _ _ h => h) (Or.inl ⟨by rfl, ?_⟩) (by assumption) ?_
                    rotate_left
                    · (intro W hW; (try dsimp only at hW); go_simp; try with_reducible rfl)
                    try simp only [Act.put, List.setIfInBounds_toArray, List.set_cons_zero, List.set_cons_succ, List.getElem_toArray, List.getElem_cons_zero, List.getElem_cons_succ]
                    refine wpAnyH_take (i := 12) (v := ?_) rfl (by kernel_rfl) (by kernel_rfl) (by kernel_rfl) (fun _ _ _ h => h) (Or.inl ⟨by rfl, ?_⟩) (by assumption) ?_
                    rotate_left
                    · (intro W hW; (try dsimp only at hW); go_simp; try with_reducible rfl)
                    try simp only [Act.put, List.setIfInBounds_toArray, List.set_cons_zero, List.set_cons_succ, List.getElem_toArray, List.getElem_cons_zero, List.getElem_cons_succ]
                    refine wpAnyH_ready (rs := [13]) (by kernel_rfl) (by simp) ?_
                    refine AllReadyH.cons rfl (fun K hK => ?_) AllReadyH.nil
                    simp only [List.getElem_toArray, List.getElem_cons_zero, List.getElem_cons_succ]
                    go_simp
                    go_at_call 44
                    refine (rcompare_v (j : Int) (b : Int) (nat_validB (by omega)) (nat_validB (by omega)) _).mono ?_
                    rintro e w9 ⟨rfl, rfl⟩
                    rw [← HC.out]
                    refine hK.out _ _ hH0 (fun hH1 => ?_)
                    clear hK K hH0
                    have hH0 := hH1
                    clear hH1
                    try simp only [Act.put, List.setIfInBounds_toArray, List.set_cons_zero, List.set_cons_succ, List.getElem_toArray, List.getElem_cons_zero, List.getElem_cons_succ]
                    refine wpAnyH_take (i := 14) (v := ?_) rfl (by kernel_rfl) (by kernel_rfl) (by kernel_rfl) (fun _ _ _ h => h) (Or.inl ⟨by rfl, ?_⟩) (by assumption) ?_
                    rotate_left
                    · (intro W hW; (try dsimp only at hW); go_simp; try with_reducible rfl)
                    try simp only [Act.put, List.setIfInBounds_toArray, List.set_cons_zero, List.set_cons_succ, List.getElem_toArray, List.getElem_cons_zero, List.getElem_cons_succ]
                    refine wpAnyH_take (i := 15) (v := ?_) rfl (by kernel_rfl) (by kernel_rfl) (by kernel_rfl) (fun _ _ _ h => h) (Or.inl ⟨by rfl, ?_⟩) (by assumption) ?_
                    rotate_left
                    · (intro W hW; (try dsimp only at hW); go_simp; try with_reducible rfl)
                    try simp only [Act.put, List.setIfInBounds_toArray, List.set_cons_zero, List.set_cons_succ, List.getElem_toArray, List.getElem_cons_zero, List.getElem_cons_succ]
                    refine wpAnyH_take (i := 16) (v := ?_) rfl (by kernel_rfl) (by kernel_rfl) (by kernel_rfl) (fun _ _ _ h => h) (Or.inl ⟨by rfl, ?_⟩) (by assumption) ?_
                    rotate_left
                    · (intro W hW; (try dsimp only at hW); go_simp; try with_reducible rfl)
                    try simp only [Act.put, List.setIfInBounds_toArray, List.set_cons_zero, List.set_cons_succ, List.getElem_toArray, List.getElem_cons_zero, List.getElem_cons_succ]
                    refine wpAnyH_done (by kernel_rfl) ?_ _
                    go_wp2_with fail
                    go_meet
                    exact ⟨rfl, hH0.2.2⟩
                  case rest =>
                    obtain ⟨rfl, Fq⟩ := hcut
                    go_wp2_with fail
                    go_roundw
                    case rel => exact ⟨j + 1, some j, by omega, by go_num, rfl, rfl, fst_lt HO.out HPZ.out (by rw [← HC.out]; have := HCL.out; omega), F.pure Fq⟩
                    case measure => simp [intOf]; omega
                · have hcd : decide (c < 0) = false := decide_eq_false hcl
                  have HCL := Lib.hid hcl
                  clear hcl
                  go_upto_region 11 with (fail)
                  go_cut [42] (fun s42 wq => s42 = .bool false ∧ Fr none wr wq)
                  case first =>
                    refine wp_region_held_drew (S := fun W => (∀ i, W.cell? ⟨w.heap.size, i, none⟩ = (#[.int .i64 th, .slice A1 n1 c1, .slice A2 n2 c2] : Array Value)[i]?) ∧ (∀ i, W.cell? ⟨w.heap.size + 1, i, none⟩ = (#[.int .i64 th', .slice A1' n1' c1', .slice A2' n2' c2'] : Array Value)[i]?) ∧ Fr none wr W) (by kernel_rfl) ⟨bx.cell, by_.cell, (Fr.refl _ _).drew⟩ (fun hH0 => ?_)
                    refine wpAnyH_take (i := 0) (v := ?_) rfl (by kernel_rfl) (by kernel_rfl) (by kernel_rfl) (fun _ _ _ h => h) (Or.inl ⟨by rfl, ?_⟩) (by assumption) ?_
                    rotate_left
                    · (intro W hW; (try dsimp only at hW); go_simp; try with_reducible rfl)
                    try simp only [Act.put, List.setIfInBounds_toArray, List.set_cons_zero, List.set_cons_succ, List.getElem_toArray, List.getElem_cons_zero, List.getElem_cons_succ]
                    refine wpAnyH_take (i := 1) (v := ?_) rfl (by kernel_rfl) (by kernel_rfl) (by kernel_rfl) (fun _ _ _ h => h) (Or.inl ⟨by rfl, ?_⟩) (by assumption) ?_
                    rotate_left
                    · (intro W hW; (try dsimp only at hW); go_simp; try with_reducible rfl)
                    try simp only [Act.put, List.setIfInBounds_toArray, List.set_cons_zero, List.set_cons_succ, List.getElem_toArray, List.getElem_cons_zero, List.getElem_cons_succ]
                    refine wpAnyH_take (i := 3) (v := ?_) rfl (by kernel_rfl) (by kernel_rfl) (by kernel_rfl) (fun _ _ _ h => h) (Or.inl ⟨by rfl, ?_⟩) (by assumption) ?_
                    rotate_left
                    · (intro W hW; (try dsimp only at hW); go_simp; try with_reducible rfl)
                    try simp only [Act.put, List.setIfInBounds_toArray, List.set_cons_zero, List.set_cons_succ, List.getElem_toArray, List.getElem_cons_zero, List.getElem_cons_succ]
                    refine wpAnyH_take (i := 4) (v := ?_) rfl (by kernel_rfl) (by kernel_rfl) (by kernel_rfl) (fun _ _ _ h => h) (Or.inl ⟨by rfl, ?_⟩) (by assumption) ?_
                    rotate_left
                    · (intro W hW; (try dsimp only at hW); go_simp; try with_reducible rfl)
                    try simp only [Act.put, List.setIfInBounds_toArray, List.set_cons_zero, List.set_cons_succ, List.getElem_toArray, List.getElem_cons_zero, List.getElem_cons_succ]
                    refine wpAnyH_ready (rs := [2]) (by kernel_rfl) (by simp) ?_
                    refine AllReadyH.cons rfl (fun K hK => ?_) AllReadyH.nil
                    simp only [List.getElem_toArray, List.getElem_cons_zero, List.getElem_cons_succ]
                    go_simp
                    go_at_call 46
                    refine (rsat_any t.dep t _ _ _ none (Nat.le_refl _) (hx.fr hH0.2.2)).mono ?_
                    rintro e w9 ⟨rfl, F9⟩
                    rw [← HX.out]
                    have F9' := hH0.2.2.pure F9
                    refine hK.out _ _ ⟨(bx.fr F9' (by simp)).cell, (by_.fr F9' (by simp)).cell, F9'⟩ (fun hH1 => ?_)
                    clear hK K hH0 F9'
                    have hH0 := hH1
                    clear hH1 F9
                    try simp only [Act.put, List.setIfInBounds_toArray, List.set_cons_zero, List.set_cons_succ, List.getElem_toArray, List.getElem_cons_zero, List.getElem_cons_succ]
                    refine wpAnyH_ready (rs := [5]) (by kernel_rfl) (by simp) ?_
                    refine AllReadyH.cons rfl (fun K hK => ?_) AllReadyH.nil
                    simp only [List.getElem_toArray, List.getElem_cons_zero, List.getElem_cons_succ]
                    go_simp
                    go_at_call 46
                    refine (rsat_any u.dep u _ _ _ none (Nat.le_refl _) (hy.fr hH0.2.2)).mono ?_
                    rintro e w9 ⟨rfl, F9⟩
                    rw [← HY.out]
                    have F9' := hH0.2.2.pure F9
                    refine hK.out _ _ ⟨(bx.fr F9' (by simp)).cell, (by_.fr F9' (by simp)).cell, F9'⟩ (fun hH1 => ?_)
                    clear hK K hH0 F9'
                    have hH0 := hH1
                    clear hH1 F9
                    try simp only [Act.put, List.setIfInBounds_toArray, List.set_cons_zero, List.set_cons_succ, List.getElem_toArray, List.getElem_cons_zero, List.getElem_cons_succ]
                    refine wpAnyH_take (i := 6) (v := ?_) rfl (by kernel_rfl) (by kernel_rfl) (by kernel_rfl) (fun _ _ _ h => h) (Or.inl ⟨by rfl, ?_⟩) (by assumption) ?_
                    rotate_left
                    · (intro W hW; (try dsimp only at hW); go_simp; try with_reducible rfl)
                    try simp only [Act.put, List.setIfInBounds_toArray, List.set_cons_zero, List.set_cons_succ, List.getElem_toArray, List.getElem_cons_zero, List.getElem_cons_succ]
                    refine wpAnyH_take (i := 7) (v := ?_) rfl (by kernel_rfl) (by kernel_rfl) (by kernel_rfl) (fun _ _ _ h => h) (Or.inl ⟨by rfl, ?_⟩) (by assumption) ?_
                    rotate_left
                    · (intro W hW; (try dsimp only at hW); go_simp; try with_reducible rfl)
                    try simp only [Act.put, List.setIfInBounds_toArray, List.set_cons_zero, List.set_cons_succ, List.getElem_toArray, List.getElem_cons_zero, List.getElem_cons_succ]
                    refine wpAnyH_take (i := 8) (v := ?_) rfl (by kernel_rfl) (by kernel_rfl) (by kernel_rfl) (fun _ _ _ h => h) (Or.inl ⟨by rfl, ?_⟩) (by assumption) ?_
                    rotate_left
                    · (intro W hW; (try dsimp only at hW); go_simp; try with_reducible rfl)
                    try simp only [Act.put, List.setIfInBounds_toArray, List.set_cons_zero, List.set_cons_succ, List.getElem_toArray, List.getElem_cons_zero, List.getElem_cons_succ]
                    refine wpAnyH_take (i := 9) (v := ?_) rfl (by kernel_rfl) (by kernel_rfl) (by kernel_rfl) (fun _ _ _ h => h) (Or.inl ⟨by rfl, ?_⟩) (by assumption) ?_
                    rotate_left
                    · (intro W hW; (try dsimp only at hW); go_simp; try with_reducible rfl)
                    try simp only [Act.put, List.setIfInBounds_toArray, List.set_cons_zero, List.set_cons_succ, List.getElem_toArray, List.getElem_cons_zero, List.getElem_cons_succ]
                    refine wpAnyH_take (i := 10) (v := ?_) rfl (by kernel_rfl) (by kernel_rfl) (by kernel_rfl) (fun _ _ _ h => h) (Or.inl ⟨by rfl, ?_⟩) (by assumption) ?_
                    rotate_left
                    · (intro W hW; (try dsimp only at hW); go_simp; try with_reducible rfl)
                    try simp only [Act.put, List.setIfInBounds_toArray, List.set_cons_zero, List.set_cons_succ, List.getElem_toArray, List.getElem_cons_zero, List.getElem_cons_succ]
                    refine wpAnyH_take (i := 11) (v := ?_) rfl (by kernel_rfl) (by kernel_rfl) (by kernel_rfl) (fun _ _ _ h => h) (Or.inl ⟨by rfl, ?_⟩) (by assumption) ?_
                    rotate_left
                    · (intro W hW; (try dsimp only at hW); go_simp; try with_reducible rfl)
                    try simp only [Act.put, List.setIfInBounds_toArray, List.set_cons_zero, List.set_cons_succ, List.getElem_toArray, List.getElem_cons_zero, List.getElem_cons_succ]
                    refine wpAnyH_take (i := 12) (v := ?_) rfl (by kernel_rfl) (by kernel_rfl) (by kernel_rfl) (fun _ _ _ h => h) (Or.inl ⟨by rfl, ?_⟩) (by assumption) ?_
                    rotate_left
                    · (intro W hW; (try dsimp only at hW); go_simp; try with_reducible rfl)
                    try simp only [Act.put, List.setIfInBounds_toArray, List.set_cons_zero, List.set_cons_succ, List.getElem_toArray, List.getElem_cons_zero, List.getElem_cons_succ]
                    refine wpAnyH_ready (rs := [13]) (by kernel_rfl) (by simp) ?_
                    refine AllReadyH.cons rfl (fun K hK => ?_) AllReadyH.nil
                    simp only [List.getElem_toArray, List.getElem_cons_zero, List.getElem_cons_succ]
                    go_simp
                    go_at_call 44
                    refine (rcompare_v (j : Int) (b : Int) (nat_validB (by omega)) (nat_validB (by omega)) _).mono ?_
                    rintro e w9 ⟨rfl, rfl⟩
                    rw [← HC.out]
                    refine hK.out _ _ hH0 (fun hH1 => ?_)
                    clear hK K hH0
                    have hH0 := hH1
                    clear hH1
                    try simp only [Act.put, List.setIfInBounds_toArray, List.set_cons_zero, List.set_cons_succ, List.getElem_toArray, List.getElem_cons_zero, List.getElem_cons_succ]
                    refine wpAnyH_take (i := 14) (v := ?_) rfl (by kernel_rfl) (by kernel_rfl) (by kernel_rfl) (fun _ _ _ h => h) (Or.inl ⟨by rfl, ?_⟩) (by assumption) ?_
                    rotate_left
                    · (intro W hW; (try dsimp only at hW); go_simp; try with_reducible rfl)
                    try simp only [Act.put, List.setIfInBounds_toArray, List.set_cons_zero, List.set_cons_succ, List.getElem_toArray, List.getElem_cons_zero, List.getElem_cons_succ]
                    refine wpAnyH_take (i := 15) (v := ?_) rfl (by kernel_rfl) (by kernel_rfl) (by kernel_rfl) (fun _ _ _ h => h) (Or.inl ⟨by rfl, ?_⟩) (by assumption) ?_
                    rotate_left
                    · (intro W hW; (try dsimp only at hW); go_simp; try with_reducible rfl)
                    try simp only [Act.put, List.setIfInBounds_toArray, List.set_cons_zero, List.set_cons_succ, List.getElem_toArray, List.getElem_cons_zero, List.getElem_cons_succ]
                    refine wpAnyH_take (i := 16) (v := ?_) rfl (by kernel_rfl) (by kernel_rfl) (by kernel_rfl) (fun _ _ _ h => h) (Or.inl ⟨by rfl, ?_⟩) (by assumption) ?_
                    rotate_left
                    · (intro W hW; (try dsimp only at hW); go_simp; try with_reducible rfl)
                    try simp only [Act.put, List.setIfInBounds_toArray, List.set_cons_zero, List.set_cons_succ, List.getElem_toArray, List.getElem_cons_zero, List.getElem_cons_succ]
                    refine wpAnyH_done (by kernel_rfl) ?_ _
                    go_wp2_with fail
                    go_meet
                    exact ⟨rfl, hH0.2.2⟩
                  case rest =>
                    obtain ⟨rfl, Fq⟩ := hcut
                    go_wp2_with fail
                    go_roundw
                    case rel => exact ⟨j + 1, some b, by omega, by go_num, rfl, rfl, fst_ge HO.out HPZ.out (by rw [← HC.out]; have := HCL.out; omega), F.pure Fq⟩
                    case measure => simp [intOf]; omega
          | true =>
            cases Y with
            | false =>
              have HPZ : Hid (p j = true) := by rw [HPJ.out]; rfl
              cases o with
              | none =>
                simp only [fsI, Option.isSome_none]
                go_upto_region 11 with (fail)
                go_cut [42] (fun s42 wq => s42 = .bool true ∧ Fr none wr wq)
                case first =>
                  refine wp_region_held_drew (S := fun W => (∀ i, W.cell? ⟨w.heap.size, i, none⟩ = (#[.int .i64 th, .slice A1 n1 c1, .slice A2 n2 c2] : Array Value)[i]?) ∧ (∀ i, W.cell? ⟨w.heap.size + 1, i, none⟩ = (#[.int .i64 th', .slice A1' n1' c1', .slice A2' n2' c2'] : Array Value)[i]?) ∧ Fr none wr W) (by kernel_rfl) ⟨bx.cell, by_.cell, (Fr.refl _ _).drew⟩ (fun hH0 => ?_)
                  refine wpAnyH_take (i := 0) (v := ?_) rfl (by kernel_rfl) (by kernel_rfl) (by kernel_rfl) (fun _ _ _ h => h) (Or.inl ⟨by rfl, ?_⟩) (by assumption) ?_
                  rotate_left
                  · (intro W hW; (try dsimp only at hW); go_simp; try with_reducible rfl)
                  try simp only [Act.put, List.setIfInBounds_toArray, List.set_cons_zero, List.set_cons_succ, List.getElem_toArray, List.getElem_cons_zero, List.getElem_cons_succ]
                  refine wpAnyH_take (i := 1) (v := ?_) rfl (by kernel_rfl) (by kernel_rfl) (by kernel_rfl) (fun _ _ _ h => h) (Or.inl ⟨by rfl, ?_⟩) (by assumption) ?_
                  rotate_left
                  · (intro W hW; (try dsimp only at hW); go_simp; try with_reducible rfl)
                  try simp only [Act.put, List.setIfInBounds_toArray, List.set_cons_zero, List.set_cons_succ, List.getElem_toArray, List.getElem_cons_zero, List.getElem_cons_succ]
                  refine wpAnyH_take (i := 3) (v := ?_) rfl (by kernel_rfl) (by kernel_rfl) (by kernel_rfl) (fun _ _ _ h => h) (Or.inl ⟨by rfl, ?_⟩) (by assumption) ?_
                  rotate_left
                  · (intro W hW; (try dsimp only at hW); go_simp; try with_reducible rfl)
                  try simp only [Act.put, List.setIfInBounds_toArray, List.set_cons_zero, List.set_cons_succ, List.getElem_toArray, List.getElem_cons_zero, List.getElem_cons_succ]
                  refine wpAnyH_take (i := 4) (v := ?_) rfl (by kernel_rfl) (by kernel_rfl) (by kernel_rfl) (fun _ _ _ h => h) (Or.inl ⟨by rfl, ?_⟩) (by assumption) ?_
                  rotate_left
                  · (intro W hW; (try dsimp only at hW); go_simp; try with_reducible rfl)
                  try simp only [Act.put, List.setIfInBounds_toArray, List.set_cons_zero, List.set_cons_succ, List.getElem_toArray, List.getElem_cons_zero, List.getElem_cons_succ]
                  refine wpAnyH_ready (rs := [2]) (by kernel_rfl) (by simp) ?_
                  refine AllReadyH.cons rfl (fun K hK => ?_) AllReadyH.nil
                  simp only [List.getElem_toArray, List.getElem_cons_zero, List.getElem_cons_succ]
                  go_simp
                  go_at_call 46
                  refine (rsat_any t.dep t _ _ _ none (Nat.le_refl _) (hx.fr hH0.2.2)).mono ?_
                  rintro e w9 ⟨rfl, F9⟩
                  rw [← HX.out]
                  have F9' := hH0.2.2.pure F9
                  refine hK.out _ _ ⟨(bx.fr F9' (by simp)).cell, (by_.fr F9' (by simp)).cell, F9'⟩ (fun hH1 => ?_)
                  clear hK K hH0 F9'
                  have hH0 := hH1
                  clear hH1 F9
                  try simp only [Act.put, List.setIfInBounds_toArray, List.set_cons_zero, List.set_cons_succ, List.getElem_toArray, List.getElem_cons_zero, List.getElem_cons_succ]
                  refine wpAnyH_ready (rs := [5]) (by kernel_rfl) (by simp) ?_
                  refine AllReadyH.cons rfl (fun K hK => ?_) AllReadyH.nil
                  simp only [List.getElem_toArray, List.getElem_cons_zero, List.getElem_cons_succ]
                  go_simp
                  go_at_call 46
                  refine (rsat_any u.dep u _ _ _ none (Nat.le_refl _) (hy.fr hH0.2.2)).mono ?_
                  rintro e w9 ⟨rfl, F9⟩
                  rw [← HY.out]
                  have F9' := hH0.2.2.pure F9
                  refine hK.out _ _ ⟨(bx.fr F9' (by simp)).cell, (by_.fr F9' (by simp)).cell, F9'⟩ (fun hH1 => ?_)
                  clear hK K hH0 F9'
                  have hH0 := hH1
                  clear hH1 F9
                  try simp only [Act.put, List.setIfInBounds_toArray, List.set_cons_zero, List.set_cons_succ, List.getElem_toArray, List.getElem_cons_zero, List.getElem_cons_succ]
                  refine wpAnyH_take (i := 6) (v := ?_) rfl (by kernel_rfl) (by kernel_rfl) (by kernel_rfl) (fun _ _ _ h => h) (Or.inl ⟨by rfl, ?_⟩) (by assumption) ?_
                  rotate_left
                  · (intro W hW; (try dsimp only at hW); go_simp; try with_reducible rfl)
                  try simp only [Act.put, List.setIfInBounds_toArray, List.set_cons_zero, List.set_cons_succ, List.getElem_toArray, List.getElem_cons_zero, List.getElem_cons_succ]
                  refine wpAnyH_take (i := 7) (v := ?_) rfl (by kernel_rfl) (by kernel_rfl) (by kernel_rfl) (fun _ _ _ h => h) (Or.inl ⟨by rfl, ?_⟩) (by assumption) ?_
                  rotate_left
                  · (intro W hW; (try dsimp only at hW); go_simp; try with_reducible rfl)
                  try simp only [Act.put, List.setIfInBounds_toArray, List.set_cons_zero, List.set_cons_succ, List.getElem_toArray, List.getElem_cons_zero, List.getElem_cons_succ]
                  refine wpAnyH_take (i := 8) (v := ?_) rfl (by kernel_rfl) (by kernel_rfl) (by kernel_rfl) (fun _ _ _ h => h) (Or.inl ⟨by rfl, ?_⟩) (by assumption) ?_
                  rotate_left
                  · (intro W hW; (try dsimp only at hW); go_simp; try with_reducible rfl)
                  try simp only [Act.put, List.setIfInBounds_toArray, List.set_cons_zero, List.set_cons_succ, List.getElem_toArray, List.getElem_cons_zero, List.getElem_cons_succ]
                  refine wpAnyH_take (i := 9) (v := ?_) rfl (by kernel_rfl) (by kernel_rfl) (by kernel_rfl) (fun _ _ _ h => h) (Or.inl ⟨by rfl, ?_⟩) (by assumption) ?_
                  rotate_left
                  · (intro W hW; (try dsimp only at hW); go_simp; try with_reducible rfl)
                  try simp only [Act.put, List.setIfInBounds_toArray, List.set_cons_zero, List.set_cons_succ, List.getElem_toArray, List.getElem_cons_zero, List.getElem_cons_succ]
                  refine wpAnyH_take (i := 10) (v := ?_) rfl (by kernel_rfl) (by kernel_rfl) (by kernel_rfl) (fun _ _ _ h => h) (Or.inl ⟨by rfl, ?_⟩) (by assumption) ?_
                  rotate_left
                  · (intro W hW; (try dsimp only at hW); go_simp; try with_reducible rfl)
                  try simp only [Act.put, List.setIfInBounds_toArray, List.set_cons_zero, List.set_cons_succ, List.getElem_toArray, List.getElem_cons_zero, List.getElem_cons_succ]
                  refine wpAnyH_take (i := 11) (v := undef) rfl (by kernel_rfl) (by kernel_rfl) (by kernel_rfl) (fun _ _ _ h => h) (Or.inr ⟨by rfl, rfl⟩) (by assumption) ?_
                  try simp only [Act.put, List.setIfInBounds_toArray, List.set_cons_zero, List.set_cons_succ, List.getElem_toArray, List.getElem_cons_zero, List.getElem_cons_succ]
                  refine wpAnyH_take (i := 12) (v := undef) rfl (by kernel_rfl) (by kernel_rfl) (by kernel_rfl) (fun _ _ _ h => h) (Or.inr ⟨by rfl, rfl⟩) (by assumption) ?_
                  try simp only [Act.put, List.setIfInBounds_toArray, List.set_cons_zero, List.set_cons_succ, List.getElem_toArray, List.getElem_cons_zero, List.getElem_cons_succ]
                  refine wpAnyH_take (i := 13) (v := undef) rfl (by kernel_rfl) (by kernel_rfl) (by kernel_rfl) (fun _ _ _ h => h) (Or.inr ⟨by rfl, rfl⟩) (by assumption) ?_
                  try simp only [Act.put, List.setIfInBounds_toArray, List.set_cons_zero, List.set_cons_succ, List.getElem_toArray, List.getElem_cons_zero, List.getElem_cons_succ]
                  refine wpAnyH_take (i := 14) (v := undef) rfl (by kernel_rfl) (by kernel_rfl) (by kernel_rfl) (fun _ _ _ h => h) (Or.inr ⟨by rfl, rfl⟩) (by assumption) ?_
                  try simp only [Act.put, List.setIfInBounds_toArray, List.set_cons_zero, List.set_cons_succ, List.getElem_toArray, List.getElem_cons_zero, List.getElem_cons_succ]
                  refine wpAnyH_take (i := 15) (v := ?_) rfl (by kernel_rfl) (by kernel_rfl) (by kernel_rfl) (fun _ _ _ h => h) (Or.inl ⟨by rfl, ?_⟩) (by assumption) ?_
                  rotate_left
                  · (intro W hW; (try dsimp only at hW); go_simp; try with_reducible rfl)
                  try simp only [Act.put, List.setIfInBounds_toArray, List.set_cons_zero, List.set_cons_succ, List.getElem_toArray, List.getElem_cons_zero, List.getElem_cons_succ]
                  refine wpAnyH_take (i := 16) (v := ?_) rfl (by kernel_rfl) (by kernel_rfl) (by kernel_rfl) (fun _ _ _ h => h) (Or.inl ⟨by rfl, ?_⟩) (by assumption) ?_
                  rotate_left
                  · (intro W hW; (try dsimp only at hW); go_simp; try with_reducible rfl)
                  try simp only [Act.put, List.setIfInBounds_toArray, List.set_cons_zero, List.set_cons_succ, List.getElem_toArray, List.getElem_cons_zero, List.getElem_cons_succ]
                  refine wpAnyH_done (by kernel_rfl) ?_ _
                  go_wp2_with fail
                  go_meet
                  exact ⟨rfl, hH0.2.2⟩
                case rest =>
                  obtain ⟨rfl, Fq⟩ := hcut
                  go_wp2_with fail
                  go_roundw
                  case rel => exact ⟨j + 1, some j, by omega, by go_num, rfl, rfl, fst_new HO.out HPZ.out, F.pure Fq⟩
                  case measure => simp [intOf]; omega
              | some b =>
                have hb := (fstC_some p j b HO.out).1
                simp only [fsI, Option.isSome_some]
                obtain ⟨c, hc⟩ : ∃ c, c = cmpS (j : Int) (b : Int) := ⟨_, rfl⟩
                have HC := Lib.hid hc
                clear hc
                by_cases hcl : c < 0
                · have hcd : decide (c < 0) = true := decide_eq_true hcl
                  have HCL := Lib.hid hcl
                  clear hcl
                  go_upto_region 11 with (fail)
                  go_cut [42] (fun s42 wq => s42 = .bool true ∧ Fr none wr wq)
                  case first =>
                    refine wp_region_held_drew (S := fun W => (∀ i, W.cell? ⟨w.heap.size, i, none⟩ = (#[.int .i64 th, .slice A1 n1 c1, .slice A2 n2 c2] : Array Value)[i]?) ∧ (∀ i, W.cell? ⟨w.heap.size + 1, i, none⟩ = (#[.int .i64 th', .slice A1' n1' c1', .slice A2' n2' c2'] : Array Value)[i]?) ∧ Fr none wr W) (by kernel_rfl) ⟨bx.cell, by_.cell, (Fr.refl _ _).drew⟩ (fun hH0 => ?_)
                    refine wpAnyH_take (i := 0) (v := ?_) rfl (by kernel_rfl) (by kernel_rfl) (by kernel_rfl) (fun _ _ _ h => h) (Or.inl ⟨by rfl, ?_⟩) (by assumption) ?_
                    rotate_left
                    · (intro W hW; (try dsimp only at hW); go_simp; try with_reducible rfl)
                    try simp only [Act.put, List.setIfInBounds_toArray, List.set_cons_zero, List.set_cons_succ, List.getElem_toArray, List.getElem_cons_zero, List.getElem_cons_succ]
                    refine wpAnyH_take (i := 1) (v := ?_) rfl (by kernel_rfl) (by kernel_rfl) (by kernel_rfl) (fun _ _ _ h => h) (Or.inl ⟨by rfl, ?_⟩) (by assumption) ?_
                    rotate_left
                    · (intro W hW; (try dsimp only at hW); go_simp; try with_reducible rfl)
                    try simp only [Act.put, List.setIfInBounds_toArray, List.set_cons_zero, List.set_cons_succ, List.getElem_toArray, List.getElem_cons_zero, List.getElem_cons_succ]
                    refine wpAnyH_take (i := 3) (v := ?_) rfl (by kernel_rfl) (by kernel_rfl) (by kernel_rfl) (fun _ _ _ h => h) (Or.inl ⟨by rfl, ?_⟩) (by assumption) ?_
                    rotate_left
                    · (intro W hW; (try dsimp only at hW); go_simp; try with_reducible rfl)
                    try simp only [Act.put, List.setIfInBounds_toArray, List.set_cons_zero, List.set_cons_succ, List.getElem_toArray, List.getElem_cons_zero, List.getElem_cons_succ]
                    refine wpAnyH_take (i := 4) (v := ?_) rfl (by kernel_rfl) (by kernel_rfl) (by kernel_rfl) (fun _ _ _ h => h) (Or.inl ⟨by rfl, ?_⟩) (by assumption) ?_
                    rotate_left
                    · (intro W hW; (try dsimp only at hW); go_simp; try with_reducible rfl)
                    try simp only [Act.put, List.setIfInBounds_toArray, List.set_cons_zero, List.set_cons_succ, List.getElem_toArray, List.getElem_cons_zero, List.getElem_cons_succ]
                    refine wpAnyH_ready (rs := [2]) (by kernel_rfl) (by simp) ?_
                    refine AllReadyH.cons rfl (fun K hK => ?_) AllReadyH.nil
                    simp only [List.getElem_toArray, List.getElem_cons_zero, List.getElem_cons_succ]
                    go_simp
                    go_at_call 46
                    refine (rsat_any t.dep t _ _ _ none (Nat.le_refl _) (hx.fr hH0.2.2)).mono ?_
                    rintro e w9 ⟨rfl, F9⟩
                    rw [← HX.out]
                    have F9' := hH0.2.2.pure F9
                    refine hK.out _ _ ⟨(bx.fr F9' (by simp)).cell, (by_.fr F9' (by simp)).cell, F9'⟩ (fun hH1 => ?_)
                    clear hK K hH0 F9'
                    have hH0 := hH1
                    clear hH1 F9
                    try simp only [Act.put, List.setIfInBounds_toArray, List.set_cons_zero, List.set_cons_succ, List.getElem_toArray, List.getElem_cons_zero, List.getElem_cons_succ]
                    refine wpAnyH_ready (rs := [5]) (by kernel_rfl) (by simp) ?_
                    refine AllReadyH.cons rfl (fun K hK => ?_) AllReadyH.nil
                    simp only [List.getElem_toArray, List.getElem_cons_zero, List.getElem_cons_succ]
                    go_simp
                    go_at_call 46
                    refine (rsat_any u.dep u _ _ _ none (Nat.le_refl _) (hy.fr hH0.2.2)).mono ?_
                    rintro e w9 ⟨rfl, F9⟩
                    rw [← HY.out]
                    have F9' := hH0.2.2.pure F9
                    refine hK.out _ _ ⟨(bx.fr F9' (by simp)).cell, (by_.fr F9' (by simp)).cell, F9'⟩ (fun hH1 => ?_)
                    clear hK K hH0 F9'
                    have hH0 := hH1
                    clear hH1 F9
                    try simp only [Act.put, List.setIfInBounds_toArray, List.set_cons_zero, List.set_cons_succ, List.getElem_toArray, List.getElem_cons_zero, List.getElem_cons_succ]
                    refine wpAnyH_take (i := 6) (v := ?_) rfl (by kernel_rfl) (by kernel_rfl) (by kernel_rfl) (fun _ _ _ h => h) (Or.inl ⟨by rfl, ?_⟩) (by assumption) ?_
                    rotate_left
                    · (intro W hW; (try dsimp only at hW); go_simp; try with_reducible rfl)
                    try simp only [Act.put, List.setIfInBounds_toArray, List.set_cons_zero, List.set_cons_succ, List.getElem_toArray, List.getElem_cons_zero, List.getElem_cons_succ]
                    refine wpAnyH_take (i := 7) (v := ?_) rfl (by kernel_rfl) (by kernel_rfl) (by kernel_rfl) (fun _ _ _ h => h) (Or.inl ⟨by rfl, ?_⟩) (by assumption) ?_
                    rotate_left
                    · (intro W hW; (try dsimp only at hW); go_simp; try with_reducible rfl)
                    try simp only [Act.put, List.setIfInBounds_toArray, List.set_cons_zero, List.set_cons_succ, List.getElem_toArray, List.getElem_cons_zero, List.getElem_cons_succ]
                    refine wpAnyH_take (i := 8) (v := ?_) rfl (by kernel_rfl) (by kernel_rfl) (by kernel_rfl) (fun _ _ _ h => h) (Or.inl ⟨by rfl, ?_⟩) (by assumption) ?_
                    rotate_left
                    · (intro W hW; (try dsimp only at hW); go_simp; try with_reducible rfl)
                    try simp only [Act.put, List.setIfInBounds_toArray, List.set_cons_zero, List.set_cons_succ, List.getElem_toArray, List.getElem_cons_zero, List.getElem_cons_succ]
                    refine wpAnyH_take (i := 9) (v := ?_) rfl (by kernel_rfl) (by kernel_rfl) (by kernel_rfl) (fun _ _ _ h => h) (Or.inl ⟨by rfl, ?_⟩) (by assumption) ?_
                    rotate_left
                    · (intro W hW; (try dsimp only at hW); go_simp; try with_reducible rfl)
                    try simp only [Act.put, List.setIfInBounds_toArray, List.set_cons_zero, List.set_cons_succ, List.getElem_toArray, List.getElem_cons_zero, List.getElem_cons_succ]
                    refine wpAnyH_take (i := 10) (v := ?_) rfl (by kernel_rfl) (by kernel_rfl) (by kernel_rfl) (fun _ _ _ h => h) (Or.inl ⟨by rfl, ?_⟩) (by assumption) ?_
                    rotate_left
                    · (intro W hW; (try dsimp only at hW); go_simp; try with_reducible rfl)
                    try simp only [Act.put, List.setIfInBounds_toArray, List.set_cons_zero, List.set_cons_succ, List.getElem_toArray, List.getElem_cons_zero, List.getElem_cons_succ]
                    refine wpAnyH_take (i := 11) (v := ?_) rfl (by kernel_rfl) (by kernel_rfl) (by kernel_rfl) (fun _ _ _ h => h) (Or.inl ⟨by rfl, ?_⟩) (by assumption) ?_
                    rotate_left
                    · (intro W hW; (try dsimp only at hW); go_simp; try with_reducible rfl)
                    try simp only [Act.put, List.setIfInBounds_toArray, List.set_cons_zero, List.set_cons_succ, List.getElem_toArray, List.getElem_cons_zero, List.getElem_cons_succ]
                    refine wpAnyH_take (i := 12) (v := ?_) rfl (by kernel_rfl) (by kernel_rfl) (by kernel_rfl) (fun _ _ _ h => h) (Or.inl ⟨by rfl, ?_⟩) (by assumption) ?_
                    rotate_left
                    · (intro W hW; (try dsimp only at hW); go_simp; try with_reducible rfl)
                    try simp only [Act.put, List.setIfInBounds_toArray, List.set_cons_zero, List.set_cons_succ, List.getElem_toArray, List.getElem_cons_zero, List.getElem_cons_succ]
                    refine wpAnyH_ready (rs := [13]) (by kernel_rfl) (by simp) ?_
                    refine AllReadyH.cons rfl (fun K hK => ?_) AllReadyH.nil
                    simp only [List.getElem_toArray, List.getElem_cons_zero, List.getElem_cons_succ]
                    go_simp
                    go_at_call 44
                    refine (rcompare_v (j : Int) (b : Int) (nat_validB (by omega)) (nat_validB (by omega)) _).mono ?_
                    rintro e w9 ⟨rfl, rfl⟩
                    rw [← HC.out]
                    refine hK.out _ _ hH0 (fun hH1 => ?_)
                    clear hK K hH0
                    have hH0 := hH1
                    clear hH1
                    try simp only [Act.put, List.setIfInBounds_toArray, List.set_cons_zero, List.set_cons_succ, List.getElem_toArray, List.getElem_cons_zero, List.getElem_cons_succ]
                    refine wpAnyH_take (i := 14) (v := ?_) rfl (by kernel_rfl) (by kernel_rfl) (by kernel_rfl) (fun _ _ _ h => h) (Or.inl ⟨by rfl, ?_⟩) (by assumption) ?_
                    rotate_left
                    · (intro W hW; (try dsimp only at hW); go_simp; try with_reducible rfl)
                    try simp only [Act.put, List.setIfInBounds_toArray, List.set_cons_zero, List.set_cons_succ, List.getElem_toArray, List.getElem_cons_zero, List.getElem_cons_succ]
                    refine wpAnyH_take (i := 15) (v := ?_) rfl (by kernel_rfl) (by kernel_rfl) (by kernel_rfl) (fun _ _ _ h => h) (Or.inl ⟨by rfl, ?_⟩) (by assumption) ?_
                    rotate_left
                    · (intro W hW; (try dsimp only at hW); go_simp; try with_reducible rfl)
                    try simp only [Act.put, List.setIfInBounds_toArray, List.set_cons_zero, List.set_cons_succ, List.getElem_toArray, List.getElem_cons_zero, List.getElem_cons_succ]
                    refine wpAnyH_take (i := 16) (v := ?_) rfl (by kernel_rfl) (by kernel_rfl) (by kernel_rfl) (fun _ _ _ h => h) (Or.inl ⟨by rfl, ?_⟩) (by assumption) ?_
                    rotate_left
                    · (intro W hW; (try dsimp only at hW); go_simp; try with_reducible rfl)
                    try simp only [Act.put, List.setIfInBounds_toArray, List.set_cons_zero, List.set_cons_succ, List.getElem_toArray, List.getElem_cons_zero, List.getElem_cons_succ]
                    refine wpAnyH_done (by kernel_rfl) ?_ _
                    go_wp2_with fail
                    go_meet
                    exact ⟨rfl, hH0.2.2⟩
                  case rest =>
                    obtain ⟨rfl, Fq⟩ := hcut
                    go_wp2_with fail
                    go_roundw
                    case rel => exact ⟨j + 1, some j, by omega, by go_num, rfl, rfl, fst_lt HO.out HPZ.out (by rw [← HC.out]; have := HCL.out; omega), F.pure Fq⟩
                    case measure => simp [intOf]; omega
                · have hcd : decide (c < 0) = false := decide_eq_false hcl
                  have HCL := Lib.hid hcl
                  clear hcl
                  go_upto_region 11 with (fail)
                  go_cut [42] (fun s42 wq => s42 = .bool false ∧ Fr none wr wq)
                  case first =>
                    refine wp_region_held_drew (S := fun W => (∀ i, W.cell? ⟨w.heap.size, i, none⟩ = (#[.int .i64 th, .slice A1 n1 c1, .slice A2 n2 c2] : Array Value)[i]?) ∧ (∀ i, W.cell? ⟨w.heap.size + 1, i, none⟩ = (#[.int .i64 th', .slice A1' n1' c1', .slice A2' n2' c2'] : Array Value)[i]?) ∧ Fr none wr W) (by kernel_rfl) ⟨bx.cell, by_.cell, (Fr.refl _ _).drew⟩ (fun hH0 => ?_)
                    refine wpAnyH_take (i := 0) (v := ?_) rfl (by kernel_rfl) (by kernel_rfl) (by kernel_rfl) (fun _ _ _ h => h) (Or.inl ⟨by rfl, ?_⟩) (by assumption) ?_
                    rotate_left
                    · (intro W hW; (try dsimp only at hW); go_simp; try with_reducible rfl)
                    try simp only [Act.put, List.setIfInBounds_toArray, List.set_cons_zero, List.set_cons_succ, List.getElem_toArray, List.getElem_cons_zero, List.getElem_cons_succ]
                    refine wpAnyH_take (i := 1) (v := ?_) rfl (by kernel_rfl) (by kernel_rfl) (by kernel_rfl) (fun _ _ _ h => h) (Or.inl ⟨by rfl, ?_⟩) (by assumption) ?_
                    rotate_left
                    · (intro W hW; (try dsimp only at hW); go_simp; try with_reducible rfl)
                    try simp only [Act.put, List.setIfInBounds_toArray, List.set_cons_zero, List.set_cons_succ, List.getElem_toArray, List.getElem_cons_zero, List.getElem_cons_succ]
                    refine wpAnyH_take (i := 3) (v := ?_) rfl (by kernel_rfl) (by kernel_rfl) (by kernel_rfl) (fun _ _ _ h => h) (Or.inl ⟨by rfl, ?_⟩) (by assumption) ?_
                    rotate_left
                    · (intro W hW; (try dsimp only at hW); go_simp; try with_reducible rfl)
                    try simp only [Act.put, List.setIfInBounds_toArray, List.set_cons_zero, List.set_cons_succ, List.getElem_toArray, List.getElem_cons_zero, List.getElem_cons_succ]
                    refine wpAnyH_take (i := 4) (v := ?_) rfl (by kernel_rfl) (by kernel_rfl) (by kernel_rfl) (fun _ _ _ h => h) (Or.inl ⟨by rfl, ?_⟩) (by assumption) ?_
                    rotate_left
                    · (intro W hW; (try dsimp only at hW); go_simp; try with_reducible rfl)
                    try simp only [Act.put, List.setIfInBounds_toArray, List.set_cons_zero, List.set_cons_succ, List.getElem_toArray, List.getElem_cons_zero, List.getElem_cons_succ]
                    refine wpAnyH_ready (rs := [2]) (by kernel_rfl) (by simp) ?_
                    refine AllReadyH.cons rfl (fun K hK => ?_) AllReadyH.nil
                    simp only [List.getElem_toArray, List.getElem_cons_zero, List.getElem_cons_succ]
                    go_simp
                    go_at_call 46
                    refine (rsat_any t.dep t _ _ _ none (Nat.le_refl _) (hx.fr hH0.2.2)).mono ?_
                    rintro e w9 ⟨rfl, F9⟩
                    rw [← HX.out]
                    have F9' := hH0.2.2.pure F9
                    refine hK.out _ _ ⟨(bx.fr F9' (by simp)).cell, (by_.fr F9' (by simp)).cell, F9'⟩ (fun hH1 => ?_)
                    clear hK K hH0 F9'
                    have hH0 := hH1
                    clear hH1 F9
                    try simp only [Act.put, List.setIfInBounds_toArray, List.set_cons_zero, List.set_cons_succ, List.getElem_toArray, List.getElem_cons_zero, List.getElem_cons_succ]
                    refine wpAnyH_ready (rs := [5]) (by kernel_rfl) (by simp) ?_
                    refine AllReadyH.cons rfl (fun K hK => ?_) AllReadyH.nil
                    simp only [List.getElem_toArray, List.getElem_cons_zero, List.getElem_cons_succ]
                    go_simp
                    go_at_call 46
                    refine (rsat_any u.dep u _ _ _ none (Nat.le_refl _) (hy.fr hH0.2.2)).mono ?_
                    rintro e w9 ⟨rfl, F9⟩
                    rw [← HY.out]
                    have F9' := hH0.2.2.pure F9
                    refine hK.out _ _ ⟨(bx.fr F9' (by simp)).cell, (by_.fr F9' (by simp)).cell, F9'⟩ (fun hH1 => ?_)
                    clear hK K hH0 F9'
                    have hH0 := hH1
                    clear hH1 F9
                    try simp only [Act.put, List.setIfInBounds_toArray, List.set_cons_zero, List.set_cons_succ, List.getElem_toArray, List.getElem_cons_zero, List.getElem_cons_succ]
                    refine wpAnyH_take (i := 6) (v := ?_) rfl (by kernel_rfl) (by kernel_rfl) (by kernel_rfl) (fun _ _ _ h => h) (Or.inl ⟨by rfl, ?_⟩) (by assumption) ?_
                    rotate_left
                    · (intro W hW; (try dsimp only at hW); go_simp; try with_reducible rfl)
                    try simp only [Act.put, List.setIfInBounds_toArray, List.set_cons_zero, List.set_cons_succ, List.getElem_toArray, List.getElem_cons_zero, List.getElem_cons_succ]
                    refine wpAnyH_take (i := 7) (v := ?_) rfl (by kernel_rfl) (by kernel_rfl) (by kernel_rfl) (fun _ _ _ h => h) (Or.inl ⟨by rfl, ?_⟩) (by assumption) ?_
                    rotate_left
                    · (intro W hW; (try dsimp only at hW); go_simp; try with_reducible rfl)
                    try simp only [Act.put, List.setIfInBounds_toArray, List.set_cons_zero, List.set_cons_succ, List.getElem_toArray, List.getElem_cons_zero, List.getElem_cons_succ]
                    refine wpAnyH_take (i := 8) (v := ?_) rfl (by kernel_rfl) (by kernel_rfl) (by kernel_rfl) (fun _ _ _ h => h) (Or.inl ⟨by rfl, ?_⟩) (by assumption) ?_
                    rotate_left
                    · (intro W hW; (try dsimp only at hW); go_simp; try with_reducible rfl)
                    try simp only [Act.put, List.setIfInBounds_toArray, List.set_cons_zero, List.set_cons_succ, List.getElem_toArray, List.getElem_cons_zero, List.getElem_cons_succ]
                    refine wpAnyH_take (i := 9) (v := ?_) rfl (by kernel_rfl) (by kernel_rfl) (by kernel_rfl) (fun _ _ _ h => h) (Or.inl ⟨by rfl, ?_⟩) (by assumption) ?_
                    rotate_left
                    · (intro W hW; (try dsimp only at hW); go_simp; try with_reducible rfl)
                    try simp only [Act.put, List.setIfInBounds_toArray, List.set_cons_zero, List.set_cons_succ, List.getElem_toArray, List.getElem_cons_zero, List.getElem_cons_succ]
                    refine wpAnyH_take (i := 10) (v := ?_) rfl (by kernel_rfl) (by kernel_rfl) (by kernel_rfl) (fun _ _ _ h => h) (Or.inl ⟨by rfl, ?_⟩) (by assumption) ?_
                    rotate_left
                    · (intro W hW; (try dsimp only at hW); go_simp; try with_reducible rfl)
                    try simp only [Act.put, List.setIfInBounds_toArray, List.set_cons_zero, List.set_cons_succ, List.getElem_toArray, List.getElem_cons_zero, List.getElem_cons_succ]
                    refine wpAnyH_take (i := 11) (v := ?_) rfl (by kernel_rfl) (by kernel_rfl) (by kernel_rfl) (fun _ _ _ h => h) (Or.inl ⟨by rfl, ?_⟩) (by assumption) ?_
                    rotate_left
                    · (intro W hW; (try dsimp only at hW); go_simp; try with_reducible rfl)
                    try simp only [Act.put, List.setIfInBounds_toArray, List.set_cons_zero, List.set_cons_succ, List.getElem_toArray, List.getElem_cons_zero, List.getElem_cons_succ]
                    refine wpAnyH_take (i := 12) (v := ?_) rfl (by kernel_rfl) (by kernel_rfl) (by kernel_rfl) (fun _ _ _ h => h) (Or.inl ⟨by rfl, ?_⟩) (by assumption) ?_
                    rotate_left
                    · (intro W hW; (try dsimp only at hW); go_simp; try with_reducible rfl)
                    try simp only [Act.put, List.setIfInBounds_toArray, List.set_cons_zero, List.set_cons_succ, List.getElem_toArray, List.getElem_cons_zero, List.getElem_cons_succ]
                    refine wpAnyH_ready (rs := [13]) (by kernel_rfl) (by simp) ?_
                    refine AllReadyH.cons rfl (fun K hK => ?_) AllReadyH.nil
                    simp only [List.getElem_toArray, List.getElem_cons_zero, List.getElem_cons_succ]
                    go_simp
                    go_at_call 44
                    refine (rcompare_v (j : Int) (b : Int) (nat_validB (by omega)) (nat_validB (by omega)) _).mono ?_
                    rintro e w9 ⟨rfl, rfl⟩
                    rw [← HC.out]
                    refine hK.out _ _ hH0 (fun hH1 => ?_)
                    clear hK K hH0
                    have hH0 := hH1
                    clear hH1
                    try simp only [Act.put, List.setIfInBounds_toArray, List.set_cons_zero, List.set_cons_succ, List.getElem_toArray, List.getElem_cons_zero, List.getElem_cons_succ]
                    refine wpAnyH_take (i := 14) (v := ?_) rfl (by kernel_rfl) (by kernel_rfl) (by kernel_rfl) (fun _ _ _ h => h) (Or.inl ⟨by rfl, ?_⟩) (by assumption) ?_
                    rotate_left
                    · (intro W hW; (try dsimp only at hW); go_simp; try with_reducible rfl)
                    try simp only [Act.put, List.setIfInBounds_toArray, List.set_cons_zero, List.set_cons_succ, List.getElem_toArray, List.getElem_cons_zero, List.getElem_cons_succ]
                    refine wpAnyH_take (i := 15) (v := ?_) rfl (by kernel_rfl) (by kernel_rfl) (by kernel_rfl) (fun _ _ _ h => h) (Or.inl ⟨by rfl, ?_⟩) (by assumption) ?_
                    rotate_left
                    · (intro W hW; (try dsimp only at hW); go_simp; try with_reducible rfl)
                    try simp only [Act.put, List.setIfInBounds_toArray, List.set_cons_zero, List.set_cons_succ, List.getElem_toArray, List.getElem_cons_zero, List.getElem_cons_succ]
                    refine wpAnyH_take (i := 16) (v := ?_) rfl (by kernel_rfl) (by kernel_rfl) (by kernel_rfl) (fun _ _ _ h => h) (Or.inl ⟨by rfl, ?_⟩) (by assumption) ?_
                    rotate_left
                    · (intro W hW; (try dsimp only at hW); go_simp; try with_reducible rfl)
                    try simp only [Act.put, List.setIfInBounds_toArray, List.set_cons_zero, List.set_cons_succ, List.getElem_toArray, List.getElem_cons_zero, List.getElem_cons_succ]
                    refine wpAnyH_done (by kernel_rfl) ?_ _
                    go_wp2_with fail
                    go_meet
                    exact ⟨rfl, hH0.2.2⟩
                  case rest =>
                    obtain ⟨rfl, Fq⟩ := hcut
                    go_wp2_with fail
                    go_roundw
                    case rel => exact ⟨j + 1, some b, by omega, by go_num, rfl, rfl, fst_ge HO.out HPZ.out (by rw [← HC.out]; have := HCL.out; omega), F.pure Fq⟩
                    case measure => simp [intOf]; omega
            | true =>
              have HPZ : Hid (p j = false) := by rw [HPJ.out]; rfl
              go_upto_region 11 with (fail)
              go_cut [42] (fun s42 wq => s42 = .bool false ∧ Fr none wr wq)
              case first =>
                refine wp_region_held_drew (S := fun W => (∀ i, W.cell? ⟨w.heap.size, i, none⟩ = (#[.int .i64 th, .slice A1 n1 c1, .slice A2 n2 c2] : Array Value)[i]?) ∧ (∀ i, W.cell? ⟨w.heap.size + 1, i, none⟩ = (#[.int .i64 th', .slice A1' n1' c1', .slice A2' n2' c2'] : Array Value)[i]?) ∧ Fr none wr W) (by kernel_rfl) ⟨bx.cell, by_.cell, (Fr.refl _ _).drew⟩ (fun hH0 => ?_)
                refine wpAnyH_take (i := 0) (v := ?_) rfl (by kernel_rfl) (by kernel_rfl) (by kernel_rfl) (fun _ _ _ h => h) (Or.inl ⟨by rfl, ?_⟩) (by assumption) ?_
                rotate_left
                · (intro W hW; (try dsimp only at hW); go_simp; try with_reducible rfl)
                try simp only [Act.put, List.setIfInBounds_toArray, List.set_cons_zero, List.set_cons_succ, List.getElem_toArray, List.getElem_cons_zero, List.getElem_cons_succ]
                refine wpAnyH_take (i := 1) (v := ?_) rfl (by kernel_rfl) (by kernel_rfl) (by kernel_rfl) (fun _ _ _ h => h) (Or.inl ⟨by rfl, ?_⟩) (by assumption) ?_
                rotate_left
                · (intro W hW; (try dsimp only at hW); go_simp; try with_reducible rfl)
                try simp only [Act.put, List.setIfInBounds_toArray, List.set_cons_zero, List.set_cons_succ, List.getElem_toArray, List.getElem_cons_zero, List.getElem_cons_succ]
                refine wpAnyH_take (i := 3) (v := ?_) rfl (by kernel_rfl) (by kernel_rfl) (by kernel_rfl) (fun _ _ _ h => h) (Or.inl ⟨by rfl, ?_⟩) (by assumption) ?_
                rotate_left
                · (intro W hW; (try dsimp only at hW); go_simp; try with_reducible rfl)
                try simp only [Act.put, List.setIfInBounds_toArray, List.set_cons_zero, List.set_cons_succ, List.getElem_toArray, List.getElem_cons_zero, List.getElem_cons_succ]
                refine wpAnyH_take (i := 4) (v := ?_) rfl (by kernel_rfl) (by kernel_rfl) (by kernel_rfl) (fun _ _ _ h => h) (Or.inl ⟨by rfl, ?_⟩) (by assumption) ?_
                rotate_left
                · (intro W hW; (try dsimp only at hW); go_simp; try with_reducible rfl)
                try simp only [Act.put, List.setIfInBounds_toArray, List.set_cons_zero, List.set_cons_succ, List.getElem_toArray, List.getElem_cons_zero, List.getElem_cons_succ]
                refine wpAnyH_ready (rs := [2]) (by kernel_rfl) (by simp) ?_
                refine AllReadyH.cons rfl (fun K hK => ?_) AllReadyH.nil
                simp only [List.getElem_toArray, List.getElem_cons_zero, List.getElem_cons_succ]
                go_simp
                go_at_call 46
                refine (rsat_any t.dep t _ _ _ none (Nat.le_refl _) (hx.fr hH0.2.2)).mono ?_
                rintro e w9 ⟨rfl, F9⟩
                rw [← HX.out]
                have F9' := hH0.2.2.pure F9
                refine hK.out _ _ ⟨(bx.fr F9' (by simp)).cell, (by_.fr F9' (by simp)).cell, F9'⟩ (fun hH1 => ?_)
                clear hK K hH0 F9'
                have hH0 := hH1
                clear hH1 F9
                try simp only [Act.put, List.setIfInBounds_toArray, List.set_cons_zero, List.set_cons_succ, List.getElem_toArray, List.getElem_cons_zero, List.getElem_cons_succ]
                refine wpAnyH_ready (rs := [5]) (by kernel_rfl) (by simp) ?_
                refine AllReadyH.cons rfl (fun K hK => ?_) AllReadyH.nil
                simp only [List.getElem_toArray, List.getElem_cons_zero, List.getElem_cons_succ]
                go_simp
                go_at_call 46
                refine (rsat_any u.dep u _ _ _ none (Nat.le_refl _) (hy.fr hH0.2.2)).mono ?_
                rintro e w9 ⟨rfl, F9⟩
                rw [← HY.out]
                have F9' := hH0.2.2.pure F9
                refine hK.out _ _ ⟨(bx.fr F9' (by simp)).cell, (by_.fr F9' (by simp)).cell, F9'⟩ (fun hH1 => ?_)
                clear hK K hH0 F9'
                have hH0 := hH1
                clear hH1 F9
                try simp only [Act.put, List.setIfInBounds_toArray, List.set_cons_zero, List.set_cons_succ, List.getElem_toArray, List.getElem_cons_zero, List.getElem_cons_succ]
                refine wpAnyH_take (i := 6) (v := ?_) rfl (by kernel_rfl) (by kernel_rfl) (by kernel_rfl) (fun _ _ _ h => h) (Or.inl ⟨by rfl, ?_⟩) (by assumption) ?_
                rotate_left
                · (intro W hW; (try dsimp only at hW); go_simp; try with_reducible rfl)
                try simp only [Act.put, List.setIfInBounds_toArray, List.set_cons_zero, List.set_cons_succ, List.getElem_toArray, List.getElem_cons_zero, List.getElem_cons_succ]
                refine wpAnyH_take (i := 7) (v := ?_) rfl (by kernel_rfl) (by kernel_rfl) (by kernel_rfl) (fun _ _ _ h => h) (Or.inl ⟨by rfl, ?_⟩) (by assumption) ?_
                rotate_left
                · (intro W hW; (try dsimp only at hW); go_simp; try with_reducible rfl)
                try simp only [Act.put, List.setIfInBounds_toArray, List.set_cons_zero, List.set_cons_succ, List.getElem_toArray, List.getElem_cons_zero, List.getElem_cons_succ]
                refine wpAnyH_take (i := 8) (v := undef) rfl (by kernel_rfl) (by kernel_rfl) (by kernel_rfl) (fun _ _ _ h => h) (Or.inr ⟨by rfl, rfl⟩) (by assumption) ?_
                try simp only [Act.put, List.setIfInBounds_toArray, List.set_cons_zero, List.set_cons_succ, List.getElem_toArray, List.getElem_cons_zero, List.getElem_cons_succ]
                refine wpAnyH_take (i := 9) (v := undef) rfl (by kernel_rfl) (by kernel_rfl) (by kernel_rfl) (fun _ _ _ h => h) (Or.inr ⟨by rfl, rfl⟩) (by assumption) ?_
                try simp only [Act.put, List.setIfInBounds_toArray, List.set_cons_zero, List.set_cons_succ, List.getElem_toArray, List.getElem_cons_zero, List.getElem_cons_succ]
                refine wpAnyH_take (i := 10) (v := undef) rfl (by kernel_rfl) (by kernel_rfl) (by kernel_rfl) (fun _ _ _ h => h) (Or.inr ⟨by rfl, rfl⟩) (by assumption) ?_
                try simp only [Act.put, List.setIfInBounds_toArray, List.set_cons_zero, List.set_cons_succ, List.getElem_toArray, List.getElem_cons_zero, List.getElem_cons_succ]
                refine wpAnyH_take (i := 11) (v := undef) rfl (by kernel_rfl) (by kernel_rfl) (by kernel_rfl) (fun _ _ _ h => h) (Or.inr ⟨by rfl, rfl⟩) (by assumption) ?_
                try simp only [Act.put, List.setIfInBounds_toArray, List.set_cons_zero, List.set_cons_succ, List.getElem_toArray, List.getElem_cons_zero, List.getElem_cons_succ]
                refine wpAnyH_take (i := 12) (v := undef) rfl (by kernel_rfl) (by kernel_rfl) (by kernel_rfl) (fun _ _ _ h => h) (Or.inr ⟨by rfl, rfl⟩) (by assumption) ?_
                try simp only [Act.put, List.setIfInBounds_toArray, List.set_cons_zero, List.set_cons_succ, List.getElem_toArray, List.getElem_cons_zero, List.getElem_cons_succ]
                refine wpAnyH_take (i := 13) (v := undef) rfl (by kernel_rfl) (by kernel_rfl) (by kernel_rfl) (fun _ _ _ h => h) (Or.inr ⟨by rfl, rfl⟩) (by assumption) ?_
                try simp only [Act.put, List.setIfInBounds_toArray, List.set_cons_zero, List.set_cons_succ, List.getElem_toArray, List.getElem_cons_zero, List.getElem_cons_succ]
                refine wpAnyH_take (i := 14) (v := undef) rfl (by kernel_rfl) (by kernel_rfl) (by kernel_rfl) (fun _ _ _ h => h) (Or.inr ⟨by rfl, rfl⟩) (by assumption) ?_
                try simp only [Act.put, List.setIfInBounds_toArray, List.set_cons_zero, List.set_cons_succ, List.getElem_toArray, List.getElem_cons_zero, List.getElem_cons_succ]
                refine wpAnyH_take (i := 15) (v := undef) rfl (by kernel_rfl) (by kernel_rfl) (by kernel_rfl) (fun _ _ _ h => h) (Or.inr ⟨by rfl, rfl⟩) (by assumption) ?_
                try simp only [Act.put, List.setIfInBounds_toArray, List.set_cons_zero, List.set_cons_succ, List.getElem_toArray, List.getElem_cons_zero, List.getElem_cons_succ]
                refine wpAnyH_take (i := 16) (v := ?_) rfl (by kernel_rfl) (by kernel_rfl) (by kernel_rfl) (fun _ _ _ h => h) (Or.inl ⟨by rfl, ?_⟩) (by assumption) ?_
                rotate_left
                · (intro W hW; (try dsimp only at hW); go_simp; try with_reducible rfl)
                try simp only [Act.put, List.setIfInBounds_toArray, List.set_cons_zero, List.set_cons_succ, List.getElem_toArray, List.getElem_cons_zero, List.getElem_cons_succ]
                refine wpAnyH_done (by kernel_rfl) ?_ _
                go_wp2_with fail
                go_meet
                exact ⟨rfl, hH0.2.2⟩
              case rest =>
                obtain ⟨rfl, Fq⟩ := hcut
                go_wp2_with fail
                go_roundw
                case rel => exact ⟨j + 1, o, by omega, by go_num, rfl, rfl, fst_skip HO.out HPZ.out, F.pure Fq⟩
                case measure => simp [intOf]; omega
        · obtain rfl : j = 1024 := by omega
          have HF : Hid (ordN.find? p = o) := (fst_find p).symm.trans HO.out
          cases o with
          | none =>
            have HN : Hid (ansV p = .tuple #[.bool true, .int .i64 0, .int .i64 0]) := by unfold Hid ansV; rw [HF.out]
            simp only [fsI, Option.isSome_none]
            go_wp2_with fail
            refine bodyPost_ret (v := .tuple #[.bool true, .int .i64 0, .int .i64 0]) (by simp [results, Tryz.results23, go_sem]) rfl ?_
            exact ⟨by rw [HA.out, HN.out], F03.pure F⟩
          | some b =>
            have HN : Hid (ansV p = .tuple #[.bool false, .int .i64 (b : Int), .int .i64 0]) := by unfold Hid ansV; rw [HF.out]
            simp only [fsI, Option.isSome_some]
            go_wp2_with fail
            refine bodyPost_ret (v := .tuple #[.bool false, .int .i64 (b : Int), .int .i64 0]) (by simp [results, Tryz.results23, go_sem]) rfl ?_
            exact ⟨by rw [HA.out, HN.out], F03.pure F⟩
    · have hv0' : (validE u != 0) = true := by rw [bne_iff_ne]; exact hv'
      have HA : Hid (ansE t u p = .tuple #[.bool false, .int .i64 0, .int .i64 (validE u)]) := by unfold Hid ansE; rw [if_pos HV.out, if_neg hv']
      clear hv'
      go_wp2_with fail
      refine bodyPost_ret (v := .tuple #[.bool false, .int .i64 0, .int .i64 (validE u)]) (by simp [results, Tryz.results23, go_sem]) rfl ?_
      exact ⟨by rw [HA.out], F03⟩
  · have hv0 : (validE t != 0) = true := by rw [bne_iff_ne]; exact hv
    have HA : Hid (ansE t u p = .tuple #[.bool false, .int .i64 0, .int .i64 (validE t)]) := by unfold Hid ansE; rw [if_neg hv]
    clear hv
    go_wp2_with fail
    refine bodyPost_ret (v := .tuple #[.bool false, .int .i64 0, .int .i64 (validE t)]) (by simp [results, Tryz.results23, go_sem]) rfl ?_
    exact ⟨by rw [HA.out], F02⟩
end Go.Proofs.YtpdhckbiioobhaaGreat

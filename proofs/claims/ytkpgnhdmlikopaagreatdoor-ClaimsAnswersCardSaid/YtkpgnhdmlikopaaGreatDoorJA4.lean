/- Some texts of this claim, joined: contracts of the functions that it reaches, and plain laws. -/
import Derived.Test.YtkpgnhdmlikopaaGreatDoorProg
import Derived.Test.YtkpgnhdmlikopaaGreatDoorJA2
import Derived.Test.YtkpgnhdmlikopaaGreatDoorJA3
import Derived.Test.YtkpgnhdmlikopaaGreatDoorJA10

set_option linter.unusedSimpArgs false
set_option linter.unusedVariables false
/- Walks: claims.Valid, Contradict; the reference's. -/
namespace Go.Proofs.YtkpgnhdmlikopaaGreatDoor
open Go.RowKit

theorem cvl_any (c : Cl) (w : World) : Calls Tryz.prog 9 #[.agg #[.int .i64 c.1, .int .i64 c.2]] w fun e w' => e = .returned (.bool (vCl c)) ∧ Fr none w w' := by
  obtain ⟨a, b⟩ := c
  by_cases h1 : 0 ≤ a
  · by_cases h2 : a < 8
    · by_cases h3 : 0 ≤ b
      · by_cases h4 : b ≤ 15
        · skip
          have HV : Hid (vCl (a, b) = true) := by unfold Hid vCl; simp only [decide_eq_true_eq, decide_eq_false_iff_not]; omega
          go_enter Tryz.func9, Tryz.ntmps9
          go_wp2_with fail
          go_ret
          exact ⟨ret_bool HV.out.symm, (Fr.refl _ _).alloc _⟩
        · skip
          have HV : Hid (vCl (a, b) = false) := by unfold Hid vCl; simp only [decide_eq_true_eq, decide_eq_false_iff_not]; omega
          go_enter Tryz.func9, Tryz.ntmps9
          go_wp2_with fail
          go_ret
          exact ⟨ret_bool HV.out.symm, (Fr.refl _ _).alloc _⟩
      · skip
        have HV : Hid (vCl (a, b) = false) := by unfold Hid vCl; simp only [decide_eq_true_eq, decide_eq_false_iff_not]; omega
        go_enter Tryz.func9, Tryz.ntmps9
        go_wp2_with fail
        go_ret
        exact ⟨ret_bool HV.out.symm, (Fr.refl _ _).alloc _⟩
    · skip
      have HV : Hid (vCl (a, b) = false) := by unfold Hid vCl; simp only [decide_eq_true_eq, decide_eq_false_iff_not]; omega
      go_enter Tryz.func9, Tryz.ntmps9
      go_wp2_with fail
      go_ret
      exact ⟨ret_bool HV.out.symm, (Fr.refl _ _).alloc _⟩
  · skip
    have HV : Hid (vCl (a, b) = false) := by unfold Hid vCl; simp only [decide_eq_true_eq, decide_eq_false_iff_not]; omega
    go_enter Tryz.func9, Tryz.ntmps9
    go_wp2_with fail
    go_ret
    exact ⟨ret_bool HV.out.symm, (Fr.refl _ _).alloc _⟩
theorem rcvl_any (c : Cl) (w : World) : Calls Tryz.prog 10 #[.agg #[.int .i64 c.1, .int .i64 c.2]] w fun e w' => e = .returned (.bool (vCl c)) ∧ Fr none w w' := by
  obtain ⟨a, b⟩ := c
  by_cases h1 : 0 ≤ a
  · by_cases h2 : a < 8
    · by_cases h3 : 0 ≤ b
      · by_cases h4 : b ≤ 15
        · skip
          have HV : Hid (vCl (a, b) = true) := by unfold Hid vCl; simp only [decide_eq_true_eq, decide_eq_false_iff_not]; omega
          go_enter Tryz.func10, Tryz.ntmps10
          go_wp2_with fail
          go_ret
          exact ⟨ret_bool HV.out.symm, (Fr.refl _ _).alloc _⟩
        · skip
          have HV : Hid (vCl (a, b) = false) := by unfold Hid vCl; simp only [decide_eq_true_eq, decide_eq_false_iff_not]; omega
          go_enter Tryz.func10, Tryz.ntmps10
          go_wp2_with fail
          go_ret
          exact ⟨ret_bool HV.out.symm, (Fr.refl _ _).alloc _⟩
      · skip
        have HV : Hid (vCl (a, b) = false) := by unfold Hid vCl; simp only [decide_eq_true_eq, decide_eq_false_iff_not]; omega
        go_enter Tryz.func10, Tryz.ntmps10
        go_wp2_with fail
        go_ret
        exact ⟨ret_bool HV.out.symm, (Fr.refl _ _).alloc _⟩
    · skip
      have HV : Hid (vCl (a, b) = false) := by unfold Hid vCl; simp only [decide_eq_true_eq, decide_eq_false_iff_not]; omega
      go_enter Tryz.func10, Tryz.ntmps10
      go_wp2_with fail
      go_ret
      exact ⟨ret_bool HV.out.symm, (Fr.refl _ _).alloc _⟩
  · skip
    have HV : Hid (vCl (a, b) = false) := by unfold Hid vCl; simp only [decide_eq_true_eq, decide_eq_false_iff_not]; omega
    go_enter Tryz.func10, Tryz.ntmps10
    go_wp2_with fail
    go_ret
    exact ⟨ret_bool HV.out.symm, (Fr.refl _ _).alloc _⟩
theorem con_any (x y : Cl) (w : World) : Calls Tryz.prog 11 #[.agg #[.int .i64 x.1, .int .i64 x.2], .agg #[.int .i64 y.1, .int .i64 y.2]] w fun e w' => e = .returned (.bool (conC x y)) ∧ Fr none w w' := by
  obtain ⟨a, b⟩ := x
  obtain ⟨c, d⟩ := y
  by_cases h1 : a = c
  · have e1 : (a == c) = true := by rw [beq_iff_eq]; exact h1
    by_cases h2 : b = d
    · have e2 : (b == d) = true := by rw [beq_iff_eq]; exact h2
      have e3 : (b != d) = false := by rw [bne_eq_false_iff_eq]; exact h2
      have HV : Hid (conC (a, b) (c, d) = false) := by unfold Hid conC; simp only [decide_eq_true_eq, decide_eq_false_iff_not]; omega
      go_enter Tryz.func11, Tryz.ntmps11
      go_wp2_with fail
      go_ret
      exact ⟨ret_bool HV.out.symm, ((Fr.refl _ _).alloc _).alloc _⟩
    · have e2 : (b == d) = false := by rw [beq_eq_false_iff_ne]; exact h2
      have e3 : (b != d) = true := by rw [bne_iff_ne]; exact h2
      have HV : Hid (conC (a, b) (c, d) = true) := by unfold Hid conC; simp only [decide_eq_true_eq, decide_eq_false_iff_not]; omega
      go_enter Tryz.func11, Tryz.ntmps11
      go_wp2_with fail
      go_ret
      exact ⟨ret_bool HV.out.symm, ((Fr.refl _ _).alloc _).alloc _⟩
  · have e1 : (a == c) = false := by rw [beq_eq_false_iff_ne]; exact h1
    have HV : Hid (conC (a, b) (c, d) = false) := by unfold Hid conC; simp only [decide_eq_true_eq, decide_eq_false_iff_not]; omega
    go_enter Tryz.func11, Tryz.ntmps11
    go_wp2_with fail
    go_ret
    exact ⟨ret_bool HV.out.symm, ((Fr.refl _ _).alloc _).alloc _⟩
theorem rcon_any (x y : Cl) (w : World) : Calls Tryz.prog 12 #[.agg #[.int .i64 x.1, .int .i64 x.2], .agg #[.int .i64 y.1, .int .i64 y.2]] w fun e w' => e = .returned (.bool (conC x y)) ∧ Fr none w w' := by
  obtain ⟨a, b⟩ := x
  obtain ⟨c, d⟩ := y
  by_cases h1 : a = c
  · have e1 : (a == c) = true := by rw [beq_iff_eq]; exact h1
    by_cases h2 : b = d
    · have e2 : (b == d) = true := by rw [beq_iff_eq]; exact h2
      have e3 : (b != d) = false := by rw [bne_eq_false_iff_eq]; exact h2
      have HV : Hid (conC (a, b) (c, d) = false) := by unfold Hid conC; simp only [decide_eq_true_eq, decide_eq_false_iff_not]; omega
      go_enter Tryz.func12, Tryz.ntmps12
      go_wp2_with fail
      go_ret
      exact ⟨ret_bool HV.out.symm, ((Fr.refl _ _).alloc _).alloc _⟩
    · have e2 : (b == d) = false := by rw [beq_eq_false_iff_ne]; exact h2
      have e3 : (b != d) = true := by rw [bne_iff_ne]; exact h2
      have HV : Hid (conC (a, b) (c, d) = true) := by unfold Hid conC; simp only [decide_eq_true_eq, decide_eq_false_iff_not]; omega
      go_enter Tryz.func12, Tryz.ntmps12
      go_wp2_with fail
      go_ret
      exact ⟨ret_bool HV.out.symm, ((Fr.refl _ _).alloc _).alloc _⟩
  · have e1 : (a == c) = false := by rw [beq_eq_false_iff_ne]; exact h1
    have HV : Hid (conC (a, b) (c, d) = false) := by unfold Hid conC; simp only [decide_eq_true_eq, decide_eq_false_iff_not]; omega
    go_enter Tryz.func12, Tryz.ntmps12
    go_wp2_with fail
    go_ret
    exact ⟨ret_bool HV.out.symm, ((Fr.refl _ _).alloc _).alloc _⟩
end Go.Proofs.YtkpgnhdmlikopaaGreatDoor

/- Walks: the reference's Has, Same. -/
namespace Go.Proofs.YtkpgnhdmlikopaaGreatDoor
open Go.RowKit

set_option maxRecDepth 100000 in
set_option maxHeartbeats 1000000 in
theorem rhas_any (l : List Cl) (v : Value) (x : Cl) (w : World) (h : SlC w none v l) : Calls Tryz.prog 16 #[v, .agg #[.int .i64 x.1, .int .i64 x.2]] w fun e w' => e = .returned (.bool (decide (x ∈ l))) ∧ Fr none w w' := by
  obtain ⟨A, c, rfl, q1, q2, hc⟩ := h.open_
  obtain ⟨X, hX⟩ : ∃ X, X = decide (x ∈ l) := ⟨_, rfl⟩
  rw [← hX]
  have HX := Lib.hid hX
  have HC := Lib.hid hc
  clear h hX hc
  go_enter Tryz.func16, Tryz.ntmps16
  go_upto_region 1 with (fail)
  generalize hW : w.alloc _ = w1
  have F1 : Fr none w w1 := hW ▸ (Fr.refl none w).alloc _
  have b3 : CB2 w1 w.heap.size (.int .i64 x.1) (.int .i64 x.2) 24 := by rw [← hW]; exact blk_new _ _
  clear hW
  go_wp2_with fail
  go_loopw [9] (fun s9 wr => ∃ k : Nat, k ≤ l.length ∧ s9 = .int .i64 (k : Int) ∧ Fr none w1 wr ∧ Hid (∀ j (hj : j < l.length), j < k → x ≠ l[j])) (fun s9 _ => l.length - (intOf s9).toNat)
  case atStart => exact ⟨0, Nat.zero_le _, rfl, Fr.refl _ _, Lib.hid (fun j hj h => by omega)⟩
  case round =>
    obtain ⟨k, hk, rfl, F, HN⟩ := hrel
    by_cases hlt : k < l.length
    · obtain ⟨b, off, rfl, hb, _, hcc⟩ := HC.out (by omega)
      obtain ⟨c1, c2⟩ := hcc k hlt
      have c1 := (F1.pure F).keep c1 (by simp)
      have c2 := (F1.pure F).keep c2 (by simp)
      have bz := b3.fr F (by simp)
      obtain ⟨r1, r2⟩ := bz.cell
      have l3 := blk_lt bz
      clear hcc b3
      by_cases he : x = l[k]
      · have HE : Hid (X = true) := by unfold Hid; rw [HX.out, decide_eq_true_iff, he]; exact List.getElem_mem hlt
        have e1 : (x.1 == l[k].1) = true := by rw [beq_iff_eq, ← he]
        have e2 : (x.2 == l[k].2) = true := by rw [beq_iff_eq, ← he]
        clear he
        generalize l[k] = y at *
        go_wp2_with fail
        go_ret
        exact ⟨ret_bool HE.out.symm, F1.pure (F.alloc _)⟩
      · have HE : Hid (x ≠ l[k]) := he
        by_cases h1 : x.1 = l[k].1
        · have e1 : (x.1 == l[k].1) = true := by rw [beq_iff_eq]; exact h1
          have e2 : (x.2 == l[k].2) = false := by rw [beq_eq_false_iff_ne]; exact fun q => he (Prod.ext h1 q)
          clear he h1
          go_wp2_with fail
          go_roundw
          case rel => exact ⟨k + 1, by omega, by go_num, (F.alloc _), fun j hj hjk => by
            rcases Nat.lt_or_ge j k with hh | hh
            · exact HN.out j hj hh
            · obtain rfl : j = k := by omega
              exact HE.out⟩
          case measure => simp [intOf]; omega
        · have e1 : (x.1 == l[k].1) = false := by rw [beq_eq_false_iff_ne]; exact h1
          clear he h1
          go_wp2_with fail
          go_roundw
          case rel => exact ⟨k + 1, by omega, by go_num, (F.alloc _), fun j hj hjk => by
            rcases Nat.lt_or_ge j k with hh | hh
            · exact HN.out j hj hh
            · obtain rfl : j = k := by omega
              exact HE.out⟩
          case measure => simp [intOf]; omega
    · obtain rfl : k = l.length := by omega
      have HE : Hid (X = false) := by
        unfold Hid; rw [HX.out, decide_eq_false_iff_not]
        intro hm
        obtain ⟨i, hi, e⟩ := List.getElem_of_mem hm
        exact HN.out i hi hi e.symm
      go_wp2_with fail
      go_ret
      exact ⟨ret_bool HE.out.symm, F1.pure F⟩
end Go.Proofs.YtkpgnhdmlikopaaGreatDoor

/- What the type table says of the slice types. -/
namespace Go.Proofs.YtkpgnhdmlikopaaGreatDoor
open Go.RowKit

theorem eiInt : EInfo Tryz.prog 22 3 1 8 := EInfo.mk_ (z := .int .i64 0) (by kernel_rfl) (by kernel_rfl) rfl (by omega)

def ints (n : Nat) : List Int := (List.range n).map Int.ofNat
theorem ints_succ (n : Nat) : ints (n + 1) = ints n ++ [(n : Int)] := by simp [ints, List.range_succ]
theorem ints_len (n : Nat) : (ints n).length = n := by simp [ints]

end Go.Proofs.YtkpgnhdmlikopaaGreatDoor

/- Walks: the reference's Same, Sorted. -/
namespace Go.Proofs.YtkpgnhdmlikopaaGreatDoor
open Go.RowKit

set_option maxRecDepth 100000 in
set_option maxHeartbeats 1000000 in
theorem rsm_any (a b : List Cl) (va vb : Value) (w : World) (ha : SlC w none va a) (hb : SlC w none vb b) :
    Calls Tryz.prog 17 #[va, vb] w fun e w' => e = .returned (.bool (decide (a = b))) ∧ Fr none w w' := by
  obtain ⟨A, c, rfl, q1, q2, hc⟩ := ha.open_
  obtain ⟨B, d, rfl, q3, q4, hd⟩ := hb.open_
  have HC := Lib.hid hc
  have HD := Lib.hid hd
  clear ha hb hc hd
  by_cases hl : a.length = b.length
  · have HL := Lib.hid hl
    obtain ⟨n, hn⟩ : ∃ n, n = a.length := ⟨_, rfl⟩
    have HN := Lib.hid hn
    have HN2 := Lib.hid (hn.trans hl)
    have hn2 : n = b.length := hn.trans hl
    rw [← hn] at q1 ⊢
    rw [← hn2] at q3 ⊢
    clear hl hn hn2
    go_enter Tryz.func17, Tryz.ntmps17
    go_wp2_with fail
    go_loopw [13] (fun i wr => ∃ k : Nat, k ≤ n ∧ i = .int .i64 k ∧ Fr none w wr ∧ Hid (∀ j (h1 : j < a.length) (h2 : j < b.length), j < k → a[j] = b[j])) (fun i _ => n - (intOf i).toNat)
    case atStart => exact ⟨0, Nat.zero_le _, rfl, Fr.refl _ _, Lib.hid (fun j h1 h2 h => by omega)⟩
    case round =>
      obtain ⟨k, hk, rfl, F, HH⟩ := hrel
      by_cases hlt : k < n
      · have k1 : k < a.length := by have := HN.out; omega
        have k2 : k < b.length := by have := HN2.out; omega
        obtain ⟨b1, o1, rfl, hb1, _, hc1⟩ := HC.out (by omega)
        obtain ⟨b2, o2, rfl, hb2, _, hc2⟩ := HD.out (by omega)
        obtain ⟨d1, d2⟩ := hc1 k k1
        obtain ⟨d3, d4⟩ := hc2 k k2
        have d1 := F.keep d1 (by simp)
        have d2 := F.keep d2 (by simp)
        have d3 := F.keep d3 (by simp)
        have d4 := F.keep d4 (by simp)
        clear hc1 hc2
        obtain ⟨x, hx⟩ : ∃ x, x = a[k] := ⟨_, rfl⟩
        obtain ⟨y, hy⟩ : ∃ y, y = b[k] := ⟨_, rfl⟩
        rw [← hx] at d1 d2
        rw [← hy] at d3 d4
        have HX := Lib.hid hx
        have HY := Lib.hid hy
        clear hx hy
        by_cases he : x = y
        · have HE := Lib.hid he
          subst he
          go_wp2_with fail
          go_quiet (fail)
          go_wp2_with fail
          go_roundw
          case rel => exact ⟨k + 1, by omega, by go_num, F.drewN _, fun j h1 h2 h => by
            by_cases e : j = k
            · subst e; rw [← HX.out, ← HY.out]
            · exact HH.out j h1 h2 (by omega)⟩
          case measure => simp [intOf]; omega
        · have HE0 := Lib.hid he
          by_cases h1 : x.1 = y.1
          · have e1 : (x.1 == y.1) = true := by rw [beq_iff_eq]; exact h1
            have e2 : (x.2 == y.2) = false := by rw [beq_eq_false_iff_ne]; exact fun q => he (Prod.ext h1 q)
            clear he h1
            have hne : a ≠ b := fun h => by
              apply HE0.out
              rw [HX.out, HY.out]
              subst h
              rfl
            have HE := Lib.hid hne
            clear hne
            go_wp2_with fail
            go_quiet (fail)
            go_wp2_with fail
            go_ret
            exact ⟨ret_bool (by rw [decide_eq_false HE.out]), F.drewN _⟩
          · have e1 : (x.1 == y.1) = false := by rw [beq_eq_false_iff_ne]; exact h1
            clear he h1
            have hne : a ≠ b := fun h => by
              apply HE0.out
              rw [HX.out, HY.out]
              subst h
              rfl
            have HE := Lib.hid hne
            clear hne
            go_wp2_with fail
            go_quiet (fail)
            go_wp2_with fail
            go_ret
            exact ⟨ret_bool (by rw [decide_eq_false HE.out]), F.drewN _⟩
      · obtain rfl : k = n := by omega
        go_wp2_with fail
        go_ret
        refine ⟨ret_bool ?_, F⟩
        symm
        rw [decide_eq_true_eq]
        apply List.ext_getElem HL.out
        intro j h1 h2
        exact HH.out j h1 h2 (by rw [HN.out]; exact h1)
  · have hne : ¬ a = b := fun h => hl (by rw [h])
    have HE := Lib.hid hne
    clear hne
    have hl2 : ¬ ((a.length : Int) = (b.length : Int)) := by omega
    go_enter Tryz.func17, Tryz.ntmps17
    go_wp2_with fail
    go_ret
    exact ⟨ret_bool (by rw [decide_eq_false HE.out]), Fr.refl _ _⟩

theorem eiClm : EInfo Tryz.prog 25 24 2 16 := EInfo.mk_ (z := .agg #[.int .i64 0, .int .i64 0]) (by kernel_rfl) (by kernel_rfl) rfl (by omega)
/-- A new list of claims is handed back. -/
def NwC (l : List Cl) (w : World) (e : Ending) (w' : World) : Prop := ∃ v, e = .returned v ∧ SlD w' (Dn w.heap.size w') 2 v (flC l) ∧ Fr none w w'
theorem NwC.sl {l : List Cl} {w w' : World} {v : Value} (h : SlD w' (Dn w.heap.size w') 2 v (flC l)) (hw : ∀ c ∈ l, Wc c) (r : Option Nat) (hr : ∀ g, r = some g → g < w.heap.size) : SlC w' r v l := ⟨h.keep (dn_dm hr), hw⟩
theorem vCl_wc {c : Cl} (h : vCl c = true) : Wc c := by rw [vCl_iff] at h; constructor <;> constructor <;> omega
theorem srtC_wc (l : List Cl) : ∀ c ∈ srtC l, Wc c := fun c hc => vCl_wc ((mem_srtC c l).1 hc).1

theorem pairs_snoc (n : Nat) (hn : n < 128) : pairsC.take (n + 1) = pairsC.take n ++ [clOf n] := by
  rw [List.take_succ_eq_append_getElem (by rw [pairs_len]; exact hn), pairs_get]
def preC (l : List Cl) (n : Nat) : List Cl := (pairsC.take n).filter fun c => decide (c ∈ l)
theorem preC_snoc (l : List Cl) (n : Nat) (hn : n < 128) : preC l (n + 1) = if clOf n ∈ l then preC l n ++ [clOf n] else preC l n := by
  unfold preC
  rw [pairs_snoc n hn, List.filter_append]
  by_cases h : clOf n ∈ l
  · rw [if_pos h]; simp [List.filter_cons, h]
  · rw [if_neg h]; simp [List.filter_cons, h]
theorem preC_all (l : List Cl) : preC l 128 = srtC l := by unfold preC srtC; rw [List.take_of_length_le (by rw [pairs_len]; omega)]
theorem preC_len (l : List Cl) (n : Nat) : (preC l n).length ≤ n := by
  unfold preC
  exact Nat.le_trans (List.length_filter_le _ _) (by rw [List.length_take]; omega)
set_option maxRecDepth 100000 in
set_option maxHeartbeats 1000000 in
theorem rsrt_any (l : List Cl) (v : Value) (w : World) (h : SlC w none v l) : Calls Tryz.prog 7 #[v] w (NwC (srtC l) w) := by
  obtain ⟨A0, c0, rfl, _, _, _⟩ := h.open_
  go_enter Tryz.func7, Tryz.ntmps7
  go_wp2_with fail
  go_loopw [3, 4] (fun s3 s4 wr => ∃ (i : Nat) (o : List Cl) (A : Option Addr) (c : Nat), i ≤ 8 ∧ s4 = .int .i64 (i : Int) ∧ s3 = .slice A o.length c ∧ Hid (o = preC l (i * 16)) ∧ o.length ≤ i * 16 ∧ Fr none w wr ∧ wr.ownsRow w.heap.size 24 2 (.slice A o.length c) o.length (flC o)) (fun _ s4 _ => 8 - (intOf s4).toNat)
  case atStart => exact ⟨0, [], none, 0, by omega, rfl, rfl, rfl, by simp, Fr.refl _ _, World.ownsRow_nil _ _ _ _⟩
  case round =>
    obtain ⟨i, o, A, c, hi, rfl, rfl, HO, hol, F, own⟩ := hrel
    by_cases hlt : i < 8
    · have hd : decide ((i : Int) < 8) = true := decide_eq_true (by omega)
      go_wp2_with fail
      obtain ⟨wz, hwz⟩ : ∃ wz : World, wz = wr := ⟨_, rfl⟩
      subst hwz
      go_loopw [3, 5] (fun s3 s5 wr => ∃ (k : Nat) (o : List Cl) (A : Option Addr) (c : Nat), k ≤ 16 ∧ s5 = .int .i64 (k : Int) ∧ s3 = .slice A o.length c ∧ Hid (o = preC l (i * 16 + k)) ∧ o.length ≤ i * 16 + k ∧ Fr none w wr ∧ wr.ownsRow w.heap.size 24 2 (.slice A o.length c) o.length (flC o)) (fun _ s5 _ => 16 - (intOf s5).toNat)
      case atStart => exact ⟨0, o, A, c, by omega, rfl, rfl, HO, hol, F, own⟩
      case round =>
        clear F own hol HO
        obtain ⟨k, o, A, c, hk, rfl, rfl, HO, hol, F, own⟩ := hrel
        by_cases hlk : k < 16
        · have hz := F.size
          have hcl : Hid (((i : Int), (k : Int)) = clOf (i * 16 + k)) := (clOf_mk i k hlk).symm
          have HS : Hid (preC l (i * 16 + (k + 1)) = if ((i : Int), (k : Int)) ∈ l then o ++ [((i : Int), (k : Int))] else o) := by
            unfold Hid
            rw [← Nat.add_assoc, preC_snoc l _ (by omega), ← HO.out, hcl.out]
          clear HO
          go_upto_region 9 with (fail)
          generalize hW : wr.alloc _ = wa
          have Fa : Fr none wr wa := hW ▸ (Fr.refl none wr).alloc _
          have b6 : CB2 wa wr.heap.size (.int .i64 (i : Int)) (.int .i64 (k : Int)) 24 := by rw [← hW]; exact blk_new _ _
          clear hW
          have l6 := blk_lt b6
          have hla := h.fr (F.pure Fa)
          have owna := own_fr own Fa (by simp)
          obtain ⟨r1, r2⟩ := b6.cell
          cases hm : decide (((i : Int), (k : Int)) ∈ l) with
          | true =>
            have HM := Lib.hid (of_decide_eq_true hm)
            go_upto_region 10 with (go_at_call 16; refine (rhas_any l _ ((i : Int), (k : Int)) _ hla).mono ?_; rintro e w2 ⟨rfl, F2⟩; rw [hm])
            clear hm r1 r2
            have b62 := b6.fr F2 (by simp)
            obtain ⟨r1, r2⟩ := b62.cell
            have l62 := blk_lt b62
            have own2 := own_fr owna F2 (by simp)
            have og := own_blk_ge own2
            have hz2 := F2.size
            go_wp2_with (at_builtin; refine app_lit eiClm rfl _ _ rfl w.heap.size A o.length c _ rfl own2 1 [.int .i64 (i : Int), .int .i64 (k : Int)] _ _ rfl (by simp) rfl (by simp [Value.oneCell']) (by omega) (by unfold maxLen; omega) (by omega) ?_; intro A' c' w' own' F' bl')
            have hln : (o ++ [((i : Int), (k : Int))]).length = o.length + 1 := by simp
            go_roundw
            case rel => exact ⟨k + 1, o ++ [((i : Int), (k : Int))], A', c', by omega, by go_num, by rw [hln], by unfold Hid; rw [HS.out, if_pos HM.out], by rw [hln]; omega, ((F.pure Fa).pure F2).own F' og, by rw [hln, flC_snoc]; exact own'⟩
            case measure => simp [intOf]; omega
          | false =>
            have HM := Lib.hid (of_decide_eq_false hm)
            go_upto_region 7 with (go_at_call 16; refine (rhas_any l _ ((i : Int), (k : Int)) _ hla).mono ?_; rintro e w2 ⟨rfl, F2⟩; rw [hm])
            clear hm r1 r2
            have own2 := own_fr owna F2 (by simp)
            go_wp2_with fail
            go_roundw
            case rel => exact ⟨k + 1, o, A, c, by omega, by go_num, rfl, by unfold Hid; rw [HS.out, if_neg HM.out], by omega, (F.pure Fa).pure F2, own2⟩
            case measure => simp [intOf]; omega
        · obtain rfl : k = 16 := by omega
          go_wp2_with fail
          go_roundw
          case rel => exact ⟨i + 1, o, A, c, by omega, by go_num, rfl, by unfold Hid; rw [HO.out]; congr 1; omega, by omega, F, own⟩
          case measure => simp [intOf]; omega
    · obtain rfl : i = 8 := by omega
      have HF : Hid (o = srtC l) := by unfold Hid; rw [HO.out]; exact preC_all l
      go_wp2_with fail
      go_ret
      exact ⟨_, rfl, by rw [← HF.out]; exact SlD.own_dn own, F⟩
end Go.Proofs.YtkpgnhdmlikopaaGreatDoor

/- Walks: slices.Index, Contains, IndexFunc at claims; claims.Has. -/
namespace Go.Proofs.YtkpgnhdmlikopaaGreatDoor
open Go.RowKit

/-- Where a claim stands in a list. -/
def IdxP (l : List Cl) (x : Cl) (w : World) (e : Ending) (w' : World) : Prop := ∃ i : Int, e = .returned (.int .i64 i) ∧ (0 ≤ i ↔ x ∈ l) ∧ Fr none w w'
set_option maxRecDepth 100000 in
set_option maxHeartbeats 1000000 in
theorem cindex_any (l : List Cl) (v : Value) (x : Cl) (w : World) (h : SlC w none v l) : Calls Tryz.prog 52 #[v, .agg #[.int .i64 x.1, .int .i64 x.2]] w (IdxP l x w) := by
  obtain ⟨A, c, rfl, q1, q2, hc⟩ := h.open_
  have HC := Lib.hid hc
  clear h hc
  go_enter Tryz.func52, Tryz.ntmps52
  go_upto_region 1 with (fail)
  generalize hW : w.alloc _ = w1
  have F1 : Fr none w w1 := hW ▸ (Fr.refl none w).alloc _
  have b3 : CB2 w1 w.heap.size (.int .i64 x.1) (.int .i64 x.2) 24 := by rw [← hW]; exact blk_new _ _
  clear hW
  go_wp2_with fail
  go_loopw [8] (fun s8 wr => ∃ k : Nat, k ≤ l.length ∧ s8 = .int .i64 (k : Int) ∧ Fr none w1 wr ∧ Hid (∀ j (hj : j < l.length), j < k → x ≠ l[j])) (fun s8 _ => l.length - (intOf s8).toNat)
  case atStart => exact ⟨0, Nat.zero_le _, rfl, Fr.refl _ _, Lib.hid (fun j hj h => by omega)⟩
  case round =>
    obtain ⟨k, hk, rfl, F, HN⟩ := hrel
    by_cases hlt : k < l.length
    · obtain ⟨b, off, rfl, hb, _, hcc⟩ := HC.out (by omega)
      obtain ⟨c1, c2⟩ := hcc k hlt
      have c1 := (F1.pure F).keep c1 (by simp)
      have c2 := (F1.pure F).keep c2 (by simp)
      have bz := b3.fr F (by simp)
      obtain ⟨r1, r2⟩ := bz.cell
      have l3 := blk_lt bz
      clear hcc b3
      by_cases he : x = l[k]
      · have HE : Hid (x ∈ l) := by unfold Hid; rw [he]; exact List.getElem_mem hlt
        have e1 : (x.1 == l[k].1) = true := by rw [beq_iff_eq, ← he]
        have e2 : (x.2 == l[k].2) = true := by rw [beq_iff_eq, ← he]
        clear he
        generalize l[k] = y at *
        go_wp2_with fail
        go_quiet (fail)
        go_wp2_with fail
        go_ret
        exact ⟨(k : Int), rfl, ⟨fun _ => HE.out, fun _ => by omega⟩, F1.pure (F.drewN _)⟩
      · have HE : Hid (x ≠ l[k]) := he
        by_cases h1 : x.1 = l[k].1
        · have e1 : (x.1 == l[k].1) = true := by rw [beq_iff_eq]; exact h1
          have e2 : (x.2 == l[k].2) = false := by rw [beq_eq_false_iff_ne]; exact fun q => he (Prod.ext h1 q)
          clear he h1
          go_wp2_with fail
          go_quiet (fail)
          go_wp2_with fail
          go_roundw
          case rel => exact ⟨k + 1, by omega, by go_num, F.drewN _, fun j hj hjk => by
            rcases Nat.lt_or_ge j k with hh | hh
            · exact HN.out j hj hh
            · obtain rfl : j = k := by omega
              exact HE.out⟩
          case measure => simp [intOf]; omega
        · have e1 : (x.1 == l[k].1) = false := by rw [beq_eq_false_iff_ne]; exact h1
          clear he h1
          go_wp2_with fail
          go_quiet (fail)
          go_wp2_with fail
          go_roundw
          case rel => exact ⟨k + 1, by omega, by go_num, F.drewN _, fun j hj hjk => by
            rcases Nat.lt_or_ge j k with hh | hh
            · exact HN.out j hj hh
            · obtain rfl : j = k := by omega
              exact HE.out⟩
          case measure => simp [intOf]; omega
    · obtain rfl : k = l.length := by omega
      have HE : Hid (¬ x ∈ l) := by
        intro hm
        obtain ⟨i, hi, e⟩ := List.getElem_of_mem hm
        exact HN.out i hi hi e.symm
      go_wp2_with fail
      go_ret
      exact ⟨-1, rfl, ⟨fun h => absurd h (by decide), fun h => absurd h HE.out⟩, F1.pure F⟩
set_option maxRecDepth 100000 in
theorem ccontains_any (l : List Cl) (v : Value) (x : Cl) (w : World) (h : SlC w none v l) : Calls Tryz.prog 39 #[v, .agg #[.int .i64 x.1, .int .i64 x.2]] w fun e w' => e = .returned (.bool (decide (x ∈ l))) ∧ Fr none w w' := by
  obtain ⟨A, c, rfl, q1, q2, _⟩ := h.open_
  go_enter Tryz.func39, Tryz.ntmps39
  go_upto_region 1 with (fail)
  generalize hW : w.alloc _ = w1
  have F1 : Fr none w w1 := hW ▸ (Fr.refl none w).alloc _
  have b3 : CB2 w1 w.heap.size (.int .i64 x.1) (.int .i64 x.2) 24 := by rw [← hW]; exact blk_new _ _
  clear hW
  obtain ⟨r1, r2⟩ := b3.cell
  go_wp2_with fail
  refine (cindex_any l _ x _ (h.fr F1)).mono ?_
  rintro e w2 ⟨i, rfl, hi, F2⟩
  have HI : Hid (decide (0 ≤ i) = decide (x ∈ l)) := by unfold Hid; rw [decide_eq_decide]; exact hi
  clear hi
  go_wp2_with fail
  go_ret
  exact ⟨ret_bool HI.out, F1.pure F2⟩
theorem chas_any (l : List Cl) (v : Value) (x : Cl) (w : World) (h : SlC w none v l) : Calls Tryz.prog 15 #[v, .agg #[.int .i64 x.1, .int .i64 x.2]] w fun e w' => e = .returned (.bool (decide (x ∈ l))) ∧ Fr none w w' := by
  obtain ⟨A, c, rfl, q1, q2, _⟩ := h.open_
  go_enter Tryz.func15, Tryz.ntmps15
  go_upto_region 1 with (fail)
  generalize hW : w.alloc _ = w1
  have F1 : Fr none w w1 := hW ▸ (Fr.refl none w).alloc _
  have b3 : CB2 w1 w.heap.size (.int .i64 x.1) (.int .i64 x.2) 24 := by rw [← hW]; exact blk_new _ _
  clear hW
  obtain ⟨r1, r2⟩ := b3.cell
  go_wp2_with fail
  refine (ccontains_any l _ x _ (h.fr F1)).mono ?_
  rintro e w2 ⟨rfl, F2⟩
  go_wp2_with fail
  go_ret
  exact ⟨rfl, F1.pure F2⟩

theorem srt1_any (x : Cl) (w : World) : Calls Tryz.prog 44 #[.agg #[.int .i64 x.1, .int .i64 x.2]] w fun e w' => e = .returned (.bool (!vCl x)) ∧ Fr none w w' := by
  go_enter Tryz.func44, Tryz.ntmps44
  go_upto_region 1 with (fail)
  generalize hW : w.alloc _ = w1
  have F1 : Fr none w w1 := hW ▸ (Fr.refl none w).alloc _
  have b3 : CB2 w1 w.heap.size (.int .i64 x.1) (.int .i64 x.2) 24 := by rw [← hW]; exact blk_new _ _
  clear hW
  obtain ⟨r1, r2⟩ := b3.cell
  go_wp2_with fail
  refine (cvl_any x _).mono ?_
  rintro e w2 ⟨rfl, F2⟩
  go_wp2_with fail
  go_ret
  exact ⟨rfl, F1.pure F2⟩
theorem srt1_enters : ∀ args w, Sem.run Tryz.prog (callFunc 44 args) w = .ok (.enter 44 args) w := fun _ _ => by kernel_rfl
/-- The first claim that is none. -/
def IdxV (l : List Cl) (w : World) (e : Ending) (w' : World) : Prop := ∃ i : Int, e = .returned (.int .i64 i) ∧ ((i = -1 ∧ ∀ c ∈ l, vCl c = true) ∨ ∃ (k : Nat) (hk : k < l.length), i = k ∧ vCl l[k] = false ∧ ∀ j (hj : j < l.length), j < k → vCl l[j] = true) ∧ Fr none w w'
set_option maxRecDepth 100000 in
set_option maxHeartbeats 1000000 in
theorem cindexF_any (l : List Cl) (v : Value) (w : World) (h : SlC w none v l) : Calls Tryz.prog 57 #[v, .func (.func 44) #[] #[]] w (IdxV l w) := by
  obtain ⟨A, c, rfl, q1, q2, hc⟩ := h.open_
  have HC := Lib.hid hc
  have hrun := srt1_enters
  clear h hc
  go_enter Tryz.func57, Tryz.ntmps57
  go_wp2_with fail
  go_loopw [8] (fun s8 wr => ∃ k : Nat, k ≤ l.length ∧ s8 = .int .i64 (k : Int) ∧ Fr none w wr ∧ Hid (∀ j (hj : j < l.length), j < k → vCl l[j] = true)) (fun s8 _ => l.length - (intOf s8).toNat)
  case atStart => exact ⟨0, Nat.zero_le _, rfl, Fr.refl _ _, Lib.hid (fun j hj h => by omega)⟩
  case round =>
    obtain ⟨k, hk, rfl, F, HN⟩ := hrel
    by_cases hlt : k < l.length
    · obtain ⟨b, off, rfl, hb, _, hcc⟩ := HC.out (by omega)
      obtain ⟨c1, c2⟩ := hcc k hlt
      have c1 := F.keep c1 (by simp)
      have c2 := F.keep c2 (by simp)
      clear hcc
      obtain ⟨y, hy⟩ : ∃ y, y = l[k] := ⟨_, rfl⟩
      rw [← hy] at c1 c2
      have HY := Lib.hid hy
      clear hy
      go_wp2_with fail
      refine (srt1_any y _).mono ?_
      rintro e w2 ⟨rfl, F2⟩
      cases hv : vCl y with
      | true =>
        have HV := Lib.hid hv
        clear hv
        go_wp2_with fail
        go_roundw
        case rel => exact ⟨k + 1, by omega, by go_num, F.pure F2, fun j hj hjk => by
          rcases Nat.lt_or_ge j k with hh | hh
          · exact HN.out j hj hh
          · obtain rfl : j = k := by omega
            rw [← HY.out]; exact HV.out⟩
        case measure => simp [intOf]; omega
      | false =>
        have HV := Lib.hid hv
        clear hv
        go_wp2_with fail
        go_ret
        exact ⟨(k : Int), rfl, .inr ⟨k, hlt, rfl, by rw [← HY.out]; exact HV.out, HN.out⟩, F.pure F2⟩
    · obtain rfl : k = l.length := by omega
      go_wp2_with fail
      go_ret
      refine ⟨-1, rfl, .inl ⟨rfl, fun y hy => ?_⟩, F⟩
      obtain ⟨i, hi, rfl⟩ := List.getElem_of_mem hy
      exact HN.out i hi hi
end Go.Proofs.YtkpgnhdmlikopaaGreatDoor

/- Walks: nodeset.below at every n, OnesCount at a set, Size, rank, cmp.Compare, cmp.Or, Compare; the reference's Size, Compare. -/
namespace Go.Proofs.YtkpgnhdmlikopaaGreatDoor
open Go.RowKit

/-- The number of bits below k. -/
def popB (m : Nat) : Nat → Nat
  | 0 => 0
  | k + 1 => popB m k + (if m.testBit k then 1 else 0)
theorem popB_le (m : Nat) : ∀ k, popB m k ≤ k
  | 0 => by simp [popB]
  | k + 1 => by have := popB_le m k; simp only [popB]; split <;> omega
/-- The number of nodes of a set; 0 at what is none. -/
def sizS (s : Int) : Nat := if validB s then popB s.toNat 10 else 0
theorem sizS_le (s : Int) : sizS s ≤ 10 := by
  unfold sizS; split
  · exact popB_le _ _
  · omega
/-- s is a set of nodes below n. -/
def belB (s n : Int) : Bool := decide (0 ≤ s ∧ s < 2 ^ n.toNat)
def rankI (s : Int) : Int := if validB s then sizS s else -1
def cmpI (a b : Int) : Int := if a < b then -1 else if b < a then 1 else 0
/-- The order of sets. -/
def cmpS (a b : Int) : Int := if cmpI (rankI a) (rankI b) = 0 then cmpI a b else cmpI (rankI a) (rankI b)

def c1 (x : Int) : Int := IntKind.u64.wrap (bits .and .u64 (x / 2) 6148914691236517205 + bits .and .u64 x 6148914691236517205)
def c2 (x : Int) : Int := IntKind.u64.wrap (bits .and .u64 (x / 4) 3689348814741910323 + bits .and .u64 x 3689348814741910323)
def c3 (x : Int) : Int := bits .and .u64 (IntKind.u64.wrap (x / 16 + x)) 1085102592571150095
def c4 (x : Int) : Int := IntKind.u64.wrap (x + x / 256)
def c5 (x : Int) : Int := IntKind.u64.wrap (x + x / 65536)
def c6 (x : Int) : Int := IntKind.u64.wrap (x + x / 4294967296)
theorem pop64 : ∀ m : Fin 1024, bits .and .i64 (wrap64 (c6 (c5 (c4 (c3 (c2 (c1 (m.val : Int)))))))) 127 = (popB m.val 10 : Int) := by decide +kernel

theorem isNaN_any (a : Int) (w : World) : Calls Tryz.prog 51 #[.int .i64 a] w fun e w' => e = .returned (.bool false) ∧ w = w' := by
  go_enter Tryz.func51, Tryz.ntmps51
  go_wp2_with fail
  go_ret
  exact ⟨ret_bool (by simp), rfl⟩
theorem cmpCompare_any (a b : Int) (w : World) : Calls Tryz.prog 38 #[.int .i64 a, .int .i64 b] w fun e w' => e = .returned (.int .i64 (cmpI a b)) ∧ w = w' := by
  rcases Int.lt_trichotomy a b with h | h | h
  · have e1 : cmpI a b = -1 := by simp [cmpI, h]
    have E := Lib.hid e1
    clear e1
    go_enter Tryz.func38, Tryz.ntmps38
    go_wp2_with (go_at_call 51; refine (isNaN_any _ _).mono ?_; rintro e w' ⟨rfl, rfl⟩)
    all_goals (go_ret; exact ⟨ret_int (by rw [E.out]), rfl⟩)
  · subst h
    have e1 : cmpI a a = 0 := by simp [cmpI]
    have E := Lib.hid e1
    clear e1
    go_enter Tryz.func38, Tryz.ntmps38
    go_wp2_with (go_at_call 51; refine (isNaN_any _ _).mono ?_; rintro e w' ⟨rfl, rfl⟩)
    all_goals (go_ret; exact ⟨ret_int (by rw [E.out]), rfl⟩)
  · have e1 : cmpI a b = 1 := by simp [cmpI, h]; omega
    have h2 : ¬ a < b := by omega
    have E := Lib.hid e1
    clear e1
    go_enter Tryz.func38, Tryz.ntmps38
    go_wp2_with (go_at_call 51; refine (isNaN_any _ _).mono ?_; rintro e w' ⟨rfl, rfl⟩)
    all_goals (go_ret; exact ⟨ret_int (by rw [E.out]), rfl⟩)

end Go.Proofs.YtkpgnhdmlikopaaGreatDoor

/- Walks: cmp.Or, nodeset.Compare, Next; the reference's Size, Compare. -/
namespace Go.Proofs.YtkpgnhdmlikopaaGreatDoor
open Go.RowKit

/-- The first that is not 0, or 0. -/
def orL : List Int → Int
  | [] => 0
  | x :: r => if x = 0 then orL r else x
theorem orL_skip : ∀ (l : List Int) (k : Nat), (∀ j (hj : j < l.length), j < k → l[j] = 0) → orL l = orL (l.drop k)
  | l, 0, _ => by simp
  | [], k + 1, _ => by simp
  | x :: r, k + 1, h => by
    have h0 := h 0 (by simp) (by omega)
    simp only [List.getElem_cons_zero] at h0
    simp only [orL, h0, List.drop_succ_cons]
    exact orL_skip r k fun j hj hk => by
      have := h (j + 1) (by simpa using hj) (by omega)
      simpa only [List.getElem_cons_succ] using this

set_option maxRecDepth 100000 in
theorem or_any (l : List Int) (v : Value) (w : World) (r : Option Nat) (h : SlI w r v l) : Calls Tryz.prog 37 #[v] w fun e w' => e = .returned (.int .i64 (orL l)) ∧ w = w' := by
  have hwi := h.2
  obtain ⟨A, c, rfl, q1, q2, hc⟩ := h.open_
  go_enter Tryz.func37, Tryz.ntmps37
  go_wp2_with fail
  go_loop [8] (fun i => ∃ k : Nat, k ≤ l.length ∧ i = .int .i64 k ∧ ∀ j (hj : j < l.length), j < k → l[j] = 0) (fun i => l.length - (intOf i).toNat)
  case atStart => exact ⟨0, Nat.zero_le _, rfl, fun j hj h => by omega⟩
  case round =>
    obtain ⟨k, hk, rfl, hno⟩ := hrel
    have HN := Lib.hid hno
    clear hno
    by_cases hlt : k < l.length
    · obtain ⟨b, off, rfl, hb, hbr, hcc⟩ := hc (by omega)
      have hck := hcc k hlt
      clear hcc hc
      by_cases hp : l[k] = 0
      · have HP := Lib.hid hp
        go_wp2_with fail
        go_round
        case rel => exact ⟨k + 1, by omega, by go_num, fun j hj h => by
          by_cases e : j = k
          · subst e; exact HP.out
          · exact HN.out j hj (by omega)⟩
        case measure => simp [intOf]; omega
      · have e1 : orL l = l[k] := by
          rw [orL_skip l k HN.out, List.drop_eq_getElem_cons hlt]
          simp [orL, hp]
        have E := Lib.hid e1
        clear e1
        go_wp2_with fail
        go_ret
        exact ⟨ret_int (by rw [E.out]), rfl⟩
    · obtain rfl : k = l.length := by omega
      have e1 : orL l = 0 := by
        rw [orL_skip l l.length HN.out, List.drop_length]
        rfl
      have E := Lib.hid e1
      clear e1
      go_wp2_with fail
      go_ret
      exact ⟨ret_int (by rw [E.out]), rfl⟩

theorem cmpI_wi (a b : Int) : Wi (cmpI a b) := by
  unfold cmpI Wi
  split
  · omega
  · split <;> omega
theorem cmpS_or (a b : Int) : orL [cmpI (rankI a) (rankI b), cmpI a b] = cmpS a b := by
  unfold cmpS
  simp only [orL]
  by_cases h : cmpI (rankI a) (rankI b) = 0
  · simp only [h, if_true]
    by_cases h2 : cmpI a b = 0 <;> simp [h2]
  · simp only [h, if_false]

/-- The first from t on, among f, of size z. -/
def srch (z : Nat) (t : Nat) : Nat → Option Nat
  | 0 => none
  | f + 1 => if sizS (t : Int) = z then some t else srch z (t + 1) f
def nextR (s n : Nat) : Nat × Bool :=
  match srch (sizS (s : Int)) (s + 1) (2 ^ n - (s + 1)) with
  | some t => (t, true)
  | none => if sizS (s : Int) = n then (0, false) else (2 ^ (sizS (s : Int) + 1) - 1, true)
theorem p10 (n : Nat) (hn : n ≤ 10) : 2 ^ n ≤ 1024 := by
  have := Nat.pow_le_pow_right (n := 2) (by omega) hn
  simpa using this
theorem belB_nat (s n : Nat) : belB (s : Int) n = decide (s < 2 ^ n) := by
  simp only [belB, Int.toNat_natCast]
  have e : ((2 : Int) ^ n) = ((2 ^ n : Nat) : Int) := by simp
  rw [decide_eq_decide, e]
  omega

/-- The reference's Size. -/
def popI (s : Int) (k : Nat) : Nat := popB s.toNat k
theorem shr_bit (m j : Nat) (hm : m < 9223372036854775808) : bits .and .i64 ((m : Int) / 2 ^ j) 1 = ((if m.testBit j then 1 else 0 : Nat) : Int) := by
  have e : ((m : Int) / 2 ^ j) = ((m / 2 ^ j : Nat) : Int) := by simp
  have hd : m / 2 ^ j ≤ m := Nat.div_le_self _ _
  rw [e]
  have h1 := and_i64 (m / 2 ^ j) 1 (by omega) (by omega)
  have h2 : ((1 : Nat) : Int) = 1 := rfl
  rw [h2] at h1
  rw [h1, Nat.testBit_eq_decide_div_mod_eq, Nat.and_one_is_mod]
  generalize m / 2 ^ j = x
  rcases Nat.mod_two_eq_zero_or_one x with h | h <;> simp [h]



end Go.Proofs.YtkpgnhdmlikopaaGreatDoor

/- Walks: claims.Compare; the reference's. -/
namespace Go.Proofs.YtkpgnhdmlikopaaGreatDoor
open Go.RowKit

theorem cmpC_or (a b : Cl) : orL [cmpI a.1 b.1, cmpI a.2 b.2] = cmpC a b := by
  obtain ⟨a1, a2⟩ := a
  obtain ⟨b1, b2⟩ := b
  unfold cmpC ltC
  simp only [orL, cmpI, Prod.mk.injEq, decide_eq_true_eq]
  by_cases h1 : a1 < b1
  · simp [h1]; omega
  · by_cases h2 : b1 < a1
    · simp [h1, h2]; omega
    · obtain rfl : a1 = b1 := by omega
      by_cases h3 : a2 < b2
      · simp [h3]; omega
      · by_cases h4 : b2 < a2
        · simp [h3, h4]; omega
        · obtain rfl : a2 = b2 := by omega
          simp
set_option maxRecDepth 100000 in
theorem ccmp_w (a b : Cl) (w : World) : Calls Tryz.prog 13 #[.agg #[.int .i64 a.1, .int .i64 a.2], .agg #[.int .i64 b.1, .int .i64 b.2]] w fun e w' => e = .returned (.int .i64 (cmpC a b)) ∧ Fr none w w' ∧ w.drawn ≤ w'.drawn := by
  obtain ⟨C1, hC1⟩ : ∃ C, C = cmpI a.1 b.1 := ⟨_, rfl⟩
  obtain ⟨C2, hC2⟩ : ∃ C, C = cmpI a.2 b.2 := ⟨_, rfl⟩
  have HE : Hid (orL [C1, C2] = cmpC a b) := by unfold Hid; rw [hC1, hC2]; exact cmpC_or a b
  have HW : Hid (∀ n ∈ [C1, C2], Wi n) := by unfold Hid; rw [hC1, hC2]; simp [cmpI_wi]
  have H1 := Lib.hid hC1
  have H2 := Lib.hid hC2
  clear hC1 hC2
  go_enter Tryz.func13, Tryz.ntmps13
  go_upto_region 1 with (fail)
  generalize hW : (w.alloc _).alloc _ = w1
  have F1 : Fr none w w1 := hW ▸ ((Fr.refl none w).alloc _).alloc _
  have D1 : w.drawn ≤ w1.drawn := by rw [← hW]; exact Nat.le_refl _
  have b0 : CB2 w1 w.heap.size (.int .i64 a.1) (.int .i64 a.2) 24 := by rw [← hW]; exact (Below.heap_alloc _ _ _ (by simp)).trans (blk_new _ _)
  have b1 : CB2 w1 (w.heap.size + 1) (.int .i64 b.1) (.int .i64 b.2) 24 := by rw [← hW]; exact blk_new_at (by simp) _
  clear hW
  refine wp_region_held_drew (S := fun W => (W.cell? ⟨w.heap.size, 0, none⟩ = some (.int .i64 a.1) ∧ W.cell? ⟨w.heap.size, 1, none⟩ = some (.int .i64 a.2)) ∧ (W.cell? ⟨w.heap.size + 1, 0, none⟩ = some (.int .i64 b.1) ∧ W.cell? ⟨w.heap.size + 1, 1, none⟩ = some (.int .i64 b.2)) ∧ Fr none w1 W ∧ w.drawn ≤ W.drawn) (by kernel_rfl) ⟨b0.cell, b1.cell, (Fr.refl _ _).drew, Nat.le_succ_of_le D1⟩ (fun hH0 => ?_)
  refine wpAnyH_take (i := 0) (v := ?_) rfl (by kernel_rfl) (by kernel_rfl) (by kernel_rfl) (fun _ _ _ h => h) (Or.inl ⟨by rfl, ?_⟩) (by assumption) ?_
  rotate_left
  · (intro W hW; (try dsimp only at hW); go_simp; try with_reducible rfl)
  try simp only [Act.put, List.setIfInBounds_toArray, List.set_cons_zero, List.set_cons_succ, List.getElem_toArray, List.getElem_cons_zero, List.getElem_cons_succ]
  refine wpAnyH_take (i := 1) (v := ?_) rfl (by kernel_rfl) (by kernel_rfl) (by kernel_rfl) (fun _ _ _ h => h) (Or.inl ⟨by rfl, ?_⟩) (by assumption) ?_
  rotate_left
  · (intro W hW; (try dsimp only at hW); go_simp; try with_reducible rfl)
  try simp only [Act.put, List.setIfInBounds_toArray, List.set_cons_zero, List.set_cons_succ, List.getElem_toArray, List.getElem_cons_zero, List.getElem_cons_succ]
  refine wpAnyH_take (i := 2) (v := ?_) rfl (by kernel_rfl) (by kernel_rfl) (by kernel_rfl) (fun _ _ _ h => h) (Or.inl ⟨by rfl, ?_⟩) (by assumption) ?_
  rotate_left
  · (intro W hW; (try dsimp only at hW); go_simp; try with_reducible rfl)
  try simp only [Act.put, List.setIfInBounds_toArray, List.set_cons_zero, List.set_cons_succ, List.getElem_toArray, List.getElem_cons_zero, List.getElem_cons_succ]
  refine wpAnyH_take (i := 3) (v := ?_) rfl (by kernel_rfl) (by kernel_rfl) (by kernel_rfl) (fun _ _ _ h => h) (Or.inl ⟨by rfl, ?_⟩) (by assumption) ?_
  rotate_left
  · (intro W hW; (try dsimp only at hW); go_simp; try with_reducible rfl)
  try simp only [Act.put, List.setIfInBounds_toArray, List.set_cons_zero, List.set_cons_succ, List.getElem_toArray, List.getElem_cons_zero, List.getElem_cons_succ]
  refine wpAnyH_take (i := 5) (v := ?_) rfl (by kernel_rfl) (by kernel_rfl) (by kernel_rfl) (fun _ _ _ h => h) (Or.inl ⟨by rfl, ?_⟩) (by assumption) ?_
  rotate_left
  · (intro W hW; (try dsimp only at hW); go_simp; try with_reducible rfl)
  try simp only [Act.put, List.setIfInBounds_toArray, List.set_cons_zero, List.set_cons_succ, List.getElem_toArray, List.getElem_cons_zero, List.getElem_cons_succ]
  refine wpAnyH_take (i := 6) (v := ?_) rfl (by kernel_rfl) (by kernel_rfl) (by kernel_rfl) (fun _ _ _ h => h) (Or.inl ⟨by rfl, ?_⟩) (by assumption) ?_
  rotate_left
  · (intro W hW; (try dsimp only at hW); go_simp; try with_reducible rfl)
  try simp only [Act.put, List.setIfInBounds_toArray, List.set_cons_zero, List.set_cons_succ, List.getElem_toArray, List.getElem_cons_zero, List.getElem_cons_succ]
  refine wpAnyH_take (i := 7) (v := ?_) rfl (by kernel_rfl) (by kernel_rfl) (by kernel_rfl) (fun _ _ _ h => h) (Or.inl ⟨by rfl, ?_⟩) (by assumption) ?_
  rotate_left
  · (intro W hW; (try dsimp only at hW); go_simp; try with_reducible rfl)
  try simp only [Act.put, List.setIfInBounds_toArray, List.set_cons_zero, List.set_cons_succ, List.getElem_toArray, List.getElem_cons_zero, List.getElem_cons_succ]
  refine wpAnyH_take (i := 8) (v := ?_) rfl (by kernel_rfl) (by kernel_rfl) (by kernel_rfl) (fun _ _ _ h => h) (Or.inl ⟨by rfl, ?_⟩) (by assumption) ?_
  rotate_left
  · (intro W hW; (try dsimp only at hW); go_simp; try with_reducible rfl)
  try simp only [Act.put, List.setIfInBounds_toArray, List.set_cons_zero, List.set_cons_succ, List.getElem_toArray, List.getElem_cons_zero, List.getElem_cons_succ]
  refine wpAnyH_ready (rs := [4]) (by kernel_rfl) (by simp) ?_
  refine AllReadyH.cons rfl (fun K hK => ?_) AllReadyH.nil
  simp only [List.getElem_toArray, List.getElem_cons_zero, List.getElem_cons_succ]
  go_simp
  go_at_call 38
  refine (cmpCompare_any a.1 b.1 _).mono ?_
  rintro e w2 ⟨rfl, rfl⟩
  refine hK.out _ _ hH0 (fun hH1 => ?_)
  clear hK K hH0
  have hH0 := hH1
  clear hH1
  try simp only [Act.put, List.setIfInBounds_toArray, List.set_cons_zero, List.set_cons_succ, List.getElem_toArray, List.getElem_cons_zero, List.getElem_cons_succ]
  rw [← H1.out]
  refine wpAnyH_ready (rs := [9]) (by kernel_rfl) (by simp) ?_
  refine AllReadyH.cons rfl (fun K hK => ?_) AllReadyH.nil
  simp only [List.getElem_toArray, List.getElem_cons_zero, List.getElem_cons_succ]
  go_simp
  go_at_call 38
  refine (cmpCompare_any a.2 b.2 _).mono ?_
  rintro e w2 ⟨rfl, rfl⟩
  refine hK.out _ _ hH0 (fun hH1 => ?_)
  clear hK K hH0
  have hH0 := hH1
  clear hH1
  try simp only [Act.put, List.setIfInBounds_toArray, List.set_cons_zero, List.set_cons_succ, List.getElem_toArray, List.getElem_cons_zero, List.getElem_cons_succ]
  rw [← H2.out]
  refine wpAnyH_ready (rs := [10]) (by kernel_rfl) (by simp) ?_
  refine AllReadyH.cons rfl (fun K hK => ?_) AllReadyH.nil
  simp only [List.getElem_toArray, List.getElem_cons_zero, List.getElem_cons_succ]
  go_simp
  have FA := hH0.2.2.1.alloc (.cells #[.int .i64 C1, .int .i64 C2] 3)
  have DA := hH0.2.2.2
  refine hK.out _ _ ⟨(b0.fr FA (by simp)).cell, (b1.fr FA (by simp)).cell, FA, DA⟩ (fun hH5 => ?_)
  clear hK K hH0
  try simp only [Act.put, List.setIfInBounds_toArray, List.set_cons_zero, List.set_cons_succ, List.getElem_toArray, List.getElem_cons_zero, List.getElem_cons_succ]
  refine wpAnyH_ready (rs := [11]) (by kernel_rfl) (by simp) ?_
  refine AllReadyH.cons rfl (fun K hK => ?_) AllReadyH.nil
  simp only [List.getElem_toArray, List.getElem_cons_zero, List.getElem_cons_succ]
  go_simp
  go_at_call 37
  refine (or_any [C1, C2] _ _ none ⟨SlD.lit_dm (r := none) #[.int .i64 C1, .int .i64 C2] 3 2 1 rfl (by decide) (by simp) (Fr.refl _ _).drew, HW.out⟩).mono ?_
  rintro e5 w5 ⟨rfl, rfl⟩
  rw [HE.out]
  refine hK.out _ _ hH5 (fun hH6 => ?_)
  clear hK K
  try simp only [Act.put, List.setIfInBounds_toArray, List.set_cons_zero, List.set_cons_succ, List.getElem_toArray, List.getElem_cons_zero, List.getElem_cons_succ]
  refine wpAnyH_take (i := 12) (v := ?_) rfl (by kernel_rfl) (by kernel_rfl) (by kernel_rfl) (fun _ _ _ h => h) (Or.inl ⟨by rfl, ?_⟩) (by assumption) ?_
  rotate_left
  · (intro W hW; (try dsimp only at hW); go_simp; try with_reducible rfl)
  try simp only [Act.put, List.setIfInBounds_toArray, List.set_cons_zero, List.set_cons_succ, List.getElem_toArray, List.getElem_cons_zero, List.getElem_cons_succ]
  refine wpAnyH_done (by kernel_rfl) ?_ _
  go_wp2_with fail
  go_ret
  exact ⟨rfl, F1.pure hH6.2.2.1, hH6.2.2.2⟩
theorem ccmp_any (a b : Cl) (w : World) : Calls Tryz.prog 13 #[.agg #[.int .i64 a.1, .int .i64 a.2], .agg #[.int .i64 b.1, .int .i64 b.2]] w fun e w' => e = .returned (.int .i64 (cmpC a b)) ∧ Fr none w w' :=
  (ccmp_w a b w).mono fun _ _ ⟨h, k, _⟩ => ⟨h, k⟩
set_option maxRecDepth 100000 in
theorem rcmp_any (a b : Cl) (w : World) : Calls Tryz.prog 14 #[.agg #[.int .i64 a.1, .int .i64 a.2], .agg #[.int .i64 b.1, .int .i64 b.2]] w fun e w' => e = .returned (.int .i64 (cmpC a b)) ∧ Fr none w w' := by
  obtain ⟨a1, a2⟩ := a
  obtain ⟨b1, b2⟩ := b
  obtain ⟨C, hC⟩ : ∃ C, C = cmpC (a1, a2) (b1, b2) := ⟨_, rfl⟩
  rw [← hC]
  unfold cmpC ltC at hC
  simp only [Prod.mk.injEq, decide_eq_true_eq] at hC
  by_cases h1 : a1 = b1
  · by_cases h2 : a2 = b2
    · have e1 : (a1 == b1) = true := by rw [beq_iff_eq]; exact h1
      have e2 : (a2 == b2) = true := by rw [beq_iff_eq]; exact h2
      have HC : Hid (C = 0) := by unfold Hid; rw [hC, if_pos ⟨h1, h2⟩]
      clear h1 h2 hC
      go_enter Tryz.func14, Tryz.ntmps14
      go_wp2_with fail
      go_ret
      exact ⟨ret_int HC.out.symm, ((Fr.refl none w).alloc _).alloc _⟩
    · have e1 : (a1 == b1) = true := by rw [beq_iff_eq]; exact h1
      have e2 : (a2 == b2) = false := by rw [beq_eq_false_iff_ne]; exact h2
      have e3 : decide (a1 < b1) = false := decide_eq_false (by omega)
      by_cases h3 : a2 < b2
      · have e4 : decide (a2 < b2) = true := decide_eq_true h3
        have HC : Hid (C = -1) := by unfold Hid; rw [hC, if_neg (fun h => h2 h.2), if_pos (.inr ⟨h1, h3⟩)]
        clear h1 h2 h3 hC
        go_enter Tryz.func14, Tryz.ntmps14
        go_wp2_with fail
        go_ret
        exact ⟨ret_int HC.out.symm, ((Fr.refl none w).alloc _).alloc _⟩
      · have e4 : decide (a2 < b2) = false := decide_eq_false h3
        have HC : Hid (C = 1) := by unfold Hid; rw [hC, if_neg (fun h => h2 h.2), if_neg (by omega)]
        clear h1 h2 h3 hC
        go_enter Tryz.func14, Tryz.ntmps14
        go_wp2_with fail
        go_ret
        exact ⟨ret_int HC.out.symm, ((Fr.refl none w).alloc _).alloc _⟩
  · have e1 : (a1 == b1) = false := by rw [beq_eq_false_iff_ne]; exact h1
    by_cases h3 : a1 < b1
    · have e4 : decide (a1 < b1) = true := decide_eq_true h3
      have HC : Hid (C = -1) := by unfold Hid; rw [hC, if_neg (fun h => h1 h.1), if_pos (.inl h3)]
      clear h1 h3 hC
      go_enter Tryz.func14, Tryz.ntmps14
      go_wp2_with fail
      go_ret
      exact ⟨ret_int HC.out.symm, ((Fr.refl none w).alloc _).alloc _⟩
    · have e4 : decide (a1 < b1) = false := decide_eq_false h3
      have HC : Hid (C = 1) := by unfold Hid; rw [hC, if_neg (fun h => h1 h.1), if_neg (by omega)]
      clear h1 h3 hC
      go_enter Tryz.func14, Tryz.ntmps14
      go_wp2_with fail
      go_ret
      exact ⟨ret_int HC.out.symm, ((Fr.refl none w).alloc _).alloc _⟩
end Go.Proofs.YtkpgnhdmlikopaaGreatDoor

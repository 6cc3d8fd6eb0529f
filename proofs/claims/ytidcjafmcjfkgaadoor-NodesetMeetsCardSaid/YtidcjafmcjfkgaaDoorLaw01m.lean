/- The law NodesetMeets: its walk. -/
import Derived.Test.YtidcjafmcjfkgaaDoorProg
import Derived.Test.YtidcjafmcjfkgaaDoorSetsW
import Derived.Test.YtidcjafmcjfkgaaDoorRNodes
import Derived.Test.YtidcjafmcjfkgaaDoorLeastW
import Derived.Test.YtidcjafmcjfkgaaDoorAwake1
namespace Go.Proofs.YtidcjafmcjfkgaaDoor
open Go.RowKit

/-- y & z != 0, as the program asks it. -/
def meetI (y z : Int) : Bool := bits .and .i64 y z != 0
theorem meetI_dis (y z : Int) : meetI y z = !disI y z := rfl
theorem all_meetI (l : List Int) (y : Int) : (l.all fun z => meetI y z) = !l.any (disI y) := by
  induction l with
  | nil => rfl
  | cons x r ih => rw [List.all_cons, List.any_cons, ih, meetI_dis, Bool.not_or]
theorem bel_belB {n : Nat} {l : List Int} (h : Bel n l) : ∀ x ∈ l, belB x n = true := fun x hx => by
  obtain ⟨a, rfl, ha⟩ := h x hx
  rw [belB_nat]; simpa using ha
theorem meetS_len {l : List Int} {n : Nat} (hn : n ≤ 10) : (meetS l n).length ≤ 1024 := by
  unfold meetS
  have h1 := leastS_len ((ints (2 ^ n)).filter fun s => !(leastS l).any (disI s))
  have h2 := List.length_filter_le (fun s => !(leastS l).any (disI s)) (ints (2 ^ n))
  rw [ints_len] at h2
  have := p10 n hn
  omega
theorem all_snoc (l : List Int) (p : Int → Bool) (q : Nat) (h : q < l.length) : (l.take (q + 1)).all p = ((l.take q).all p && p l[q]) := by
  rw [List.take_succ_eq_append_getElem h, List.all_append]; simp
/-- The nodes of a set, and -1 behind them: what meets all. -/
theorem meets_one {n : Nat} (hn : n ≤ 10) {l : List Int} (h : Bel n l) (i : Nat) (hi : i < (meetS l n).length) (j : Nat) (hj : j < (nodesK (meetS l n)[i] 10 ++ [-1]).length) :
    ∃ a : Nat, (meetS l n)[i] = a ∧ a ≤ 1023 ∧ (((nodesK (meetS l n)[i] 10 ++ [-1])[j] = -1 ∧ (l.all fun z => meetI a z) = true) ∨
      ∃ k : Nat, (nodesK (meetS l n)[i] 10 ++ [-1])[j] = k ∧ k < 10 ∧ 2 ^ k ≤ a ∧ (l.all fun z => meetI ((a - 2 ^ k : Nat) : Int) z) = false) := by
  obtain ⟨a, he, ha, hd, hmin⟩ := (mem_meetS hn h).1 (List.getElem_mem hi)
  have hx : (a : Int) ∈ meetS l n := he ▸ List.getElem_mem hi
  have ha' := Bel.le hn ha
  generalize (meetS l n)[i] = x at *
  subst he
  refine ⟨a, rfl, ha', ?_⟩
  by_cases hj2 : j < (nodesK (a : Int) 10).length
  · rw [List.getElem_append_left hj2]
    have hm : (nodesK (a : Int) 10)[j] ∈ nodesK (a : Int) 10 := List.getElem_mem hj2
    have hf := (List.mem_filter.1 hm).2
    have hb := nodesK_bd a 10 _ hm
    generalize (nodesK (a : Int) 10)[j] = q at *
    obtain ⟨k, rfl⟩ := Int.eq_ofNat_of_zero_le hb.1
    have hk : a.testBit k = true := by simp [hasB] at hf; exact hf.2
    refine .inr ⟨k, rfl, by omega, Nat.ge_two_pow_of_testBit hk, ?_⟩
    rw [all_meetI, meet_less hn h hx hk]; rfl
  · have e : j = (nodesK (a : Int) 10).length := by simp at hj; omega
    subst e
    refine .inl ⟨by simp, ?_⟩
    rw [all_meetI, hd]; rfl
theorem nodes_m1 (s : Int) : ∀ x ∈ nodesK s 10 ++ [-1], Wi x := fun x hx => by
  unfold Wi
  rcases List.mem_append.1 hx with hx | hx
  · have := nodesK_bd s 10 x hx; omega
  · simp at hx; omega

set_option maxRecDepth 100000 in
set_option maxHeartbeats 2000000 in
theorem law01m_any (v : Value) (t : List Int) (w : World) (h : SlI w none v t) : Calls Tryd.prog 4 #[v] w fun e w' => e = .returned (.bool true) ∧ Fr none w w' := by
  go_enter Tryd.func4, Tryd.ntmps4
  go_wp2_with fail
  refine (tapeNew_any _ _ _ h).mono ?_
  rintro e w1 ⟨g, rfl, hg, S1, F1⟩
  go_wp2_with fail
  refine (tapeRange_any 1 8 g _ (by omega) (by omega) (by omega) S1).mono ?_
  rintro e w2 ⟨x, rfl, x1, x2, S2, F2⟩
  obtain ⟨n, rfl⟩ := Int.eq_ofNat_of_zero_le (show 0 ≤ x by omega)
  have hn : n ≤ 10 := by omega
  go_wp2_with fail
  refine (sets_any 8 n g _ (by omega) hn S2).mono ?_
  rintro e w3 ⟨vl, l, rfl, hll, hb, D3, S3, F3⟩
  have SL : SlI w3 none vl l := ⟨D3.keep (dn_dm (by simp)), bel_wi hn hb⟩
  have F03 : Fr none w w3 := F1.own (F2.same F3) (fun q hq => by injection hq with hq; omega)
  clear S1 S2 S3 F1 F2 F3 D3 h
  have HB := Lib.hid hb
  clear hb
  go_wp2_with fail
  refine (meeting_any l _ n hn _ SL (bel_belB HB.out) (by omega)).mono ?_
  rintro e w4 ⟨vm, rfl, D4, F4⟩
  have hone := meets_one hn HB.out
  have hbm := bel_meet hn HB.out
  have hmm := meet_meet hn HB.out
  have hml := meetS_len (l := l) hn
  generalize meetS l n = M at *
  have SM : SlI w4 none vm M := ⟨D4.keep (dn_dm (by simp)), bel_wi hn hbm⟩
  have SL4 := SL.fr F4
  have F04 := F03.pure F4
  have HOne := Lib.hid hone
  have HBm := Lib.hid hbm
  have HMM := Lib.hid hmm
  have HSL := Lib.hid SL4
  have HSM := Lib.hid SM
  obtain ⟨A, c, rfl, q1, q2, hc⟩ := SM.open_
  obtain ⟨B, d, rfl, q3, q4, hd⟩ := SL4.open_
  clear hone hbm hmm D4 F4 SL SM SL4 F03
  go_wp2_with fail
  go_loopw [35] (fun s wr => ∃ i : Nat, i ≤ M.length ∧ s = .int .i64 i ∧ Fr none w4 wr) (fun s _ => M.length - (intOf s).toNat)
  case atStart => exact ⟨0, Nat.zero_le _, rfl, Fr.refl _ _⟩
  case round =>
    obtain ⟨i, hi, rfl, F⟩ := hrel
    have hz := F.size
    by_cases hlt : i < M.length
    · obtain ⟨b, off, rfl, hb, hbr, hcc⟩ := hc (by omega)
      have hck := F.keep (hcc i hlt) (by simp)
      have hone := HOne.out i hlt
      obtain ⟨x, hx⟩ : ∃ x, x = M[i] := ⟨_, rfl⟩
      rw [← hx] at hck hone
      obtain ⟨K, hK⟩ : ∃ K, K = nodesK x 10 := ⟨_, rfl⟩
      have hKl : K.length ≤ 10 := by rw [hK]; exact nodesK_len x 10
      have hKw : ∀ y ∈ K ++ [-1], Wi y := by rw [hK]; exact nodes_m1 x
      rw [← hK] at hone
      have HK := Lib.hid hK
      have HO := Lib.hid hone
      have HKw := Lib.hid hKw
      clear hx hcc hc hK hone hKw
      go_wp2_with (first | (go_at_call 14; refine (rnodes_any _ _).mono ?_; rintro e w5 ⟨A5, c5, rfl, F5, own5⟩; rw [← HK.out] at own5 ⊢) | (at_builtin; refine app_lit eiInt rfl _ _ rfl wr.heap.size A5 K.length c5 _ rfl own5 1 [.int .i64 (-1)] _ _ rfl (by simp) rfl (by simp [Value.oneCell']) (by omega) (by unfold maxLen; omega) (by have := F5.size; omega) ?_; intro A6 c6 w6 own6 F6 bl6))
      have og := own_blk_ge own5
      have own7 : w6.ownsRow wr.heap.size 3 1 (.slice A6 (K.length + 1) c6) (K.length + 1) ((K ++ [-1]).map (Value.int .i64)) := by simpa using own6
      have SK : SlI w6 none (.slice A6 (K.length + 1) c6) (K ++ [-1]) := SlI.of_own (by simpa using own7) (by simp) HKw.out
      have F46 : Fr none w4 w6 := F.pure (F5.own F6 og)
      have HSK := Lib.hid SK
      obtain ⟨L, hL⟩ : ∃ L, L = K ++ [-1] := ⟨_, rfl⟩
      rw [← hL] at HSK HO
      have hLl : K.length + 1 = L.length := by rw [hL]; simp
      have hLi : ((K.length : Int) + 1) = (L.length : Int) := by omega
      rw [hLl] at HSK ⊢
      rw [hLi]
      clear hLi
      obtain ⟨A7, c7, e7, q5, q6, hk⟩ := HSK.out.open_
      injection e7 with e8 e9 e10
      subst e8 e10
      have hd6 : 0 < l.length → ∃ b off, B = some ⟨b, off, none⟩ ∧ ∀ k (hk : k < l.length), w6.cell? ⟨b, off + k, none⟩ = some (.int .i64 l[k]) := fun hp => by
        obtain ⟨b, off, rfl, _, _, hcc⟩ := hd hp
        exact ⟨b, off, rfl, fun k hk => F46.keep (hcc k hk) (by simp)⟩
      clear own5 own6 own7 SK F5 F6 bl6 og hL hLl e9 hck F HK HKw hd
      go_wp2_with fail
      go_loop [44] (fun s => ∃ j : Nat, j ≤ L.length ∧ s = .int .i64 j) (fun s => L.length - (intOf s).toNat)
      case atStart => exact ⟨0, Nat.zero_le _, rfl⟩
      case round =>
        obtain ⟨j, hj, rfl⟩ := hrel
        by_cases hlt2 : j < L.length
        · obtain ⟨b2, off2, rfl, hb2, hbr2, hcc2⟩ := hk (by omega)
          have hck2 := hcc2 j hlt2
          obtain ⟨a, rfl, ha, hq⟩ := HO.out j hlt2
          clear hcc2 hk
          rcases hq with ⟨hq, hall⟩ | ⟨k, hq, hk10, hge, hall⟩
          · rw [hq] at hck2
            have HAll := Lib.hid hall
            clear hq hall
            go_wp2_with fail
            go_loop [57, 13] (fun s u => ∃ (q : Nat) (bb : Bool), q ≤ l.length ∧ s = .int .i64 q ∧ u = .bool bb ∧ Hid (bb = (l.take q).all fun z => meetI (a : Int) z)) (fun s u => l.length - (intOf s).toNat)
            case atStart => exact ⟨0, true, Nat.zero_le _, rfl, rfl, Lib.hid rfl⟩
            case round =>
              obtain ⟨q, bb, hq, rfl, rfl, HBB⟩ := hrel
              by_cases hlt3 : q < l.length
              · obtain ⟨b3, off3, rfl, hcc3⟩ := hd6 (by omega)
                have hck3 := hcc3 q hlt3
                have hst := all_snoc l (fun z => meetI (a : Int) z) q hlt3
                rw [← HBB.out] at hst
                obtain ⟨z, hz3⟩ : ∃ z, z = l[q] := ⟨_, rfl⟩
                rw [← hz3] at hck3 hst
                have HST := Lib.hid hst
                clear hst hz3 hcc3 hd6
                cases bb with
                | true =>
                  go_wp2_with fail
                  go_round
                  case rel => exact ⟨q + 1, meetI (a : Int) z, by omega, by go_num, rfl, Lib.hid (by rw [HST.out]; rfl)⟩
                  case measure => simp [intOf]; omega
                | false =>
                  go_wp2_with fail
                  go_round
                  case rel => exact ⟨q + 1, false, by omega, by go_num, rfl, Lib.hid (by rw [HST.out]; rfl)⟩
                  case measure => simp [intOf]; omega
              · obtain rfl : q = l.length := by omega
                have hbb := HBB.out
                rw [List.take_length, HAll.out] at hbb
                subst hbb
                go_wp2_with fail
                go_round
                case rel => exact ⟨j + 1, by omega, by go_num⟩
                case measure => simp [intOf]; omega
          · rw [hq] at hck2
            obtain ⟨y, hy⟩ : ∃ y : Int, y = ((a - 2 ^ k : Nat) : Int) := ⟨_, rfl⟩
            rw [← hy] at hall
            have hyv : wrap64 ((a : Int) - wrap64 (2 ^ k)) = y := by
              rw [wrap_pow k (by omega), hy]
              have := pow2_lt k (by omega)
              generalize 2 ^ k = p at *
              rw [IntWalk.wrap64_in _ ⟨by omega, by omega⟩]
              omega
            have HY := Lib.hid hyv
            have HAll := Lib.hid hall
            clear hq hall hy hyv hge
            go_wp2_with fail
            rw [HY.out]
            go_loop [57, 13] (fun s u => ∃ (q : Nat) (bb : Bool), q ≤ l.length ∧ s = .int .i64 q ∧ u = .bool bb ∧ Hid (bb = (l.take q).all fun z => meetI y z)) (fun s u => l.length - (intOf s).toNat)
            case atStart => exact ⟨0, true, Nat.zero_le _, rfl, rfl, Lib.hid rfl⟩
            case round =>
              obtain ⟨q, bb, hq, rfl, rfl, HBB⟩ := hrel
              by_cases hlt3 : q < l.length
              · obtain ⟨b3, off3, rfl, hcc3⟩ := hd6 (by omega)
                have hck3 := hcc3 q hlt3
                have hst := all_snoc l (fun z => meetI y z) q hlt3
                rw [← HBB.out] at hst
                obtain ⟨z, hz3⟩ : ∃ z, z = l[q] := ⟨_, rfl⟩
                rw [← hz3] at hck3 hst
                have HST := Lib.hid hst
                clear hst hz3 hcc3 hd6
                cases bb with
                | true =>
                  go_wp2_with fail
                  go_round
                  case rel => exact ⟨q + 1, meetI y z, by omega, by go_num, rfl, Lib.hid (by rw [HST.out]; rfl)⟩
                  case measure => simp [intOf]; omega
                | false =>
                  go_wp2_with fail
                  go_round
                  case rel => exact ⟨q + 1, false, by omega, by go_num, rfl, Lib.hid (by rw [HST.out]; rfl)⟩
                  case measure => simp [intOf]; omega
              · obtain rfl : q = l.length := by omega
                have hbb := HBB.out
                rw [List.take_length, HAll.out] at hbb
                subst hbb
                go_wp2_with fail
                go_round
                case rel => exact ⟨j + 1, by omega, by go_num⟩
                case measure => simp [intOf]; omega
        · obtain rfl : j = L.length := by omega
          go_wp2_with fail
          go_roundw
          case rel => exact ⟨i + 1, by omega, by go_num, F46⟩
          case measure => simp [intOf]; omega
    · obtain rfl : i = M.length := by omega
      have hfin : decide (leastS l = leastS l) = true := by simp
      have hwl : ∀ y ∈ leastS l, Wi y := fun y hy => valid_wi (leastS_mem hy).2
      have HWl := Lib.hid hwl
      clear hwl
      go_wp2_with (first | (go_at_call 13; refine (meeting_any M _ n hn _ (HSM.out.fr F) (bel_belB HBm.out) (by omega)).mono ?_; rintro e w7 ⟨v7, rfl, D7, F7⟩; rw [HMM.out] at D7) | (go_at_call 10; refine (least_any l _ _ ((HSL.out.fr F).fr F7) (by omega)).mono ?_; rintro e w8 ⟨v8, rfl, D8, F8⟩) | (go_at_call 15; refine (ints_any (leastS l) (leastS l) v7 v8 _ ⟨(D7.keep (dn_dm (by simp))).keep (fr_dm F8), HWl.out⟩ ⟨D8.keep (dn_dm (by simp)), HWl.out⟩).mono ?_; rintro e w9 ⟨rfl, F9⟩) | (go_at_call 12; refine (awake1_any _).mono ?_; rintro e w10 ⟨rfl, F10⟩))
      go_ret
      exact ⟨rfl, F04.pure (F.pure (F7.pure (F8.pure (F9.pure F10))))⟩
end Go.Proofs.YtidcjafmcjfkgaaDoor

/- Some texts of this claim, joined: contracts of the functions that it reaches, and plain laws. -/
import Derived.Test.YtkpgnhdmlikopaaGreatDoorProg
import Derived.Test.YtkpgnhdmlikopaaGreatDoorJA14

set_option linter.unusedSimpArgs false
set_option linter.unusedVariables false
/- Walks: the reference's Parse. -/
namespace Go.Proofs.YtkpgnhdmlikopaaGreatDoor
open Go.RowKit

theorem ba_get (S : ByteArray) (p : Nat) (h : p < S.size) : S.data.toList[p]? = some S[p] := by
  rw [Array.getElem?_toList]
  exact Array.getElem?_eq_getElem h
theorem u8_eq {x : UInt8} (h : (x.toNat : Int) = 32) : x = 32 := by
  apply UInt8.toNat_inj.1
  have : (32 : UInt8).toNat = 32 := rfl
  omega
theorem at_no1 {x T : List UInt8} {a : Nat} (h : (T.drop a).take x.length ≠ x) : atC x T a = false := by
  unfold atC
  rw [decide_eq_false h]; rfl
theorem at_no2 {x T : List UInt8} {a : Nat} (h0 : a ≠ 0) (h : T[a - 1]? ≠ some 32) : atC x T a = false := by
  unfold atC
  rw [decide_eq_false h0, decide_eq_false h]; simp
theorem at_no3 {x T : List UInt8} {a : Nat} (h0 : a + x.length ≠ T.length) (h : T[a + x.length]? ≠ some 32) : atC x T a = false := by
  unfold atC
  rw [decide_eq_false h0, decide_eq_false h]; simp
theorem at_yes {x T : List UInt8} {a : Nat} (h1 : (T.drop a).take x.length = x) (h2 : a + x.length ≤ T.length) (h3 : a = 0 ∨ T[a - 1]? = some 32) (h4 : a + x.length = T.length ∨ T[a + x.length]? = some 32) : atC x T a = true := by
  unfold atC
  simp only [Bool.and_eq_true, Bool.or_eq_true, decide_eq_true_eq]
  exact ⟨⟨⟨h1, h2⟩, h3⟩, h4⟩
theorem at_far {x T : List UInt8} {a : Nat} (h : T.length < a + x.length) : atC x T a = false := by
  unfold atC
  rw [decide_eq_false (p := a + x.length ≤ T.length) (by omega)]; simp
theorem occ_yes {x T : List UInt8} {a : Nat} (h : atC x T a = true) (ha : a ≤ T.length) : occC x T = true := by
  unfold occC
  rw [List.any_eq_true]
  exact ⟨a, List.mem_range.2 (by omega), h⟩
theorem occ_no {x T : List UInt8} (h : ∀ a, atC x T a = false) : occC x T = false := by
  unfold occC
  rw [List.any_eq_false]
  intro a _
  rw [h a]; simp
theorem at_more {x T : List UInt8} {a : Nat} (h : ∀ b, b < a → atC x T b = false) (ha : atC x T a = false) : ∀ b, b < a + 1 → atC x T b = false := fun b hb => by
  rcases Nat.lt_or_ge b a with hh | hh
  · exact h b hh
  · obtain rfl : b = a := by omega
    exact ha
/-- What the reference has read of the first n claims. -/
def preR (T : List UInt8) (n : Nat) : List Cl := (pairsC.take n).filter fun c => occC (wrdC c) T
theorem preR_snoc (T : List UInt8) (n : Nat) (hn : n < 128) : preR T (n + 1) = if occC (wrdC (clOf n)) T = true then preR T n ++ [clOf n] else preR T n := by
  unfold preR
  rw [pairs_snoc n hn, List.filter_append]
  by_cases h : occC (wrdC (clOf n)) T = true
  · rw [if_pos h]; simp [List.filter_cons, h]
  · rw [if_neg h]; simp [List.filter_cons, h]
theorem preR_all (T : List UInt8) : preR T 128 = refC T := by unfold preR refC; rw [List.take_of_length_le (by rw [pairs_len]; omega)]
theorem refC_wc (T : List UInt8) : ∀ c ∈ refC T, Wc c := fun c hc => by rw [← refC_plain] at hc; exact srtC_wc _ c hc
theorem wrd_clOf (i k : Nat) (hi : i < 8) (hk : k < 16) : wrdC (clOf (i * 16 + k)) = Lib.itoa (i : Int) ++ [61] ++ Lib.itoa (k : Int) := by
  rw [clOf_mk i k hk]; rfl
set_option maxRecDepth 100000 in
set_option maxHeartbeats 4000000 in
theorem rpar_any (S : ByteArray) (w : World) (hS : S.size ≤ 1073741824) : Calls Tryz.prog 34 #[.string S] w (PaC (parC S.data.toList) w) := by
  by_cases h6 : 6000 < S.size
  · have hd : decide ((6000 : Int) < (S.size : Int)) = true := decide_eq_true (by omega)
    have he : parC S.data.toList = ([], 3) := by unfold parC; rw [if_pos (by rw [ba_len]; exact h6)]
    rw [he]
    clear h6 he
    go_enter Tryz.func34, Tryz.ntmps34
    go_wp2_with fail
    go_ret2
    exact PaC.none_ (Fr.refl _ _)
  · have hd : decide ((6000 : Int) < (S.size : Int)) = false := decide_eq_false (by omega)
    have hz6 : S.size ≤ 6000 := by omega
    obtain ⟨R, hR⟩ : ∃ R, R = parC S.data.toList := ⟨_, rfl⟩
    have HR : Hid (R = if textC (refC S.data.toList) = S.data.toList then (refC S.data.toList, 0) else ([], 2)) := by
      unfold Hid; rw [hR]; unfold parC; rw [if_neg (by rw [ba_len]; omega)]
    rw [← hR]
    clear h6 hR
    go_enter Tryz.func34, Tryz.ntmps34
    go_wp2_with fail
    go_loopw [4, 5] (fun s4 s5 wr => ∃ (i : Nat) (o : List Cl) (A : Option Addr) (c : Nat), i ≤ 8 ∧ s5 = .int .i64 (i : Int) ∧ s4 = .slice A o.length c ∧ Hid (o = preR S.data.toList (i * 16)) ∧ o.length ≤ i * 16 ∧ Fr none w wr ∧ wr.ownsRow w.heap.size 24 2 (.slice A o.length c) o.length (flC o)) (fun _ s5 _ => 8 - (intOf s5).toNat)
    case atStart => exact ⟨0, [], none, 0, by omega, rfl, rfl, rfl, by simp, Fr.refl _ _, World.ownsRow_nil _ _ _ _⟩
    case round =>
      clear hd
      obtain ⟨i, o, A, c, hi, rfl, rfl, HO, hol, F, own⟩ := hrel
      by_cases hlt : i < 8
      · have hd : decide ((i : Int) < 8) = true := decide_eq_true (by omega)
        go_wp2_with fail
        go_loopw [4, 6] (fun s4 s6 wr => ∃ (k : Nat) (o : List Cl) (A : Option Addr) (c : Nat), k ≤ 16 ∧ s6 = .int .i64 (k : Int) ∧ s4 = .slice A o.length c ∧ Hid (o = preR S.data.toList (i * 16 + k)) ∧ o.length ≤ i * 16 + k ∧ Fr none w wr ∧ wr.ownsRow w.heap.size 24 2 (.slice A o.length c) o.length (flC o)) (fun _ s6 _ => 16 - (intOf s6).toNat)
        case atStart => exact ⟨0, o, A, c, by omega, rfl, rfl, HO, hol, F, own⟩
        case round =>
          clear F own hol HO
          obtain ⟨k, o, A, c, hk, rfl, rfl, HO, hol, Fz, own⟩ := hrel
          obtain ⟨wz, hwz⟩ : ∃ wz : World, wz = wr := ⟨_, rfl⟩
          subst hwz
          by_cases hlk : k < 16
          · have hdk : decide ((k : Int) ≤ 15) = true := decide_eq_true (by omega)
            have HSt : Hid (preR S.data.toList (i * 16 + (k + 1)) = if occC (wrdC (clOf (i * 16 + k))) S.data.toList = true then o ++ [((i : Int), (k : Int))] else o) := by
              unfold Hid
              rw [← Nat.add_assoc, preR_snoc _ _ (by omega), ← HO.out]
              congr 2
              rw [clOf_mk i k hlk]
            obtain ⟨N, hN⟩ : ∃ N, N = bC (Lib.itoa (i : Int)) := ⟨_, rfl⟩
            obtain ⟨M, hM⟩ : ∃ M, M = bC (Lib.itoa (k : Int)) := ⟨_, rfl⟩
            have z1 : N.size ≤ 2 := by rw [hN, bC_size]; exact itoa_sz (by omega) (by omega)
            have z2 : M.size ≤ 2 := by rw [hM, bC_size]; exact itoa_sz (by omega) (by omega)
            have z3 : (⟨#[61]⟩ : ByteArray).size = 1 := rfl
            obtain ⟨X1, HX1, y1, k1⟩ := strC_add N ⟨#[61]⟩ (by omega) (by decide)
            obtain ⟨X, HX, y2, k2⟩ := strC_add X1 M (by omega) (by omega)
            have HXw : Hid (X = bC (wrdC (clOf (i * 16 + k)))) := by
              unfold Hid
              rw [HX.out, HX1.out, hN, hM, wrd_clOf i k hlt hlk]
              show bC _ ++ bC [61] ++ bC _ = _
              rw [bC_app, bC_app]
            have HXl : Hid (X.size = (wrdC (clOf (i * 16 + k))).length) := by unfold Hid; rw [HXw.out, bC_size]
            have hX4 : X.size ≤ 5 := by omega
            have hX1 : 1 ≤ X.size := by omega
            have HN' := Lib.hid hN
            have HM' := Lib.hid hM
            clear hN hM HO z3 y1 y2 z1 z2
            go_wp2_with (first
              | (go_at_call 40; refine (itC_sm (i : Int) N HN' (by omega) (by omega) _).mono ?_; rintro e w2 ⟨rfl, hww⟩; subst hww)
              | (go_at_call 40; refine (itC_sm (k : Int) M HM' (by omega) (by omega) _).mono ?_; rintro e w2 ⟨rfl, hww⟩; subst hww))
            go_loopw [4, 9] (fun s4 s9 wr => ∃ a : Nat, s4 = .slice A o.length c ∧ a ≤ S.size + 1 ∧ s9 = .int .i64 (a : Int) ∧ Fr none wz wr ∧ Hid (∀ b, b < a → atC (wrdC (clOf (i * 16 + k))) S.data.toList b = false)) (fun _ s9 _ => S.size + 2 - (intOf s9).toNat)
            case atStart => exact ⟨0, rfl, by omega, rfl, Fr.refl _ _, Lib.hid (fun b hb => by omega)⟩
            case round =>
              obtain ⟨a, rfl, ha, rfl, Fr3, HN⟩ := hrel
              have own3 := own_fr own Fr3 (by simp)
              by_cases hla : a + X.size ≤ S.size
              · have hda : decide ((a : Int) + (X.size : Int) ≤ (S.size : Int)) = true := decide_eq_true (by omega)
                have hct : ((a : Int) + (X.size : Int)).toNat = a + X.size := by omega
                by_cases hq : (S.data.toList.drop a).take (wrdC (clOf (i * 16 + k))).length = wrdC (clOf (i * 16 + k))
                · have g1 : ((S.extract a (a + X.size)).toList == X.toList) = true := by
                    rw [beq_iff_eq, Lib.toList_data, Lib.toList_data, Lib.extract_data, Nat.add_sub_cancel_left, HXl.out, hq, HXw.out, bC_list]
                  have HQ := Lib.hid hq
                  clear hq
                  rcases Nat.eq_zero_or_pos a with e2 | e2
                  · have g2 : ((a : Int) == 0) = true := by rw [beq_iff_eq]; omega
                    have HP : Hid (a = 0 ∨ S.data.toList[a - 1]? = some 32) := .inl e2
                    clear e2
                    by_cases e3 : a + X.size = S.size
                    · have g3 : ((a : Int) + (X.size : Int) == (S.size : Int)) = true := by rw [beq_iff_eq]; omega
                      have HY : Hid (atC (wrdC (clOf (i * 16 + k))) S.data.toList a = true) := at_yes HQ.out (by rw [ba_len, ← HXl.out]; omega) HP.out (.inl (by rw [ba_len, ← HXl.out]; exact e3))
                      clear e3
                      have HS2 : Hid (preR S.data.toList (i * 16 + (k + 1)) = o ++ [((i : Int), (k : Int))]) := by
                        unfold Hid
                        rw [HSt.out, if_pos (occ_yes HY.out (by rw [ba_len]; omega))]
                      have og := own_blk_ge own3
                      have hz3 := Fz.size
                      have hz4 := Fr3.size
                      clear HN HY
                      go_wp2_with (at_builtin; refine app_lit eiClm rfl _ _ rfl w.heap.size A o.length c _ rfl own3 1 [.int .i64 (i : Int), .int .i64 (k : Int)] _ _ rfl (by simp) rfl (by simp [Value.oneCell']) (by omega) (by unfold maxLen; omega) (by omega) ?_; intro A' c' w' own' F' bl')
                      have hln : (o ++ [((i : Int), (k : Int))]).length = o.length + 1 := by simp
                      go_roundw
                      case rel => exact ⟨k + 1, o ++ [((i : Int), (k : Int))], A', c', by omega, by go_num, by rw [hln], HS2.out.symm, by rw [hln]; omega, (Fz.pure Fr3).own F' og, by rw [hln, flC_snoc]; exact own'⟩
                      case measure => simp [intOf]; omega
                    · have g3 : ((a : Int) + (X.size : Int) == (S.size : Int)) = false := by rw [beq_eq_false_iff_ne]; omega
                      have hlt3 : a + X.size < S.size := by omega
                      have hg3 : S.data.toList[a + X.size]? = some S[a + X.size] := ba_get S _ hlt3
                      have hct3 : ((a : Int) + (X.size : Int)).toNat = a + X.size := by omega
                      by_cases h32 : S[a + X.size] = 32
                      · have g4 : ((S[a + X.size].toNat : Int) == 32) = true := by rw [h32]; rfl
                        have HY : Hid (atC (wrdC (clOf (i * 16 + k))) S.data.toList a = true) := at_yes HQ.out (by rw [ba_len, ← HXl.out]; omega) HP.out (.inr (by rw [← HXl.out, hg3, h32]))
                        clear e3 h32 hg3
                        have HS2 : Hid (preR S.data.toList (i * 16 + (k + 1)) = o ++ [((i : Int), (k : Int))]) := by
                          unfold Hid
                          rw [HSt.out, if_pos (occ_yes HY.out (by rw [ba_len]; omega))]
                        have og := own_blk_ge own3
                        have hz3 := Fz.size
                        have hz4 := Fr3.size
                        clear HN HY
                        go_wp2_with (at_builtin; refine app_lit eiClm rfl _ _ rfl w.heap.size A o.length c _ rfl own3 1 [.int .i64 (i : Int), .int .i64 (k : Int)] _ _ rfl (by simp) rfl (by simp [Value.oneCell']) (by omega) (by unfold maxLen; omega) (by omega) ?_; intro A' c' w' own' F' bl')
                        have hln : (o ++ [((i : Int), (k : Int))]).length = o.length + 1 := by simp
                        go_roundw
                        case rel => exact ⟨k + 1, o ++ [((i : Int), (k : Int))], A', c', by omega, by go_num, by rw [hln], HS2.out.symm, by rw [hln]; omega, (Fz.pure Fr3).own F' og, by rw [hln, flC_snoc]; exact own'⟩
                        case measure => simp [intOf]; omega
                      · have g4 : ((S[a + X.size].toNat : Int) == 32) = false := by
                          rw [beq_eq_false_iff_ne]
                          intro h
                          exact h32 (u8_eq (by omega))
                        have HNa : Hid (atC (wrdC (clOf (i * 16 + k))) S.data.toList a = false) := at_no3 (by rw [ba_len, ← HXl.out]; exact e3) (by rw [← HXl.out, hg3]; intro h; exact h32 (Option.some.inj h))
                        clear e3 h32 hg3
                        go_wp2_with fail
                        go_roundw
                        case rel => exact ⟨a + 1, rfl, by omega, by go_num, Fr3, Lib.hid (at_more HN.out HNa.out)⟩
                        case measure => simp [intOf]; omega
                  · have g2 : ((a : Int) == 0) = false := by rw [beq_eq_false_iff_ne]; omega
                    obtain ⟨p, hp⟩ : ∃ p, p = a - 1 := ⟨_, rfl⟩
                    have hps : p < S.size := by omega
                    have hgp : S.data.toList[a - 1]? = some S[p] := by rw [← hp]; exact ba_get S p hps
                    have hwp : IntKind.i64.wrap ((a : Int) - 1) = (p : Int) := by rw [show ((a : Int) - 1) = (p : Int) by omega]; exact IntWalk.i64_in _ (by omega)
                    have hap : ((a : Int) - 1) = (p : Int) := by omega
                    have he2 : a ≠ 0 := by omega
                    have HE2 := Lib.hid he2
                    clear he2 hp
                    by_cases h32 : S[p] = 32
                    · have gp : ((S[p].toNat : Int) == 32) = true := by rw [h32]; rfl
                      have HP : Hid (a = 0 ∨ S.data.toList[a - 1]? = some 32) := .inr (by rw [hgp, h32])
                      clear h32 hgp
                      by_cases e3 : a + X.size = S.size
                      · have g3 : ((a : Int) + (X.size : Int) == (S.size : Int)) = true := by rw [beq_iff_eq]; omega
                        have HY : Hid (atC (wrdC (clOf (i * 16 + k))) S.data.toList a = true) := at_yes HQ.out (by rw [ba_len, ← HXl.out]; omega) HP.out (.inl (by rw [ba_len, ← HXl.out]; exact e3))
                        clear e3
                        have HS2 : Hid (preR S.data.toList (i * 16 + (k + 1)) = o ++ [((i : Int), (k : Int))]) := by
                          unfold Hid
                          rw [HSt.out, if_pos (occ_yes HY.out (by rw [ba_len]; omega))]
                        have og := own_blk_ge own3
                        have hz3 := Fz.size
                        have hz4 := Fr3.size
                        clear HN HY
                        go_wp2_with (at_builtin; refine app_lit eiClm rfl _ _ rfl w.heap.size A o.length c _ rfl own3 1 [.int .i64 (i : Int), .int .i64 (k : Int)] _ _ rfl (by simp) rfl (by simp [Value.oneCell']) (by omega) (by unfold maxLen; omega) (by omega) ?_; intro A' c' w' own' F' bl')
                        have hln : (o ++ [((i : Int), (k : Int))]).length = o.length + 1 := by simp
                        go_roundw
                        case rel => exact ⟨k + 1, o ++ [((i : Int), (k : Int))], A', c', by omega, by go_num, by rw [hln], HS2.out.symm, by rw [hln]; omega, (Fz.pure Fr3).own F' og, by rw [hln, flC_snoc]; exact own'⟩
                        case measure => simp [intOf]; omega
                      · have g3 : ((a : Int) + (X.size : Int) == (S.size : Int)) = false := by rw [beq_eq_false_iff_ne]; omega
                        have hlt3 : a + X.size < S.size := by omega
                        have hg3 : S.data.toList[a + X.size]? = some S[a + X.size] := ba_get S _ hlt3
                        have hct3 : ((a : Int) + (X.size : Int)).toNat = a + X.size := by omega
                        by_cases h32 : S[a + X.size] = 32
                        · have g4 : ((S[a + X.size].toNat : Int) == 32) = true := by rw [h32]; rfl
                          have HY : Hid (atC (wrdC (clOf (i * 16 + k))) S.data.toList a = true) := at_yes HQ.out (by rw [ba_len, ← HXl.out]; omega) HP.out (.inr (by rw [← HXl.out, hg3, h32]))
                          clear e3 h32 hg3
                          have HS2 : Hid (preR S.data.toList (i * 16 + (k + 1)) = o ++ [((i : Int), (k : Int))]) := by
                            unfold Hid
                            rw [HSt.out, if_pos (occ_yes HY.out (by rw [ba_len]; omega))]
                          have og := own_blk_ge own3
                          have hz3 := Fz.size
                          have hz4 := Fr3.size
                          clear HN HY
                          go_wp2_with (at_builtin; refine app_lit eiClm rfl _ _ rfl w.heap.size A o.length c _ rfl own3 1 [.int .i64 (i : Int), .int .i64 (k : Int)] _ _ rfl (by simp) rfl (by simp [Value.oneCell']) (by omega) (by unfold maxLen; omega) (by omega) ?_; intro A' c' w' own' F' bl')
                          have hln : (o ++ [((i : Int), (k : Int))]).length = o.length + 1 := by simp
                          go_roundw
                          case rel => exact ⟨k + 1, o ++ [((i : Int), (k : Int))], A', c', by omega, by go_num, by rw [hln], HS2.out.symm, by rw [hln]; omega, (Fz.pure Fr3).own F' og, by rw [hln, flC_snoc]; exact own'⟩
                          case measure => simp [intOf]; omega
                        · have g4 : ((S[a + X.size].toNat : Int) == 32) = false := by
                            rw [beq_eq_false_iff_ne]
                            intro h
                            exact h32 (u8_eq (by omega))
                          have HNa : Hid (atC (wrdC (clOf (i * 16 + k))) S.data.toList a = false) := at_no3 (by rw [ba_len, ← HXl.out]; exact e3) (by rw [← HXl.out, hg3]; intro h; exact h32 (Option.some.inj h))
                          clear e3 h32 hg3
                          go_wp2_with fail
                          go_roundw
                          case rel => exact ⟨a + 1, rfl, by omega, by go_num, Fr3, Lib.hid (at_more HN.out HNa.out)⟩
                          case measure => simp [intOf]; omega
                    · have gp : ((S[p].toNat : Int) == 32) = false := by
                        rw [beq_eq_false_iff_ne]
                        intro h
                        exact h32 (u8_eq (by omega))
                      have HNa : Hid (atC (wrdC (clOf (i * 16 + k))) S.data.toList a = false) := at_no2 HE2.out (by rw [hgp]; intro h; exact h32 (Option.some.inj h))
                      clear h32 hgp
                      go_wp2_with fail
                      go_roundw
                      case rel => exact ⟨a + 1, rfl, by omega, by go_num, Fr3, Lib.hid (at_more HN.out HNa.out)⟩
                      case measure => simp [intOf]; omega
                · have g1 : ((S.extract a (a + X.size)).toList == X.toList) = false := by
                    rw [beq_eq_false_iff_ne, Lib.toList_data, Lib.toList_data, Lib.extract_data, Nat.add_sub_cancel_left, HXl.out]
                    intro h
                    exact hq (by rw [h, HXw.out, bC_list])
                  have HNa : Hid (atC (wrdC (clOf (i * 16 + k))) S.data.toList a = false) := at_no1 hq
                  clear hq
                  go_wp2_with fail
                  go_roundw
                  case rel => exact ⟨a + 1, rfl, by omega, by go_num, Fr3, Lib.hid (at_more HN.out HNa.out)⟩
                  case measure => simp [intOf]; omega
              · have hda : decide ((a : Int) + (X.size : Int) ≤ (S.size : Int)) = false := decide_eq_false (by omega)
                have HS2 : Hid (o = preR S.data.toList (i * 16 + (k + 1))) := by
                  unfold Hid
                  rw [HSt.out, if_neg]
                  rw [occ_no (fun b => ?_)]
                  · simp
                  · rcases Nat.lt_or_ge b a with hh | hh
                    · exact HN.out b hh
                    · exact at_far (by rw [ba_len, ← HXl.out]; omega)
                clear HN
                go_wp2_with fail
                go_roundw
                case rel => exact ⟨k + 1, o, A, c, by omega, by go_num, rfl, HS2, by omega, Fz.pure Fr3, own3⟩
                case measure => simp [intOf]; omega
          · obtain rfl : k = 16 := by omega
            go_wp2_with fail
            go_roundw
            case rel => exact ⟨i + 1, o, A, c, by omega, by go_num, rfl, by unfold Hid; rw [HO.out]; congr 1; omega, by omega, Fz, own⟩
            case measure => simp [intOf]; omega
      · obtain rfl : i = 8 := by omega
        have HF : Hid (o = refC S.data.toList) := by unfold Hid; rw [HO.out]; exact preR_all _
        have hsl : SlC wr none (.slice A o.length c) o := SlC.of_own own (by simp) (by rw [HF.out]; exact refC_wc _)
        have ownF : Hid (∀ w', Fr none wr w' → SlD w' (Dn w.heap.size w') 2 (.slice A o.length c) (flC o)) := fun w' F' => (SlD.own_dn own).keep (dn_fr F' (by simp))
        have F0 : Fr none w wr := F
        have hol2 : o.length ≤ 1000000 := by omega
        obtain ⟨wz, hwz⟩ : ∃ wz : World, wz = wr := ⟨_, rfl⟩
        subst hwz
        clear own hol HO
        go_wp2_with fail
        refine (rtxt_any o _ _ hsl).mono ?_
        rintro e w3 ⟨rfl, F3⟩
        obtain ⟨X, hX⟩ : ∃ X, X = bC (textC o) := ⟨_, rfl⟩
        rw [← hX]
        by_cases he : X = S
        · have hb : (X.toList == S.toList) = true := by rw [he, beq_iff_eq]
          have hb2 : (S.toList == S.toList) = true := by rw [beq_iff_eq]
          have hr : Hid (R = (o, 0)) := by
            unfold Hid
            rw [HR.out, if_pos (by rw [← HF.out, ← he, hX, bC_list]), ← HF.out]
          clear he hX
          go_wp2_with fail
          go_ret2
          rw [hr.out]
          exact ⟨_, rfl, ownF.out _ F3, (by show ∀ c ∈ o, Wc c; rw [HF.out]; exact refC_wc _), F0.pure F3⟩
        · have hb : (X.toList == S.toList) = false := by
            rw [beq_eq_false_iff_ne]
            intro h
            rw [ByteArray.toList_eq, ByteArray.toList_eq] at h
            exact he (ba_eq h)
          have hr : Hid (R = ([], 2)) := by
            unfold Hid
            rw [HR.out, if_neg]
            intro h
            apply he
            rw [hX, HF.out, h]; exact (bC_of S).symm
          clear he hX
          go_wp2_with fail
          go_ret2
          rw [hr.out]
          exact PaC.none_ (F0.pure F3)
end Go.Proofs.YtkpgnhdmlikopaaGreatDoor

/- The law NodesetNext: its walk, and why it holds. -/
import Derived.Test.YtidnnjgiogklaaaDoorProg
import Derived.Test.YtidnnjgiogklaaaDoorNs2
import Derived.Test.YtidnnjgiogklaaaDoorNsT
import Derived.Test.YtidnnjgiogklaaaDoorLaw01P
import Derived.Test.YtidnnjgiogklaaaDoorMeet
import Derived.Test.YtidnnjgiogklaaaDoorInts
namespace Go.Proofs.YtidnnjgiogklaaaDoor
open Go.RowKit

theorem wi_of {l : List Int} (h : l.all (fun x => decide (-1024 ≤ x ∧ x ≤ 1024)) = true) : ∀ x ∈ l, Wi x := fun x hx => by
  have := List.all_eq_true.1 h x hx
  simp only [decide_eq_true_eq] at this
  unfold Wi
  omega

set_option maxRecDepth 100000 in
theorem awake1_any (w : World) : Calls Tryd.prog 44 #[] w fun e w' => e = .returned (.bool true) ∧ Fr none w w' := by
  go_enter Tryd.func44, Tryd.ntmps44
  go_wp2_with (first | (go_at_call 41; refine (next_any 37 6 (by decide) (by decide) _).mono ?_; rintro e w' ⟨rfl, rfl⟩; rw [next37]) | (go_at_call 77; refine (meeting_any [3, 6] _ 3 (by decide) _ ⟨SlD.lit_dm #[.int .i64 3, .int .i64 6] _ 2 1 rfl (by decide) (by simp) (Fr.refl _ _), wi_of (by decide)⟩ (by decide) (by decide)).mono ?_; rintro e w1 ⟨v1, rfl, S1, F1⟩; rw [meet36] at S1) | (go_at_call 78; refine (text_any 37 _).mono ?_; rintro e w2 ⟨rfl, F2⟩; rw [text37]) | (go_at_call 79; refine (ints_any [2, 5] [2, 5] v1 _ _ ⟨((S1.keep (dn_dm (r := none) (by simp))).keep (fr_dm F2)).keep (fr_dm ((Fr.refl none w2).alloc _)), wi_of (by decide)⟩ ⟨SlD.lit_dm #[.int .i64 2, .int .i64 5] _ 2 1 rfl (by decide) (by simp) (Fr.refl _ _), wi_of (by decide)⟩).mono ?_; rintro e w3 ⟨rfl, F3⟩))
  go_ret
  exact ⟨ret_bool (by decide), (((Fr.refl none w).alloc _).pure F1).pure (F2.pure (((Fr.refl none w2).alloc _).pure F3))⟩

set_option maxRecDepth 100000 in
theorem law01_any (n : Nat) (hn : n < 256) (w : World) : Calls Tryd.prog 11 #[.int .u8 n] w fun e w' => e = .returned (.bool true) ∧ Fr none w w' := by
  obtain ⟨m, hm⟩ : ∃ m, m = n % 11 := ⟨_, rfl⟩
  have hm10 : m ≤ 10 := by omega
  have hmn : ((n : Int).tmod 11) = m := by rw [hm, Int.tmod_eq_emod_of_nonneg (by omega)]; omega
  have hmn2 : ((n : Int) % 11) = m := by omega
  have hg := goN_all ⟨m, by omega⟩
  have hp := p10 m hm10
  obtain ⟨N2, hN2⟩ : ∃ x, x = 2 ^ m := ⟨_, rfl⟩
  have hpos : 0 < N2 := by rw [hN2]; exact Nat.two_pow_pos m
  have hw2 : wrap64 (2 ^ m) = (N2 : Int) := by rw [hN2]; exact wrap_pow m (by omega)
  simp only [← hN2] at hg hp
  have HN := Lib.hid hN2
  have HG := Lib.hid hg
  have HW := Lib.hid hw2
  have HMN := Lib.hid hmn
  have HMN2 := Lib.hid hmn2
  clear hN2 hg hw2 hm hmn hmn2
  go_enter Tryd.func11, Tryd.ntmps11
  go_wp2_with fail
  rw [HMN2.out]
  go_loopw [4, 6, 7, 8, 12, 13, 14, 15, 16, 17, 18, 19, 20, 21, 22, 23, 24, 25, 26, 27, 28, 29, 30, 31, 32, 33, 34, 35, 36, 37, 38, 39, 40, 41, 42, 43, 44, 45, 46, 47, 48] (fun s4 s6 s7 s8 s12 s13 s14 s15 s16 s17 s18 s19 s20 s21 s22 s23 s24 s25 s26 s27 s28 s29 s30 s31 s32 s33 s34 s35 s36 s37 s38 s39 s40 s41 s42 s43 s44 s45 s46 s47 s48 wr => ∃ (i s : Nat), 1 ≤ i ∧ i ≤ N2 ∧ s < N2 ∧ s4 = .int .i64 s ∧ s6 = .int .i64 i ∧ Hid (goN m s (N2 - i) = true) ∧ Fr none w wr) (fun s4 s6 s7 s8 s12 s13 s14 s15 s16 s17 s18 s19 s20 s21 s22 s23 s24 s25 s26 s27 s28 s29 s30 s31 s32 s33 s34 s35 s36 s37 s38 s39 s40 s41 s42 s43 s44 s45 s46 s47 s48 _ => N2 - (intOf s6).toNat)
  case atStart => exact ⟨1, 0, Nat.le_refl _, hpos, hpos, rfl, rfl, HG, Fr.refl _ _⟩
  case round =>
    obtain ⟨i, s, hi1, hi2, hs, rfl, rfl, HI, F⟩ := hrel
    have hs2 := Lib.hid (show s < 2 ^ m by rw [← HN.out]; exact hs)
    by_cases hlt : i < N2
    · have hgo := HI.out
      rw [show N2 - i = (N2 - (i + 1)) + 1 from by omega] at hgo
      simp only [goN, Bool.and_eq_true, decide_eq_true_eq, beq_iff_eq] at hgo
      obtain ⟨⟨⟨g1, g2⟩, g3⟩, g4⟩ := hgo
      obtain ⟨x, hx⟩ : ∃ x, x = nextR s m := ⟨_, rfl⟩
      rw [← hx] at g1 g2 g3 g4
      obtain ⟨x, y⟩ := x
      simp only at g1 g2 g3 g4
      subst g1
      have HX := Lib.hid hx.symm
      have G3 := Lib.hid g3
      have G4 := Lib.hid g4
      rw [← HN.out] at g2
      have hw := HW.out
      clear hx g3 g4
      go_wp2_with (first | (go_at_call 41; refine (next_any s m hm10 hs2.out _).mono ?_; rintro e w' ⟨rfl, rfl⟩; rw [HX.out]) | (go_at_call 42; refine (compare_any _ _ _).mono ?_; rintro e w1 ⟨rfl, F1⟩; rw [G3.out]) | (go_at_call 43; refine (rcompare_lt _ _ G3.out _).mono ?_; rintro e w' ⟨rfl, rfl⟩))
      go_roundw
      case rel => exact ⟨i + 1, x, by omega, by omega, g2, rfl, by go_num, G4, F.pure F1⟩
      case measure => simp [intOf]; omega
    · obtain rfl : i = N2 := by omega
      have hgo := HI.out
      rw [show i - i = 0 from by omega] at hgo
      simp only [goN, Bool.and_eq_true, beq_iff_eq] at hgo
      obtain ⟨g1, g2⟩ := hgo
      rw [← HN.out] at g2
      obtain ⟨j, rfl⟩ : ∃ j, i = j + 1 := ⟨i - 1, by omega⟩
      obtain rfl : s = j := by omega
      obtain ⟨x, hx⟩ : ∃ x, x = nextR s m := ⟨_, rfl⟩
      rw [← hx] at g1
      obtain ⟨x, y⟩ := x
      simp only at g1
      subst g1
      have HX := Lib.hid hx.symm
      have hw := HW.out
      clear hx g2
      go_wp2_with (first | (go_at_call 41; refine (next_any s m hm10 hs2.out _).mono ?_; rintro e w' ⟨rfl, rfl⟩; rw [HX.out]) | (go_at_call 44; refine (awake1_any _).mono ?_; rintro e w1 ⟨rfl, F1⟩))
      go_ret
      exact ⟨rfl, F.pure F1⟩

theorem law01_card (a : Int) (w : World) (h : (Lit.int .u8 a).wf = true) : Calls Tryd.prog 11 #[.int .u8 a] w fun e w' => e = .returned (.bool true) ∧ Fr none w w' := by
  have hb : 0 ≤ a ∧ a ≤ 255 := by
    simp only [Lit.wf, Bool.and_eq_true, decide_eq_true_eq] at h
    exact h
  obtain ⟨n, rfl⟩ := Int.eq_ofNat_of_zero_le hb.1
  exact law01_any n (by omega) w
end Go.Proofs.YtidnnjgiogklaaaDoor

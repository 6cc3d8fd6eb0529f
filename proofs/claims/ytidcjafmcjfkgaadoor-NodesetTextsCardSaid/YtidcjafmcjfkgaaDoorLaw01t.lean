/- The law NodesetTexts: its walk. -/
import Derived.Test.YtidcjafmcjfkgaaDoorProg
import Derived.Test.YtidcjafmcjfkgaaDoorParse1
import Derived.Test.YtidcjafmcjfkgaaDoorOfW
import Derived.Test.YtidcjafmcjfkgaaDoorAwake1
namespace Go.Proofs.YtidcjafmcjfkgaaDoor
open Go.RowKit

theorem textS_inj (x y : Nat) (hx : x ≤ 1023) (hy : y ≤ 1023) : (textS (x : Int) = textS (y : Int)) ↔ x = y := by
  constructor
  · intro h
    have hv : ∀ s : Nat, s ≤ 1023 → validB (s : Int) = true := fun s hs => by simp [validB]; omega
    rw [textS_tx _ (hv x hx), textS_tx _ (hv y hy)] at h
    have h2 : tx (x : Int) = tx (y : Int) := by
      have := congrArg (fun v : ByteArray => v.data.toList) h
      simpa using this
    have h3 := gat_tx ⟨x, by omega⟩
    have h4 := gat_tx ⟨y, by omega⟩
    simp only at h3 h4
    rw [h2, h4] at h3
    exact h3.symm
  · rintro rfl; rfl

set_option maxRecDepth 100000 in
set_option maxHeartbeats 1000000 in
theorem law01t_any (a b : Nat) (ha : a < 65536) (hb : b < 65536) (w : World) : Calls Tryd.prog 6 #[.int .u16 a, .int .u16 b] w fun e w' => e = .returned (.bool true) ∧ Fr none w w' := by
  obtain ⟨x, hxa⟩ : ∃ x, x = a % 1024 := ⟨_, rfl⟩
  obtain ⟨y, hyb⟩ : ∃ y, y = b % 1024 := ⟨_, rfl⟩
  have hx : x ≤ 1023 := by omega
  have hy : y ≤ 1023 := by omega
  have hmx : (a : Int) % 1024 = x := by omega
  have hmy : (b : Int) % 1024 = y := by omega
  have HMX := Lib.hid hmx
  have HMY := Lib.hid hmy
  have hof := of_nodes ⟨x, by omega⟩
  simp only at hof
  have HOf := Lib.hid hof
  have hwi : ∀ k ∈ nodesK (x : Int) 10, Wi k := fun k hk => by
    have := nodesK_bd x 10 k hk
    unfold Wi
    omega
  have HW := Lib.hid hwi
  clear hxa hyb hmx hmy hof hwi
  by_cases hxy : x = y
  · subst hxy
    have hq : ((textS (x : Int)).toList == (textS (x : Int)).toList) = ((x : Int) == (x : Int)) := by rw [beq_self_eq_true, beq_self_eq_true]
    go_enter Tryd.func6, Tryd.ntmps6
    go_wp2_with (first | (go_at_call 21; (try rw [HMX.out, HMY.out]); refine (text_any _ _).mono ?_; rintro e w1 ⟨rfl, F1⟩) | (go_at_call 20; refine (parse1_any x hx _).mono ?_; rintro e w2 ⟨rfl, F2⟩) | (go_at_call 23; refine (nodes_any _ _).mono ?_; rintro e w3 ⟨A, c, rfl, F3, O3⟩; have S3 := SlI.of_own (r := none) O3 (by simp) HW.out) | (go_at_call 22; refine (of_any _ _ _ none S3).mono ?_; rintro e w' ⟨rfl, rfl⟩; rw [HOf.out]) | (go_at_call 12; refine (awake1_any _).mono ?_; rintro e w6 ⟨rfl, F6⟩))
    all_goals go_ret
    exact ⟨rfl, (((((‹Fr none w _›.pure F2).pure F3).pure ‹Fr none w3 _›).pure F1).pure F6)⟩
  · have hne : ¬ textS (x : Int) = textS (y : Int) := fun h => hxy ((textS_inj x y hx hy).1 h)
    have hne2 : ¬ (x : Int) = (y : Int) := by omega
    have hq : ((textS (x : Int)).toList == (textS (y : Int)).toList) = ((x : Int) == (y : Int)) := by
      rw [beq_eq_false_iff_ne.2 hne2, beq_eq_false_iff_ne, ByteArray.toList_eq, ByteArray.toList_eq]
      intro h
      apply hne
      apply ByteArray.ext
      exact Array.toList_inj.1 h
    clear hne hne2
    go_enter Tryd.func6, Tryd.ntmps6
    go_wp2_with (first | (go_at_call 21; (try rw [HMX.out, HMY.out]); refine (text_any _ _).mono ?_; rintro e w1 ⟨rfl, F1⟩) | (go_at_call 20; refine (parse1_any x hx _).mono ?_; rintro e w2 ⟨rfl, F2⟩) | (go_at_call 23; refine (nodes_any _ _).mono ?_; rintro e w3 ⟨A, c, rfl, F3, O3⟩; have S3 := SlI.of_own (r := none) O3 (by simp) HW.out) | (go_at_call 22; refine (of_any _ _ _ none S3).mono ?_; rintro e w' ⟨rfl, rfl⟩; rw [HOf.out]) | (go_at_call 12; refine (awake1_any _).mono ?_; rintro e w6 ⟨rfl, F6⟩))
    all_goals go_ret
    exact ⟨rfl, (((((‹Fr none w _›.pure F2).pure F3).pure ‹Fr none w3 _›).pure F1).pure F6)⟩
theorem law01t_card (a b : Int) (w : World) (ha : (Lit.int .u16 a).wf = true) (hb : (Lit.int .u16 b).wf = true) : Calls Tryd.prog 6 #[.int .u16 a, .int .u16 b] w fun e w' => e = .returned (.bool true) ∧ Fr none w w' := by
  simp only [Lit.wf, Bool.and_eq_true, decide_eq_true_eq] at ha hb
  obtain ⟨ha0, ha1⟩ : 0 ≤ a ∧ a ≤ 65535 := ha
  obtain ⟨hb0, hb1⟩ : 0 ≤ b ∧ b ≤ 65535 := hb
  obtain ⟨n, rfl⟩ := Int.eq_ofNat_of_zero_le ha0
  obtain ⟨m, rfl⟩ := Int.eq_ofNat_of_zero_le hb0
  exact law01t_any n m (by omega) (by omega) w
end Go.Proofs.YtidcjafmcjfkgaaDoor

/- Walks: Of of package nodeset and of the reference. By gen_of.py. -/
import Derived.Test.YtpdhckbiioobhaaGreatDoorSet
namespace Go.Proofs.YtpdhckbiioobhaaGreatDoor
open Go.RowKit

theorem hasB_nat {m j : Nat} (hm : m < 1024) (hj : j < 10) : hasB (m : Int) (j : Int) = m.testBit j := by
  have h1 : (0 : Int) ≤ (m : Int) ∧ (m : Int) ≤ 1023 := by omega
  have h2 : (0 : Int) ≤ (j : Int) ∧ (j : Int) < 10 := by omega
  simp only [hasB, validB]
  rw [decide_eq_true h1, decide_eq_true h2]
  simp

set_option maxHeartbeats 1000000 in
theorem rof_any (l : List Int) (v : Value) (w : World) (r : Option Nat) (h : SlI w r v l) :
    Calls Tryz.prog 139 #[v] w fun e w' => e = .returned (.tuple #[.int .i64 (ofS l 0).1, .int .i64 (ofS l 0).2]) ∧ w = w' := by
  obtain ⟨A, c, rfl, q1, q2, hc⟩ := h.open_
  go_enter Tryz.func139, Tryz.ntmps139
  go_wp2_with fail
  go_loop [4, 9] (fun s i => ∃ k m : Nat, k ≤ l.length ∧ i = .int .i64 k ∧ s = .int .i64 m ∧ m < 1024 ∧ Hid (ofS l 0 = ofS (l.drop k) m)) (fun _ i => l.length - (intOf i).toNat)
  case atStart => exact ⟨0, 0, Nat.zero_le _, rfl, rfl, by omega, by simp [Hid]⟩
  case round =>
    obtain ⟨k, m, hk, rfl, rfl, hm, ho⟩ := hrel
    by_cases hlt : k < l.length
    · obtain ⟨b, off, rfl, hb, hbr, hcc⟩ := hc (by omega)
      have hck := hcc k hlt
      have hd : Hid (l.drop k = l[k] :: l.drop (k + 1)) := List.drop_eq_getElem_cons hlt
      clear hcc hc
      by_cases hr : l[k] < 0 ∨ 10 ≤ l[k]
      · have hfin : Hid (ofS l 0 = (0, 5)) := by
          unfold Hid
          rw [ho.out, hd.out]
          simp only [ofS]
          rw [if_pos hr]
        rcases hr with hr | hr
        all_goals
          go_wp2_with fail
          go_ret2
          exact ⟨by rw [hfin.out]; rfl, rfl⟩
      · obtain ⟨j, hj⟩ := Int.eq_ofNat_of_zero_le (show 0 ≤ l[k] by omega)
        have hj10 : j < 10 := by omega
        have hstep : Hid (ofS l 0 = if m.testBit j then (0, 6) else ofS (l.drop (k + 1)) (m ||| 2 ^ j)) := by
          unfold Hid
          rw [ho.out, hd.out]
          simp only [ofS]
          rw [if_neg hr, hj]
          rfl
        rw [hj] at hck
        have hhas := hasB_nat hm hj10
        have hp := pow2_lt j (by omega)
        have hp2 : 2 ^ j < 2 ^ 10 := Nat.pow_lt_pow_right (by omega) hj10
        have hor : m ||| 2 ^ j < 2 ^ 10 := Nat.or_lt_two_pow (by omega) hp2
        have hbits : bits .or .i64 ((m : Nat) : Int) (wrap64 (2 ^ j)) = ((m ||| 2 ^ j : Nat) : Int) := by
          rw [wrap_pow j (by omega), or_i64 _ _ (by omega) (by omega)]
        have HOR := Lib.hid hor
        clear hj hr hd ho hp hp2 hor
        cases hb : m.testBit j
        · rw [hb] at hhas
          have HH := Lib.hid hhas
          have HB := Lib.hid hb
          clear hhas hb
          go_wp2_with (go_at_call 85; refine (rhas_any _ _ _).mono ?_; rintro e w' ⟨rfl, rfl⟩; rw [HH.out])
          go_round
          case rel => exact ⟨k + 1, m ||| 2 ^ j, by omega, by go_num, rfl, HOR.out, by unfold Hid; rw [hstep.out, HB.out]; rfl⟩
          case measure => simp [intOf]; omega
        · rw [hb] at hhas
          have HH := Lib.hid hhas
          have HB := Lib.hid hb
          clear hhas hb
          go_wp2_with (go_at_call 85; refine (rhas_any _ _ _).mono ?_; rintro e w' ⟨rfl, rfl⟩; rw [HH.out])
          go_ret2
          exact ⟨by rw [hstep.out, HB.out]; rfl, rfl⟩
    · obtain rfl : k = l.length := by omega
      go_wp2_with fail
      go_ret2
      exact ⟨by rw [ho.out]; simp [ofS], rfl⟩

set_option maxHeartbeats 1000000 in
theorem of_any (l : List Int) (v : Value) (w : World) (r : Option Nat) (h : SlI w r v l) :
    Calls Tryz.prog 177 #[v] w fun e w' => e = .returned (.tuple #[.int .i64 (ofS l 0).1, .int .i64 (ofS l 0).2]) ∧ w = w' := by
  obtain ⟨A, c, rfl, q1, q2, hc⟩ := h.open_
  go_enter Tryz.func177, Tryz.ntmps177
  go_wp2_with fail
  go_loop [4, 9] (fun s i => ∃ k m : Nat, k ≤ l.length ∧ i = .int .i64 k ∧ s = .int .i64 m ∧ m < 1024 ∧ Hid (ofS l 0 = ofS (l.drop k) m)) (fun _ i => l.length - (intOf i).toNat)
  case atStart => exact ⟨0, 0, Nat.zero_le _, rfl, rfl, by omega, by simp [Hid]⟩
  case round =>
    obtain ⟨k, m, hk, rfl, rfl, hm, ho⟩ := hrel
    by_cases hlt : k < l.length
    · obtain ⟨b, off, rfl, hb, hbr, hcc⟩ := hc (by omega)
      have hck := hcc k hlt
      have hd : Hid (l.drop k = l[k] :: l.drop (k + 1)) := List.drop_eq_getElem_cons hlt
      clear hcc hc
      by_cases hr : l[k] < 0 ∨ 10 ≤ l[k]
      · have hfin : Hid (ofS l 0 = (0, 5)) := by
          unfold Hid
          rw [ho.out, hd.out]
          simp only [ofS]
          rw [if_pos hr]
        rcases hr with hr | hr
        all_goals
          go_wp2_with fail
          go_ret2
          exact ⟨by rw [hfin.out]; rfl, rfl⟩
      · obtain ⟨j, hj⟩ := Int.eq_ofNat_of_zero_le (show 0 ≤ l[k] by omega)
        have hj10 : j < 10 := by omega
        have hstep : Hid (ofS l 0 = if m.testBit j then (0, 6) else ofS (l.drop (k + 1)) (m ||| 2 ^ j)) := by
          unfold Hid
          rw [ho.out, hd.out]
          simp only [ofS]
          rw [if_neg hr, hj]
          rfl
        rw [hj] at hck
        have hhas := hasB_nat hm hj10
        have hp := pow2_lt j (by omega)
        have hp2 : 2 ^ j < 2 ^ 10 := Nat.pow_lt_pow_right (by omega) hj10
        have hor : m ||| 2 ^ j < 2 ^ 10 := Nat.or_lt_two_pow (by omega) hp2
        have hbits : bits .or .i64 ((m : Nat) : Int) (wrap64 (2 ^ j)) = ((m ||| 2 ^ j : Nat) : Int) := by
          rw [wrap_pow j (by omega), or_i64 _ _ (by omega) (by omega)]
        have HOR := Lib.hid hor
        clear hj hr hd ho hp hp2 hor
        cases hb : m.testBit j
        · rw [hb] at hhas
          have HH := Lib.hid hhas
          have HB := Lib.hid hb
          clear hhas hb
          go_wp2_with (go_at_call 106; refine (has_any _ _ _).mono ?_; rintro e w' ⟨rfl, rfl⟩; rw [HH.out])
          go_round
          case rel => exact ⟨k + 1, m ||| 2 ^ j, by omega, by go_num, rfl, HOR.out, by unfold Hid; rw [hstep.out, HB.out]; rfl⟩
          case measure => simp [intOf]; omega
        · rw [hb] at hhas
          have HH := Lib.hid hhas
          have HB := Lib.hid hb
          clear hhas hb
          go_wp2_with (go_at_call 106; refine (has_any _ _ _).mono ?_; rintro e w' ⟨rfl, rfl⟩; rw [HH.out])
          go_ret2
          exact ⟨by rw [hstep.out, HB.out]; rfl, rfl⟩
    · obtain rfl : k = l.length := by omega
      go_wp2_with fail
      go_ret2
      exact ⟨by rw [ho.out]; simp [ofS], rfl⟩

end Go.Proofs.YtpdhckbiioobhaaGreatDoor

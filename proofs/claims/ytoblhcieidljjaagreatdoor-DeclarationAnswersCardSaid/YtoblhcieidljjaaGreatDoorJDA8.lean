/- Some texts of this claim, joined: contracts of the functions that it reaches, and plain laws. -/
import Derived.Test.YtoblhcieidljjaaGreatDoorProg
import Derived.Test.YtoblhcieidljjaaGreatDoorJDA1

set_option linter.unusedSimpArgs false
set_option linter.unusedVariables false
/- Walks: nodeset.below, Valid, Has; the reference's Valid, Has. -/
namespace Go.Proofs.YtoblhcieidljjaaGreatDoor
open Go.RowKit

theorem below10_any (s : Int) (w : World) : Calls Tryz.prog 185 #[.int .i64 s, .int .i64 10] w fun e w' => e = .returned (.bool (validB s)) ∧ w = w' := by
  go_enter Tryz.func185, Tryz.ntmps185
  go_wp2
  all_goals
    go_ret
    exact ⟨ret_bool (by simp only [validB]; by_cases h1 : 0 ≤ s <;> by_cases h2 : s ≤ 1023 <;> simp [h1, h2] <;> omega), rfl⟩

theorem valid_any (s : Int) (w : World) : Calls Tryz.prog 148 #[.int .i64 s] w fun e w' => e = .returned (.bool (validB s)) ∧ w = w' := by
  go_enter Tryz.func148, Tryz.ntmps148
  go_wp2_with (go_at_call 185; refine (below10_any _ _).mono ?_; rintro e w' ⟨rfl, rfl⟩)
  go_ret
  exact ⟨rfl, rfl⟩

theorem rvalid_any (s : Int) (w : World) : Calls Tryz.prog 98 #[.int .i64 s] w fun e w' => e = .returned (.bool (validB s)) ∧ w = w' := by
  go_enter Tryz.func98, Tryz.ntmps98
  go_wp2
  all_goals
    go_ret
    exact ⟨ret_bool (by simp only [validB]; by_cases h1 : 0 ≤ s <;> by_cases h2 : s ≤ 1023 <;> simp [h1, h2] <;> omega), rfl⟩

theorem has_any (s k : Int) (w : World) : Calls Tryz.prog 107 #[.int .i64 s, .int .i64 k] w fun e w' => e = .returned (.bool (hasB s k)) ∧ w = w' := by
  by_cases hv : validB s = true
  · by_cases hk : 0 ≤ k ∧ k < 10
    · have hs : 0 ≤ s ∧ s ≤ 1023 := by simpa [validB] using hv
      obtain ⟨hk0, hk1⟩ := hk
      obtain ⟨hs0, hs1⟩ := hs
      obtain ⟨m, rfl⟩ := Int.eq_ofNat_of_zero_le hs0
      obtain ⟨j, rfl⟩ := Int.eq_ofNat_of_zero_le hk0
      have H := Lib.hid hv
      clear hv
      go_enter Tryz.func107, Tryz.ntmps107
      go_wp2_with (go_at_call 148; refine (valid_any _ _).mono ?_; rintro e w' ⟨rfl, rfl⟩; rw [H.out])
      go_ret
      refine ⟨ret_bool ((bit_test m j (by omega) (by omega)).trans ?_), rfl⟩
      simp [hasB, H.out, hk0, hk1]
    · have hb : hasB s k = false := by simp only [hasB, hv, decide_eq_false hk]; rfl
      have H := Lib.hid hb
      clear hb
      go_enter Tryz.func107, Tryz.ntmps107
      go_wp2_with (go_at_call 148; refine (valid_any _ _).mono ?_; rintro e w' ⟨rfl, rfl⟩)
      all_goals (go_ret; exact ⟨ret_bool H.out.symm, rfl⟩)
  · have hb : hasB s k = false := by simp [hasB, hv]
    have H := Lib.hid hb
    clear hb
    go_enter Tryz.func107, Tryz.ntmps107
    go_wp2_with (go_at_call 148; refine (valid_any _ _).mono ?_; rintro e w' ⟨rfl, rfl⟩)
    all_goals (go_ret; exact ⟨ret_bool H.out.symm, rfl⟩)

theorem rhas_any (s k : Int) (w : World) : Calls Tryz.prog 99 #[.int .i64 s, .int .i64 k] w fun e w' => e = .returned (.bool (hasB s k)) ∧ w = w' := by
  by_cases hv : validB s = true
  · by_cases hk : 0 ≤ k ∧ k < 10
    · have hs : 0 ≤ s ∧ s ≤ 1023 := by simpa [validB] using hv
      obtain ⟨hk0, hk1⟩ := hk
      obtain ⟨hs0, hs1⟩ := hs
      obtain ⟨m, rfl⟩ := Int.eq_ofNat_of_zero_le hs0
      obtain ⟨j, rfl⟩ := Int.eq_ofNat_of_zero_le hk0
      have H := Lib.hid hv
      clear hv
      go_enter Tryz.func99, Tryz.ntmps99
      go_wp2_with (go_at_call 98; refine (rvalid_any _ _).mono ?_; rintro e w' ⟨rfl, rfl⟩; rw [H.out])
      go_ret
      refine ⟨ret_bool ((shr_test m j (by omega)).trans ?_), rfl⟩
      simp [hasB, H.out, hk0, hk1]
    · have hb : hasB s k = false := by simp only [hasB, hv, decide_eq_false hk]; rfl
      have H := Lib.hid hb
      clear hb
      go_enter Tryz.func99, Tryz.ntmps99
      go_wp2_with (go_at_call 98; refine (rvalid_any _ _).mono ?_; rintro e w' ⟨rfl, rfl⟩)
      all_goals (go_ret; exact ⟨ret_bool H.out.symm, rfl⟩)
  · have hb : hasB s k = false := by simp [hasB, hv]
    have H := Lib.hid hb
    clear hb
    go_enter Tryz.func99, Tryz.ntmps99
    go_wp2_with (go_at_call 98; refine (rvalid_any _ _).mono ?_; rintro e w' ⟨rfl, rfl⟩)
    all_goals (go_ret; exact ⟨ret_bool H.out.symm, rfl⟩)

end Go.Proofs.YtoblhcieidljjaaGreatDoor

/- Walks: Of of package nodeset and of the reference. By gen_of.py. -/
namespace Go.Proofs.YtoblhcieidljjaaGreatDoor
open Go.RowKit

theorem hasB_nat {m j : Nat} (hm : m < 1024) (hj : j < 10) : hasB (m : Int) (j : Int) = m.testBit j := by
  have h1 : (0 : Int) ≤ (m : Int) ∧ (m : Int) ≤ 1023 := by omega
  have h2 : (0 : Int) ≤ (j : Int) ∧ (j : Int) < 10 := by omega
  simp only [hasB, validB]
  rw [decide_eq_true h1, decide_eq_true h2]
  simp

set_option maxHeartbeats 1000000 in
theorem rof_any (l : List Int) (v : Value) (w : World) (r : Option Nat) (h : SlI w r v l) :
    Calls Tryz.prog 159 #[v] w fun e w' => e = .returned (.tuple #[.int .i64 (ofS l 0).1, .int .i64 (ofS l 0).2]) ∧ w = w' := by
  obtain ⟨A, c, rfl, q1, q2, hc⟩ := h.open_
  go_enter Tryz.func159, Tryz.ntmps159
  go_wp2_with fail
  go_loop [4, 9] (fun s i => ∃ k m : Nat, k ≤ l.length ∧ i = .int .i64 k ∧ s = .int .i64 m ∧ m < 1024 ∧ Hid (ofS l 0 = ofS (l.drop k) m)) (fun _ i => l.length - (intOf i).toNat)
  case atStart => exact ⟨0, 0, Nat.zero_le _, rfl, rfl, by omega, by simp [Hid]⟩
  case round =>
    obtain ⟨k, m, hk, rfl, rfl, hm, ho⟩ := hrel
    by_cases hlt : k < l.length
    · obtain ⟨b, off, rfl, hb, hbr, hcc⟩ := hc (by omega)
      have hck := hcc k hlt
      have hd : Hid (l.drop k = l[k] :: l.drop (k + 1)) := List.drop_eq_getElem_cons hlt
      clear hcc hc
      by_cases hr : l[k] < 0 ∨ 10 ≤ l[k]
      · have hfin : Hid (ofS l 0 = (0, 5)) := by
          unfold Hid
          rw [ho.out, hd.out]
          simp only [ofS]
          rw [if_pos hr]
        rcases hr with hr | hr
        all_goals
          go_wp2_with fail
          go_ret2
          exact ⟨by rw [hfin.out]; rfl, rfl⟩
      · obtain ⟨j, hj⟩ := Int.eq_ofNat_of_zero_le (show 0 ≤ l[k] by omega)
        have hj10 : j < 10 := by omega
        have hstep : Hid (ofS l 0 = if m.testBit j then (0, 6) else ofS (l.drop (k + 1)) (m ||| 2 ^ j)) := by
          unfold Hid
          rw [ho.out, hd.out]
          simp only [ofS]
          rw [if_neg hr, hj]
          rfl
        rw [hj] at hck
        have hhas := hasB_nat hm hj10
        have hp := pow2_lt j (by omega)
        have hp2 : 2 ^ j < 2 ^ 10 := Nat.pow_lt_pow_right (by omega) hj10
        have hor : m ||| 2 ^ j < 2 ^ 10 := Nat.or_lt_two_pow (by omega) hp2
        have hbits : bits .or .i64 ((m : Nat) : Int) (wrap64 (2 ^ j)) = ((m ||| 2 ^ j : Nat) : Int) := by
          rw [wrap_pow j (by omega), or_i64 _ _ (by omega) (by omega)]
        have HOR := Lib.hid hor
        clear hj hr hd ho hp hp2 hor
        cases hb : m.testBit j
        · rw [hb] at hhas
          have HH := Lib.hid hhas
          have HB := Lib.hid hb
          clear hhas hb
          go_wp2_with (go_at_call 99; refine (rhas_any _ _ _).mono ?_; rintro e w' ⟨rfl, rfl⟩; rw [HH.out])
          go_round
          case rel => exact ⟨k + 1, m ||| 2 ^ j, by omega, by go_num, rfl, HOR.out, by unfold Hid; rw [hstep.out, HB.out]; rfl⟩
          case measure => simp [intOf]; omega
        · rw [hb] at hhas
          have HH := Lib.hid hhas
          have HB := Lib.hid hb
          clear hhas hb
          go_wp2_with (go_at_call 99; refine (rhas_any _ _ _).mono ?_; rintro e w' ⟨rfl, rfl⟩; rw [HH.out])
          go_ret2
          exact ⟨by rw [hstep.out, HB.out]; rfl, rfl⟩
    · obtain rfl : k = l.length := by omega
      go_wp2_with fail
      go_ret2
      exact ⟨by rw [ho.out]; simp [ofS], rfl⟩

set_option maxHeartbeats 1000000 in
theorem of_any (l : List Int) (v : Value) (w : World) (r : Option Nat) (h : SlI w r v l) :
    Calls Tryz.prog 158 #[v] w fun e w' => e = .returned (.tuple #[.int .i64 (ofS l 0).1, .int .i64 (ofS l 0).2]) ∧ w = w' := by
  obtain ⟨A, c, rfl, q1, q2, hc⟩ := h.open_
  go_enter Tryz.func158, Tryz.ntmps158
  go_wp2_with fail
  go_loop [4, 9] (fun s i => ∃ k m : Nat, k ≤ l.length ∧ i = .int .i64 k ∧ s = .int .i64 m ∧ m < 1024 ∧ Hid (ofS l 0 = ofS (l.drop k) m)) (fun _ i => l.length - (intOf i).toNat)
  case atStart => exact ⟨0, 0, Nat.zero_le _, rfl, rfl, by omega, by simp [Hid]⟩
  case round =>
    obtain ⟨k, m, hk, rfl, rfl, hm, ho⟩ := hrel
    by_cases hlt : k < l.length
    · obtain ⟨b, off, rfl, hb, hbr, hcc⟩ := hc (by omega)
      have hck := hcc k hlt
      have hd : Hid (l.drop k = l[k] :: l.drop (k + 1)) := List.drop_eq_getElem_cons hlt
      clear hcc hc
      by_cases hr : l[k] < 0 ∨ 10 ≤ l[k]
      · have hfin : Hid (ofS l 0 = (0, 5)) := by
          unfold Hid
          rw [ho.out, hd.out]
          simp only [ofS]
          rw [if_pos hr]
        rcases hr with hr | hr
        all_goals
          go_wp2_with fail
          go_ret2
          exact ⟨by rw [hfin.out]; rfl, rfl⟩
      · obtain ⟨j, hj⟩ := Int.eq_ofNat_of_zero_le (show 0 ≤ l[k] by omega)
        have hj10 : j < 10 := by omega
        have hstep : Hid (ofS l 0 = if m.testBit j then (0, 6) else ofS (l.drop (k + 1)) (m ||| 2 ^ j)) := by
          unfold Hid
          rw [ho.out, hd.out]
          simp only [ofS]
          rw [if_neg hr, hj]
          rfl
        rw [hj] at hck
        have hhas := hasB_nat hm hj10
        have hp := pow2_lt j (by omega)
        have hp2 : 2 ^ j < 2 ^ 10 := Nat.pow_lt_pow_right (by omega) hj10
        have hor : m ||| 2 ^ j < 2 ^ 10 := Nat.or_lt_two_pow (by omega) hp2
        have hbits : bits .or .i64 ((m : Nat) : Int) (wrap64 (2 ^ j)) = ((m ||| 2 ^ j : Nat) : Int) := by
          rw [wrap_pow j (by omega), or_i64 _ _ (by omega) (by omega)]
        have HOR := Lib.hid hor
        clear hj hr hd ho hp hp2 hor
        cases hb : m.testBit j
        · rw [hb] at hhas
          have HH := Lib.hid hhas
          have HB := Lib.hid hb
          clear hhas hb
          go_wp2_with (go_at_call 107; refine (has_any _ _ _).mono ?_; rintro e w' ⟨rfl, rfl⟩; rw [HH.out])
          go_round
          case rel => exact ⟨k + 1, m ||| 2 ^ j, by omega, by go_num, rfl, HOR.out, by unfold Hid; rw [hstep.out, HB.out]; rfl⟩
          case measure => simp [intOf]; omega
        · rw [hb] at hhas
          have HH := Lib.hid hhas
          have HB := Lib.hid hb
          clear hhas hb
          go_wp2_with (go_at_call 107; refine (has_any _ _ _).mono ?_; rintro e w' ⟨rfl, rfl⟩; rw [HH.out])
          go_ret2
          exact ⟨by rw [hstep.out, HB.out]; rfl, rfl⟩
    · obtain rfl : k = l.length := by omega
      go_wp2_with fail
      go_ret2
      exact ⟨by rw [ho.out]; simp [ofS], rfl⟩

end Go.Proofs.YtoblhcieidljjaaGreatDoor

/- Walks: slices.IndexFunc, ContainsFunc at []int with a plain function. -/
namespace Go.Proofs.YtoblhcieidljjaaGreatDoor
open Go.RowKit

/-- The first place where p holds, or -1. -/
def idxF (p : Int → Bool) : List Int → Int
  | [] => -1
  | x :: r => if p x then 0 else (if idxF p r < 0 then -1 else idxF p r + 1)
theorem idxF_any (p : Int → Bool) : ∀ l, decide (0 ≤ idxF p l) = l.any p
  | [] => by simp [idxF]
  | x :: r => by
    have ih := idxF_any p r
    rw [Bool.eq_iff_iff, decide_eq_true_eq] at ih ⊢
    simp only [idxF, List.any_cons, Bool.or_eq_true, ← ih]
    by_cases hp : p x = true
    · simp [hp]
    · by_cases h : idxF p r < 0
      · simp [h, hp]
      · have h2 : 0 ≤ idxF p r := by omega
        simp [h, hp, h2]
        omega
theorem idxF_hit (p : Int → Bool) : ∀ (l : List Int) (k : Nat) (hk : k < l.length), (∀ i (hi : i < k), p (l[i]'(by omega)) = false) → p l[k] = true → idxF p l = k
  | [], k, hk, _, _ => absurd hk (by simp)
  | x :: r, 0, hk, _, h => by simp only [List.getElem_cons_zero] at h; simp [idxF, h]
  | x :: r, k + 1, hk, h0, h => by
    have hx := h0 0 (by omega)
    simp only [List.getElem_cons_zero] at hx
    have ih := idxF_hit p r k (by simpa using hk) (fun i hi => by
      have := h0 (i + 1) (by omega)
      simpa using this) (by simpa using h)
    simp only [idxF, hx, ih]
    simp
    omega
theorem idxF_miss (p : Int → Bool) : ∀ (l : List Int), (∀ i (hi : i < l.length), p l[i] = false) → idxF p l = -1
  | [], _ => rfl
  | x :: r, h => by
    have hx := h 0 (by simp)
    simp only [List.getElem_cons_zero] at hx
    have ih := idxF_miss p r (fun i hi => by
      have := h (i + 1) (by simpa using hi)
      simpa using this)
    simp [idxF, hx, ih]

set_option maxRecDepth 100000 in
theorem indexFunc_any (f : FuncId) (p : Int → Bool) (hrun : ∀ args w, Sem.run Tryz.prog (callFunc f args) w = .ok (.enter f args) w) (hf : ∀ x w, Wi x → Calls Tryz.prog f #[.int .i64 x] w fun e w' => e = .returned (.bool (p x)) ∧ w = w')
    (l : List Int) (v : Value) (w : World) (r : Option Nat) (h : SlI w r v l) :
    Calls Tryz.prog 190 #[v, .func (.func f) #[] #[]] w fun e w' => e = .returned (.int .i64 (idxF p l)) ∧ w = w' := by
  have hwi := h.2
  obtain ⟨A, c, rfl, q1, q2, hc⟩ := h.open_
  have HF := Lib.hid hf
  clear hf
  go_enter Tryz.func190, Tryz.ntmps190
  go_wp2_with fail
  go_loop [8] (fun i => ∃ k : Nat, k ≤ l.length ∧ i = .int .i64 k ∧ ∀ j (hj : j < l.length), j < k → p l[j] = false) (fun i => l.length - (intOf i).toNat)
  case atStart => exact ⟨0, Nat.zero_le _, rfl, fun j hj h => by omega⟩
  case round =>
    obtain ⟨k, hk, rfl, hno⟩ := hrel
    have HN := Lib.hid hno
    clear hno
    by_cases hlt : k < l.length
    · obtain ⟨b, off, rfl, hb, hbr, hcc⟩ := hc (by omega)
      have hck := hcc k hlt
      clear hcc hc
      go_wp2_with fail
      refine (HF.out l[k] _ (hwi _ (List.getElem_mem _))).mono ?_
      rintro e w' ⟨rfl, rfl⟩
      by_cases hp : p l[k] = true
      · have HP := Lib.hid hp
        go_wp2_with fail
        go_ret
        exact ⟨ret_int (idxF_hit p l k hlt (fun i hi => HN.out i (by omega) hi) HP.out).symm, rfl⟩
      · have hp' : p l[k] = false := by simpa using hp
        have HP := Lib.hid hp'
        clear hp
        go_wp2_with fail
        go_round
        case rel => exact ⟨k + 1, by omega, by go_num, fun j hj h => by
          by_cases e : j = k
          · subst e; exact HP.out
          · exact HN.out j hj (by omega)⟩
        case measure => simp [intOf]; omega
    · obtain rfl : k = l.length := by omega
      go_wp2_with fail
      go_ret
      exact ⟨ret_int (idxF_miss p l (fun i hi => HN.out i hi hi)).symm, rfl⟩

theorem containsFunc_any (f : FuncId) (p : Int → Bool) (hrun : ∀ args w, Sem.run Tryz.prog (callFunc f args) w = .ok (.enter f args) w) (hf : ∀ x w, Wi x → Calls Tryz.prog f #[.int .i64 x] w fun e w' => e = .returned (.bool (p x)) ∧ w = w')
    (l : List Int) (v : Value) (w : World) (r : Option Nat) (h : SlI w r v l) :
    Calls Tryz.prog 156 #[v, .func (.func f) #[] #[]] w fun e w' => e = .returned (.bool (l.any p)) ∧ w = w' := by
  have HF := Lib.hid hf
  clear hf
  go_enter Tryz.func156, Tryz.ntmps156
  go_wp2_with fail
  refine (indexFunc_any f p hrun HF.out l v _ r h).mono ?_
  rintro e w' ⟨rfl, rfl⟩
  go_wp2_with fail
  go_ret
  exact ⟨ret_bool (idxF_any p l), rfl⟩
end Go.Proofs.YtoblhcieidljjaaGreatDoor

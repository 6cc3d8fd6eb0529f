/- Walks: slices.IndexFunc, ContainsFunc at []int with a plain function. -/
import Derived.Test.YtpdhckbiioobhaaGreatDoorProg
import Derived.Test.YtpdhckbiioobhaaGreatDoorMem
namespace Go.Proofs.YtpdhckbiioobhaaGreatDoor
open Go.RowKit

/-- The first place where p holds, or -1. -/
def idxF (p : Int → Bool) : List Int → Int
  | [] => -1
  | x :: r => if p x then 0 else (if idxF p r < 0 then -1 else idxF p r + 1)
theorem idxF_any (p : Int → Bool) : ∀ l, decide (0 ≤ idxF p l) = l.any p
  | [] => by simp [idxF]
  | x :: r => by
    have ih := idxF_any p r
    rw [Bool.eq_iff_iff, decide_eq_true_eq] at ih ⊢
    simp only [idxF, List.any_cons, Bool.or_eq_true, ← ih]
    by_cases hp : p x = true
    · simp [hp]
    · by_cases h : idxF p r < 0
      · simp [h, hp]
      · have h2 : 0 ≤ idxF p r := by omega
        simp [h, hp, h2]
        omega
theorem idxF_hit (p : Int → Bool) : ∀ (l : List Int) (k : Nat) (hk : k < l.length), (∀ i (hi : i < k), p (l[i]'(by omega)) = false) → p l[k] = true → idxF p l = k
  | [], k, hk, _, _ => absurd hk (by simp)
  | x :: r, 0, hk, _, h => by simp only [List.getElem_cons_zero] at h; simp [idxF, h]
  | x :: r, k + 1, hk, h0, h => by
    have hx := h0 0 (by omega)
    simp only [List.getElem_cons_zero] at hx
    have ih := idxF_hit p r k (by simpa using hk) (fun i hi => by
      have := h0 (i + 1) (by omega)
      simpa using this) (by simpa using h)
    simp only [idxF, hx, ih]
    simp
    omega
theorem idxF_miss (p : Int → Bool) : ∀ (l : List Int), (∀ i (hi : i < l.length), p l[i] = false) → idxF p l = -1
  | [], _ => rfl
  | x :: r, h => by
    have hx := h 0 (by simp)
    simp only [List.getElem_cons_zero] at hx
    have ih := idxF_miss p r (fun i hi => by
      have := h (i + 1) (by simpa using hi)
      simpa using this)
    simp [idxF, hx, ih]

set_option maxRecDepth 100000 in
theorem indexFunc_any (f : FuncId) (p : Int → Bool) (hrun : ∀ args w, Sem.run Tryz.prog (callFunc f args) w = .ok (.enter f args) w) (hf : ∀ x w, Wi x → Calls Tryz.prog f #[.int .i64 x] w fun e w' => e = .returned (.bool (p x)) ∧ w = w')
    (l : List Int) (v : Value) (w : World) (r : Option Nat) (h : SlI w r v l) :
    Calls Tryz.prog 212 #[v, .func (.func f) #[] #[]] w fun e w' => e = .returned (.int .i64 (idxF p l)) ∧ w = w' := by
  have hwi := h.2
  obtain ⟨A, c, rfl, q1, q2, hc⟩ := h.open_
  have HF := Lib.hid hf
  clear hf
  go_enter Tryz.func212, Tryz.ntmps212
  go_wp2_with fail
  go_loop [8] (fun i => ∃ k : Nat, k ≤ l.length ∧ i = .int .i64 k ∧ ∀ j (hj : j < l.length), j < k → p l[j] = false) (fun i => l.length - (intOf i).toNat)
  case atStart => exact ⟨0, Nat.zero_le _, rfl, fun j hj h => by omega⟩
  case round =>
    obtain ⟨k, hk, rfl, hno⟩ := hrel
    have HN := Lib.hid hno
    clear hno
    by_cases hlt : k < l.length
    · obtain ⟨b, off, rfl, hb, hbr, hcc⟩ := hc (by omega)
      have hck := hcc k hlt
      clear hcc hc
      go_wp2_with fail
      refine (HF.out l[k] _ (hwi _ (List.getElem_mem _))).mono ?_
      rintro e w' ⟨rfl, rfl⟩
      by_cases hp : p l[k] = true
      · have HP := Lib.hid hp
        go_wp2_with fail
        go_ret
        exact ⟨ret_int (idxF_hit p l k hlt (fun i hi => HN.out i (by omega) hi) HP.out).symm, rfl⟩
      · have hp' : p l[k] = false := by simpa using hp
        have HP := Lib.hid hp'
        clear hp
        go_wp2_with fail
        go_round
        case rel => exact ⟨k + 1, by omega, by go_num, fun j hj h => by
          by_cases e : j = k
          · subst e; exact HP.out
          · exact HN.out j hj (by omega)⟩
        case measure => simp [intOf]; omega
    · obtain rfl : k = l.length := by omega
      go_wp2_with fail
      go_ret
      exact ⟨ret_int (idxF_miss p l (fun i hi => HN.out i hi hi)).symm, rfl⟩

theorem containsFunc_any (f : FuncId) (p : Int → Bool) (hrun : ∀ args w, Sem.run Tryz.prog (callFunc f args) w = .ok (.enter f args) w) (hf : ∀ x w, Wi x → Calls Tryz.prog f #[.int .i64 x] w fun e w' => e = .returned (.bool (p x)) ∧ w = w')
    (l : List Int) (v : Value) (w : World) (r : Option Nat) (h : SlI w r v l) :
    Calls Tryz.prog 175 #[v, .func (.func f) #[] #[]] w fun e w' => e = .returned (.bool (l.any p)) ∧ w = w' := by
  have HF := Lib.hid hf
  clear hf
  go_enter Tryz.func175, Tryz.ntmps175
  go_wp2_with fail
  refine (indexFunc_any f p hrun HF.out l v _ r h).mono ?_
  rintro e w' ⟨rfl, rfl⟩
  go_wp2_with fail
  go_ret
  exact ⟨ret_bool (idxF_any p l), rfl⟩
end Go.Proofs.YtpdhckbiioobhaaGreatDoor

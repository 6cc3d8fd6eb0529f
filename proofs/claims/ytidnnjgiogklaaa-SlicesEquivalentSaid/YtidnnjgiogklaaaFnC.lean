/- Walks: slices.IndexFunc, ContainsFunc at []int with a function that has one captured variable. -/
import Derived.Test.YtidnnjgiogklaaaProg
import Derived.Test.YtidnnjgiogklaaaFnW
namespace Go.Proofs.Ytidnnjgiogklaaa
open Go.RowKit

set_option maxRecDepth 100000 in
theorem indexFuncC_any (f : FuncId) (p : Int → Bool) (hrun : ∀ args w, Sem.run Try.prog (callFunc f args) w = .ok (.enter f args) w) (pv : Value) (w : World) (hf : ∀ x, Wi x → Calls Try.prog f #[.int .i64 x, pv] w fun e w' => e = .returned (.bool (p x)) ∧ w = w')
    (l : List Int) (v : Value) (r : Option Nat) (h : SlI w r v l) :
    Calls Try.prog 69 #[v, .func (.func f) #[] #[pv]] w fun e w' => e = .returned (.int .i64 (idxF p l)) ∧ w = w' := by
  have hwi := h.2
  obtain ⟨A, c, rfl, q1, q2, hc⟩ := h.open_
  have HF := Lib.hid hf
  clear hf
  go_enter Try.func69, Try.ntmps69
  go_wp2_with fail
  go_loop [8] (fun i => ∃ k : Nat, k ≤ l.length ∧ i = .int .i64 k ∧ ∀ j (hj : j < l.length), j < k → p l[j] = false) (fun i => l.length - (intOf i).toNat)
  case atStart => exact ⟨0, Nat.zero_le _, rfl, fun j hj h => by omega⟩
  case round =>
    obtain ⟨k, hk, rfl, hno⟩ := hrel
    have HN := Lib.hid hno
    clear hno
    by_cases hlt : k < l.length
    · obtain ⟨b, off, rfl, hb, hbr, hcc⟩ := hc (by omega)
      have hck := hcc k hlt
      clear hcc hc
      go_wp2_with fail
      refine (HF.out l[k] (hwi _ (List.getElem_mem _))).mono ?_
      rintro e w' ⟨rfl, rfl⟩
      by_cases hp : p l[k] = true
      · have HP := Lib.hid hp
        go_wp2_with fail
        go_ret
        exact ⟨ret_int (idxF_hit p l k hlt (fun i hi => HN.out i (by omega) hi) HP.out).symm, rfl⟩
      · have hp' : p l[k] = false := by simpa using hp
        have HP := Lib.hid hp'
        clear hp
        go_wp2_with fail
        go_round
        case rel => exact ⟨k + 1, by omega, by go_num, fun j hj h => by
          by_cases e : j = k
          · subst e; exact HP.out
          · exact HN.out j hj (by omega)⟩
        case measure => simp [intOf]; omega
    · obtain rfl : k = l.length := by omega
      go_wp2_with fail
      go_ret
      exact ⟨ret_int (idxF_miss p l (fun i hi => HN.out i hi hi)).symm, rfl⟩

theorem containsFuncC_any (f : FuncId) (p : Int → Bool) (hrun : ∀ args w, Sem.run Try.prog (callFunc f args) w = .ok (.enter f args) w) (pv : Value) (w : World) (hf : ∀ x, Wi x → Calls Try.prog f #[.int .i64 x, pv] w fun e w' => e = .returned (.bool (p x)) ∧ w = w')
    (l : List Int) (v : Value) (r : Option Nat) (h : SlI w r v l) :
    Calls Try.prog 54 #[v, .func (.func f) #[] #[pv]] w fun e w' => e = .returned (.bool (l.any p)) ∧ w = w' := by
  have HF := Lib.hid hf
  clear hf
  go_enter Try.func54, Try.ntmps54
  go_wp2_with fail
  refine (indexFuncC_any f p hrun pv _ HF.out l v r h).mono ?_
  rintro e w' ⟨rfl, rfl⟩
  go_wp2_with fail
  go_ret
  exact ⟨ret_bool (idxF_any p l), rfl⟩
end Go.Proofs.Ytidnnjgiogklaaa

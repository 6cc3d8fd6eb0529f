/- Some texts of this claim, joined: contracts of the functions that it reaches, and plain laws. -/
import Derived.Test.YtpdhckbiioobhaaGreatProg
import Derived.Test.YtpdhckbiioobhaaGreatJS1

set_option linter.unusedSimpArgs false
set_option linter.unusedVariables false
/- Walks: nodeset.below, Valid, Has; the reference's Valid, Has. -/
namespace Go.Proofs.YtpdhckbiioobhaaGreat
open Go.RowKit

theorem below10_any (s : Int) (w : World) : Calls Tryz.prog 55 #[.int .i64 s, .int .i64 10] w fun e w' => e = .returned (.bool (validB s)) ∧ w = w' := by
  go_enter Tryz.func55, Tryz.ntmps55
  go_wp2
  all_goals
    go_ret
    exact ⟨ret_bool (by simp only [validB]; by_cases h1 : 0 ≤ s <;> by_cases h2 : s ≤ 1023 <;> simp [h1, h2] <;> omega), rfl⟩

theorem valid_any (s : Int) (w : World) : Calls Tryz.prog 28 #[.int .i64 s] w fun e w' => e = .returned (.bool (validB s)) ∧ w = w' := by
  go_enter Tryz.func28, Tryz.ntmps28
  go_wp2_with (go_at_call 55; refine (below10_any _ _).mono ?_; rintro e w' ⟨rfl, rfl⟩)
  go_ret
  exact ⟨rfl, rfl⟩

theorem rvalid_any (s : Int) (w : World) : Calls Tryz.prog 43 #[.int .i64 s] w fun e w' => e = .returned (.bool (validB s)) ∧ w = w' := by
  go_enter Tryz.func43, Tryz.ntmps43
  go_wp2
  all_goals
    go_ret
    exact ⟨ret_bool (by simp only [validB]; by_cases h1 : 0 ≤ s <;> by_cases h2 : s ≤ 1023 <;> simp [h1, h2] <;> omega), rfl⟩

theorem has_any (s k : Int) (w : World) : Calls Tryz.prog 64 #[.int .i64 s, .int .i64 k] w fun e w' => e = .returned (.bool (hasB s k)) ∧ w = w' := by
  by_cases hv : validB s = true
  · by_cases hk : 0 ≤ k ∧ k < 10
    · have hs : 0 ≤ s ∧ s ≤ 1023 := by simpa [validB] using hv
      obtain ⟨hk0, hk1⟩ := hk
      obtain ⟨hs0, hs1⟩ := hs
      obtain ⟨m, rfl⟩ := Int.eq_ofNat_of_zero_le hs0
      obtain ⟨j, rfl⟩ := Int.eq_ofNat_of_zero_le hk0
      have H := Lib.hid hv
      clear hv
      go_enter Tryz.func64, Tryz.ntmps64
      go_wp2_with (go_at_call 28; refine (valid_any _ _).mono ?_; rintro e w' ⟨rfl, rfl⟩; rw [H.out])
      go_ret
      refine ⟨ret_bool ((bit_test m j (by omega) (by omega)).trans ?_), rfl⟩
      simp [hasB, H.out, hk0, hk1]
    · have hb : hasB s k = false := by simp only [hasB, hv, decide_eq_false hk]; rfl
      have H := Lib.hid hb
      clear hb
      go_enter Tryz.func64, Tryz.ntmps64
      go_wp2_with (go_at_call 28; refine (valid_any _ _).mono ?_; rintro e w' ⟨rfl, rfl⟩)
      all_goals (go_ret; exact ⟨ret_bool H.out.symm, rfl⟩)
  · have hb : hasB s k = false := by simp [hasB, hv]
    have H := Lib.hid hb
    clear hb
    go_enter Tryz.func64, Tryz.ntmps64
    go_wp2_with (go_at_call 28; refine (valid_any _ _).mono ?_; rintro e w' ⟨rfl, rfl⟩)
    all_goals (go_ret; exact ⟨ret_bool H.out.symm, rfl⟩)

theorem rhas_any (s k : Int) (w : World) : Calls Tryz.prog 75 #[.int .i64 s, .int .i64 k] w fun e w' => e = .returned (.bool (hasB s k)) ∧ w = w' := by
  by_cases hv : validB s = true
  · by_cases hk : 0 ≤ k ∧ k < 10
    · have hs : 0 ≤ s ∧ s ≤ 1023 := by simpa [validB] using hv
      obtain ⟨hk0, hk1⟩ := hk
      obtain ⟨hs0, hs1⟩ := hs
      obtain ⟨m, rfl⟩ := Int.eq_ofNat_of_zero_le hs0
      obtain ⟨j, rfl⟩ := Int.eq_ofNat_of_zero_le hk0
      have H := Lib.hid hv
      clear hv
      go_enter Tryz.func75, Tryz.ntmps75
      go_wp2_with (go_at_call 43; refine (rvalid_any _ _).mono ?_; rintro e w' ⟨rfl, rfl⟩; rw [H.out])
      go_ret
      refine ⟨ret_bool ((shr_test m j (by omega)).trans ?_), rfl⟩
      simp [hasB, H.out, hk0, hk1]
    · have hb : hasB s k = false := by simp only [hasB, hv, decide_eq_false hk]; rfl
      have H := Lib.hid hb
      clear hb
      go_enter Tryz.func75, Tryz.ntmps75
      go_wp2_with (go_at_call 43; refine (rvalid_any _ _).mono ?_; rintro e w' ⟨rfl, rfl⟩)
      all_goals (go_ret; exact ⟨ret_bool H.out.symm, rfl⟩)
  · have hb : hasB s k = false := by simp [hasB, hv]
    have H := Lib.hid hb
    clear hb
    go_enter Tryz.func75, Tryz.ntmps75
    go_wp2_with (go_at_call 43; refine (rvalid_any _ _).mono ?_; rintro e w' ⟨rfl, rfl⟩)
    all_goals (go_ret; exact ⟨ret_bool H.out.symm, rfl⟩)

end Go.Proofs.YtpdhckbiioobhaaGreat

/- Walks: slices.IndexFunc, ContainsFunc at []int with a plain function. -/
namespace Go.Proofs.YtpdhckbiioobhaaGreat
open Go.RowKit

/-- The first place where p holds, or -1. -/
def idxF (p : Int → Bool) : List Int → Int
  | [] => -1
  | x :: r => if p x then 0 else (if idxF p r < 0 then -1 else idxF p r + 1)
theorem idxF_any (p : Int → Bool) : ∀ l, decide (0 ≤ idxF p l) = l.any p
  | [] => by simp [idxF]
  | x :: r => by
    have ih := idxF_any p r
    rw [Bool.eq_iff_iff, decide_eq_true_eq] at ih ⊢
    simp only [idxF, List.any_cons, Bool.or_eq_true, ← ih]
    by_cases hp : p x = true
    · simp [hp]
    · by_cases h : idxF p r < 0
      · simp [h, hp]
      · have h2 : 0 ≤ idxF p r := by omega
        simp [h, hp, h2]
        omega
theorem idxF_hit (p : Int → Bool) : ∀ (l : List Int) (k : Nat) (hk : k < l.length), (∀ i (hi : i < k), p (l[i]'(by omega)) = false) → p l[k] = true → idxF p l = k
  | [], k, hk, _, _ => absurd hk (by simp)
  | x :: r, 0, hk, _, h => by simp only [List.getElem_cons_zero] at h; simp [idxF, h]
  | x :: r, k + 1, hk, h0, h => by
    have hx := h0 0 (by omega)
    simp only [List.getElem_cons_zero] at hx
    have ih := idxF_hit p r k (by simpa using hk) (fun i hi => by
      have := h0 (i + 1) (by omega)
      simpa using this) (by simpa using h)
    simp only [idxF, hx, ih]
    simp
    omega
theorem idxF_miss (p : Int → Bool) : ∀ (l : List Int), (∀ i (hi : i < l.length), p l[i] = false) → idxF p l = -1
  | [], _ => rfl
  | x :: r, h => by
    have hx := h 0 (by simp)
    simp only [List.getElem_cons_zero] at hx
    have ih := idxF_miss p r (fun i hi => by
      have := h (i + 1) (by simpa using hi)
      simpa using this)
    simp [idxF, hx, ih]

set_option maxRecDepth 100000 in
theorem indexFunc_any (f : FuncId) (p : Int → Bool) (hrun : ∀ args w, Sem.run Tryz.prog (callFunc f args) w = .ok (.enter f args) w) (hf : ∀ x w, Wi x → Calls Tryz.prog f #[.int .i64 x] w fun e w' => e = .returned (.bool (p x)) ∧ w = w')
    (l : List Int) (v : Value) (w : World) (r : Option Nat) (h : SlI w r v l) :
    Calls Tryz.prog 76 #[v, .func (.func f) #[] #[]] w fun e w' => e = .returned (.int .i64 (idxF p l)) ∧ w = w' := by
  have hwi := h.2
  obtain ⟨A, c, rfl, q1, q2, hc⟩ := h.open_
  have HF := Lib.hid hf
  clear hf
  go_enter Tryz.func76, Tryz.ntmps76
  go_wp2_with fail
  go_loop [8] (fun i => ∃ k : Nat, k ≤ l.length ∧ i = .int .i64 k ∧ ∀ j (hj : j < l.length), j < k → p l[j] = false) (fun i => l.length - (intOf i).toNat)
  case atStart => exact ⟨0, Nat.zero_le _, rfl, fun j hj h => by omega⟩
  case round =>
    obtain ⟨k, hk, rfl, hno⟩ := hrel
    have HN := Lib.hid hno
    clear hno
    by_cases hlt : k < l.length
    · obtain ⟨b, off, rfl, hb, hbr, hcc⟩ := hc (by omega)
      have hck := hcc k hlt
      clear hcc hc
      go_wp2_with fail
      refine (HF.out l[k] _ (hwi _ (List.getElem_mem _))).mono ?_
      rintro e w' ⟨rfl, rfl⟩
      by_cases hp : p l[k] = true
      · have HP := Lib.hid hp
        go_wp2_with fail
        go_ret
        exact ⟨ret_int (idxF_hit p l k hlt (fun i hi => HN.out i (by omega) hi) HP.out).symm, rfl⟩
      · have hp' : p l[k] = false := by simpa using hp
        have HP := Lib.hid hp'
        clear hp
        go_wp2_with fail
        go_round
        case rel => exact ⟨k + 1, by omega, by go_num, fun j hj h => by
          by_cases e : j = k
          · subst e; exact HP.out
          · exact HN.out j hj (by omega)⟩
        case measure => simp [intOf]; omega
    · obtain rfl : k = l.length := by omega
      go_wp2_with fail
      go_ret
      exact ⟨ret_int (idxF_miss p l (fun i hi => HN.out i hi hi)).symm, rfl⟩

theorem containsFunc_any (f : FuncId) (p : Int → Bool) (hrun : ∀ args w, Sem.run Tryz.prog (callFunc f args) w = .ok (.enter f args) w) (hf : ∀ x w, Wi x → Calls Tryz.prog f #[.int .i64 x] w fun e w' => e = .returned (.bool (p x)) ∧ w = w')
    (l : List Int) (v : Value) (w : World) (r : Option Nat) (h : SlI w r v l) :
    Calls Tryz.prog 61 #[v, .func (.func f) #[] #[]] w fun e w' => e = .returned (.bool (l.any p)) ∧ w = w' := by
  have HF := Lib.hid hf
  clear hf
  go_enter Tryz.func61, Tryz.ntmps61
  go_wp2_with fail
  refine (indexFunc_any f p hrun HF.out l v _ r h).mono ?_
  rintro e w' ⟨rfl, rfl⟩
  go_wp2_with fail
  go_ret
  exact ⟨ret_bool (idxF_any p l), rfl⟩
end Go.Proofs.YtpdhckbiioobhaaGreat

/- Walks: slices.IndexFunc, ContainsFunc at []int with a function that has one captured variable. -/
namespace Go.Proofs.YtpdhckbiioobhaaGreat
open Go.RowKit

set_option maxRecDepth 100000 in
theorem indexFuncC_any (f : FuncId) (p : Int → Bool) (hrun : ∀ args w, Sem.run Tryz.prog (callFunc f args) w = .ok (.enter f args) w) (pv : Value) (w : World) (hf : ∀ x, Wi x → Calls Tryz.prog f #[.int .i64 x, pv] w fun e w' => e = .returned (.bool (p x)) ∧ w = w')
    (l : List Int) (v : Value) (r : Option Nat) (h : SlI w r v l) :
    Calls Tryz.prog 76 #[v, .func (.func f) #[] #[pv]] w fun e w' => e = .returned (.int .i64 (idxF p l)) ∧ w = w' := by
  have hwi := h.2
  obtain ⟨A, c, rfl, q1, q2, hc⟩ := h.open_
  have HF := Lib.hid hf
  clear hf
  go_enter Tryz.func76, Tryz.ntmps76
  go_wp2_with fail
  go_loop [8] (fun i => ∃ k : Nat, k ≤ l.length ∧ i = .int .i64 k ∧ ∀ j (hj : j < l.length), j < k → p l[j] = false) (fun i => l.length - (intOf i).toNat)
  case atStart => exact ⟨0, Nat.zero_le _, rfl, fun j hj h => by omega⟩
  case round =>
    obtain ⟨k, hk, rfl, hno⟩ := hrel
    have HN := Lib.hid hno
    clear hno
    by_cases hlt : k < l.length
    · obtain ⟨b, off, rfl, hb, hbr, hcc⟩ := hc (by omega)
      have hck := hcc k hlt
      clear hcc hc
      go_wp2_with fail
      refine (HF.out l[k] (hwi _ (List.getElem_mem _))).mono ?_
      rintro e w' ⟨rfl, rfl⟩
      by_cases hp : p l[k] = true
      · have HP := Lib.hid hp
        go_wp2_with fail
        go_ret
        exact ⟨ret_int (idxF_hit p l k hlt (fun i hi => HN.out i (by omega) hi) HP.out).symm, rfl⟩
      · have hp' : p l[k] = false := by simpa using hp
        have HP := Lib.hid hp'
        clear hp
        go_wp2_with fail
        go_round
        case rel => exact ⟨k + 1, by omega, by go_num, fun j hj h => by
          by_cases e : j = k
          · subst e; exact HP.out
          · exact HN.out j hj (by omega)⟩
        case measure => simp [intOf]; omega
    · obtain rfl : k = l.length := by omega
      go_wp2_with fail
      go_ret
      exact ⟨ret_int (idxF_miss p l (fun i hi => HN.out i hi hi)).symm, rfl⟩

theorem containsFuncC_any (f : FuncId) (p : Int → Bool) (hrun : ∀ args w, Sem.run Tryz.prog (callFunc f args) w = .ok (.enter f args) w) (pv : Value) (w : World) (hf : ∀ x, Wi x → Calls Tryz.prog f #[.int .i64 x, pv] w fun e w' => e = .returned (.bool (p x)) ∧ w = w')
    (l : List Int) (v : Value) (r : Option Nat) (h : SlI w r v l) :
    Calls Tryz.prog 61 #[v, .func (.func f) #[] #[pv]] w fun e w' => e = .returned (.bool (l.any p)) ∧ w = w' := by
  have HF := Lib.hid hf
  clear hf
  go_enter Tryz.func61, Tryz.ntmps61
  go_wp2_with fail
  refine (indexFuncC_any f p hrun pv _ HF.out l v r h).mono ?_
  rintro e w' ⟨rfl, rfl⟩
  go_wp2_with fail
  go_ret
  exact ⟨ret_bool (idxF_any p l), rfl⟩
end Go.Proofs.YtpdhckbiioobhaaGreat

/- Walks: Satisfied of package threshold and of the reference: what 'sat' says. -/
namespace Go.Proofs.YtpdhckbiioobhaaGreat
open Go.RowKit

theorem sat_any (d : Nat) : ∀ (t : Tr) (s : Int) (v : Value) (w : World) (r : Option Nat), t.dep ≤ d → TrR w r v t →
    Calls Tryz.prog 37 #[v, .int .i64 s] w fun e w' => e = .returned (.bool (sat s t)) ∧ Fr none w w' := by
  induction d with
  | zero =>
    intro t s v w r hd
    cases t
    simp [Tr.dep] at hd
  | succ d ih =>
    intro t s v w r hd h
    obtain ⟨thr, nodes, inner⟩ := t
    obtain ⟨A, c, A', c', rfl, hthr, hn, hn2, hi2, hi3, hi4, hcell⟩ := h.open_
    by_cases hv : validB s = true
    · go_enter Tryz.func37, Tryz.ntmps37
      go_wp2_with (go_at_call 28; refine (valid_any _ _).mono ?_; rintro e w' ⟨rfl, rfl⟩)
      generalize hW : w.alloc _ = w1
      have F1 : Fr none w w1 := hW ▸ (Fr.refl _ _).alloc _
      have hn' := hn.fr (F1.mono (r := r))
      obtain ⟨A0, c0, e0, q1, q2, hc1⟩ := hn'.open_
      injection e0 with e1 _ e3
      subst e1 e3
      have c0' : w1.cell? ⟨w.heap.size, 0, none⟩ = some (.int .i64 thr) := by rw [← hW]; exact cell_new _ _ _ _
      have c2' : w1.cell? ⟨w.heap.size, 2, none⟩ = some (.slice A' inner.length c') := by rw [← hW]; exact cell_new _ _ _ _
      have hz : w.heap.size < w1.heap.size := by rw [← hW]; simp
      have HS := Lib.hid hv
      clear hW hv
      go_loop [5, 16] (fun n i => ∃ k : Nat, k ≤ nodes.length ∧ i = .int .i64 k ∧ n = .int .i64 ((cntN s (nodes.take k) : Nat) : Int)) (fun _ i => nodes.length - (intOf i).toNat)
      case atStart => exact ⟨0, Nat.zero_le _, rfl, rfl⟩
      case round =>
        obtain ⟨k, hk, rfl, rfl⟩ := hrel
        have hle := cntN_le s (nodes.take k)
        have hle2 : (nodes.take k).length ≤ k := List.length_take_le _ _
        by_cases hlt : k < nodes.length
        · obtain ⟨b, off, rfl, hb, hbr, hc⟩ := hc1 (by omega)
          have hck := hc k hlt
          have ht := Lib.hid (cntN_take s nodes k hlt)
          go_wp2_with (go_at_call 64; refine (has_any _ _ _).mono ?_; rintro e w' ⟨rfl, rfl⟩)
          all_goals
            go_round
            case rel => exact ⟨k + 1, by omega, by go_num, by rw [ht.out]; simp [*]⟩
            case measure => simp [intOf]; omega
        · obtain rfl : k = nodes.length := by omega
          go_wp2_with fail
          have hle2 := cntN_le s nodes
          go_loopw [5, 29] (fun n i wr => Fr none w1 wr ∧ ∃ k : Nat, k ≤ inner.length ∧ i = .int .i64 k ∧ n = .int .i64 ((cntN s nodes + cntI s (inner.take k) : Nat) : Int)) (fun _ i _ => inner.length - (intOf i).toNat)
          case atStart => exact ⟨Fr.refl _ _, 0, Nat.zero_le _, rfl, by simp [cntI]⟩
          case round =>
            obtain ⟨F2, k, hk, rfl, rfl⟩ := hrel
            have hle := cntI_le s (inner.take k)
            have hle3 : (inner.take k).length ≤ k := List.length_take_le _ _
            have c0'' := F2.keep c0' (by simp)
            by_cases hlt : k < inner.length
            · obtain ⟨b, off, rfl, hb, hbr, hc⟩ := hcell (by omega)
              obtain ⟨x, y, z, g0, g1, g2, gt⟩ := hc k hlt
              obtain ⟨th, A1, n1, c1, A2, n2, c2, rfl, rfl, rfl⟩ := gt.shape
              have F3 := F1.pure F2
              have g0' := F3.keep g0 (by simp)
              have g1' := F3.keep g1 (by simp)
              have g2' := F3.keep g2 (by simp)
              have ht := Lib.hid (cntI_take s inner k hlt)
              have hdd : (inner[k]).dep ≤ d := by have := depL_get inner k hlt; simp only [Tr.dep] at hd; omega
              have gt' := (gt.fr (F3.mono (r := r)))
              clear c0' c2' g0 g1 g2
              go_wp2_with fail
              refine (ih inner[k] s _ _ r hdd (gt'.fr ((Fr.refl _ _).alloc _))).mono ?_
              rintro e w2 ⟨rfl, F4⟩
              have F5 := (F2.alloc _).pure F4
              clear c0'' g0' g1' g2' F4
              go_wp2_with fail
              all_goals
                go_roundw
                case rel => exact ⟨F5, k + 1, by omega, by go_num, by rw [ht.out]; simp [*]; try omega⟩
                case measure => simp [intOf]; omega
            · obtain rfl : k = inner.length := by omega
              go_wp2
              go_ret
              refine ⟨ret_bool ?_, F1.pure F2⟩
              simp [sat, HS.out]
    · have hb : sat s (.mk thr nodes inner) = false := by simp [sat, hv]
      have H := Lib.hid hb
      clear hb
      go_enter Tryz.func37, Tryz.ntmps37
      go_wp2_with (go_at_call 28; refine (valid_any _ _).mono ?_; rintro e w' ⟨rfl, rfl⟩)
      all_goals (go_ret; exact ⟨ret_bool H.out.symm, (Fr.refl _ _).alloc _⟩)
theorem rsat_any (d : Nat) : ∀ (t : Tr) (s : Int) (v : Value) (w : World) (r : Option Nat), t.dep ≤ d → TrR w r v t →
    Calls Tryz.prog 46 #[v, .int .i64 s] w fun e w' => e = .returned (.bool (sat s t)) ∧ Fr none w w' := by
  induction d with
  | zero =>
    intro t s v w r hd
    cases t
    simp [Tr.dep] at hd
  | succ d ih =>
    intro t s v w r hd h
    obtain ⟨thr, nodes, inner⟩ := t
    obtain ⟨A, c, A', c', rfl, hthr, hn, hn2, hi2, hi3, hi4, hcell⟩ := h.open_
    by_cases hv : validB s = true
    · go_enter Tryz.func46, Tryz.ntmps46
      go_wp2_with (go_at_call 43; refine (rvalid_any _ _).mono ?_; rintro e w' ⟨rfl, rfl⟩)
      generalize hW : w.alloc _ = w1
      have F1 : Fr none w w1 := hW ▸ (Fr.refl _ _).alloc _
      have hn' := hn.fr (F1.mono (r := r))
      obtain ⟨A0, c0, e0, q1, q2, hc1⟩ := hn'.open_
      injection e0 with e1 _ e3
      subst e1 e3
      have c0' : w1.cell? ⟨w.heap.size, 0, none⟩ = some (.int .i64 thr) := by rw [← hW]; exact cell_new _ _ _ _
      have c2' : w1.cell? ⟨w.heap.size, 2, none⟩ = some (.slice A' inner.length c') := by rw [← hW]; exact cell_new _ _ _ _
      have hz : w.heap.size < w1.heap.size := by rw [← hW]; simp
      have HS := Lib.hid hv
      clear hW hv
      go_loop [5, 16] (fun n i => ∃ k : Nat, k ≤ nodes.length ∧ i = .int .i64 k ∧ n = .int .i64 ((cntN s (nodes.take k) : Nat) : Int)) (fun _ i => nodes.length - (intOf i).toNat)
      case atStart => exact ⟨0, Nat.zero_le _, rfl, rfl⟩
      case round =>
        obtain ⟨k, hk, rfl, rfl⟩ := hrel
        have hle := cntN_le s (nodes.take k)
        have hle2 : (nodes.take k).length ≤ k := List.length_take_le _ _
        by_cases hlt : k < nodes.length
        · obtain ⟨b, off, rfl, hb, hbr, hc⟩ := hc1 (by omega)
          have hck := hc k hlt
          have ht := Lib.hid (cntN_take s nodes k hlt)
          go_wp2_with (go_at_call 75; refine (rhas_any _ _ _).mono ?_; rintro e w' ⟨rfl, rfl⟩)
          all_goals
            go_round
            case rel => exact ⟨k + 1, by omega, by go_num, by rw [ht.out]; simp [*]⟩
            case measure => simp [intOf]; omega
        · obtain rfl : k = nodes.length := by omega
          go_wp2_with fail
          have hle2 := cntN_le s nodes
          go_loopw [5, 29] (fun n i wr => Fr none w1 wr ∧ ∃ k : Nat, k ≤ inner.length ∧ i = .int .i64 k ∧ n = .int .i64 ((cntN s nodes + cntI s (inner.take k) : Nat) : Int)) (fun _ i _ => inner.length - (intOf i).toNat)
          case atStart => exact ⟨Fr.refl _ _, 0, Nat.zero_le _, rfl, by simp [cntI]⟩
          case round =>
            obtain ⟨F2, k, hk, rfl, rfl⟩ := hrel
            have hle := cntI_le s (inner.take k)
            have hle3 : (inner.take k).length ≤ k := List.length_take_le _ _
            have c0'' := F2.keep c0' (by simp)
            by_cases hlt : k < inner.length
            · obtain ⟨b, off, rfl, hb, hbr, hc⟩ := hcell (by omega)
              obtain ⟨x, y, z, g0, g1, g2, gt⟩ := hc k hlt
              obtain ⟨th, A1, n1, c1, A2, n2, c2, rfl, rfl, rfl⟩ := gt.shape
              have F3 := F1.pure F2
              have g0' := F3.keep g0 (by simp)
              have g1' := F3.keep g1 (by simp)
              have g2' := F3.keep g2 (by simp)
              have ht := Lib.hid (cntI_take s inner k hlt)
              have hdd : (inner[k]).dep ≤ d := by have := depL_get inner k hlt; simp only [Tr.dep] at hd; omega
              have gt' := (gt.fr (F3.mono (r := r)))
              clear c0' c2' g0 g1 g2
              go_wp2_with fail
              refine (ih inner[k] s _ _ r hdd (gt'.fr ((Fr.refl _ _).alloc _))).mono ?_
              rintro e w2 ⟨rfl, F4⟩
              have F5 := (F2.alloc _).pure F4
              clear c0'' g0' g1' g2' F4
              go_wp2_with fail
              all_goals
                go_roundw
                case rel => exact ⟨F5, k + 1, by omega, by go_num, by rw [ht.out]; simp [*]; try omega⟩
                case measure => simp [intOf]; omega
            · obtain rfl : k = inner.length := by omega
              go_wp2
              go_ret
              refine ⟨ret_bool ?_, F1.pure F2⟩
              simp [sat, HS.out]
    · have hb : sat s (.mk thr nodes inner) = false := by simp [sat, hv]
      have H := Lib.hid hb
      clear hb
      go_enter Tryz.func46, Tryz.ntmps46
      go_wp2_with (go_at_call 43; refine (rvalid_any _ _).mono ?_; rintro e w' ⟨rfl, rfl⟩)
      all_goals (go_ret; exact ⟨ret_bool H.out.symm, (Fr.refl _ _).alloc _⟩)

end Go.Proofs.YtpdhckbiioobhaaGreat

/- Walks: Of of package nodeset and of the reference. By gen_of.py. -/
namespace Go.Proofs.YtpdhckbiioobhaaGreat
open Go.RowKit

theorem hasB_nat {m j : Nat} (hm : m < 1024) (hj : j < 10) : hasB (m : Int) (j : Int) = m.testBit j := by
  have h1 : (0 : Int) ≤ (m : Int) ∧ (m : Int) ≤ 1023 := by omega
  have h2 : (0 : Int) ≤ (j : Int) ∧ (j : Int) < 10 := by omega
  simp only [hasB, validB]
  rw [decide_eq_true h1, decide_eq_true h2]
  simp

set_option maxHeartbeats 1000000 in
theorem rof_any (l : List Int) (v : Value) (w : World) (r : Option Nat) (h : SlI w r v l) :
    Calls Tryz.prog 100 #[v] w fun e w' => e = .returned (.tuple #[.int .i64 (ofS l 0).1, .int .i64 (ofS l 0).2]) ∧ w = w' := by
  obtain ⟨A, c, rfl, q1, q2, hc⟩ := h.open_
  go_enter Tryz.func100, Tryz.ntmps100
  go_wp2_with fail
  go_loop [4, 9] (fun s i => ∃ k m : Nat, k ≤ l.length ∧ i = .int .i64 k ∧ s = .int .i64 m ∧ m < 1024 ∧ Hid (ofS l 0 = ofS (l.drop k) m)) (fun _ i => l.length - (intOf i).toNat)
  case atStart => exact ⟨0, 0, Nat.zero_le _, rfl, rfl, by omega, by simp [Hid]⟩
  case round =>
    obtain ⟨k, m, hk, rfl, rfl, hm, ho⟩ := hrel
    by_cases hlt : k < l.length
    · obtain ⟨b, off, rfl, hb, hbr, hcc⟩ := hc (by omega)
      have hck := hcc k hlt
      have hd : Hid (l.drop k = l[k] :: l.drop (k + 1)) := List.drop_eq_getElem_cons hlt
      clear hcc hc
      by_cases hr : l[k] < 0 ∨ 10 ≤ l[k]
      · have hfin : Hid (ofS l 0 = (0, 5)) := by
          unfold Hid
          rw [ho.out, hd.out]
          simp only [ofS]
          rw [if_pos hr]
        rcases hr with hr | hr
        all_goals
          go_wp2_with fail
          go_ret2
          exact ⟨by rw [hfin.out]; rfl, rfl⟩
      · obtain ⟨j, hj⟩ := Int.eq_ofNat_of_zero_le (show 0 ≤ l[k] by omega)
        have hj10 : j < 10 := by omega
        have hstep : Hid (ofS l 0 = if m.testBit j then (0, 6) else ofS (l.drop (k + 1)) (m ||| 2 ^ j)) := by
          unfold Hid
          rw [ho.out, hd.out]
          simp only [ofS]
          rw [if_neg hr, hj]
          rfl
        rw [hj] at hck
        have hhas := hasB_nat hm hj10
        have hp := pow2_lt j (by omega)
        have hp2 : 2 ^ j < 2 ^ 10 := Nat.pow_lt_pow_right (by omega) hj10
        have hor : m ||| 2 ^ j < 2 ^ 10 := Nat.or_lt_two_pow (by omega) hp2
        have hbits : bits .or .i64 ((m : Nat) : Int) (wrap64 (2 ^ j)) = ((m ||| 2 ^ j : Nat) : Int) := by
          rw [wrap_pow j (by omega), or_i64 _ _ (by omega) (by omega)]
        have HOR := Lib.hid hor
        clear hj hr hd ho hp hp2 hor
        cases hb : m.testBit j
        · rw [hb] at hhas
          have HH := Lib.hid hhas
          have HB := Lib.hid hb
          clear hhas hb
          go_wp2_with (go_at_call 75; refine (rhas_any _ _ _).mono ?_; rintro e w' ⟨rfl, rfl⟩; rw [HH.out])
          go_round
          case rel => exact ⟨k + 1, m ||| 2 ^ j, by omega, by go_num, rfl, HOR.out, by unfold Hid; rw [hstep.out, HB.out]; rfl⟩
          case measure => simp [intOf]; omega
        · rw [hb] at hhas
          have HH := Lib.hid hhas
          have HB := Lib.hid hb
          clear hhas hb
          go_wp2_with (go_at_call 75; refine (rhas_any _ _ _).mono ?_; rintro e w' ⟨rfl, rfl⟩; rw [HH.out])
          go_ret2
          exact ⟨by rw [hstep.out, HB.out]; rfl, rfl⟩
    · obtain rfl : k = l.length := by omega
      go_wp2_with fail
      go_ret2
      exact ⟨by rw [ho.out]; simp [ofS], rfl⟩

set_option maxHeartbeats 1000000 in
theorem of_any (l : List Int) (v : Value) (w : World) (r : Option Nat) (h : SlI w r v l) :
    Calls Tryz.prog 98 #[v] w fun e w' => e = .returned (.tuple #[.int .i64 (ofS l 0).1, .int .i64 (ofS l 0).2]) ∧ w = w' := by
  obtain ⟨A, c, rfl, q1, q2, hc⟩ := h.open_
  go_enter Tryz.func98, Tryz.ntmps98
  go_wp2_with fail
  go_loop [4, 9] (fun s i => ∃ k m : Nat, k ≤ l.length ∧ i = .int .i64 k ∧ s = .int .i64 m ∧ m < 1024 ∧ Hid (ofS l 0 = ofS (l.drop k) m)) (fun _ i => l.length - (intOf i).toNat)
  case atStart => exact ⟨0, 0, Nat.zero_le _, rfl, rfl, by omega, by simp [Hid]⟩
  case round =>
    obtain ⟨k, m, hk, rfl, rfl, hm, ho⟩ := hrel
    by_cases hlt : k < l.length
    · obtain ⟨b, off, rfl, hb, hbr, hcc⟩ := hc (by omega)
      have hck := hcc k hlt
      have hd : Hid (l.drop k = l[k] :: l.drop (k + 1)) := List.drop_eq_getElem_cons hlt
      clear hcc hc
      by_cases hr : l[k] < 0 ∨ 10 ≤ l[k]
      · have hfin : Hid (ofS l 0 = (0, 5)) := by
          unfold Hid
          rw [ho.out, hd.out]
          simp only [ofS]
          rw [if_pos hr]
        rcases hr with hr | hr
        all_goals
          go_wp2_with fail
          go_ret2
          exact ⟨by rw [hfin.out]; rfl, rfl⟩
      · obtain ⟨j, hj⟩ := Int.eq_ofNat_of_zero_le (show 0 ≤ l[k] by omega)
        have hj10 : j < 10 := by omega
        have hstep : Hid (ofS l 0 = if m.testBit j then (0, 6) else ofS (l.drop (k + 1)) (m ||| 2 ^ j)) := by
          unfold Hid
          rw [ho.out, hd.out]
          simp only [ofS]
          rw [if_neg hr, hj]
          rfl
        rw [hj] at hck
        have hhas := hasB_nat hm hj10
        have hp := pow2_lt j (by omega)
        have hp2 : 2 ^ j < 2 ^ 10 := Nat.pow_lt_pow_right (by omega) hj10
        have hor : m ||| 2 ^ j < 2 ^ 10 := Nat.or_lt_two_pow (by omega) hp2
        have hbits : bits .or .i64 ((m : Nat) : Int) (wrap64 (2 ^ j)) = ((m ||| 2 ^ j : Nat) : Int) := by
          rw [wrap_pow j (by omega), or_i64 _ _ (by omega) (by omega)]
        have HOR := Lib.hid hor
        clear hj hr hd ho hp hp2 hor
        cases hb : m.testBit j
        · rw [hb] at hhas
          have HH := Lib.hid hhas
          have HB := Lib.hid hb
          clear hhas hb
          go_wp2_with (go_at_call 64; refine (has_any _ _ _).mono ?_; rintro e w' ⟨rfl, rfl⟩; rw [HH.out])
          go_round
          case rel => exact ⟨k + 1, m ||| 2 ^ j, by omega, by go_num, rfl, HOR.out, by unfold Hid; rw [hstep.out, HB.out]; rfl⟩
          case measure => simp [intOf]; omega
        · rw [hb] at hhas
          have HH := Lib.hid hhas
          have HB := Lib.hid hb
          clear hhas hb
          go_wp2_with (go_at_call 64; refine (has_any _ _ _).mono ?_; rintro e w' ⟨rfl, rfl⟩; rw [HH.out])
          go_ret2
          exact ⟨by rw [hstep.out, HB.out]; rfl, rfl⟩
    · obtain rfl : k = l.length := by omega
      go_wp2_with fail
      go_ret2
      exact ⟨by rw [ho.out]; simp [ofS], rfl⟩

end Go.Proofs.YtpdhckbiioobhaaGreat

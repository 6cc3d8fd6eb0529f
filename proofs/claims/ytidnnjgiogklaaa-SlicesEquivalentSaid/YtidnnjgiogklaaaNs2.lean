/- Walks: cmp.Or, nodeset.Compare, Next; the reference's Size, Compare. -/
import Derived.Test.YtidnnjgiogklaaaProg
import Derived.Test.YtidnnjgiogklaaaNs
namespace Go.Proofs.Ytidnnjgiogklaaa
open Go.RowKit

/-- The first that is not 0, or 0. -/
def orL : List Int → Int
  | [] => 0
  | x :: r => if x = 0 then orL r else x
theorem orL_skip : ∀ (l : List Int) (k : Nat), (∀ j (hj : j < l.length), j < k → l[j] = 0) → orL l = orL (l.drop k)
  | l, 0, _ => by simp
  | [], k + 1, _ => by simp
  | x :: r, k + 1, h => by
    have h0 := h 0 (by simp) (by omega)
    simp only [List.getElem_cons_zero] at h0
    simp only [orL, h0, List.drop_succ_cons]
    exact orL_skip r k fun j hj hk => by
      have := h (j + 1) (by simpa using hj) (by omega)
      simpa only [List.getElem_cons_succ] using this

set_option maxRecDepth 100000 in
theorem or_any (l : List Int) (v : Value) (w : World) (r : Option Nat) (h : SlI w r v l) : Calls Try.prog 73 #[v] w fun e w' => e = .returned (.int .i64 (orL l)) ∧ w = w' := by
  have hwi := h.2
  obtain ⟨A, c, rfl, q1, q2, hc⟩ := h.open_
  go_enter Try.func73, Try.ntmps73
  go_wp2_with fail
  go_loop [8] (fun i => ∃ k : Nat, k ≤ l.length ∧ i = .int .i64 k ∧ ∀ j (hj : j < l.length), j < k → l[j] = 0) (fun i => l.length - (intOf i).toNat)
  case atStart => exact ⟨0, Nat.zero_le _, rfl, fun j hj h => by omega⟩
  case round =>
    obtain ⟨k, hk, rfl, hno⟩ := hrel
    have HN := Lib.hid hno
    clear hno
    by_cases hlt : k < l.length
    · obtain ⟨b, off, rfl, hb, hbr, hcc⟩ := hc (by omega)
      have hck := hcc k hlt
      clear hcc hc
      by_cases hp : l[k] = 0
      · have HP := Lib.hid hp
        go_wp2_with fail
        go_round
        case rel => exact ⟨k + 1, by omega, by go_num, fun j hj h => by
          by_cases e : j = k
          · subst e; exact HP.out
          · exact HN.out j hj (by omega)⟩
        case measure => simp [intOf]; omega
      · have e1 : orL l = l[k] := by
          rw [orL_skip l k HN.out, List.drop_eq_getElem_cons hlt]
          simp [orL, hp]
        have E := Lib.hid e1
        clear e1
        go_wp2_with fail
        go_ret
        exact ⟨ret_int (by rw [E.out]), rfl⟩
    · obtain rfl : k = l.length := by omega
      have e1 : orL l = 0 := by
        rw [orL_skip l l.length HN.out, List.drop_length]
        rfl
      have E := Lib.hid e1
      clear e1
      go_wp2_with fail
      go_ret
      exact ⟨ret_int (by rw [E.out]), rfl⟩

theorem cmpI_wi (a b : Int) : Wi (cmpI a b) := by
  unfold cmpI Wi
  split
  · omega
  · split <;> omega
theorem cmpS_or (a b : Int) : orL [cmpI (rankI a) (rankI b), cmpI a b] = cmpS a b := by
  unfold cmpS
  simp only [orL]
  by_cases h : cmpI (rankI a) (rankI b) = 0
  · simp only [h, if_true]
    by_cases h2 : cmpI a b = 0 <;> simp [h2]
  · simp only [h, if_false]

theorem compare_w (a b : Int) (w : World) : Calls Try.prog 63 #[.int .i64 a, .int .i64 b] w fun e w' => e = .returned (.int .i64 (cmpS a b)) ∧ ∃ o, w' = w.alloc o := by
  have E := Lib.hid (cmpS_or a b)
  go_enter Try.func63, Try.ntmps63
  go_wp2_with (first | (go_at_call 75; refine (rank_any _ _).mono ?_; rintro e w' ⟨rfl, rfl⟩) | (go_at_call 74; refine (cmpCompare_any _ _ _).mono ?_; rintro e w' ⟨rfl, rfl⟩) | (go_at_call 73; refine (or_any [cmpI (rankI a) (rankI b), cmpI a b] _ _ none ⟨SlD.lit_dm #[.int .i64 (cmpI (rankI a) (rankI b)), .int .i64 (cmpI a b)] _ 2 1 rfl (by decide) (by simp) (Fr.refl _ _), (by simp [cmpI_wi])⟩).mono ?_; rintro e w' ⟨rfl, rfl⟩))
  go_ret
  exact ⟨ret_int (by rw [E.out]), _, rfl⟩
theorem compare_any (a b : Int) (w : World) : Calls Try.prog 63 #[.int .i64 a, .int .i64 b] w fun e w' => e = .returned (.int .i64 (cmpS a b)) ∧ Fr none w w' :=
  (compare_w a b w).mono fun _ _ ⟨he, _, hw⟩ => ⟨he, hw ▸ (Fr.refl _ _).alloc _⟩

/-- The first from t on, among f, of size z. -/
def srch (z : Nat) (t : Nat) : Nat → Option Nat
  | 0 => none
  | f + 1 => if sizS (t : Int) = z then some t else srch z (t + 1) f
def nextR (s n : Nat) : Nat × Bool :=
  match srch (sizS (s : Int)) (s + 1) (2 ^ n - (s + 1)) with
  | some t => (t, true)
  | none => if sizS (s : Int) = n then (0, false) else (2 ^ (sizS (s : Int) + 1) - 1, true)
theorem p10 (n : Nat) (hn : n ≤ 10) : 2 ^ n ≤ 1024 := by
  have := Nat.pow_le_pow_right (n := 2) (by omega) hn
  simpa using this
theorem belB_nat (s n : Nat) : belB (s : Int) n = decide (s < 2 ^ n) := by
  simp only [belB, Int.toNat_natCast]
  have e : ((2 : Int) ^ n) = ((2 ^ n : Nat) : Int) := by simp
  rw [decide_eq_decide, e]
  omega

set_option maxRecDepth 100000 in
theorem next_any (s n : Nat) (hn : n ≤ 10) (hs : s < 2 ^ n) (w : World) :
    Calls Try.prog 58 #[.int .i64 s, .int .i64 n] w fun e w' => e = .returned (.tuple #[.int .i64 (nextR s n).1, .bool (nextR s n).2]) ∧ w = w' := by
  have hp := p10 n hn
  obtain ⟨N2, hN2⟩ : ∃ x, x = 2 ^ n := ⟨_, rfl⟩
  have hbs : belB (s : Int) n = true := by rw [belB_nat]; simpa using hs
  have H := Lib.hid hbs
  have HN := Lib.hid hN2
  rw [← hN2] at hp hs
  obtain ⟨R, hR⟩ : ∃ x, x = nextR s n := ⟨_, rfl⟩
  rw [← hR]
  have HR := Lib.hid hR
  obtain ⟨z, hz⟩ : ∃ x, x = sizS (s : Int) := ⟨_, rfl⟩
  have hz10 : z ≤ 10 := hz ▸ sizS_le _
  have HZ := Lib.hid hz
  clear hbs hN2 hR hz
  go_enter Try.func58, Try.ntmps58
  go_wp2_with (first | (go_at_call 65; refine (below_any _ _ hn _).mono ?_; rintro e w' ⟨rfl, rfl⟩; rw [H.out]) | (go_at_call 70; refine (size_any _ _).mono ?_; rintro e w' ⟨rfl, rfl⟩; rw [← HZ.out]))
  go_loop [7] (fun i => ∃ t : Nat, s < t ∧ t ≤ N2 ∧ i = .int .i64 t ∧ srch z (s + 1) (N2 - (s + 1)) = srch z t (N2 - t)) (fun i => N2 - (intOf i).toNat)
  case atStart => exact ⟨s + 1, by omega, by omega, by go_num, rfl⟩
  case round =>
    obtain ⟨t, hst, htN, rfl, hsr⟩ := hrel
    have HS := Lib.hid hsr
    clear hsr
    have hbt : belB (t : Int) n = decide (t < N2) := by rw [belB_nat, HN.out]
    by_cases hlt : t < N2
    · have ht : belB (t : Int) n = true := by rw [hbt]; simpa using hlt
      have HT := Lib.hid ht
      clear hbt ht
      have e1 : srch z t (N2 - t) = if sizS (t : Int) = z then some t else srch z (t + 1) (N2 - (t + 1)) := by
        rw [show N2 - t = (N2 - (t + 1)) + 1 from by omega]
        rfl
      have E := Lib.hid e1
      clear e1
      by_cases hh : sizS (t : Int) = z
      · have HH := Lib.hid hh
        clear hh
        go_wp2_with (first | (go_at_call 65; refine (below_any _ _ hn _).mono ?_; rintro e w' ⟨rfl, rfl⟩; rw [HT.out]) | (go_at_call 70; refine (size_any _ _).mono ?_; rintro e w' ⟨rfl, rfl⟩; rw [HH.out]))
        go_ret2
        have er : R = (t, true) := by
          rw [HR.out]
          unfold nextR
          rw [← HZ.out, ← HN.out, HS.out, E.out, if_pos HH.out]
        rw [er]
        exact ⟨rfl, rfl⟩
      · have hne : ¬ sizS (t : Int) = z := hh
        go_wp2_with (first | (go_at_call 65; refine (below_any _ _ hn _).mono ?_; rintro e w' ⟨rfl, rfl⟩; rw [HT.out]) | (go_at_call 70; refine (size_any _ _).mono ?_; rintro e w' ⟨rfl, rfl⟩))
        go_round
        case rel => exact ⟨t + 1, by omega, by omega, by go_num, by rw [HS.out, E.out, if_neg hh]⟩
        case measure => simp [intOf]; omega
    · have ht : belB (t : Int) n = false := by rw [hbt]; simpa using hlt
      have HT := Lib.hid ht
      clear hbt ht
      have e1 : srch z t (N2 - t) = none := by rw [show N2 - t = 0 from by omega]; rfl
      have E := Lib.hid e1
      clear e1
      by_cases hh : z = n
      · have er : R = (0, false) := by
          rw [HR.out]
          unfold nextR
          rw [← HZ.out, ← HN.out, HS.out, E.out, hh]
          simp
        have ER := Lib.hid er
        clear er
        go_wp2_with (first | (go_at_call 65; refine (below_any _ _ hn _).mono ?_; rintro e w' ⟨rfl, rfl⟩; rw [HT.out]) | (go_at_call 70; refine (size_any _ _).mono ?_; rintro e w' ⟨rfl, rfl⟩))
        go_ret2
        rw [ER.out]
        exact ⟨rfl, rfl⟩
      · have er : R = (2 ^ (z + 1) - 1, true) := by
          rw [HR.out]
          unfold nextR
          rw [← HZ.out, ← HN.out, HS.out, E.out]
          simp [hh]
        have ER := Lib.hid er
        clear er
        go_wp2_with (first | (go_at_call 65; refine (below_any _ _ hn _).mono ?_; rintro e w' ⟨rfl, rfl⟩; rw [HT.out]) | (go_at_call 70; refine (size_any _ _).mono ?_; rintro e w' ⟨rfl, rfl⟩))
        go_ret2
        rw [ER.out]
        have ew : wrap64 (wrap64 (2 ^ (z + 1)) - 1) = ((2 ^ (z + 1) - 1 : Nat) : Int) := by
          rw [wrap_pow (z + 1) (by omega)]
          have := pow2_lt (z + 1) (by omega)
          have h1 : 0 < 2 ^ (z + 1) := Nat.two_pow_pos _
          generalize 2 ^ (z + 1) = q at *
          rw [IntWalk.wrap64_in _ ⟨by omega, by omega⟩]
          omega
        have : ∀ (x : Int), x = ((2 ^ (z + 1) - 1 : Nat) : Int) → Ending.returned (.tuple #[.int .i64 x, .bool true]) = Ending.returned (.tuple #[.int .i64 ((2 ^ (z + 1) - 1 : Nat) : Int), .bool true]) := fun x h => by rw [h]
        exact ⟨this _ ew, rfl⟩

/-- The reference's Size. -/
def popI (s : Int) (k : Nat) : Nat := popB s.toNat k
theorem shr_bit (m j : Nat) (hm : m < 9223372036854775808) : bits .and .i64 ((m : Int) / 2 ^ j) 1 = ((if m.testBit j then 1 else 0 : Nat) : Int) := by
  have e : ((m : Int) / 2 ^ j) = ((m / 2 ^ j : Nat) : Int) := by simp
  have hd : m / 2 ^ j ≤ m := Nat.div_le_self _ _
  rw [e]
  have h1 := and_i64 (m / 2 ^ j) 1 (by omega) (by omega)
  have h2 : ((1 : Nat) : Int) = 1 := rfl
  rw [h2] at h1
  rw [h1, Nat.testBit_eq_decide_div_mod_eq, Nat.and_one_is_mod]
  generalize m / 2 ^ j = x
  rcases Nat.mod_two_eq_zero_or_one x with h | h <;> simp [h]

set_option maxRecDepth 100000 in
theorem rsize_any_ (s : Int) (w : World) : Calls Try.prog 66 #[.int .i64 s] w fun e w' => e = .returned (.int .i64 (sizS s)) ∧ w = w' := by
  by_cases hv : validB s = true
  · have hs : 0 ≤ s ∧ s ≤ 1023 := by simpa [validB] using hv
    obtain ⟨hs0, hs1⟩ := hs
    obtain ⟨m, rfl⟩ := Int.eq_ofNat_of_zero_le hs0
    have e1 : sizS (m : Int) = popB m 10 := by simp [sizS, hv]
    have H := Lib.hid hv
    have E := Lib.hid e1
    clear hv e1
    go_enter Try.func66, Try.ntmps66
    go_wp2_with fail
    go_loop [3, 4] (fun n k => ∃ j p : Nat, j ≤ 10 ∧ k = .int .i64 j ∧ n = .int .i64 p ∧ p = popB m j ∧ p ≤ 10) (fun n k => 10 - (intOf k).toNat)
    case atStart => exact ⟨0, 0, by omega, rfl, rfl, rfl, by omega⟩
    case round =>
      obtain ⟨j, p, hj, rfl, rfl, hp, hp10⟩ := hrel
      have HP := Lib.hid hp
      clear hp
      by_cases hlt : j < 10
      · have hb := shr_bit m j (by omega)
        obtain ⟨d, hd⟩ : ∃ d : Nat, d = if m.testBit j then 1 else 0 := ⟨_, rfl⟩
        rw [← hd] at hb
        have hd1 : d ≤ 1 := by rw [hd]; split <;> omega
        have HD := Lib.hid hd
        clear hd
        go_wp2_with (go_at_call 26; refine (rvalid_any _ _).mono ?_; rintro e w' ⟨rfl, rfl⟩; rw [H.out])
        go_round
        case rel => exact ⟨j + 1, p + d, by omega, by go_num, by go_num, by rw [HP.out, HD.out]; rfl, by rw [HP.out, HD.out]; have := popB_le m (j + 1); simp only [popB] at this; omega⟩
        case measure => simp [intOf]; omega
      · obtain rfl : j = 10 := by omega
        go_wp2_with fail
        go_ret
        exact ⟨ret_int (by rw [E.out, HP.out]), rfl⟩
  · have e1 : sizS s = 0 := by simp [sizS, hv]
    have E := Lib.hid e1
    have hv' : validB s = false := by simpa using hv
    have H := Lib.hid hv'
    clear hv e1 hv'
    go_enter Try.func66, Try.ntmps66
    go_wp2_with fail
    go_loop [3, 4] (fun n k => n = .int .i64 0 ∧ k = .int .i64 0) (fun n k => 0)
    case atStart => exact ⟨rfl, rfl⟩
    case round =>
      obtain ⟨rfl, rfl⟩ := hrel
      go_wp2_with (go_at_call 26; refine (rvalid_any _ _).mono ?_; rintro e w' ⟨rfl, rfl⟩; rw [H.out])
      go_ret
      exact ⟨ret_int (by rw [E.out]; rfl), rfl⟩

theorem rcompare_lt (a b : Int) (h : cmpS a b = -1) (w : World) : Calls Try.prog 48 #[.int .i64 a, .int .i64 b] w fun e w' => e = .returned (.int .i64 (-1)) ∧ w = w' := by
  have hva : ∀ s, validB s = true → rankI s = sizS s := fun s h => by simp [rankI, h]
  have hvn : ∀ s, ¬ validB s = true → rankI s = -1 := fun s h => by simp [rankI, h]
  obtain ⟨x, hx⟩ : ∃ x, x = rankI a := ⟨_, rfl⟩
  obtain ⟨y, hy⟩ : ∃ y, y = rankI b := ⟨_, rfl⟩
  have hlt : x < y ∨ (x = y ∧ a < b) := by
    unfold cmpS at h
    rw [← hx, ← hy] at h
    unfold cmpI at h
    split at h <;> split at h <;> (try split at h) <;> (try split at h) <;> first | omega | (simp at h; done) | (simp at *; omega)
  have ha : (validB a = true ∧ x = sizS a) ∨ (validB a = false ∧ x = -1) := by
    by_cases q : validB a = true
    · exact .inl ⟨q, by rw [hx, hva a q]⟩
    · exact .inr ⟨by simpa using q, by rw [hx, hvn a q]⟩
  have hb : (validB b = true ∧ y = sizS b) ∨ (validB b = false ∧ y = -1) := by
    by_cases q : validB b = true
    · exact .inl ⟨q, by rw [hy, hva b q]⟩
    · exact .inr ⟨by simpa using q, by rw [hy, hvn b q]⟩
  clear h hva hvn hx hy
  rcases ha with ⟨ha, ea⟩ | ⟨ha, ea⟩ <;> rcases hb with ⟨hb, eb⟩ | ⟨hb, eb⟩ <;>
  (have HA := Lib.hid ha
   have HB := Lib.hid hb
   have EA := Lib.hid ea
   have EB := Lib.hid eb
   clear ha hb ea eb
   rcases hlt with hlt | ⟨hxy, hab⟩ <;>
   (go_enter Try.func48, Try.ntmps48
    go_wp2_with (first | (go_at_call 26; refine (rvalid_any _ _).mono ?_; rintro e w' ⟨rfl, rfl⟩; first | rw [HA.out] | rw [HB.out]) | (go_at_call 66; refine (rsize_any_ _ _).mono ?_; rintro e w' ⟨rfl, rfl⟩; first | rw [← EA.out] | rw [← EB.out]))
    all_goals (go_ret; first | exact ⟨rfl, rfl⟩ | (exfalso; have := EA.out; have := EB.out; simp_all; done) | (exfalso; have := EA.out; have := EB.out; simp_all; omega))))

end Go.Proofs.Ytidnnjgiogklaaa

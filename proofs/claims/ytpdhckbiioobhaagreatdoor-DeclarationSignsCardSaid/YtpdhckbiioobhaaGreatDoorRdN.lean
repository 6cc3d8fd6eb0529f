/- Walks: the reader of notation: take, number. -/
import Derived.Test.YtpdhckbiioobhaaGreatDoorProg
import Derived.Test.YtpdhckbiioobhaaGreatDoorRdW
import Derived.Test.YtpdhckbiioobhaaGreatDoorParQ
import Derived.Lib.AtoiErrMem
namespace Go.Proofs.YtpdhckbiioobhaaGreatDoor
open Go.RowKit

/-- The reader in block g stands before what is left, u, of its text S. -/
def RdS (w : World) (g : Nat) (S : ByteArray) (u : List UInt8) : Prop :=
  ∃ (k : Nat) (T : ByteArray), RdB w g S T k ∧ k ≤ S.size ∧ S.data.toList.drop k = u ∧ T.data.toList = tok u
theorem RdS.fr {w w' : World} {g : Nat} {S : ByteArray} {u : List UInt8} {r : Option Nat} (h : RdS w g S u) (f : Fr r w w') (hr : r ≠ some g) : RdS w' g S u := by
  obtain ⟨k, T, h1, h2⟩ := h
  exact ⟨k, T, h1.fr f hr, h2⟩
theorem RdS.lt {w : World} {g : Nat} {S : ByteArray} {u : List UInt8} (h : RdS w g S u) : g < w.heap.size := by
  obtain ⟨k, T, h1, h2⟩ := h
  exact blk_lt h1
theorem size_list (S : ByteArray) : S.size = S.data.toList.length := (Array.length_toList).symm
theorem RdS.parts {w : World} {g : Nat} {S : ByteArray} {u : List UInt8} (h : RdS w g S u) :
    ∃ (k : Nat) (T : ByteArray), RdB w g S T k ∧ k + u.length = S.size ∧ S.data.toList.drop k = u ∧ T.data.toList = tok u ∧ T.size = tokN u ∧ k + T.size ≤ S.size := by
  obtain ⟨k, T, h1, h2, h3, h4⟩ := h
  have e1 : u.length + k = S.size := by
    rw [← h3, List.length_drop, size_list] at *
    omega
  have e2 : T.size = tokN u := by rw [size_list, h4, tok_len]
  have := tokN_le u
  exact ⟨k, T, h1, by omega, h3, h4, e2, by omega⟩
theorem RdS.le {w : World} {g : Nat} {S : ByteArray} {u : List UInt8} (h : RdS w g S u) : u.length ≤ S.size := by
  obtain ⟨k, T, _, h, _⟩ := h.parts
  omega
/-- The reader goes on. -/
def StepP (w : World) (g : Nat) (S : ByteArray) (u : List UInt8) (e : Ending) (w' : World) : Prop :=
  e = .returned (.tuple #[]) ∧ RdS w' g S (nxt u) ∧ Fr (some g) w w'
theorem step_any (g : Nat) (S : ByteArray) (u : List UInt8) (w : World) (h : RdS w g S u) (hS : S.size ≤ 6001) :
    Calls Tryz.prog 147 #[.pointer (some ⟨g, 0, none⟩)] w (StepP w g S u) := by
  obtain ⟨k, T, h1, h2, h3, h4, h5, h6⟩ := h.parts
  refine (next_any g k (k + T.size) S T w h1 rfl h6 hS).mono ?_
  rintro e w' ⟨k', T', rfl, a1, a2, a3, a4, a5, a6⟩
  refine ⟨rfl, ⟨k', T', a5, a1, ?_, ?_⟩, a6⟩
  · rw [a2]
    unfold nxt
    rw [← h3, List.drop_drop, h5, h3]
  · rw [a3]
    unfold nxt
    rw [← h3, List.drop_drop, h5, h3]

theorem str_eq_iff (T : ByteArray) (l : List UInt8) : (T.toList == l) = (T.data.toList == l) := by rw [ByteArray.toList_eq]
theorem take_yes (g : Nat) (S P : ByteArray) (u : List UInt8) (w : World) (h : RdS w g S u) (hS : S.size ≤ 6001) (hp : tok u = P.data.toList) :
    Calls Tryz.prog 195 #[.pointer (some ⟨g, 0, none⟩), .string P] w fun e w' => e = .returned (.bool true) ∧ RdS w' g S (nxt u) ∧ Fr (some g) w w' := by
  obtain ⟨k, T, h1, h2, h3, h4, h5, h6⟩ := h.parts
  have R := h1.cell
  obtain rfl : T = P := by
    apply ByteArray.ext
    apply Array.toList_inj.1
    rw [h4, hp]
  clear h3 h4 hp
  go_enter Tryz.func195, Tryz.ntmps195
  go_wp2_with fail
  refine (step_any g S u _ h hS).mono ?_
  rintro e w' ⟨rfl, S1, F1⟩
  go_wp2_with fail
  go_ret
  exact ⟨rfl, S1, F1⟩
theorem take_no (g : Nat) (S P : ByteArray) (u : List UInt8) (w : World) (h : RdS w g S u) (hp : tok u ≠ P.data.toList) :
    Calls Tryz.prog 195 #[.pointer (some ⟨g, 0, none⟩), .string P] w fun e w' => e = .returned (.bool false) ∧ w = w' := by
  obtain ⟨k, T, h1, h2, h3, h4, h5, h6⟩ := h.parts
  have R := h1.cell
  have hne : (T.toList == P.toList) = false := by
    rw [ByteArray.toList_eq, ByteArray.toList_eq, h4, beq_eq_false_iff_ne]
    exact hp
  clear h3 h4 hp
  go_enter Tryz.func195, Tryz.ntmps195
  go_wp2_with fail
  go_ret
  exact ⟨rfl, rfl⟩

theorem head_size {T : ByteArray} {c : UInt8} {r : List UInt8} (h : T.data.toList = c :: r) : T.size = r.length + 1 := by
  rw [size_list, h]; rfl
theorem head_get {T : ByteArray} {c : UInt8} {r : List UInt8} (h : T.data.toList = c :: r) (hz : 0 < T.size) : T[0] = c := by
  have : T[0] = T.data.toList[0]'(by simpa using hz) := rfl
  rw [this]
  simp [h]
theorem numP_eq (u : List UInt8) : numP u = if numB (tok u) then some (numV 0 (tok u)) else none := rfl
theorem number_no (g : Nat) (S : ByteArray) (u : List UInt8) (w : World) (h : RdS w g S u) (hn : numP u = none) :
    Calls Tryz.prog 148 #[.pointer (some ⟨g, 0, none⟩)] w fun e w' => e = .returned (.tuple #[.int .i64 0, .bool false]) ∧ w = w' := by
  obtain ⟨k, T, h1, h2, h3, h4, h5, h6⟩ := h.parts
  have R := h1.cell
  have hb : numB T.data.toList = false := by
    rw [numP_eq, h4.symm] at hn
    cases hc : numB T.data.toList
    · rfl
    · rw [if_pos hc] at hn; cases hn
  clear h3 h4 hn
  cases hT : T.data.toList with
  | nil =>
    have he0 : T.toList.isEmpty = true := by rw [ByteArray.toList_eq, hT]; rfl
    clear hT hb
    go_enter Tryz.func148, Tryz.ntmps148
    go_wp2_with fail
    go_ret2
    exact ⟨rfl, rfl⟩
  | cons c r =>
    have he0 : T.toList.isEmpty = false := by rw [ByteArray.toList_eq, hT]; rfl
    have hz := head_size hT
    have hz0 : 0 < T.size := by omega
    have hg := head_get hT hz0
    rw [hT] at hb
    simp only [numB, Bool.and_eq_false_iff, Bool.not_eq_false', Bool.and_eq_true, decide_eq_false_iff_not, decide_eq_true_eq, beq_iff_eq] at hb
    obtain ⟨m, hm⟩ : ∃ m, m = r.length := ⟨_, rfl⟩
    rw [← hm] at hz hb
    obtain ⟨dg, hdg⟩ : ∃ dg, dg = isDg T[0] := ⟨_, rfl⟩
    have HDG := Lib.hid hdg
    rw [← hg] at hb
    rw [← hdg] at hb
    have HG := Lib.hid hg
    have hm0 : m + 1 ≤ T.size := by omega
    have hm1 : T.size ≤ m + 1 := by omega
    clear hT hdg hg hm hz
    cases dg with
    | false =>
      clear hb
      go_enter Tryz.func148, Tryz.ntmps148
      go_wp2_with (go_at_call 194; refine (digit_any T[0] _).mono ?_; rintro e w' ⟨rfl, rfl⟩; rw [← HDG.out])
      go_ret2
      exact ⟨rfl, rfl⟩
    | true =>
      by_cases h3 : 3 < m
      · clear hb
        go_enter Tryz.func148, Tryz.ntmps148
        go_wp2_with (go_at_call 194; refine (digit_any T[0] _).mono ?_; rintro e w' ⟨rfl, rfl⟩; rw [← HDG.out])
        go_ret2
        exact ⟨rfl, rfl⟩
      · have hb2 : 1 ≤ m ∧ T[0] = 48 := by
          rcases hb with hb | hb
          · rcases hb with hb | hb
            · cases hb
            · omega
          · exact hb
        obtain ⟨hb3, hb4⟩ := hb2
        have hb5 : ((T[0].toNat : Int) == 48) = true := by rw [hb4]; rfl
        clear hb hb4
        go_enter Tryz.func148, Tryz.ntmps148
        go_wp2_with (go_at_call 194; refine (digit_any T[0] _).mono ?_; rintro e w' ⟨rfl, rfl⟩; rw [← HDG.out])
        go_ret2
        exact ⟨rfl, rfl⟩

theorem decFrom_num : ∀ (l : List UInt8) (a : Nat), (∀ c ∈ l, isDg c = true) → Lib.decFrom a l = some (numV a l)
  | [], a, _ => rfl
  | c :: r, a, h => by
    have hc := h c (by simp)
    simp only [isDg, decide_eq_true_eq] at hc
    have ih := decFrom_num r (a * 10 + (c.toNat - 48)) fun x hx => h x (List.mem_cons_of_mem _ hx)
    simp only [Lib.decFrom, Lib.digitVal]
    rw [if_pos hc]
    simp only
    rw [ih, Nat.mul_comm]
    rfl
theorem tok_dg {u : List UInt8} (h : numB (tok u) = true) : ∀ c ∈ tok u, isDg c = true := by
  by_cases h1 : u.take 2 = [111, 102]
  · have e : tok u = [111, 102] := by unfold tok tokN; rw [if_pos h1, h1]
    rw [e] at h
    exact absurd h (by decide)
  · cases u with
    | nil => intro c hc; simp [tok] at hc
    | cons c r =>
      by_cases h2 : c = 40 ∨ c = 41 ∨ c = 44
      · have e : tok (c :: r) = [c] := by unfold tok tokN; rw [if_neg h1]; simp only; rw [if_pos h2]; simp
        rw [e] at h
        rcases h2 with rfl | rfl | rfl <;> exact absurd h (by decide)
      · have e : tok (c :: r) = (c :: r).takeWhile isDg := by
          unfold tok tokN
          rw [if_neg h1]
          simp only
          rw [if_neg h2]
          exact (List.prefix_iff_eq_take.1 (List.takeWhile_prefix isDg)).symm
        rw [e]
        intro x hx
        exact List.all_eq_true.1 List.all_takeWhile x hx
theorem atoi_num {l : List UInt8} (h0 : l ≠ []) (h : ∀ c ∈ l, isDg c = true) : Lib.atoi l = some ((numV 0 l : Nat) : Int) := by
  cases l with
  | nil => exact absurd rfl h0
  | cons c r =>
    have hc := h c (by simp)
    simp only [isDg, decide_eq_true_eq] at hc
    have e1 : (c == 45) = false := by rw [beq_eq_false_iff_ne]; rintro rfl; exact absurd hc (by decide)
    have e2 : (c == 43) = false := by rw [beq_eq_false_iff_ne]; rintro rfl; exact absurd hc (by decide)
    have e3 := decFrom_num (c :: r) 0 h
    simp only [Lib.atoi, e1, e2, Lib.decNat, List.isEmpty_cons, Bool.false_eq_true, if_false]
    rw [e3]
    rfl
/-- What number leaves where there is one. -/
def NrP (w : World) (g : Nat) (S : ByteArray) (u : List UInt8) (n : Nat) (e : Ending) (w' : World) : Prop :=
  e = .returned (.tuple #[.int .i64 (n : Int), .bool true]) ∧ RdS w' g S (nxt u) ∧ Fr (some g) w w'
theorem number_yes (g : Nat) (S : ByteArray) (u : List UInt8) (n : Nat) (w : World) (h : RdS w g S u) (hS : S.size ≤ 6001) (hn : numP u = some n) :
    Calls Tryz.prog 148 #[.pointer (some ⟨g, 0, none⟩)] w (NrP w g S u n) := by
  obtain ⟨k, T, h1, h2, h3, h4, h5, h6⟩ := h.parts
  have R := h1.cell
  rw [numP_eq] at hn
  cases hb : numB (tok u) with
  | false => rw [hb] at hn; simp at hn
  | true =>
    rw [if_pos hb] at hn
    injection hn with hn
    have hdg := tok_dg hb
    rw [← h4] at hb hdg hn
    have hat := atoi_num (numB_ne hb) hdg
    rw [hn] at hat
    cases hT : T.data.toList with
    | nil => rw [hT] at hb; simp [numB] at hb
    | cons c r =>
      have he0 : T.toList.isEmpty = false := by rw [ByteArray.toList_eq, hT]; rfl
      have hz := head_size hT
      have hz0 : 0 < T.size := by omega
      have hg := head_get hT hz0
      rw [hT] at hb hdg
      have hd0 := hdg c (by simp)
      simp only [numB, Bool.and_eq_true, Bool.not_eq_true', Bool.and_eq_false_iff, decide_eq_false_iff_not, decide_eq_true_eq, beq_eq_false_iff_ne] at hb
      obtain ⟨⟨_, hb1⟩, hb2⟩ := hb
      obtain ⟨m, hm⟩ : ∃ m, m = r.length := ⟨_, rfl⟩
      rw [← hm] at hz hb1 hb2
      rw [← hg] at hb2 hd0
      have HDG := Lib.hid hd0
      have HAT := Lib.hid hat
      have hs18 : T.size ≤ 18 := by omega
      have hs4 : T.size ≤ 4 := by omega
      have hm1 : T.size ≤ m + 1 := by omega
      have hm0 : m + 1 ≤ T.size := by omega
      have hcase : T.size ≤ 1 ∨ (1 < T.size ∧ ((T[0].toNat : Int) == 48) = false) := by
        rcases Nat.lt_or_ge 1 T.size with hh | hh
        · right
          refine ⟨hh, ?_⟩
          rw [beq_eq_false_iff_ne]
          intro e
          rcases hb2 with hb2 | hb2
          · omega
          · apply hb2
            apply UInt8.toNat_inj.1
            have : T[0].toNat = 48 := by omega
            exact this
        · exact .inl hh
      clear hT hdg hg hm hz hb2 hd0 hat hn h4 h3 h5
      rcases hcase with hc | ⟨hc, hne⟩
      all_goals
        go_enter Tryz.func148, Tryz.ntmps148
        go_wp2_with (first | (go_at_call 194; refine (digit_any T[0] _).mono ?_; rintro e w' ⟨rfl, rfl⟩; rw [HDG.out]) | (go_at_call 143; refine (Tryz.strconv_Atoi T n hs18 HAT.out _).mono ?_; rintro e w1 ⟨rfl, t, hw1⟩; have F1 : Fr none w w1 := (hw1 ▸ Fr.of_below (Lib.bytesWorld_below _ _ _)); clear hw1) | (go_at_call 147; refine (step_any g S u _ (h.fr F1 (by simp)) hS).mono ?_; rintro e w2 ⟨rfl, S2, F2⟩))
        go_ret2
        exact ⟨rfl, S2, F1.mono.same F2⟩
end Go.Proofs.YtpdhckbiioobhaaGreatDoor

/- Walks: the reference's Compare at valid sets, Least, Meeting. -/
import Derived.Test.YtidnnjgiogklaaaProg
import Derived.Test.YtidnnjgiogklaaaRLeP
import Derived.Test.YtidnnjgiogklaaaLeastW
namespace Go.Proofs.Ytidnnjgiogklaaa
open Go.RowKit

theorem cmpS_val {a b : Int} (ha : validB a = true) (hb : validB b = true) : cmpS a b = if sizS a < sizS b ∨ (sizS a = sizS b ∧ a < b) then -1 else if sizS a = sizS b ∧ a = b then 0 else 1 := by
  have ra : rankI a = sizS a := by simp [rankI, ha]
  have rb : rankI b = sizS b := by simp [rankI, hb]
  unfold cmpS cmpI
  rw [ra, rb]
  by_cases h1 : sizS a < sizS b
  · have : ((sizS a : Nat) : Int) < (sizS b : Nat) := by omega
    simp [h1, this]
  · by_cases h2 : sizS a = sizS b
    · rw [h2]
      by_cases h3 : a < b
      · simp [h3]
      · by_cases h4 : b < a
        · have : ¬ a = b := by omega
          simp [h3, h4, this]
        · have : a = b := by omega
          simp [this]
    · have h5 : ¬ ((sizS a : Nat) : Int) < (sizS b : Nat) := by omega
      have h6 : ((sizS b : Nat) : Int) < (sizS a : Nat) := by omega
      simp [h1, h2, h5, h6]
theorem rcompare_v (a b : Int) (ha : validB a = true) (hb : validB b = true) (w : World) : Calls Try.prog 48 #[.int .i64 a, .int .i64 b] w fun e w' => e = .returned (.int .i64 (cmpS a b)) ∧ w = w' := by
  have hc := cmpS_val ha hb
  have HA := Lib.hid ha
  have HB := Lib.hid hb
  have hp1 := sizS_le a
  have hq1 := sizS_le b
  obtain ⟨p, hp⟩ : ∃ p, p = sizS a := ⟨_, rfl⟩
  obtain ⟨q, hq⟩ : ∃ q, q = sizS b := ⟨_, rfl⟩
  rw [← hp, ← hq] at hc
  rw [← hp] at hp1
  rw [← hq] at hq1
  have HP := Lib.hid hp
  have HQ := Lib.hid hq
  have HC := Lib.hid hc
  clear ha hb hp hq hc
  by_cases h1 : p < q
  · have E : Hid (cmpS a b = -1) := by unfold Hid; rw [HC.out, if_pos (.inl h1)]
    go_enter Try.func48, Try.ntmps48
    go_wp2_with (first | (go_at_call 26; refine (rvalid_any _ _).mono ?_; rintro e w' ⟨rfl, rfl⟩; first | rw [HA.out] | rw [HB.out]) | (go_at_call 66; refine (rsize_any_ _ _).mono ?_; rintro e w' ⟨rfl, rfl⟩; first | rw [← HP.out] | rw [← HQ.out]))
    go_ret
    exact ⟨ret_int (by rw [E.out]), rfl⟩
  · by_cases h2 : p = q
    · by_cases h3 : a < b
      · have E : Hid (cmpS a b = -1) := by unfold Hid; rw [HC.out, if_pos (.inr ⟨h2, h3⟩)]
        subst h2
        go_enter Try.func48, Try.ntmps48
        go_wp2_with (first | (go_at_call 26; refine (rvalid_any _ _).mono ?_; rintro e w' ⟨rfl, rfl⟩; first | rw [HA.out] | rw [HB.out]) | (go_at_call 66; refine (rsize_any_ _ _).mono ?_; rintro e w' ⟨rfl, rfl⟩; first | rw [← HP.out] | rw [← HQ.out]))
        go_ret
        exact ⟨ret_int (by rw [E.out]), rfl⟩
      · by_cases h4 : a = b
        · have E : Hid (cmpS a b = 0) := by unfold Hid; rw [HC.out, if_neg (by omega), if_pos ⟨h2, h4⟩]
          subst h2 h4
          go_enter Try.func48, Try.ntmps48
          go_wp2_with (first | (go_at_call 26; refine (rvalid_any _ _).mono ?_; rintro e w' ⟨rfl, rfl⟩; first | rw [HA.out] | rw [HB.out]) | (go_at_call 66; refine (rsize_any_ _ _).mono ?_; rintro e w' ⟨rfl, rfl⟩; first | rw [← HP.out] | rw [← HQ.out]))
          go_ret
          exact ⟨ret_int (by rw [E.out]), rfl⟩
        · have E : Hid (cmpS a b = 1) := by unfold Hid; rw [HC.out, if_neg (by omega), if_neg (by omega)]
          have hne : (a == b) = false := by rw [beq_eq_false_iff_ne]; exact h4
          subst h2
          clear h4
          go_enter Try.func48, Try.ntmps48
          go_wp2_with (first | (go_at_call 26; refine (rvalid_any _ _).mono ?_; rintro e w' ⟨rfl, rfl⟩; first | rw [HA.out] | rw [HB.out]) | (go_at_call 66; refine (rsize_any_ _ _).mono ?_; rintro e w' ⟨rfl, rfl⟩; first | rw [← HP.out] | rw [← HQ.out]))
          go_ret
          exact ⟨ret_int (by rw [E.out]), rfl⟩
    · have E : Hid (cmpS a b = 1) := by unfold Hid; rw [HC.out, if_neg (by omega), if_neg (by omega)]
      have hlt : q < p := by omega
      clear h1 h2
      go_enter Try.func48, Try.ntmps48
      go_wp2_with (first | (go_at_call 26; refine (rvalid_any _ _).mono ?_; rintro e w' ⟨rfl, rfl⟩; first | rw [HA.out] | rw [HB.out]) | (go_at_call 66; refine (rsize_any_ _ _).mono ?_; rintro e w' ⟨rfl, rfl⟩; first | rw [← HP.out] | rw [← HQ.out]))
      go_ret
      exact ⟨ret_int (by rw [E.out]), rfl⟩

theorem splice_rest {α : Type} (P R cs : List α) (off : Nat) (h : off + cs.length ≤ P.length) : splice (P ++ R) off cs = splice P off cs ++ R := by
  unfold splice
  rw [List.take_append_of_le_length (by omega), List.drop_append_of_le_length h]
  simp
theorem splice_map {α β : Type} (f : α → β) (P cs : List α) (off : Nat) : splice (P.map f) off (cs.map f) = (splice P off cs).map f := by
  unfold splice
  simp [List.map_take, List.map_drop]
/-- The row behind the copy and the store is the list with x put in. -/
theorem row_ins {w1 : World} {g base n cap k : Nat} {cur : Array Value} {out : List Int} {x : Int} (hn : out.length = n) (hk : k ≤ n) (hcur : cur.toList.take (n + 1) = (out ++ [0]).map (Value.int .i64)) (hsz : cur.size = cap) (hnc : n + 1 ≤ cap) (hm : cap ≤ maxLen) (hg : base ≤ g)
    (h : w1.heap[g]? = some (.cells (splice cur.toList (k + 1) ((out.drop k).map (Value.int .i64))).toArray 3 (0, 0))) :
    (w1.setCell ⟨g, k, none⟩ (.int .i64 x)).ownsRow base 3 1 (.slice (some ⟨g, 0, none⟩) (n + 1) cap) (n + 1) ((insS out k x).map (Value.int .i64)) := by
  have e0 : cur.toList = (out ++ [0]).map (Value.int .i64) ++ cur.toList.drop (n + 1) := by rw [← hcur, List.take_append_drop]
  have e1 : splice cur.toList (k + 1) ((out.drop k).map (Value.int .i64)) = (splice (out ++ [0]) (k + 1) (out.drop k)).map (Value.int .i64) ++ cur.toList.drop (n + 1) := by
    conv => lhs; rw [e0]
    rw [splice_rest _ _ _ _ (by simp; omega), splice_map]
  have hl : (splice (out ++ [0]) (k + 1) (out.drop k)).length = n + 1 := by rw [length_splice _ _ _ (by simp; omega)]; simp [hn]
  have h2 := blk_set h k (.int .i64 x)
  rw [e1] at h2
  refine ⟨by rw [List.length_map, insS_len, hn]; simp, .inr ⟨g, cap, _, rfl, hg, h2, hnc, hm, ?_, ?_⟩⟩
  · have e2 : (cur.toList.drop (n + 1)).length = cap - (n + 1) := by rw [List.length_drop, Array.length_toList, hsz]
    rw [Array.size_setIfInBounds, List.size_toArray, List.length_append, List.length_map, hl, e2]
    omega
  · rw [List.setIfInBounds_toArray, List.toList_toArray, List.set_append_left _ _ (by rw [List.length_map, hl]; omega)]
    rw [Nat.mul_one, List.take_append_of_le_length (by rw [List.length_set, List.length_map, hl]; omega), List.take_of_length_le (by rw [List.length_set, List.length_map, hl]; omega)]
    rw [← splice_ins out k x (by omega), ← List.map_set]

end Go.Proofs.Ytidnnjgiogklaaa

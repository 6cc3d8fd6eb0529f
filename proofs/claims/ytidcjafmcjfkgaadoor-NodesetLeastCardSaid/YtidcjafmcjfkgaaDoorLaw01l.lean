/- The law NodesetLeast: its walk. -/
import Derived.Test.YtidcjafmcjfkgaaDoorProg
import Derived.Test.YtidcjafmcjfkgaaDoorSetsW
import Derived.Test.YtidcjafmcjfkgaaDoorLeastW
import Derived.Test.YtidcjafmcjfkgaaDoorAwake1
namespace Go.Proofs.YtidcjafmcjfkgaaDoor
open Go.RowKit

/-- x & y == x, as the program asks it. -/
def andI (x y : Int) : Bool := bits .and .i64 x y == x
theorem andI_sb {a b : Nat} (ha : a ≤ 1023) (hb : b ≤ 1023) : andI (a : Int) (b : Int) = true ↔ Sb a b := by
  unfold andI
  rw [and_i64 a b (by omega) (by omega), beq_iff_eq, ← sb_land]
  omega
theorem andI_subI {x y : Int} (hx : validB x = true) (hy : validB y = true) : andI x y = subI x y := by
  obtain ⟨a, rfl, ha⟩ := validB_nat hx
  obtain ⟨b, rfl, hb⟩ := validB_nat hy
  rw [Bool.eq_iff_iff, andI_sb ha hb, subI_sb ha]
theorem least_and {l : List Int} (i k : Nat) (hi : i < (leastS l).length) (hk : k < (leastS l).length) (h : i ≠ k) : andI (leastS l)[i] (leastS l)[k] = false := by
  have h1 := (leastS_mem (List.getElem_mem hi)).2
  have h2 := (leastS_mem (List.getElem_mem hk)).2
  rw [andI_subI h1 h2]
  cases hs : subI (leastS l)[i] (leastS l)[k]
  · rfl
  · exfalso
    have e := leastS_anti (List.getElem_mem hi) (List.getElem_mem hk) hs
    have hst := List.pairwise_iff_getElem.1 (leastS_strict l)
    rcases Nat.lt_or_gt_of_ne h with h3 | h3
    · have := hst i k hi hk h3
      rw [e, cmpS_ltQ] at this
      omega
    · have := hst k i hk hi h3
      rw [e, cmpS_ltQ] at this
      omega
theorem least_some {l : List Int} {m : Nat} (hm : m ≤ 10) (h : Bel m l) (x : Int) (hx : x ∈ l) : ((leastS l).any fun y => andI y x) = true := by
  obtain ⟨a, rfl, ha⟩ := h x hx
  have hv := nat_validB (Bel.le hm ha)
  obtain ⟨t, ht, hs⟩ := leastS_cover hx hv
  exact List.any_eq_true.2 ⟨t, ht, by rw [andI_subI (leastS_mem ht).2 hv]; exact hs⟩

set_option maxRecDepth 100000 in
set_option maxHeartbeats 1000000 in
theorem law01l_any (v : Value) (t : List Int) (w : World) (h : SlI w none v t) : Calls Tryd.prog 3 #[v] w fun e w' => e = .returned (.bool true) ∧ Fr none w w' := by
  go_enter Tryd.func3, Tryd.ntmps3
  go_wp2_with fail
  refine (tapeNew_any _ _ _ h).mono ?_
  rintro e w1 ⟨g, rfl, hg, S1, F1⟩
  go_wp2_with fail
  refine (tapeRange_any 1 9 g _ (by omega) (by omega) (by omega) S1).mono ?_
  rintro e w2 ⟨x, rfl, x1, x2, S2, F2⟩
  obtain ⟨m, rfl⟩ := Int.eq_ofNat_of_zero_le (show 0 ≤ x by omega)
  have hm : m ≤ 10 := by omega
  go_wp2_with fail
  refine (sets_any 12 m g _ (by omega) hm S2).mono ?_
  rintro e w3 ⟨vl, l, rfl, hll, hb, D3, S3, F3⟩
  have SL : SlI w3 none vl l := ⟨D3.keep (dn_dm (by simp)), bel_wi hm hb⟩
  have F03 : Fr none w w3 := F1.own (F2.same F3) (fun q hq => by injection hq with hq; omega)
  clear S1 S2 S3 F1 F2 F3 D3 h
  have HB := Lib.hid hb
  clear hb
  go_wp2_with fail
  refine (least_any l _ _ SL (by omega)).mono ?_
  rintro e w4 ⟨vm, rfl, D4, F4⟩
  have hwm : ∀ y ∈ leastS l, Wi y := fun y hy => valid_wi (leastS_mem hy).2
  have SM : SlI w4 none vm (leastS l) := ⟨D4.keep (dn_dm (by simp)), hwm⟩
  have SL4 := SL.fr F4
  have hlm := leastS_len l
  have hin : ∀ y ∈ leastS l, y ∈ l := fun y hy => (leastS_mem hy).1
  have hand := fun i k hi hk h => least_and (l := l) i k hi hk h
  have hsome := fun y hy => least_some hm HB.out y hy
  generalize leastS l = M at *
  have F04 := F03.pure F4
  have HIn := Lib.hid hin
  have HAnd := Lib.hid hand
  have HSome := Lib.hid hsome
  have HSL := Lib.hid SL4
  have HSM := Lib.hid SM
  obtain ⟨A, c, rfl, q1, q2, hc⟩ := SM.open_
  obtain ⟨B, d, rfl, q3, q4, hd⟩ := SL4.open_
  clear hin hand hsome D4 F4 SL SM SL4 hwm F03
  go_wp2_with fail
  go_loop [25] (fun s => ∃ i : Nat, i ≤ M.length ∧ s = .int .i64 i) (fun s => M.length - (intOf s).toNat)
  case atStart => exact ⟨0, Nat.zero_le _, rfl⟩
  case round =>
    obtain ⟨i, hi, rfl⟩ := hrel
    by_cases hlt : i < M.length
    · obtain ⟨b, off, rfl, hb, hbr, hcc⟩ := hc (by omega)
      have hck := hcc i hlt
      obtain ⟨x, hx⟩ : ∃ x, x = M[i] := ⟨_, rfl⟩
      rw [← hx] at hck
      have HX := Lib.hid hx
      have hmem : decide (x ∈ l) = true := by rw [decide_eq_true_eq, hx]; exact HIn.out _ (List.getElem_mem _)
      have HMem := Lib.hid hmem
      have HCC := Lib.hid hcc
      clear hx hmem hcc hc hd
      go_wp2_with fail
      go_loop [32] (fun s => ∃ k : Nat, k ≤ M.length ∧ s = .int .i64 k) (fun s => M.length - (intOf s).toNat)
      case atStart => exact ⟨0, Nat.zero_le _, rfl⟩
      case round =>
        obtain ⟨k, hk, rfl⟩ := hrel
        by_cases hlt2 : k < M.length
        · have hck2 := HCC.out k hlt2
          obtain ⟨y, hy⟩ : ∃ y, y = M[k] := ⟨_, rfl⟩
          rw [← hy] at hck2
          by_cases hik : i = k
          · subst hik
            have hxy : x = y := by rw [HX.out, hy]
            subst hxy
            clear hy
            go_wp2_with fail
            go_round
            case rel => exact ⟨i + 1, by omega, by go_num⟩
            case measure => simp [intOf]; omega
          · have hf := HAnd.out i k hlt hlt2 hik
            rw [← HX.out, ← hy] at hf
            unfold andI at hf
            clear hy
            go_wp2_with fail
            go_round
            case rel => exact ⟨k + 1, by omega, by go_num⟩
            case measure => simp [intOf]; omega
        · obtain rfl : k = M.length := by omega
          go_wp2_with (go_at_call 11; refine (in_any l _ x _ none HSL.out).mono ?_; rintro e w' ⟨rfl, rfl⟩; rw [HMem.out])
          go_round
          case rel => exact ⟨i + 1, by omega, by go_num⟩
          case measure => simp [intOf]; omega
    · obtain rfl : i = M.length := by omega
      go_wp2_with fail
      go_loop [55] (fun s => ∃ i : Nat, i ≤ l.length ∧ s = .int .i64 i) (fun s => l.length - (intOf s).toNat)
      case atStart => exact ⟨0, Nat.zero_le _, rfl⟩
      case round =>
        obtain ⟨i, hi, rfl⟩ := hrel
        by_cases hlt : i < l.length
        · obtain ⟨b, off, rfl, hb, hbr, hcc⟩ := hd (by omega)
          have hck := hcc i hlt
          have hs := HSome.out l[i] (List.getElem_mem _)
          obtain ⟨x, hx⟩ : ∃ x, x = l[i] := ⟨_, rfl⟩
          rw [← hx] at hck hs
          have HS := Lib.hid hs
          clear hx hcc hd hs
          go_wp2_with fail
          go_loop [61, 12] (fun s u => ∃ (k : Nat) (bb : Bool), k ≤ M.length ∧ s = .int .i64 k ∧ u = .bool bb ∧ Hid (bb = (M.take k).any fun y => andI y x)) (fun s u => M.length - (intOf s).toNat)
          case atStart => exact ⟨0, false, Nat.zero_le _, rfl, rfl, Lib.hid rfl⟩
          case round =>
            obtain ⟨k, bb, hk, rfl, rfl, HBB⟩ := hrel
            by_cases hlt2 : k < M.length
            · obtain ⟨b2, off2, rfl, hb2, hbr2, hcc2⟩ := hc (by omega)
              have hck2 := hcc2 k hlt2
              have hst : ((M.take (k + 1)).any fun y => andI y x) = (((M.take k).any fun y => andI y x) || andI M[k] x) := by
                rw [List.take_succ_eq_append_getElem hlt2, List.any_append]; simp
              rw [← HBB.out] at hst
              obtain ⟨y, hy⟩ : ∃ y, y = M[k] := ⟨_, rfl⟩
              rw [← hy] at hck2 hst
              have HST := Lib.hid hst
              clear hst hy hcc2 hc
              cases bb with
              | true =>
                go_wp2_with fail
                go_round
                case rel => exact ⟨k + 1, true, by omega, by go_num, rfl, Lib.hid (by rw [HST.out]; rfl)⟩
                case measure => simp [intOf]; omega
              | false =>
                go_wp2_with fail
                go_round
                case rel => exact ⟨k + 1, andI y x, by omega, by go_num, rfl, Lib.hid (by rw [HST.out]; rfl)⟩
                case measure => simp [intOf]; omega
            · obtain rfl : k = M.length := by omega
              have hbb : bb = true := by rw [HBB.out, List.take_length]; exact HS.out
              subst hbb
              go_wp2_with fail
              go_round
              case rel => exact ⟨i + 1, by omega, by go_num⟩
              case measure => simp [intOf]; omega
        · obtain rfl : i = l.length := by omega
          go_wp2_with (go_at_call 12; refine (awake1_any _).mono ?_; rintro e w6 ⟨rfl, F6⟩)
          go_ret
          exact ⟨rfl, F04.pure F6⟩
end Go.Proofs.YtidcjafmcjfkgaaDoor

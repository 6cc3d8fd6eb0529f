/- Some texts of this claim, joined: contracts of the functions that it reaches, and plain laws. -/
import Derived.Test.YtpdhckbiioobhaaGreatProg
import Derived.Test.YtpdhckbiioobhaaGreatJS18
import Derived.Test.YtpdhckbiioobhaaGreatJS11

set_option linter.unusedSimpArgs false
set_option linter.unusedVariables false
/- Walks: the reference's Compare at valid sets, Least, Meeting. -/
namespace Go.Proofs.YtpdhckbiioobhaaGreat
open Go.RowKit

theorem cmpS_val {a b : Int} (ha : validB a = true) (hb : validB b = true) : cmpS a b = if sizS a < sizS b ∨ (sizS a = sizS b ∧ a < b) then -1 else if sizS a = sizS b ∧ a = b then 0 else 1 := by
  have ra : rankI a = sizS a := by simp [rankI, ha]
  have rb : rankI b = sizS b := by simp [rankI, hb]
  unfold cmpS cmpI
  rw [ra, rb]
  by_cases h1 : sizS a < sizS b
  · have : ((sizS a : Nat) : Int) < (sizS b : Nat) := by omega
    simp [h1, this]
  · by_cases h2 : sizS a = sizS b
    · rw [h2]
      by_cases h3 : a < b
      · simp [h3]
      · by_cases h4 : b < a
        · have : ¬ a = b := by omega
          simp [h3, h4, this]
        · have : a = b := by omega
          simp [this]
    · have h5 : ¬ ((sizS a : Nat) : Int) < (sizS b : Nat) := by omega
      have h6 : ((sizS b : Nat) : Int) < (sizS a : Nat) := by omega
      simp [h1, h2, h5, h6]
theorem rcompare_v (a b : Int) (ha : validB a = true) (hb : validB b = true) (w : World) : Calls Tryz.prog 44 #[.int .i64 a, .int .i64 b] w fun e w' => e = .returned (.int .i64 (cmpS a b)) ∧ w = w' := by
  have hc := cmpS_val ha hb
  have HA := Lib.hid ha
  have HB := Lib.hid hb
  have hp1 := sizS_le a
  have hq1 := sizS_le b
  obtain ⟨p, hp⟩ : ∃ p, p = sizS a := ⟨_, rfl⟩
  obtain ⟨q, hq⟩ : ∃ q, q = sizS b := ⟨_, rfl⟩
  rw [← hp, ← hq] at hc
  rw [← hp] at hp1
  rw [← hq] at hq1
  have HP := Lib.hid hp
  have HQ := Lib.hid hq
  have HC := Lib.hid hc
  clear ha hb hp hq hc
  by_cases h1 : p < q
  · have E : Hid (cmpS a b = -1) := by unfold Hid; rw [HC.out, if_pos (.inl h1)]
    go_enter Tryz.func44, Tryz.ntmps44
    go_wp2_with (first | (go_at_call 43; refine (rvalid_any _ _).mono ?_; rintro e w' ⟨rfl, rfl⟩; first | rw [HA.out] | rw [HB.out]) | (go_at_call 52; refine (rsize_any_ _ _).mono ?_; rintro e w' ⟨rfl, rfl⟩; first | rw [← HP.out] | rw [← HQ.out]))
    go_ret
    exact ⟨ret_int (by rw [E.out]), rfl⟩
  · by_cases h2 : p = q
    · by_cases h3 : a < b
      · have E : Hid (cmpS a b = -1) := by unfold Hid; rw [HC.out, if_pos (.inr ⟨h2, h3⟩)]
        subst h2
        go_enter Tryz.func44, Tryz.ntmps44
        go_wp2_with (first | (go_at_call 43; refine (rvalid_any _ _).mono ?_; rintro e w' ⟨rfl, rfl⟩; first | rw [HA.out] | rw [HB.out]) | (go_at_call 52; refine (rsize_any_ _ _).mono ?_; rintro e w' ⟨rfl, rfl⟩; first | rw [← HP.out] | rw [← HQ.out]))
        go_ret
        exact ⟨ret_int (by rw [E.out]), rfl⟩
      · by_cases h4 : a = b
        · have E : Hid (cmpS a b = 0) := by unfold Hid; rw [HC.out, if_neg (by omega), if_pos ⟨h2, h4⟩]
          subst h2 h4
          go_enter Tryz.func44, Tryz.ntmps44
          go_wp2_with (first | (go_at_call 43; refine (rvalid_any _ _).mono ?_; rintro e w' ⟨rfl, rfl⟩; first | rw [HA.out] | rw [HB.out]) | (go_at_call 52; refine (rsize_any_ _ _).mono ?_; rintro e w' ⟨rfl, rfl⟩; first | rw [← HP.out] | rw [← HQ.out]))
          go_ret
          exact ⟨ret_int (by rw [E.out]), rfl⟩
        · have E : Hid (cmpS a b = 1) := by unfold Hid; rw [HC.out, if_neg (by omega), if_neg (by omega)]
          have hne : (a == b) = false := by rw [beq_eq_false_iff_ne]; exact h4
          subst h2
          clear h4
          go_enter Tryz.func44, Tryz.ntmps44
          go_wp2_with (first | (go_at_call 43; refine (rvalid_any _ _).mono ?_; rintro e w' ⟨rfl, rfl⟩; first | rw [HA.out] | rw [HB.out]) | (go_at_call 52; refine (rsize_any_ _ _).mono ?_; rintro e w' ⟨rfl, rfl⟩; first | rw [← HP.out] | rw [← HQ.out]))
          go_ret
          exact ⟨ret_int (by rw [E.out]), rfl⟩
    · have E : Hid (cmpS a b = 1) := by unfold Hid; rw [HC.out, if_neg (by omega), if_neg (by omega)]
      have hlt : q < p := by omega
      clear h1 h2
      go_enter Tryz.func44, Tryz.ntmps44
      go_wp2_with (first | (go_at_call 43; refine (rvalid_any _ _).mono ?_; rintro e w' ⟨rfl, rfl⟩; first | rw [HA.out] | rw [HB.out]) | (go_at_call 52; refine (rsize_any_ _ _).mono ?_; rintro e w' ⟨rfl, rfl⟩; first | rw [← HP.out] | rw [← HQ.out]))
      go_ret
      exact ⟨ret_int (by rw [E.out]), rfl⟩

theorem splice_rest {α : Type} (P R cs : List α) (off : Nat) (h : off + cs.length ≤ P.length) : splice (P ++ R) off cs = splice P off cs ++ R := by
  unfold splice
  rw [List.take_append_of_le_length (by omega), List.drop_append_of_le_length h]
  simp
theorem splice_map {α β : Type} (f : α → β) (P cs : List α) (off : Nat) : splice (P.map f) off (cs.map f) = (splice P off cs).map f := by
  unfold splice
  simp [List.map_take, List.map_drop]
/-- The row behind the copy and the store is the list with x put in. -/
theorem row_ins {w1 : World} {g base n cap k : Nat} {cur : Array Value} {out : List Int} {x : Int} (hn : out.length = n) (hk : k ≤ n) (hcur : cur.toList.take (n + 1) = (out ++ [0]).map (Value.int .i64)) (hsz : cur.size = cap) (hnc : n + 1 ≤ cap) (hm : cap ≤ maxLen) (hg : base ≤ g)
    (h : w1.heap[g]? = some (.cells (splice cur.toList (k + 1) ((out.drop k).map (Value.int .i64))).toArray 3 (0, 0))) :
    (w1.setCell ⟨g, k, none⟩ (.int .i64 x)).ownsRow base 3 1 (.slice (some ⟨g, 0, none⟩) (n + 1) cap) (n + 1) ((insS out k x).map (Value.int .i64)) := by
  have e0 : cur.toList = (out ++ [0]).map (Value.int .i64) ++ cur.toList.drop (n + 1) := by rw [← hcur, List.take_append_drop]
  have e1 : splice cur.toList (k + 1) ((out.drop k).map (Value.int .i64)) = (splice (out ++ [0]) (k + 1) (out.drop k)).map (Value.int .i64) ++ cur.toList.drop (n + 1) := by
    conv => lhs; rw [e0]
    rw [splice_rest _ _ _ _ (by simp; omega), splice_map]
  have hl : (splice (out ++ [0]) (k + 1) (out.drop k)).length = n + 1 := by rw [length_splice _ _ _ (by simp; omega)]; simp [hn]
  have h2 := blk_set h k (.int .i64 x)
  rw [e1] at h2
  refine ⟨by rw [List.length_map, insS_len, hn]; simp, .inr ⟨g, cap, _, rfl, hg, h2, hnc, hm, ?_, ?_⟩⟩
  · have e2 : (cur.toList.drop (n + 1)).length = cap - (n + 1) := by rw [List.length_drop, Array.length_toList, hsz]
    rw [Array.size_setIfInBounds, List.size_toArray, List.length_append, List.length_map, hl, e2]
    omega
  · rw [List.setIfInBounds_toArray, List.toList_toArray, List.set_append_left _ _ (by rw [List.length_map, hl]; omega)]
    rw [Nat.mul_one, List.take_append_of_le_length (by rw [List.length_set, List.length_map, hl]; omega), List.take_of_length_le (by rw [List.length_set, List.length_map, hl]; omega)]
    rw [← splice_ins out k x (by omega), ← List.map_set]

end Go.Proofs.YtpdhckbiioobhaaGreat

/- Walk: the reference's Least. -/
namespace Go.Proofs.YtpdhckbiioobhaaGreat
open Go.RowKit

/-- A set left out, a set put in. -/
theorem mem_skip {l out : List Int} {i : Nat} {x : Int} (ht : l.take (i + 1) = l.take i ++ [x]) (hm : ∀ z, z ∈ out ↔ z ∈ l.take i ∧ minB l z = true) (h : minB l x = false ∨ x ∈ out) : ∀ z, z ∈ out ↔ z ∈ l.take (i + 1) ∧ minB l z = true := by
  intro z
  rw [hm z, ht, List.mem_append, List.mem_singleton]
  constructor
  · rintro ⟨h1, h2⟩; exact ⟨.inl h1, h2⟩
  · rintro ⟨h1 | h1, h2⟩
    · exact ⟨h1, h2⟩
    · subst h1
      rcases h with h | h
      · rw [h] at h2; cases h2
      · exact (hm z).1 h
theorem mem_put {l out : List Int} {i k : Nat} {x : Int} (ht : l.take (i + 1) = l.take i ++ [x]) (hm : ∀ z, z ∈ out ↔ z ∈ l.take i ∧ minB l z = true) (h : minB l x = true) : ∀ z, z ∈ insS out k x ↔ z ∈ l.take (i + 1) ∧ minB l z = true := by
  intro z
  rw [mem_insS, hm z, ht, List.mem_append, List.mem_singleton]
  constructor
  · rintro (h1 | ⟨h1, h2⟩)
    · subst h1; exact ⟨.inr rfl, h⟩
    · exact ⟨.inl h1, h2⟩
  · rintro ⟨h1 | h1, h2⟩
    · exact .inr ⟨h1, h2⟩
    · exact .inl h1
/-- One step of the inner loops. -/
theorem all_step {l : List Int} {j : Nat} {y x : Int} {b vy p q : Bool} (hy : l.take (j + 1) = l.take j ++ [y]) (hv : vy = validB y) (hp : (y != x) = p) (hq : (bits .and .i64 y x == y) = q) (vx : Bool)
    (hb : b = (vx && (l.take j).all fun y => !(validB y && y != x && (bits .and .i64 y x == y)))) :
    (b && !(vy && p && q)) = (vx && (l.take (j + 1)).all fun y => !(validB y && y != x && (bits .and .i64 y x == y))) := by
  rw [hy, List.all_append, hv, ← hp, ← hq, hb]
  simp [Bool.and_assoc]
theorem mem_step {out : List Int} {j : Nat} {y x : Int} {b p : Bool} (hy : out.take (j + 1) = out.take j ++ [y]) (hp : (x == y) = p) (hb : b = decide (x ∈ out.take j)) : (b || p) = decide (x ∈ out.take (j + 1)) := by
  rw [hy, hb, ← hp, Bool.eq_iff_iff]
  simp

/-- What the copy reads. -/
theorem row_src {w : World} {g k n : Nat} {t : TypeId} {cur : Array Value} {out : List Int} (hb : w.heap[g]? = some (.cells cur t (0, 0))) (hn : out.length = n) (hcur : cur.toList.take (n + 1) = (out ++ [0]).map (Value.int .i64)) :
    ∀ j v, ((out.drop k).map (Value.int .i64))[j]? = some v → w.cell? ((⟨g, k, none⟩ : Addr).add j) = some v := by
  intro j v h
  rw [List.getElem?_map, List.getElem?_drop] at h
  cases hx : out[k + j]? with
  | none => rw [hx] at h; cases h
  | some x =>
    rw [hx] at h
    obtain ⟨hlt, -⟩ := List.getElem?_eq_some_iff.1 hx
    have e : cur.toList[k + j]? = some v := by
      have e1 : (cur.toList.take (n + 1))[k + j]? = cur.toList[k + j]? := by rw [List.getElem?_take, if_pos (by omega)]
      rw [← e1, hcur, List.getElem?_map, List.getElem?_append_left hlt, hx]
      exact h
    have := blk_cell hb (k + j)
    rw [Array.getElem?_toList] at e
    rw [e] at this
    rw [← this]
    show w.cell? (if j = 0 then _ else _) = _
    split
    · rename_i h0
      subst h0
      rfl
    · rfl

/-- What the reference's Least leaves. -/
def RLeE (l : List Int) (w : World) (e : Ending) (w' : World) : Prop := ∃ v, e = .returned v ∧ SlD w' (Dn w.heap.size w') 1 v ((leastS l).map (Value.int .i64)) ∧ Fr none w w'
set_option maxRecDepth 100000 in
set_option maxHeartbeats 8000000 in
theorem rleast_any (l : List Int) (v : Value) (w : World) (h : SlI w none v l) (hlen : l.length ≤ 1048576) : Calls Tryz.prog 14 #[v] w (RLeE l w) := by
  have hwi := h.2
  obtain ⟨A0, c0, rfl, q1, q2, hc⟩ := h.open_
  go_enter Tryz.func14, Tryz.ntmps14
  go_wp2_with fail
  go_loopw [3, 5, 6, 8, 9, 10, 11, 12, 15] (fun s3 s5 s6 s8 s9 s10 s11 s12 s15 wr => ∃ (i : Nat) (A : Option Addr) (c : Nat) (out : List Int), i ≤ l.length ∧ s15 = .int .i64 i ∧ s3 = .slice A out.length c ∧ Fr none w wr ∧ wr.ownsRow w.heap.size 3 1 (.slice A out.length c) out.length (out.map (Value.int .i64)) ∧ Hid (out.Pairwise fun a b => cmpS a b < 0) ∧ Hid (∀ z, z ∈ out ↔ z ∈ l.take i ∧ minB l z = true) ∧ out.length ≤ i) (fun _ _ _ _ _ _ _ _ s15 _ => l.length - (intOf s15).toNat)
  case atStart => exact ⟨0, none, 0, [], Nat.zero_le _, rfl, rfl, Fr.refl _ _, World.ownsRow_nil _ _ _ _, by simp [Hid], by simp [Hid], by simp⟩
  case round =>
    obtain ⟨i, A, c, out, hi, rfl, rfl, F, own, HS, HM, ho⟩ := hrel
    have hsz := F.size
    by_cases hlt : i < l.length
    · obtain ⟨b0, off, rfl, hb0, hb1, hcc⟩ := hc (by omega)
      have hck : ∀ k (hk : k < l.length), wr.cell? ⟨b0, off + k, none⟩ = some (.int .i64 l[k]) := fun k hk => F.keep (hcc k hk) (by simp)
      have hx0 := hck i hlt
      obtain ⟨x, hx⟩ : ∃ x, x = l[i] := ⟨_, rfl⟩
      rw [← hx] at hx0
      have HX := Lib.hid hx
      have HCK := Lib.hid hck
      obtain ⟨vx, hvx⟩ : ∃ b, b = validB x := ⟨_, rfl⟩
      have HVX := Lib.hid hvx
      have htk := Lib.hid (List.take_succ_eq_append_getElem hlt)
      clear hcc hck hx hvx
      go_wp2_with (go_at_call 43; refine (rvalid_any _ _).mono ?_; rintro e w' ⟨rfl, rfl⟩; rw [← HVX.out])
      go_loop [6, 8, 23] (fun s6 s8 s23 => ∃ (j : Nat) (b : Bool), j ≤ l.length ∧ s23 = .int .i64 j ∧ s6 = .bool b ∧ Hid (b = (vx && (l.take j).all fun y => !(validB y && y != x && (bits .and .i64 y x == y))))) (fun _ _ s23 => l.length - (intOf s23).toNat)
      case atStart => exact ⟨0, _, Nat.zero_le _, rfl, rfl, by simp [Hid]⟩
      case round =>
        obtain ⟨j, b, hj, rfl, rfl, HB⟩ := hrel
        by_cases hlj : j < l.length
        · have hcj := HCK.out j hlj
          obtain ⟨y, hy⟩ : ∃ y, y = l[j] := ⟨_, rfl⟩
          have htj : l.take (j + 1) = l.take j ++ [y] := by rw [hy]; exact List.take_succ_eq_append_getElem hlj
          rw [← hy] at hcj
          obtain ⟨vy, hvy⟩ : ∃ b, b = validB y := ⟨_, rfl⟩
          obtain ⟨p, hp⟩ : ∃ b, (y != x) = b := ⟨_, rfl⟩
          obtain ⟨q, hq⟩ : ∃ b, (bits .and .i64 y x == y) = b := ⟨_, rfl⟩
          have HST := Lib.hid (all_step htj hvy hp hq vx HB.out)
          have HVY := Lib.hid hvy
          clear hy hvy htj HB
          cases b with
          | false =>
            clear hp hq
            go_wp2_with fail
            go_round
            case rel => exact ⟨j + 1, _, by omega, by go_num, rfl, HST⟩
            case measure => simp [intOf]; omega
          | true =>
            cases vy with
            | false =>
              clear hp hq
              go_wp2_with (go_at_call 43; refine (rvalid_any _ _).mono ?_; rintro e w' ⟨rfl, rfl⟩; rw [← HVY.out])
              go_round
              case rel => exact ⟨j + 1, _, by omega, by go_num, rfl, HST⟩
              case measure => simp [intOf]; omega
            | true =>
              cases p with
              | false =>
                clear hq
                go_wp2_with (go_at_call 43; refine (rvalid_any _ _).mono ?_; rintro e w' ⟨rfl, rfl⟩; rw [← HVY.out])
                go_round
                case rel => exact ⟨j + 1, _, by omega, by go_num, rfl, HST⟩
                case measure => simp [intOf]; omega
              | true =>
                cases q with
                | false =>
                  go_wp2_with (go_at_call 43; refine (rvalid_any _ _).mono ?_; rintro e w' ⟨rfl, rfl⟩; rw [← HVY.out])
                  go_round
                  case rel => exact ⟨j + 1, _, by omega, by go_num, rfl, HST⟩
                  case measure => simp [intOf]; omega
                | true =>
                  go_wp2_with (go_at_call 43; refine (rvalid_any _ _).mono ?_; rintro e w' ⟨rfl, rfl⟩; rw [← HVY.out])
                  go_round
                  case rel => exact ⟨j + 1, _, by omega, by go_num, rfl, HST⟩
                  case measure => simp [intOf]; omega
        · obtain rfl : j = l.length := by omega
          have hbm : b = minB l x := by
            have := HB.out
            rw [List.take_length, HVX.out] at this
            exact this
          have HBM := Lib.hid hbm
          clear hbm
          cases b with
          | false =>
            have HSK := Lib.hid (mem_skip (by rw [htk.out, ← HX.out]) HM.out (.inl HBM.out.symm))
            go_wp2_with fail
            go_roundw
            case rel => exact ⟨i + 1, A, c, out, by omega, by go_num, rfl, F, own, HS, HSK, by omega⟩
            case measure => simp [intOf]; omega
          | true =>
            have hvx2 : validB x = true := ((minB_iff l x).1 HBM.out.symm).1
            have HV2 := Lib.hid hvx2
            have hslo : SlI wr none (.slice A out.length c) out := SlI.of_own own (by simp) (fun z hz => valid_wi (((minB_iff l z).1 ((HM.out z).1 hz).2).1))
            obtain ⟨A', c', e0, q3, q4, hco⟩ := hslo.open_
            injection e0 with e1 _ e3
            subst e1 e3
            clear hvx2
            go_wp2_with fail
            go_loop [9, 10, 11, 12, 50] (fun s9 s10 s11 s12 s50 => ∃ (j k : Nat) (b : Bool), j ≤ out.length ∧ k ≤ j ∧ s50 = .int .i64 j ∧ s9 = .int .i64 k ∧ s10 = .bool b ∧ Hid (b = decide (x ∈ out.take j)) ∧ Hid (∀ i (hi : i < out.length), k ≤ i → i < j → 0 ≤ cmpS out[i] x) ∧ Hid (k = 0 ∨ ∃ hk : k - 1 < out.length, cmpS out[k - 1] x < 0)) (fun _ _ _ _ s50 => out.length - (intOf s50).toNat)
            case atStart => exact ⟨0, 0, _, Nat.zero_le _, Nat.le_refl _, rfl, rfl, rfl, by simp [Hid], by intro i hi _ h; omega, .inl rfl⟩
            case round =>
              obtain ⟨j, k, b, hj, hk, rfl, rfl, rfl, HBI, HK1, HK2⟩ := hrel
              by_cases hlj : j < out.length
              · obtain ⟨b2, off2, rfl, hb2, hb3, hcq⟩ := hco (by omega)
                have hcj := hcq j hlj
                clear hcq hco
                obtain ⟨y, hy⟩ : ∃ y, y = out[j] := ⟨_, rfl⟩
                have hvy : validB y = true := by rw [hy]; exact ((minB_iff l _).1 ((HM.out _).1 (List.getElem_mem _)).2).1
                have htj : out.take (j + 1) = out.take j ++ [y] := by rw [hy]; exact List.take_succ_eq_append_getElem hlj
                rw [← hy] at hcj
                obtain ⟨p, hp⟩ : ∃ b, (x == y) = b := ⟨_, rfl⟩
                have HST := Lib.hid (mem_step htj hp HBI.out)
                obtain ⟨z, hz⟩ : ∃ z, z = cmpS y x := ⟨_, rfl⟩
                have HVY := Lib.hid hvy
                have HZ := Lib.hid hz
                have HY := Lib.hid hy
                clear hy hvy htj hz HBI
                by_cases hz0 : z < 0
                · have HK1 : Hid (∀ i (hi : i < out.length), j + 1 ≤ i → i < j + 1 → 0 ≤ cmpS out[i] x) := Lib.hid (by intro i hi h1 h2; omega)
                  have HK2 : Hid (j + 1 = 0 ∨ ∃ hk : j + 1 - 1 < out.length, cmpS out[j + 1 - 1] x < 0) := Lib.hid (.inr ⟨by omega, by
                    have := HY.out
                    simp only [Nat.add_sub_cancel]
                    rw [← this, ← HZ.out]
                    exact hz0⟩)
                  cases b with
                  | true =>
                    clear hp
                    go_wp2_with (go_at_call 44; refine (rcompare_v y x HVY.out HV2.out _).mono ?_; rintro e w' ⟨rfl, rfl⟩; rw [← HZ.out])
                    go_round
                    case rel => exact ⟨j + 1, j + 1, _, by omega, by omega, by go_num, by go_num, rfl, HST, HK1, HK2⟩
                    case measure => simp [intOf]; omega
                  | false =>
                    cases p with
                    | false =>
                      go_wp2_with (go_at_call 44; refine (rcompare_v y x HVY.out HV2.out _).mono ?_; rintro e w' ⟨rfl, rfl⟩; rw [← HZ.out])
                      go_round
                      case rel => exact ⟨j + 1, j + 1, _, by omega, by omega, by go_num, by go_num, rfl, HST, HK1, HK2⟩
                      case measure => simp [intOf]; omega
                    | true =>
                      go_wp2_with (go_at_call 44; refine (rcompare_v y x HVY.out HV2.out _).mono ?_; rintro e w' ⟨rfl, rfl⟩; rw [← HZ.out])
                      go_round
                      case rel => exact ⟨j + 1, j + 1, _, by omega, by omega, by go_num, by go_num, rfl, HST, HK1, HK2⟩
                      case measure => simp [intOf]; omega
                · have hz1 : 0 ≤ z := by omega
                  have HK1 : Hid (∀ i (hi : i < out.length), k ≤ i → i < j + 1 → 0 ≤ cmpS out[i] x) := Lib.hid (by
                    intro i hi h1 h2
                    by_cases e : i = j
                    · subst e
                      rw [← HY.out, ← HZ.out]
                      omega
                    · exact HK1.out i hi h1 (by omega))
                  clear hz0
                  cases b with
                  | true =>
                    clear hp
                    go_wp2_with (go_at_call 44; refine (rcompare_v y x HVY.out HV2.out _).mono ?_; rintro e w' ⟨rfl, rfl⟩; rw [← HZ.out])
                    go_round
                    case rel => exact ⟨j + 1, k, _, by omega, by omega, by go_num, rfl, rfl, HST, HK1, HK2⟩
                    case measure => simp [intOf]; omega
                  | false =>
                    cases p with
                    | false =>
                      go_wp2_with (go_at_call 44; refine (rcompare_v y x HVY.out HV2.out _).mono ?_; rintro e w' ⟨rfl, rfl⟩; rw [← HZ.out])
                      go_round
                      case rel => exact ⟨j + 1, k, _, by omega, by omega, by go_num, rfl, rfl, HST, HK1, HK2⟩
                      case measure => simp [intOf]; omega
                    | true =>
                      go_wp2_with (go_at_call 44; refine (rcompare_v y x HVY.out HV2.out _).mono ?_; rintro e w' ⟨rfl, rfl⟩; rw [← HZ.out])
                      go_round
                      case rel => exact ⟨j + 1, k, _, by omega, by omega, by go_num, rfl, rfl, HST, HK1, HK2⟩
                      case measure => simp [intOf]; omega
              · obtain rfl : j = out.length := by omega
                have hbi : b = decide (x ∈ out) := by
                  have := HBI.out
                  rwa [List.take_length] at this
                have HBO := Lib.hid hbi
                clear hbi
                cases b with
                | true =>
                  have HSK := Lib.hid (mem_skip (by rw [htk.out, ← HX.out]) HM.out (.inr (of_decide_eq_true HBO.out.symm)))
                  go_wp2_with fail
                  go_roundw
                  case rel => exact ⟨i + 1, _, _, out, by omega, by go_num, rfl, F, own, HS, HSK, by omega⟩
                  case measure => simp [intOf]; omega
                | false =>
                  have hxo : x ∉ out := by simpa using HBO.out.symm
                  have HXO := Lib.hid hxo
                  clear hxo
                  go_wp2_with (at_builtin; refine app_lit eiInt rfl _ _ rfl w.heap.size A out.length c _ rfl own 1 [.int .i64 0] _ _ rfl (by simp) rfl (by simp [Value.oneCell']) (by omega) (by unfold maxLen; omega) (by omega) ?_; intro A5 c5 w5 own5 F5 bl5)
                  have hzz := F5.size
                  have og : ∀ q, (Value.slice A out.length c).ownBlock = some q → w.heap.size ≤ q := fun q e => own_blk_ge own q e
                  have F05 := F.own F5 og
                  obtain ⟨-, hrow⟩ := own5
                  rcases hrow with h0 | ⟨g, cap, cur, hA, hg, hb, hnc, hm, hs, ht⟩
                  · exact absurd h0.2 (by omega)
                  · injection hA with hA1 _ hA2
                    subst hA1 hA2
                    have hcur : cur.toList.take (out.length + 1) = (out ++ [0]).map (Value.int .i64) := by rw [Nat.mul_one] at ht; rw [ht]; simp
                    have HCUR := Lib.hid hcur
                    have hsz5 : cur.size = c5 := by rw [hs, Nat.mul_one]
                    have HSZ := Lib.hid hsz5
                    have hm' : c5 ≤ 9223372036854775807 := hm
                    have HINS := Lib.hid (ins_sorted HS.out (fun i hi h1 => by have := HK1.out i hi h1 hi; omega) HK2.out HXO.out)
                    have HPUT := Lib.hid (mem_put (k := k) (by rw [htk.out, ← HX.out]) HM.out HBM.out.symm)
                    clear ht hcur hsz5 hs HK1 HK2 hslo own bl5 og F5 F
                    have HSRC := Lib.hid (row_src (w := w5.drew) (k := k) hb rfl HCUR.out)
                    have hbl : Hid (w5.drew.heap[g]? = some (.cells cur.toList.toArray 3 (0, 0))) := by unfold Hid; rw [Array.toArray_toList]; exact hb
                    have hlc : (out.drop k).length = out.length - k := List.length_drop ..
                    have HLC := Lib.hid hlc
                    have h1c : ∀ u ∈ (out.drop k).map (Value.int .i64), u.oneCell' = true := by intro u hu; obtain ⟨z, -, rfl⟩ := List.mem_map.1 hu; rfl
                    have H1C := Lib.hid h1c
                    have HFIT : Hid (k + 1 + ((out.drop k).map (Value.int .i64)).length ≤ cur.toList.length) := by unfold Hid; have := HSZ.out; simp only [List.length_map, hlc, Array.length_toList]; omega
                    clear hlc h1c
                    have hwk : IntKind.i64.wrap ((k : Int) + 1) = ((k + 1 : Nat) : Int) := by rw [IntWalk.i64_in _ (by omega)]; rfl
                    have hkle : k ≤ out.length := hk
                    have h0k : (0 : Int) ≤ (k : Int) + 1 := by omega
                    have h1k : (k : Int) ≤ (out.length : Int) + 1 := by omega
                    by_cases hlast : k + 1 = c5
                    · have HKN : Hid (k = out.length) := Lib.hid (by omega)
                      subst hlast
                      go_wp2_with fail
                      go_still_tail 7, (by kernel_rfl)
                      change wpList _ _ _ _ _ w5.drew
                      refine copy_fr rfl _ _ _ _ rfl 3 Tryz.underlying22 (by kernel_rfl) _ _ _ _ _ _ rfl rfl g (k + 1) cur.toList 3 hbl.out ((out.drop k).map (Value.int .i64)) (by have := HKN.out; simp only [List.length_map, HLC.out, Nat.min_def]; split <;> omega) (fun h0 => absurd h0 (by have := HKN.out; rw [List.length_map, HLC.out]; omega)) HFIT.out H1C.out ?_
                      intro w6 hb6 F6
                      obtain ⟨v6, hv6⟩ : ∃ v, w6.cell? ⟨g, k, none⟩ = some v := by
                        rw [blk_cell hb6.out k]
                        exact ⟨_, Array.getElem?_eq_getElem (by rw [List.size_toArray, length_splice _ _ _ HFIT.out, Array.length_toList]; have := HSZ.out; omega)⟩
                      have Z6 := blk_free hb6.out k
                      have F06 : Fr none w w6 := (F05.drew).new F6 hg
                      have OWN := Lib.hid (row_ins (x := x) rfl hkle HCUR.out HSZ.out hnc hm hg hb6.out)
                      clear HCUR hnc hbl HSRC
                      go_wp2_with fail
                      go_roundw
                      case rel => exact ⟨i + 1, some ⟨g, 0, none⟩, _, insS out k x, by omega, by go_num, by rw [insS_len], F06.setNew hg _, by rw [insS_len]; exact OWN.out, HINS, HPUT, by rw [insS_len]; omega⟩
                      case measure => simp [intOf]; omega
                    · have hlt5 : ¬ c5 = k + 1 := by omega
                      have hlt6 : ¬ c5 = k := by omega
                      clear hlast
                      go_wp2_with fail
                      go_still_tail 7, (by kernel_rfl)
                      change wpList _ _ _ _ _ w5.drew
                      refine copy_fr rfl _ _ _ _ rfl 3 Tryz.underlying22 (by kernel_rfl) _ _ _ _ _ _ rfl rfl g (k + 1) cur.toList 3 hbl.out ((out.drop k).map (Value.int .i64)) (by simp only [List.length_map, HLC.out, Nat.min_def]; split <;> omega) (fun _ => ⟨rfl, _, rfl, HSRC.out⟩) HFIT.out H1C.out ?_
                      intro w6 hb6 F6
                      obtain ⟨v6, hv6⟩ : ∃ v, w6.cell? ⟨g, k, none⟩ = some v := by
                        rw [blk_cell hb6.out k]
                        exact ⟨_, Array.getElem?_eq_getElem (by rw [List.size_toArray, length_splice _ _ _ HFIT.out, Array.length_toList]; have := HSZ.out; omega)⟩
                      have Z6 := blk_free hb6.out k
                      have F06 : Fr none w w6 := (F05.drew).new F6 hg
                      have OWN := Lib.hid (row_ins (x := x) rfl hkle HCUR.out HSZ.out hnc hm hg hb6.out)
                      clear HCUR hnc hbl HSRC
                      go_wp2_with fail
                      go_roundw
                      case rel => exact ⟨i + 1, some ⟨g, 0, none⟩, _, insS out k x, by omega, by go_num, by rw [insS_len], F06.setNew hg _, by rw [insS_len]; exact OWN.out, HINS, HPUT, by rw [insS_len]; omega⟩
                      case measure => simp [intOf]; omega
    · obtain rfl : i = l.length := by omega
      have hm : ∀ z, z ∈ out ↔ z ∈ l ∧ minB l z = true := by
        have := HM.out
        rwa [List.take_length] at this
      have he := Lib.hid (least_end HS.out hm)
      clear hm
      go_wp2_with fail
      go_ret
      exact ⟨_, rfl, by rw [← he.out]; exact SlD.own_dn own, F⟩
end Go.Proofs.YtpdhckbiioobhaaGreat

/- Some texts of this claim, joined: contracts of the functions that it reaches, and plain laws. -/
import Derived.Test.YtpdhckbiioobhaaGreatProg
import Derived.Test.YtpdhckbiioobhaaGreatJS16
import Derived.Test.YtpdhckbiioobhaaGreatJS7
import Derived.Test.YtpdhckbiioobhaaGreatJS21
import Derived.Test.YtpdhckbiioobhaaGreatJS20
import Derived.Test.YtpdhckbiioobhaaGreatJS22
import Derived.Test.YtpdhckbiioobhaaGreatJS11

/- The law SlicesOf: its walk. -/
namespace Go.Proofs.YtpdhckbiioobhaaGreat
open Go.RowKit

theorem max1_val {x : Int} (h : ∃ a : Nat, x = a ∧ a < 2 ^ 6) : validB (max x 1) = true ∧ max x 1 ≠ 0 ∧ max x 1 < 64 := by
  obtain ⟨a, rfl, ha⟩ := h
  have : a < 64 := by simpa using ha
  unfold validB
  exact ⟨decide_eq_true (by omega), by omega, by omega⟩
theorem sizeL_set5 : ∀ l : List Int, sizeL (l.map setT) ≤ 10 * l.length := sizeL_sets
theorem ofE_zero {l : List Int} (hl : ∀ x ∈ l, validB x = true ∧ x ≠ 0) (hne : l ≠ []) (hz : (leastS l).length + sizeL ((leastS l).map setT) ≤ 200) : ofE l = 0 ∧ ofV l = normT (ofT (leastS l)) ∧ validE (ofT (leastS l)) = 0 := by
  have h0 : l.any badS = false := by
    rw [List.any_eq_false]
    intro x hx
    obtain ⟨h1, h2⟩ := hl x hx
    simp [badS, h1, h2]
  have hn : leastS l ≠ [] := by
    obtain ⟨x, hx⟩ : ∃ x, x ∈ l := List.exists_mem_of_ne_nil l hne
    obtain ⟨z, hz, _⟩ := leastS_cover hx (hl x hx).1
    intro e; rw [e] at hz; cases hz
  have hv : validE (ofT (leastS l)) = 0 := valid_of (fun x hx => ⟨(leastS_mem hx).2, (hl x (leastS_mem hx).1).2⟩) hn hz
  unfold ofE ofV
  rw [if_neg (by rw [h0]; simp), if_neg hne, if_neg (by rw [h0]; simp), if_neg hne]
  exact ⟨hv, by unfold nrmV; rw [if_pos hv], hv⟩
theorem cmpS_irr (a : Int) : ¬ cmpS a a < 0 := by rw [cmpS_ltQ]; omega
theorem nodup_least (l : List Int) : (leastS l).Nodup := (leastS_strict l).imp (fun {a b} h e => by subst e; exact cmpS_irr a h)
theorem len_bel : ∀ (n : Nat) (l : List Int), l.Nodup → (∀ x ∈ l, ∃ a : Nat, x = a ∧ a < n) → l.length ≤ n
  | 0, l, _, h => by
    cases l with
    | nil => simp
    | cons x r => obtain ⟨a, _, ha⟩ := h x (by simp); omega
  | n + 1, l, hd, h => by
    by_cases hm : (n : Int) ∈ l
    · have ih := len_bel n (l.erase (n : Int)) (hd.erase _) (fun x hx => by
        obtain ⟨hne, hx⟩ := (hd.mem_erase_iff).1 hx
        obtain ⟨a, rfl, ha⟩ := h x hx
        exact ⟨a, rfl, by have : a ≠ n := fun e => hne (by rw [e])
                          omega⟩)
      rw [List.length_erase_of_mem hm] at ih
      omega
    · have ih := len_bel n l hd (fun x hx => by
        obtain ⟨a, rfl, ha⟩ := h x hx
        exact ⟨a, rfl, by have : a ≠ n := fun e => hm (by rw [← e]; exact hx)
                          omega⟩)
      omega
theorem pop32 : ∀ a : Fin 32, popB a.val 10 ≤ 5 := by decide +kernel
theorem sizeL_set32 : ∀ l : List Int, (∀ x ∈ l, ∃ a : Nat, x = a ∧ a < 32) → sizeL (l.map setT) ≤ 5 * l.length
  | [], _ => by simp [sizeL]
  | s :: r, h => by
    have ih := sizeL_set32 r (fun x hx => h x (List.mem_cons_of_mem _ hx))
    obtain ⟨a, rfl, ha⟩ := h s (by simp)
    have h1 := nodesK_pop (a := a) (by omega) 10 (Nat.le_refl _)
    have h2 := pop32 ⟨a, ha⟩
    simp only at h2
    simp only [List.map_cons, sizeL, setT, Tr.size, List.length_cons, List.length_nil, h1]
    omega
theorem isN_norm {t : Tr} (hv : validE t = 0) : isN (normT t) = true := by
  obtain ⟨hok, _, _⟩ := valid_facts hv
  have h1 := (norm_ok hv).1
  unfold isN nrmV
  rw [if_pos h1, norm_norm hok, h1, (sameT_iff _ _).2 rfl]
  rfl
theorem ans_none {p : Nat → Bool} (h : ∀ a : Nat, a ≤ 1023 → p a = false) : ansV p = .tuple #[.bool true, .int .i64 0, .int .i64 0] := by
  have : ordN.find? p = none := by
    rw [List.find?_eq_none]
    intro s hs
    have : (s : Int) ∈ ordI := List.mem_map.2 ⟨s, hs, rfl⟩
    obtain ⟨a, e, ha⟩ := validB_nat ((ordI_all _).1 this)
    obtain rfl : s = a := by omega
    rw [h s ha]; simp
  unfold ansV
  rw [this]

set_option maxRecDepth 100000 in
set_option maxHeartbeats 8000000 in
theorem law05o_any (v : Value) (l : List Int) (w : World) (hl : SlI w none v l) : Calls Tryz.prog 3 #[v] w fun e w' => e = .returned (.bool true) ∧ Fr none w w' := by
  go_enter Tryz.func3, Tryz.ntmps3
  go_wp2_with fail
  refine (tapeNew_any _ _ _ hl).mono ?_
  rintro e w1 ⟨g, rfl, hg, S1, F1⟩
  clear hl
  have hg1 := S1.lt
  go_wp2_with fail
  refine (setsO_any 5 6 g _ (by omega) (by omega) S1).mono ?_
  rintro e w2 ⟨l0, A0, c0, rfl, hl0, hb0, own0, S2, F2⟩
  have hz2 := F2.size
  go_wp2_with fail
  refine (tapeRange_any 1 63 g _ (by omega) (by omega) (by omega) S2).mono ?_
  rintro e w3 ⟨x, rfl, x1, x2, S3, F3⟩
  have hz3 := F3.size
  have own3 := own_fr own0 F3 (by simp; omega)
  have F23 := F2.same F3
  clear own0 F2 F3 S1 S2
  go_wp2_with (at_builtin; refine app_lit eiInt rfl _ _ rfl w1.heap.size A0 l0.length c0 _ rfl own3 1 [.int .i64 x] _ _ rfl (by simp) rfl (by simp [Value.oneCell']) (by omega) (by unfold maxLen; omega) (by omega) ?_; intro A c w4 own4 F4 nb4)
  have og3 := own_blk_ge own3
  have F04 : Fr none w w4 := ((F1.own F23 (fun q hq => by injection hq with hq; omega)).own F4 (fun q hq => by have := og3 q hq; have := F1.size; omega))
  have S4 := S3.frs F4 (fun q hq => by have := og3 q hq; omega)
  obtain ⟨l1, hl1⟩ : ∃ l1, l1 = l0 ++ [x] := ⟨_, rfl⟩
  have hlen1 : l1.length = l0.length + 1 := by rw [hl1]; simp
  have hb1 : ∀ y ∈ l1, ∃ a : Nat, y = a ∧ a < 2 ^ 6 := by
    rw [hl1]; intro y hy
    rcases List.mem_append.1 hy with hy | hy
    · exact hb0 y hy
    · simp at hy; subst hy
      exact ⟨y.toNat, by omega, by omega⟩
  have own4 : w4.ownsRow w1.heap.size 3 1 (.slice A (l0.length + 1) c) (l0.length + 1) (l1.map (Value.int .i64)) := by rw [hl1]; simpa using own4
  rw [← hlen1] at own4 ⊢
  have hlA : l1.length ≤ l0.length + 1 := by omega
  have hlB : l0.length + 1 ≤ l1.length := by omega
  have hn1 : 1 ≤ l1.length := by omega
  have hn6 : l1.length ≤ 6 := by omega
  have HB1 := Lib.hid hb1
  have hz1 := F1.size
  have hz4 := F4.size
  clear hl1 hb1 hlen1 hb0 own3 og3 nb4 F23 F1 S3 F4
  go_wp2_with fail
  obtain ⟨wo, hwo⟩ : ∃ wo : World, wo = w4 := ⟨_, rfl⟩
  go_loopw [5, 28] (fun _ s28 wr => ∃ (j : Nat) (cur : List Int), j ≤ l1.length ∧ s28 = .int .i64 (j : Int) ∧ cur.length = l1.length ∧ Hid (∀ y ∈ cur, ∃ a : Nat, y = a ∧ a < 2 ^ 6) ∧ Hid (∀ i (hi : i < cur.length), i < j → 1 ≤ cur[i]) ∧ wr.ownsRow w1.heap.size 3 1 (.slice A l1.length c) l1.length (cur.map (Value.int .i64)) ∧ Fr none w wr ∧ SrcR 49 wr g ∧ w4.heap.size ≤ wr.heap.size) (fun _ s28 _ => l1.length - (intOf s28).toNat)
  case atStart => exact ⟨0, l1, Nat.zero_le _, rfl, rfl, HB1, Lib.hid (fun i hi h => by omega), own4, F04, S4, Nat.le_refl _⟩
  case round =>
    clear own4 F04 S4 hwo
    obtain ⟨j, cur, hj, rfl, hcl, HBC, HGE, own, F, S, hzr⟩ := hrel
    have HCL := Lib.hid hcl
    obtain ⟨gb, hA⟩ : ∃ gb, A = some ⟨gb, 0, none⟩ := by
      rcases own.2 with ⟨_, h0⟩ | ⟨gb, cap, c', hv, _⟩
      · omega
      · injection hv with hv
        exact ⟨gb, hv⟩
    subst hA
    have hgb := own_blk_ge own gb rfl
    by_cases hlt : j < l1.length
    · have hjc : j < cur.length := by omega
      have cj : wr.cell? ⟨gb, j, none⟩ = some (.int .i64 cur[j]) := by rw [own.cellAt j (by omega)]; simp [hjc]
      have zj := own.frozenAt j
      obtain ⟨a, ha, ha2⟩ := HBC.out cur[j] (List.getElem_mem _)
      have HEX : ∀ y : Int, (y = max cur[j] 1) → (wr.setCell ⟨gb, j, none⟩ (.int .i64 y)).ownsRow w1.heap.size 3 1 (.slice (some ⟨gb, 0, none⟩) l1.length c) l1.length ((cur.set j y).map (Value.int .i64)) ∧ (cur.set j y).length = l1.length ∧ (∀ z ∈ cur.set j y, ∃ a : Nat, z = a ∧ a < 2 ^ 6) ∧ (∀ i (hi : i < (cur.set j y).length), i < j + 1 → 1 ≤ (cur.set j y)[i]) := fun y hy => by
        refine ⟨by rw [List.map_set]; exact (own.stored j (.int .i64 y)).1, by simp [hcl], fun z hz => ?_, fun i hi h => ?_⟩
        · rcases List.mem_or_eq_of_mem_set hz with hz | hz
          · exact HBC.out z hz
          · have h64 : (2 : Nat) ^ 6 = 64 := rfl
            refine ⟨(max cur[j] 1).toNat, ?_, ?_⟩ <;> omega
        · rw [List.getElem_set]
          split
          · omega
          · exact HGE.out i (by simpa using hi) (by omega)
      have HE := Lib.hid HEX
      have HA := Lib.hid ha
      generalize hcv : cur[j] = cv at *
      clear hcl HEX hcv ha
      obtain ⟨o1, o2, o3, o4⟩ := HE.out (max cv 1) rfl
      have O1 := Lib.hid o1
      have O2 := Lib.hid o2
      have FS := Fr.set1 wr ⟨gb, j, none⟩ (.int .i64 (max cv 1))
      clear o1 o2
      go_wp2_with fail
      go_roundw
      case rel => exact ⟨j + 1, cur.set j (max cv 1), by omega, by go_num, O2.out, Lib.hid o3, Lib.hid o4, O1.out, F.own FS (by simp; omega), S.frs FS (by simp; omega), by have := FS.size; omega⟩
      case measure => simp [intOf]; omega
    · obtain rfl : j = l1.length := by omega
      have hmem : ∀ y ∈ cur, validB y = true ∧ y ≠ 0 ∧ 1 ≤ y ∧ y < 64 := fun y hy => by
        obtain ⟨a, rfl, ha⟩ := HBC.out y hy
        obtain ⟨i, hi, e⟩ := List.getElem_of_mem hy
        have := HGE.out i hi (by omega)
        rw [e] at this
        have h64 : (2 : Nat) ^ 6 = 64 := rfl
        exact ⟨by unfold validB; exact decide_eq_true (by omega), by omega, this, by omega⟩
      have hne : cur ≠ [] := by intro e; rw [e] at hcl; simp at hcl; omega
      have hll := leastS_len cur
      have hsz := sizeL_sets (leastS cur)
      obtain ⟨e1, e2, e3⟩ := ofE_zero (fun y hy => ⟨(hmem y hy).1, (hmem y hy).2.1⟩) hne (by omega)
      obtain ⟨n1, n2, n3, n4⟩ := norm_ok e3
      have hIS := isN_norm e3
      have hslc : slcS ordI (normT (ofT (leastS cur))) = leastS cur := slc_of ordI_all (fun a ha => n2 a (nat_validB ha))
      have HSZ : (normT (ofT (leastS cur))).size ≤ 200 := (valid_facts n1).2.1
      obtain ⟨X, hX⟩ : ∃ X, X = normT (ofT (leastS cur)) := ⟨_, rfl⟩
      rw [← hX] at n1 hIS hslc HSZ e2
      have HIS := Lib.hid hIS
      have HSL := Lib.hid hslc
      have HN1 := Lib.hid n1
      have HE1 := Lib.hid e1
      have HE2 := Lib.hid e2
      have hcw : ∀ y ∈ cur, Wi y := fun y hy => by have := hmem y hy; constructor <;> omega
      have HCW := Lib.hid hcw
      have hcl6 : cur.length ≤ 6 := by omega
      have hI : SlI wr none (.slice (some ⟨gb, 0, none⟩) l1.length c) cur := SlI.of_own own (by simp) hcw
      clear hmem hsz e1 e2 e3 n1 n2 n3 n4 hIS hslc hX HBC HGE hne hcl HCL hcw
      go_wp2_with fail
      refine (sof_any cur _ _ hI (by omega)).mono ?_
      rintro e w5 ⟨v5, rfl, hT5, F5⟩
      rw [HE2.out] at hT5
      rw [HE1.out]
      obtain ⟨th, A1, n1, c1, A2, n2, c2, rfl⟩ := TrD.shape hT5
      have FA := (Fr.refl none w5).alloc (.cells #[.int .i64 th, .slice A1 n1 c1, .slice A2 n2 c2] 29)
      have B6 : TB (w5.alloc (.cells #[.int .i64 th, .slice A1 n1 c1, .slice A2 n2 c2] 29)) w5.heap.size (.int .i64 th) (.slice A1 n1 c1) (.slice A2 n2 c2) := blk_new _ _
      have T6 := hT5.fr FA
      have F56 := F5.pure FA
      have own6 := own_fr own F56 (by simp)
      have S6 := S.fr F56
      have F06 := F.pure F56
      have hz5 := F5.size
      have hg5 : g < w5.heap.size := by have := S.lt; omega
      clear hT5 hI own S F F5 F56
      go_upto_region 9 with (fail)
      generalize hW : w5.alloc _ = w6 at *
      have hz6 : w5.heap.size < w6.heap.size := by rw [← hW]; simp
      clear hW FA
      have R6 := B6.cell
      go_wp2_with fail
      refine (ris_any X _ _ T6 (by omega)).mono ?_
      rintro e w7 ⟨rfl, F7⟩
      rw [HIS.out]
      have B7 := B6.fr F7 (by simp)
      have R7 := B7.cell
      have T7 := T6.fr F7
      have own7 := own_fr own6 F7 (by simp)
      have S7 := S6.fr F7
      have F07 := F06.pure F7
      clear R6 B6 T6 own6 S6 F06
      go_wp2_with fail
      refine (slices_any X _ _ T7 HN1.out).mono ?_
      rintro e w8 ⟨v8, rfl, D8, F8⟩
      rw [HSL.out] at D8
      have hz7 := F7.size
      have D8 : SlD w8 (Dm w8 (some g)) 1 v8 ((leastS cur).map (Value.int .i64)) := D8.keep (dn_dm (by simp; omega))
      have own8 := own_fr own7 F8 (by simp)
      have S8 := S7.fr F8
      have F08 := F07.pure F8
      clear R7 B7 T7 own7 S7 F07
      go_wp2_with fail
      refine (tapeRange_any 1 5 g _ (by omega) (by omega) (by omega) S8).mono ?_
      rintro e w9 ⟨x, rfl, x1', x2', S9, F9⟩
      obtain ⟨m, rfl⟩ := Int.eq_ofNat_of_zero_le (show 0 ≤ x by omega)
      go_wp2_with fail
      refine (mkTrust_any m 3 g _ (by omega) (by omega) (by omega) (by omega) S9).mono ?_
      rintro e w10 ⟨tv, y, rfl, hY, hvy, hdy, hny, S10, F10⟩
      obtain ⟨ty, B1, m1, d1, B2, m2, d2, rfl⟩ := hY.shape
      have Y10 : TrR w10 none (.agg #[.int .i64 ty, .slice B1 m1 d1, .slice B2 m2 d2]) y := TrD.keep (dn_dm (by simp)) _ _ hY
      have F910 := F9.same F10
      have hgw : w.heap.size ≤ g := hg
      have D10 := D8.keep (fr_dm F910)
      have own10 := own_fr own8 F910 (by simp; omega)
      have F010 := F08.own F910 (fun q hq => by injection hq with hq; omega)
      have FB := (Fr.refl none w10).alloc (.cells #[.int .i64 ty, .slice B1 m1 d1, .slice B2 m2 d2] 29)
      have C11 : TB (w10.alloc (.cells #[.int .i64 ty, .slice B1 m1 d1, .slice B2 m2 d2] 29)) w10.heap.size (.int .i64 ty) (.slice B1 m1 d1) (.slice B2 m2 d2) := blk_new _ _
      have Y11 := Y10.fr FB
      have D11 := (D10.keep dm_none).keep (fr_dm FB)
      have own11 := own_fr own10 FB (by simp)
      have F011 := F010.pure FB
      have hm10 : m ≤ 10 := by omega
      have hbel := slc_bel ordI_all hm10 hny
      have hck : checkE y = 0 := (okT_iff y).2 (valid_facts hvy).1
      have hbn := slc_ne ordI_all hck
      have hb0 : ∀ z ∈ slcS ordI y, validB z = true ∧ z ≠ 0 := fun z hz => by
        obtain ⟨a, rfl, ha, hs⟩ := slc_mem ordI_all hz
        refine ⟨nat_validB ha, fun e => ?_⟩
        obtain rfl : a = 0 := by omega
        rw [sat_zero y hck] at hs
        cases hs
      have hb32 : ∀ z ∈ leastS (slcS ordI y), ∃ a : Nat, z = a ∧ a < 32 := fun z hz => by
        obtain ⟨a, rfl, ha⟩ := hbel z (leastS_mem hz).1
        have := Nat.pow_le_pow_right (n := 2) (by omega) (show m ≤ 5 by omega)
        exact ⟨a, rfl, by omega⟩
      have hln := len_bel 32 _ (nodup_least _) hb32
      have hls := sizeL_set32 _ hb32
      obtain ⟨e1, e2, e3⟩ := ofE_zero hb0 hbn (by omega)
      obtain ⟨k1, k2, k3, k4⟩ := norm_ok e3
      have hans : ansV (fun s : Nat => sat (s : Int) y != sat (s : Int) (normT (ofT (leastS (slcS ordI y))))) = .tuple #[.bool true, .int .i64 0, .int .i64 0] := ans_none (fun a ha => by
        rw [k2 a (nat_validB ha), sat_slcof ordI_all ha]
        simp)
      have hbw : ∀ z ∈ slcS ordI y, Wi z := fun z hz => by
        obtain ⟨a, rfl, ha, _⟩ := slc_mem ordI_all hz
        constructor <;> omega
      have hb1024 : (slcS ordI y).length ≤ 1048576 := Nat.le_trans (leastS_len _) (Nat.le_trans (List.length_filter_le _ _) (by unfold ordI; rw [List.length_map, ordN_len]; omega))
      obtain ⟨b, hb⟩ : ∃ b, b = slcS ordI y := ⟨_, rfl⟩
      obtain ⟨Z, hZ⟩ : ∃ Z, Z = normT (ofT (leastS b)) := ⟨_, rfl⟩
      rw [← hb] at e1 e2 hans k1 hbw hb1024
      rw [← hZ] at e2 hans k1
      have HB := Lib.hid hb
      have HF1 := Lib.hid e1
      have HF2 := Lib.hid e2
      have HANS := Lib.hid hans
      have HK1 := Lib.hid k1
      have HBW := Lib.hid hbw
      have HVY := Lib.hid hvy
      clear hY Y10 F9 F10 F910 D8 D10 own8 own10 F08 F010 S8 S9 S10 hbel hck hbn hb0 hb32 hln hls e1 e2 e3 k1 k2 k3 k4 hans hbw hb hZ hvy hny hdy
      go_upto_region 13 with (fail)
      generalize hW : w10.alloc _ = w11 at *
      clear hW FB
      have R11 := C11.cell
      go_wp2_with fail
      refine (slices_any y _ _ Y11 HVY.out).mono ?_
      rintro e w12 ⟨v12, rfl, D12, F12⟩
      rw [← HB.out] at D12
      have I12 : SlI w12 none v12 b := ⟨D12.keep (dn_dm (by simp)), HBW.out⟩
      have C12 := C11.fr F12 (by simp)
      have Y12 := Y11.fr F12
      have D12' := D11.keep (fr_dm F12)
      have own12 := own_fr own11 F12 (by simp)
      have F012 := F011.pure F12
      clear R11 C11 Y11 D11 own11 F011 D12
      go_wp2_with fail
      refine (sof_any b _ _ I12 hb1024).mono ?_
      rintro e w13 ⟨v13, rfl, hT13, F13⟩
      rw [HF2.out] at hT13
      rw [HF1.out]
      obtain ⟨tz, Z1, z1, z2, Z2, z3, z4, rfl⟩ := TrD.shape hT13
      have FC := (Fr.refl none w13).alloc (.cells #[.int .i64 tz, .slice Z1 z1 z2, .slice Z2 z3 z4] 29)
      have C13 := C12.fr F13 (by simp)
      have R13 := C13.cell
      have l13 := blk_lt C13
      have Y14 := (Y12.fr F13).fr FC
      have T14 := hT13.fr FC
      have D14 := (D12'.keep (fr_dm F13)).keep (fr_dm FC)
      have own14 := own_fr (own_fr own12 F13 (by simp)) FC (by simp)
      have F014 := (F012.pure F13).pure FC
      clear C12 Y12 hT13 D12' own12 F012 C13
      go_wp2_with fail
      refine (eqv_any y Z _ _ _ Y14 T14 HVY.out HK1.out).mono ?_
      rintro e w15 ⟨rfl, F15⟩
      rw [HANS.out]
      have D15 := D14.keep (fr_dm F15)
      have own15 := own_fr own14 F15 (by simp)
      have F015 := F014.pure F15
      clear D14 own14 F014 Y14 T14 R13
      go_wp2_with fail
      refine (rleast_any cur _ _ (SlI.of_own own15 (by simp) HCW.out) (by omega)).mono ?_
      rintro e w16 ⟨v16, rfl, D16, F16⟩
      have hlw : ∀ z ∈ leastS cur, Wi z := fun z hz => HCW.out z (leastS_mem hz).1
      go_wp2_with fail
      refine (ints_any (leastS cur) (leastS cur) _ _ _ ⟨D15.keep (fr_dm F16), hlw⟩ ⟨D16.keep (dn_dm (by simp)), hlw⟩).mono ?_
      rintro e w17 ⟨rfl, F17⟩
      rw [decide_eq_true rfl]
      go_wp2_with fail
      refine (awake5_any _).mono ?_
      rintro e w18 ⟨rfl, F18⟩
      go_wp2_with fail
      go_ret
      exact ⟨rfl, ((F015.pure F16).pure F17).pure F18⟩
end Go.Proofs.YtpdhckbiioobhaaGreat

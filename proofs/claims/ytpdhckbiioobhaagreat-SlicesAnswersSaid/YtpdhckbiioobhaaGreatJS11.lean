/- Some texts of this claim, joined: contracts of the functions that it reaches, and plain laws. -/
import Derived.Test.YtpdhckbiioobhaaGreatProg
import Derived.Test.YtpdhckbiioobhaaGreatShelf
import Derived.Test.YtpdhckbiioobhaaGreatJS5
import Derived.Test.YtpdhckbiioobhaaGreatJS3
import Derived.Sort.OwnSortedInts

set_option linter.unusedSimpArgs false
set_option linter.unusedVariables false
/- Walks: nodeset.Least. -/
namespace Go.Proofs.YtpdhckbiioobhaaGreat
open Go.RowKit

/-- A slice of ints in a row of the call's own, from block base on. -/
def OwnH (w : World) (base : Nat) (v : Value) (l : List Int) : Prop :=
  ∃ A c, v = .slice A l.length c ∧ l.length ≤ c ∧ c ≤ maxLen ∧ (0 < l.length → ∃ g, A = some ⟨g, 0, none⟩ ∧ base ≤ g ∧ g < w.heap.size ∧ Sort.Holds (Value.int .i64) w g 0 l.toArray)
theorem OwnH.sl {w : World} {base : Nat} {v : Value} {l : List Int} (h : OwnH w base v l) (hw : ∀ x ∈ l, Wi x) : SlI w none v l := by
  obtain ⟨A, c, rfl, h1, h2, h3⟩ := h
  refine ⟨⟨A, l.length, c, rfl, by simp, h1, h2, fun hn => ?_⟩, hw⟩
  obtain ⟨g, rfl, hb, hg, hh⟩ := h3 hn
  refine ⟨g, 0, rfl, ⟨hg, by simp⟩, fun j u hu => ?_⟩
  have hj : j < l.length := by
    have := (List.getElem?_eq_some_iff.1 hu).1
    simpa using this
  have := (hh j (by simpa using hj)).1
  rw [this, ← hu]
  simp [hj]
theorem OwnH.of_own {w : World} {base : Nat} {e : TypeId} {v : Value} {l : List Int} (h : w.ownsRow base e 1 v l.length (l.map (Value.int .i64))) : OwnH w base v l := by
  rcases h.2 with ⟨rfl, h0⟩ | ⟨g, cap, cur, rfl, hg, hb, hnc, hm, hs, ht⟩
  · exact ⟨none, 0, by rw [h0], by omega, by unfold maxLen; omega, fun h => by omega⟩
  · exact ⟨_, cap, rfl, hnc, hm, fun _ => ⟨g, rfl, hg, (Array.getElem?_eq_some_iff.1 hb).1, holds_of_blockI hb (by simpa using ht)⟩⟩

theorem clone_any (l : List Int) (v : Value) (w : World) (h : SlI w none v l) (hlen : l.length ≤ 1099511627776) :
    Calls Tryz.prog 57 #[v] w fun e w' => ∃ v', e = .returned v' ∧ OwnH w' w.heap.size v' l ∧ Fr none w w' := by
  obtain ⟨A, c, rfl, q1, q2, hc⟩ := h.open_
  rcases Nat.eq_zero_or_pos l.length with h0 | h0
  · have hl0 : l = [] := List.eq_nil_of_length_eq_zero h0
    subst hl0
    cases A with
    | none =>
      refine (Tryz.slices_Clone_int_nil 0 c w).mono ?_
      rintro e w' ⟨rfl, rfl⟩
      exact ⟨_, rfl, ⟨none, 0, rfl, by simp, by unfold maxLen; omega, by simp⟩, Fr.refl _ _⟩
    | some a =>
      refine (Tryz.slices_Clone_int_zero a c w).mono ?_
      rintro e w' ⟨v', rfl, own, _, F⟩
      exact ⟨_, rfl, OwnH.of_own (l := []) own, Fr.of_below F⟩
  · obtain ⟨b, off, rfl, hb, _, hcc⟩ := hc h0
    refine (Tryz.slices_Clone_int b off l.length c l w (Nat.le_refl _) (by omega) (fun j hj => by rw [hcc j hj]; simp [hj])).mono ?_
    rintro e w' ⟨v', rfl, own, _, F⟩
    exact ⟨_, rfl, OwnH.of_own (by simpa using own), Fr.of_below F⟩

theorem least1_any (s : Int) (w : World) : Calls Tryz.prog 58 #[.int .i64 s] w fun e w' => e = .returned (.bool (!validB s)) ∧ w = w' := by
  go_enter Tryz.func58, Tryz.ntmps58
  go_wp2_with (go_at_call 28; refine (valid_any _ _).mono ?_; rintro e w' ⟨rfl, rfl⟩)
  go_ret
  exact ⟨rfl, rfl⟩
theorem least1_gives (s : Int) (w : World) : FnGives Tryz.prog 58 #[] #[.int .i64 s] (.bool (!validB s)) w := by
  show Calls Tryz.prog 58 #[.int .i64 s] w _
  refine (least1_any s w).mono ?_
  rintro e w' ⟨rfl, rfl⟩
  exact ⟨rfl, 0, rfl⟩
theorem del_none (A : Option Addr) (c : Nat) (hc : c ≤ maxLen) (w : World) : Calls Tryz.prog 56 #[.slice A 0 c, .func (.func 58) #[] #[]] w fun e w' => e = .returned (.slice A 0 c) ∧ w = w' := by
  go_enter Tryz.func56, Tryz.ntmps56
  go_wp2_with (go_at_call 76; refine (indexFunc_any _ (fun x => !validB x) (fun _ _ => by kernel_rfl) (fun x w _ => least1_any x w) [] _ _ none ⟨⟨A, 0, c, rfl, by simp, by omega, hc, by omega⟩, by simp⟩).mono ?_; rintro e w' ⟨rfl, rfl⟩)
  go_ret
  exact ⟨rfl, rfl⟩

theorem holds_pre {w : World} {g : Nat} {F R : List Int} (h : Sort.Holds (Value.int .i64) w g 0 (F ++ R).toArray) : Sort.Holds (Value.int .i64) w g 0 F.toArray := by
  intro j hj
  have hj' : j < F.length := by simpa using hj
  have := h j (by simp; omega)
  refine ⟨?_, this.2⟩
  rw [this.1]
  simp [hj', List.getElem_append_left, show j < F.length + R.length by omega]
theorem del_any (l : List Int) (v : Value) (w : World) (base : Nat) (h : OwnH w base v l) :
    Calls Tryz.prog 56 #[v, .func (.func 58) #[] #[]] w fun e w' => ∃ v', e = .returned v' ∧ OwnH w' base v' (l.filter validB) ∧ ∃ r, Fr r w w' ∧ ∀ g, r = some g → base ≤ g := by
  obtain ⟨A, c, rfl, q1, q2, hc⟩ := h
  rcases Nat.eq_zero_or_pos l.length with h0 | h0
  · have hl0 : l = [] := List.eq_nil_of_length_eq_zero h0
    subst hl0
    refine (del_none A c q2 w).mono ?_
    rintro e w' ⟨rfl, rfl⟩
    exact ⟨_, rfl, ⟨A, c, rfl, q1, q2, fun h => absurd h (by simp)⟩, none, Fr.refl _ _, by simp⟩
  · obtain ⟨g, rfl, hb, hg, hh⟩ := hc h0
    have hfl : (l.toArray.toList.filter fun x => !(!validB x)) = l.filter validB := by simp
    have hle : (l.filter validB).length ≤ l.length := List.length_filter_le _ _
    refine (Tryz.slices_DeleteFunc (Value.int .i64) (fun _ => rfl) (fun x => !validB x) 58 #[] (fun _ _ => by kernel_rfl) 0 Tryz.zeroValue3 g 0 c l.toArray w (fun W x _ => least1_gives x W) (fun n os dk x _ => least1_gives x _) hh (by unfold maxLen at q2; simp; omega) (by simpa using q1)).mono ?_
    rintro e w' ⟨rfl, q, rfl⟩
    rw [hfl]
    have h1 := Sort.holds_putRow (Value.int .i64) (Sort.ahead w q) g 0 l.toArray ((l.filter validB) ++ List.replicate (l.toArray.size - (l.filter validB).length) 0).toArray (Sort.holds_ahead (Value.int .i64) w q g 0 l.toArray hh) (by simp; omega)
    refine ⟨_, rfl, ⟨_, c, rfl, by omega, q2, fun _ => ⟨g, rfl, hb, by simpa [Sort.ahead] using hg, holds_pre h1⟩⟩, some g, ?_, fun x hx => by injection hx with hx; omega⟩
    have h2 := grownBy_sortedI (w := w) (g := g) (n := q) (os := #[]) ((l.filter validB) ++ List.replicate (l.toArray.size - (l.filter validB).length) 0).toArray
    rw [Sort.grow_empty] at h2
    exact h2

theorem cmpS_lt (x y : Int) : cmpS x y < 0 ↔ rankI x < rankI y ∨ (rankI x = rankI y ∧ x < y) := by
  unfold cmpS cmpI
  generalize rankI x = a
  generalize rankI y = b
  by_cases h1 : a < b
  · simp [h1]
  · by_cases h2 : b < a
    · simp [h1, h2]; omega
    · by_cases h3 : x < y
      · simp [h1, h2, h3]; omega
      · by_cases h4 : y < x <;> simp [h1, h2, h3, h4]
theorem swoS : Sort.SWO (ltOf cmpS) where
  irrefl x := by simp only [ltOf, cmpS_lt, decide_eq_false_iff_not]; omega
  trans x y z h1 h2 := by simp only [ltOf, cmpS_lt, decide_eq_true_eq] at *; omega
  ntrans x y z h1 h2 := by simp only [ltOf, cmpS_lt, decide_eq_false_iff_not] at *; omega
theorem totS (x y : Int) (h1 : ltOf cmpS x y = false) (h2 : ltOf cmpS y x = false) : x = y := by
  simp only [ltOf, cmpS_lt, decide_eq_false_iff_not] at *; omega
theorem cmp_lays (blk off size : Nat) (w : World) : CmpLays1 Tryz.prog 60 #[] (Value.int .i64) cmpS blk off size w := by
  intro m os dk hs x y
  show Calls Tryz.prog 60 #[.int .i64 x, .int .i64 y] _ _
  refine (compare_w x y _).mono ?_
  rintro e w' ⟨rfl, o, rfl⟩
  exact ⟨rfl, 0, #[o], Sort.alloc_eq_grow _ _⟩
theorem sort_any (l : List Int) (v : Value) (w : World) (base : Nat) (h : OwnH w base v l) (hlen : l.length ≤ 1099511627776) :
    Calls Tryz.prog 59 #[v, .func (.func 60) #[] #[]] w fun e w' => e = .returned (.tuple #[]) ∧ OwnH w' base v (sortS l) ∧ ∃ r, Fr r w w' ∧ ∀ g, r = some g → base ≤ g := by
  obtain ⟨A, c, rfl, q1, q2, hc⟩ := h
  have hsl := sortS_len l
  rcases Nat.eq_zero_or_pos l.length with h0 | h0
  · have hl0 : l = [] := List.eq_nil_of_length_eq_zero h0
    subst hl0
    refine (Tryz.slices_SortFunc_none (α := Int) A c _ w).mono ?_
    rintro e w' ⟨rfl, rfl⟩
    exact ⟨rfl, ⟨A, c, by rw [hsl], by omega, q2, fun h => by omega⟩, none, Fr.refl _ _, by simp⟩
  · obtain ⟨g, rfl, hb, hg, hh⟩ := hc h0
    refine (Tryz.slices_SortFunc_total (Value.int .i64) (fun _ => rfl) cmpS swoS 60 #[] g 0 c l.toArray w (fun _ _ => by kernel_rfl) (cmp_lays _ _ _ _) hh hg (by simp; omega) totS).mono ?_
    rintro e w' ⟨rfl, n, os, hw⟩
    have e1 : (l.toArray.toList.mergeSort fun x y => !(ltOf cmpS) y x) = sortS l := rfl
    rw [e1] at hw
    subst hw
    refine ⟨rfl, ⟨_, c, by rw [hsl], by omega, q2, fun _ => ⟨g, rfl, hb, lt_sortWorld _ _ _ _ _ _ _ hg, holds_sortWorld _ _ _ _ _ l.toArray _ _ hg hh (by simp [hsl])⟩⟩, some g, grownBy_sortedI _, fun x hx => by injection hx with hx; omega⟩

theorem least2_any (t s : Int) (b : Nat) (w : World) (hc : w.cell? ⟨b, 0, none⟩ = some (.int .i64 s)) :
    Calls Tryz.prog 62 #[.int .i64 t, .pointer (some ⟨b, 0, none⟩)] w fun e w' => e = .returned (.bool (subI t s)) ∧ w = w' := by
  go_enter Tryz.func62, Tryz.ntmps62
  go_wp2_with fail
  go_ret
  exact ⟨rfl, rfl⟩

set_option maxRecDepth 100000 in
set_option maxHeartbeats 1000000 in
theorem least_any (l : List Int) (v : Value) (w : World) (h : SlI w none v l) (hlen : l.length ≤ 1099511627776) :
    Calls Tryz.prog 29 #[v] w fun e w' => ∃ v', e = .returned v' ∧ SlD w' (Dn w.heap.size w') 1 v' ((leastS l).map (Value.int .i64)) ∧ Fr none w w' := by
  have hfl : (l.filter validB).length ≤ 1099511627776 := Nat.le_trans (List.length_filter_le _ _) hlen
  have HL := Lib.hid h
  have HF := Lib.hid hfl
  have HLen := Lib.hid hlen
  clear h hfl hlen
  go_enter Tryz.func29, Tryz.ntmps29
  go_wp2_with (first | (go_at_call 57; refine (clone_any l v w HL.out HLen.out).mono ?_; rintro e w1 ⟨v1, rfl, O1, F1⟩) | (go_at_call 56; refine (del_any l v1 w1 _ O1).mono ?_; rintro e w2 ⟨v2, rfl, O2, r2, F2, hr2⟩) | (go_at_call 59; refine (sort_any _ v2 w2 _ O2 HF.out).mono ?_; rintro e w3 ⟨rfl, O3, r3, F3, hr3⟩; obtain ⟨m, hm, S3, F⟩ : ∃ m, m = sortS (l.filter validB) ∧ SlI w3 none v2 m ∧ Fr none w w3 := ⟨_, rfl, O3.sl (fun x hx => valid_wi (List.mem_filter.1 ((sortS_mem _ _).1 hx)).2), (F1.own F2 hr2).own F3 hr3⟩; clear O1 O2 O3 F1 F2 F3 hr2 hr3; have HS := Lib.hid S3; have HM := Lib.hid hm; have hml : m.length ≤ 1099511627776 := (by rw [hm, sortS_len]; exact HF.out); have HML := Lib.hid hml; clear hm hml; obtain ⟨A, c, rfl, q1, q2, hc⟩ := S3.open_; clear S3))
  have hz0 := F.size
  have hml := HML.out
  go_loopw [3, 13, 5, 14, 15, 16, 17, 18, 19, 20, 21, 22, 23, 24, 25] (fun v i s5 s14 s15 s16 s17 s18 s19 s20 s21 s22 s23 s24 s25 wr => ∃ (j : Nat) (o : List Int) (B : Option Addr) (d : Nat), j ≤ m.length ∧ i = .int .i64 j ∧ o = leastGo [] (m.take j) ∧ v = .slice B o.length d ∧ Fr none w3 wr ∧ wr.ownsRow w3.heap.size 3 1 (.slice B o.length d) o.length (o.map (Value.int .i64))) (fun _ i _ _ _ _ _ _ _ _ _ _ _ _ _ _ => m.length - (intOf i).toNat)
  case atStart => exact ⟨0, [], none, 0, Nat.zero_le _, rfl, rfl, rfl, Fr.refl _ _, World.ownsRow_nil _ _ _ _⟩
  case round =>
    obtain ⟨j, o, B, d, hj, rfl, ho, rfl, G, own⟩ := hrel
    have hz := G.size
    have hol : o.length ≤ j := by
      rw [ho]
      have := leastGo_len (m.take j) []
      simp only [List.length_nil, List.length_take] at this
      omega
    have hwo : ∀ x ∈ o, Wi x := by
      rw [ho]
      intro x hx
      rcases leastGo_mem _ _ x hx with h | h
      · cases h
      · exact HS.out.2 x (List.mem_of_mem_take h)
    have SO := Lib.hid (SlI.of_own (r := none) own (by simp) hwo)
    have HO := Lib.hid ho
    clear ho hwo
    by_cases hlt : j < m.length
    · obtain ⟨b, off, rfl, hb, hbr, hcc⟩ := hc (by omega)
      have hstep : leastGo [] (m.take (j + 1)) = if o.any (fun t => subI t m[j]) then o else o ++ [m[j]] := by
        rw [List.take_succ_eq_append_getElem hlt, leastGo_snoc, ← HO.out]
      obtain ⟨x, hx⟩ : ∃ x, x = m[j] := ⟨_, rfl⟩
      have hck : wr.cell? ⟨b, off + j, none⟩ = some (.int .i64 x) := by rw [hx]; exact G.keep (hcc j hlt) (by simp)
      rw [← hx] at hstep
      have HT := Lib.hid hstep
      clear hstep hcc hc hx
      cases hb2 : o.any (fun t => subI t x) with
      | true =>
        have HB := Lib.hid hb2
        clear hb2
        go_wp2_with (go_at_call 61; refine (containsFuncC_any _ (fun t => subI t x) (fun _ _ => by kernel_rfl) (.pointer (some ⟨wr.heap.size, 0, none⟩)) _ (fun t _ => least2_any t x _ _ (by simp)) o _ none (SO.out.fr ((Fr.refl _ _).alloc _))).mono ?_; rintro e w' ⟨rfl, rfl⟩; rw [HB.out])
        go_roundw
        case rel => exact ⟨j + 1, o, B, d, by omega, by go_num, by rw [HT.out, HB.out]; rfl, rfl, G.alloc _, own.alloc _⟩
        case measure => simp [intOf]; omega
      | false =>
        have HB := Lib.hid hb2
        clear hb2
        go_wp2_with (first | (go_at_call 61; refine (containsFuncC_any _ (fun t => subI t x) (fun _ _ => by kernel_rfl) (.pointer (some ⟨wr.heap.size, 0, none⟩)) _ (fun t _ => least2_any t x _ _ (by simp)) o _ none (SO.out.fr ((Fr.refl _ _).alloc _))).mono ?_; rintro e w' ⟨rfl, rfl⟩; rw [HB.out]) | (at_builtin; refine app_lit eiInt rfl _ _ rfl w3.heap.size B o.length d _ rfl (own.alloc _) 1 [.int .i64 x] _ _ rfl (by simp) rfl (by simp [Value.oneCell']) (by omega) (by unfold maxLen; omega) (by simp; omega) ?_; intro A' c' w' own' F' bl'))
        have og := own_blk_ge own
        go_roundw
        case rel => exact ⟨j + 1, o ++ [x], A', c', by omega, by go_num, by rw [HT.out, HB.out]; rfl, by simp, (G.alloc _).own F' og, by simpa using own'⟩
        case measure => simp [intOf]; omega
    · obtain rfl : j = m.length := by omega
      have hfin : leastS l = o := by
        unfold leastS
        rw [← HM.out, HO.out, List.take_length]
      have HFin := Lib.hid hfin
      clear hfin
      go_wp2_with fail
      go_ret
      rw [HFin.out]
      exact ⟨_, rfl, (SlD.own_dn own).keep (dn_mono hz0), F.pure G⟩
end Go.Proofs.YtpdhckbiioobhaaGreat

/- Some texts of this claim, joined: contracts of the functions that it reaches, and plain laws. -/
import Derived.Test.YtkpgnhdmlikopaaGreatDoorProg
import Derived.Test.YtkpgnhdmlikopaaGreatDoorJA1
import Derived.Test.YtkpgnhdmlikopaaGreatDoorJA4
import Derived.RegionTactic
import Derived.Test.YtkpgnhdmlikopaaGreatDoorJA2

set_option linter.unusedSimpArgs false
set_option linter.unusedVariables false
/- Walks: the tape trustquorummake.Tape: New, N, Range, Pick, Order. -/
namespace Go.Proofs.YtkpgnhdmlikopaaGreatDoor
open Go.RowKit

abbrev TapeT : TypeId := 51

theorem tapeNew_any (v : Value) (l : List Int) (w : World) (h : SlI w none v l) :
    Calls Tryz.prog 5 #[v] w (NewP 51 w) := by
  have h0 := h
  obtain ⟨A, c, rfl, q1, q2, hc⟩ := h.open_
  by_cases hl : l.length ≤ 400
  · go_enter Tryz.func5, Tryz.ntmps5
    go_wp2
    go_ret
    exact ⟨_, rfl, Nat.le_refl _, SrcR.made h0 (by omega), (Fr.refl _ _).alloc _⟩
  · go_enter Tryz.func5, Tryz.ntmps5
    go_wp2
    all_goals first | (exfalso; omega) | skip
    go_ret
    exact ⟨_, rfl, Nat.le_refl _, SrcR.made (h0.take 400 (by omega)) (by have := List.length_take_le 400 l; omega), (Fr.refl _ _).alloc _⟩

theorem tapeN_any (n : Int) (g : Nat) (w : World) (hn0 : 1 ≤ n) (hn : n ≤ 4294967296) (h : SrcR 51 w g) :
    Calls Tryz.prog 35 #[.pointer (some ⟨g, 0, none⟩), .int .i64 n] w (NumP 51 w g 0 (n - 1)) := by
  have h0 := h
  have hgl := h.lt
  obtain ⟨A, c, l, k, hb, hs, hw, hl, hk, q1, q2, hc⟩ := h.open_
  have c0 : w.cell? ⟨g, 0, none⟩ = some (.slice A l.length c) := cell_of_row w g 0 _ _ _ hb
  have c1 : w.cell? ⟨g, 1, none⟩ = some (.int .i64 k) := cell_of_row w g 1 _ _ _ hb
  have f1 : w.frozen? ⟨g, 1, none⟩ = false := by simp [World.frozen?, hb]
  have HB := Lib.hid hb
  clear hb
  by_cases hkl : k < l.length
  · obtain ⟨b, off, rfl, hb, hcc⟩ := hc (by omega)
    have d2 := hcc k hkl
    have m1 : l[k].tmod n < n := Int.tmod_lt_of_pos _ (by omega)
    have m2 : -n < l[k].tmod n := by have := Int.lt_tmod_of_pos l[k] (b := n) (by omega); omega
    clear hcc hc
    by_cases hx : l[k].tmod n < 0
    all_goals
      go_enter Tryz.func35, Tryz.ntmps35
      go_wp2_with fail
      go_quiet (fail)
      go_wp2_with fail
      go_quiet (fail)
      go_wp2
      go_ret
      exact ⟨_, rfl, by omega, by omega, SrcR.next (k := k) (by exact HB.out) hs hw hl hkl (by exact hgl), ((Fr.refl _ w).drewN _).setRow rfl _⟩
  · go_enter Tryz.func35, Tryz.ntmps35
    go_wp2_with fail
    go_quiet (fail)
    go_wp2
    go_ret
    exact ⟨0, rfl, by omega, by omega, h0.drewN _, (Fr.refl _ _).drewN _⟩
/-- One of some numbers. -/
def PickP (T : TypeId) (w : World) (g : Nat) (l : List Int) (e : Ending) (w' : World) : Prop :=
  ∃ x : Int, e = .returned (.int .i64 x) ∧ x ∈ l ∧ SrcR T w' g ∧ Fr (some g) w w'

theorem tapePick_any (v : Value) (l : List Int) (g : Nat) (w : World) (hl : SlI w (some g) v l) (h1 : 1 ≤ l.length) (h2 : l.length ≤ 1073741824) (h : SrcR 51 w g) :
    Calls Tryz.prog 36 #[.pointer (some ⟨g, 0, none⟩), v] w (PickP 51 w g l) := by
  obtain ⟨A, c, rfl, q1, q2, hc⟩ := hl.open_
  obtain ⟨b, off, rfl, hb, hbr, hcc⟩ := hc (by omega)
  clear hc
  go_enter Tryz.func36, Tryz.ntmps36
  go_wp2_with fail
  refine (tapeN_any _ _ _ (by omega) (by omega) h).mono ?_
  rintro e w' ⟨x, rfl, x1, x2, S, F⟩
  obtain ⟨k, rfl⟩ := Int.eq_ofNat_of_zero_le x1
  have hk : k < l.length := by omega
  have d := F.keep (hcc k hk) (by simpa using hbr)
  clear hcc
  go_wp2
  go_ret
  exact ⟨_, rfl, List.getElem_mem _, S, F⟩

/-- The numbers below n, in some order. -/
def OrderP (T : TypeId) (w : World) (g n : Nat) (e : Ending) (w' : World) : Prop :=
  ∃ (v : Value) (l : List Int), e = .returned v ∧ l.Perm (ints n) ∧ SlD w' (Dn w.heap.size w') 1 v (l.map (Value.int .i64)) ∧ SrcR T w' g ∧ Fr (some g) w w'

end Go.Proofs.YtkpgnhdmlikopaaGreatDoor

/- Walks: trustquorummake.Claim, Claims. -/
namespace Go.Proofs.YtkpgnhdmlikopaaGreatDoor
open Go.RowKit

theorem snoc_wc {l : List Cl} {x : Cl} (h : ∀ c ∈ l, Wc c) (hx : Wc x) : ∀ c ∈ l ++ [x], Wc c := fun y hy => by
  rcases List.mem_append.1 hy with hy | hy
  · exact h y hy
  · obtain rfl := List.mem_singleton.1 hy
    exact hx
/-- A claim out of the tape. -/
def OneC (w : World) (g : Nat) (e : Ending) (w' : World) : Prop := ∃ c : Cl, e = .returned (.agg #[.int .i64 c.1, .int .i64 c.2]) ∧ Wc c ∧ SrcR 51 w' g ∧ Fr (some g) w w'
/-- Claims out of the tape. -/
def SomeC (w : World) (g n : Nat) (e : Ending) (w' : World) : Prop := ∃ (v : Value) (l : List Cl), e = .returned v ∧ SlD w' (Dn w.heap.size w') 2 v (flC l) ∧ (∀ c ∈ l, Wc c) ∧ l.length ≤ n ∧ SrcR 51 w' g ∧ Fr (some g) w w'
set_option maxRecDepth 100000 in
set_option maxHeartbeats 1000000 in
theorem mkclm_any (g : Nat) (w : World) (S : SrcR 51 w g) : Calls Tryz.prog 8 #[.pointer (some ⟨g, 0, none⟩)] w (OneC w g) := by
  have hg := S.lt
  go_enter Tryz.func8, Tryz.ntmps8
  go_upto_region 1 with (fail)
  generalize hW : w.alloc _ = w1
  have F1 : Fr none w w1 := hW ▸ (Fr.refl none w).alloc _
  have b2 : CB2 w1 w.heap.size (.int .i64 0) (.int .i64 0) 24 := by rw [← hW]; exact blk_new _ _
  clear hW
  have S1 := S.fr F1
  have hz1 := blk_lt b2
  go_wp2_with fail
  refine (tapeN_any 30 g _ (by omega) (by omega) S1).mono ?_
  rintro e w2 ⟨x, rfl, x1, x2, S2, F2⟩
  have hz2 := F2.size
  by_cases hx : x = 29
  · subst hx
    go_wp2_with fail
    have hl1 : SlI (w2.alloc (.cells #[.int .i64 (-1), .int .i64 0, .int .i64 7, .int .i64 8] 3)) (some g) (.slice (some ⟨w2.heap.size, 0, none⟩) 4 4) [-1, 0, 7, 8] := ⟨SlD.lit_dm #[.int .i64 (-1), .int .i64 0, .int .i64 7, .int .i64 8] 3 4 1 rfl (by unfold maxLen; omega) (by simp; omega) (Fr.refl _ _), by intro x hx; simp at hx; constructor <;> omega⟩
    refine (tapePick_any _ [-1, 0, 7, 8] g _ hl1 (by simp) (by simp) (S2.fr ((Fr.refl none w2).alloc _))).mono ?_
    rintro e w4 ⟨a, rfl, ha, S4, F4⟩
    have F24 : Fr (some g) w2 w4 := ((Fr.refl (some g) w2).alloc _).same F4
    have hz4 := F24.size
    go_wp2_with fail
    have hl2 : SlI (w4.alloc (.cells #[.int .i64 (-1), .int .i64 0, .int .i64 15, .int .i64 16] 3)) (some g) (.slice (some ⟨w4.heap.size, 0, none⟩) 4 4) [-1, 0, 15, 16] := ⟨SlD.lit_dm #[.int .i64 (-1), .int .i64 0, .int .i64 15, .int .i64 16] 3 4 1 rfl (by unfold maxLen; omega) (by simp; omega) (Fr.refl _ _), by intro x hx; simp at hx; constructor <;> omega⟩
    refine (tapePick_any _ [-1, 0, 15, 16] g _ hl2 (by simp) (by simp) (S4.fr ((Fr.refl none w4).alloc _))).mono ?_
    rintro e w3 ⟨b, rfl, hb, S3, F3⟩
    have F43 : Fr (some g) w4 w3 := ((Fr.refl (some g) w4).alloc _).same F3
    have F03 : Fr (some g) w1 w3 := (F2.same F24).same F43
    clear F4 F3 F24 F43 hl1 hl2
    have hab : Wc (a, b) := by simp at ha hb; constructor <;> constructor <;> simp only <;> omega
    have HAB := Lib.hid hab
    clear ha hb hab
    have hgne : some g ≠ some w.heap.size := by simp; omega
    have bz := b2.fr F03 hgne
    obtain ⟨r1, r2⟩ := bz.cell
    obtain ⟨z1, z2⟩ := bz.free
    have lz := blk_lt bz
    go_wp2_with fail
    refine bodyPost_ret (v := .agg #[.int .i64 a, .int .i64 b]) (by simp [results, Tryz.results8, go_sem, r1, r2]) rfl ?_
    have FF := (Fr.set1 w3 ⟨w.heap.size, 0, none⟩ (.int .i64 a)).same (Fr.set1 _ ⟨w.heap.size, 1, none⟩ (.int .i64 b))
    exact ⟨(a, b), rfl, HAB.out, S3.frs FF (by simp; omega), (F1.mono.same F03).own FF (by simp)⟩
  · have hx0 : (x == 29) = false := by rw [beq_eq_false_iff_ne]; exact hx
    clear hx
    go_wp2_with fail
    refine (tapeN_any 3 g _ (by omega) (by omega) S2).mono ?_
    rintro e w4 ⟨a, rfl, a1, a2, S4, F4⟩
    go_wp2_with fail
    refine (tapeN_any 3 g _ (by omega) (by omega) S4).mono ?_
    rintro e w3 ⟨b, rfl, bb1, bb2, S3, F3⟩
    have F03 : Fr (some g) w1 w3 := (F2.same F4).same F3
    clear F4 F3
    have hab : Wc (a, b) := by constructor <;> constructor <;> simp only <;> omega
    have HAB := Lib.hid hab
    clear hab
    have hgne : some g ≠ some w.heap.size := by simp; omega
    have bz := b2.fr F03 hgne
    obtain ⟨r1, r2⟩ := bz.cell
    obtain ⟨z1, z2⟩ := bz.free
    have lz := blk_lt bz
    go_wp2_with fail
    refine bodyPost_ret (v := .agg #[.int .i64 a, .int .i64 b]) (by simp [results, Tryz.results8, go_sem, r1, r2]) rfl ?_
    have FF := (Fr.set1 w3 ⟨w.heap.size, 0, none⟩ (.int .i64 a)).same (Fr.set1 _ ⟨w.heap.size, 1, none⟩ (.int .i64 b))
    exact ⟨(a, b), rfl, HAB.out, S3.frs FF (by simp; omega), (F1.mono.same F03).own FF (by simp)⟩
set_option maxRecDepth 100000 in
set_option maxHeartbeats 1000000 in
theorem mkclms_any (g n : Nat) (w : World) (hn : n ≤ 100) (S : SrcR 51 w g) : Calls Tryz.prog 6 #[.pointer (some ⟨g, 0, none⟩), .int .i64 n] w (SomeC w g n) := by
  have hg := S.lt
  go_enter Tryz.func6, Tryz.ntmps6
  go_wp2_with fail
  refine (tapeN_any ((n : Int) + 1) g _ (by omega) (by omega) S).mono ?_
  rintro e w2 ⟨m, rfl, m1, m2, S2, F2⟩
  go_wp2_with fail
  go_loopw [5, 6] (fun s5 s6 wr => ∃ (k : Int) (l : List Cl) (A : Option Addr) (c : Nat), s6 = .int .i64 k ∧ 0 ≤ k ∧ s5 = .slice A l.length c ∧ (l.length : Int) + k ≤ n ∧ Hid (∀ c ∈ l, Wc c) ∧ SrcR 51 wr g ∧ Fr (some g) w wr ∧ wr.ownsRow w.heap.size 24 2 (.slice A l.length c) l.length (flC l)) (fun _ s6 _ => (intOf s6).toNat)
  case atStart => exact ⟨m, [], none, 0, rfl, by omega, rfl, by simp; omega, Lib.hid (by simp), S2, F2, World.ownsRow_nil _ _ _ _⟩
  case round =>
    clear S2 F2 m1 m2
    obtain ⟨k, l, A, c, rfl, hk, rfl, hlk, HL, S, F, own⟩ := hrel
    have hz := F.size
    by_cases hk0 : 0 < k
    · go_wp2_with fail
      refine (mkclm_any g _ S).mono ?_
      rintro e w3 ⟨x, rfl, hx, S3, F3⟩
      have HXx := Lib.hid hx
      clear hx
      have own3 := own_fr own F3 (by simp; omega)
      have og := own_blk_ge own3
      have hz3 := F3.size
      go_wp2_with (at_builtin; refine app_lit eiClm rfl _ _ rfl w.heap.size A l.length c _ rfl own3 1 [.int .i64 x.1, .int .i64 x.2] _ _ rfl (by simp) rfl (by simp [Value.oneCell']) (by omega) (by unfold maxLen; omega) (by omega) ?_; intro A' c' w' own' F' bl')
      have hln : (l ++ [x]).length = l.length + 1 := by simp
      go_roundw
      case rel => exact ⟨k - 1, l ++ [x], A', c', by go_num, by omega, by rw [hln], by rw [hln]; omega, Lib.hid (snoc_wc HL.out HXx.out), S3.frs F' (fun q e => by have := og q e; omega), (F.same F3).own F' og, by rw [hln, flC_snoc]; exact own'⟩
      case measure => simp [intOf]; omega
    · go_wp2_with fail
      go_ret
      exact ⟨_, l, rfl, SlD.own_dn own, HL.out, by omega, S, F⟩
end Go.Proofs.YtkpgnhdmlikopaaGreatDoor

/- Walks: mk.Ints (are two lists of ints the same). -/
namespace Go.Proofs.YtkpgnhdmlikopaaGreatDoor
open Go.RowKit

set_option maxRecDepth 100000 in
theorem ints_any (a b : List Int) (va vb : Value) (w : World) (ha : SlI w none va a) (hb : SlI w none vb b) :
    Calls Tryz.prog 29 #[va, vb] w fun e w' => e = .returned (.bool (decide (a = b))) ∧ Fr none w w' := by
  have HA := Lib.hid ha
  have HB := Lib.hid hb
  obtain ⟨A, c, rfl, q1, q2, hc⟩ := ha.open_
  obtain ⟨B, d, rfl, q3, q4, hd⟩ := hb.open_
  clear ha hb
  by_cases hl : a.length = b.length
  · have HL := Lib.hid hl
    obtain ⟨n, hn⟩ : ∃ n, n = a.length := ⟨_, rfl⟩
    have HN := Lib.hid hn
    have HN2 := Lib.hid (hn.trans hl)
    have hn2 : n = b.length := hn.trans hl
    have hc' : 0 < n → _ := fun h => hc (by omega)
    have hd' : 0 < n → _ := fun h => hd (by omega)
    rw [← hn] at HA q1 ⊢
    rw [← hn2] at HB q3 ⊢
    clear hl hn hn2 hc hd
    have hc := hc'
    have hd := hd'
    clear hc' hd'
    go_enter Tryz.func29, Tryz.ntmps29
    go_wp2_with fail
    go_loopw [13, 5, 15, 16, 17, 18, 19, 20, 21, 22, 23, 24, 14] (fun i s5 s15 s16 s17 s18 s19 s20 s21 s22 s23 s24 s14 wr => ∃ k : Nat, k ≤ n ∧ i = .int .i64 k ∧ Fr none w wr ∧ ∀ j (h1 : j < a.length) (h2 : j < b.length), j < k → a[j] = b[j]) (fun i _ _ _ _ _ _ _ _ _ _ _ _ _ => n - (intOf i).toNat)
    case atStart => exact ⟨0, Nat.zero_le _, rfl, Fr.refl _ _, fun j h1 h2 h => by omega⟩
    case round =>
      obtain ⟨k, hk, rfl, F, hall⟩ := hrel
      have HH := Lib.hid hall
      clear hall
      by_cases hlt : k < n
      · obtain ⟨b1, o1, rfl, hb1, hx1, hc1⟩ := hc (by omega)
        obtain ⟨b2, o2, rfl, hb2, hx2, hc2⟩ := hd (by omega)
        have k1 : k < a.length := by have := HN.out; omega
        have k2 : k < b.length := by have := HN2.out; omega
        have d1 : wr.cell? ⟨b1, o1 + k, none⟩ = some (.int .i64 a[k]) := F.keep (hc1 k k1) (by simp)
        have d2 : wr.cell? ⟨b2, o2 + k, none⟩ = some (.int .i64 b[k]) := F.keep (hc2 k k2) (by simp)
        clear hc hd hc1 hc2
        obtain ⟨x, hx⟩ : ∃ x, x = a[k] := ⟨_, rfl⟩
        obtain ⟨y, hy⟩ : ∃ y, y = b[k] := ⟨_, rfl⟩
        rw [← hx] at d1
        rw [← hy] at d2
        have HX := Lib.hid hx
        have HY := Lib.hid hy
        clear hx hy
        by_cases he : x = y
        · have HE := Lib.hid he
          subst he
          go_wp2_with fail
          go_quiet (fail)
          go_wp2_with fail
          go_roundw
          case rel => exact ⟨k + 1, by omega, by go_num, F.drewN _, fun j h1 h2 h => by
            by_cases e : j = k
            · subst e; rw [← HX.out, ← HY.out]
            · exact HH.out j h1 h2 (by omega)⟩
          case measure => simp [intOf]; omega
        · have hne : a ≠ b := fun h => by
            apply he
            rw [HX.out, HY.out]
            subst h
            rfl
          have HE := Lib.hid hne
          clear hne
          go_wp2_with fail
          go_quiet (fail)
          go_wp2_with fail
          go_ret
          exact ⟨ret_bool (by rw [decide_eq_false HE.out]), F.drewN _⟩
      · obtain rfl : k = n := by omega
        go_wp2_with fail
        go_ret
        refine ⟨ret_bool ?_, F⟩
        symm
        rw [decide_eq_true_eq]
        apply List.ext_getElem HL.out
        intro j h1 h2
        exact HH.out j h1 h2 (by rw [HN.out]; exact h1)
  · have hne : ¬ a = b := fun h => hl (by rw [h])
    have HE := Lib.hid hne
    clear hne
    have hl2 : ¬ ((a.length : Int) = (b.length : Int)) := by omega
    go_enter Tryz.func29, Tryz.ntmps29
    go_wp2_with fail
    go_ret
    exact ⟨ret_bool (by rw [decide_eq_false HE.out]), Fr.refl _ _⟩
end Go.Proofs.YtkpgnhdmlikopaaGreatDoor

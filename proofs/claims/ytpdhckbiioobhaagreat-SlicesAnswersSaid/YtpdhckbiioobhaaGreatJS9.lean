/- Some texts of this claim, joined: contracts of the functions that it reaches, and plain laws. -/
import Derived.Test.YtpdhckbiioobhaaGreatProg
import Derived.Test.YtpdhckbiioobhaaGreatJS2
import Derived.Test.YtpdhckbiioobhaaGreatJS5
import Derived.RegionTactic
import Derived.Test.YtpdhckbiioobhaaGreatJS1
import Derived.Test.YtpdhckbiioobhaaGreatJS4
import Derived.Test.YtpdhckbiioobhaaGreatJS6

set_option linter.unusedSimpArgs false
set_option linter.unusedVariables false
/- Walks: the tape trustquorummake.Tape: New, N, Range, Pick, Order. -/
namespace Go.Proofs.YtpdhckbiioobhaaGreat
open Go.RowKit

abbrev TapeT : TypeId := 49

theorem tapeNew_any (v : Value) (l : List Int) (w : World) (h : SlI w none v l) :
    Calls Tryz.prog 5 #[v] w (NewP 49 w) := by
  have h0 := h
  obtain ⟨A, c, rfl, q1, q2, hc⟩ := h.open_
  by_cases hl : l.length ≤ 400
  · go_enter Tryz.func5, Tryz.ntmps5
    go_wp2
    go_ret
    exact ⟨_, rfl, Nat.le_refl _, SrcR.made h0 (by omega), (Fr.refl _ _).alloc _⟩
  · go_enter Tryz.func5, Tryz.ntmps5
    go_wp2
    all_goals first | (exfalso; omega) | skip
    go_ret
    exact ⟨_, rfl, Nat.le_refl _, SrcR.made (h0.take 400 (by omega)) (by have := List.length_take_le 400 l; omega), (Fr.refl _ _).alloc _⟩

theorem tapeN_any (n : Int) (g : Nat) (w : World) (hn0 : 1 ≤ n) (hn : n ≤ 4294967296) (h : SrcR 49 w g) :
    Calls Tryz.prog 27 #[.pointer (some ⟨g, 0, none⟩), .int .i64 n] w (NumP 49 w g 0 (n - 1)) := by
  have h0 := h
  have hgl := h.lt
  obtain ⟨A, c, l, k, hb, hs, hw, hl, hk, q1, q2, hc⟩ := h.open_
  have c0 : w.cell? ⟨g, 0, none⟩ = some (.slice A l.length c) := cell_of_row w g 0 _ _ _ hb
  have c1 : w.cell? ⟨g, 1, none⟩ = some (.int .i64 k) := cell_of_row w g 1 _ _ _ hb
  have f1 : w.frozen? ⟨g, 1, none⟩ = false := by simp [World.frozen?, hb]
  have HB := Lib.hid hb
  clear hb
  by_cases hkl : k < l.length
  · obtain ⟨b, off, rfl, hb, hcc⟩ := hc (by omega)
    have d2 := hcc k hkl
    have m1 : l[k].tmod n < n := Int.tmod_lt_of_pos _ (by omega)
    have m2 : -n < l[k].tmod n := by have := Int.lt_tmod_of_pos l[k] (b := n) (by omega); omega
    clear hcc hc
    by_cases hx : l[k].tmod n < 0
    all_goals
      go_enter Tryz.func27, Tryz.ntmps27
      go_wp2_with fail
      go_quiet (fail)
      go_wp2_with fail
      go_quiet (fail)
      go_wp2
      go_ret
      exact ⟨_, rfl, by omega, by omega, SrcR.next (k := k) (by exact HB.out) hs hw hl hkl (by exact hgl), ((Fr.refl _ w).drewN _).setRow rfl _⟩
  · go_enter Tryz.func27, Tryz.ntmps27
    go_wp2_with fail
    go_quiet (fail)
    go_wp2
    go_ret
    exact ⟨0, rfl, by omega, by omega, h0.drewN _, (Fr.refl _ _).drewN _⟩
theorem tapeRange_any (lo hi : Int) (g : Nat) (w : World) (h1 : -1073741824 ≤ lo) (h2 : lo ≤ hi) (h4 : hi ≤ 1073741824) (h : SrcR 49 w g) :
    Calls Tryz.prog 7 #[.pointer (some ⟨g, 0, none⟩), .int .i64 lo, .int .i64 hi] w (NumP 49 w g lo hi) := by
  go_enter Tryz.func7, Tryz.ntmps7
  go_wp2_with fail
  refine (tapeN_any _ _ _ (by omega) (by omega) h).mono ?_
  rintro e w' ⟨x, rfl, x1, x2, S, F⟩
  go_wp2
  go_ret
  exact ⟨_, rfl, by omega, by omega, S, F⟩

/-- One of some numbers. -/
def PickP (T : TypeId) (w : World) (g : Nat) (l : List Int) (e : Ending) (w' : World) : Prop :=
  ∃ x : Int, e = .returned (.int .i64 x) ∧ x ∈ l ∧ SrcR T w' g ∧ Fr (some g) w w'

theorem tapePick_any (v : Value) (l : List Int) (g : Nat) (w : World) (hl : SlI w (some g) v l) (h1 : 1 ≤ l.length) (h2 : l.length ≤ 1073741824) (h : SrcR 49 w g) :
    Calls Tryz.prog 24 #[.pointer (some ⟨g, 0, none⟩), v] w (PickP 49 w g l) := by
  obtain ⟨A, c, rfl, q1, q2, hc⟩ := hl.open_
  obtain ⟨b, off, rfl, hb, hbr, hcc⟩ := hc (by omega)
  clear hc
  go_enter Tryz.func24, Tryz.ntmps24
  go_wp2_with fail
  refine (tapeN_any _ _ _ (by omega) (by omega) h).mono ?_
  rintro e w' ⟨x, rfl, x1, x2, S, F⟩
  obtain ⟨k, rfl⟩ := Int.eq_ofNat_of_zero_le x1
  have hk : k < l.length := by omega
  have d := F.keep (hcc k hk) (by simpa using hbr)
  clear hcc
  go_wp2
  go_ret
  exact ⟨_, rfl, List.getElem_mem _, S, F⟩

/-- The numbers below n, in some order. -/
def OrderP (T : TypeId) (w : World) (g n : Nat) (e : Ending) (w' : World) : Prop :=
  ∃ (v : Value) (l : List Int), e = .returned v ∧ l.Perm (ints n) ∧ SlD w' (Dn w.heap.size w') 1 v (l.map (Value.int .i64)) ∧ SrcR T w' g ∧ Fr (some g) w w'

set_option maxRecDepth 100000 in
set_option maxHeartbeats 1000000 in
theorem tapeOrder_any (n g : Nat) (w : World) (hn : n ≤ 1073741824) (h : SrcR 49 w g) :
    Calls Tryz.prog 71 #[.pointer (some ⟨g, 0, none⟩), .int .i64 n] w (OrderP 49 w g n) := by
  have hg := h.lt
  go_enter Tryz.func71, Tryz.ntmps71
  go_wp2_with fail
  go_loopw [5, 6] (fun v i wr => ∃ (j : Nat) (A : Option Addr) (c : Nat), j ≤ n ∧ i = .int .i64 j ∧ v = .slice A j c ∧ Fr none w wr ∧ wr.ownsRow w.heap.size 3 1 (.slice A j c) j ((ints j).map (Value.int .i64))) (fun _ i _ => n - (intOf i).toNat)
  case atStart => exact ⟨0, none, 0, Nat.zero_le _, rfl, rfl, Fr.refl _ _, World.ownsRow_nil _ _ _ _⟩
  case round =>
    obtain ⟨j, A, c, hj, rfl, rfl, F, own⟩ := hrel
    have hz := F.size
    by_cases hlt : j < n
    · go_wp2_with (at_builtin; refine app_lit eiInt rfl _ _ rfl w.heap.size A j c _ rfl own 1 [.int .i64 j] _ _ rfl (by simp) rfl (by simp [Value.oneCell']) (by omega) (by unfold maxLen; omega) (by omega) ?_; intro A' c' w' own' F' bl')
      have og := own_blk_ge own
      go_roundw
      case rel => exact ⟨j + 1, A', c', by omega, by go_num, rfl, F.own F' og, by rw [ints_succ, List.map_append]; exact own'⟩
      case measure => simp [intOf]; omega
    · obtain rfl : j = n := by omega
      go_wp2_with fail
      obtain ⟨wo, rfl⟩ : ∃ wo : World, wo = wr := ⟨_, rfl⟩
      have hz1 := F.size
      go_loopw [7] (fun s7 wl => ∃ (i : Int) (l : List Int), s7 = .int .i64 i ∧ -1 ≤ i ∧ i < j ∧ l.Perm (ints j) ∧ Fr (some g) w wl ∧ SrcR 49 wl g ∧ wl.ownsRow w.heap.size 3 1 (.slice A j c) j (l.map (Value.int .i64))) (fun s7 _ => (intOf s7).toNat)
      case atStart => exact ⟨_, _, rfl, by omega, by omega, List.Perm.refl _, F.mono, h.fr F, own⟩
      case round =>
        clear own F hz1 hz
        obtain ⟨i, l, rfl, hi1, hi2, hp, F, S, own⟩ := hrel
        have hll : l.length = j := by rw [hp.length_eq, ints_len]
        have HLL := Lib.hid hll
        have hz := F.size
        by_cases hi : 0 < i
        · obtain ⟨m, rfl⟩ := Int.eq_ofNat_of_zero_le (show 0 ≤ i by omega)
          obtain ⟨gb, hA⟩ : ∃ gb, A = some ⟨gb, 0, none⟩ := by
            rcases own.2 with ⟨_, h0⟩ | ⟨gb, cap, cur, hv, _⟩
            · omega
            · injection hv with hv
              exact ⟨gb, hv⟩
          subst hA
          have hgb := own_blk_ge own gb rfl
          clear hll
          go_wp2_with fail
          refine (tapeN_any _ g _ (by omega) (by omega) S).mono ?_
          rintro e w2 ⟨x, rfl, x1, x2, S2, F2⟩
          obtain ⟨k, rfl⟩ := Int.eq_ofNat_of_zero_le x1
          have own2 := own_fr own F2 (by simp; omega)
          have hz2 := F2.size
          have hml : m < l.length := by have := HLL.out; omega
          have hkl : k < l.length := by have := HLL.out; omega
          have ci : w2.cell? ⟨gb, m, none⟩ = some (.int .i64 l[m]) := by rw [own2.cellAt m (by omega)]; simp [hml]
          have ck : w2.cell? ⟨gb, k, none⟩ = some (.int .i64 l[k]) := by rw [own2.cellAt k (by omega)]; simp [hkl]
          have zi := own2.frozenAt m
          have zk := own2.frozenAt k
          have o3 := (own2.drew.stored m (.int .i64 l[k])).1
          have o4 := (o3.stored k (.int .i64 l[m])).1
          have hset : ((l.map (Value.int .i64)).set m (.int .i64 l[k])).set k (.int .i64 l[m]) = ((l.set m l[k]).set k l[m]).map (Value.int .i64) := by rw [List.map_set, List.map_set]
          have hpp : ((l.set m l[k]).set k l[m]).Perm (ints j) := (List.set_set_perm hml hkl).trans hp
          have F4 : Fr (some g) w ((w2.drew.setCell ⟨gb, m, none⟩ (.int .i64 l[k])).setCell ⟨gb, k, none⟩ (.int .i64 l[m])) := (((F.same F2).drew).setNew (by simpa using hgb) _).setNew (by simpa using hgb) _
          have S4 : SrcR 49 ((w2.drew.setCell ⟨gb, m, none⟩ (.int .i64 l[k])).setCell ⟨gb, k, none⟩ (.int .i64 l[m])) g := (S2.drew.frs (Fr.set1 _ _ _) (by simp; omega)).frs (Fr.set1 _ _ _) (by simp; omega)
          have HO := Lib.hid o4
          have HS := Lib.hid hset
          clear o3 o4 hset
          by_cases hkm : k = m
          · subst hkm
            go_wp2_with fail
            go_region
            go_wp2_with fail
            go_roundw
            case rel =>
              refine ⟨(k : Int) - 1, (l.set k l[k]).set k l[k], by go_num, by omega, by omega, hpp, F4, S4, ?_⟩
              rw [← HS.out]; exact HO.out
            case measure => simp [intOf]; omega
          · go_wp2_with fail
            go_region
            go_wp2_with fail
            go_roundw
            case rel =>
              refine ⟨(m : Int) - 1, (l.set m l[k]).set k l[m], by go_num, by omega, by omega, hpp, F4, S4, ?_⟩
              rw [← HS.out]; exact HO.out
            case measure => simp [intOf]; omega
        · go_wp2_with fail
          go_ret
          exact ⟨_, l, rfl, hp, SlD.own_dn own, S, F⟩
end Go.Proofs.YtpdhckbiioobhaaGreat

/- Walks: mk.Sets (up to n sets of nodes below m), mk.In. -/
namespace Go.Proofs.YtpdhckbiioobhaaGreat
open Go.RowKit

/-- Up to n sets of nodes below m. -/
def SetsP (T : TypeId) (w : World) (g n m : Nat) (e : Ending) (w' : World) : Prop :=
  ∃ (v : Value) (l : List Int), e = .returned v ∧ l.length ≤ n ∧ Bel m l ∧ SlD w' (Dn w.heap.size w') 1 v (l.map (Value.int .i64)) ∧ SrcR T w' g ∧ Fr (some g) w w'
theorem bel_wi {m : Nat} (hm : m ≤ 10) {l : List Int} (h : Bel m l) : ∀ x ∈ l, Wi x := fun x hx => by
  obtain ⟨a, rfl, ha⟩ := h x hx
  have := Bel.le hm ha
  unfold Wi; omega

/-- The same, the row as one's own. -/
def SetsO (T : TypeId) (w : World) (g n m : Nat) (e : Ending) (w' : World) : Prop :=
  ∃ (l : List Int) (A : Option Addr) (c : Nat), e = .returned (.slice A l.length c) ∧ l.length ≤ n ∧ Bel m l ∧ w'.ownsRow w.heap.size 3 1 (.slice A l.length c) l.length (l.map (Value.int .i64)) ∧ SrcR T w' g ∧ Fr (some g) w w'
set_option maxRecDepth 100000 in
theorem setsO_any (n m g : Nat) (w : World) (hn : n ≤ 1024) (hm : m ≤ 10) (h : SrcR 49 w g) :
    Calls Tryz.prog 6 #[.pointer (some ⟨g, 0, none⟩), .int .i64 n, .int .i64 m] w (SetsO 49 w g n m) := by
  have hg := h.lt
  have hw2 : wrap64 (2 ^ m) = ((2 ^ m : Nat) : Int) := wrap_pow m (by omega)
  have hp := p10 m hm
  have hp0 := Nat.two_pow_pos m
  obtain ⟨N2, hN2⟩ : ∃ x, x = 2 ^ m := ⟨_, rfl⟩
  rw [← hN2] at hw2 hp hp0
  have HW := Lib.hid hw2
  have HN := Lib.hid hN2
  clear hw2 hN2
  go_enter Tryz.func6, Tryz.ntmps6
  go_wp2_with fail
  refine (tapeN_any _ g _ (by omega) (by omega) h).mono ?_
  rintro e w1 ⟨x, rfl, x1, x2, S1, F1⟩
  obtain ⟨k0, rfl⟩ := Int.eq_ofNat_of_zero_le x1
  go_wp2_with fail
  go_loopw [7, 8] (fun v i wr => ∃ (j : Nat) (l : List Int) (A : Option Addr) (c : Nat), j + l.length ≤ n ∧ i = .int .i64 j ∧ v = .slice A l.length c ∧ Hid (Bel m l) ∧ Fr (some g) w wr ∧ SrcR 49 wr g ∧ wr.ownsRow w.heap.size 3 1 (.slice A l.length c) l.length (l.map (Value.int .i64))) (fun _ i _ => (intOf i).toNat)
  case atStart => exact ⟨k0, [], none, 0, by simp; omega, rfl, rfl, Lib.hid (fun x hx => by cases hx), F1, S1, World.ownsRow_nil _ _ _ _⟩
  case round =>
    obtain ⟨j, l, A, c, hj, rfl, rfl, HB, F, S, own⟩ := hrel
    have hz := F.size
    by_cases hlt : 0 < j
    · go_wp2_with (first | (go_at_call 27; refine (tapeN_any _ g _ (by rw [HW.out]; omega) (by rw [HW.out]; omega) S).mono ?_; rintro e w2 ⟨y, rfl, y1, y2, S2, F2⟩; rw [HW.out] at y2; obtain ⟨b, rfl⟩ := Int.eq_ofNat_of_zero_le y1; have own2 := own_fr own F2 (by simp; omega); have hz2 := F2.size) | (at_builtin; refine app_lit eiInt rfl _ _ rfl w.heap.size A l.length c _ rfl own2 1 [.int .i64 b] _ _ rfl (by simp) rfl (by simp [Value.oneCell']) (by omega) (by unfold maxLen; omega) (by omega) ?_; intro A' c' w' own' F' bl'))
      have og := own_blk_ge own2
      go_roundw
      case rel => exact ⟨j - 1, l ++ [(b : Int)], A', c', by simp; omega, by go_num, by simp, Lib.hid (fun x hx => by
        rcases List.mem_append.1 hx with hx | hx
        · exact HB.out x hx
        · exact ⟨b, by simpa using hx, by rw [← HN.out]; omega⟩), (F.same F2).own F' og, S2.frs F' (fun q hq => by have := og q hq; omega), by simpa using own'⟩
      case measure => simp [intOf]; omega
    · obtain rfl : j = 0 := by omega
      go_wp2_with fail
      go_ret
      exact ⟨l, A, c, rfl, by omega, HB.out, own, S, F⟩
theorem sets_any (n m g : Nat) (w : World) (hn : n ≤ 1024) (hm : m ≤ 10) (h : SrcR 49 w g) :
    Calls Tryz.prog 6 #[.pointer (some ⟨g, 0, none⟩), .int .i64 n, .int .i64 m] w (SetsP 49 w g n m) :=
  (setsO_any n m g w hn hm h).mono fun e w' ⟨l, A, c, he, h1, h2, own, S, F⟩ => ⟨_, l, he, h1, h2, SlD.own_dn own, S, F⟩

end Go.Proofs.YtpdhckbiioobhaaGreat

/- Walks: mk.Ints (are two lists of ints the same). -/
namespace Go.Proofs.YtpdhckbiioobhaaGreat
open Go.RowKit

set_option maxRecDepth 100000 in
theorem ints_any (a b : List Int) (va vb : Value) (w : World) (ha : SlI w none va a) (hb : SlI w none vb b) :
    Calls Tryz.prog 13 #[va, vb] w fun e w' => e = .returned (.bool (decide (a = b))) ∧ Fr none w w' := by
  have HA := Lib.hid ha
  have HB := Lib.hid hb
  obtain ⟨A, c, rfl, q1, q2, hc⟩ := ha.open_
  obtain ⟨B, d, rfl, q3, q4, hd⟩ := hb.open_
  clear ha hb
  by_cases hl : a.length = b.length
  · have HL := Lib.hid hl
    obtain ⟨n, hn⟩ : ∃ n, n = a.length := ⟨_, rfl⟩
    have HN := Lib.hid hn
    have HN2 := Lib.hid (hn.trans hl)
    have hn2 : n = b.length := hn.trans hl
    have hc' : 0 < n → _ := fun h => hc (by omega)
    have hd' : 0 < n → _ := fun h => hd (by omega)
    rw [← hn] at HA q1 ⊢
    rw [← hn2] at HB q3 ⊢
    clear hl hn hn2 hc hd
    have hc := hc'
    have hd := hd'
    clear hc' hd'
    go_enter Tryz.func13, Tryz.ntmps13
    go_wp2_with fail
    go_loopw [13, 5, 15, 16, 17, 18, 19, 20, 21, 22, 23, 24, 14] (fun i s5 s15 s16 s17 s18 s19 s20 s21 s22 s23 s24 s14 wr => ∃ k : Nat, k ≤ n ∧ i = .int .i64 k ∧ Fr none w wr ∧ ∀ j (h1 : j < a.length) (h2 : j < b.length), j < k → a[j] = b[j]) (fun i _ _ _ _ _ _ _ _ _ _ _ _ _ => n - (intOf i).toNat)
    case atStart => exact ⟨0, Nat.zero_le _, rfl, Fr.refl _ _, fun j h1 h2 h => by omega⟩
    case round =>
      obtain ⟨k, hk, rfl, F, hall⟩ := hrel
      have HH := Lib.hid hall
      clear hall
      by_cases hlt : k < n
      · obtain ⟨b1, o1, rfl, hb1, hx1, hc1⟩ := hc (by omega)
        obtain ⟨b2, o2, rfl, hb2, hx2, hc2⟩ := hd (by omega)
        have k1 : k < a.length := by have := HN.out; omega
        have k2 : k < b.length := by have := HN2.out; omega
        have d1 : wr.cell? ⟨b1, o1 + k, none⟩ = some (.int .i64 a[k]) := F.keep (hc1 k k1) (by simp)
        have d2 : wr.cell? ⟨b2, o2 + k, none⟩ = some (.int .i64 b[k]) := F.keep (hc2 k k2) (by simp)
        clear hc hd hc1 hc2
        obtain ⟨x, hx⟩ : ∃ x, x = a[k] := ⟨_, rfl⟩
        obtain ⟨y, hy⟩ : ∃ y, y = b[k] := ⟨_, rfl⟩
        rw [← hx] at d1
        rw [← hy] at d2
        have HX := Lib.hid hx
        have HY := Lib.hid hy
        clear hx hy
        by_cases he : x = y
        · have HE := Lib.hid he
          subst he
          go_wp2_with fail
          go_quiet (fail)
          go_wp2_with fail
          go_roundw
          case rel => exact ⟨k + 1, by omega, by go_num, F.drewN _, fun j h1 h2 h => by
            by_cases e : j = k
            · subst e; rw [← HX.out, ← HY.out]
            · exact HH.out j h1 h2 (by omega)⟩
          case measure => simp [intOf]; omega
        · have hne : a ≠ b := fun h => by
            apply he
            rw [HX.out, HY.out]
            subst h
            rfl
          have HE := Lib.hid hne
          clear hne
          go_wp2_with fail
          go_quiet (fail)
          go_wp2_with fail
          go_ret
          exact ⟨ret_bool (by rw [decide_eq_false HE.out]), F.drewN _⟩
      · obtain rfl : k = n := by omega
        go_wp2_with fail
        go_ret
        refine ⟨ret_bool ?_, F⟩
        symm
        rw [decide_eq_true_eq]
        apply List.ext_getElem HL.out
        intro j h1 h2
        exact HH.out j h1 h2 (by rw [HN.out]; exact h1)
  · have hne : ¬ a = b := fun h => hl (by rw [h])
    have HE := Lib.hid hne
    clear hne
    have hl2 : ¬ ((a.length : Int) = (b.length : Int)) := by omega
    go_enter Tryz.func13, Tryz.ntmps13
    go_wp2_with fail
    go_ret
    exact ⟨ret_bool (by rw [decide_eq_false HE.out]), Fr.refl _ _⟩
end Go.Proofs.YtpdhckbiioobhaaGreat

/- Walks: trustquorummake.trust, Trust: trusts out of the tape. -/
namespace Go.Proofs.YtpdhckbiioobhaaGreat
open Go.RowKit

/-- What trust(t, n, d) makes. -/
def MadeP (w : World) (g n d : Nat) (e : Ending) (w' : World) : Prop :=
  ∃ v T, e = .returned v ∧ TrD w' (Dn w.heap.size w') v T ∧ T.dep ≤ d ∧ T.size ≤ sizeB d ∧ nodesIn n T ∧ SrcR 49 w' g ∧ Fr (some g) w w'

/-- The state of the trust that is being made, between the statements. -/
def Mid (w : World) (g n d : Nat) (A : Option Addr) (c : Nat) (l : List Int) (A2 : Option Addr) (c2 : Nat) (inner : List Tr) (wr : World) : Prop :=
  Fr (some g) w wr ∧ w.heap.size + 2 ≤ wr.heap.size ∧ SrcR 49 wr g ∧ TB wr w.heap.size (.int .i64 0) (.slice none 0 0) (.slice none 0 0) ∧
    TB wr (w.heap.size + 1) (.int .i64 0) (.slice A l.length c) (.slice A2 inner.length c2) ∧ SlD wr (Dn (w.heap.size + 2) wr) 1 (.slice A l.length c) (l.map (Value.int .i64)) ∧
    (∀ x ∈ l, 0 ≤ x ∧ x < (n : Int)) ∧ l.length ≤ 5 ∧
    (∃ cells, SlD wr (Dn (w.heap.size + 2) wr) 3 (.slice A2 inner.length c2) cells ∧ TrsD wr (Dn (w.heap.size + 2) wr) cells inner) ∧ (l ≠ [] ∨ inner ≠ []) ∧
    inner.length ≤ 3 ∧ depL inner ≤ d ∧ sizeL inner ≤ inner.length * sizeB d ∧ nodesInL n inner

set_option maxRecDepth 100000 in
set_option maxHeartbeats 800000 in
theorem mktrust_any (n : Nat) (hn1 : 1 ≤ n) (hn2 : n ≤ 100) (d : Nat) : ∀ (g : Nat) (w : World), 1 ≤ d → d ≤ 6 → SrcR 49 w g →
    Calls Tryz.prog 38 #[.pointer (some ⟨g, 0, none⟩), .int .i64 n, .int .i64 d] w (MadeP w g n d) := by
  induction d with
  | zero => intro g w h; omega
  | succ d ih =>
    intro g w _ hd6 S0
    have hg := S0.lt
    go_enter Tryz.func38, Tryz.ntmps38
    go_wp2_with fail
    generalize hW : (w.alloc _).alloc _ = w1
    have hz : w1.heap.size = w.heap.size + 2 := by rw [← hW]; simp
    have F1 : Fr none w w1 := hW ▸ ((Fr.refl _ w).alloc _).alloc _
    have b6 : TB w1 w.heap.size (.int .i64 0) (.slice none 0 0) (.slice none 0 0) := by
      rw [← hW]; exact (Below.heap_alloc _ _ _ (by simp)).trans (blk_new _ _)
    have b7 : TB w1 (w.heap.size + 1) (.int .i64 0) (.slice none 0 0) (.slice none 0 0) := by
      rw [← hW]; exact blk_new_at (by simp) _
    have S1 := S0.fr F1
    clear hW S0
    refine (tapeOrder_any n g _ (by omega) S1).mono ?_
    rintro e w2 ⟨ov, ol, rfl, hperm, hol, S2, F2⟩
    have hz2 := F2.size
    have b6 := b6.fr F2 (by simp; omega)
    have b7 := b7.fr F2 (by simp; omega)
    have F2 := (F1.mono (r := some g)).same F2
    clear S1 F1
    obtain ⟨A0, c0, rfl, p1, p2⟩ := hol.formI
    have hlen : ol.length = n := by rw [hperm.length_eq, ints_len]
    have HLEN := Lib.hid hlen
    have hrange : ∀ x ∈ ol, 0 ≤ x ∧ x < (n : Int) := fun x hx => by
      have := hperm.mem_iff.1 hx
      simp only [ints, List.mem_map, List.mem_range] at this
      obtain ⟨y, hy, rfl⟩ := this
      constructor <;> simp <;> omega
    clear hlen
    go_upto_region 3 with (fail)
    go_cut [8, 20, 21, 22] (fun _ s20 s21 s22 wr => ∃ (ks : List Int) (A : Option Addr) (c : Nat), s20 = .slice A ks.length c ∧ s21 = .int .i64 (ks.length : Nat) ∧ s22 = .int .i64 0 ∧ SlD wr (Dn (w.heap.size + 2) wr) 1 (.slice A ks.length c) (ks.map (Value.int .i64)) ∧ ks ≠ [] ∧ ks.length ≤ 5 ∧ (∀ x ∈ ks, 0 ≤ x ∧ x < (n : Int)) ∧
      Fr (some g) w wr ∧ w.heap.size + 2 ≤ wr.heap.size ∧ SrcR 49 wr g ∧ TB wr w.heap.size (.int .i64 0) (.slice none 0 0) (.slice none 0 0) ∧ TB wr (w.heap.size + 1) (.int .i64 0) (.slice none 0 0) (.slice none 0 0))
    case first =>
      go_wp2_with fail
      all_goals
        refine (tapeRange_any _ _ g _ (by omega) (by omega) (by omega) S2).mono ?_
        rintro e w3 ⟨x, rfl, x1, x2, S3, F3⟩
        obtain ⟨k, rfl⟩ := Int.eq_ofNat_of_zero_le (show 0 ≤ x by omega)
        have hz3 := F3.size
        have hkn : k ≤ ol.length := by have := HLEN.out; omega
        go_wp2_with fail
        go_meet
        have hk := (hol.keep (dn_mono (B := w.heap.size + 2) (by omega))).keep (dn_fr F3 (by simp; omega))
        have hkt := hk.take k hkn
        have hlt : (ol.take k).length = k := List.length_take_of_le hkn
        refine ⟨ol.take k, A0, c0, by rw [hlt], by rw [hlt], rfl, by rw [hlt]; simpa using hkt, fun h => by rw [h] at hlt; simp at hlt; omega, by rw [hlt]; omega, fun x hx => hrange x (List.mem_of_mem_take hx), F2.same F3, by omega, S3, b6.fr F3 (by simp; omega), b7.fr F3 (by simp; omega)⟩
    case rest =>
      clear b6 b7 S2 F2 hz2 hol hrange HLEN p1 p2 hperm ol A0 c0 hz
      obtain ⟨ks, A, c, rfl, rfl, rfl, hks, hkn, hk5, hkr, F, hs, S, K6, K7⟩ := hcut
      go_wp2_with fail
      have hks0 : SlD wc (fun b => w.heap.size + 2 ≤ b ∧ b < wc.heap.size) 1 (.slice A ks.length c) (ks.map (Value.int .i64)) := hks
      clear hks
      go_loopw [22] (fun i wr => ∃ (j : Nat) (A1 : Option Addr) (c1 : Nat), j ≤ ks.length ∧ i = .int .i64 j ∧ Fr (some g) w wr ∧ wc.heap.size ≤ wr.heap.size ∧ SrcR 49 wr g ∧ TB wr w.heap.size (.int .i64 0) (.slice none 0 0) (.slice none 0 0) ∧ TB wr (w.heap.size + 1) (.int .i64 0) (.slice A1 j c1) (.slice none 0 0) ∧
        wr.ownsRow wc.heap.size 3 1 (.slice A1 j c1) j ((ks.take j).map (Value.int .i64)) ∧ SlD wr (fun b => w.heap.size + 2 ≤ b ∧ b < wc.heap.size) 1 (.slice A ks.length c) (ks.map (Value.int .i64))) (fun i _ => ks.length - (intOf i).toNat)
      case atStart => exact ⟨0, none, 0, Nat.zero_le _, rfl, F, Nat.le_refl _, S, K6, K7, World.ownsRow_nil _ _ _ _, hks0⟩
      case round =>
        clear hks0 K6 K7 S F
        obtain ⟨j, A1, c1, hj, rfl, F, hs2, S, K6, K7, own, hks⟩ := hrel
        by_cases hlt : j < ks.length
        · obtain ⟨b, off, rfl, hb, hcj⟩ := hks.cellI j hlt
          have HT : Hid (ks.take (j + 1) = ks.take j ++ [ks[j]]) := List.take_succ_eq_append_getElem hlt
          have R7 := K7.cell
          have Z7 := K7.free
          go_wp2_with (at_builtin; refine app_lit eiInt rfl _ _ rfl wc.heap.size A1 j c1 _ rfl own 1 [.int .i64 ks[j]] _ _ rfl (by simp) rfl (by simp [Value.oneCell']) (by omega) (by unfold maxLen; omega) (by omega) ?_; intro A' c' w' own' F' bl'; have K7' := K7.fr F' (own_ne own (by omega)); have K6' := K6.fr F' (own_ne own (by omega)); have R7' := K7'.cell; have Z7' := K7'.free; have hz3 := F'.size; clear R7 Z7)
          have FS := Fr.set1 w' ⟨w.heap.size + 1, 1, none⟩ (.slice A' (j + 1) c')
          have og := own_blk_ge own
          go_roundw
          case rel =>
            refine ⟨j + 1, A', c', by omega, by go_num, (F.own F' (fun g e => by have := og g e; omega)).own FS (by simp), by have := FS.size; omega, (S.frs F' (fun b e => by have := og b e; omega)).frs FS (by simp; omega), K6'.fr FS (by simp), ?_, ?_, ?_⟩
            · simpa using K7'.set1 (.slice A' (j + 1) c')
            · rw [HT.out, List.map_append]; exact own_fr own' FS (by simp; omega)
            · exact (hks.keep (fun k hk => ⟨hk, F'.block k (by omega) (fun e => by have := og k e.symm; omega)⟩)).keep (fun k hk => ⟨hk, FS.block k (by omega) (by simp; omega)⟩)
          case measure => simp [intOf]; omega
        · obtain rfl : j = ks.length := by omega
          have hks' : SlD wr (Dn (w.heap.size + 2) wr) 1 (.slice A1 ks.length c1) (ks.map (Value.int .i64)) := by
            have := SlD.own_dn own
            rw [List.take_length] at this
            exact this.keep (dn_mono (by omega))
          clear own hks
          obtain ⟨wo, rfl⟩ : ∃ wo : World, wo = wr := ⟨_, rfl⟩
          go_upto_if 34 with (fail)
          go_cut [] (fun wr => ∃ (l : List Int) (A : Option Addr) (c : Nat) (A2 : Option Addr) (c2 : Nat) (inner : List Tr), Mid w g n d A c l A2 c2 inner wr)
          case first =>
            have hM : Mid w g n d A1 c1 ks none 0 [] wo := ⟨F, by omega, S, K6, K7, hks', hkr, hk5, ⟨[], SlD.nil _ _ _, by simp [TrsD]⟩, .inl hkn, by simp, by simp [depL], by simp [sizeL], by simp [nodesInL]⟩
            by_cases hd : d = 0
            · subst hd
              go_wp2_with fail
              go_meet
              exact ⟨ks, A1, c1, none, 0, [], hM⟩
            · clear hM
              go_wp2_with fail
              have FA := (Fr.refl none wo).alloc (.cells #[.int .i64 0, .int .i64 0, .int .i64 1, .int .i64 1, .int .i64 2, .int .i64 3] 3)
              have hlit : SlI (wo.alloc (.cells #[.int .i64 0, .int .i64 0, .int .i64 1, .int .i64 1, .int .i64 2, .int .i64 3] 3)) (some g) (.slice (some ⟨wo.heap.size, 0, none⟩) 6 6) [0, 0, 1, 1, 2, 3] :=
                ⟨SlD.lit_dm #[.int .i64 0, .int .i64 0, .int .i64 1, .int .i64 1, .int .i64 2, .int .i64 3] 3 6 1 rfl (by unfold maxLen; omega) (by simp; omega) (Fr.refl _ _), by intro x hx; simp at hx; constructor <;> omega⟩
              refine (tapePick_any _ [0, 0, 1, 1, 2, 3] g _ hlit (by simp) (by simp) (S.fr FA)).mono ?_
              rintro e wp ⟨x, rfl, hx, Sp, Fp⟩
              have hx0 : 0 ≤ x ∧ x ≤ 3 := by simp at hx; omega
              have FAp : Fr (some g) wo wp := FA.mono.same Fp
              have hzp := FAp.size
              have Kp6 := K6.fr FAp (by simp; omega)
              have Kp7 := K7.fr FAp (by simp; omega)
              have Fwp := F.same FAp
              have hksp := hks'.keep (dn_fr FAp (by simp; omega))
              clear hx hlit FA Fp FAp K6 K7 F S hks'
              have hksD : SlD wp (fun b => w.heap.size + 2 ≤ b ∧ b < wp.heap.size) 1 (.slice A1 ks.length c1) (ks.map (Value.int .i64)) := hksp
              clear hksp
              go_wp2_with fail
              go_loopw [11] (fun s11 wr => ∃ (i : Int) (inner : List Tr) (A2 : Option Addr) (c2 : Nat) (cells : List Value), s11 = .int .i64 i ∧ 0 ≤ i ∧ inner.length + i ≤ 3 ∧ Fr (some g) w wr ∧ wp.heap.size ≤ wr.heap.size ∧ SrcR 49 wr g ∧
                TB wr w.heap.size (.int .i64 0) (.slice none 0 0) (.slice none 0 0) ∧ TB wr (w.heap.size + 1) (.int .i64 0) (.slice A1 ks.length c1) (.slice A2 inner.length c2) ∧
                SlD wr (fun b => w.heap.size + 2 ≤ b ∧ b < wp.heap.size) 1 (.slice A1 ks.length c1) (ks.map (Value.int .i64)) ∧
                wr.ownsRow wp.heap.size 29 3 (.slice A2 inner.length c2) inner.length cells ∧ TrsD wr (Dx wp.heap.size wr (.slice A2 inner.length c2)) cells inner ∧
                depL inner ≤ d ∧ sizeL inner ≤ inner.length * sizeB d ∧ nodesInL n inner) (fun s11 _ => (intOf s11).toNat)
              case atStart => exact ⟨x, [], none, 0, [], rfl, hx0.1, by simp; omega, Fwp, Nat.le_refl _, Sp, Kp6, Kp7, hksD, World.ownsRow_nil _ _ _ _, by simp [TrsD], by simp [depL], by simp [sizeL], by simp [nodesInL]⟩
              case round =>
                clear hksD Kp6 Kp7 Sp Fwp
                obtain ⟨i, inner, A2, c2, cells, rfl, hi0, hi3, F, hs3, S, K6, K7, hks, own, hts, hdp, hsz, hni⟩ := hrel
                by_cases hi : 0 < i
                · have hsp : w.heap.size < wr.heap.size := by omega
                  have hsp1 : w.heap.size + 1 < wr.heap.size := by omega
                  have R7 := K7.cell
                  have Z7 := K7.free
                  have hwd : IntKind.i64.wrap (d : Int) = d := IntWalk.i64_in _ (by omega)
                  go_wp2_with fail
                  go_region_law (first
                    | (go_simp; go_at_call 38; refine (ih g _ (by omega) (by omega) (by exact S.drew)).mono ?_; rintro e w3 ⟨v3, T3, rfl, hT3, hd3, hs3', hn3, S3, F3⟩; obtain ⟨th, a1, n1, e1, a2, n2, e2, rfl⟩ := hT3.shape; have F3' := ((Fr.refl (some g) wr).drew).same F3; have T3x := K7.fr F3' (by simp; omega); have R3 := T3x.cell; have Z3 := T3x.free; have own3 := own_fr own F3' (by simp; omega); have hz3 := F3'.size; have hsp3 : w.heap.size < w3.heap.size := (by omega); have hsp4 : w.heap.size + 1 < w3.heap.size := (by omega))
                    | (refine step_app_lit eiTrust rfl _ _ rfl wp.heap.size A2 inner.length c2 _ rfl own3 1 [.int .i64 th, .slice a1 n1 e1, .slice a2 n2 e2] 29 _ rfl (by simp) rfl (by simp [Value.oneCell']) (by omega) (by unfold maxLen; omega) (by omega) ?_; intro A3 c3 w5 own5 F5 bl5; have T5 := T3x.fr F5 (own_ne own3 (by omega)); have R6 := T5.cell; have Z6 := T5.free))
                  all_goals
                    go_wp2_with fail
                    have FS := Fr.set1 w5 ⟨w.heap.size + 1, 2, none⟩ (.slice A3 (inner.length + 1) c3)
                    have og := own_blk_ge own3
                    have ol := own.lt
                    have hz5 := F5.size
                    have hzS := FS.size
                    go_roundw
                    case rel =>
                      have t1 := (TrsD.keep (dx_fr FS (by simp; omega)) _ _ (TrsD.keep (dx_app F5 bl5) _ _ (TrsD.keep (dx_fr F3' (by simp; omega)) _ _ hts)))
                      have t2 := TrD.keep (dx_fr FS (by simp; omega)) _ _ (TrD.keep (dx_app F5 bl5) _ _ (TrD.keep (dn_dx (B := wp.heap.size) (v := .slice A2 inner.length c2) (by exact hs3) (fun q hq => (ol q hq).2)) _ _ hT3))
                      have hln : (inner ++ [T3]).length = inner.length + 1 := by simp
                      refine ⟨i - 1, inner ++ [T3], A3, c3, cells ++ [.int .i64 th, .slice a1 n1 e1, .slice a2 n2 e2], by go_num, by omega, by rw [hln]; omega, ((F.same F3').own F5 (fun q e => by have := og q e; omega)).own FS (by simp), by omega, (S3.frs F5 (fun q e => by have := og q e; omega)).frs FS (by simp; omega), ((K6.fr F3' (by simp; omega)).fr F5 (own_ne own3 (by omega))).fr FS (by simp), by rw [hln]; exact T5.set2 _, ?_, by rw [hln]; exact own_fr own5 FS (by simp; omega), by rw [hln]; exact TrsD.append t1 (by simp only [TrsD]; exact ⟨_, _, _, [], rfl, t2, rfl⟩), ?_, ?_, nodesInL_append n _ _ hni (by simp only [nodesInL]; exact ⟨hn3, trivial⟩)⟩
                      · exact ((hks.keep (fun k hk => ⟨hk, F3'.block k (by omega) (by simp; omega)⟩)).keep (fun k hk => ⟨hk, F5.block k (by omega) (fun e => by have := og k e.symm; omega)⟩)).keep (fun k hk => ⟨hk, FS.block k (by omega) (by simp; omega)⟩)
                      · rw [depL_append]; simp only [depL]; omega
                      · rw [sizeL_append, hln, Nat.succ_mul]; simp only [sizeL]; omega
                    case measure => simp [intOf]; omega
                · have hM : Mid w g n d A1 c1 ks A2 c2 inner wr := ⟨F, by omega, S, K6, K7, hks.keep (fun k hk => ⟨⟨hk.1, by omega⟩, rfl⟩), hkr, hk5, ⟨cells, (SlD.own_dn own).keep (dn_mono (by omega)), TrsD.keep (fun k hk => ⟨⟨by have := hk.1; omega, hk.2.1⟩, rfl⟩) _ _ hts⟩, .inl hkn, by omega, hdp, hsz, hni⟩
                  have R7 := K7.cell
                  have Z7 := K7.free
                  by_cases hin : inner = []
                  · subst hin
                    have h0 : decide ((0 : Int) < ((([] : List Tr).length : Nat) : Int)) = false := by decide
                    go_wp2_with fail
                    go_meet
                    exact ⟨ks, A1, c1, A2, c2, [], hM⟩
                  · have hinl : 0 < inner.length := List.length_pos_iff.2 hin
                    clear hM
                    go_wp2_with fail
                    refine (tapeN_any 3 g _ (by omega) (by omega) S).mono ?_
                    rintro e w3 ⟨x, rfl, x1, x2, S3, F3⟩
                    have hz3 := F3.size
                    have K6' := K6.fr F3 (by simp; omega)
                    have K7' := K7.fr F3 (by simp; omega)
                    have hM : Mid w g n d A1 c1 ks A2 c2 inner w3 := ⟨F.same F3, by omega, S3, K6', K7', (hks.keep (fun k hk => ⟨(⟨hk.1, by omega⟩ : Dn (w.heap.size + 2) wr k), rfl⟩)).keep (dn_fr F3 (by simp; omega)), hkr, hk5,
                      ⟨cells, ((SlD.own_dn own).keep (dn_mono (by omega))).keep (dn_fr F3 (by simp; omega)), TrsD.keep (dn_fr F3 (by simp; omega)) _ _ (TrsD.keep (fun k hk => ⟨(⟨by have := hk.1; omega, hk.2.1⟩ : Dn (w.heap.size + 2) wr k), rfl⟩) _ _ hts)⟩, .inl hkn, by omega, hdp, hsz, hni⟩
                    have R7' := K7'.cell
                    have Z7' := K7'.free
                    clear R7 Z7 K6 K7 hks own hts F S S3 F3 K6'
                    by_cases hx : x = 0
                    · subst hx
                      go_wp2_with fail
                      go_meet
                      obtain ⟨m1, m2, m3, m4, m5, m6, m7, m8, ⟨cells', m9, m10⟩, m11, m12, m13, m14, m15⟩ := hM
                      have FS := Fr.set1 w3 ⟨w.heap.size + 1, 1, none⟩ (.slice none 0 0)
                      have hzS := FS.size
                      exact ⟨[], none, 0, A2, c2, inner, m1.own FS (by simp), by omega, m3.frs FS (by simp; omega), m4.fr FS (by simp), m5.set1 _, SlD.nil _ _ _, by simp, by simp, ⟨cells', m9.keep (dn_fr FS (by simp)), TrsD.keep (dn_fr FS (by simp)) _ _ m10⟩, .inr hin, m12, m13, m14, m15⟩
                    · have hx0 : (x == 0) = false := by rw [beq_eq_false_iff_ne]; exact hx
                      go_wp2_with fail
                      go_meet
                      exact ⟨ks, A1, c1, A2, c2, inner, hM⟩
          case rest =>
            obtain ⟨l, A, c, A2, c2, inner, hM⟩ := hcut
            clear F S K6 K7 hks' hkr hk5 hkn
            obtain ⟨F, hs, S, K6, K7, hk, hkr, hk5, ⟨cells, hc2, hts⟩, hne, hi3, hdp, hsz, hni⟩ := hM
            have hlen1 : 1 ≤ l.length + inner.length := by
              rcases hne with h | h
              · have := List.length_pos_iff.2 h; omega
              · have := List.length_pos_iff.2 h; omega
            have R7 := K7.cell
            have Z7 := K7.free
            go_wp2_with fail
            refine (tapeRange_any _ _ g _ (by omega) (by omega) (by omega) S).mono ?_
            rintro e w3 ⟨th, rfl, x1, x2, S3, F3⟩
            have hz3 := F3.size
            have K6' := K6.fr F3 (by simp; omega)
            have K7' := K7.fr F3 (by simp; omega)
            have R7' := K7'.cell
            have Z7' := K7'.free
            have R6' := K6'.cell
            have Z6' := K6'.free
            clear R7 Z7
            go_wp2_with fail
            refine bodyPost_ret (v := .agg #[.int .i64 th, .slice A l.length c, .slice A2 inner.length c2]) (by simp [results, Tryz.results38, go_sem, R6']) rfl ?_
            have hk3 := hk.keep (dn_fr F3 (by simp; omega))
            have hc3 := hc2.keep (dn_fr F3 (by simp; omega))
            have ht3 := TrsD.keep (dn_fr F3 (by simp; omega)) _ _ hts
            have F := F.same F3
            clear hk hc2 hts F3 R7' Z7' R6' Z6' K6' K7' K6 K7
            have G0 := Fr.set1 w3 ⟨w.heap.size + 1, 0, none⟩ (.int .i64 th)
            generalize hv0 : w3.setCell _ _ = v0 at *
            have G1 := Fr.set1 v0 ⟨w.heap.size, 0, none⟩ (.int .i64 th)
            generalize hv1 : v0.setCell _ _ = v1 at *
            have G2 := Fr.set1 v1 ⟨w.heap.size, 1, none⟩ (.slice A l.length c)
            generalize hv2 : v1.setCell _ _ = v2 at *
            have G3 := Fr.set1 v2 ⟨w.heap.size, 2, none⟩ (.slice A2 inner.length c2)
            generalize hv3 : v2.setCell _ _ = v3 at *
            have GG : Fr (some (w.heap.size + 1)) w3 v0 := G0
            have hkk : ∀ k, Dn (w.heap.size + 2) w3 k → Dn w.heap.size v3 k ∧ v3.heap[k]? = w3.heap[k]? := fun k hk => by
              obtain ⟨k0, e0⟩ := dn_fr (B := w.heap.size + 2) G0 (by simp) k hk
              obtain ⟨k1, e1⟩ := dn_fr (B := w.heap.size + 2) G1 (by simp) k k0
              obtain ⟨k2, e2⟩ := dn_fr (B := w.heap.size + 2) G2 (by simp) k k1
              obtain ⟨k3, e3⟩ := dn_fr (B := w.heap.size + 2) G3 (by simp) k k2
              exact ⟨⟨by have := k3.1; omega, k3.2⟩, by rw [e3, e2, e1, e0]⟩
            have SS := (((S3.frs G0 (by simp; omega)).frs G1 (by simp; omega)).frs G2 (by simp; omega)).frs G3 (by simp; omega)
            have FF := (((F.own G0 (by simp)).own G1 (by simp)).own G2 (by simp)).own G3 (by simp)
            have hsb : sizeL inner ≤ 3 * sizeB d := Nat.le_trans hsz (Nat.mul_le_mul_right _ hi3)
            refine ⟨_, .mk th l inner, rfl, TrD.mk_ (by constructor <;> omega) (hk3.keep hkk) (fun x hx => by have := hkr x hx; constructor <;> omega) (hc3.keep hkk) (by omega) (by omega) (TrsD.keep hkk _ _ ht3), ?_, ?_, ?_, SS, FF⟩
            · simp only [Tr.dep]; omega
            · simp only [Tr.size, sizeB]; omega
            · simp only [nodesIn]; exact ⟨hkr, hni⟩
/-- What Trust(t, n, d) makes: a valid trust over nodes below n. -/
def GenP (w : World) (g n d : Nat) (e : Ending) (w' : World) : Prop :=
  ∃ v T, e = .returned v ∧ TrD w' (Dn w.heap.size w') v T ∧ validE T = 0 ∧ T.dep ≤ d ∧ nodesIn n T ∧ SrcR 49 w' g ∧ Fr (some g) w w'

theorem sizeB_le : ∀ d, d ≤ 6 → sizeB d ≤ 3000 := by
  intro d hd
  have : d = 0 ∨ d = 1 ∨ d = 2 ∨ d = 3 ∨ d = 4 ∨ d = 5 ∨ d = 6 := by omega
  rcases this with rfl | rfl | rfl | rfl | rfl | rfl | rfl <;> simp [sizeB]

set_option maxRecDepth 100000 in
set_option maxHeartbeats 2000000 in
theorem mkTrust_any (n d g : Nat) (w : World) (hn1 : 1 ≤ n) (hn2 : n ≤ 10) (hd1 : 1 ≤ d) (hd6 : d ≤ 6) (S0 : SrcR 49 w g) :
    Calls Tryz.prog 11 #[.pointer (some ⟨g, 0, none⟩), .int .i64 n, .int .i64 d] w (GenP w g n d) := by
  have hg := S0.lt
  go_enter Tryz.func11, Tryz.ntmps11
  go_wp2_with fail
  generalize hW : w.alloc _ = w1
  have hz : w1.heap.size = w.heap.size + 1 := by rw [← hW]; simp
  have F1 : Fr none w w1 := hW ▸ ((Fr.refl _ w).alloc _)
  have b6 : TB w1 w.heap.size (.int .i64 0) (.slice none 0 0) (.slice none 0 0) := by
    rw [← hW]; exact blk_new _ _
  have S1 := S0.fr F1
  clear hW S0
  refine (mktrust_any n hn1 (by omega) d g _ hd1 hd6 S1).mono ?_
  rintro e w2 ⟨v, T, rfl, hT, hdp, hsz, hni, S2, F2⟩
  obtain ⟨th, A1, n1, c1, A2, n2, c2, rfl⟩ := hT.shape
  have hz2 := F2.size
  have b6 := b6.fr F2 (by simp; omega)
  have F2 := (F1.mono (r := some g)).same F2
  have hlt1 : w.heap.size < w2.heap.size := by omega
  have hT := TrD.keep (dn_mono (B := w.heap.size + 1) (by omega)) _ _ hT
  clear S1 F1
  go_wp2_with fail
  generalize hW : w2.alloc _ = w3
  have F23 : Fr none w2 w3 := hW ▸ ((Fr.refl _ w2).alloc _)
  have hz3 : w3.heap.size = w2.heap.size + 1 := by rw [← hW]; simp
  have b7 : TB w3 w2.heap.size (.int .i64 th) (.slice A1 n1 c1) (.slice A2 n2 c2) := by rw [← hW]; exact blk_new _ _
  have b6 := b6.fr F23 (by simp)
  have hT := TrD.keep (dn_fr F23 (by simp)) _ _ hT
  have S3 := S2.fr F23
  have F3 := F2.pure F23
  have hsb := sizeB_le d hd6
  clear hW S2 F2 F23
  have hT0 : TrR w3 none (.agg #[.int .i64 th, .slice A1 n1 c1, .slice A2 n2 c2]) T := TrD.keep (dn_dm (B := w.heap.size + 1) (by simp)) _ _ hT
  refine (rvalidT_any T _ _ none (by omega) hT0).mono ?_
  rintro e w4 ⟨rfl, F4⟩
  have hz4 := F4.size
  have b6 := b6.fr F4 (by simp)
  have b7 := b7.fr F4 (by simp)
  have hT := TrD.keep (dn_fr F4 (by simp)) _ _ hT
  have S4 := S3.fr F4
  have F4 := F3.pure F4
  clear hT0 S3 F3
  have R6 := b6.cell
  have Z6 := b6.free
  have R7 := b7.cell
  by_cases hv : validE T = 0
  · have hv0 : (validE T != 0) = false := by rw [bne_eq_false_iff_eq]; exact hv
    have HV := Lib.hid hv
    clear hv
    go_wp2_with fail
    refine bodyPost_ret (v := .agg #[.int .i64 th, .slice A1 n1 c1, .slice A2 n2 c2]) (by simp [results, Tryz.results11, go_sem, R6]) rfl ?_
    have G := fr_fill3 w4 w.heap.size (.int .i64 th) (.slice A1 n1 c1) (.slice A2 n2 c2)
    exact ⟨_, T, rfl, TrD.keep (dn_mono (by omega)) _ _ (TrD.keep (dn_fr G (by simp)) _ _ hT), HV.out, hdp, hni, S4.frs G (by simp; omega), F4.own G (by simp)⟩
  · have hv0 : (validE T != 0) = true := by rw [bne_iff_ne]; exact hv
    clear hv
    go_wp2_with fail
    refine (tapeN_any n g _ (by omega) (by omega) S4).mono ?_
    rintro e w5 ⟨x, rfl, x1, x2, S5, F5⟩
    have hz5 := F5.size
    have b6' := b6.fr F5 (by simp; omega)
    have R6' := b6'.cell
    have Z6' := b6'.free
    have hlt5 : w.heap.size < w5.heap.size := by omega
    clear R6 Z6 R7
    go_wp2_with fail
    refine bodyPost_ret (v := .agg #[.int .i64 1, .slice (some ⟨w5.heap.size, 0, none⟩) 1 1, .slice none 0 0]) (by simp [results, Tryz.results11, go_sem, R6', hlt5]) rfl ?_
    have G := fr_fill3 w5 w.heap.size (.int .i64 1) (.slice (some ⟨w5.heap.size, 0, none⟩) 1 1) (.slice none 0 0)
    generalize hw6 : World.setCell (World.setCell (World.setCell w5 _ _) _ _) _ _ = w6 at *
    have hz6 : w6.heap.size = w5.heap.size := by rw [← hw6]; simp [World.setCell]
    rw [← hz6]
    have hA := (Fr.refl none w6).alloc (.cells #[.int .i64 x] 3)
    refine ⟨_, .mk 1 [x] [], rfl, TrD.mk_ (by constructor <;> omega) (SlD.lit_dn #[.int .i64 x] 3 1 1 w.heap.size rfl (by unfold maxLen; omega) (by omega) (Fr.refl none _)) (by intro y hy; simp at hy; constructor <;> omega) (SlD.nil _ _ _) (by simp) (by simp) (by simp [TrsD]), validE_flat x x1 (by omega), by simp [Tr.dep, depL]; omega, by simp only [nodesIn, nodesInL]; exact ⟨by intro y hy; simp at hy; omega, trivial⟩, (S5.frs G (by simp; omega)).fr hA, ((F4.same F5).own G (by simp)).pure hA⟩
end Go.Proofs.YtpdhckbiioobhaaGreat

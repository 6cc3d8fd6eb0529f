/- Walks: the tape trustquorummake.Tape: New, N, Range, Pick, Order. -/
import Derived.Test.YtpdhckbiioobhaaGreatDoorProg
import Derived.Test.YtpdhckbiioobhaaGreatDoorSrc
import Derived.Test.YtpdhckbiioobhaaGreatDoorEi
import Derived.RegionTactic
namespace Go.Proofs.YtpdhckbiioobhaaGreatDoor
open Go.RowKit

abbrev TapeT : TypeId := 88

theorem tapeNew_any (v : Value) (l : List Int) (w : World) (h : SlI w none v l) :
    Calls Tryz.prog 13 #[v] w (NewP 88 w) := by
  have h0 := h
  obtain ⟨A, c, rfl, q1, q2, hc⟩ := h.open_
  by_cases hl : l.length ≤ 400
  · go_enter Tryz.func13, Tryz.ntmps13
    go_wp2
    go_ret
    exact ⟨_, rfl, Nat.le_refl _, SrcR.made h0 (by omega), (Fr.refl _ _).alloc _⟩
  · go_enter Tryz.func13, Tryz.ntmps13
    go_wp2
    all_goals first | (exfalso; omega) | skip
    go_ret
    exact ⟨_, rfl, Nat.le_refl _, SrcR.made (h0.take 400 (by omega)) (by have := List.length_take_le 400 l; omega), (Fr.refl _ _).alloc _⟩

theorem tapeN_any (n : Int) (g : Nat) (w : World) (hn0 : 1 ≤ n) (hn : n ≤ 4294967296) (h : SrcR 88 w g) :
    Calls Tryz.prog 16 #[.pointer (some ⟨g, 0, none⟩), .int .i64 n] w (NumP 88 w g 0 (n - 1)) := by
  have h0 := h
  have hgl := h.lt
  obtain ⟨A, c, l, k, hb, hs, hw, hl, hk, q1, q2, hc⟩ := h.open_
  have c0 : w.cell? ⟨g, 0, none⟩ = some (.slice A l.length c) := cell_of_row w g 0 _ _ _ hb
  have c1 : w.cell? ⟨g, 1, none⟩ = some (.int .i64 k) := cell_of_row w g 1 _ _ _ hb
  have f1 : w.frozen? ⟨g, 1, none⟩ = false := by simp [World.frozen?, hb]
  have HB := Lib.hid hb
  clear hb
  by_cases hkl : k < l.length
  · obtain ⟨b, off, rfl, hb, hcc⟩ := hc (by omega)
    have d2 := hcc k hkl
    have m1 : l[k].tmod n < n := Int.tmod_lt_of_pos _ (by omega)
    have m2 : -n < l[k].tmod n := by have := Int.lt_tmod_of_pos l[k] (b := n) (by omega); omega
    clear hcc hc
    by_cases hx : l[k].tmod n < 0
    all_goals
      go_enter Tryz.func16, Tryz.ntmps16
      go_wp2_with fail
      go_quiet (fail)
      go_wp2_with fail
      go_quiet (fail)
      go_wp2
      go_ret
      exact ⟨_, rfl, by omega, by omega, SrcR.next (k := k) (by exact HB.out) hs hw hl hkl (by exact hgl), ((Fr.refl _ w).drewN _).setRow rfl _⟩
  · go_enter Tryz.func16, Tryz.ntmps16
    go_wp2_with fail
    go_quiet (fail)
    go_wp2
    go_ret
    exact ⟨0, rfl, by omega, by omega, h0.drewN _, (Fr.refl _ _).drewN _⟩
theorem tapeRange_any (lo hi : Int) (g : Nat) (w : World) (h1 : -1073741824 ≤ lo) (h2 : lo ≤ hi) (h4 : hi ≤ 1073741824) (h : SrcR 88 w g) :
    Calls Tryz.prog 31 #[.pointer (some ⟨g, 0, none⟩), .int .i64 lo, .int .i64 hi] w (NumP 88 w g lo hi) := by
  go_enter Tryz.func31, Tryz.ntmps31
  go_wp2_with fail
  refine (tapeN_any _ _ _ (by omega) (by omega) h).mono ?_
  rintro e w' ⟨x, rfl, x1, x2, S, F⟩
  go_wp2
  go_ret
  exact ⟨_, rfl, by omega, by omega, S, F⟩

/-- One of some numbers. -/
def PickP (T : TypeId) (w : World) (g : Nat) (l : List Int) (e : Ending) (w' : World) : Prop :=
  ∃ x : Int, e = .returned (.int .i64 x) ∧ x ∈ l ∧ SrcR T w' g ∧ Fr (some g) w w'

theorem tapePick_any (v : Value) (l : List Int) (g : Nat) (w : World) (hl : SlI w (some g) v l) (h1 : 1 ≤ l.length) (h2 : l.length ≤ 1073741824) (h : SrcR 88 w g) :
    Calls Tryz.prog 102 #[.pointer (some ⟨g, 0, none⟩), v] w (PickP 88 w g l) := by
  obtain ⟨A, c, rfl, q1, q2, hc⟩ := hl.open_
  obtain ⟨b, off, rfl, hb, hbr, hcc⟩ := hc (by omega)
  clear hc
  go_enter Tryz.func102, Tryz.ntmps102
  go_wp2_with fail
  refine (tapeN_any _ _ _ (by omega) (by omega) h).mono ?_
  rintro e w' ⟨x, rfl, x1, x2, S, F⟩
  obtain ⟨k, rfl⟩ := Int.eq_ofNat_of_zero_le x1
  have hk : k < l.length := by omega
  have d := F.keep (hcc k hk) (by simpa using hbr)
  clear hcc
  go_wp2
  go_ret
  exact ⟨_, rfl, List.getElem_mem _, S, F⟩

/-- The numbers below n, in some order. -/
def OrderP (T : TypeId) (w : World) (g n : Nat) (e : Ending) (w' : World) : Prop :=
  ∃ (v : Value) (l : List Int), e = .returned v ∧ l.Perm (ints n) ∧ SlD w' (Dn w.heap.size w') 1 v (l.map (Value.int .i64)) ∧ SrcR T w' g ∧ Fr (some g) w w'

set_option maxRecDepth 100000 in
set_option maxHeartbeats 1000000 in
theorem tapeOrder_any (n g : Nat) (w : World) (hn : n ≤ 1073741824) (h : SrcR 88 w g) :
    Calls Tryz.prog 87 #[.pointer (some ⟨g, 0, none⟩), .int .i64 n] w (OrderP 88 w g n) := by
  have hg := h.lt
  go_enter Tryz.func87, Tryz.ntmps87
  go_wp2_with fail
  go_loopw [5, 6] (fun v i wr => ∃ (j : Nat) (A : Option Addr) (c : Nat), j ≤ n ∧ i = .int .i64 j ∧ v = .slice A j c ∧ Fr none w wr ∧ wr.ownsRow w.heap.size 3 1 (.slice A j c) j ((ints j).map (Value.int .i64))) (fun _ i _ => n - (intOf i).toNat)
  case atStart => exact ⟨0, none, 0, Nat.zero_le _, rfl, rfl, Fr.refl _ _, World.ownsRow_nil _ _ _ _⟩
  case round =>
    obtain ⟨j, A, c, hj, rfl, rfl, F, own⟩ := hrel
    have hz := F.size
    by_cases hlt : j < n
    · go_wp2_with (at_builtin; refine app_lit eiInt rfl _ _ rfl w.heap.size A j c _ rfl own 1 [.int .i64 j] _ _ rfl (by simp) rfl (by simp [Value.oneCell']) (by omega) (by unfold maxLen; omega) (by omega) ?_; intro A' c' w' own' F' bl')
      have og := own_blk_ge own
      go_roundw
      case rel => exact ⟨j + 1, A', c', by omega, by go_num, rfl, F.own F' og, by rw [ints_succ, List.map_append]; exact own'⟩
      case measure => simp [intOf]; omega
    · obtain rfl : j = n := by omega
      go_wp2_with fail
      obtain ⟨wo, rfl⟩ : ∃ wo : World, wo = wr := ⟨_, rfl⟩
      have hz1 := F.size
      go_loopw [7] (fun s7 wl => ∃ (i : Int) (l : List Int), s7 = .int .i64 i ∧ -1 ≤ i ∧ i < j ∧ l.Perm (ints j) ∧ Fr (some g) w wl ∧ SrcR 88 wl g ∧ wl.ownsRow w.heap.size 3 1 (.slice A j c) j (l.map (Value.int .i64))) (fun s7 _ => (intOf s7).toNat)
      case atStart => exact ⟨_, _, rfl, by omega, by omega, List.Perm.refl _, F.mono, h.fr F, own⟩
      case round =>
        clear own F hz1 hz
        obtain ⟨i, l, rfl, hi1, hi2, hp, F, S, own⟩ := hrel
        have hll : l.length = j := by rw [hp.length_eq, ints_len]
        have HLL := Lib.hid hll
        have hz := F.size
        by_cases hi : 0 < i
        · obtain ⟨m, rfl⟩ := Int.eq_ofNat_of_zero_le (show 0 ≤ i by omega)
          obtain ⟨gb, hA⟩ : ∃ gb, A = some ⟨gb, 0, none⟩ := by
            rcases own.2 with ⟨_, h0⟩ | ⟨gb, cap, cur, hv, _⟩
            · omega
            · injection hv with hv
              exact ⟨gb, hv⟩
          subst hA
          have hgb := own_blk_ge own gb rfl
          clear hll
          go_wp2_with fail
          refine (tapeN_any _ g _ (by omega) (by omega) S).mono ?_
          rintro e w2 ⟨x, rfl, x1, x2, S2, F2⟩
          obtain ⟨k, rfl⟩ := Int.eq_ofNat_of_zero_le x1
          have own2 := own_fr own F2 (by simp; omega)
          have hz2 := F2.size
          have hml : m < l.length := by have := HLL.out; omega
          have hkl : k < l.length := by have := HLL.out; omega
          have ci : w2.cell? ⟨gb, m, none⟩ = some (.int .i64 l[m]) := by rw [own2.cellAt m (by omega)]; simp [hml]
          have ck : w2.cell? ⟨gb, k, none⟩ = some (.int .i64 l[k]) := by rw [own2.cellAt k (by omega)]; simp [hkl]
          have zi := own2.frozenAt m
          have zk := own2.frozenAt k
          have o3 := (own2.drew.stored m (.int .i64 l[k])).1
          have o4 := (o3.stored k (.int .i64 l[m])).1
          have hset : ((l.map (Value.int .i64)).set m (.int .i64 l[k])).set k (.int .i64 l[m]) = ((l.set m l[k]).set k l[m]).map (Value.int .i64) := by rw [List.map_set, List.map_set]
          have hpp : ((l.set m l[k]).set k l[m]).Perm (ints j) := (List.set_set_perm hml hkl).trans hp
          have F4 : Fr (some g) w ((w2.drew.setCell ⟨gb, m, none⟩ (.int .i64 l[k])).setCell ⟨gb, k, none⟩ (.int .i64 l[m])) := (((F.same F2).drew).setNew (by simpa using hgb) _).setNew (by simpa using hgb) _
          have S4 : SrcR 88 ((w2.drew.setCell ⟨gb, m, none⟩ (.int .i64 l[k])).setCell ⟨gb, k, none⟩ (.int .i64 l[m])) g := (S2.drew.frs (Fr.set1 _ _ _) (by simp; omega)).frs (Fr.set1 _ _ _) (by simp; omega)
          have HO := Lib.hid o4
          have HS := Lib.hid hset
          clear o3 o4 hset
          by_cases hkm : k = m
          · subst hkm
            go_wp2_with fail
            go_region
            go_wp2_with fail
            go_roundw
            case rel =>
              refine ⟨(k : Int) - 1, (l.set k l[k]).set k l[k], by go_num, by omega, by omega, hpp, F4, S4, ?_⟩
              rw [← HS.out]; exact HO.out
            case measure => simp [intOf]; omega
          · go_wp2_with fail
            go_region
            go_wp2_with fail
            go_roundw
            case rel =>
              refine ⟨(m : Int) - 1, (l.set m l[k]).set k l[m], by go_num, by omega, by omega, hpp, F4, S4, ?_⟩
              rw [← HS.out]; exact HO.out
            case measure => simp [intOf]; omega
        · go_wp2_with fail
          go_ret
          exact ⟨_, l, rfl, hp, SlD.own_dn own, S, F⟩
end Go.Proofs.YtpdhckbiioobhaaGreatDoor

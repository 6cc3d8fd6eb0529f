/- Walks: mk.Sets (up to n sets of nodes below m), mk.In. -/
import Derived.Test.YtidcjafmcjfkgaaDoorProg
import Derived.Test.YtidcjafmcjfkgaaDoorTape
import Derived.Test.YtidcjafmcjfkgaaDoorMeetQ
namespace Go.Proofs.YtidcjafmcjfkgaaDoor
open Go.RowKit

/-- Up to n sets of nodes below m. -/
def SetsP (T : TypeId) (w : World) (g n m : Nat) (e : Ending) (w' : World) : Prop :=
  ∃ (v : Value) (l : List Int), e = .returned v ∧ l.length ≤ n ∧ Bel m l ∧ SlD w' (Dn w.heap.size w') 1 v (l.map (Value.int .i64)) ∧ SrcR T w' g ∧ Fr (some g) w w'
theorem bel_wi {m : Nat} (hm : m ≤ 10) {l : List Int} (h : Bel m l) : ∀ x ∈ l, Wi x := fun x hx => by
  obtain ⟨a, rfl, ha⟩ := h x hx
  have := Bel.le hm ha
  unfold Wi; omega

set_option maxRecDepth 100000 in
theorem sets_any (n m g : Nat) (w : World) (hn : n ≤ 1024) (hm : m ≤ 10) (h : SrcR 45 w g) :
    Calls Tryd.prog 8 #[.pointer (some ⟨g, 0, none⟩), .int .i64 n, .int .i64 m] w (SetsP 45 w g n m) := by
  have hg := h.lt
  have hw2 : wrap64 (2 ^ m) = ((2 ^ m : Nat) : Int) := wrap_pow m (by omega)
  have hp := p10 m hm
  have hp0 := Nat.two_pow_pos m
  obtain ⟨N2, hN2⟩ : ∃ x, x = 2 ^ m := ⟨_, rfl⟩
  rw [← hN2] at hw2 hp hp0
  have HW := Lib.hid hw2
  have HN := Lib.hid hN2
  clear hw2 hN2
  go_enter Tryd.func8, Tryd.ntmps8
  go_wp2_with fail
  refine (tapeN_any _ g _ (by omega) (by omega) h).mono ?_
  rintro e w1 ⟨x, rfl, x1, x2, S1, F1⟩
  obtain ⟨k0, rfl⟩ := Int.eq_ofNat_of_zero_le x1
  go_wp2_with fail
  go_loopw [7, 8] (fun v i wr => ∃ (j : Nat) (l : List Int) (A : Option Addr) (c : Nat), j + l.length ≤ n ∧ i = .int .i64 j ∧ v = .slice A l.length c ∧ Hid (Bel m l) ∧ Fr (some g) w wr ∧ SrcR 45 wr g ∧ wr.ownsRow w.heap.size 3 1 (.slice A l.length c) l.length (l.map (Value.int .i64))) (fun _ i _ => (intOf i).toNat)
  case atStart => exact ⟨k0, [], none, 0, by simp; omega, rfl, rfl, Lib.hid (fun x hx => by cases hx), F1, S1, World.ownsRow_nil _ _ _ _⟩
  case round =>
    obtain ⟨j, l, A, c, hj, rfl, rfl, HB, F, S, own⟩ := hrel
    have hz := F.size
    by_cases hlt : 0 < j
    · go_wp2_with (first | (go_at_call 24; refine (tapeN_any _ g _ (by rw [HW.out]; omega) (by rw [HW.out]; omega) S).mono ?_; rintro e w2 ⟨y, rfl, y1, y2, S2, F2⟩; rw [HW.out] at y2; obtain ⟨b, rfl⟩ := Int.eq_ofNat_of_zero_le y1; have own2 := own_fr own F2 (by simp; omega); have hz2 := F2.size) | (at_builtin; refine app_lit eiInt rfl _ _ rfl w.heap.size A l.length c _ rfl own2 1 [.int .i64 b] _ _ rfl (by simp) rfl (by simp [Value.oneCell']) (by omega) (by unfold maxLen; omega) (by omega) ?_; intro A' c' w' own' F' bl'))
      have og := own_blk_ge own2
      go_roundw
      case rel => exact ⟨j - 1, l ++ [(b : Int)], A', c', by simp; omega, by go_num, by simp, Lib.hid (fun x hx => by
        rcases List.mem_append.1 hx with hx | hx
        · exact HB.out x hx
        · exact ⟨b, by simpa using hx, by rw [← HN.out]; omega⟩), (F.same F2).own F' og, S2.frs F' (fun q hq => by have := og q hq; omega), by simpa using own'⟩
      case measure => simp [intOf]; omega
    · obtain rfl : j = 0 := by omega
      go_wp2_with fail
      go_ret
      exact ⟨_, l, rfl, by omega, HB.out, SlD.own_dn own, S, F⟩

set_option maxRecDepth 100000 in
theorem in_any (l : List Int) (v : Value) (x : Int) (w : World) (r : Option Nat) (h : SlI w r v l) :
    Calls Tryd.prog 11 #[v, .int .i64 x] w fun e w' => e = .returned (.bool (decide (x ∈ l))) ∧ w = w' := by
  obtain ⟨A, c, rfl, q1, q2, hc⟩ := h.open_
  clear h
  go_enter Tryd.func11, Tryd.ntmps11
  go_wp2_with fail
  go_loop [9] (fun i => ∃ k : Nat, k ≤ l.length ∧ i = .int .i64 k ∧ ∀ j (hj : j < l.length), j < k → l[j] ≠ x) (fun i => l.length - (intOf i).toNat)
  case atStart => exact ⟨0, Nat.zero_le _, rfl, fun j hj h => by omega⟩
  case round =>
    obtain ⟨k, hk, rfl, hno⟩ := hrel
    have HN := Lib.hid hno
    clear hno
    by_cases hlt : k < l.length
    · obtain ⟨b, off, rfl, hb, hbr, hcc⟩ := hc (by omega)
      have hck := hcc k hlt
      clear hcc hc
      by_cases hp : x = l[k]
      · have e1 : decide (x ∈ l) = true := by rw [decide_eq_true_eq, hp]; exact List.getElem_mem _
        have E := Lib.hid e1
        have HP := Lib.hid hp
        clear e1
        obtain ⟨y, hy⟩ : ∃ y, y = l[k] := ⟨_, rfl⟩
        rw [← hy] at hck hp
        clear hy
        subst hp
        go_wp2_with fail
        go_ret
        exact ⟨ret_bool (by rw [E.out]), rfl⟩
      · go_wp2_with fail
        go_round
        case rel => exact ⟨k + 1, by omega, by go_num, fun j hj h => by
          by_cases e : j = k
          · subst e; exact fun e => hp e.symm
          · exact HN.out j hj (by omega)⟩
        case measure => simp [intOf]; omega
    · obtain rfl : k = l.length := by omega
      have e1 : decide (x ∈ l) = false := by
        rw [decide_eq_false_iff_not]
        intro hm
        obtain ⟨j, hj, e⟩ := List.getElem_of_mem hm
        exact HN.out j hj hj e
      have E := Lib.hid e1
      clear e1
      go_wp2_with fail
      go_ret
      exact ⟨ret_bool (by rw [E.out]), rfl⟩
end Go.Proofs.YtidcjafmcjfkgaaDoor

/- Walks: nodeset.Meeting. -/
import Derived.Test.YtidcjafmcjfkgaaDoorProg
import Derived.Test.YtidcjafmcjfkgaaDoorLeastW
import Derived.Test.YtidcjafmcjfkgaaDoorFnC
namespace Go.Proofs.YtidcjafmcjfkgaaDoor
open Go.RowKit

theorem meet1_any (x : Int) (n b : Nat) (hn : n ≤ 10) (w : World) (hc : w.cell? ⟨b, 0, none⟩ = some (.int .i64 n)) :
    Calls Tryd.prog 34 #[.int .i64 x, .pointer (some ⟨b, 0, none⟩)] w fun e w' => e = .returned (.bool (!belB x n)) ∧ w = w' := by
  go_enter Tryd.func34, Tryd.ntmps34
  go_wp2_with (go_at_call 35; refine (below_any _ _ hn _).mono ?_; rintro e w' ⟨rfl, rfl⟩)
  go_ret
  exact ⟨rfl, rfl⟩
theorem meet2_any (t s : Int) (b : Nat) (w : World) (hc : w.cell? ⟨b, 0, none⟩ = some (.int .i64 s)) :
    Calls Tryd.prog 36 #[.int .i64 t, .pointer (some ⟨b, 0, none⟩)] w fun e w' => e = .returned (.bool (disI s t)) ∧ w = w' := by
  go_enter Tryd.func36, Tryd.ntmps36
  go_wp2_with fail
  go_ret
  exact ⟨rfl, rfl⟩

set_option maxRecDepth 100000 in
set_option maxHeartbeats 1000000 in
theorem meeting_any (l : List Int) (v : Value) (n : Nat) (hn : n ≤ 10) (w : World) (h : SlI w none v l) (hb : ∀ x ∈ l, belB x n = true) (hlen : l.length ≤ 1024) :
    Calls Tryd.prog 13 #[v, .int .i64 n] w fun e w' => ∃ v', e = .returned (.tuple #[v', .int .i64 0]) ∧ SlD w' (Dn w.heap.size w') 1 v' ((meetS l n).map (Value.int .i64)) ∧ Fr none w w' := by
  have hany : l.any (fun x => !belB x n) = false := by
    rw [List.any_eq_false]
    intro x hx
    simp [hb x hx]
  have HA := Lib.hid hany
  have HL := Lib.hid h
  obtain ⟨A, c, hv, q1, q2, hc⟩ := h.open_
  subst hv
  clear hany hc h hb
  go_enter Tryd.func13, Tryd.ntmps13
  go_wp2_with (go_at_call 31; refine (containsFuncC_any _ (fun x => !belB x n) (fun _ _ => by kernel_rfl) (.pointer (some ⟨w.heap.size, 0, none⟩)) _ (fun x _ => meet1_any x n _ hn _ (by simp)) l _ none (HL.out.fr ((Fr.refl _ _).alloc _))).mono ?_; rintro e w' ⟨rfl, rfl⟩; rw [HA.out])
  refine (least_any l _ _ (HL.out.fr ((Fr.refl _ _).alloc _)) (by omega)).mono ?_
  rintro e w1 ⟨v1, rfl, S1, F1⟩
  have hz1 := F1.size
  simp only [World.size_alloc] at hz1
  have F0 : Fr none w w1 := ((Fr.refl none w).alloc _).pure F1
  have cn : w1.cell? ⟨w.heap.size, 0, none⟩ = some (.int .i64 n) := F1.keep (by simp) (by simp)
  obtain ⟨m, hm⟩ : ∃ m, m = leastS l := ⟨_, rfl⟩
  have S1' : SlI w1 none v1 m := ⟨by rw [hm]; exact S1.keep (fun k hk => ⟨⟨hk.2, by simp⟩, rfl⟩), by rw [hm]; exact fun x hx => valid_wi (leastS_mem hx).2⟩
  have HM := Lib.hid hm
  have HS := Lib.hid S1'
  have hp := p10 n hn
  obtain ⟨N2, hN2⟩ : ∃ x, x = 2 ^ n := ⟨_, rfl⟩
  rw [← hN2] at hp
  have hw2 : wrap64 (2 ^ n) = (N2 : Int) := by rw [hN2]; exact wrap_pow n (by omega)
  have HN := Lib.hid hN2
  clear hm S1 S1' hN2 HA
  go_wp2_with fail
  rw [hw2]
  clear hw2
  go_loopw [6, 26, 7, 28, 29, 30, 31, 32, 27, 33, 34, 35, 36, 37] (fun v i s7 s28 s29 s30 s31 s32 s27 s33 s34 s35 s36 s37 wr => ∃ (j : Nat) (o : List Int) (B : Option Addr) (d : Nat), j ≤ N2 ∧ i = .int .i64 j ∧ o = (ints j).filter (fun s => !m.any (disI s)) ∧ v = .slice B o.length d ∧ Fr none w1 wr ∧ wr.ownsRow w1.heap.size 3 1 (.slice B o.length d) o.length (o.map (Value.int .i64))) (fun _ i _ _ _ _ _ _ _ _ _ _ _ _ _ => N2 - (intOf i).toNat)
  case atStart => exact ⟨0, [], none, 0, Nat.zero_le _, rfl, rfl, rfl, Fr.refl _ _, World.ownsRow_nil _ _ _ _⟩
  case round =>
    obtain ⟨j, o, B, d, hj, rfl, ho, rfl, F, own⟩ := hrel
    have hz := F.size
    have hol : o.length ≤ j := by
      rw [ho]
      have := List.length_filter_le (fun s => !m.any (disI s)) (ints j)
      rw [ints_len] at this
      exact this
    have HO := Lib.hid ho
    clear ho
    by_cases hlt : j < N2
    · have hstep : (ints (j + 1)).filter (fun s => !m.any (disI s)) = o ++ (if m.any (disI j) then [] else [(j : Int)]) := by
        rw [ints_succ, List.filter_append, ← HO.out]
        cases hq : m.any (disI j) <;> simp [hq]
      have HT := Lib.hid hstep
      clear hstep
      cases hb : m.any (disI j) with
      | true =>
        have HB := Lib.hid hb
        clear hb
        go_wp2_with (go_at_call 31; refine (containsFuncC_any _ (fun t => disI j t) (fun _ _ => by kernel_rfl) (.pointer (some ⟨wr.heap.size, 0, none⟩)) _ (fun x _ => meet2_any x j _ _ (by simp)) m _ none (HS.out.fr (F.alloc _))).mono ?_; rintro e w' ⟨rfl, rfl⟩; rw [HB.out])
        go_roundw
        case rel => exact ⟨j + 1, o, B, d, by omega, by go_num, by rw [HT.out, HB.out]; simp, rfl, F.alloc _, own.alloc _⟩
        case measure => simp [intOf]; omega
      | false =>
        have HB := Lib.hid hb
        clear hb
        go_wp2_with (first | (go_at_call 31; refine (containsFuncC_any _ (fun t => disI j t) (fun _ _ => by kernel_rfl) (.pointer (some ⟨wr.heap.size, 0, none⟩)) _ (fun x _ => meet2_any x j _ _ (by simp)) m _ none (HS.out.fr (F.alloc _))).mono ?_; rintro e w' ⟨rfl, rfl⟩; rw [HB.out]) | (at_builtin; refine app_lit eiInt rfl _ _ rfl w1.heap.size B o.length d _ rfl (own.alloc _) 1 [.int .i64 j] _ _ rfl (by simp) rfl (by simp [Value.oneCell']) (by omega) (by unfold maxLen; omega) (by simp; omega) ?_; intro A' c' w' own' F' bl'))
        have og := own_blk_ge own
        go_roundw
        case rel => exact ⟨j + 1, o ++ [(j : Int)], A', c', by omega, by go_num, by rw [HT.out, HB.out]; rfl, by simp, (F.alloc _).own F' og, by simpa using own'⟩
        case measure => simp [intOf]; omega
    · obtain rfl : j = N2 := by omega
      go_wp2_with fail
      have SO : SlI wr none (.slice B o.length d) o := SlI.of_own own (by simp) (by
        rw [HO.out]
        intro x hx
        have := (List.mem_filter.1 hx).1
        simp only [ints, List.mem_map, List.mem_range] at this
        obtain ⟨a, ha, rfl⟩ := this
        unfold Wi
        constructor
        · exact Int.le_trans (by decide) (Int.natCast_nonneg a)
        · exact Int.le_trans (Int.ofNat_le.2 (show a ≤ 1024 by omega)) (by decide))
      refine (least_any o _ _ SO (by omega)).mono ?_
      rintro e w2 ⟨v2, rfl, S2, F2⟩
      have hms : meetS l n = leastS o := by
        unfold meetS
        rw [← HM.out, ← HN.out, HO.out]
      have HMS := Lib.hid hms
      clear hms
      go_wp2_with fail
      go_ret2
      exact ⟨v2, rfl, by rw [HMS.out]; exact S2.keep (dn_mono (by omega)), (F0.pure F).pure F2⟩
end Go.Proofs.YtidcjafmcjfkgaaDoor

/- Walk: the reference's Meeting. -/
import Derived.Test.YtidnnjgiogklaaaProg
import Derived.Test.YtidnnjgiogklaaaRLeX
namespace Go.Proofs.Ytidnnjgiogklaaa
open Go.RowKit

theorem bits_comm (a b : Int) : bits .and .i64 a b = bits .and .i64 b a := by
  show IntKind.i64.wrap ((BitVec.ofInt 64 a &&& BitVec.ofInt 64 b).toNat : Int) = IntKind.i64.wrap ((BitVec.ofInt 64 b &&& BitVec.ofInt 64 a).toNat : Int)
  rw [BitVec.and_comm]
theorem rmeet_eq {n : Nat} (hn : n ≤ 10) {l : List Int} (h : Bel n l) : meetS l n = leastS ((ints (2 ^ n)).filter fun s => l.all fun x => bits .and .i64 x s != 0) := by
  unfold meetS
  congr 1
  apply List.filter_congr
  intro s hs
  obtain ⟨a, ha, rfl⟩ := mem_ints.1 hs
  rw [any_least hn h (Bel.le hn ha), List.not_any_eq_all_not]
  congr 1
  funext x
  rw [bits_comm]
  rfl
theorem all_take {l : List Int} {i : Nat} {x s : Int} {b p : Bool} (hy : l.take (i + 1) = l.take i ++ [x]) (hp : (bits .and .i64 x s != 0) = p) (hb : b = (l.take i).all fun x => bits .and .i64 x s != 0) : (b && p) = (l.take (i + 1)).all fun x => bits .and .i64 x s != 0 := by
  rw [hy, List.all_append, hb, ← hp]
  simp

set_option maxRecDepth 100000 in
set_option maxHeartbeats 8000000 in
theorem rmeeting_any (l : List Int) (v : Value) (n : Nat) (hn : n ≤ 10) (w : World) (h : SlI w none v l) (hb : Bel n l) (hlen : l.length ≤ 1024) :
    Calls Try.prog 15 #[v, .int .i64 n] w fun e w' => ∃ v', e = .returned (.tuple #[v', .int .i64 0]) ∧ SlD w' (Dn w.heap.size w') 1 v' ((meetS l n).map (Value.int .i64)) ∧ Fr none w w' := by
  have hms := rmeet_eq hn hb
  obtain ⟨A0, c0, rfl, q1, q2, hc⟩ := h.open_
  have hp := p10 n hn
  obtain ⟨N2, hN2⟩ : ∃ x, x = 2 ^ n := ⟨_, rfl⟩
  rw [← hN2] at hp hms
  have hw2 : wrap64 (2 ^ n) = (N2 : Int) := by rw [hN2]; exact wrap_pow n (by omega)
  have hel : ∀ k (hk : k < l.length), ∃ a : Nat, l[k] = (a : Int) ∧ a < N2 := fun k hk => by
    obtain ⟨a, h1, h2⟩ := hb _ (List.getElem_mem hk)
    exact ⟨a, h1, by rw [hN2]; exact h2⟩
  have HEL := Lib.hid hel
  have HMS := Lib.hid hms
  have HC := Lib.hid hc
  clear hms hN2 hb hel hc
  go_enter Try.func15, Try.ntmps15
  go_wp2_with fail
  go_loop [7, 21] (fun s7 s21 => ∃ j : Nat, j ≤ l.length ∧ s21 = .int .i64 j) (fun _ s21 => l.length - (intOf s21).toNat)
  case atStart => exact ⟨0, Nat.zero_le _, rfl⟩
  case round =>
    obtain ⟨j, hj, rfl⟩ := hrel
    by_cases hlj : j < l.length
    · obtain ⟨b0, off, rfl, hb0, hb1, hcq⟩ := HC.out (by omega)
      have hcj := hcq j hlj
      obtain ⟨a, ha, ha2⟩ := HEL.out j hlj
      rw [ha] at hcj
      clear hcq ha HMS
      go_wp2_with fail
      go_round
      case rel => exact ⟨j + 1, by omega, by go_num⟩
      case measure => simp [intOf]; omega
    · obtain rfl : j = l.length := by omega
      clear hlj hj
      go_wp2_with fail
      go_loopw [8, 9, 10, 12] (fun s8 s9 s10 s12 wr => ∃ (j : Nat) (o : List Int) (B : Option Addr) (d : Nat), j ≤ N2 ∧ s9 = .int .i64 j ∧ Hid (o = (ints j).filter fun s => l.all fun x => bits .and .i64 x s != 0) ∧ s8 = .slice B o.length d ∧ o.length ≤ j ∧ Fr none w wr ∧ wr.ownsRow w.heap.size 3 1 (.slice B o.length d) o.length (o.map (Value.int .i64))) (fun _ s9 _ _ _ => N2 - (intOf s9).toNat)
      case atStart => exact ⟨0, [], none, 0, Nat.zero_le _, rfl, rfl, rfl, Nat.le_refl _, Fr.refl _ _, World.ownsRow_nil _ _ _ _⟩
      case round =>
        obtain ⟨j, o, B, d, hj, rfl, HO, rfl, hol, F, own⟩ := hrel
        have hz := F.size
        by_cases hlt : j < N2
        · go_wp2_with fail
          go_loop [10, 12, 45] (fun s10 s12 s45 => ∃ (i : Nat) (b : Bool), i ≤ l.length ∧ s45 = .int .i64 i ∧ s10 = .bool b ∧ Hid (b = (l.take i).all fun x => bits .and .i64 x (j : Int) != 0)) (fun _ _ s45 => l.length - (intOf s45).toNat)
          case atStart => exact ⟨0, true, Nat.zero_le _, rfl, rfl, by simp [Hid]⟩
          case round =>
            obtain ⟨i, b, hi, rfl, rfl, HB⟩ := hrel
            by_cases hli : i < l.length
            · obtain ⟨b0, off, rfl, hb0, hb1, hcq⟩ := HC.out (by omega)
              have hcj := F.keep (hcq i hli) (by simp)
              obtain ⟨x, hx⟩ : ∃ x, x = l[i] := ⟨_, rfl⟩
              have htj : l.take (i + 1) = l.take i ++ [x] := by rw [hx]; exact List.take_succ_eq_append_getElem hli
              rw [← hx] at hcj
              obtain ⟨p, hp⟩ : ∃ b, (bits .and .i64 x (j : Int) != 0) = b := ⟨_, rfl⟩
              have HST := Lib.hid (all_take htj hp HB.out)
              clear hcq hx htj HB own
              cases b with
              | false =>
                clear hp
                go_wp2_with fail
                go_round
                case rel => exact ⟨i + 1, _, by omega, by go_num, rfl, HST⟩
                case measure => simp [intOf]; omega
              | true =>
                cases p with
                | false =>
                  go_wp2_with fail
                  go_round
                  case rel => exact ⟨i + 1, _, by omega, by go_num, rfl, HST⟩
                  case measure => simp [intOf]; omega
                | true =>
                  go_wp2_with fail
                  go_round
                  case rel => exact ⟨i + 1, _, by omega, by go_num, rfl, HST⟩
                  case measure => simp [intOf]; omega
            · obtain rfl : i = l.length := by omega
              have hbb : (ints (j + 1)).filter (fun s => l.all fun x => bits .and .i64 x s != 0) = o ++ (if b then [(j : Int)] else []) := by
                have h1 := HB.out
                rw [List.take_length] at h1
                rw [ints_succ, List.filter_append, ← HO.out, h1]
                cases hq : (l.all fun x => bits .and .i64 x (j : Int) != 0) <;> simp [hq]
              have HT := Lib.hid hbb
              clear hbb HB
              cases b with
              | false =>
                go_wp2_with fail
                go_roundw
                case rel => exact ⟨j + 1, o, B, d, by omega, by go_num, by unfold Hid; rw [HT.out]; simp, rfl, by omega, F, own⟩
                case measure => simp [intOf]; omega
              | true =>
                go_wp2_with (at_builtin; refine app_lit eiInt rfl _ _ rfl w.heap.size B o.length d _ rfl own 1 [.int .i64 j] _ _ rfl (by simp) rfl (by simp [Value.oneCell']) (by omega) (by unfold maxLen; omega) (by omega) ?_; intro A' c' w' own' F' bl')
                have og := own_blk_ge own
                go_roundw
                case rel => exact ⟨j + 1, o ++ [(j : Int)], A', c', by omega, by go_num, by unfold Hid; rw [HT.out]; rfl, by simp, by simp; omega, F.own F' og, by simpa using own'⟩
                case measure => simp [intOf]; omega
        · obtain rfl : j = N2 := by omega
          have SO : SlI wr none (.slice B o.length d) o := SlI.of_own own (by simp) (by
            rw [HO.out]
            intro x hx
            obtain ⟨a, ha, rfl⟩ := mem_ints.1 (List.mem_filter.1 hx).1
            unfold Wi
            constructor
            · exact Int.le_trans (by decide) (Int.natCast_nonneg a)
            · exact Int.le_trans (Int.ofNat_le.2 (show a ≤ 1024 by omega)) (by decide))
          have hms2 : meetS l n = leastS o := by rw [HMS.out, HO.out]
          have HM2 := Lib.hid hms2
          clear hms2 HMS
          go_wp2_with fail
          refine (rleast_any o _ _ SO (by omega)).mono ?_
          rintro e w2 ⟨v2, rfl, S2, F2⟩
          go_wp2_with fail
          go_ret2
          exact ⟨v2, rfl, by rw [HM2.out]; exact S2.keep (dn_mono (by omega)), F.pure F2⟩
end Go.Proofs.Ytidnnjgiogklaaa

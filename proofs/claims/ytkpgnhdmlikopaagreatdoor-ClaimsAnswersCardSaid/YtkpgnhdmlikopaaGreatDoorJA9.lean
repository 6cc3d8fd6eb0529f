/- Some texts of this claim, joined: contracts of the functions that it reaches, and plain laws. -/
import Derived.Test.YtkpgnhdmlikopaaGreatDoorProg
import Derived.Test.YtkpgnhdmlikopaaGreatDoorJA8
import Derived.Lib.AppendZeros

set_option linter.unusedSimpArgs false
set_option linter.unusedVariables false
/- Walks: slices.Grow (of nil), slices.Concat of two lists of claims. -/
namespace Go.Proofs.YtkpgnhdmlikopaaGreatDoor
open Go.RowKit

theorem undInt : Tryz.prog.underlying 3 = some (.int .i64) := by kernel_rfl
theorem infoClm : ∃ i, Tryz.prog.info? 24 = some i ∧ i.zero = some (.agg #[.int .i64 0, .int .i64 0]) ∧ i.size = 2 ∧ i.bytes = 16 := by
  obtain ⟨i, a, b, c, d⟩ := info_parts (show (Tryz.prog.info? 24).map (fun i => (i.zero, i.size, i.bytes)) = some (some (.agg #[.int .i64 0, .int .i64 0]), 2, 16) by kernel_rfl)
  exact ⟨i, a, b, c, d⟩
set_option maxRecDepth 100000 in
set_option maxHeartbeats 1000000 in
theorem cgrow_any (n : Nat) (hn : n ≤ 1000000) (w : World) : Calls Tryz.prog 60 #[.slice none 0 0, .int .i64 n] w fun e w' => ∃ A c, e = .returned (.slice A 0 c) ∧ w'.ownsRow w.heap.size 24 2 (.slice A 0 c) 0 [] ∧ Fr none w w' := by
  rcases Nat.eq_zero_or_pos n with h0 | h0
  · subst h0
    go_enter Tryz.func60, Tryz.ntmps60
    go_wp2_with fail
    go_ret
    exact ⟨none, 0, rfl, World.ownsRow_nil _ _ _ _, Fr.refl _ _⟩
  · obtain ⟨i, hi, hz, hs, hb⟩ := infoClm
    have hr := fun ty => Lib.run_append_nil_zeros (P := Tryz.prog) w 25 3 ty 24 i (.agg #[.int .i64 0, .int .i64 0]) .i64 .i64 undClm undInt hi hz n h0 (by omega) (by omega) (by rw [hb]; omega)
    have g1 := grownCap_ge w n 0 24
    have g2 := grownCap_le_maxLen w n 0 24 (by unfold maxLen; omega)
    generalize grownCap w n 0 24 = C at *
    unfold maxLen at g2
    clear hi hz hs hb
    have HR := Lib.hid hr
    clear hr
    have hw : IntKind.i64.wrap (0 - 0 : Int) = 0 := rfl
    go_enter Tryz.func60, Tryz.ntmps60
    go_wp2_with (at_builtin; refine Lib.wpList_append_run _ rfl _ _ _ _ rfl _ _ rfl rfl _ _ (HR.out _) ?_)
    go_ret
    refine ⟨some ⟨w.heap.size, 0, none⟩, C, rfl, ⟨rfl, .inr ⟨w.heap.size, C, Builtin.zeroCells #[.int .i64 0, .int .i64 0] n ++ Builtin.zeroCells #[.int .i64 0, .int .i64 0] (C - n), rfl, Nat.le_refl _, ?_, Nat.zero_le _, by unfold maxLen; omega, ?_, by simp⟩⟩, (Fr.refl none w).drew.alloc _⟩
    · exact blk_new_at (by simp) _
    · simp [Builtin.zeroCells]; omega
/-- The first j of two lists, joined. -/
def fstC (a b : List Cl) (j : Nat) : List Cl := if j = 0 then [] else if j = 1 then a else a ++ b
set_option maxRecDepth 100000 in
set_option maxHeartbeats 2000000 in
theorem cconcat_any (a b : List Cl) (va vb : Value) (bk : Nat) (w : World) (h0 : w.cell? ⟨bk, 0, none⟩ = some va) (h1 : w.cell? ⟨bk, 1, none⟩ = some vb) (ha : SlC w none va a) (hb : SlC w none vb b) (hl : a.length + b.length ≤ 1000000) :
    Calls Tryz.prog 47 #[.slice (some ⟨bk, 0, none⟩) 2 2] w (NwC (a ++ b) w) := by
  obtain ⟨A, ca, rfl, q1, q2, _⟩ := ha.open_
  obtain ⟨B, cb, rfl, q3, q4, _⟩ := hb.open_
  go_enter Tryz.func47, Tryz.ntmps47
  go_wp2_with fail
  go_loop [3, 11] (fun s3 s11 => ∃ j n : Nat, s11 = .int .i64 (j : Int) ∧ s3 = .int .i64 (n : Int) ∧ j ≤ 2 ∧ Hid (n = (fstC a b j).length) ∧ n ≤ a.length + b.length) (fun _ s11 => 2 - (intOf s11).toNat)
  case atStart => exact ⟨0, 0, rfl, rfl, by omega, rfl, by omega⟩
  case round =>
    obtain ⟨j, n, rfl, rfl, hj, HN, hn⟩ := hrel
    rcases (show j = 0 ∨ j = 1 ∨ j = 2 by omega) with rfl | rfl | rfl
    · have e : n = 0 := HN.out
      subst e
      go_wp2_with fail
      go_round
      case rel => exact ⟨1, a.length, by go_num, by go_num, by omega, rfl, by omega⟩
      case measure => simp [intOf]
    · have e : n = a.length := HN.out
      subst e
      go_wp2_with fail
      go_round
      case rel => exact ⟨2, a.length + b.length, by go_num, by go_num, by omega, by simp [Hid, fstC], by omega⟩
      case measure => simp [intOf]
    · have e : n = a.length + b.length := by rw [HN.out]; simp [fstC]
      subst e
      clear HN
      go_wp2_with fail
      refine (cgrow_any (a.length + b.length) hl w).mono ?_
      rintro e w1 ⟨C, c, rfl, own, F1⟩
      go_wp2_with fail
      go_loopw [6, 27] (fun s6 s27 wr => ∃ (j : Nat) (o : List Cl) (C : Option Addr) (c : Nat), s27 = .int .i64 (j : Int) ∧ s6 = .slice C o.length c ∧ j ≤ 2 ∧ Hid (o = fstC a b j) ∧ o.length ≤ a.length + b.length ∧ Fr none w wr ∧ wr.ownsRow w.heap.size 24 2 (.slice C o.length c) o.length (flC o)) (fun _ s27 _ => 2 - (intOf s27).toNat)
      case atStart => exact ⟨0, [], C, c, rfl, rfl, by omega, rfl, by simp, F1, own⟩
      case round =>
        clear own F1
        obtain ⟨j, o, C, c, rfl, rfl, hj, HO, hol, F, own⟩ := hrel
        have hz := F.size
        have og := own_blk_ge own
        have g0 := F.keep h0 (by simp)
        have g1 := F.keep h1 (by simp)
        have a1 := (ha.fr F).1.any
        have b1 := (hb.fr F).1.any
        have HA := Lib.hid a1
        have HB := Lib.hid b1
        clear a1 b1
        rcases (show j = 0 ∨ j = 1 ∨ j = 2 by omega) with rfl | rfl | rfl
        · obtain rfl : o = [] := HO.out
          go_wp2_with (at_builtin; refine app_any eiClm rfl _ _ rfl w.heap.size C 0 c _ rfl own A a.length ca (flC a) rfl HA.out (flC_one a) (by omega) (by unfold maxLen; omega) hz ?_; intro C' c' w' own' F' bl')
          go_roundw
          case rel => exact ⟨1, a, C', c', by go_num, by simp, by omega, rfl, by omega, F.own F' og, by (have := own'; rw [Nat.zero_add] at this; exact this)⟩
          case measure => simp [intOf]
        · have e : o = a := HO.out
          subst e
          go_wp2_with (at_builtin; refine app_any eiClm rfl _ _ rfl w.heap.size C o.length c _ rfl own B b.length cb (flC b) rfl HB.out (flC_one b) (by omega) (by unfold maxLen; omega) hz ?_; intro C' c' w' own' F' bl')
          go_roundw
          case rel => exact ⟨2, o ++ b, C', c', by go_num, by simp, by omega, by simp [Hid, fstC], by simp, F.own F' og, by rw [flC_app]; simpa using own'⟩
          case measure => simp [intOf]
        · have e : o = a ++ b := HO.out
          subst e
          go_wp2_with fail
          go_ret
          exact ⟨_, rfl, SlD.own_dn own, F⟩
end Go.Proofs.YtkpgnhdmlikopaaGreatDoor

/- Some texts of this claim, joined: contracts of the functions that it reaches, and plain laws. -/
import Derived.Test.YtoblhcieidljjaaGreatDoorProg
import Derived.Test.YtoblhcieidljjaaGreatDoorJDA5
import Derived.Test.YtoblhcieidljjaaGreatDoorJDA15
import Derived.Test.YtoblhcieidljjaaGreatDoorJDA22
import Derived.Test.YtoblhcieidljjaaGreatDoorJDA17
import Derived.Test.YtoblhcieidljjaaGreatDoorJDA10
import Derived.Test.YtoblhcieidljjaaGreatDoorJDA2
import Derived.Test.YtoblhcieidljjaaGreatDoorJDA16

set_option linter.unusedSimpArgs false
set_option linter.unusedVariables false
/- Walks: strconv.Atoi and strconv.ParseUint (base 16) at every text; declaration.number. -/
namespace Go.Proofs.YtoblhcieidljjaaGreatDoor
open Go.RowKit

/-- The errors that strconv hands out are there. -/
def Errs (w : World) : Prop := (∃ t p, w.cell? ⟨2, 0, none⟩ = some (.iface t p)) ∧ (∃ t p, w.cell? ⟨3, 0, none⟩ = some (.iface t p))
theorem Errs.fr {w w' : World} (h : Errs w) (F : Fr none w w') : Errs w' := by
  obtain ⟨⟨t, p, h1⟩, ⟨u, q, h2⟩⟩ := h
  exact ⟨⟨t, p, F.keep h1 (by simp)⟩, ⟨u, q, F.keep h2 (by simp)⟩⟩
/-- An error or none. -/
def ErV (v : Value) : Prop := v = .nilIface ∨ ∃ t p, v = .iface t p

theorem atoiT_any (S : ByteArray) (w : World) (hz : S.size ≤ 1073741824) (hE : Errs w) :
    Calls Tryz.prog 132 #[.string S] w fun e w' => ∃ n v, e = .returned (.tuple #[.int .i64 n, v]) ∧ Wi n ∧ ErV v ∧ Fr none w w' := by
  obtain ⟨⟨t, p, h1⟩, ⟨u, q, h2⟩⟩ := hE
  cases h : Lib.atoiAll S.data.toList with
  | ok n =>
    refine (Any.strconv_Atoi_ok Tryz.laysC172 S (by omega) n h w).mono ?_
    rintro e w' ⟨rfl, hw⟩
    refine ⟨n, .nilIface, rfl, Lib.atoiAll_bounds h, .inl rfl, ?_⟩
    rcases hw with rfl | ⟨x, rfl⟩
    · exact Fr.refl _ _
    · exact Fr.of_below (Lib.bytesWorld_below _ _ _)
  | range =>
    refine (Any.strconv_Atoi_range Tryz.laysC172 S (by omega) h _ w h2 (.inr ⟨u, q, rfl⟩)).mono ?_
    rintro e w' ⟨N, rfl, _, _, hB⟩
    refine ⟨_, _, rfl, ?_, .inr ⟨_, _, rfl⟩, Fr.of_below hB⟩
    unfold Lib.atoiSat
    constructor <;> (split <;> omega)
  | _ =>
    refine (Any.strconv_Atoi_syntax Tryz.laysC172 S (by omega) h _ w h1 (.inr ⟨t, p, rfl⟩)).mono ?_
    rintro e w' ⟨N, rfl, _, _, hB⟩
    exact ⟨0, _, rfl, by constructor <;> decide, .inr ⟨_, _, rfl⟩, Fr.of_below hB⟩

theorem lower_bd : ∀ c : Fin 256, 0 ≤ bits .or .u8 (c.val : Int) 32 ∧ bits .or .u8 (c.val : Int) 32 < 256 := by decide +kernel
theorem lower_95 : bits .or .u8 (95 : Int) 32 = 127 := by decide +kernel
theorem lowerG_any (c y : Nat) (hy : bits .or .u8 (c : Int) 32 = (y : Int)) (w : World) : Calls Tryz.prog 171 #[.int .u8 (c : Int)] w fun e w' => e = .returned (.int .u8 (y : Int)) ∧ w = w' := by
  go_enter Tryz.func171, Tryz.ntmps171
  go_wp2_with fail
  go_ret
  exact ⟨rfl, rfl⟩
/-- What ParseUint leaves. -/
def PuE (w : World) (e : Ending) (w' : World) : Prop :=
  ((∃ x : Nat, x < 18446744073709551616 ∧ e = .returned (.tuple #[.int .u64 (x : Int), .nilIface])) ∨ (∃ (x k : Int), e = .returned (.tuple #[.int .u64 x, .iface 181 (.int .i64 k)]) ∧ (k = 1 ∨ k = 2))) ∧ Fr none w w'

set_option maxRecDepth 100000 in
set_option maxHeartbeats 16000000 in
theorem ipuG_any (t : ByteArray) (w : World) (hz : t.size ≤ 1073741824) :
    Calls Tryz.prog 134 #[.string t, .int .i64 16, .int .i64 64] w (PuE w) := by
  have hcv := Lib.run_convert_string_bytes (P := Tryz.prog) w 9 35 5 t (u := .string) Tryz.underlying9 Tryz.underlying35 Tryz.underlying5
  obtain ⟨w1, hw1⟩ : ∃ w1, w1 = Lib.bytesWorld w 5 t := ⟨_, rfl⟩
  have hcell : ∀ j, j < t.size → w1.cell? ⟨w.heap.size, j, none⟩ = some (.int .u8 (t.data.toList.getD j 0).toNat) := fun j hj => by rw [hw1]; exact Lib.bytesWorld_cell w _ t j hj
  have F1 : Fr none w w1 := by
    rw [hw1]
    exact ⟨rfl, rfl, rfl, by rw [Lib.bytesWorld_size]; omega, fun k hk _ => Lib.bytesWorld_at_old w _ t k hk⟩
  rw [← hw1] at hcv
  generalize grownCap w t.size 0 _ = cp at hcv
  have hsz : t.size = t.data.toList.length := (Array.length_toList).symm
  by_cases hn0 : t.size = 0
  · have he0 : t.toList.isEmpty = true := by
      rw [ByteArray.toList_eq]
      cases h : t.data.toList with
      | nil => rfl
      | cons c r => rw [hn0, h] at hsz; simp at hsz
    clear hcell hw1 hcv F1
    go_enter Tryz.func134, Tryz.ntmps134
    go_wp2_with fail
    go_ret2
    exact ⟨.inr ⟨_, 2, rfl, .inr rfl⟩, Fr.refl _ _⟩
  · have he0 : t.toList.isEmpty = false := by
      rw [ByteArray.toList_eq]
      cases h : t.data.toList with
      | nil => rw [h] at hsz; simp only [List.length_nil] at hsz; omega
      | cons c r => rfl
    obtain ⟨n, hn⟩ : ∃ n, n = t.size := ⟨_, rfl⟩
    have hnb : n ≤ 1073741824 := by omega
    rw [← hn] at hcv
    have HC := Lib.hid hcell
    have HN2 := Lib.hid hn
    clear hcell hsz hn hw1 hn0 hz
    have hm1 : IntKind.u64.wrap 18446744073709551616 = 0 := by decide
    have hm2 : IntKind.u64.wrap (-1) = 18446744073709551615 := by decide
    go_enter Tryz.func134, Tryz.ntmps134
    go_wp2_with fail
    go_loopw [12, 13, 101] (fun us v i wr => ∃ (j x : Nat), us = .bool false ∧ j ≤ n ∧ i = .int .i64 j ∧ v = .int .u64 x ∧ x < 18446744073709551616 ∧ wr = w1) (fun _ _ i _ => n - (intOf i).toNat)
    case atStart => exact ⟨0, 0, rfl, Nat.zero_le _, rfl, rfl, by decide, rfl⟩
    case round =>
      obtain ⟨j, x, rfl, hj, rfl, rfl, hx64, rfl⟩ := hrel
      by_cases hlt : j < n
      · obtain ⟨b, hb⟩ : ∃ b : UInt8, b = t.data.toList.getD j 0 := ⟨_, rfl⟩
        have d1 : wr.cell? ⟨w.heap.size, j, none⟩ = some (.int .u8 b.toNat) := by rw [HC.out j (by have := HN2.out; omega), hb]
        have hb256 := b.toNat_lt
        obtain ⟨c, hc⟩ : ∃ c : Nat, c = b.toNat := ⟨_, rfl⟩
        rw [← hc] at d1 hb256
        clear hc hb
        have hlw := lower_bd ⟨c, hb256⟩
        simp only at hlw
        obtain ⟨y, hy⟩ := Int.eq_ofNat_of_zero_le hlw.1
        have hyb : y < 256 := by have := hlw.2; omega
        have HY : Hid (bits .or .u8 (c : Int) 32 = (y : Int)) := Lib.hid hy
        clear hlw
        by_cases hdg : 48 ≤ c ∧ c ≤ 57
        · obtain ⟨b1, b2⟩ := hdg
          clear hy hyb
          obtain ⟨z, hz⟩ : ∃ z : Nat, z = c - 48 := ⟨_, rfl⟩
          have hv : z < 16 := by omega
          have w3' : IntKind.u8.wrap ((c : Int) - 48) = (z : Int) := by rw [IntKind.wrap_u8]; omega
          have hc95 : ((c : Int) == 95) = false := by rw [beq_eq_false_iff_ne]; omega
          have w7' : IntKind.u8.wrap (z : Int) = (z : Int) := by rw [IntKind.wrap_u8]; omega
          have w8' : IntKind.u64.wrap (z : Int) = (z : Int) := by rw [IntKind.wrap_u64]; omega
          clear hz
          by_cases hx2 : x < 1152921504606846976
          · skip
            obtain ⟨X, hX⟩ : ∃ X : Nat, X = 16 * x := ⟨_, rfl⟩
            obtain ⟨Z, hZ⟩ : ∃ Z : Nat, Z = X + z := ⟨_, rfl⟩
            have w1' : IntKind.u64.wrap ((x : Int) * 16) = (X : Int) := by rw [IntKind.wrap_u64]; omega
            have w2' : IntKind.u64.wrap ((X : Int) + (z : Int)) = (Z : Int) := by rw [IntKind.wrap_u64]; omega
            have w4' : decide ((1152921504606846976 : Int) ≤ (x : Int)) = false := by rw [decide_eq_false_iff_not]; omega
            have w5' : decide (Z < X) = false := by rw [decide_eq_false_iff_not]; omega
            have w6' : decide ((18446744073709551615 : Int) < (Z : Int)) = false := by rw [decide_eq_false_iff_not]; omega
            have hZb : Z < 18446744073709551616 := by omega
            have HZB := Lib.hid hZb
            clear hx2 hX hZ hZb
            go_wp2_with fail
            go_roundw
            case rel => exact ⟨j + 1, Z, rfl, by omega, by go_num, rfl, HZB.out, trivial⟩
            case measure => simp [intOf]; omega
          · skip
            have w4' : decide ((1152921504606846976 : Int) ≤ (x : Int)) = true := by rw [decide_eq_true_iff]; omega
            clear hx2
            go_wp2_with fail
            go_ret2
            exact ⟨.inr ⟨_, 1, rfl, .inl rfl⟩, F1⟩
        · by_cases hal : 97 ≤ y ∧ y ≤ 122
          · obtain ⟨b1, b2⟩ := hal
            have hc95 : ((c : Int) == 95) = false := by
              rw [beq_eq_false_iff_ne]
              intro h95
              rw [h95, lower_95] at hy
              omega
            obtain ⟨z, hz⟩ : ∃ z : Nat, z = y - 87 := ⟨_, rfl⟩
            have w3' : (y : Int) - 97 + 10 = (z : Int) := by omega
            have w3a : IntKind.u8.wrap ((y : Int) - 97) = (y : Int) - 97 := by rw [IntKind.wrap_u8]; omega
            have w7' : IntKind.u8.wrap (z : Int) = (z : Int) := by rw [IntKind.wrap_u8]; omega
            have w8' : IntKind.u64.wrap (z : Int) = (z : Int) := by rw [IntKind.wrap_u64]; omega
            have hzb : z < 36 := by omega
            clear hy
            by_cases hv : z < 16
            · clear hz hzb
              rcases (show c < 48 ∨ 57 < c by omega) with q1 | q1
              · clear hdg
                by_cases hx2 : x < 1152921504606846976
                · skip
                  obtain ⟨X, hX⟩ : ∃ X : Nat, X = 16 * x := ⟨_, rfl⟩
                  obtain ⟨Z, hZ⟩ : ∃ Z : Nat, Z = X + z := ⟨_, rfl⟩
                  have w1' : IntKind.u64.wrap ((x : Int) * 16) = (X : Int) := by rw [IntKind.wrap_u64]; omega
                  have w2' : IntKind.u64.wrap ((X : Int) + (z : Int)) = (Z : Int) := by rw [IntKind.wrap_u64]; omega
                  have w4' : decide ((1152921504606846976 : Int) ≤ (x : Int)) = false := by rw [decide_eq_false_iff_not]; omega
                  have w5' : decide (Z < X) = false := by rw [decide_eq_false_iff_not]; omega
                  have w6' : decide ((18446744073709551615 : Int) < (Z : Int)) = false := by rw [decide_eq_false_iff_not]; omega
                  have hZb : Z < 18446744073709551616 := by omega
                  have HZB := Lib.hid hZb
                  clear hx2 hX hZ hZb
                  go_wp2_with (go_at_call 171; refine (lowerG_any c y HY.out _).mono ?_; rintro e w' ⟨rfl, rfl⟩)
                  go_roundw
                  case rel => exact ⟨j + 1, Z, rfl, by omega, by go_num, rfl, HZB.out, trivial⟩
                  case measure => simp [intOf]; omega
                · skip
                  have w4' : decide ((1152921504606846976 : Int) ≤ (x : Int)) = true := by rw [decide_eq_true_iff]; omega
                  clear hx2
                  go_wp2_with (go_at_call 171; refine (lowerG_any c y HY.out _).mono ?_; rintro e w' ⟨rfl, rfl⟩)
                  go_ret2
                  exact ⟨.inr ⟨_, 1, rfl, .inl rfl⟩, F1⟩
              · clear hdg
                by_cases hx2 : x < 1152921504606846976
                · skip
                  obtain ⟨X, hX⟩ : ∃ X : Nat, X = 16 * x := ⟨_, rfl⟩
                  obtain ⟨Z, hZ⟩ : ∃ Z : Nat, Z = X + z := ⟨_, rfl⟩
                  have w1' : IntKind.u64.wrap ((x : Int) * 16) = (X : Int) := by rw [IntKind.wrap_u64]; omega
                  have w2' : IntKind.u64.wrap ((X : Int) + (z : Int)) = (Z : Int) := by rw [IntKind.wrap_u64]; omega
                  have w4' : decide ((1152921504606846976 : Int) ≤ (x : Int)) = false := by rw [decide_eq_false_iff_not]; omega
                  have w5' : decide (Z < X) = false := by rw [decide_eq_false_iff_not]; omega
                  have w6' : decide ((18446744073709551615 : Int) < (Z : Int)) = false := by rw [decide_eq_false_iff_not]; omega
                  have hZb : Z < 18446744073709551616 := by omega
                  have HZB := Lib.hid hZb
                  clear hx2 hX hZ hZb
                  go_wp2_with (go_at_call 171; refine (lowerG_any c y HY.out _).mono ?_; rintro e w' ⟨rfl, rfl⟩)
                  go_roundw
                  case rel => exact ⟨j + 1, Z, rfl, by omega, by go_num, rfl, HZB.out, trivial⟩
                  case measure => simp [intOf]; omega
                · skip
                  have w4' : decide ((1152921504606846976 : Int) ≤ (x : Int)) = true := by rw [decide_eq_true_iff]; omega
                  clear hx2
                  go_wp2_with (go_at_call 171; refine (lowerG_any c y HY.out _).mono ?_; rintro e w' ⟨rfl, rfl⟩)
                  go_ret2
                  exact ⟨.inr ⟨_, 1, rfl, .inl rfl⟩, F1⟩
            · clear hz
              rcases (show c < 48 ∨ 57 < c by omega) with q1 | q1
              · clear hdg
                go_wp2_with (go_at_call 171; refine (lowerG_any c y HY.out _).mono ?_; rintro e w' ⟨rfl, rfl⟩)
                go_ret2
                exact ⟨.inr ⟨_, 2, rfl, .inr rfl⟩, F1⟩
              · clear hdg
                go_wp2_with (go_at_call 171; refine (lowerG_any c y HY.out _).mono ?_; rintro e w' ⟨rfl, rfl⟩)
                go_ret2
                exact ⟨.inr ⟨_, 2, rfl, .inr rfl⟩, F1⟩
          · by_cases h95 : c = 95
            · have hc95 : ((c : Int) == 95) = true := by rw [beq_iff_eq]; omega
              have q1 : 57 < c := by omega
              have q2 : 122 < y := by
                rw [h95] at hy
                have : ((95 : Nat) : Int) = 95 := rfl
                rw [this, lower_95] at hy
                omega
              clear hdg hal h95 hy
              go_wp2_with (go_at_call 171; refine (lowerG_any c y HY.out _).mono ?_; rintro e w' ⟨rfl, rfl⟩)
              go_ret2
              exact ⟨.inr ⟨_, 2, rfl, .inr rfl⟩, F1⟩
            · have hc95 : ((c : Int) == 95) = false := by rw [beq_eq_false_iff_ne]; omega
              clear h95 hy
              rcases (show c < 48 ∨ 57 < c by omega) with q1 | q1
              · clear hdg
                rcases (show y < 97 ∨ 122 < y by omega) with q2 | q2
                · clear hal
                  go_wp2_with (go_at_call 171; refine (lowerG_any c y HY.out _).mono ?_; rintro e w' ⟨rfl, rfl⟩)
                  go_ret2
                  exact ⟨.inr ⟨_, 2, rfl, .inr rfl⟩, F1⟩
                · clear hal
                  go_wp2_with (go_at_call 171; refine (lowerG_any c y HY.out _).mono ?_; rintro e w' ⟨rfl, rfl⟩)
                  go_ret2
                  exact ⟨.inr ⟨_, 2, rfl, .inr rfl⟩, F1⟩
              · clear hdg
                rcases (show y < 97 ∨ 122 < y by omega) with q2 | q2
                · clear hal
                  go_wp2_with (go_at_call 171; refine (lowerG_any c y HY.out _).mono ?_; rintro e w' ⟨rfl, rfl⟩)
                  go_ret2
                  exact ⟨.inr ⟨_, 2, rfl, .inr rfl⟩, F1⟩
                · clear hal
                  go_wp2_with (go_at_call 171; refine (lowerG_any c y HY.out _).mono ?_; rintro e w' ⟨rfl, rfl⟩)
                  go_ret2
                  exact ⟨.inr ⟨_, 2, rfl, .inr rfl⟩, F1⟩
      · obtain rfl : j = n := by omega
        go_wp2_with fail
        go_ret2
        exact ⟨.inl ⟨x, hx64, rfl⟩, F1⟩

theorem puG_any (t : ByteArray) (w : World) (hz : t.size ≤ 1073741824) (hE : Errs w) :
    Calls Tryz.prog 89 #[.string t, .int .i64 16, .int .i64 64] w fun e w' => ∃ (x : Int) (v : Value), e = .returned (.tuple #[.int .u64 x, v]) ∧ ErV v ∧ (v = .nilIface → 0 ≤ x ∧ x < 18446744073709551616) ∧ Fr none w w' := by
  go_enter Tryz.func89, Tryz.ntmps89
  go_wp2_with fail
  refine (ipuG_any t _ hz).mono ?_
  rintro e w2 ⟨h, F⟩
  rcases h with ⟨x, hx, rfl⟩ | ⟨x, k, rfl, rfl | rfl⟩
  · go_wp2_with fail
    go_ret2
    exact ⟨x, _, rfl, .inl rfl, fun _ => ⟨by omega, by omega⟩, F⟩
  · obtain ⟨_, ⟨u, q, h2⟩⟩ := hE.fr F
    go_wp2_with (go_at_call 135; refine (Any.strconv_toError_range { Tryz.laysC172 with } _ t _ _ _ _ (by omega) h2 (.inr ⟨u, q, rfl⟩)).mono ?_; rintro e w3 ⟨N, rfl, _, _, hB⟩)
    go_ret2
    exact ⟨x, .iface (Tryz.laysC172_ren.t 168) (.pointer (some ⟨N, 0, none⟩)), rfl, .inr ⟨_, _, rfl⟩, (fun h => by cases h), F.pure (Fr.of_below hB)⟩
  · obtain ⟨⟨u, q, h2⟩, _⟩ := hE.fr F
    go_wp2_with (go_at_call 135; refine (Any.strconv_toError_syntax { Tryz.laysC172 with } _ t _ _ _ _ (by omega) h2 (.inr ⟨u, q, rfl⟩)).mono ?_; rintro e w3 ⟨N, rfl, _, _, hB⟩)
    go_ret2
    exact ⟨x, .iface (Tryz.laysC172_ren.t 168) (.pointer (some ⟨N, 0, none⟩)), rfl, .inr ⟨_, _, rfl⟩, (fun h => by cases h), F.pure (Fr.of_below hB)⟩
end Go.Proofs.YtoblhcieidljjaaGreatDoor

/- Walks: cmp.Compare of strings; declaration.Compare. -/
namespace Go.Proofs.YtoblhcieidljjaaGreatDoor
open Go.RowKit

theorem isNaNs_any (a : ByteArray) (w : World) : Calls Tryz.prog 128 #[.string a] w fun e w' => e = .returned (.bool false) ∧ w = w' := by
  go_enter Tryz.func128, Tryz.ntmps128
  go_wp2_with fail
  go_ret
  exact ⟨ret_bool (by simp), rfl⟩
theorem cmpStr_any (a b : ByteArray) (w : World) : Calls Tryz.prog 82 #[.string a, .string b] w fun e w' => e = .returned (.int .i64 (cmpL a.toList b.toList)) ∧ w = w' := by
  cases h1 : Op.bytesLess a.toList b.toList with
  | true =>
    have e1 : cmpL a.toList b.toList = -1 := by simp [cmpL, h1]
    have E := Lib.hid e1
    clear e1
    go_enter Tryz.func82, Tryz.ntmps82
    go_wp2_with (go_at_call 128; refine (isNaNs_any _ _).mono ?_; rintro e w' ⟨rfl, rfl⟩)
    all_goals (go_ret; exact ⟨ret_int (by rw [E.out]), rfl⟩)
  | false =>
    cases h2 : Op.bytesLess b.toList a.toList with
    | true =>
      have e1 : cmpL a.toList b.toList = 1 := by simp [cmpL, h1, h2]
      have hne : (a.toList == b.toList) = false := by
        rw [beq_eq_false_iff_ne]
        intro e
        rw [e, bl_irrefl] at h2
        cases h2
      have E := Lib.hid e1
      clear e1 h2
      go_enter Tryz.func82, Tryz.ntmps82
      go_wp2_with (go_at_call 128; refine (isNaNs_any _ _).mono ?_; rintro e w' ⟨rfl, rfl⟩)
      all_goals (go_ret; exact ⟨ret_int (by rw [E.out]), rfl⟩)
    | false =>
      have e1 : cmpL a.toList b.toList = 0 := by simp [cmpL, h1, h2]
      have heq : (a.toList == b.toList) = true := by rw [beq_iff_eq]; exact bl_total _ _ h1 h2
      have E := Lib.hid e1
      clear e1 h2
      go_enter Tryz.func82, Tryz.ntmps82
      go_wp2_with (go_at_call 128; refine (isNaNs_any _ _).mono ?_; rintro e w' ⟨rfl, rfl⟩)
      all_goals (go_ret; exact ⟨ret_int (by rw [E.out]), rfl⟩)

/-- The order of declarations. -/
def cmpD (a b : De) : Int := orL [cmpI a.node b.node, cmpI a.seq b.seq, cmpL (bytesS a) (bytesS b)]
theorem bs_toList (l : List UInt8) : (bs l).toList = l := by rw [ByteArray.toList_eq]; exact bs_list l
theorem orL3 (x y z : Int) : orL [x, y, z] = if x = 0 then (if y = 0 then z else y) else x := by
  simp only [orL]
  by_cases h : x = 0
  · by_cases h2 : y = 0
    · by_cases h3 : z = 0 <;> simp [h, h2, h3]
    · simp [h, h2]
  · simp [h]

set_option maxRecDepth 100000 in
set_option maxHeartbeats 2000000 in
theorem compareD_any (da db : De) (va vb : Value) (w : World) (ha : DeD w (Dm w none) va da) (hb : DeD w (Dm w none) vb db) (hsa : da.tr.size ≤ 1073741000) (hsb : db.tr.size ≤ 1073741000) (hT : Tab w) :
    Calls Tryz.prog 25 #[va, vb] w fun e w' => e = .returned (.int .i64 (cmpD da db)) ∧ Fr none w w' := by
  obtain ⟨th, A1, n1, c1, A2, n2, c2, rfl, hTr, hn, hq, ht⟩ := ha.shape
  obtain ⟨th', a1, m1, e1, a2, m2, e2, rfl, hTr', hn', hq', ht'⟩ := hb.shape
  go_enter Tryz.func25, Tryz.ntmps25
  go_upto_region 1 with (fail)
  generalize hW : (w.alloc _).alloc _ = w1
  have F1 : Fr none w w1 := hW ▸ ((Fr.refl none w).alloc _).alloc _
  have ba : DB w1 w.heap.size (.int .i64 da.node) (.int .i64 da.seq) (.int .i64 th) (.slice A1 n1 c1) (.slice A2 n2 c2) (.int .u64 da.tag) := by rw [← hW]; exact (Below.heap_alloc _ _ _ (by simp)).trans (blk_new _ _)
  have bb : DB w1 (w.heap.size + 1) (.int .i64 db.node) (.int .i64 db.seq) (.int .i64 th') (.slice a1 m1 e1) (.slice a2 m2 e2) (.int .u64 db.tag) := by rw [← hW]; exact blk_new_at (by simp) _
  clear hW
  have hla := blk_lt ba
  have hlb := blk_lt bb
  have T1 := hT.fr F1
  have Ha := ha.keep (fr_dm F1)
  have Hb := hb.keep (fr_dm F1)
  have K0 : Kd w1 w.heap.size (w.heap.size + 1) #[.int .i64 da.node, .int .i64 da.seq, .int .i64 th, .slice A1 n1 c1, .slice A2 n2 c2, .int .u64 da.tag] #[.int .i64 db.node, .int .i64 db.seq, .int .i64 th', .slice a1 m1 e1, .slice a2 m2 e2, .int .u64 db.tag] w1.drew := ⟨ba.cell, bb.cell, (Fr.refl _ _).drew⟩
  have HX : ∀ x y : Int, Wi (cmpI x y) := cmpI_wi
  have HL : ∀ x y : List UInt8, Wi (cmpL x y) := fun x y => by rcases cmpL_cases x y with h | h | h <;> rw [h] <;> constructor <;> omega
  have HXh := Lib.hid HX
  have HLh := Lib.hid HL
  clear HX HL
  go_region_held3 (fun w' => (∀ i, w'.cell? ⟨w.heap.size, i, none⟩ = (#[.int .i64 da.node, .int .i64 da.seq, .int .i64 th, .slice A1 n1 c1, .slice A2 n2 c2, .int .u64 da.tag] : Array Value)[i]?) ∧ (∀ i, w'.cell? ⟨w.heap.size + 1, i, none⟩ = (#[.int .i64 db.node, .int .i64 db.seq, .int .i64 th', .slice a1 m1 e1, .slice a2 m2 e2, .int .u64 db.tag] : Array Value)[i]?) ∧ Kd w1 w.heap.size (w.heap.size + 1) #[.int .i64 da.node, .int .i64 da.seq, .int .i64 th, .slice A1 n1 c1, .slice A2 n2 c2, .int .u64 da.tag] #[.int .i64 db.node, .int .i64 db.seq, .int .i64 th', .slice a1 m1 e1, .slice a2 m2 e2, .int .u64 db.tag] w') (first | (with_reducible exact kd_three K0) | (with_reducible exact kd_three KK) | (with_reducible exact kd_three (KK.alloc hla hlb _)))
    (first | (go_at_call 81; refine (cmpCompare_any _ _ _).mono ?_; rintro e w' ⟨rfl, rfl⟩) | (go_at_call 21; (with_reducible refine (bytes_any da (.agg #[.int .i64 da.node, .int .i64 da.seq, .int .i64 th, .slice A1 n1 c1, .slice A2 n2 c2, .int .u64 da.tag]) _ none hsa (Ha.keep (fr_dm (‹_ ∧ _ ∧ Kd w1 w.heap.size (w.heap.size + 1) _ _ _›).2.2.frame)) (T1.fr (‹_ ∧ _ ∧ Kd w1 w.heap.size (w.heap.size + 1) _ _ _›).2.2.frame)).mono ?_); rintro e w3 ⟨S, rfl, hS, hSs, F3⟩; have HSa := Lib.hid hS; clear hS; have KK := (‹_ ∧ _ ∧ Kd w1 w.heap.size (w.heap.size + 1) _ _ _›).2.2.fr hla hlb F3) | (go_at_call 21; (with_reducible refine (bytes_any db (.agg #[.int .i64 db.node, .int .i64 db.seq, .int .i64 th', .slice a1 m1 e1, .slice a2 m2 e2, .int .u64 db.tag]) _ none hsb (Hb.keep (fr_dm (‹_ ∧ _ ∧ Kd w1 w.heap.size (w.heap.size + 1) _ _ _›).2.2.frame)) (T1.fr (‹_ ∧ _ ∧ Kd w1 w.heap.size (w.heap.size + 1) _ _ _›).2.2.frame)).mono ?_); rintro e w3 ⟨S', rfl, hS, hSs', F3⟩; have HSb := Lib.hid hS; clear hS; have KK := (‹_ ∧ _ ∧ Kd w1 w.heap.size (w.heap.size + 1) _ _ _›).2.2.fr hla hlb F3) | (go_at_call 82; refine (cmpStr_any _ _ _).mono ?_; rintro e w' ⟨rfl, rfl⟩) | (go_at_call 80; refine (or_any [cmpI da.node db.node, cmpI da.seq db.seq, cmpL S.toList S'.toList] _ _ none ⟨SlD.lit_dm #[.int .i64 (cmpI da.node db.node), .int .i64 (cmpI da.seq db.seq), .int .i64 (cmpL S.toList S'.toList)] _ 3 1 rfl (by decide) (by simp) (Fr.refl _ _), (by simp [HXh.out, HLh.out])⟩).mono ?_; rintro e w' ⟨rfl, rfl⟩))
  all_goals
    go_wp2_with fail
    go_ret
    exact ⟨ret_int (by rw [HSa.out, HSb.out, bs_toList, bs_toList]; rfl), F1.pure (KK.frame.alloc _)⟩
end Go.Proofs.YtoblhcieidljjaaGreatDoor

/- Walks: declaration.Parse at the text of a plain declaration. -/
namespace Go.Proofs.YtoblhcieidljjaaGreatDoor
open Go.RowKit

/-- What Parse leaves of a text of d. -/
def ParD (d : De) (w : World) (e : Ending) (w' : World) : Prop := ∃ v, e = .returned (.tuple #[v, .int .i64 0]) ∧ DeD w' (Dn w.heap.size w') v d ∧ Fr none w w'

set_option maxRecDepth 100000 in
set_option maxHeartbeats 4000000 in
theorem dparse_any (d : De) (S : ByteArray) (w : World) (hS : S.data.toList = textD d) (hp : plainE d = 0) (ht : d.tag < 18446744073709551616) (hT : Tab w) (hB : Deb w) :
    Calls Tryz.prog 35 #[.string S] w (ParD d w) := by
  obtain ⟨⟨k1, k2⟩, ⟨k3, k4⟩, hv, _, _⟩ := plain_parts hp
  have hsz : S.size ≤ 2517 := by rw [size_list, hS]; exact textD_len d
  have hb : bytesS d = [100, 32] ++ Lib.itoa d.node ++ [32] ++ Lib.itoa d.seq ++ [32] ++ txT d.tr := by unfold bytesS; rw [if_pos hp]
  have e0 : S.data.toList = [100, 32] ++ (Lib.itoa d.node ++ 32 :: (Lib.itoa d.seq ++ 32 :: (txT d.tr ++ 32 :: hexL 16 d.tag))) := by
    rw [hS]; unfold textD; rw [hb]; simp
  have he0 : S.toList.isEmpty = false := by rw [ByteArray.toList_eq, e0]; rfl
  have hpar : parseP (txT d.tr) = .ok d.tr := parse_ok d.tr (valid_ok hv) hv _ (BB.refl _) (by have := valid_len hv; omega)
  have HS := Lib.hid hS
  have HE := Lib.hid e0
  have HPar := Lib.hid hpar
  have HP := Lib.hid hp
  clear hS e0 hpar hp hb hv
  go_enter Tryz.func35, Tryz.ntmps35
  go_wp2_with fail
  generalize hW : (w.alloc _).alloc _ = w1
  have F1 : Fr none w w1 := hW ▸ ((Fr.refl _ w).alloc _).alloc _
  have b0 : DB w1 w.heap.size (.int .i64 0) (.int .i64 0) (.int .i64 0) (.slice none 0 0) (.slice none 0 0) (.int .u64 0) := by rw [← hW]; exact (Below.heap_alloc _ _ _ (by simp)).trans (blk_new _ _)
  have b1 : DB w1 (w.heap.size + 1) (.int .i64 0) (.int .i64 0) (.int .i64 0) (.slice none 0 0) (.slice none 0 0) (.int .u64 0) := by rw [← hW]; exact blk_new_at (by simp) _
  have hz1 : w1.heap.size = w.heap.size + 2 := by rw [← hW]; simp
  clear hW
  refine (Tryz.strings_TrimPrefix S ⟨#[100, 32]⟩ _).mono ?_
  rintro e w2 ⟨rfl, hw⟩
  subst hw
  obtain ⟨R0, hR0⟩ : ∃ R0, R0 = (⟨(Lib.trimPrefix S.data.toList (⟨#[100, 32]⟩ : ByteArray).data.toList).toArray⟩ : ByteArray) := ⟨_, rfl⟩
  have hR0l : R0.data.toList = Lib.itoa d.node ++ 32 :: (Lib.itoa d.seq ++ 32 :: (txT d.tr ++ 32 :: hexL 16 d.tag)) := by
    rw [hR0, HE.out, show (⟨#[100, 32]⟩ : ByteArray).data.toList = [100, 32] from rfl, trim_pre]
  have hlS : S.size = ([100, 32] ++ (Lib.itoa d.node ++ 32 :: (Lib.itoa d.seq ++ 32 :: (txT d.tr ++ 32 :: hexL 16 d.tag)))).length := by rw [size_list, HE.out]
  rw [← hR0]
  have hR0s : R0.size ≤ 2517 := by
    rw [size_list, hR0l]
    rw [List.length_append] at hlS
    omega
  have HR0 := Lib.hid hR0l
  have HLS := Lib.hid hlS
  clear hR0 hR0l hlS
  go_wp2_with fail
  refine (num_any R0 d.node _ k1 (by omega) HR0.out (by omega) _).mono ?_
  rintro e w2 ⟨rfl, F2⟩
  have b02 := b0.fr F2 (by simp)
  have b12 := b1.fr F2 (by simp)
  have R2 := b12.cell
  have Z2 := b12.free
  have hz2 := F2.size
  obtain ⟨R1, hR1⟩ : ∃ R1, R1 = bs (Lib.itoa d.seq ++ 32 :: (txT d.tr ++ 32 :: hexL 16 d.tag)) := ⟨_, rfl⟩
  have hR1l : R1.data.toList = Lib.itoa d.seq ++ 32 :: (txT d.tr ++ 32 :: hexL 16 d.tag) := by rw [hR1, bs_list]
  rw [← hR1]
  have hR1s : R1.size ≤ 2517 := by
    have := HLS.out
    rw [size_list, hR1l]
    simp only [List.length_append, List.length_cons, List.length_nil] at this ⊢
    omega
  have HR1 := Lib.hid hR1l
  clear hR1 hR1l b1 b0
  go_wp2_with fail
  generalize hW : World.setCell _ _ _ = w3
  have G3 : Fr (some (w.heap.size + 1)) w2 w3 := hW ▸ Fr.set1 w2 ⟨w.heap.size + 1, 0, none⟩ _
  have b13 : DB w3 (w.heap.size + 1) (.int .i64 d.node) (.int .i64 0) (.int .i64 0) (.slice none 0 0) (.slice none 0 0) (.int .u64 0) := hW ▸ blk_set b12 0 _
  have b03 := b02.fr G3 (by simp)
  have F03 : Fr none w w3 := (F1.pure F2).own G3 (by simp)
  clear hW R2 Z2 b12 b02
  refine (num_any R1 d.seq _ (by omega) (by omega) HR1.out (by omega) _).mono ?_
  rintro e w4 ⟨rfl, F4⟩
  have b04 := b03.fr F4 (by simp)
  have b14 := b13.fr F4 (by simp)
  have R4 := b14.cell
  have Z4 := b14.free
  have hz4 := F4.size
  have hz3 := G3.size
  obtain ⟨R2, hR2⟩ : ∃ R2, R2 = bs (txT d.tr ++ 32 :: hexL 16 d.tag) := ⟨_, rfl⟩
  have hR2l : R2.data.toList = txT d.tr ++ 32 :: hexL 16 d.tag := by rw [hR2, bs_list]
  rw [← hR2]
  have hR2s : R2.size ≤ 2517 := by
    have := HLS.out
    rw [size_list, hR2l]
    simp only [List.length_append, List.length_cons, List.length_nil] at this ⊢
    omega
  have HR2 := Lib.hid hR2l
  clear hR2 hR2l b03 b13
  go_wp2_with fail
  generalize hW : World.setCell _ _ _ = w5
  have G5 : Fr (some (w.heap.size + 1)) w4 w5 := hW ▸ Fr.set1 w4 ⟨w.heap.size + 1, 1, none⟩ _
  have b15 : DB w5 (w.heap.size + 1) (.int .i64 d.node) (.int .i64 d.seq) (.int .i64 0) (.slice none 0 0) (.slice none 0 0) (.int .u64 0) := hW ▸ blk_set b14 1 _
  have b05 := b04.fr G5 (by simp)
  have F05 : Fr none w w5 := (F03.pure F4).own G5 (by simp)
  have hz5 := G5.size
  clear hW R4 Z4 b14 b04
  refine (Tryz.strings_LastIndexByte R2 32 (by omega) _).mono ?_
  rintro e w6 ⟨rfl, hw⟩
  subst hw
  rw [last_blank R2 _ _ HR2.out (hexL_blank 16 d.tag)]
  obtain ⟨q, hq⟩ : ∃ q, q = (txT d.tr).length := ⟨_, rfl⟩
  rw [← hq]
  have hql : R2.size = q + 17 := by rw [size_list, HR2.out, List.length_append, List.length_cons, hexL_len, hq]
  have hq2 : (q : Int) ≤ (R2.size : Int) := by omega
  have HQ := Lib.hid hq
  have HQL := Lib.hid hql
  clear hq hql
  go_wp2_with fail
  refine (Tryz.strings_TrimPrefix (R2.extract q R2.size) ⟨#[32]⟩ _).mono ?_
  rintro e w7 ⟨rfl, hw⟩
  subst hw
  obtain ⟨R3, hR3⟩ : ∃ R3, R3 = (⟨(Lib.trimPrefix (R2.extract q R2.size).data.toList (⟨#[32]⟩ : ByteArray).data.toList).toArray⟩ : ByteArray) := ⟨_, rfl⟩
  have hR3l : R3.data.toList = hexL 16 d.tag := by
    rw [hR3, Lib.extract_to_end, HR2.out, HQ.out, List.drop_left, show (⟨#[32]⟩ : ByteArray).data.toList = [32] from rfl]
    exact trim_pre [32] _
  rw [← hR3]
  have hR3s : R3.size = 16 := by rw [size_list, hR3l, hexL_len]
  have hhx : ∀ c ∈ R3.data.toList, IsHx c := by rw [hR3l]; exact hexL_hx 16 d.tag
  have htg : hexF 0 R3.data.toList = d.tag := by rw [hR3l, hexF_L]; exact Nat.mod_eq_of_lt (by omega)
  have HHX := Lib.hid hhx
  have HTG := Lib.hid htg
  clear hR3 hR3l hhx htg
  go_wp2_with fail
  refine (pu_any R3 _ HHX.out (by omega) (by omega)).mono ?_
  rintro e w8 ⟨rfl, F8⟩
  rw [HTG.out]
  have b08 := b05.fr F8 (by simp)
  have b18 := b15.fr F8 (by simp)
  have hz8 := F8.size
  have F08 := F05.pure F8
  clear b05 b15 F05
  go_wp2_with fail
  obtain ⟨R4, hR4⟩ : ∃ R4, R4 = R2.extract 0 q := ⟨_, rfl⟩
  have hR4l : R4.data.toList = txT d.tr := by rw [hR4, Lib.extract_data, HR2.out, HQ.out]; simp
  have hpr : parseP R4.data.toList = .ok d.tr := by rw [hR4l]; exact HPar.out
  rw [← hR4]
  have HPR := Lib.hid hpr
  clear hR4 hR4l hpr
  refine (parse_okW R4 d.tr _ HPR.out).mono ?_
  rintro e w9 ⟨th, A1, n1, c1, A2, n2, c2, rfl, hTr, F9⟩
  have b09 := b08.fr F9 (by simp)
  have b19 := b18.fr F9 (by simp)
  have R9 := b19.cell
  have Z9 := b19.free
  have hz9 := F9.size
  have F09 := F08.pure F9
  clear b08 b18 F08
  go_wp2_with fail
  generalize hW : World.setCell _ _ _ = wa
  have Ga : Fr (some (w.heap.size + 1)) w9 wa := by
    rw [← hW]
    exact Fr.setRow (p := ⟨w.heap.size + 1, 5, none⟩) (Fr.setRow (p := ⟨w.heap.size + 1, 4, none⟩) (Fr.setRow (p := ⟨w.heap.size + 1, 3, none⟩) (Fr.set1 w9 ⟨w.heap.size + 1, 2, none⟩ _) rfl _) rfl _) rfl _
  have b1a : DB wa (w.heap.size + 1) (.int .i64 d.node) (.int .i64 d.seq) (.int .i64 th) (.slice A1 n1 c1) (.slice A2 n2 c2) (.int .u64 d.tag) := by
    rw [← hW]
    exact blk_set (blk_set (blk_set (blk_set b19 2 _) 3 _) 4 _) 5 _
  have b0a := b09.fr Ga (by simp)
  have F0a : Fr none w wa := F09.own Ga (by simp)
  have hza := Ga.size
  have hTra : TrD wa (Dn (w.heap.size + 2) wa) (.agg #[.int .i64 th, .slice A1 n1 c1, .slice A2 n2 c2]) d.tr := TrD.keep (fun k hk => by
    obtain ⟨k1, e1⟩ := dn_fr Ga (by simp; omega) k hk
    exact ⟨⟨by have := k1.1; omega, k1.2⟩, e1⟩) _ _ hTr
  have hD : DeD wa (Dn (w.heap.size + 2) wa) (.agg #[.int .i64 d.node, .int .i64 d.seq, .int .i64 th, .slice A1 n1 c1, .slice A2 n2 c2, .int .u64 (d.tag : Int)]) d := ⟨th, _, _, rfl, hTra, by constructor <;> omega, by constructor <;> omega, ht⟩
  clear hW R9 Z9 b19 b09 hTr
  refine (dtext_any d _ _ none (hD.keep (dn_dm (by simp))) HP.out (hT.fr F0a) (hB.fr F0a)).mono ?_
  rintro e wb ⟨X, rfl, hX, hXs, Fb⟩
  have hSX : X = S := by
    rw [hX, ← HS.out]
    rfl
  subst hSX
  have b1b := b1a.fr Fb (by simp)
  have b0b := b0a.fr Fb (by simp)
  have Rb := b1b.cell
  have Z0 := b0b.free
  have hl0 := blk_lt b0b
  have R0b := b0b.cell
  have hne : (X.toList != X.toList) = false := by simp
  clear b1a b0a hX
  go_wp2_with fail
  refine bodyPost_ret (v := .tuple #[.agg #[.int .i64 d.node, .int .i64 d.seq, .int .i64 th, .slice A1 n1 c1, .slice A2 n2 c2, .int .u64 (d.tag : Int)], .int .i64 0]) (by simp [results, Tryz.results35, go_sem, R0b]) rfl ?_
  have G := fr_fill6 wb w.heap.size (.int .i64 d.node) (.int .i64 d.seq) (.int .i64 th) (.slice A1 n1 c1) (.slice A2 n2 c2) (.int .u64 (d.tag : Int))
  have hzb := Fb.size
  refine ⟨_, rfl, hD.keep (fun k hk => ?_), (F0a.pure Fb).own G (by simp)⟩
  obtain ⟨k1, e1⟩ := dn_fr Fb (by simp) k hk
  obtain ⟨k2, e2⟩ := dn_fr G (by simp) k k1
  exact ⟨⟨by have := k2.1; omega, k2.2⟩, e2.trans e1⟩
end Go.Proofs.YtoblhcieidljjaaGreatDoor

/- Walk: declaration.Proves. -/
namespace Go.Proofs.YtoblhcieidljjaaGreatDoor
open Go.RowKit

/-- What Proves returns. -/
def provE (ks : List Nat) (a b : De) : Int := if chkE ks a ≠ 0 then chkE ks a else if chkE ks b ≠ 0 then chkE ks b else if a.node ≠ b.node ∨ a.seq ≠ b.seq then 1 else if Op.bytesLess (bytesS a) (bytesS b) = true then 0 else 7
theorem bytes_fixP (d : De) (S : ByteArray) (hS : Hid (S = bs (bytesS d))) (v : Value) (w : World) (r : Option Nat) (hs : d.tr.size ≤ 1073741000) (h : DeD w (Dm w r) v d) (hT : Tab w) :
    Calls Tryz.prog 21 #[v] w fun e w' => e = .returned (.string S) ∧ Fr none w w' :=
  (bytes_any d v w r hs h hT).mono fun e w' ⟨X, he, hX, _, F⟩ => by
    rw [hS.out, ← hX]
    exact ⟨he, F⟩
/-- One block's cells, and the frame. -/
def Ke (w1 : World) (g : Nat) (x : Array Value) (W : World) : Prop := (∀ i, W.cell? ⟨g, i, none⟩ = x[i]?) ∧ Fr none w1 W
theorem Ke.frame {w1 W : World} {g : Nat} {x : Array Value} (h : Ke w1 g x W) : Fr none w1 W := h.2
theorem Ke.fr {w1 W W' : World} {g : Nat} {x : Array Value} (h : Ke w1 g x W) (hg : g < w1.heap.size) (F : Fr none W W') : Ke w1 g x W' := by
  have hz := h.2.size
  exact ⟨fun i => by rw [F.cell (by simp; omega) (by simp)]; exact h.1 i, h.2.pure F⟩
theorem ke_two {w1 W : World} {g : Nat} {x : Array Value} (h : Ke w1 g x W) : (∀ i, W.cell? ⟨g, i, none⟩ = x[i]?) ∧ Ke w1 g x W := ⟨h.1, h⟩

set_option maxRecDepth 100000 in
set_option maxHeartbeats 4000000 in
theorem proves_any (ks : List Nat) (kv : Value) (a b : De) (th th' : Int) (A1 A2 a1 a2 : Option Addr) (n1 c1 n2 c2 m1 e1 m2 e2 : Nat) (w : World) (hks : ∀ y ∈ ks, y < 18446744073709551616) (hkv : SlD w (Dm w none) 1 kv (ks.map u64v))
    (ha : DeD w (Dm w none) (.agg #[.int .i64 a.node, .int .i64 a.seq, .int .i64 th, .slice A1 n1 c1, .slice A2 n2 c2, .int .u64 (a.tag : Int)]) a) (hb : DeD w (Dm w none) (.agg #[.int .i64 b.node, .int .i64 b.seq, .int .i64 th', .slice a1 m1 e1, .slice a2 m2 e2, .int .u64 (b.tag : Int)]) b) (hpa : plainE a = 0) (hpb : plainE b = 0) (hT : Tab w) :
    Calls Tryz.prog 32 #[kv, .agg #[.int .i64 a.node, .int .i64 a.seq, .int .i64 th, .slice A1 n1 c1, .slice A2 n2 c2, .int .u64 (a.tag : Int), .int .i64 b.node, .int .i64 b.seq, .int .i64 th', .slice a1 m1 e1, .slice a2 m2 e2, .int .u64 (b.tag : Int)]] w fun e w' => e = .returned (.int .i64 (provE ks a b)) ∧ Fr none w w' := by
  have HPa := Lib.hid hpa
  have HPb := Lib.hid hpb
  have hsa : a.tr.size ≤ 1073741000 := by have := (plain_parts hpa).2.2.2.2; omega
  have hsb : b.tr.size ≤ 1073741000 := by have := (plain_parts hpb).2.2.2.2; omega
  have HKS := Lib.hid hks
  clear hpa hpb hks
  go_enter Tryz.func32, Tryz.ntmps32
  go_upto_region 1 with (fail)
  generalize hW : w.alloc _ = w1
  have F1 : Fr none w w1 := hW ▸ (Fr.refl none w).alloc _
  have bt : w1.heap[w.heap.size]? = some (.cells #[.int .i64 a.node, .int .i64 a.seq, .int .i64 th, .slice A1 n1 c1, .slice A2 n2 c2, .int .u64 (a.tag : Int), .int .i64 b.node, .int .i64 b.seq, .int .i64 th', .slice a1 m1 e1, .slice a2 m2 e2, .int .u64 (b.tag : Int)] 61 (0, 0)) := by rw [← hW]; exact blk_new _ _
  clear hW
  have hl := blk_lt bt
  have K1 : Ke w1 w.heap.size #[.int .i64 a.node, .int .i64 a.seq, .int .i64 th, .slice A1 n1 c1, .slice A2 n2 c2, .int .u64 (a.tag : Int), .int .i64 b.node, .int .i64 b.seq, .int .i64 th', .slice a1 m1 e1, .slice a2 m2 e2, .int .u64 (b.tag : Int)] w1 := ⟨blk_cell bt, Fr.refl _ _⟩
  have R1 := K1.1
  have T1 := hT.fr F1
  have Ha := ha.keep (fr_dm F1)
  have Hb := hb.keep (fr_dm F1)
  have Hk := hkv.keep (fr_dm F1)
  clear bt hT ha hb hkv
  obtain ⟨x, hx⟩ : ∃ x, x = chkE ks a := ⟨_, rfl⟩
  obtain ⟨y, hy⟩ : ∃ y, y = chkE ks b := ⟨_, rfl⟩
  have HX := Lib.hid hx
  have HY := Lib.hid hy
  clear hx hy
  go_wp2_with fail
  refine (check_any ks _ a _ _ none HKS.out Hk Ha HPa.out T1).mono ?_
  rintro e w2 ⟨rfl, F2⟩
  rw [← HX.out]
  have K2 := K1.fr hl F2
  have R2 := K2.1
  clear R1
  by_cases hx0 : x = 0
  · subst hx0
    go_wp2_with fail
    refine (check_any ks _ b _ _ none HKS.out (Hk.keep (fr_dm F2)) (Hb.keep (fr_dm F2)) HPb.out (T1.fr F2)).mono ?_
    rintro e w3 ⟨rfl, F3⟩
    rw [← HY.out]
    have K3 := K2.fr hl F3
    have R3 := K3.1
    clear R2
    by_cases hy0 : y = 0
    · subst hy0
      have hpv : provE ks a b = if a.node ≠ b.node ∨ a.seq ≠ b.seq then 1 else if Op.bytesLess (bytesS a) (bytesS b) = true then 0 else 7 := by
        unfold provE
        rw [if_neg (by rw [← HX.out]; simp), if_neg (by rw [← HY.out]; simp)]
      have HPV := Lib.hid hpv
      clear hpv
      by_cases hn : a.node = b.node
      · by_cases hs : a.seq = b.seq
        · have hn1 : (a.node != b.node) = false := by rw [bne_eq_false_iff_eq]; exact hn
          have hs1 : (a.seq != b.seq) = false := by rw [bne_eq_false_iff_eq]; exact hs
          have HV : Hid (provE ks a b = if Op.bytesLess (bytesS a) (bytesS b) = true then 0 else 7) := by unfold Hid; rw [HPV.out, if_neg (by simp [hn, hs])]
          obtain ⟨Sa, hSa⟩ : ∃ S, S = bs (bytesS a) := ⟨_, rfl⟩
          obtain ⟨Sb, hSb⟩ : ∃ S, S = bs (bytesS b) := ⟨_, rfl⟩
          obtain ⟨p, hp⟩ : ∃ p, Op.bytesLess Sa.toList Sb.toList = p := ⟨_, rfl⟩
          have HP : Hid (Op.bytesLess (bytesS a) (bytesS b) = p) := by unfold Hid; rw [← hp, hSa, hSb, bs_toList, bs_toList]
          have HSa := Lib.hid hSa
          have HSb := Lib.hid hSb
          clear hSa hSb hn hs HPV
          go_upto_region 9 with (fail)
          have K4 : Ke w1 w.heap.size #[.int .i64 a.node, .int .i64 a.seq, .int .i64 th, .slice A1 n1 c1, .slice A2 n2 c2, .int .u64 (a.tag : Int), .int .i64 b.node, .int .i64 b.seq, .int .i64 th', .slice a1 m1 e1, .slice a2 m2 e2, .int .u64 (b.tag : Int)] w3.drew := ⟨K3.1, K3.2.drew⟩
          go_region_held3 (fun w' => (∀ i, w'.cell? ⟨w.heap.size, i, none⟩ = (#[.int .i64 a.node, .int .i64 a.seq, .int .i64 th, .slice A1 n1 c1, .slice A2 n2 c2, .int .u64 (a.tag : Int), .int .i64 b.node, .int .i64 b.seq, .int .i64 th', .slice a1 m1 e1, .slice a2 m2 e2, .int .u64 (b.tag : Int)] : Array Value)[i]?) ∧ Ke w1 w.heap.size #[.int .i64 a.node, .int .i64 a.seq, .int .i64 th, .slice A1 n1 c1, .slice A2 n2 c2, .int .u64 (a.tag : Int), .int .i64 b.node, .int .i64 b.seq, .int .i64 th', .slice a1 m1 e1, .slice a2 m2 e2, .int .u64 (b.tag : Int)] w') (first | (with_reducible exact ke_two K4) | (with_reducible exact ke_two KK))
            (first | (go_at_call 21; (with_reducible refine (bytes_fixP a Sa HSa (.agg #[.int .i64 a.node, .int .i64 a.seq, .int .i64 th, .slice A1 n1 c1, .slice A2 n2 c2, .int .u64 (a.tag : Int)]) _ none hsa (Ha.keep (fr_dm (‹_ ∧ Ke w1 w.heap.size _ _›).2.frame)) (T1.fr (‹_ ∧ Ke w1 w.heap.size _ _›).2.frame)).mono ?_); rintro e w9 ⟨rfl, F9⟩; have KK := (‹_ ∧ Ke w1 w.heap.size _ _›).2.fr hl F9) | (go_at_call 21; (with_reducible refine (bytes_fixP b Sb HSb (.agg #[.int .i64 b.node, .int .i64 b.seq, .int .i64 th', .slice a1 m1 e1, .slice a2 m2 e2, .int .u64 (b.tag : Int)]) _ none hsb (Hb.keep (fr_dm (‹_ ∧ Ke w1 w.heap.size _ _›).2.frame)) (T1.fr (‹_ ∧ Ke w1 w.heap.size _ _›).2.frame)).mono ?_); rintro e w9 ⟨rfl, F9⟩; have KK := (‹_ ∧ Ke w1 w.heap.size _ _›).2.fr hl F9))
          all_goals
            cases p with
            | true =>
              go_wp2_with fail
              go_ret
              exact ⟨ret_int (by rw [HV.out, HP.out]; rfl), F1.pure KK.frame⟩
            | false =>
              go_wp2_with fail
              go_ret
              exact ⟨ret_int (by rw [HV.out, HP.out]; rfl), F1.pure KK.frame⟩
        · have hn1 : (a.node != b.node) = false := by rw [bne_eq_false_iff_eq]; exact hn
          have hs1 : (a.seq != b.seq) = true := by rw [bne_iff_ne]; exact hs
          have HV : Hid (provE ks a b = 1) := by unfold Hid; rw [HPV.out, if_pos (.inr hs)]
          clear hn hs
          go_wp2_with fail
          go_ret
          exact ⟨ret_int (by rw [HV.out]), F1.pure K3.frame⟩
      · have hn1 : (a.node != b.node) = true := by rw [bne_iff_ne]; exact hn
        have HV : Hid (provE ks a b = 1) := by unfold Hid; rw [HPV.out, if_pos (.inl hn)]
        clear hn
        go_wp2_with fail
        go_ret
        exact ⟨ret_int (by rw [HV.out]), F1.pure K3.frame⟩
    · have hy1 : (y != 0) = true := by rw [bne_iff_ne]; exact hy0
      have HV : Hid (provE ks a b = y) := by unfold Hid provE; rw [if_neg (by rw [← HX.out]; simp), if_pos (by rw [← HY.out]; exact hy0), HY.out]
      clear hy0
      go_wp2_with fail
      go_ret
      exact ⟨ret_int (by rw [HV.out]), F1.pure K3.frame⟩
  · have hx1 : (x != 0) = true := by rw [bne_iff_ne]; exact hx0
    have HV : Hid (provE ks a b = x) := by unfold Hid provE; rw [if_pos (by rw [← HX.out]; exact hx0), HX.out]
    clear hx0
    go_wp2_with fail
    go_ret
    exact ⟨ret_int (by rw [HV.out]), F1.pure K2.frame⟩
end Go.Proofs.YtoblhcieidljjaaGreatDoor

/- Walks: the reference's Compare of declarations. -/
namespace Go.Proofs.YtoblhcieidljjaaGreatDoor
open Go.RowKit

def sgn7 (b : Bool) : Int := if b then -1 else 1
theorem sign7_any (b : Bool) (w : World) : Calls Tryz.prog 83 #[.bool b] w fun e w' => e = .returned (.int .i64 (sgn7 b)) ∧ w' = w := by
  go_enter Tryz.func83, Tryz.ntmps83
  cases b with
  | true =>
    go_wp2_with fail
    go_ret
    exact ⟨rfl, rfl⟩
  | false =>
    go_wp2_with fail
    go_ret
    exact ⟨rfl, rfl⟩
theorem rbytes_fixP (d : De) (S : ByteArray) (hS : Hid (S = bs (bytesS d))) (v : Value) (w : World) (r : Option Nat) (hs : d.tr.size ≤ 1073741000) (h : DeD w (Dm w r) v d) (hT : Tab w) :
    Calls Tryz.prog 22 #[v] w fun e w' => e = .returned (.string S) ∧ Fr none w w' :=
  (rbytes_any d v w r hs h hT).mono fun e w' ⟨X, he, hX, _, F⟩ => by
    rw [hS.out, ← hX]
    exact ⟨he, F⟩
theorem cmpI_ne {a b : Int} (h : a ≠ b) : cmpI a b = sgn7 (decide (a < b)) := by
  unfold cmpI sgn7
  by_cases h1 : a < b
  · simp [h1]
  · have : b < a := by omega
    simp [h1, this]
theorem cmpI_eq {a b : Int} (h : a = b) : cmpI a b = 0 := by subst h; simp [cmpI]
theorem cmpL_ne {a b : List UInt8} (h : a ≠ b) : cmpL a b = sgn7 (Op.bytesLess a b) := by
  unfold cmpL sgn7
  cases h1 : Op.bytesLess a b with
  | true => simp
  | false =>
    cases h2 : Op.bytesLess b a with
    | true => simp
    | false => exact absurd (bl_total _ _ h1 h2) h

set_option maxRecDepth 100000 in
set_option maxHeartbeats 4000000 in
theorem rcompareD_any (a b : De) (va vb : Value) (w : World) (ha : DeD w (Dm w none) va a) (hb : DeD w (Dm w none) vb b) (hsa : a.tr.size ≤ 1073741000) (hsb : b.tr.size ≤ 1073741000) (hT : Tab w) :
    Calls Tryz.prog 26 #[va, vb] w fun e w' => e = .returned (.int .i64 (cmpD a b)) ∧ Fr none w w' := by
  obtain ⟨th, A1, n1, c1, A2, n2, c2, rfl, _, _, _, _⟩ := ha.shape
  obtain ⟨th', A1', n1', c1', A2', n2', c2', rfl, _, _, _, _⟩ := hb.shape
  go_enter Tryz.func26, Tryz.ntmps26
  go_upto_region 1 with (fail)
  generalize hW : (w.alloc _).alloc _ = w1
  have F1 : Fr none w w1 := hW ▸ ((Fr.refl none w).alloc _).alloc _
  have ba : DB w1 w.heap.size (.int .i64 a.node) (.int .i64 a.seq) (.int .i64 th) (.slice A1 n1 c1) (.slice A2 n2 c2) (.int .u64 a.tag) := by rw [← hW]; exact (Below.heap_alloc _ _ _ (by simp)).trans (blk_new _ _)
  have bb : DB w1 (w.heap.size + 1) (.int .i64 b.node) (.int .i64 b.seq) (.int .i64 th') (.slice A1' n1' c1') (.slice A2' n2' c2') (.int .u64 b.tag) := by rw [← hW]; exact blk_new_at (by simp) _
  clear hW
  have T1 := hT.fr F1
  have Ha := ha.keep (fr_dm F1)
  have Hb := hb.keep (fr_dm F1)
  have hla := blk_lt ba
  have hlb := blk_lt bb
  obtain ⟨Sa, hSa⟩ : ∃ S, S = bs (bytesS a) := ⟨_, rfl⟩
  obtain ⟨Sb, hSb⟩ : ∃ S, S = bs (bytesS b) := ⟨_, rfl⟩
  have HSa := Lib.hid hSa
  have HSb := Lib.hid hSb
  have Hca : Hid (Sa.toList = bytesS a) := by unfold Hid; rw [hSa, bs_toList]
  have Hcb : Hid (Sb.toList = bytesS b) := by unfold Hid; rw [hSb, bs_toList]
  clear hSa hSb ha hb hT
  refine wp_region_held_drew (S := fun W => (∀ i, W.cell? ⟨w.heap.size, i, none⟩ = (#[.int .i64 a.node, .int .i64 a.seq, .int .i64 th, .slice A1 n1 c1, .slice A2 n2 c2, .int .u64 (a.tag : Int)] : Array Value)[i]?) ∧ (∀ i, W.cell? ⟨w.heap.size + 1, i, none⟩ = (#[.int .i64 b.node, .int .i64 b.seq, .int .i64 th', .slice A1' n1' c1', .slice A2' n2' c2', .int .u64 (b.tag : Int)] : Array Value)[i]?) ∧ Fr none w1 W) (by kernel_rfl) ⟨ba.cell, bb.cell, (Fr.refl _ _).drew⟩ (fun hH0 => ?_)
  refine wpAnyH_take (i := 0) (v := ?_) rfl (by kernel_rfl) (by kernel_rfl) (by kernel_rfl) (fun _ _ _ h => h) (Or.inl ⟨by rfl, ?_⟩) (by assumption) ?_
  rotate_left
  · (intro W hW; (try dsimp only at hW); go_simp; try with_reducible rfl)
  try simp only [Act.put, List.setIfInBounds_toArray, List.set_cons_zero, List.set_cons_succ, List.getElem_toArray, List.getElem_cons_zero, List.getElem_cons_succ]
  refine wpAnyH_take (i := 2) (v := ?_) rfl (by kernel_rfl) (by kernel_rfl) (by kernel_rfl) (fun _ _ _ h => h) (Or.inl ⟨by rfl, ?_⟩) (by assumption) ?_
  rotate_left
  · (intro W hW; (try dsimp only at hW); go_simp; try with_reducible rfl)
  try simp only [Act.put, List.setIfInBounds_toArray, List.set_cons_zero, List.set_cons_succ, List.getElem_toArray, List.getElem_cons_zero, List.getElem_cons_succ]
  refine wpAnyH_ready (rs := [1]) (by kernel_rfl) (by simp) ?_
  refine AllReadyH.cons rfl (fun K hK => ?_) AllReadyH.nil
  simp only [List.getElem_toArray, List.getElem_cons_zero, List.getElem_cons_succ]
  go_simp
  go_at_call 22
  refine (rbytes_fixP a Sa HSa _ _ none hsa (Ha.keep (fr_dm hH0.2.2)) (T1.fr hH0.2.2)).mono ?_
  rintro e w2 ⟨rfl, F2⟩
  have F2 := hH0.2.2.pure F2
  refine hK.out _ _ ⟨fun i => (ba.fr F2 (by simp)).cell i, fun i => (bb.fr F2 (by simp)).cell i, F2⟩ (fun hH1 => ?_)
  clear hK K hH0
  try simp only [Act.put, List.setIfInBounds_toArray, List.set_cons_zero, List.set_cons_succ, List.getElem_toArray, List.getElem_cons_zero, List.getElem_cons_succ]
  refine wpAnyH_ready (rs := [3]) (by kernel_rfl) (by simp) ?_
  refine AllReadyH.cons rfl (fun K hK => ?_) AllReadyH.nil
  simp only [List.getElem_toArray, List.getElem_cons_zero, List.getElem_cons_succ]
  go_simp
  go_at_call 22
  refine (rbytes_fixP b Sb HSb _ _ none hsb (Hb.keep (fr_dm F2)) (T1.fr F2)).mono ?_
  rintro e w3 ⟨rfl, F3⟩
  have F3 := F2.pure F3
  refine hK.out _ _ ⟨fun i => (ba.fr F3 (by simp)).cell i, fun i => (bb.fr F3 (by simp)).cell i, F3⟩ (fun hH2 => ?_)
  clear hK K hH1
  try simp only [Act.put, List.setIfInBounds_toArray, List.set_cons_zero, List.set_cons_succ, List.getElem_toArray, List.getElem_cons_zero, List.getElem_cons_succ]
  refine wpAnyH_take (i := 4) (v := ?_) rfl (by kernel_rfl) (by kernel_rfl) (by kernel_rfl) (fun _ _ _ h => h) (Or.inl ⟨by rfl, ?_⟩) (by assumption) ?_
  rotate_left
  · (intro W hW; (try dsimp only at hW); go_simp; try with_reducible rfl)
  try simp only [Act.put, List.setIfInBounds_toArray, List.set_cons_zero, List.set_cons_succ, List.getElem_toArray, List.getElem_cons_zero, List.getElem_cons_succ]
  refine wpAnyH_take (i := 5) (v := ?_) rfl (by kernel_rfl) (by kernel_rfl) (by kernel_rfl) (fun _ _ _ h => h) (Or.inl ⟨by rfl, ?_⟩) (by assumption) ?_
  rotate_left
  · (intro W hW; (try dsimp only at hW); go_simp; try with_reducible rfl)
  try simp only [Act.put, List.setIfInBounds_toArray, List.set_cons_zero, List.set_cons_succ, List.getElem_toArray, List.getElem_cons_zero, List.getElem_cons_succ]
  refine wpAnyH_done (by kernel_rfl) ?_ _
  have ba3 := ba.fr F3 (by simp)
  have bb3 := bb.fr F3 (by simp)
  have Ra := ba3.cell
  have Rb := bb3.cell
  have la3 := blk_lt ba3
  have lb3 := blk_lt bb3
  have F03 := F1.pure F3
  have hc : cmpD a b = if cmpI a.node b.node = 0 then (if cmpI a.seq b.seq = 0 then cmpL (bytesS a) (bytesS b) else cmpI a.seq b.seq) else cmpI a.node b.node := by unfold cmpD; exact orL3 _ _ _
  have HC := Lib.hid hc
  clear hc hH2 F2 F3 ba bb Ha Hb T1
  by_cases hn : a.node = b.node
  · have hn1 : (a.node == b.node) = true := by rw [beq_iff_eq]; exact hn
    have e1 := cmpI_eq hn
    by_cases hq : a.seq = b.seq
    · have hq1 : (a.seq == b.seq) = true := by rw [beq_iff_eq]; exact hq
      have e2 := cmpI_eq hq
      by_cases hx : bytesS a = bytesS b
      · have hx1 : (Sa.toList == Sb.toList) = true := by rw [beq_iff_eq, Hca.out, Hcb.out]; exact hx
        have HV : Hid (cmpD a b = 0) := by unfold Hid; rw [HC.out, if_pos e1, if_pos e2, cmpL_zero]; exact hx
        clear hn hq hx e1 e2
        go_wp2_with fail
        go_ret
        exact ⟨ret_int (by rw [HV.out]), F03⟩
      · have hx1 : (Sa.toList == Sb.toList) = false := by rw [beq_eq_false_iff_ne, Hca.out, Hcb.out]; exact hx
        obtain ⟨p, hp⟩ : ∃ p, Op.bytesLess Sa.toList Sb.toList = p := ⟨_, rfl⟩
        have HV : Hid (cmpD a b = sgn7 p) := by unfold Hid; rw [HC.out, if_pos e1, if_pos e2, cmpL_ne hx, ← hp, Hca.out, Hcb.out]
        clear hn hq hx e1 e2
        go_wp2_with (go_at_call 83; refine (sign7_any _ _).mono ?_; rintro e w4 ⟨rfl, rfl⟩)
        go_ret
        exact ⟨ret_int (by rw [HV.out]), F03⟩
    · have hq1 : (a.seq == b.seq) = false := by rw [beq_eq_false_iff_ne]; exact hq
      have e2 := cmpI_ne hq
      have HV : Hid (cmpD a b = sgn7 (decide (a.seq < b.seq))) := by
        unfold Hid; rw [HC.out, if_pos e1, if_neg (by rw [e2]; unfold sgn7; split <;> omega), e2]
      clear hn hq e1 e2
      go_wp2_with (go_at_call 83; refine (sign7_any _ _).mono ?_; rintro e w4 ⟨rfl, rfl⟩)
      go_ret
      exact ⟨ret_int (by rw [HV.out]), F03⟩
  · have hn1 : (a.node == b.node) = false := by rw [beq_eq_false_iff_ne]; exact hn
    have e1 := cmpI_ne hn
    have HV : Hid (cmpD a b = sgn7 (decide (a.node < b.node))) := by
      unfold Hid; rw [HC.out, if_neg (by rw [e1]; unfold sgn7; split <;> omega), e1]
    clear hn e1
    go_wp2_with (go_at_call 83; refine (sign7_any _ _).mono ?_; rintro e w4 ⟨rfl, rfl⟩)
    go_ret
    exact ⟨ret_int (by rw [HV.out]), F03⟩
end Go.Proofs.YtoblhcieidljjaaGreatDoor

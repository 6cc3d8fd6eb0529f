/- The law NotationBlanks: its walk. -/
import Derived.Test.YtidnnjgiogklaaaDoorProg
import Derived.Test.YtidnnjgiogklaaaDoorCanW
import Derived.Test.YtidnnjgiogklaaaDoorMkTrust
import Derived.Test.YtidnnjgiogklaaaDoorSameW
namespace Go.Proofs.YtidnnjgiogklaaaDoor
open Go.RowKit

theorem BB.join : ∀ {a b y z : List UInt8}, BB a y → BB b z → BB (a ++ b) (y ++ z)
  | [], b, y, z, h, k => by simp only [BB] at h; subst h; simpa using k
  | c :: a, b, y, z, h, k => by
    simp only [BB] at h
    obtain ⟨p, q, r, rfl, hr, h1, h2, h3, h4⟩ := h
    rw [List.cons_append]
    simp only [BB]
    exact ⟨p, q, r ++ z, by simp, BB.join hr k, h1, h2, h3, h4⟩
theorem bb_one (c : UInt8) (p q : List UInt8) (hp : p = [] ∨ p = [32, 32] ∧ (c = 40 ∨ c = 41 ∨ c = 44 ∨ c = 111)) (hq : q = [] ∨ q = [32] ∧ (c = 40 ∨ c = 41 ∨ c = 44 ∨ c = 102)) : BB [c] (p ++ [c] ++ q) := by
  simp only [BB]
  refine ⟨p, q, [], by simp, rfl, ?_, ?_, ?_, ?_⟩
  · rcases hp with rfl | ⟨rfl, _⟩ <;> intro x hx <;> simp at hx <;> simp [hx]
  · rcases hq with rfl | ⟨rfl, _⟩ <;> intro x hx <;> simp at hx <;> simp [hx]
  · rcases hp with rfl | ⟨rfl, h⟩
    · exact .inl rfl
    · exact .inr h
  · rcases hq with rfl | ⟨rfl, h⟩
    · exact .inl rfl
    · exact .inr h
theorem bb0 {a : List UInt8} {O C : ByteArray} {c : UInt8} (h : BB a O.data.toList) (hC : C.data.toList = [c]) : BB (a ++ [c]) (O ++ C).data.toList := by
  have := h.join (bb_one c [] [] (.inl rfl) (.inl rfl))
  simpa [ByteArray.data_append, hC] using this
theorem bb1 {a : List UInt8} {O C : ByteArray} {c : UInt8} (h : BB a O.data.toList) (hC : C.data.toList = [c]) (hp : c = 40 ∨ c = 41 ∨ c = 44 ∨ c = 111) : BB (a ++ [c]) (O ++ ⟨#[32, 32]⟩ ++ C).data.toList := by
  have := h.join (bb_one c [32, 32] [] (.inr ⟨rfl, hp⟩) (.inl rfl))
  simpa [ByteArray.data_append, hC] using this
theorem bb2 {a : List UInt8} {O C : ByteArray} {c : UInt8} (h : BB a O.data.toList) (hC : C.data.toList = [c]) (hq : c = 40 ∨ c = 41 ∨ c = 44 ∨ c = 102) : BB (a ++ [c]) (O ++ C ++ ⟨#[32]⟩).data.toList := by
  have := h.join (bb_one c [] [32] (.inl rfl) (.inr ⟨rfl, hq⟩))
  simpa [ByteArray.data_append, hC] using this
theorem bb3 {a : List UInt8} {O C : ByteArray} {c : UInt8} (h : BB a O.data.toList) (hC : C.data.toList = [c]) (hp : c = 40 ∨ c = 41 ∨ c = 44 ∨ c = 111) (hq : c = 40 ∨ c = 41 ∨ c = 44 ∨ c = 102) : BB (a ++ [c]) (O ++ ⟨#[32, 32]⟩ ++ C ++ ⟨#[32]⟩).data.toList := by
  have := h.join (bb_one c [32, 32] [32] (.inr ⟨rfl, hp⟩) (.inr ⟨rfl, hq⟩))
  simpa [ByteArray.data_append, hC] using this

/-- What blanks leaves. -/
def BlankP (T : TypeId) (S : ByteArray) (g : Nat) (w : World) (e : Ending) (w' : World) : Prop :=
  ∃ O : ByteArray, e = .returned (.string O) ∧ BB S.data.toList O.data.toList ∧ O.size ≤ 4 * S.size ∧ SrcR T w' g ∧ Fr (some g) w w'
set_option maxRecDepth 100000 in
set_option maxHeartbeats 8000000 in
theorem blanks_any (S : ByteArray) (g : Nat) (w : World) (hS : S.size ≤ 3000) (h : SrcR 81 w g) :
    Calls Tryd.prog 39 #[.pointer (some ⟨g, 0, none⟩), .string S] w (BlankP 81 S g w) := by
  go_enter Tryd.func39, Tryd.ntmps39
  go_wp2_with fail
  go_loopw [5, 6, 7] (fun s5 s6 s7 wr => ∃ (i : Nat) (O : ByteArray), i ≤ S.size ∧ s6 = .int .i64 i ∧ s5 = .string O ∧ Hid (BB (S.data.toList.take i) O.data.toList) ∧ O.size ≤ 4 * i ∧ SrcR 81 wr g ∧ Fr (some g) w wr) (fun _ s6 _ _ => S.size - (intOf s6).toNat)
  case atStart => exact ⟨0, ⟨#[]⟩, Nat.zero_le _, rfl, rfl, Lib.hid (by rw [List.take_zero]; rfl), by decide, h, Fr.refl _ _⟩
  case round =>
    obtain ⟨i, O, hi, rfl, rfl, HB, hO, S1, F1⟩ := hrel
    by_cases hlt : i < S.size
    · obtain ⟨c, hc⟩ : ∃ c, c = S[i] := ⟨_, rfl⟩
      have hC : (S.extract i (i + 1)).data.toList = [c] := by
        rw [Lib.extract_data, List.drop_eq_getElem_cons (by simpa using hlt), hc, show i + 1 - i = 1 from by omega]
        rfl
      have htk : S.data.toList.take (i + 1) = S.data.toList.take i ++ [c] := by
        rw [List.take_succ_eq_append_getElem (by simpa using hlt), hc]
        rfl
      have hCz : (S.extract i (i + 1)).size ≤ 1 := by rw [size_list, hC]; simp
      have hx : ∀ x : UInt8, ((S.extract i (i + 1)).toList == [x]) = (c == x) := fun x => by
        rw [ByteArray.toList_eq, hC]
        simp
      have e40 := hx 40
      have e41 := hx 41
      have e44 := hx 44
      have e111 := hx 111
      have e102 := hx 102
      have HC := Lib.hid hC
      have HTK := Lib.hid htk
      clear hx hc hC htk
      have hcase : c = 40 ∨ c = 41 ∨ c = 44 ∨ c = 111 ∨ c = 102 ∨ (c ≠ 40 ∧ c ≠ 41 ∧ c ≠ 44 ∧ c ≠ 111 ∧ c ≠ 102) := by
        by_cases h1 : c = 40
        · exact .inl h1
        · by_cases h2 : c = 41
          · exact .inr (.inl h2)
          · by_cases h3 : c = 44
            · exact .inr (.inr (.inl h3))
            · by_cases h4 : c = 111
              · exact .inr (.inr (.inr (.inl h4)))
              · by_cases h5 : c = 102
                · exact .inr (.inr (.inr (.inr (.inl h5))))
                · exact .inr (.inr (.inr (.inr (.inr ⟨h1, h2, h3, h4, h5⟩))))
      rcases hcase with rfl | rfl | rfl | rfl | rfl | ⟨h1, h2, h3, h4, h5⟩
      · rw [show ((40 : UInt8) == 40) = true from by decide] at e40
        rw [show ((40 : UInt8) == 41) = false from by decide] at e41
        rw [show ((40 : UInt8) == 44) = false from by decide] at e44
        rw [show ((40 : UInt8) == 111) = false from by decide] at e111
        rw [show ((40 : UInt8) == 102) = false from by decide] at e102
        go_wp2_with fail
        refine (tapeN_any 2 g _ (by omega) (by omega) S1).mono ?_
        rintro e w1 ⟨x, rfl, x1, x2, S2, F2⟩
        have hx : x = 0 ∨ x = 1 := by omega
        rcases hx with rfl | rfl
        · go_wp2_with fail
          refine (tapeN_any 3 g _ (by omega) (by omega) S2).mono ?_
          rintro e w2 ⟨y, rfl, y1, y2, S3, F3⟩
          by_cases hy : y = 1
          · subst hy
            go_wp2_with fail
            go_roundw
            case rel => exact ⟨i + 1, _, by omega, by go_num, rfl, Lib.hid (by rw [HTK.out]; exact bb2 HB.out HC.out (by decide)), by simp only [ByteArray.size_append]; (try rw [show (⟨#[32, 32]⟩ : ByteArray).size = 2 from rfl]); (try rw [show (⟨#[32]⟩ : ByteArray).size = 1 from rfl]); omega, S3, (F1.same F2).same F3⟩
            case measure => simp [intOf]; omega
          · have hy0 : (y == 1) = false := by rw [beq_eq_false_iff_ne]; exact hy
            go_wp2_with fail
            go_roundw
            case rel => exact ⟨i + 1, _, by omega, by go_num, rfl, Lib.hid (by rw [HTK.out]; exact bb0 HB.out HC.out), by simp only [ByteArray.size_append]; (try rw [show (⟨#[32, 32]⟩ : ByteArray).size = 2 from rfl]); (try rw [show (⟨#[32]⟩ : ByteArray).size = 1 from rfl]); omega, S3, (F1.same F2).same F3⟩
            case measure => simp [intOf]; omega
        · go_wp2_with fail
          refine (tapeN_any 3 g _ (by omega) (by omega) S2).mono ?_
          rintro e w2 ⟨y, rfl, y1, y2, S3, F3⟩
          by_cases hy : y = 1
          · subst hy
            go_wp2_with fail
            go_roundw
            case rel => exact ⟨i + 1, _, by omega, by go_num, rfl, Lib.hid (by rw [HTK.out]; exact bb3 HB.out HC.out (by decide) (by decide)), by simp only [ByteArray.size_append]; (try rw [show (⟨#[32, 32]⟩ : ByteArray).size = 2 from rfl]); (try rw [show (⟨#[32]⟩ : ByteArray).size = 1 from rfl]); omega, S3, (F1.same F2).same F3⟩
            case measure => simp [intOf]; omega
          · have hy0 : (y == 1) = false := by rw [beq_eq_false_iff_ne]; exact hy
            go_wp2_with fail
            go_roundw
            case rel => exact ⟨i + 1, _, by omega, by go_num, rfl, Lib.hid (by rw [HTK.out]; exact bb1 HB.out HC.out (by decide)), by simp only [ByteArray.size_append]; (try rw [show (⟨#[32, 32]⟩ : ByteArray).size = 2 from rfl]); (try rw [show (⟨#[32]⟩ : ByteArray).size = 1 from rfl]); omega, S3, (F1.same F2).same F3⟩
            case measure => simp [intOf]; omega
      · rw [show ((41 : UInt8) == 40) = false from by decide] at e40
        rw [show ((41 : UInt8) == 41) = true from by decide] at e41
        rw [show ((41 : UInt8) == 44) = false from by decide] at e44
        rw [show ((41 : UInt8) == 111) = false from by decide] at e111
        rw [show ((41 : UInt8) == 102) = false from by decide] at e102
        go_wp2_with fail
        refine (tapeN_any 2 g _ (by omega) (by omega) S1).mono ?_
        rintro e w1 ⟨x, rfl, x1, x2, S2, F2⟩
        have hx : x = 0 ∨ x = 1 := by omega
        rcases hx with rfl | rfl
        · go_wp2_with fail
          refine (tapeN_any 3 g _ (by omega) (by omega) S2).mono ?_
          rintro e w2 ⟨y, rfl, y1, y2, S3, F3⟩
          by_cases hy : y = 1
          · subst hy
            go_wp2_with fail
            go_roundw
            case rel => exact ⟨i + 1, _, by omega, by go_num, rfl, Lib.hid (by rw [HTK.out]; exact bb2 HB.out HC.out (by decide)), by simp only [ByteArray.size_append]; (try rw [show (⟨#[32, 32]⟩ : ByteArray).size = 2 from rfl]); (try rw [show (⟨#[32]⟩ : ByteArray).size = 1 from rfl]); omega, S3, (F1.same F2).same F3⟩
            case measure => simp [intOf]; omega
          · have hy0 : (y == 1) = false := by rw [beq_eq_false_iff_ne]; exact hy
            go_wp2_with fail
            go_roundw
            case rel => exact ⟨i + 1, _, by omega, by go_num, rfl, Lib.hid (by rw [HTK.out]; exact bb0 HB.out HC.out), by simp only [ByteArray.size_append]; (try rw [show (⟨#[32, 32]⟩ : ByteArray).size = 2 from rfl]); (try rw [show (⟨#[32]⟩ : ByteArray).size = 1 from rfl]); omega, S3, (F1.same F2).same F3⟩
            case measure => simp [intOf]; omega
        · go_wp2_with fail
          refine (tapeN_any 3 g _ (by omega) (by omega) S2).mono ?_
          rintro e w2 ⟨y, rfl, y1, y2, S3, F3⟩
          by_cases hy : y = 1
          · subst hy
            go_wp2_with fail
            go_roundw
            case rel => exact ⟨i + 1, _, by omega, by go_num, rfl, Lib.hid (by rw [HTK.out]; exact bb3 HB.out HC.out (by decide) (by decide)), by simp only [ByteArray.size_append]; (try rw [show (⟨#[32, 32]⟩ : ByteArray).size = 2 from rfl]); (try rw [show (⟨#[32]⟩ : ByteArray).size = 1 from rfl]); omega, S3, (F1.same F2).same F3⟩
            case measure => simp [intOf]; omega
          · have hy0 : (y == 1) = false := by rw [beq_eq_false_iff_ne]; exact hy
            go_wp2_with fail
            go_roundw
            case rel => exact ⟨i + 1, _, by omega, by go_num, rfl, Lib.hid (by rw [HTK.out]; exact bb1 HB.out HC.out (by decide)), by simp only [ByteArray.size_append]; (try rw [show (⟨#[32, 32]⟩ : ByteArray).size = 2 from rfl]); (try rw [show (⟨#[32]⟩ : ByteArray).size = 1 from rfl]); omega, S3, (F1.same F2).same F3⟩
            case measure => simp [intOf]; omega
      · rw [show ((44 : UInt8) == 40) = false from by decide] at e40
        rw [show ((44 : UInt8) == 41) = false from by decide] at e41
        rw [show ((44 : UInt8) == 44) = true from by decide] at e44
        rw [show ((44 : UInt8) == 111) = false from by decide] at e111
        rw [show ((44 : UInt8) == 102) = false from by decide] at e102
        go_wp2_with fail
        refine (tapeN_any 2 g _ (by omega) (by omega) S1).mono ?_
        rintro e w1 ⟨x, rfl, x1, x2, S2, F2⟩
        have hx : x = 0 ∨ x = 1 := by omega
        rcases hx with rfl | rfl
        · go_wp2_with fail
          refine (tapeN_any 3 g _ (by omega) (by omega) S2).mono ?_
          rintro e w2 ⟨y, rfl, y1, y2, S3, F3⟩
          by_cases hy : y = 1
          · subst hy
            go_wp2_with fail
            go_roundw
            case rel => exact ⟨i + 1, _, by omega, by go_num, rfl, Lib.hid (by rw [HTK.out]; exact bb2 HB.out HC.out (by decide)), by simp only [ByteArray.size_append]; (try rw [show (⟨#[32, 32]⟩ : ByteArray).size = 2 from rfl]); (try rw [show (⟨#[32]⟩ : ByteArray).size = 1 from rfl]); omega, S3, (F1.same F2).same F3⟩
            case measure => simp [intOf]; omega
          · have hy0 : (y == 1) = false := by rw [beq_eq_false_iff_ne]; exact hy
            go_wp2_with fail
            go_roundw
            case rel => exact ⟨i + 1, _, by omega, by go_num, rfl, Lib.hid (by rw [HTK.out]; exact bb0 HB.out HC.out), by simp only [ByteArray.size_append]; (try rw [show (⟨#[32, 32]⟩ : ByteArray).size = 2 from rfl]); (try rw [show (⟨#[32]⟩ : ByteArray).size = 1 from rfl]); omega, S3, (F1.same F2).same F3⟩
            case measure => simp [intOf]; omega
        · go_wp2_with fail
          refine (tapeN_any 3 g _ (by omega) (by omega) S2).mono ?_
          rintro e w2 ⟨y, rfl, y1, y2, S3, F3⟩
          by_cases hy : y = 1
          · subst hy
            go_wp2_with fail
            go_roundw
            case rel => exact ⟨i + 1, _, by omega, by go_num, rfl, Lib.hid (by rw [HTK.out]; exact bb3 HB.out HC.out (by decide) (by decide)), by simp only [ByteArray.size_append]; (try rw [show (⟨#[32, 32]⟩ : ByteArray).size = 2 from rfl]); (try rw [show (⟨#[32]⟩ : ByteArray).size = 1 from rfl]); omega, S3, (F1.same F2).same F3⟩
            case measure => simp [intOf]; omega
          · have hy0 : (y == 1) = false := by rw [beq_eq_false_iff_ne]; exact hy
            go_wp2_with fail
            go_roundw
            case rel => exact ⟨i + 1, _, by omega, by go_num, rfl, Lib.hid (by rw [HTK.out]; exact bb1 HB.out HC.out (by decide)), by simp only [ByteArray.size_append]; (try rw [show (⟨#[32, 32]⟩ : ByteArray).size = 2 from rfl]); (try rw [show (⟨#[32]⟩ : ByteArray).size = 1 from rfl]); omega, S3, (F1.same F2).same F3⟩
            case measure => simp [intOf]; omega
      · rw [show ((111 : UInt8) == 40) = false from by decide] at e40
        rw [show ((111 : UInt8) == 41) = false from by decide] at e41
        rw [show ((111 : UInt8) == 44) = false from by decide] at e44
        rw [show ((111 : UInt8) == 111) = true from by decide] at e111
        rw [show ((111 : UInt8) == 102) = false from by decide] at e102
        go_wp2_with fail
        refine (tapeN_any 2 g _ (by omega) (by omega) S1).mono ?_
        rintro e w1 ⟨x, rfl, x1, x2, S2, F2⟩
        have hx : x = 0 ∨ x = 1 := by omega
        rcases hx with rfl | rfl
        · go_wp2_with fail
          go_roundw
          case rel => exact ⟨i + 1, _, by omega, by go_num, rfl, Lib.hid (by rw [HTK.out]; exact bb0 HB.out HC.out), by simp only [ByteArray.size_append]; (try rw [show (⟨#[32, 32]⟩ : ByteArray).size = 2 from rfl]); (try rw [show (⟨#[32]⟩ : ByteArray).size = 1 from rfl]); omega, S2, F1.same F2⟩
          case measure => simp [intOf]; omega
        · go_wp2_with fail
          go_roundw
          case rel => exact ⟨i + 1, _, by omega, by go_num, rfl, Lib.hid (by rw [HTK.out]; exact bb1 HB.out HC.out (by decide)), by simp only [ByteArray.size_append]; (try rw [show (⟨#[32, 32]⟩ : ByteArray).size = 2 from rfl]); (try rw [show (⟨#[32]⟩ : ByteArray).size = 1 from rfl]); omega, S2, F1.same F2⟩
          case measure => simp [intOf]; omega
      · rw [show ((102 : UInt8) == 40) = false from by decide] at e40
        rw [show ((102 : UInt8) == 41) = false from by decide] at e41
        rw [show ((102 : UInt8) == 44) = false from by decide] at e44
        rw [show ((102 : UInt8) == 111) = false from by decide] at e111
        rw [show ((102 : UInt8) == 102) = true from by decide] at e102
        go_wp2_with fail
        refine (tapeN_any 3 g _ (by omega) (by omega) S1).mono ?_
        rintro e w2 ⟨y, rfl, y1, y2, S3, F3⟩
        by_cases hy : y = 1
        · subst hy
          go_wp2_with fail
          go_roundw
          case rel => exact ⟨i + 1, _, by omega, by go_num, rfl, Lib.hid (by rw [HTK.out]; exact bb2 HB.out HC.out (by decide)), by simp only [ByteArray.size_append]; (try rw [show (⟨#[32, 32]⟩ : ByteArray).size = 2 from rfl]); (try rw [show (⟨#[32]⟩ : ByteArray).size = 1 from rfl]); omega, S3, F1.same F3⟩
          case measure => simp [intOf]; omega
        · have hy0 : (y == 1) = false := by rw [beq_eq_false_iff_ne]; exact hy
          go_wp2_with fail
          go_roundw
          case rel => exact ⟨i + 1, _, by omega, by go_num, rfl, Lib.hid (by rw [HTK.out]; exact bb0 HB.out HC.out), by simp only [ByteArray.size_append]; (try rw [show (⟨#[32, 32]⟩ : ByteArray).size = 2 from rfl]); (try rw [show (⟨#[32]⟩ : ByteArray).size = 1 from rfl]); omega, S3, F1.same F3⟩
          case measure => simp [intOf]; omega
      · have k40 : (c == 40) = false := by rw [beq_eq_false_iff_ne]; exact h1
        have k41 : (c == 41) = false := by rw [beq_eq_false_iff_ne]; exact h2
        have k44 : (c == 44) = false := by rw [beq_eq_false_iff_ne]; exact h3
        have k111 : (c == 111) = false := by rw [beq_eq_false_iff_ne]; exact h4
        have k102 : (c == 102) = false := by rw [beq_eq_false_iff_ne]; exact h5
        rw [k40] at e40
        rw [k41] at e41
        rw [k44] at e44
        rw [k111] at e111
        rw [k102] at e102
        clear k40 k41 k44 k111 k102 h1 h2 h3 h4 h5
        go_wp2_with fail
        go_roundw
        case rel => exact ⟨i + 1, _, by omega, by go_num, rfl, Lib.hid (by rw [HTK.out]; exact bb0 HB.out HC.out), by simp only [ByteArray.size_append]; (try rw [show (⟨#[32, 32]⟩ : ByteArray).size = 2 from rfl]); (try rw [show (⟨#[32]⟩ : ByteArray).size = 1 from rfl]); omega, S1, F1⟩
        case measure => simp [intOf]; omega
    · obtain rfl : i = S.size := by omega
      go_wp2_with fail
      go_ret
      exact ⟨O, rfl, by have := HB.out; rwa [List.take_of_length_le (by simp)] at this, hO, S1, F1⟩

theorem parse_nil : parseP [] = .no 0 2 := by kernel_rfl
set_option maxRecDepth 100000 in
set_option maxHeartbeats 4000000 in
theorem law03b_any (v : Value) (l : List Int) (w : World) (hl : SlI w none v l) (hT : Tab w) : Calls Tryd.prog 8 #[v] w fun e w' => e = .returned (.bool true) ∧ Fr none w w' := by
  go_enter Tryd.func8, Tryd.ntmps8
  go_wp2_with fail
  refine (tapeNew_any _ _ _ hl).mono ?_
  rintro e w1 ⟨g, rfl, hg, S1, F1⟩
  have T1 := hT.fr F1
  clear hl
  go_wp2_with fail
  refine (tapeRange_any 1 10 g _ (by omega) (by omega) (by omega) S1).mono ?_
  rintro e w2 ⟨x, rfl, x1, x2, S2, F2⟩
  obtain ⟨m, rfl⟩ := Int.eq_ofNat_of_zero_le (show 0 ≤ x by omega)
  have T2 := T1.src S1 F2
  go_wp2_with fail
  refine (mkTrust_any m 3 g _ (by omega) (by omega) (by omega) (by omega) S2).mono ?_
  rintro e w3 ⟨tv, t, rfl, hD, hv, hdp, hni, S3, F3⟩
  have T3 := T2.src S2 F3
  have g3 := S3.lt
  have hg3 : g < w2.heap.size := S2.lt
  have F03 := F1.own (F2.same F3) (fun q hq => by injection hq with hq; omega)
  obtain ⟨th, A1, n1, c1, A2, n2, c2, rfl⟩ := hD.shape
  have hsz := (valid_check hv).2.1
  have hok := valid_ok hv
  have hlen := valid_len hv
  have htx : textT t = txT t := by unfold textT; rw [if_pos hv]
  have HTX := Lib.hid htx
  have HV := Lib.hid hv
  have HOK := Lib.hid hok
  have FA := (Fr.refl none w3).alloc (.cells #[.int .i64 th, .slice A1 n1 c1, .slice A2 n2 c2] 27)
  have hDg : TrD (w3.alloc (.cells #[.int .i64 th, .slice A1 n1 c1, .slice A2 n2 c2] 27)) (Dm _ (some g)) _ t := TrD.keep (fr_dm FA.mono) _ _ (TrD.keep (dn_dm (by simp; omega)) _ _ hD)
  have B4 : Hid ((w3.alloc (.cells #[.int .i64 th, .slice A1 n1 c1, .slice A2 n2 c2] 27)).heap[w3.heap.size]? = some (.cells #[.int .i64 th, .slice A1 n1 c1, .slice A2 n2 c2] 27 (0, 0))) := blk_new _ _
  have S4 := S3.fr FA
  have T4 := T3.fr FA
  have F04 := F03.pure FA
  have hne4 : w3.heap.size ≠ g := by omega
  clear hv htx hok S1 S2 S3 F1 F2 F3 T1 T2 T3 hD F03
  go_wp2_with fail
  generalize hW : w3.alloc _ = w4 at *
  clear hW FA
  refine (text3_any t _ _ (some g) (by omega) hDg T4).mono ?_
  rintro e w5 ⟨S, rfl, hS, hSs, F5⟩
  rw [HTX.out] at hS
  have hSz : S.size ≤ 2410 := by rw [hS, bs_size]; exact hlen
  have hSd : S.data.toList = txT t := by rw [hS, bs_list]
  have HSD := Lib.hid hSd
  have HS := Lib.hid hS
  have S5 := S4.fr F5
  have T5 := T4.fr F5
  have F05 := F04.pure F5
  have hD5 := TrD.keep (fr_dm (F5.mono (r := some g))) _ _ hDg
  have B5 := Lib.hid (blk_fr B4.out F5 (by simp))
  clear hSd hS hSs S4 T4 F04 hDg B4
  go_wp2_with fail
  refine (blanks_any S g _ (by omega) S5).mono ?_
  rintro e w6 ⟨O, rfl, hO, hOz, S6, F6⟩
  have T6 := T5.src S5 F6
  have F06 := F05.own F6 (fun q hq => by injection hq with hq; omega)
  have hD6 := TrD.keep dm_none _ _ (TrD.keep (fr_dm F6) _ _ hD5)
  have B6 := Lib.hid (blk_fr B5.out F6 (by simp; omega))
  rw [HSD.out] at hO
  have HO := Lib.hid hO
  clear hO S5 S6 T5 F05 F5 hD5 B5 F6
  by_cases hlong : 6000 < O.size
  · have hp : parseP O.data.toList = .no 0 3 := by unfold parseP; rw [if_pos (by rw [← size_list]; exact hlong)]
    have HP := Lib.hid hp
    clear hp
    go_wp2_with fail
    refine (parse_noW O 0 3 _ HP.out).mono ?_
    rintro e w7 ⟨rfl, F7⟩
    go_wp2_with fail
    refine (canon_no O 0 3 _ HP.out (by decide)).mono ?_
    rintro e w8 ⟨rfl, F8⟩
    go_wp2_with fail
    refine (canon_no ⟨#[]⟩ 0 2 _ parse_nil (by decide)).mono ?_
    rintro e w9 ⟨rfl, F9⟩
    have F69 := ((F7.alloc (.cells #[.int .i64 0, .slice none 0 0, .slice none 0 0] 27)).pure F8).pure F9
    go_wp2_with fail
    refine (awake3_any _ (T6.fr F69)).mono ?_
    rintro e w10 ⟨rfl, F10⟩
    go_wp2_with fail
    go_ret
    exact ⟨rfl, (F06.pure F69).pure F10⟩
  · have hp := parse_ok t HOK.out HV.out O.data.toList HO.out (by rw [← size_list]; omega)
    have hp2 := parse_ok t HOK.out HV.out (txT t) (BB.refl _) (by omega)
    have HP := Lib.hid hp
    have HP2 := Lib.hid hp2
    have hO6 : O.size ≤ 6000 := by omega
    have hss : sameT t t = true := (sameT_iff t t).2 rfl
    have HSS := Lib.hid hss
    clear hp hp2 hlong hss
    go_wp2_with fail
    refine (parse_okW O t _ HP.out).mono ?_
    rintro e w7 ⟨th', a1, m1, e1, a2, m2, e2, rfl, hE, F7⟩
    have FB := (Fr.refl none w7).alloc (.cells #[.int .i64 th', .slice a1 m1 e1, .slice a2 m2 e2] 27)
    have hE8 := TrD.keep (fr_dm (r := none) FB) _ _ (TrD.keep (dn_dm (by simp)) _ _ hE)
    have C8 : Hid ((w7.alloc (.cells #[.int .i64 th', .slice a1 m1 e1, .slice a2 m2 e2] 27)).heap[w7.heap.size]? = some (.cells #[.int .i64 th', .slice a1 m1 e1, .slice a2 m2 e2] 27 (0, 0))) := blk_new _ _
    have F68 := F7.pure FB
    clear hE
    go_wp2_with fail
    generalize hW : w7.alloc _ = w8 at *
    clear hW FB
    refine (canon_ok O t _ (T6.fr F68) HP.out).mono ?_
    rintro e w9 ⟨X, rfl, hX, hXs, F9⟩
    have F69 := F68.pure F9
    have hXd : X.data.toList = txT t := by rw [hX, bs_list]
    have HP3 := Lib.hid (hXd ▸ HP2.out : parseP X.data.toList = .ok t)
    have HX := Lib.hid hX
    clear hXd hX hXs
    go_wp2_with fail
    refine (canon_ok X t _ (T6.fr F69) HP3.out).mono ?_
    rintro e w10 ⟨Y, rfl, hY, hYs, F10⟩
    have F6a := F69.pure F10
    have q1 : (X.toList == S.toList) = true := by rw [HX.out, HS.out, beq_iff_eq]
    have q2 : (Y.toList == S.toList) = true := by rw [hY, HS.out, beq_iff_eq]
    have R4 := blk_cell (blk_fr B6.out F6a (by simp))
    have R8 := blk_cell (blk_fr C8.out (F9.pure F10) (by simp))
    have hDa := TrD.keep (fr_dm (r := none) F6a) _ _ hD6
    have hEa := TrD.keep (fr_dm (r := none) (F9.pure F10)) _ _ hE8
    have Ta := T6.fr F6a
    have hl4 := blk_lt B6.out
    have hl8 := blk_lt C8.out
    have hza := F6a.size
    have hzb := (F9.pure F10).size
    clear hY hYs
    go_wp2_with fail
    refine (rsame_any t.dep t t _ _ _ none (Nat.le_refl _) hDa hEa).mono ?_
    rintro e w11 ⟨rfl, F11⟩
    rw [HSS.out]
    go_wp2_with fail
    refine (awake3_any _ (Ta.fr F11)).mono ?_
    rintro e w12 ⟨rfl, F12⟩
    go_wp2_with fail
    go_ret
    exact ⟨rfl, ((F06.pure F6a).pure F11).pure F12⟩
end Go.Proofs.YtidnnjgiogklaaaDoor

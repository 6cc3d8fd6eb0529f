/- Walks: strings.Cut at a blank; declaration.number. -/
import Derived.Test.YtoblhcieidljjaaGreatDoorProg
import Derived.Test.YtoblhcieidljjaaGreatDoorShelf
import Derived.Test.YtoblhcieidljjaaGreatDoorJG14
import Derived.Test.YtoblhcieidljjaaGreatDoorDecPJ
import Derived.Test.YtoblhcieidljjaaGreatDoorJG10
import Derived.Shelf.RegionOpenPlain
set_option linter.unusedSimpArgs false
set_option linter.unusedVariables false
namespace Go.Proofs.YtoblhcieidljjaaGreatDoor
open Go.RowKit

theorem idxB_at : ∀ (a X : List UInt8) (c : UInt8), (∀ x ∈ a, x ≠ c) → Lib.indexByte (a ++ c :: X) c = a.length
  | [], X, c, _ => by simp [Lib.indexByte]
  | b :: a, X, c, h => by
    have hb : (b == c) = false := by rw [beq_eq_false_iff_ne]; exact h b (by simp)
    have ih := idxB_at a X c (fun x hx => h x (List.mem_cons_of_mem _ hx))
    simp only [List.cons_append, Lib.indexByte, hb, ih]
    have : ((a.length : Int) == -1) = false := by rw [beq_eq_false_iff_ne]; omega
    simp [this]
theorem cutl_any (S : ByteArray) (a X : List UInt8) (hS : S.data.toList = a ++ 32 :: X) (ha : ∀ c ∈ a, c ≠ 32) (hz : S.size ≤ 1073741824) (w : World) :
    Calls Tryz.prog 169 #[.string S, .string ⟨#[32]⟩] w fun e w' => e = .returned (.tuple #[.string (bs a), .string (bs X), .bool true]) ∧ Fr none w w' := by
  have hi : Lib.indexByte S.data.toList 32 = (a.length : Int) := by rw [hS]; exact idxB_at a X 32 ha
  have hl : S.size = a.length + (X.length + 1) := by rw [size_list, hS]; simp
  obtain ⟨i, hii⟩ : ∃ i, i = a.length := ⟨_, rfl⟩
  rw [← hii] at hi hl
  have x1 : S.extract 0 i = bs a := by
    apply ByteArray.ext
    apply Array.toList_inj.1
    rw [Lib.extract_data, hS, hii]
    simp [bs]
  have x2 : S.extract (i + 1) S.size = bs X := by
    apply ByteArray.ext
    apply Array.toList_inj.1
    rw [Lib.extract_to_end, hS, hii]
    simp [bs]
  have c1 : (0 : Int) ≤ (i : Int) := by omega
  have c2 : (i : Int) ≤ (S.size : Int) := by omega
  have c3 : (0 : Int) ≤ (i : Int) + 1 := by omega
  have c4 : (i : Int) + 1 ≤ (S.size : Int) := by omega
  have mixed : Tryz.prog.follows Departure.mixedOrders = true := by kernel_rfl
  have cw : IntKind.i64.wrap ((i : Int) + 1) = (i : Int) + 1 := by rw [IntKind.wrap_i64]; omega
  have ct : ((i : Int) + 1).toNat = i + 1 := by omega
  have HI := Lib.hid hi
  have X1 := Lib.hid x1
  have X2 := Lib.hid x2
  clear hi hl hii hS ha x1 x2
  go_enter Tryz.func169, Tryz.ntmps169
  go_wp2_with (go_at_call 189; refine (Tryz.stringslite_Index_one S 32 _).mono ?_; rintro e w' ⟨rfl, hw⟩; rw [hw]; clear hw w'; rw [HI.out])
  go_region_o
  go_wp2
  go_ret3
  rw [X1.out, X2.out]
  exact ⟨rfl, (Fr.refl _ _).drew⟩
theorem cut_any (S : ByteArray) (a X : List UInt8) (hS : S.data.toList = a ++ 32 :: X) (ha : ∀ c ∈ a, c ≠ 32) (hz : S.size ≤ 1073741824) (w : World) :
    Calls Tryz.prog 131 #[.string S, .string ⟨#[32]⟩] w fun e w' => e = .returned (.tuple #[.string (bs a), .string (bs X), .bool true]) ∧ Fr none w w' := by
  go_enter Tryz.func131, Tryz.ntmps131
  go_wp2_with fail
  refine (cutl_any S a X hS ha hz _).mono ?_
  rintro e w2 ⟨rfl, F⟩
  go_wp2_with fail
  go_ret3
  exact ⟨rfl, F⟩

theorem itoa_blank {k : Int} (h0 : 0 ≤ k) (h1 : k < 100) : ∀ c ∈ Lib.itoa k, c ≠ 32 := fun c hc e => by
  obtain ⟨n, rfl⟩ := Int.eq_ofNat_of_zero_le h0
  rw [Lib.itoa_nonneg] at hc
  have := dec_dg n c hc
  subst e
  exact absurd this (by decide)
theorem atoi_itoa {k : Int} (h0 : 0 ≤ k) : Lib.atoi (Lib.itoa k) = some k := by
  obtain ⟨n, rfl⟩ := Int.eq_ofNat_of_zero_le h0
  rw [Lib.itoa_nonneg, atoi_num (dec_ne n) (dec_dg n), numV_dec]
theorem num_any (S : ByteArray) (k : Int) (X : List UInt8) (h0 : 0 ≤ k) (h1 : k < 100) (hS : S.data.toList = Lib.itoa k ++ 32 :: X) (hzS : S.size ≤ 1073741824) (w : World) :
    Calls Tryz.prog 87 #[.string S] w fun e w' => e = .returned (.tuple #[.int .i64 k, .string (bs X)]) ∧ Fr none w w' := by
  have ha := atoi_itoa h0
  rw [← bs_list (Lib.itoa k)] at ha
  have hz : (bs (Lib.itoa k)).size ≤ 18 := by
    rw [bs_size]
    have := itoa_len4 (k := k) ⟨by omega, by omega⟩
    omega
  have HB := Lib.hid (itoa_blank h0 h1)
  have HS := Lib.hid hS
  have HA := Lib.hid ha
  have HZ := Lib.hid hz
  clear ha hz hS
  go_enter Tryz.func87, Tryz.ntmps87
  go_wp2_with fail
  refine (cut_any S _ X HS.out HB.out hzS _).mono ?_
  rintro e w1 ⟨rfl, F1⟩
  go_wp2_with fail
  refine (Tryz.strconv_Atoi _ k HZ.out HA.out _).mono ?_
  rintro e w2 ⟨rfl, t, hw2⟩
  have F2 : Fr none w1 w2 := hw2 ▸ Fr.of_below (Lib.bytesWorld_below _ _ _)
  clear hw2
  go_wp2_with fail
  go_ret2
  exact ⟨rfl, F1.pure F2⟩
end Go.Proofs.YtoblhcieidljjaaGreatDoor

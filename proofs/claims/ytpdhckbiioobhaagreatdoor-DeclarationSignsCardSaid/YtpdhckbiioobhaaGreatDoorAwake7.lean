/- The sanity check of layer 7's laws. -/
import Derived.Test.YtpdhckbiioobhaaGreatDoorProg
import Derived.Test.YtpdhckbiioobhaaGreatDoorSignW
namespace Go.Proofs.YtpdhckbiioobhaaGreatDoor
open Go.RowKit

def t34 : Tr := .mk 1 [3, 4] []
theorem plain34 : plainE ⟨3, 1, t34, 0⟩ = 0 := by
  refine plain_mk (by omega) (by omega) (by omega) (by omega) ?_ ?_ ?_
  · decide +kernel
  · simp [t34, Tr.dep, depL]
  · simp [t34, Tr.size, sizeL]
theorem bytes34 (x : Nat) : bs (bytesS ⟨3, 1, t34, x⟩) = ⟨#[100, 32, 51, 32, 49, 32, 49, 32, 111, 102, 32, 40, 51, 44, 32, 52, 41]⟩ := by
  have i : ∀ n : Nat, n < 10 → Lib.itoa (n : Int) = [UInt8.ofNat (48 + n)] := fun n hn => by
    rw [Lib.itoa_nonneg, Lib.decDigits_one hn]
  have i1 := i 1 (by omega)
  have i3 := i 3 (by omega)
  have i4 := i 4 (by omega)
  have hp := plain34
  rw [plain_tag 3 1 t34 0 x] at hp
  unfold bytesS
  rw [if_pos hp]
  simp only [t34, txT, ndW, List.map_cons, List.map_nil, txL, List.append_nil]
  have j1 : Lib.itoa 1 = [49] := i1
  have j3 : Lib.itoa 3 = [51] := i3
  have j4 : Lib.itoa 4 = [52] := i4
  rw [j1, j3, j4]
  rfl
theorem hash0 : hashS (⟨#[]⟩ : ByteArray).data.toList = 14695981039346656037 := rfl
theorem hash1 : hashS (⟨#[97]⟩ : ByteArray).data.toList = 12638187200555641996 := by decide +kernel

set_option maxRecDepth 100000 in
set_option maxHeartbeats 1000000 in
theorem awake7_any (w : World) (hT : Tab w) : Calls Tryz.prog 39 #[] w fun e w' => e = .returned (.bool true) ∧ Fr none w w' := by
  have F0 := (Fr.refl none w).alloc (.cells #[.int .i64 3, .int .i64 4] 3)
  have h0 : TrR (w.alloc (.cells #[.int .i64 3, .int .i64 4] 3)) none (.agg #[.int .i64 1, .slice (some ⟨w.heap.size, 0, none⟩) 2 2, .slice none 0 0]) t34 :=
    TrD.mk_ (by constructor <;> omega) (SlD.lit_dm #[.int .i64 3, .int .i64 4] 3 2 1 rfl (by decide) (by simp) (Fr.refl _ _)) (by intro x hx; simp at hx; constructor <;> omega) (SlD.nil _ _ _) (by simp) (by simp) (by simp [TrsD])
  have T0 := hT.fr F0
  have HP := Lib.hid plain34
  have HB := Lib.hid bytes34
  have H0 := Lib.hid hash0
  have H1 := Lib.hid hash1
  go_enter Tryz.func39, Tryz.ntmps39
  go_wp2_with fail
  refine (sign_any 7 (by omega) 3 1 t34 _ _ none (by constructor <;> omega) (by constructor <;> omega) h0 T0 HP.out).mono ?_
  rintro e w1 ⟨v, rfl, hD, F1⟩
  obtain ⟨th, A1, n1, c1, A2, n2, c2, rfl, hTr, _, _, htg⟩ := hD.shape
  have F01 := F0.pure F1
  simp only at htg ⊢
  obtain ⟨tg, hg⟩ : ∃ tg, tg = tagS 7 (bytesS ⟨3, 1, t34, 0⟩) := ⟨_, rfl⟩
  rw [← hg] at hD htg ⊢
  have HTG := Lib.hid htg
  have h1 : DeD (w1.alloc (.cells #[.int .i64 3, .int .i64 1, .int .i64 th, .slice A1 n1 c1, .slice A2 n2 c2, .int .u64 (tg : Nat)] 61)) (Dm _ none) (.agg #[.int .i64 3, .int .i64 1, .int .i64 th, .slice A1 n1 c1, .slice A2 n2 c2, .int .u64 (tg : Nat)]) ⟨3, 1, t34, tg⟩ :=
    ded_mk (TrD.keep (fr_dm ((Fr.refl none w1).alloc _)) _ _ (TrD.keep (dn_dm (by simp)) _ _ hTr)) (by constructor <;> omega) (by constructor <;> omega) htg
  have T1 := (hT.fr F01).fr ((Fr.refl none w1).alloc (.cells #[.int .i64 3, .int .i64 1, .int .i64 th, .slice A1 n1 c1, .slice A2 n2 c2, .int .u64 (tg : Nat)] 61))
  clear hg htg hD hTr
  go_wp2_with (first | (go_at_call 56; refine (bytes_any ⟨3, 1, t34, tg⟩ _ _ none (by simp [t34, Tr.size, sizeL]) h1 T1).mono ?_; rintro e w2 ⟨S, rfl, hS, hSs, F2⟩; rw [HB.out] at hS; subst hS; clear hSs) | (go_at_call 66; refine (hash_any _ _ (by decide)).mono ?_; rintro e w3 ⟨rfl, F3⟩; first | rw [H0.out] | rw [H1.out]))
  go_ret
  exact ⟨rfl, (((F01.alloc _).pure F2).pure ‹Fr none w2 _›).pure F3⟩
end Go.Proofs.YtpdhckbiioobhaaGreatDoor

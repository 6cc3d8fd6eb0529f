/- Walks: Parse in two forms, Canonical; the sanity check of layer 3's laws. -/
import Derived.Test.YtidnnjgiogklaaaDoorProg
import Derived.Test.YtidnnjgiogklaaaDoorRdQ
import Derived.Test.YtidnnjgiogklaaaDoorTxtW
import Derived.Test.YtidnnjgiogklaaaDoorParV
namespace Go.Proofs.YtidnnjgiogklaaaDoor
open Go.RowKit

def ParOk (t : Tr) (w : World) (e : Ending) (w' : World) : Prop :=
  ∃ (th : Int) (A1 : Option Addr) (n1 c1 : Nat) (A2 : Option Addr) (n2 c2 : Nat), e = .returned (.tuple #[.agg #[.int .i64 th, .slice A1 n1 c1, .slice A2 n2 c2], .int .i64 0, .int .i64 0]) ∧ TrD w' (Dn w.heap.size w') (.agg #[.int .i64 th, .slice A1 n1 c1, .slice A2 n2 c2]) t ∧ Fr none w w'
theorem parse_okW (S : ByteArray) (t : Tr) (w : World) (hp : parseP S.data.toList = .ok t) : Calls Tryd.prog 37 #[.string S] w (ParOk t w) :=
  (parse_any S w).mono fun e w' ⟨th, A1, n1, c1, A2, n2, c2, k, er, he, F, _, h⟩ => by
    rw [hp] at h
    obtain ⟨rfl, rfl, h1, _⟩ := h
    exact ⟨th, A1, n1, c1, A2, n2, c2, he, h1, F⟩
theorem parse_noW (S : ByteArray) (a : Nat) (x : Int) (w : World) (hp : parseP S.data.toList = .no a x) :
    Calls Tryd.prog 37 #[.string S] w fun e w' => e = .returned (.tuple #[.agg #[.int .i64 0, .slice none 0 0, .slice none 0 0], .int .i64 (a : Int), .int .i64 x]) ∧ Fr none w w' :=
  (parse_any S w).mono fun e w' ⟨th, A1, n1, c1, A2, n2, c2, k, er, he, F, _, h⟩ => by
    rw [hp] at h
    obtain ⟨rfl, rfl, h1⟩ := h
    rw [h1] at he
    exact ⟨he, F⟩
theorem ok_valid {s : List UInt8} {t : Tr} (h : parseP s = .ok t) : validE t = 0 := by
  unfold parseP at h
  split at h
  · cases h
  · split at h
    · cases h
    · split at h
      · cases h
      · split at h
        · cases h
        · rename_i h1
          injection h with h
          subst h
          simpa using h1

/-- What Canonical leaves. -/
def CanE (l : List UInt8) (w : World) (e : Ending) (w' : World) : Prop := ∃ X : ByteArray, e = .returned (.tuple #[.string X, .int .i64 0]) ∧ X = bs l ∧ X.size ≤ 34359738368 ∧ Fr none w w'
theorem canon_ok (S : ByteArray) (t : Tr) (w : World) (hT : Tab w) (hp : parseP S.data.toList = .ok t) : Calls Tryd.prog 40 #[.string S] w (CanE (txT t) w) := by
  have hv := valid_check (ok_valid hp)
  have HP := Lib.hid hp
  have h1 := hv.2.1
  have h2 := hv.2.2
  clear hp hv
  go_enter Tryd.func40, Tryd.ntmps40
  go_wp2_with fail
  refine (parse_okW S t _ HP.out).mono ?_
  rintro e w1 ⟨th, A1, n1, c1, A2, n2, c2, rfl, hD, F1⟩
  have F2 := (Fr.refl none w1).alloc (.cells #[.int .i64 th, .slice A1 n1 c1, .slice A2 n2 c2] 27)
  have hD2 : TrR _ none _ t := TrD.keep (fr_dm F2) _ _ (TrD.keep (dn_dm (by simp)) _ _ hD)
  have T2 := (hT.fr F1).fr F2
  go_wp2_with fail
  refine (write_any t.dep t _ _ none (Nat.le_refl _) (by omega) hD2 T2).mono ?_
  rintro e w3 ⟨X, rfl, hX, hXs, F3⟩
  have HX := Lib.hid hX
  clear hX
  go_wp2_with fail
  go_ret2
  exact ⟨X, rfl, HX.out, hXs, (F1.pure F2).pure F3⟩

theorem canon_no (S : ByteArray) (a : Nat) (x : Int) (w : World) (hp : parseP S.data.toList = .no a x) (hx : x ≠ 0) :
    Calls Tryd.prog 40 #[.string S] w fun e w' => e = .returned (.tuple #[.string ⟨#[]⟩, .int .i64 x]) ∧ Fr none w w' := by
  have hx0 : (x != 0) = true := by rw [bne_iff_ne]; exact hx
  have HP := Lib.hid hp
  clear hp hx
  go_enter Tryd.func40, Tryd.ntmps40
  go_wp2_with fail
  refine (parse_noW S a x _ HP.out).mono ?_
  rintro e w1 ⟨rfl, F1⟩
  go_wp2_with fail
  go_ret2
  exact ⟨rfl, F1.alloc _⟩

theorem aw1 : parseP [50, 111, 102, 40, 32, 49, 32, 111, 102, 32, 40, 50, 44, 51, 41, 44, 48, 32, 41] = .ok (.mk 2 [0] [.mk 1 [2, 3] []]) := by kernel_rfl
theorem aw2 : parseP [50, 32, 111, 102, 32, 40, 48, 44, 32, 41] = .no 9 2 := by kernel_rfl
theorem aw3 : parseP [50, 32, 111, 102, 32, 40, 48] = .no 7 2 := by kernel_rfl
theorem aw4 : parseP [48, 50, 32, 111, 102, 32, 40, 48, 41] = .no 0 2 := by kernel_rfl
theorem aw5 : txT (.mk 2 [0] [.mk 1 [2, 3] []]) = [50, 32, 111, 102, 32, 40, 48, 44, 32, 49, 32, 111, 102, 32, 40, 50, 44, 32, 51, 41, 41] := by
  have i : ∀ n : Nat, n < 10 → Lib.itoa (n : Int) = [UInt8.ofNat (48 + n)] := fun n hn => by
    rw [Lib.itoa_nonneg, Lib.decDigits_one hn]
  have j0 : Lib.itoa 0 = [48] := i 0 (by omega)
  have j1 : Lib.itoa 1 = [49] := i 1 (by omega)
  have j2 : Lib.itoa 2 = [50] := i 2 (by omega)
  have j3 : Lib.itoa 3 = [51] := i 3 (by omega)
  simp only [txT, ndW, List.map_cons, List.map_nil, txL, List.append_nil]
  rw [j0, j1, j2, j3]
  rfl
set_option maxRecDepth 100000 in
set_option maxHeartbeats 1000000 in
theorem awake3_any (w : World) (hT : Tab w) : Calls Tryd.prog 32 #[] w fun e w' => e = .returned (.bool true) ∧ Fr none w w' := by
  go_enter Tryd.func32, Tryd.ntmps32
  go_wp2_with fail
  refine (canon_ok _ _ _ hT aw1).mono ?_
  rintro e w1 ⟨X, rfl, hX, hXs, F1⟩
  rw [aw5] at hX
  subst hX
  go_wp2_with fail
  refine (parse_noW _ 9 2 _ aw2).mono ?_
  rintro e w2 ⟨rfl, F2⟩
  go_wp2_with fail
  refine (parse_noW _ 7 2 _ aw3).mono ?_
  rintro e w3 ⟨rfl, F3⟩
  go_wp2_with fail
  refine (parse_noW _ 0 2 _ aw4).mono ?_
  rintro e w4 ⟨rfl, F4⟩
  have he : ((bs [50, 32, 111, 102, 32, 40, 48, 44, 32, 49, 32, 111, 102, 32, 40, 50, 44, 32, 51, 41, 41]).toList == [50, 32, 111, 102, 32, 40, 48, 44, 32, 49, 32, 111, 102, 32, 40, 50, 44, 32, 51, 41, 41]) = true := by rw [ByteArray.toList_eq, bs_list]; rfl
  go_wp2_with fail
  go_ret
  exact ⟨rfl, ((F1.pure F2).alloc _).pure (F3.alloc _ |>.pure F4) |>.alloc _⟩
end Go.Proofs.YtidnnjgiogklaaaDoor

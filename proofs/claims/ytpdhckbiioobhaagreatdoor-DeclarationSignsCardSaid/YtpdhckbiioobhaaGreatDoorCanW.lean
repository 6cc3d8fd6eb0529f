/- Walks: Parse in two forms, Canonical; the sanity check of layer 3's laws. -/
import Derived.Test.YtpdhckbiioobhaaGreatDoorProg
import Derived.Test.YtpdhckbiioobhaaGreatDoorRdQ
import Derived.Test.YtpdhckbiioobhaaGreatDoorTxtW
import Derived.Test.YtpdhckbiioobhaaGreatDoorParV
namespace Go.Proofs.YtpdhckbiioobhaaGreatDoor
open Go.RowKit

def ParOk (t : Tr) (w : World) (e : Ending) (w' : World) : Prop :=
  ∃ (th : Int) (A1 : Option Addr) (n1 c1 : Nat) (A2 : Option Addr) (n2 c2 : Nat), e = .returned (.tuple #[.agg #[.int .i64 th, .slice A1 n1 c1, .slice A2 n2 c2], .int .i64 0, .int .i64 0]) ∧ TrD w' (Dn w.heap.size w') (.agg #[.int .i64 th, .slice A1 n1 c1, .slice A2 n2 c2]) t ∧ Fr none w w'
theorem parse_okW (S : ByteArray) (t : Tr) (w : World) (hp : parseP S.data.toList = .ok t) : Calls Tryz.prog 99 #[.string S] w (ParOk t w) :=
  (parse_any S w).mono fun e w' ⟨th, A1, n1, c1, A2, n2, c2, k, er, he, F, _, h⟩ => by
    rw [hp] at h
    obtain ⟨rfl, rfl, h1, _⟩ := h
    exact ⟨th, A1, n1, c1, A2, n2, c2, he, h1, F⟩
theorem parse_noW (S : ByteArray) (a : Nat) (x : Int) (w : World) (hp : parseP S.data.toList = .no a x) :
    Calls Tryz.prog 99 #[.string S] w fun e w' => e = .returned (.tuple #[.agg #[.int .i64 0, .slice none 0 0, .slice none 0 0], .int .i64 (a : Int), .int .i64 x]) ∧ Fr none w w' :=
  (parse_any S w).mono fun e w' ⟨th, A1, n1, c1, A2, n2, c2, k, er, he, F, _, h⟩ => by
    rw [hp] at h
    obtain ⟨rfl, rfl, h1⟩ := h
    rw [h1] at he
    exact ⟨he, F⟩
theorem ok_valid {s : List UInt8} {t : Tr} (h : parseP s = .ok t) : validE t = 0 := by
  unfold parseP at h
  split at h
  · cases h
  · split at h
    · cases h
    · split at h
      · cases h
      · split at h
        · cases h
        · rename_i h1
          injection h with h
          subst h
          simpa using h1

/-- What Canonical leaves. -/
def CanE (l : List UInt8) (w : World) (e : Ending) (w' : World) : Prop := ∃ X : ByteArray, e = .returned (.tuple #[.string X, .int .i64 0]) ∧ X = bs l ∧ X.size ≤ 34359738368 ∧ Fr none w w'
theorem aw1 : parseP [50, 111, 102, 40, 32, 49, 32, 111, 102, 32, 40, 50, 44, 51, 41, 44, 48, 32, 41] = .ok (.mk 2 [0] [.mk 1 [2, 3] []]) := by kernel_rfl
theorem aw2 : parseP [50, 32, 111, 102, 32, 40, 48, 44, 32, 41] = .no 9 2 := by kernel_rfl
theorem aw3 : parseP [50, 32, 111, 102, 32, 40, 48] = .no 7 2 := by kernel_rfl
theorem aw4 : parseP [48, 50, 32, 111, 102, 32, 40, 48, 41] = .no 0 2 := by kernel_rfl
theorem aw5 : txT (.mk 2 [0] [.mk 1 [2, 3] []]) = [50, 32, 111, 102, 32, 40, 48, 44, 32, 49, 32, 111, 102, 32, 40, 50, 44, 32, 51, 41, 41] := by
  have i : ∀ n : Nat, n < 10 → Lib.itoa (n : Int) = [UInt8.ofNat (48 + n)] := fun n hn => by
    rw [Lib.itoa_nonneg, Lib.decDigits_one hn]
  have j0 : Lib.itoa 0 = [48] := i 0 (by omega)
  have j1 : Lib.itoa 1 = [49] := i 1 (by omega)
  have j2 : Lib.itoa 2 = [50] := i 2 (by omega)
  have j3 : Lib.itoa 3 = [51] := i 3 (by omega)
  simp only [txT, ndW, List.map_cons, List.map_nil, txL, List.append_nil]
  rw [j0, j1, j2, j3]
  rfl
end Go.Proofs.YtpdhckbiioobhaaGreatDoor

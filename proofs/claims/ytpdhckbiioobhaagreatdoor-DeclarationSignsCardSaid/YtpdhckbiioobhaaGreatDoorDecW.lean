/- Walks: declaration.Text; declaration.Parse at the text of a plain declaration. -/
import Derived.Test.YtpdhckbiioobhaaGreatDoorProg
import Derived.Test.YtpdhckbiioobhaaGreatDoorCutW
import Derived.Test.YtpdhckbiioobhaaGreatDoorPuW
import Derived.Test.YtpdhckbiioobhaaGreatDoorDeclB
import Derived.Test.YtpdhckbiioobhaaGreatDoorDeclS
import Derived.Test.YtpdhckbiioobhaaGreatDoorCanW
import Derived.Deep.RegionHeld3
namespace Go.Proofs.YtpdhckbiioobhaaGreatDoor
open Go.RowKit

/-- The text of a declaration: its bytes, a blank, its tag in 16 digits. -/
def textD (d : De) : List UInt8 := bytesS d ++ [32] ++ hexL 16 d.tag
theorem textD_len (d : De) : (textD d).length ≤ 2517 := by
  have := bytes_len d
  unfold textD
  rw [List.length_append, List.length_append, hexL_len]
  simp only [List.length_cons, List.length_nil]
  omega
theorem rep_zeros : ∀ c : Nat, Lib.repeatL [48] c = List.replicate c 48
  | 0 => rfl
  | c + 1 => by
    have := rep_zeros c
    simp only [Lib.repeatL, this, List.replicate_succ]
    rfl

set_option maxRecDepth 100000 in
set_option maxHeartbeats 2000000 in
theorem dtext_any (d : De) (v : Value) (w : World) (r : Option Nat) (h : DeD w (Dm w r) v d) (hp : plainE d = 0) (hT : Tab w) (hB : Deb w) :
    Calls Tryz.prog 35 #[v] w (TxtE (textD d) 2517 w) := by
  obtain ⟨th, A1, n1, c1, A2, n2, c2, rfl, hTr, hn, hq, ht⟩ := h.shape
  have hs : d.tr.size ≤ 1073741000 := by have := (plain_parts hp).2.2.2.2; omega
  have F1 := (Fr.refl none w).alloc (.cells #[.int .i64 d.node, .int .i64 d.seq, .int .i64 th, .slice A1 n1 c1, .slice A2 n2 c2, .int .u64 d.tag] 61)
  have h1 : DeD _ (Dm _ r) _ d := h.keep (fr_dm (F1.mono (r := r)))
  have T1 := hT.fr F1
  have D1 := hB.fr F1
  have hlen := textD_len d
  have hbl := bytes_len d
  have HP := Lib.hid hp
  have HL := Lib.hid hlen
  have HBL := Lib.hid hbl
  clear hp hTr h hlen hbl
  go_enter Tryz.func35, Tryz.ntmps35
  go_wp2_with fail
  generalize hW : w.alloc _ = w1 at *
  have B1 : DB w1 w.heap.size (.int .i64 d.node) (.int .i64 d.seq) (.int .i64 th) (.slice A1 n1 c1) (.slice A2 n2 c2) (.int .u64 d.tag) := by rw [← hW]; exact blk_new _ _
  clear hW
  refine (plain_any d _ _ r hs h1).mono ?_
  rintro e w2 ⟨rfl, F2⟩
  rw [HP.out]
  have F12 := F1.pure F2
  have B2 := B1.fr F2 (by simp)
  have T2 := T1.fr F2
  have D2 := D1.fr F2
  have h2 : DeD _ (Dm _ r) _ d := h1.keep (fr_dm (F2.mono (r := r)))
  have R2 := B2.cell
  clear B1 F1 F2 h1 T1 D1
  go_wp2_with fail
  refine (fmt_any d.tag ht _ D2).mono ?_
  rintro e w3 ⟨m, S, m1, m2, m3, rfl, hS, hSz, F3⟩
  have F13 := F12.pure F3
  have B3 := B2.fr F3 (by simp)
  have T3 := T2.fr F3
  have h3 : DeD _ (Dm _ r) _ d := h2.keep (fr_dm (F3.mono (r := r)))
  have HS := Lib.hid hS
  have HM3 := Lib.hid m3
  have hc16 : (16 : Int) - (m : Int) = ((16 - m : Nat) : Int) := by omega
  have hfin : hexL 16 d.tag = List.replicate (16 - m) 48 ++ hexL m d.tag := by
    have := hexL_pad (16 - m) m d.tag m3
    rwa [show 16 - m + m = 16 by omega] at this
  have HFIN := Lib.hid hfin
  obtain ⟨c, hc⟩ : ∃ c, c = 16 - m := ⟨_, rfl⟩
  rw [← hc] at hc16
  have hcl : c ≤ 15 := by omega
  have HCC := Lib.hid hc
  clear R2 hS m3 hfin hc B2 h2 T2 D2 F12 F3
  have R3 := B3.cell
  have HB3 := Lib.hid B3
  clear B3
  go_wp2_with fail
  refine (bytes_any d _ _ r hs h3 T3).mono ?_
  rintro e w4 ⟨X, rfl, hX, hXs, F4⟩
  obtain ⟨X1, HX1, z1, k1⟩ := str_add X ⟨#[32]⟩ (by omega) (by decide)
  have z2 : (⟨#[32]⟩ : ByteArray).size = 1 := rfl
  rw [z2] at z1
  have F14 := F13.pure F4
  have hz1 : X1.size ≤ 2501 := by omega
  have HX := Lib.hid hX
  clear hX R3 z1 z2 hXs
  go_wp2_with fail
  refine (Tryz.strings_Repeat ⟨#[48]⟩ c _ (by omega) (by show 1 * c ≤ _; omega)).mono ?_
  rintro e w5 ⟨rfl, F5⟩
  have hr : (⟨(Lib.repeatL (⟨#[48]⟩ : ByteArray).data.toList c).toArray⟩ : ByteArray) = bs (List.replicate c 48) := by
    rw [show (⟨#[48]⟩ : ByteArray).data.toList = [48] from rfl, rep_zeros]; rfl
  rw [hr]
  obtain ⟨Z, hZ⟩ : ∃ Z, Z = bs (List.replicate c 48) := ⟨_, rfl⟩
  have hZs : Z.size = c := by rw [hZ, bs_size, List.length_replicate]
  rw [← hZ]
  obtain ⟨X2, HX2, z3, k2⟩ := str_add X1 Z (by omega) (by omega)
  obtain ⟨X3, HX3, z4, k3⟩ := str_add X2 S (by omega) (by omega)
  have hz3 : X3.size ≤ 2517 := by have := HCC.out; omega
  have HZ := Lib.hid hZ
  clear hZ hr
  go_wp2_with fail
  go_ret
  refine ⟨X3, rfl, ?_, hz3, F14.pure (Fr.of_below F5)⟩
  have e1 : S = bs (hexL m d.tag) := by
    apply ByteArray.ext
    apply Array.toList_inj.1
    rw [HS.out, bs_list]
  rw [HX3.out, HX2.out, HX1.out, HX.out, HZ.out, e1]
  unfold textD
  rw [HFIN.out, ← HCC.out, show (⟨#[32]⟩ : ByteArray) = bs [32] from rfl, bs_app, bs_app, bs_app]
  congr 1
  simp
end Go.Proofs.YtpdhckbiioobhaaGreatDoor

/- Walks: Sign of declarations (program and reference), copied. -/
import Derived.Test.YtpdhckbiioobhaaGreatDoorProg
import Derived.Test.YtpdhckbiioobhaaGreatDoorDeclB
import Derived.Test.YtpdhckbiioobhaaGreatDoorTB
namespace Go.Proofs.YtpdhckbiioobhaaGreatDoor
open Go.RowKit

/-- A declaration's block. -/
def DB (w : World) (b : Nat) (x0 x1 x2 x3 x4 x5 : Value) : Prop := w.heap[b]? = some (.cells #[x0, x1, x2, x3, x4, x5] 61 (0, 0))
theorem DB.fr {w w' : World} {b : Nat} {x0 x1 x2 x3 x4 x5 : Value} {r : Option Nat} (h : DB w b x0 x1 x2 x3 x4 x5) (f : Fr r w w') (hr : r ≠ some b) : DB w' b x0 x1 x2 x3 x4 x5 := blk_fr h f hr
theorem DB.cell {w : World} {b : Nat} {x0 x1 x2 x3 x4 x5 : Value} (h : DB w b x0 x1 x2 x3 x4 x5) (i : Nat) : w.cell? ⟨b, i, none⟩ = (#[x0, x1, x2, x3, x4, x5] : Array Value)[i]? := blk_cell h i
theorem DB.free {w : World} {b : Nat} {x0 x1 x2 x3 x4 x5 : Value} (h : DB w b x0 x1 x2 x3 x4 x5) (i : Nat) : w.frozen? ⟨b, i, none⟩ = false := blk_free h i
theorem DB.set5 {w : World} {b : Nat} {x0 x1 x2 x3 x4 x5 : Value} (h : DB w b x0 x1 x2 x3 x4 x5) (u : Value) : DB (w.setCell ⟨b, 5, none⟩ u) b x0 x1 x2 x3 x4 u := blk_set h 5 u
theorem fr_fill6 (w : World) (b : Nat) (x0 x1 x2 x3 x4 x5 : Value) : Fr (some b) w ((((((w.setCell ⟨b, 0, none⟩ x0).setCell ⟨b, 1, none⟩ x1).setCell ⟨b, 2, none⟩ x2).setCell ⟨b, 3, none⟩ x3).setCell ⟨b, 4, none⟩ x4).setCell ⟨b, 5, none⟩ x5) :=
  Fr.setRow (p := ⟨b, 5, none⟩) (Fr.setRow (p := ⟨b, 4, none⟩) (Fr.setRow (p := ⟨b, 3, none⟩) (Fr.setRow (p := ⟨b, 2, none⟩) (Fr.setRow (p := ⟨b, 1, none⟩) (Fr.set1 w ⟨b, 0, none⟩ x0) rfl x1) rfl x2) rfl x3) rfl x4) rfl x5

set_option maxRecDepth 100000 in
set_option maxHeartbeats 1000000 in
theorem rsign_any (k : Nat) (hk : k < 18446744073709551616) (nd sq : Int) (t : Tr) (th : Int) (A1 : Option Addr) (n1 c1 : Nat) (A2 : Option Addr) (n2 c2 : Nat) (w : World) (r : Option Nat) (hn : Wi nd) (hq : Wi sq) (hs : t.size ≤ 1073741000) (h : TrR w r (.agg #[.int .i64 th, .slice A1 n1 c1, .slice A2 n2 c2]) t) (hT : Tab w) (hp : plainE ⟨nd, sq, t, 0⟩ = 0) :
    Calls Tryz.prog 61 #[.int .u64 k, .int .i64 nd, .int .i64 sq, .agg #[.int .i64 th, .slice A1 n1 c1, .slice A2 n2 c2]] w fun e w' =>
      e = .returned (.tuple #[.agg #[.int .i64 nd, .int .i64 sq, .int .i64 th, .slice A1 n1 c1, .slice A2 n2 c2, .int .u64 (tagS k (bytesS ⟨nd, sq, t, 0⟩) : Nat)], .int .i64 0]) ∧ Fr none w w' := by
  have HK := Lib.hid hk
  have HP := Lib.hid hp
  have hb0 : (bytesS ⟨nd, sq, t, 0⟩).length ≤ 2500 := bytes_len _
  obtain ⟨L, hL⟩ : ∃ L, L = bytesS ⟨nd, sq, t, 0⟩ := ⟨_, rfl⟩
  rw [← hL] at hb0 ⊢
  have HL := Lib.hid hL
  clear hk hp hL
  go_enter Tryz.func61, Tryz.ntmps61
  go_wp2_with fail
  generalize hW : ((w.alloc _).alloc _).alloc _ = w1
  have hz : w1.heap.size = w.heap.size + 3 := by rw [← hW]; simp
  have F1 : Fr none w w1 := hW ▸ (((Fr.refl none w).alloc _).alloc _).alloc _
  have b8 : DB w1 (w.heap.size + 1) (.int .i64 0) (.int .i64 0) (.int .i64 0) (.slice none 0 0) (.slice none 0 0) (.int .u64 0) := by
    rw [← hW]
    exact (Below.heap_alloc _ _ _ (by simp)).trans (blk_new_at (by simp) _)
  have b10 : DB w1 (w.heap.size + 1 + 1) (.int .i64 nd) (.int .i64 sq) (.int .i64 th) (.slice A1 n1 c1) (.slice A2 n2 c2) (.int .u64 0) := by
    rw [← hW]
    exact blk_new_at (by simp) _
  clear hW
  have h1 : DeD w1 (Dm w1 r) (.agg #[.int .i64 nd, .int .i64 sq, .int .i64 th, .slice A1 n1 c1, .slice A2 n2 c2, .int .u64 0]) ⟨nd, sq, t, 0⟩ := ⟨th, _, _, rfl, TrD.keep (fr_dm (F1.mono (r := r))) _ _ h, hn, hq, by simp⟩
  have T1 := hT.fr F1
  refine (rplain_any ⟨nd, sq, t, 0⟩ _ _ r hs h1).mono ?_
  rintro e w2 ⟨rfl, F2⟩
  rw [HP.out]
  have b10' := b10.fr F2 (by simp)
  have R10 := b10'.cell
  have h2 := h1.keep (fr_dm (F2.mono (r := r)))
  have T2 := T1.fr F2
  go_wp2_with fail
  refine (rbytes_any ⟨nd, sq, t, 0⟩ _ _ r hs h2 T2).mono ?_
  rintro e w3 ⟨S, rfl, hS, hSs, F3⟩
  have HS := Lib.hid hS
  clear hS
  go_wp2_with fail
  refine (rtag_any k HK.out S _ (by omega)).mono ?_
  rintro e w4 ⟨rfl, F4⟩
  obtain ⟨g, hg⟩ : ∃ g, g = tagS k S.data.toList := ⟨_, rfl⟩
  rw [← hg]
  have hg2 : g = tagS k L := by rw [hg, HS.out, bs_list, HL.out]
  have HG := Lib.hid hg2
  have F14 := (F2.pure F3).pure F4
  have hz4 := F14.size
  have c10 := (b10.fr F14 (by simp))
  have c8 := b8.fr F14 (by simp)
  have Rc := c10.cell
  have Zc := c10.free
  have R8 := c8.cell
  have Z8 := c8.free
  clear hg hg2 R10 b10' h2 T2 HS
  go_wp2_with fail
  refine bodyPost_ret (v := .tuple #[.agg #[.int .i64 nd, .int .i64 sq, .int .i64 th, .slice A1 n1 c1, .slice A2 n2 c2, .int .u64 (g : Nat)], .int .i64 0]) (by simp [results, Tryz.results61, go_sem, R8]) rfl ?_
  refine ⟨by rw [← HG.out], ?_⟩
  have G := (Fr.set1 w4 ⟨w.heap.size + 1 + 1, 5, none⟩ (.int .u64 (g : Nat)))
  exact ((F1.pure F14).own G (by simp; omega)).own (fr_fill6 _ _ _ _ _ _ _ _) (by simp)
end Go.Proofs.YtpdhckbiioobhaaGreatDoor

/- Walks: declaration.Sign. -/
import Derived.Test.YtpdhckbiioobhaaGreatDoorProg
import Derived.Test.YtpdhckbiioobhaaGreatDoorCopyW
namespace Go.Proofs.YtpdhckbiioobhaaGreatDoor
open Go.RowKit

/-- A signed declaration, in memory of its own. -/
def SignP (w : World) (k : Nat) (nd sq : Int) (t : Tr) (e : Ending) (w' : World) : Prop :=
  ∃ v, e = .returned (.tuple #[v, .int .i64 0]) ∧ DeD w' (Dn w.heap.size w') v ⟨nd, sq, t, tagS k (bytesS ⟨nd, sq, t, 0⟩)⟩ ∧ Fr none w w'
set_option maxRecDepth 100000 in
set_option maxHeartbeats 2000000 in
theorem sign_any (k : Nat) (hk : k < 18446744073709551616) (nd sq : Int) (t : Tr) (v : Value) (w : World) (r : Option Nat) (hn : Wi nd) (hq : Wi sq) (h : TrR w r v t) (hT : Tab w) (hp : plainE ⟨nd, sq, t, 0⟩ = 0) :
    Calls Tryz.prog 33 #[.int .u64 k, .int .i64 nd, .int .i64 sq, v] w (SignP w k nd sq t) := by
  have hs : t.size ≤ 1073741000 := by have := (plain_parts hp).2.2.2.2; simp only at this; omega
  obtain ⟨th, A1, n1, c1, A2, n2, c2, rfl⟩ := TrD.shape h
  have HK := Lib.hid hk
  have HP := Lib.hid hp
  have hb0 : (bytesS ⟨nd, sq, t, 0⟩).length ≤ 2500 := bytes_len _
  obtain ⟨L, hL⟩ : ∃ L, L = bytesS ⟨nd, sq, t, 0⟩ := ⟨_, rfl⟩
  rw [← hL] at hb0
  have HL := Lib.hid hL
  clear hk hp hL
  go_enter Tryz.func33, Tryz.ntmps33
  go_wp2_with fail
  generalize hW : (w.alloc _).alloc _ = w0
  have hz0 : w0.heap.size = w.heap.size + 2 := by rw [← hW]; simp
  have F0 : Fr none w w0 := hW ▸ ((Fr.refl none w).alloc _).alloc _
  have b8 : DB w0 (w.heap.size + 1) (.int .i64 0) (.int .i64 0) (.int .i64 0) (.slice none 0 0) (.slice none 0 0) (.int .u64 0) := by
    rw [← hW]
    exact blk_new_at (by simp) _
  clear hW
  have h0 := h.fr (F0.mono (r := r))
  refine (copied_any t.dep t _ _ r (Nat.le_refl _) h0).mono ?_
  rintro e wc ⟨v3, rfl, hT3, Fc⟩
  obtain ⟨th', a1, m1, e1, a2, m2, e2, rfl⟩ := hT3.shape
  have b8 := b8.fr Fc (by simp)
  have hzc := Fc.size
  have F0c := F0.pure Fc
  have hT3 := TrD.keep (D' := fun b => w.heap.size + 2 ≤ b ∧ b < wc.heap.size) (fun q hb => ⟨⟨by have := hb.1; omega, hb.2⟩, rfl⟩) _ _ hT3
  have Tc := hT.fr F0c
  have hlt1 : w.heap.size + 1 < wc.heap.size := by omega
  clear hz0 h0 Fc F0 h hT
  go_wp2_with fail
  generalize hW : wc.alloc _ = w1
  have F1 : Fr none wc w1 := hW ▸ (Fr.refl none wc).alloc _
  have b10 : DB w1 wc.heap.size (.int .i64 nd) (.int .i64 sq) (.int .i64 th') (.slice a1 m1 e1) (.slice a2 m2 e2) (.int .u64 0) := by
    rw [← hW]
    exact blk_new _ _
  clear hW
  have b8 := b8.fr F1 (by simp)
  have hT4 := TrD.keep (fun q hb => ⟨hb, F1.block q hb.2 (by simp)⟩) _ _ hT3
  have hz11 := F1.size
  have h1 : DeD w1 (Dm w1 none) (.agg #[.int .i64 nd, .int .i64 sq, .int .i64 th', .slice a1 m1 e1, .slice a2 m2 e2, .int .u64 0]) ⟨nd, sq, t, 0⟩ := ⟨th', _, _, rfl, TrD.keep (fun q hb => ⟨⟨by omega, by simp⟩, rfl⟩) _ _ hT4, hn, hq, by simp⟩
  have T1 := Tc.fr F1
  have F01 := F0c.pure F1
  refine (plain_any ⟨nd, sq, t, 0⟩ _ _ none hs h1).mono ?_
  rintro e w2 ⟨rfl, F2⟩
  rw [HP.out]
  have b10' := b10.fr F2 (by simp)
  have R10 := b10'.cell
  have h2 := h1.keep (fr_dm F2)
  have T2 := T1.fr F2
  go_wp2_with fail
  refine (bytes_any ⟨nd, sq, t, 0⟩ _ _ none hs h2 T2).mono ?_
  rintro e w3 ⟨S, rfl, hS, hSs, F3⟩
  have HS := Lib.hid hS
  clear hS
  go_wp2_with fail
  refine (tag_any k HK.out S _ (by omega)).mono ?_
  rintro e w4 ⟨rfl, F4⟩
  obtain ⟨g, hg⟩ : ∃ g, g = tagS k S.data.toList := ⟨_, rfl⟩
  rw [← hg]
  have hg2 : g = tagS k L := by rw [hg, HS.out, bs_list, HL.out]
  have HG := Lib.hid hg2
  have F14 := (F2.pure F3).pure F4
  have hz4 := F14.size
  have hz1 := F1.size
  have c10 := (b10.fr F14 (by simp))
  have c8 := b8.fr F14 (by simp)
  have hT5 := TrD.keep (fun q hb => ⟨hb, F14.block q (by omega) (by simp)⟩) _ _ hT4
  have Rc := c10.cell
  have Zc := c10.free
  have R8 := c8.cell
  have Z8 := c8.free
  have hne : ¬ w.heap.size + 1 = wc.heap.size := by omega
  have hne2 : ¬ wc.heap.size = w.heap.size + 1 := by omega
  clear hg hg2 R10 b10' h2 T2 HS
  go_wp2_with fail
  refine bodyPost_ret (v := .tuple #[.agg #[.int .i64 nd, .int .i64 sq, .int .i64 th', .slice a1 m1 e1, .slice a2 m2 e2, .int .u64 (g : Nat)], .int .i64 0]) (by simp [results, Tryz.results33, go_sem, R8, hne, hne2]) rfl ?_
  have G := Fr.set1 w4 ⟨wc.heap.size, 5, none⟩ (.int .u64 (g : Nat))
  have H := fr_fill6 (w4.setCell ⟨wc.heap.size, 5, none⟩ (.int .u64 (g : Nat))) (w.heap.size + 1) (.int .i64 nd) (.int .i64 sq) (.int .i64 th') (.slice a1 m1 e1) (.slice a2 m2 e2) (.int .u64 (g : Nat))
  have hzG := G.size
  have hzH := H.size
  refine ⟨_, rfl, ?_, ((F01.pure F14).own G (by simp; omega)).own H (by simp)⟩
  rw [← HL.out, ← HG.out]
  exact ded_mk (TrD.keep (fun q hb => ⟨⟨by omega, by omega⟩, (H.block q (by omega) (by simp; omega)).trans (G.block q (by omega) (by simp; omega))⟩) _ _ hT5) hn hq (by rw [HG.out]; exact tagS_lt _ _)
end Go.Proofs.YtpdhckbiioobhaaGreatDoor

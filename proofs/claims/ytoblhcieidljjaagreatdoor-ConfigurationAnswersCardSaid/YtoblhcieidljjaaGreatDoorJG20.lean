/- Some texts of this claim, joined: contracts of the functions that it reaches, and plain laws. -/
import Derived.Test.YtoblhcieidljjaaGreatDoorProg
import Derived.Test.YtoblhcieidljjaaGreatDoorJG13
import Derived.Test.YtoblhcieidljjaaGreatDoorJG19
import Derived.Test.YtoblhcieidljjaaGreatDoorJG7

set_option linter.unusedSimpArgs false
set_option linter.unusedVariables false
/- Walks: configuration.Restrict. -/
namespace Go.Proofs.YtoblhcieidljjaaGreatDoor
open Go.RowKit

def noMb : Mb := ⟨false, zeroTr⟩
/-- The members of a set alone. -/
def rst (s : Int) (L : List Mb) : List Mb := L.mapIdx fun k m => if hasB s k then m else noMb
theorem rst_len (s : Int) (L : List Mb) : (rst s L).length = L.length := by simp [rst]
theorem rst_get (s : Int) (L : List Mb) (k : Nat) (hk : k < (rst s L).length) : (rst s L)[k] = if hasB s k then L[k]'(by simpa [rst] using hk) else noMb := by simp [rst]
theorem CfD.open_ {w : World} {D : Nat → Prop} {v : Value} {L : List Mb} (h : CfD w D v L) :
    ∃ A c, v = .agg #[.slice A L.length c] ∧ L.length ≤ c ∧ c ≤ maxLen ∧ (∀ k (hk : k < L.length), ∃ (b off : Nat) (th : Int) (A1 : Option Addr) (n1 c1 : Nat) (A2 : Option Addr) (n2 c2 : Nat), A = some ⟨b, off, none⟩ ∧ D b ∧
      w.cell? ⟨b, off + k * 4, none⟩ = some (.bool L[k].dec) ∧ w.cell? ⟨b, off + k * 4 + 1, none⟩ = some (.int .i64 th) ∧ w.cell? ⟨b, off + k * 4 + 2, none⟩ = some (.slice A1 n1 c1) ∧ w.cell? ⟨b, off + k * 4 + 3, none⟩ = some (.slice A2 n2 c2) ∧ TrD w D (.agg #[.int .i64 th, .slice A1 n1 c1, .slice A2 n2 c2]) L[k].tr) := by
  obtain ⟨A, c, cells, rfl, hs, hm⟩ := h
  obtain ⟨A', n', c', e, hlen, hnc, hcm, hx⟩ := hs
  injection e with e1 e2 e3
  subst e1 e2 e3
  refine ⟨_, _, rfl, hnc, hcm, fun k hk => ?_⟩
  obtain ⟨b, off, h1, hb, h2⟩ := hx (by omega)
  obtain ⟨x, y, z, e0, e1, e2, e3, ht⟩ := hm.get k hk
  obtain ⟨th, A1, n1, c1, A2, n2, c2, hsh⟩ := ht.shape
  simp only [Value.agg.injEq, Array.mk.injEq, List.cons.injEq, and_true] at hsh
  obtain ⟨rfl, rfl, rfl⟩ := hsh
  exact ⟨b, off, th, A1, n1, c1, A2, n2, c2, h1, hb, h2 _ _ e0, h2 _ _ e1, h2 _ _ e2, h2 _ _ e3, ht⟩
theorem CfD.keep {w w' : World} {D D' : Nat → Prop} (hD : ∀ k, D k → D' k ∧ w'.heap[k]? = w.heap[k]?) {v : Value} {L : List Mb} (h : CfD w D v L) : CfD w' D' v L := by
  obtain ⟨A, c, cells, rfl, hs, hm⟩ := h
  exact ⟨A, c, cells, rfl, hs.keep hD, MbsD.keep hD _ _ hm⟩
/-- A block that holds a member. -/
def MB (w : World) (b : Nat) (d x y z : Value) : Prop := w.heap[b]? = some (.cells #[d, x, y, z] 33 (0, 0))
theorem MB.fr {w w' : World} {b : Nat} {d x y z : Value} {r : Option Nat} (h : MB w b d x y z) (f : Fr r w w') (hr : r ≠ some b) : MB w' b d x y z := blk_fr h f hr
theorem MB.cell {w : World} {b : Nat} {d x y z : Value} (h : MB w b d x y z) : ∀ i, w.cell? ⟨b, i, none⟩ = #[d, x, y, z][i]? := blk_cell h
theorem MB.free {w : World} {b : Nat} {d x y z : Value} (h : MB w b d x y z) : ∀ i, w.frozen? ⟨b, i, none⟩ = false := blk_free h
theorem mb_fill3 {w : World} {b : Nat} {d z1 z2 z3 : Value} (h : MB w b d z1 z2 z3) (x1 x2 x3 : Value) : MB (((w.setCell ⟨b, 1, none⟩ x1).setCell ⟨b, 2, none⟩ x2).setCell ⟨b, 3, none⟩ x3) b d x1 x2 x3 := by
  have := blk_set (blk_set (blk_set h 1 x1) 2 x2) 3 x3
  simpa [MB] using this
theorem mb_fill4 {w : World} {b : Nat} {z0 z1 z2 z3 : Value} (h : MB w b z0 z1 z2 z3) (x0 x1 x2 x3 : Value) : MB ((((w.setCell ⟨b, 0, none⟩ x0).setCell ⟨b, 1, none⟩ x1).setCell ⟨b, 2, none⟩ x2).setCell ⟨b, 3, none⟩ x3) b x0 x1 x2 x3 := by
  have := blk_set (blk_set (blk_set (blk_set h 0 x0) 1 x1) 2 x2) 3 x3
  simpa [MB] using this
theorem fr_mb3 (w : World) (b : Nat) (x y z : Value) : Fr (some b) w (((w.setCell ⟨b, 1, none⟩ x).setCell ⟨b, 2, none⟩ y).setCell ⟨b, 3, none⟩ z) :=
  Fr.setRow (p := ⟨b, 3, none⟩) (Fr.setRow (p := ⟨b, 2, none⟩) (Fr.set1 w ⟨b, 1, none⟩ x) rfl y) rfl z
theorem fr_mb4 (w : World) (b : Nat) (d x y z : Value) : Fr (some b) w ((((w.setCell ⟨b, 0, none⟩ d).setCell ⟨b, 1, none⟩ x).setCell ⟨b, 2, none⟩ y).setCell ⟨b, 3, none⟩ z) :=
  Fr.setRow (p := ⟨b, 3, none⟩) (Fr.setRow (p := ⟨b, 2, none⟩) (Fr.setRow (p := ⟨b, 1, none⟩) (Fr.set1 w ⟨b, 0, none⟩ d) rfl x) rfl y) rfl z
/-- What Restrict leaves. -/
def CfE (L : List Mb) (w : World) (e : Ending) (w' : World) : Prop := ∃ v, e = .returned v ∧ CfD w' (Dn w.heap.size w') v L ∧ Fr none w w'

set_option maxRecDepth 100000 in
set_option maxHeartbeats 4000000 in
theorem restrict_any (s : Int) (L : List Mb) (v : Value) (w : World) (h : CfD w (Dm w none) v L) (hL : L.length ≤ 1000) :
    Calls Tryz.prog 53 #[v, .int .i64 s] w (CfE (rst s L) w) := by
  obtain ⟨A, c, rfl, hc1, hc2, hcell⟩ := h.open_
  have HC := Lib.hid hcell
  unfold maxLen at hc2
  clear hcell h
  go_enter Tryz.func53, Tryz.ntmps53
  go_upto_region 2 with (fail)
  generalize hW : ((w.alloc _).alloc _).alloc _ = w1
  have hz : w1.heap.size = w.heap.size + 3 := by rw [← hW]; simp
  have F1 : Fr none w w1 := hW ▸ (((Fr.refl _ w).alloc _).alloc _).alloc _
  have b1 : CB w1 w.heap.size (.slice A L.length c) := by
    rw [← hW]; exact ((Below.heap_alloc _ _ _ (by simp <;> omega)).trans (Below.heap_alloc _ _ _ (by simp <;> omega))).trans (blk_new _ _)
  have b2 : CB w1 (w.heap.size + 1) (.slice none 0 0) := by
    rw [← hW]; exact (Below.heap_alloc _ _ _ (by simp)).trans (blk_new_at (by simp) _)
  have b3 : CB w1 (w.heap.size + 2) (.slice none 0 0) := by
    rw [← hW]; exact blk_new_at (by simp) _
  clear hW
  obtain ⟨B2, hB2⟩ : ∃ B2, B2 = w.heap.size + 1 + 1 := ⟨_, rfl⟩
  rw [← hB2]
  rw [show w.heap.size + 2 = B2 by omega] at b3
  have hBa : B2 ≤ w.heap.size + 2 := by omega
  have hBb : w.heap.size + 2 ≤ B2 := by omega
  clear hB2
  have R1 := b1.cell
  have l1 := blk_lt b1
  go_wp2_with fail
  go_loopw [6, 7, 11] (fun _ _ s11 wr => ∃ (j : Nat) (A1 : Option Addr) (c1 : Nat) (cells : List Value), j ≤ L.length ∧ s11 = .int .i64 (j : Int) ∧ Fr none w wr ∧ w.heap.size + 3 ≤ wr.heap.size ∧ CB wr (w.heap.size + 1) (.slice none 0 0) ∧ CB wr B2 (.slice A1 j c1) ∧
    wr.ownsRow (w.heap.size + 3) 33 4 (.slice A1 j c1) j cells ∧ MbsD wr (Dx (w.heap.size + 3) wr (.slice A1 j c1)) cells ((rst s L).take j)) (fun _ _ s11 _ => L.length - (intOf s11).toNat)
  case atStart => exact ⟨0, none, 0, [], Nat.zero_le _, rfl, F1, by omega, b2, b3, World.ownsRow_nil _ _ _ _, by simp [MbsD]⟩
  case round =>
    clear F1 b1 b2 b3 R1 l1 hz
    obtain ⟨j, A1, c1, cells, hj, rfl, F, hz, b2, b3, own, hms⟩ := hrel
    obtain ⟨wz, hwz⟩ : ∃ wz : World, wz = wr := ⟨_, rfl⟩
    subst hwz
    by_cases hlt : j < L.length
    · obtain ⟨b, off, th, C1, n1, d1, C2, n2, d2, rfl, hb, g0, g1, g2, g3, ht⟩ := HC.out j hlt
      have g0 := F.keep g0 (by simp)
      have g1 := F.keep g1 (by simp)
      have g2 := F.keep g2 (by simp)
      have g3 := F.keep g3 (by simp)
      have ht : TrR wz none (.agg #[.int .i64 th, .slice C1 n1 d1, .slice C2 n2 d2]) L[j].tr := TrD.keep (fr_dm F) _ _ ht
      go_upto_region 5 with (fail)
      generalize hW : wz.alloc _ = wa
      have Fa : Fr none wz wa := hW ▸ (Fr.refl none wz).alloc _
      have m7 : MB wa wz.heap.size (.bool L[j].dec) (.int .i64 th) (.slice C1 n1 d1) (.slice C2 n2 d2) := by rw [← hW]; exact blk_new _ _
      have hza : wa.heap.size = wz.heap.size + 1 := by rw [← hW]; simp
      clear hW g0 g1 g2 g3
      have HT : Hid ((rst s L).take (j + 1) = (rst s L).take j ++ [if hasB s j then L[j] else noMb]) := by
        unfold Hid
        rw [List.take_succ_eq_append_getElem (by rw [rst_len]; exact hlt), rst_get]
      have olz := own.lt
      have own := own_fr own Fa (by simp)
      have b2a := b2.fr Fa (by simp)
      have b3a := b3.fr Fa (by simp)
      have F0a := F.pure Fa
      have hta := ht.fr Fa
      have hmsa : MbsD wa (fun k => Dx (w.heap.size + 3) wa (.slice A1 j c1) k ∧ k ≠ wz.heap.size) cells ((rst s L).take j) := MbsD.keep (fun k hk => ⟨⟨⟨hk.1, by have := hk.2.1; omega, hk.2.2⟩, by have := hk.2.1; omega⟩, Fa.block k hk.2.1 (by simp)⟩) _ _ hms
      clear b2 b3 F ht hms Fa
      have R7 := m7.cell
      have Z7 := m7.free
      have l7 := blk_lt m7
      obtain ⟨X, hX⟩ : ∃ X, X = hasB s (j : Int) := ⟨_, rfl⟩
      rw [← hX] at HT
      have HX := Lib.hid hX
      clear hX
      generalize L[j] = m at *
      cases X with
      | true =>
        go_wp2_with (go_at_call 107; refine (has_any _ _ _).mono ?_; rintro e w' ⟨rfl, rfl⟩; rw [← HX.out])
        have mb := m7
        have ownb := own
        have b2b := b2a
        have b3b := b3a
        have F0b := F0a
        have hmsb := hmsa
        clear m7 own b2a b3a F0a hmsa
        refine (cpyR_any m.tr _ _ none hta).mono ?_
        rintro e w4 ⟨v4, rfl, hT4, F4⟩
        obtain ⟨th', E1, k1, f1, E2, k2, f2, rfl⟩ := hT4.shape
        have hz4 := F4.size
        have m4 := mb.fr F4 (by simp)
        have own4 := own_fr ownb F4 (by simp)
        have b24 := b2b.fr F4 (by simp)
        have b34 := b3b.fr F4 (by simp)
        have FS := fr_mb3 w4 wz.heap.size (.int .i64 th') (.slice E1 k1 f1) (.slice E2 k2 f2)
        have m5 := mb_fill3 m4 (.int .i64 th') (.slice E1 k1 f1) (.slice E2 k2 f2)
        have hzS := FS.size
        have own5 := own_ne_fr own4 FS (fun e => by have := (olz _ e).2; omega)
        have b25 := b24.fr FS (by simp <;> omega)
        have b35 := b34.fr FS (by simp <;> omega)
        have hms5 : MbsD (((w4.setCell ⟨wz.heap.size, 1, none⟩ (.int .i64 th')).setCell ⟨wz.heap.size, 2, none⟩ (.slice E1 k1 f1)).setCell ⟨wz.heap.size, 3, none⟩ (.slice E2 k2 f2)) (Dx (w.heap.size + 3) (((w4.setCell ⟨wz.heap.size, 1, none⟩ (.int .i64 th')).setCell ⟨wz.heap.size, 2, none⟩ (.slice E1 k1 f1)).setCell ⟨wz.heap.size, 3, none⟩ (.slice E2 k2 f2)) (.slice A1 j c1)) cells ((rst s L).take j) :=
          MbsD.keep (fun k hk => ⟨⟨hk.1.1, by have := hk.1.2.1; omega, hk.1.2.2⟩, (FS.block k (by have := hk.1.2.1; omega) (by have := hk.2; simp <;> omega)).trans (F4.block k hk.1.2.1 (by simp))⟩) _ _ hmsb
        have hT5 := TrD.keep (dn_fr FS (by simp <;> omega)) _ _ hT4
        have F05 := ((F0b.pure F4).own FS (by simp <;> omega))
        have R4 := m4.cell
        have Z4 := m4.free
        have l4 := blk_lt m4
        clear R7 Z7 l7
        go_upto_region 8 with (fail)
        generalize hW : ((w4.setCell _ _).setCell _ _).setCell _ _ = w5 at *
        clear hW R4 Z4 l4 hmsb m4 own4 b24 b34 FS
        have R5 := m5.cell
        have l5 := blk_lt m5
        have R35 := b35.cell
        have Z35 := b35.free
        have l35 := blk_lt b35
        go_wp2_with (at_builtin; refine app_lit eiMb rfl _ _ rfl (w.heap.size + 3) A1 j c1 _ rfl own5 1 [.bool m.dec, .int .i64 th', .slice E1 k1 f1, .slice E2 k2 f2] _ _ rfl (by simp) rfl (by simp [Value.oneCell']) (by omega) (by unfold maxLen; omega) (by omega) ?_; intro A5 c5 w6 own6 F6 nb6; have b36 := b35.fr F6 (own_ne own5 (by omega)); have R36 := b36.cell; have Z36 := b36.free; have l36 := blk_lt b36; clear R35 Z35 l35)
        have FQ := Fr.set1 w6 ⟨B2, 0, none⟩ (.slice A5 (j + 1) c5)
        have og := own_blk_ge own5
        have hz6 := F6.size
        have hzQ := FQ.size
        go_roundw
        case rel =>
          refine ⟨j + 1, A5, c5, cells ++ [.bool m.dec, .int .i64 th', .slice E1 k1 f1, .slice E2 k2 f2], by omega, by go_num, (F05.own F6 (fun q e => by have := og q e; omega)).own FQ (by simp <;> omega), by omega, (b25.fr F6 (own_ne own5 (by omega))).fr FQ (by simp <;> omega), b36.set0 _, own_fr own6 FQ (by simp <;> omega), ?_⟩
          rw [HT.out]
          exact MbsD.keep (dx_fr FQ (by simp <;> omega)) _ _ (MbsD.append (by simp only [MbsD]; exact ⟨_, _, _, [], rfl, TrD.keep (dx_app F6 nb6) _ _ (TrD.keep (dn_dx (B := w.heap.size + 3) (v := .slice A1 j c1) (by omega) (fun q hq => by have := (olz q hq).2; omega)) _ _ hT5), rfl⟩) (MbsD.keep (dx_app F6 nb6) _ _ hms5))
        case measure => simp [intOf]; omega
      | false =>
        go_wp2_with (go_at_call 107; refine (has_any _ _ _).mono ?_; rintro e w' ⟨rfl, rfl⟩; rw [← HX.out])
        have FZ := fr_mb4 wa wz.heap.size (.bool false) (.int .i64 0) (.slice none 0 0) (.slice none 0 0)
        have mb := mb_fill4 m7 (.bool false) (.int .i64 0) (.slice none 0 0) (.slice none 0 0)
        have ownb := own_ne_fr own FZ (fun e => by have := (olz _ e).2; omega)
        generalize hW : (((wa.setCell _ _).setCell _ _).setCell _ _).setCell _ _ = wb at *
        have hzb := FZ.size
        have hza' : wz.heap.size + 1 ≤ wb.heap.size := by omega
        have b2b := b2a.fr FZ (by simp <;> omega)
        have b3b := b3a.fr FZ (by simp <;> omega)
        have F0b := F0a.own FZ (by simp <;> omega)
        have hmsb : MbsD wb (fun k => Dx (w.heap.size + 3) wb (.slice A1 j c1) k ∧ k ≠ wz.heap.size) cells ((rst s L).take j) := MbsD.keep (fun k hk => ⟨⟨⟨hk.1.1, by have := hk.1.2.1; omega, hk.1.2.2⟩, hk.2⟩, FZ.block k hk.1.2.1 (by have := hk.2; simp <;> omega)⟩) _ _ hmsa
        have htz : TrR wb none (.agg #[.int .i64 0, .slice none 0 0, .slice none 0 0]) zeroTr := TrD.mk_ (by constructor <;> omega) (SlD.nil _ _ _) (by simp) (SlD.nil _ _ _) (by simp) (by simp) (by simp [TrsD])
        clear hW m7 own b2a b3a F0a hmsa FZ hta
        refine (cpyR_any zeroTr _ _ none htz).mono ?_
        rintro e w4 ⟨v4, rfl, hT4, F4⟩
        obtain ⟨th', E1, k1, f1, E2, k2, f2, rfl⟩ := hT4.shape
        have hz4 := F4.size
        have m4 := mb.fr F4 (by simp)
        have own4 := own_fr ownb F4 (by simp)
        have b24 := b2b.fr F4 (by simp)
        have b34 := b3b.fr F4 (by simp)
        have FS := fr_mb3 w4 wz.heap.size (.int .i64 th') (.slice E1 k1 f1) (.slice E2 k2 f2)
        have m5 := mb_fill3 m4 (.int .i64 th') (.slice E1 k1 f1) (.slice E2 k2 f2)
        have hzS := FS.size
        have own5 := own_ne_fr own4 FS (fun e => by have := (olz _ e).2; omega)
        have b25 := b24.fr FS (by simp <;> omega)
        have b35 := b34.fr FS (by simp <;> omega)
        have hms5 : MbsD (((w4.setCell ⟨wz.heap.size, 1, none⟩ (.int .i64 th')).setCell ⟨wz.heap.size, 2, none⟩ (.slice E1 k1 f1)).setCell ⟨wz.heap.size, 3, none⟩ (.slice E2 k2 f2)) (Dx (w.heap.size + 3) (((w4.setCell ⟨wz.heap.size, 1, none⟩ (.int .i64 th')).setCell ⟨wz.heap.size, 2, none⟩ (.slice E1 k1 f1)).setCell ⟨wz.heap.size, 3, none⟩ (.slice E2 k2 f2)) (.slice A1 j c1)) cells ((rst s L).take j) :=
          MbsD.keep (fun k hk => ⟨⟨hk.1.1, by have := hk.1.2.1; omega, hk.1.2.2⟩, (FS.block k (by have := hk.1.2.1; omega) (by have := hk.2; simp <;> omega)).trans (F4.block k hk.1.2.1 (by simp))⟩) _ _ hmsb
        have hT5 := TrD.keep (dn_fr FS (by simp <;> omega)) _ _ hT4
        have F05 := ((F0b.pure F4).own FS (by simp <;> omega))
        have R4 := m4.cell
        have Z4 := m4.free
        have l4 := blk_lt m4
        clear R7 Z7 l7
        go_upto_region 8 with (fail)
        generalize hW : ((w4.setCell _ _).setCell _ _).setCell _ _ = w5 at *
        clear hW R4 Z4 l4 hmsb m4 own4 b24 b34 FS
        have R5 := m5.cell
        have l5 := blk_lt m5
        have R35 := b35.cell
        have Z35 := b35.free
        have l35 := blk_lt b35
        go_wp2_with (at_builtin; refine app_lit eiMb rfl _ _ rfl (w.heap.size + 3) A1 j c1 _ rfl own5 1 [.bool false, .int .i64 th', .slice E1 k1 f1, .slice E2 k2 f2] _ _ rfl (by simp) rfl (by simp [Value.oneCell']) (by omega) (by unfold maxLen; omega) (by omega) ?_; intro A5 c5 w6 own6 F6 nb6; have b36 := b35.fr F6 (own_ne own5 (by omega)); have R36 := b36.cell; have Z36 := b36.free; have l36 := blk_lt b36; clear R35 Z35 l35)
        have FQ := Fr.set1 w6 ⟨B2, 0, none⟩ (.slice A5 (j + 1) c5)
        have og := own_blk_ge own5
        have hz6 := F6.size
        have hzQ := FQ.size
        go_roundw
        case rel =>
          refine ⟨j + 1, A5, c5, cells ++ [.bool false, .int .i64 th', .slice E1 k1 f1, .slice E2 k2 f2], by omega, by go_num, (F05.own F6 (fun q e => by have := og q e; omega)).own FQ (by simp <;> omega), by omega, (b25.fr F6 (own_ne own5 (by omega))).fr FQ (by simp <;> omega), b36.set0 _, own_fr own6 FQ (by simp <;> omega), ?_⟩
          rw [HT.out]
          exact MbsD.keep (dx_fr FQ (by simp <;> omega)) _ _ (MbsD.append (by simp only [MbsD]; exact ⟨_, _, _, [], rfl, TrD.keep (dx_app F6 nb6) _ _ (TrD.keep (dn_dx (B := w.heap.size + 3) (v := .slice A1 j c1) (by omega) (fun q hq => by have := (olz q hq).2; omega)) _ _ hT5), rfl⟩) (MbsD.keep (dx_app F6 nb6) _ _ hms5))
        case measure => simp [intOf]; omega
    · obtain rfl : j = L.length := by omega
      rw [List.take_of_length_le (by rw [rst_len]; omega)] at hms
      have R3 := b3.cell
      have R2 := b2.cell
      have Z2 := b2.free
      have l3 := blk_lt b3
      have l2 := blk_lt b2
      go_wp2_with fail
      refine bodyPost_ret (v := .agg #[.slice A1 L.length c1]) (by simp [results, Tryz.results53, go_sem, R2]) rfl ?_
      have G := Fr.set1 wz ⟨w.heap.size + 1, 0, none⟩ (.slice A1 L.length c1)
      have kk : ∀ b, Dn (w.heap.size + 3) wz b → Dn w.heap.size (wz.setCell ⟨w.heap.size + 1, 0, none⟩ (.slice A1 L.length c1)) b ∧ (wz.setCell ⟨w.heap.size + 1, 0, none⟩ (.slice A1 L.length c1)).heap[b]? = wz.heap[b]? := fun b hb => ⟨⟨by have := hb.1; omega, Nat.lt_of_lt_of_le hb.2 G.size⟩, G.block b hb.2 (by have := hb.1; simp; omega)⟩
      have hd : CfD (wz.setCell ⟨w.heap.size + 1, 0, none⟩ (.slice A1 L.length c1)) (Dn w.heap.size (wz.setCell ⟨w.heap.size + 1, 0, none⟩ (.slice A1 L.length c1))) (.agg #[.slice A1 L.length c1]) (rst s L) := ⟨A1, c1, cells, by rw [rst_len], by rw [rst_len]; exact (SlD.own_dn own).keep kk, MbsD.keep kk _ _ (MbsD.keep dx_dn _ _ hms)⟩
      exact ⟨_, rfl, hd, F.own G (by simp)⟩
end Go.Proofs.YtoblhcieidljjaaGreatDoor

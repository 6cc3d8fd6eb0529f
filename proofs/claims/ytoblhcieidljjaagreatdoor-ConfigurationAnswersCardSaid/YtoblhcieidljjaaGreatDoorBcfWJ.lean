/- Walks: mk.BentConfig: a configuration in which one thing is changed. -/
import Derived.Test.YtoblhcieidljjaaGreatDoorProg
import Derived.Test.YtoblhcieidljjaaGreatDoorBentWJ
import Derived.Test.YtoblhcieidljjaaGreatDoorRrmWJ
set_option linter.unusedSimpArgs false
set_option linter.unusedVariables false
namespace Go.Proofs.YtoblhcieidljjaaGreatDoor
open Go.RowKit

theorem MbsD.one {w : World} {D : Nat → Prop} : ∀ {l : List Mb} {cells : List Value}, MbsD w D cells l → ∀ u ∈ cells, u.oneCell' = true
  | [], cells, h, u, hu => by
    have h : cells = [] := h
    subst h; cases hu
  | m :: r, cells, h, u, hu => by
    obtain ⟨a, b, c, rest, rfl, h1, h2⟩ := h
    obtain ⟨a', b', c', e, o1, o2, o3⟩ := TrD.one m.tr _ h1
    simp only [Value.agg.injEq, Array.mk.injEq, List.cons.injEq, and_true] at e
    obtain ⟨rfl, rfl, rfl⟩ := e
    simp only [List.mem_cons] at hu
    rcases hu with rfl | rfl | rfl | rfl | hu
    · rfl
    · exact o1
    · exact o2
    · exact o3
    · exact MbsD.one h2 u hu
theorem MbsD.setD {w : World} {D : Nat → Prop} : ∀ {l : List Mb} {cells : List Value}, MbsD w D cells l → ∀ (k : Nat) (hk : k < l.length) (d : Bool), MbsD w D (cells.set (k * 4) (.bool d)) (l.set k ⟨d, l[k].tr⟩)
  | [], cells, h, k, hk, _ => absurd hk (by simp)
  | m :: r, cells, h, k, hk, d => by
    obtain ⟨a, b, c, rest, rfl, h1, h2⟩ := h
    cases k with
    | zero => exact ⟨a, b, c, rest, rfl, h1, h2⟩
    | succ k =>
      have := MbsD.setD h2 k (by simpa using hk) d
      rw [show (k + 1) * 4 = k * 4 + 1 + 1 + 1 + 1 from by omega]
      exact ⟨a, b, c, _, rfl, h1, this⟩
theorem MbsD.setT {w : World} {D : Nat → Prop} : ∀ {l : List Mb} {cells : List Value}, MbsD w D cells l → ∀ (k : Nat) (hk : k < l.length) (x y z : Value) (T : Tr), TrD w D (.agg #[x, y, z]) T → MbsD w D (((cells.set (k * 4 + 1) x).set (k * 4 + 2) y).set (k * 4 + 3) z) (l.set k ⟨l[k].dec, T⟩)
  | [], cells, h, k, hk, _, _, _, _, _ => absurd hk (by simp)
  | m :: r, cells, h, k, hk, x, y, z, T, hT => by
    obtain ⟨a, b, c, rest, rfl, h1, h2⟩ := h
    cases k with
    | zero => exact ⟨x, y, z, rest, rfl, hT, h2⟩
    | succ k =>
      have := MbsD.setT h2 k (by simpa using hk) x y z T hT
      rw [show (k + 1) * 4 + 1 = k * 4 + 1 + 1 + 1 + 1 + 1 from by omega, show (k + 1) * 4 + 2 = k * 4 + 2 + 1 + 1 + 1 + 1 from by omega, show (k + 1) * 4 + 3 = k * 4 + 3 + 1 + 1 + 1 + 1 from by omega]
      exact ⟨a, b, c, _, rfl, h1, this⟩
theorem MbsD.cut {w : World} {D : Nat → Prop} : ∀ {l : List Mb} {cells : List Value}, MbsD w D cells l → ∀ k, k ≤ l.length → MbsD w D (cells.take (k * 4)) (l.take k)
  | l, cells, h, 0, _ => by simp [MbsD]
  | [], cells, h, k + 1, hk => absurd hk (by simp)
  | m :: r, cells, h, k + 1, hk => by
    obtain ⟨a, b, c, rest, rfl, h1, h2⟩ := h
    rw [show (k + 1) * 4 = k * 4 + 1 + 1 + 1 + 1 from by omega]
    exact ⟨a, b, c, rest.take (k * 4), rfl, h1, MbsD.cut h2 k (by simpa using hk)⟩
theorem cfd_mk {w : World} {D : Nat → Prop} {A : Option Addr} {n c : Nat} {cells : List Value} {L : List Mb} (hn : n = L.length) (h1 : SlD w D 4 (.slice A n c) cells) (h2 : MbsD w D cells L) : CfD w D (.agg #[.slice A n c]) L := by
  subst hn; exact ⟨A, c, cells, rfl, h1, h2⟩
theorem noMbD (w : World) (D : Nat → Prop) : MbsD w D [.bool false, .int .i64 0, .slice none 0 0, .slice none 0 0] [noMb] :=
  ⟨_, _, _, [], rfl, TrD.mk_ (by constructor <;> omega) (SlD.nil _ _ _) (by simp) (SlD.nil _ _ _) (by simp) (by simp) (by simp [TrsD]), rfl⟩
/-- The length of a slice that stands in a cell. -/
def lenAt (w : World) (b : Nat) : Nat := match w.cell? ⟨b, 0, none⟩ with
  | some (.slice _ n _) => n
  | _ => 0
/-- What BentConfig hands back. -/
def BcfP (w : World) (g : Nat) (D : Nat → Prop) (e : Ending) (w' : World) : Prop :=
  ∃ v L, e = .returned v ∧ CfD w' (fun b => D b ∨ (w.heap.size ≤ b ∧ b < w'.heap.size)) v L ∧ L.length ≤ 20 ∧ (∀ m ∈ L, m.tr.size ≤ 2000) ∧ SrcR 84 w' g ∧ Fr (some g) w w'

set_option maxRecDepth 100000 in
set_option maxHeartbeats 8000000 in
theorem bcfg_any (L : List Mb) (v : Value) (g : Nat) (w : World) (D : Nat → Prop) (hD : ∀ b, D b → b < w.heap.size ∧ b ≠ g) (h : CfD w D v L) (hL1 : 1 ≤ L.length) (hL : L.length ≤ 10) (hsz : ∀ m ∈ L, m.tr.size ≤ 1000) (S0 : SrcR 84 w g) :
    Calls Tryz.prog 47 #[.pointer (some ⟨g, 0, none⟩), v] w (BcfP w g D) := by
  obtain ⟨A, c, cells, rfl, hsl, hms⟩ := h
  have hg := S0.lt
  have HD := Lib.hid hD
  have HSZ := Lib.hid hsz
  have hone := hms.one
  clear hD hsz
  go_enter Tryz.func47, Tryz.ntmps47
  go_upto_region 1 with (fail)
  generalize hW : (w.alloc _).alloc _ = w1
  have hz1 : w1.heap.size = w.heap.size + 2 := by rw [← hW]; simp
  have F1 : Fr none w w1 := hW ▸ ((Fr.refl _ w).alloc _).alloc _
  have b3 : CB w1 w.heap.size (.slice A L.length c) := by
    rw [← hW]; exact (Below.heap_alloc _ _ _ (by simp <;> omega)).trans (blk_new _ _)
  have b4 : CB w1 (w.heap.size + 1) (.slice none 0 0) := by
    rw [← hW]; exact blk_new_at (by simp) _
  have hz1a : w.heap.size + 2 ≤ w1.heap.size := by omega
  have hz1b : w1.heap.size ≤ w.heap.size + 2 := by omega
  clear hW hz1
  obtain ⟨B4, hB4⟩ : ∃ B4, B4 = w.heap.size + 1 := ⟨_, rfl⟩
  rw [← hB4] at b4 ⊢
  have hBa : B4 ≤ w.heap.size + 1 := by omega
  have hBb : w.heap.size + 1 ≤ B4 := by omega
  clear hB4
  have R3 := b3.cell
  have l3 := blk_lt b3
  have hs1 : SlD w1 (fun _ => True) 4 (.slice A L.length c) cells := hsl.keep (fun k hk => ⟨trivial, F1.block k (HD.out k hk).1 (by simp)⟩)
  have hm1 : MbsD w1 D cells L := hms.keep (fun k hk => ⟨hk, F1.block k (HD.out k hk).1 (by simp)⟩) _ _
  have S1 := S0.fr F1
  have hs2 : SlD w1 (fun _ => True) 4 (.slice A L.length c) cells := hs1
  clear S0 hsl hms
  go_upto_region 2 with (at_builtin; (refine app_copy eiMb rfl _ _ rfl w1.heap.size rfl rfl A L.length c cells rfl hs1 hone (by omega) (by unfold maxLen; omega) ?_); intro A2 c2 w2 own2 F2)
  obtain ⟨gA, rfl, hgA⟩ : ∃ gA, A2 = some ⟨gA, 0, none⟩ ∧ w1.heap.size ≤ gA := by
    rcases own_parts own2 with ⟨_, h0⟩ | ⟨gA, _, _, e1, hgA, _⟩
    · omega
    · injection e1 with e1; exact ⟨gA, e1, hgA⟩
  generalize hW : w2.alloc _ = w3
  have F3 : Fr none w2 w3 := hW ▸ (Fr.refl none w2).alloc _
  have b5 : CB w3 w2.heap.size (.slice (some ⟨gA, 0, none⟩) L.length c2) := by rw [← hW]; exact blk_new _ _
  clear hW
  obtain ⟨B5, hB5⟩ : ∃ B5, B5 = w2.heap.size := ⟨_, rfl⟩
  rw [← hB5] at b5 ⊢
  have lg2 := (own_free own2).2.2
  have hgB : gA < B5 := by omega
  have hBz : B5 ≤ w2.heap.size := by omega
  clear hB5
  have F23 := F2.pure F3
  have own3 := own_fr own2 F3 (by simp)
  have b43 := b4.fr F23 (by simp)
  have hm3 : MbsD w3 D cells L := hm1.keep (fun k hk => ⟨hk, F23.block k (by have := (HD.out k hk).1; omega) (by simp)⟩) _ _
  have S3 := S1.fr F23
  have F03 := F1.pure F23
  have hz2 := F2.size
  have hz3 := F3.size
  have hq0 : ((L.length : Int) == 0) = false := by rw [beq_eq_false_iff_ne]; omega
  have R5 := b5.cell
  have l5 := blk_lt b5
  have lg3 := (own_free own3).2.2
  clear hs1 hs2 hm1 S1 own2 F2 F3 F23 b3 b4 R3 l3 F1 hone
  go_upto_region 4 with (fail)
  refine wp_region_held_drew (S := fun W => (∀ z, W.cell? ⟨B5, z, none⟩ = (#[.slice (some ⟨gA, 0, none⟩) L.length c2] : Array Value)[z]?) ∧ Fr (some g) w3 W) (by kernel_rfl) ⟨b5.cell, (Fr.refl _ _).drew⟩ (fun hH0 => ?_)
  refine wpAnyH_take (i := 0) (v := ?_) rfl (by kernel_rfl) (by kernel_rfl) (by kernel_rfl) (fun _ _ _ h => h) (Or.inl ⟨by rfl, ?_⟩) (by assumption) ?_
  rotate_left
  · (intro W hW; (try dsimp only at hW); go_simp; try with_reducible rfl)
  try simp only [Act.put, List.setIfInBounds_toArray, List.set_cons_zero, List.set_cons_succ, List.getElem_toArray, List.getElem_cons_zero, List.getElem_cons_succ]
  refine wpAnyH_take (i := 1) (v := ?_) rfl (by kernel_rfl) (by kernel_rfl) (by kernel_rfl) (fun _ _ _ h => h) (Or.inl ⟨by rfl, ?_⟩) (by assumption) ?_
  rotate_left
  · (intro W hW; (try dsimp only at hW); go_simp; try with_reducible rfl)
  try simp only [Act.put, List.setIfInBounds_toArray, List.set_cons_zero, List.set_cons_succ, List.getElem_toArray, List.getElem_cons_zero, List.getElem_cons_succ]
  refine wpAnyH_take (i := 2) (v := ?_) rfl (by kernel_rfl) (by kernel_rfl) (by kernel_rfl) (fun _ _ _ h => h) (Or.inl ⟨by rfl, ?_⟩) (by assumption) ?_
  rotate_left
  · (intro W hW; (try dsimp only at hW); go_simp; try with_reducible rfl)
  try simp only [Act.put, List.setIfInBounds_toArray, List.set_cons_zero, List.set_cons_succ, List.getElem_toArray, List.getElem_cons_zero, List.getElem_cons_succ]
  refine wpAnyH_take (i := 3) (v := ?_) rfl (by kernel_rfl) (by kernel_rfl) (by kernel_rfl) (fun _ _ _ h => h) (Or.inl ⟨by rfl, ?_⟩) (by assumption) ?_
  rotate_left
  · (intro W hW; (try dsimp only at hW); go_simp; try with_reducible rfl)
  try simp only [Act.put, List.setIfInBounds_toArray, List.set_cons_zero, List.set_cons_succ, List.getElem_toArray, List.getElem_cons_zero, List.getElem_cons_succ]
  refine wpAnyH_take (i := 4) (v := ?_) rfl (by kernel_rfl) (by kernel_rfl) (by kernel_rfl) (fun _ _ _ h => h) (Or.inl ⟨by rfl, ?_⟩) (by assumption) ?_
  rotate_left
  · (intro W hW; (try dsimp only at hW); go_simp; try with_reducible rfl)
  try simp only [Act.put, List.setIfInBounds_toArray, List.set_cons_zero, List.set_cons_succ, List.getElem_toArray, List.getElem_cons_zero, List.getElem_cons_succ]
  refine wpAnyH_take (i := 5) (v := ?_) rfl (by kernel_rfl) (by kernel_rfl) (by kernel_rfl) (fun _ _ _ h => h) (Or.inl ⟨by rfl, ?_⟩) (by assumption) ?_
  rotate_left
  · (intro W hW; (try dsimp only at hW); go_simp; try with_reducible rfl)
  try simp only [Act.put, List.setIfInBounds_toArray, List.set_cons_zero, List.set_cons_succ, List.getElem_toArray, List.getElem_cons_zero, List.getElem_cons_succ]
  refine wpAnyH_ready (rs := [6]) (by kernel_rfl) (by simp) ?_
  refine AllReadyH.cons rfl (fun K hK => ?_) AllReadyH.nil
  simp only [List.getElem_toArray, List.getElem_cons_zero, List.getElem_cons_succ]
  go_simp
  go_at_call 10
  refine (tapeN_any (L.length : Int) g _ (by omega) (by omega) S3.drew).mono ?_
  rintro e w4 ⟨i, rfl, i1, i2, S4, F4⟩
  obtain ⟨i, rfl⟩ := Int.eq_ofNat_of_zero_le i1
  have F34 := ((Fr.refl (some g) w3).drew).same F4
  have hil : i < L.length := by omega
  refine hK.out _ _ ⟨(b5.fr F34 (by simp; omega)).cell, F34⟩ (fun hH1 => ?_)
  clear hK K hH0
  try simp only [Act.put, List.setIfInBounds_toArray, List.set_cons_zero, List.set_cons_succ, List.getElem_toArray, List.getElem_cons_zero, List.getElem_cons_succ]
  refine wpAnyH_take (i := 7) (v := ?_) rfl (by kernel_rfl) (by kernel_rfl) (by kernel_rfl) (fun _ _ _ h => h) (Or.inl ⟨by rfl, ?_⟩) (by assumption) ?_
  rotate_left
  · (intro W hW; (try dsimp only at hW); go_simp; try with_reducible rfl)
  try simp only [Act.put, List.setIfInBounds_toArray, List.set_cons_zero, List.set_cons_succ, List.getElem_toArray, List.getElem_cons_zero, List.getElem_cons_succ]
  refine wpAnyH_take (i := 8) (v := ?_) rfl (by kernel_rfl) (by kernel_rfl) (by kernel_rfl) (fun _ _ _ h => h) (Or.inl ⟨by rfl, ?_⟩) (by assumption) ?_
  rotate_left
  · (intro W hW; (try dsimp only at hW); go_simp; try with_reducible rfl)
  try simp only [Act.put, List.setIfInBounds_toArray, List.set_cons_zero, List.set_cons_succ, List.getElem_toArray, List.getElem_cons_zero, List.getElem_cons_succ]
  refine wpAnyH_done (by kernel_rfl) ?_ _
  go_wp2_with fail
  refine (tapeN_any 5 g _ (by omega) (by omega) S4).mono ?_
  rintro e w5 ⟨d, rfl, d1, d2, S5, F5⟩
  have F35 := F34.same F5
  have hz5 := F35.size
  have own5 := own_fr own3 F35 (by simp; omega)
  have b55 := b5.fr F35 (by simp; omega)
  have b45 := b43.fr F35 (by simp; omega)
  have hm5 : MbsD w5 D cells L := hm3.keep (fun k hk => ⟨hk, F35.block k (by have := (HD.out k hk).1; omega) (by have := (HD.out k hk).2; simp; omega)⟩) _ _
  have F05 : Fr (some g) w w5 := (F03.mono).same F35
  clear F34 F35 F5 own3 b5 b43 hm3 F03 S3 S4 R5 l5 hH1 lg2 lg3
  obtain ⟨Z5, hcl5, lg5⟩ := own_free own5
  obtain ⟨x1, x2, x3, y0, y1, y2, y3, ht⟩ := hm5.get i hil
  have y0 := hcl5 _ _ y0
  have y1 := hcl5 _ _ y1
  have y2 := hcl5 _ _ y2
  have y3 := hcl5 _ _ y3
  obtain ⟨th, A1, n1, c1, A2, n2, c2', e⟩ := ht.shape
  simp only [Value.agg.injEq, Array.mk.injEq, List.cons.injEq, and_true] at e
  obtain ⟨rfl, rfl, rfl⟩ := e
  have hsi := HSZ.out _ (List.getElem_mem hil)
  clear hcl5
  obtain rfl | rfl | rfl | rfl | rfl : d = 0 ∨ d = 1 ∨ d = 2 ∨ d = 3 ∨ d = 4 := by omega
  · go_upto_region 16 with (fail)
    have own6 := own_setS own5 (i * 4) (.bool (!L[i].dec))
    have FS := Fr.set1 w5 ⟨gA, i * 4, none⟩ (.bool (!L[i].dec))
    generalize hW : World.setCell _ _ _ = wn at *
    have hzs := FS.size
    have hb5 := b55.fr FS (by simp; omega)
    have hb4 := b45.fr FS (by simp; omega)
    have Sn := S5.frs FS (by simp; omega)
    have Fn := F05.own FS (by simp; omega)
    have hslN : SlD wn (fun b => D b ∨ (w1.heap.size ≤ b ∧ b < wn.heap.size)) 4 _ _ := (SlD.own_dn own6).keep (fun b hb => ⟨.inr ⟨hb.1, hb.2⟩, rfl⟩)
    have hmmN : MbsD wn (fun b => D b ∨ (w1.heap.size ≤ b ∧ b < wn.heap.size)) _ _ := MbsD.setD (hm5.keep (fun b hb => ⟨.inl hb, FS.block b (by have := (HD.out b hb).1; omega) (by have := (HD.out b hb).1; simp; omega)⟩) _ _) i hil (!L[i].dec)
    have hnn : Hid (L.length = (L.set i ⟨!L[i].dec, L[i].tr⟩).length) := by unfold Hid; simp
    have hll : (L.set i ⟨!L[i].dec, L[i].tr⟩).length ≤ 20 := by rw [← hnn.out]; omega
    have hss : ∀ m ∈ L.set i ⟨!L[i].dec, L[i].tr⟩, m.tr.size ≤ 2000 := fun m hm => by
      rcases List.mem_or_eq_of_mem_set hm with hm | rfl
      · have := HSZ.out m hm; omega
      · show L[i].tr.size ≤ 2000; omega
    clear hW y0 y1 y2 y3 Z5 own5 b55 b45 S5
    have R5n := hb5.cell
    have l5n := blk_lt hb5
    have R4n := hb4.cell
    have Z4n := hb4.free
    have l4n := blk_lt hb4
    go_wp2_with fail
    generalize hW5 : World.setCell _ _ _ = w9
    have G : Fr (some B4) wn w9 := hW5 ▸ Fr.set1 _ ⟨B4, 0, none⟩ _
    have m9 : CB w9 B4 (.slice (some ⟨gA, 0, none⟩) L.length c2) := by rw [← hW5]; exact hb4.set0 _
    clear hW5
    have R6 := m9.cell
    refine bodyPost_ret (v := .agg #[.slice (some ⟨gA, 0, none⟩) L.length c2]) (by simp [results, Tryz.results47, go_sem, R6]) rfl ?_
    have hzG := G.size
    have hzn := Fn.size
    have kk : ∀ b, (D b ∨ (w1.heap.size ≤ b ∧ b < wn.heap.size)) → (D b ∨ (w.heap.size ≤ b ∧ b < w9.heap.size)) ∧ w9.heap[b]? = wn.heap[b]? := fun b hb => by
      rcases hb with hb | hb
      · exact ⟨.inl hb, G.block b (by have := (HD.out b hb).1; omega) (by have := (HD.out b hb).1; simp; omega)⟩
      · exact ⟨.inr ⟨by omega, by omega⟩, G.block b hb.2 (by simp; omega)⟩
    exact ⟨_, (L.set i ⟨!L[i].dec, L[i].tr⟩), rfl, cfd_mk hnn.out (hslN.keep kk) (hmmN.keep kk _ _), hll, hss, Sn.frs G (by simp; omega), Fn.own G (by simp; omega)⟩
  · go_upto_region 16 with (go_at_call 70; refine (bent_any L[i].tr.dep L[i].tr (.agg #[.int .i64 th, .slice A1 n1 c1, .slice A2 n2 c2']) g w5 D (Nat.le_refl _) (by omega) (fun b hb => ⟨by have := (HD.out b hb).1; omega, (HD.out b hb).2⟩) ht S5).mono ?_; rintro e w7 ⟨v7, T7, rfl, hT7, hs7, S7, F7⟩; obtain ⟨th7, B1, m1, e1, B2, m2, e2, rfl⟩ := hT7.shape; have own7 := own_fr own5 F7 (by simp; omega); obtain ⟨Z7, hcl7, lg7⟩ := own_free own7; obtain ⟨_, _, _, _, u1, u2, u3, _⟩ := hm5.get i hil; have u1 := hcl7 _ _ u1; have u2 := hcl7 _ _ u2; have u3 := hcl7 _ _ u3; clear hcl7)
    have own6 := own_setS (own_setS (own_setS own7 (i * 4 + 1) (.int .i64 th7)) (i * 4 + 2) (.slice B1 m1 e1)) (i * 4 + 3) (.slice B2 m2 e2)
    have FS := fr_row3 w7 gA (i * 4 + 1) (.int .i64 th7) (.slice B1 m1 e1) (.slice B2 m2 e2)
    rw [show i * 4 + 1 + 1 = i * 4 + 2 from rfl, show i * 4 + 1 + 2 = i * 4 + 3 from rfl] at FS
    generalize hW : World.setCell (World.setCell (World.setCell _ _ _) _ _) _ _ = wn at *
    have hzs := FS.size
    have hz7 := F7.size
    have hb5 := (b55.fr F7 (by simp; omega)).fr FS (by simp; omega)
    have hb4 := (b45.fr F7 (by simp; omega)).fr FS (by simp; omega)
    have Sn := S7.frs FS (by simp; omega)
    have Fn := (F05.same F7).own FS (by simp; omega)
    have hslN : SlD wn (fun b => D b ∨ (w1.heap.size ≤ b ∧ b < wn.heap.size)) 4 _ _ := (SlD.own_dn own6).keep (fun b hb => ⟨.inr ⟨hb.1, hb.2⟩, rfl⟩)
    have hmmN : MbsD wn (fun b => D b ∨ (w1.heap.size ≤ b ∧ b < wn.heap.size)) _ _ := MbsD.setT (hm5.keep (fun b hb => ⟨.inl hb, (FS.block b (by have := (HD.out b hb).1; omega) (by have := (HD.out b hb).1; simp; omega)).trans (F7.block b (by have := (HD.out b hb).1; omega) (by have := (HD.out b hb).2; simp; omega))⟩) _ _) i hil _ _ _ T7 (TrD.keep (fun b hb => by
      rcases hb with hb | hb
      · exact ⟨.inl hb, FS.block b (by have := (HD.out b hb).1; omega) (by have := (HD.out b hb).1; simp; omega)⟩
      · exact ⟨.inr ⟨by omega, by omega⟩, FS.block b (by omega) (by simp; omega)⟩) _ _ hT7)
    have hss : ∀ m ∈ L.set i ⟨L[i].dec, T7⟩, m.tr.size ≤ 2000 := fun m hm => by
      rcases List.mem_or_eq_of_mem_set hm with hm | rfl
      · have := HSZ.out m hm; omega
      · show Tr.size (T7) ≤ 2000; omega
    have hnn : Hid (L.length = (L.set i ⟨L[i].dec, T7⟩).length) := by unfold Hid; simp
    have hll : (L.set i ⟨L[i].dec, T7⟩).length ≤ 20 := by rw [← hnn.out]; omega
    clear hW y0 y1 y2 y3 Z5 own5 b55 b45 S5 own7 Z7 u1 u2 u3
    have R5n := hb5.cell
    have l5n := blk_lt hb5
    have R4n := hb4.cell
    have Z4n := hb4.free
    have l4n := blk_lt hb4
    go_wp2_with fail
    generalize hW5 : World.setCell _ _ _ = w9
    have G : Fr (some B4) wn w9 := hW5 ▸ Fr.set1 _ ⟨B4, 0, none⟩ _
    have m9 : CB w9 B4 (.slice (some ⟨gA, 0, none⟩) L.length c2) := by rw [← hW5]; exact hb4.set0 _
    clear hW5
    have R6 := m9.cell
    refine bodyPost_ret (v := .agg #[.slice (some ⟨gA, 0, none⟩) L.length c2]) (by simp [results, Tryz.results47, go_sem, R6]) rfl ?_
    have hzG := G.size
    have hzn := Fn.size
    have kk : ∀ b, (D b ∨ (w1.heap.size ≤ b ∧ b < wn.heap.size)) → (D b ∨ (w.heap.size ≤ b ∧ b < w9.heap.size)) ∧ w9.heap[b]? = wn.heap[b]? := fun b hb => by
      rcases hb with hb | hb
      · exact ⟨.inl hb, G.block b (by have := (HD.out b hb).1; omega) (by have := (HD.out b hb).1; simp; omega)⟩
      · exact ⟨.inr ⟨by omega, by omega⟩, G.block b hb.2 (by simp; omega)⟩
    exact ⟨_, (L.set i ⟨L[i].dec, T7⟩), rfl, cfd_mk hnn.out (hslN.keep kk) (hmmN.keep kk _ _), hll, hss, Sn.frs G (by simp; omega), Fn.own G (by simp; omega)⟩
  · have R55 := (b55).cell
    have l55 := blk_lt b55
    have own6 := own_setS (own_setS (own_setS own5 (i * 4 + 1) (.int .i64 1)) (i * 4 + 2) (.slice (some ⟨w5.heap.size, 0, none⟩) 1 1)) (i * 4 + 3) (.slice none 0 0)
    have FS := fr_row3 w5 gA (i * 4 + 1) (.int .i64 1) (.slice (some ⟨w5.heap.size, 0, none⟩) 1 1) (.slice none 0 0)
    rw [show i * 4 + 1 + 1 = i * 4 + 2 from rfl, show i * 4 + 1 + 2 = i * 4 + 3 from rfl] at FS
    go_upto_region 16 with (fail)
    generalize hW : World.setCell (World.setCell (World.setCell _ _ _) _ _) _ _ = w6 at *
    have hz6 : w6.heap.size = w5.heap.size := by rw [← hW]; simp
    have hz6a : w5.heap.size ≤ w6.heap.size := by omega
    have hz6b : w6.heap.size ≤ w5.heap.size := by omega
    have FA := (Fr.refl none w6).alloc (.cells #[.int .i64 (L.length : Int)] 3)
    have hlit := SlD.lit_dn (w := w6) (w' := w6.alloc (.cells #[.int .i64 (L.length : Int)] 3)) #[.int .i64 (L.length : Int)] 3 1 1 w1.heap.size rfl (by unfold maxLen; omega) (by omega) (Fr.refl none _)
    rw [hz6] at hlit
    clear hz6
    have HLIT := Lib.hid hlit
    clear hlit hW
    generalize hW : w6.alloc _ = wn at *
    have hlit := HLIT.out
    clear hW HLIT
    have hzs := FA.size
    have hb5 := (b55.fr FS (by simp; omega)).fr FA (by simp)
    have hb4 := (b45.fr FS (by simp; omega)).fr FA (by simp)
    have Sn := (S5.frs FS (by simp; omega)).fr FA
    have Fn := (F05.own FS (by simp; omega)).pure FA
    have hslN : SlD wn (fun b => D b ∨ (w1.heap.size ≤ b ∧ b < wn.heap.size)) 4 _ _ := (SlD.own_dn (own_fr own6 FA (by simp))).keep (fun b hb => ⟨.inr ⟨hb.1, hb.2⟩, rfl⟩)
    have hT7 : TrD wn (fun b => D b ∨ (w1.heap.size ≤ b ∧ b < wn.heap.size)) (.agg #[.int .i64 1, .slice (some ⟨w5.heap.size, 0, none⟩) 1 1, .slice none 0 0]) (.mk 1 [(L.length : Int)] []) := by
      refine TrD.mk_ (by constructor <;> omega) (hlit.keep (fun b hb => ⟨.inr ⟨hb.1, hb.2⟩, rfl⟩)) (fun x hx => ?_) (SlD.nil _ _ _) (by simp) (by simp) (by simp [TrsD])
      rw [List.mem_singleton.1 hx]; constructor <;> omega
    have hmmN : MbsD wn (fun b => D b ∨ (w1.heap.size ≤ b ∧ b < wn.heap.size)) _ _ := MbsD.setT (hm5.keep (fun b hb => ⟨.inl hb, (FA.block b (by have := (HD.out b hb).1; omega) (by simp)).trans (FS.block b (by have := (HD.out b hb).1; omega) (by have := (HD.out b hb).1; simp; omega))⟩) _ _) i hil _ _ _ (.mk 1 [(L.length : Int)] []) hT7
    have hss : ∀ m ∈ L.set i ⟨L[i].dec, .mk 1 [(L.length : Int)] []⟩, m.tr.size ≤ 2000 := fun m hm => by
      rcases List.mem_or_eq_of_mem_set hm with hm | rfl
      · have := HSZ.out m hm; omega
      · show Tr.size (.mk 1 [(L.length : Int)] []) ≤ 2000; simp [Tr.size, sizeL]
    have hnn : Hid (L.length = (L.set i ⟨L[i].dec, .mk 1 [(L.length : Int)] []⟩).length) := by unfold Hid; simp
    have hll : (L.set i ⟨L[i].dec, .mk 1 [(L.length : Int)] []⟩).length ≤ 20 := by rw [← hnn.out]; omega
    clear y0 y1 y2 y3 Z5 own5 b55 b45 S5 R55 l55 hlit hT7
    have R5n := hb5.cell
    have l5n := blk_lt hb5
    have R4n := hb4.cell
    have Z4n := hb4.free
    have l4n := blk_lt hb4
    go_wp2_with fail
    generalize hW5 : World.setCell _ _ _ = w9
    have G : Fr (some B4) wn w9 := hW5 ▸ Fr.set1 _ ⟨B4, 0, none⟩ _
    have m9 : CB w9 B4 (.slice (some ⟨gA, 0, none⟩) L.length c2) := by rw [← hW5]; exact hb4.set0 _
    clear hW5
    have R6 := m9.cell
    refine bodyPost_ret (v := .agg #[.slice (some ⟨gA, 0, none⟩) L.length c2]) (by simp [results, Tryz.results47, go_sem, R6]) rfl ?_
    have hzG := G.size
    have hzn := Fn.size
    have kk : ∀ b, (D b ∨ (w1.heap.size ≤ b ∧ b < wn.heap.size)) → (D b ∨ (w.heap.size ≤ b ∧ b < w9.heap.size)) ∧ w9.heap[b]? = wn.heap[b]? := fun b hb => by
      rcases hb with hb | hb
      · exact ⟨.inl hb, G.block b (by have := (HD.out b hb).1; omega) (by have := (HD.out b hb).1; simp; omega)⟩
      · exact ⟨.inr ⟨by omega, by omega⟩, G.block b hb.2 (by simp; omega)⟩
    exact ⟨_, (L.set i ⟨L[i].dec, .mk 1 [(L.length : Int)] []⟩), rfl, cfd_mk hnn.out (hslN.keep kk) (hmmN.keep kk _ _), hll, hss, Sn.frs G (by simp; omega), Fn.own G (by simp; omega)⟩
  · have R55 := (b55).cell
    have Z55 := (b55).free
    have l55 := blk_lt b55
    have hcap : L.length ≤ c2 ∧ c2 ≤ maxLen := by
      rcases own_parts own5 with ⟨h0, _⟩ | ⟨_, _, _, e1, _, _, r1, r2, _⟩
      · cases h0
      · injection e1 with _ _ e3; subst e3; exact ⟨r1, r2⟩
    have hcap1 := hcap.1
    have FS := Fr.set1 w5 ⟨B5, 0, none⟩ (.slice (some ⟨gA, 0, none⟩) (L.length - 1) c2)
    go_upto_region 16 with (fail)
    have hb5 := b55.set0 (.slice (some ⟨gA, 0, none⟩) (L.length - 1) c2)
    generalize hW : World.setCell _ _ _ = wn at *
    have hzs := FS.size
    have hlb := blk_lt hb5
    have hb4 := b45.fr FS (by simp; omega)
    have Sn := S5.frs FS (by simp; omega)
    have Fn := F05.own FS (by simp; omega)
    have own6 : wn.ownsRow w1.heap.size 33 4 (.slice (some ⟨gA, 0, none⟩) L.length c2) L.length cells := own_ne_fr own5 FS (by simp [Value.ownBlock]; omega)
    have hslN : SlD wn (fun b => D b ∨ (w1.heap.size ≤ b ∧ b < wn.heap.size)) 4 (.slice (some ⟨gA, 0, none⟩) (L.length - 1) c2) (cells.take ((L.length - 1) * 4)) := ((SlD.own_dn own6).keep (fun b hb => ⟨.inr ⟨hb.1, hb.2⟩, rfl⟩)).take (L.length - 1) (by omega)
    have hmmN : MbsD wn (fun b => D b ∨ (w1.heap.size ≤ b ∧ b < wn.heap.size)) (cells.take ((L.length - 1) * 4)) (L.take (L.length - 1)) := MbsD.cut (hm5.keep (fun b hb => ⟨.inl hb, FS.block b (by have := (HD.out b hb).1; omega) (by have := (HD.out b hb).1; simp; omega)⟩) _ _) _ (by omega)
    have hnn : Hid (L.length - 1 = (L.take (L.length - 1)).length) := by unfold Hid; rw [List.length_take]; omega
    have hll : (L.take (L.length - 1)).length ≤ 20 := by rw [← hnn.out]; omega
    have hss : ∀ m ∈ L.take (L.length - 1), m.tr.size ≤ 2000 := fun m hm => by have := HSZ.out m (List.mem_of_mem_take hm); omega
    clear hW y0 y1 y2 y3 Z5 own5 b55 b45 S5 R55 Z55 l55 hcap hcap1
    have R5n := hb5.cell
    have l5n := blk_lt hb5
    have R4n := hb4.cell
    have Z4n := hb4.free
    have l4n := blk_lt hb4
    go_wp2_with fail
    generalize hW5 : World.setCell _ _ _ = w9
    have G : Fr (some B4) wn w9 := hW5 ▸ Fr.set1 _ ⟨B4, 0, none⟩ _
    have m9 : CB w9 B4 (.slice (some ⟨gA, 0, none⟩) (L.length - 1) c2) := by rw [← hW5]; exact hb4.set0 _
    clear hW5
    have R6 := m9.cell
    refine bodyPost_ret (v := .agg #[.slice (some ⟨gA, 0, none⟩) (L.length - 1) c2]) (by simp [results, Tryz.results47, go_sem, R6]) rfl ?_
    have hzG := G.size
    have hzn := Fn.size
    have kk : ∀ b, (D b ∨ (w1.heap.size ≤ b ∧ b < wn.heap.size)) → (D b ∨ (w.heap.size ≤ b ∧ b < w9.heap.size)) ∧ w9.heap[b]? = wn.heap[b]? := fun b hb => by
      rcases hb with hb | hb
      · exact ⟨.inl hb, G.block b (by have := (HD.out b hb).1; omega) (by have := (HD.out b hb).1; simp; omega)⟩
      · exact ⟨.inr ⟨by omega, by omega⟩, G.block b hb.2 (by simp; omega)⟩
    exact ⟨_, (L.take (L.length - 1)), rfl, cfd_mk hnn.out (hslN.keep kk) (hmmN.keep kk _ _), hll, hss, Sn.frs G (by simp; omega), Fn.own G (by simp; omega)⟩
  · have hne5 : (Value.slice (some ⟨gA, 0, none⟩) L.length c2).ownBlock ≠ some B5 := by simp [Value.ownBlock]; omega
    have hm50 : MbsD w5 D cells (L ++ List.replicate 0 noMb) := by simpa using hm5
    clear y0 y1 y2 y3 Z5 ht hsi hm5
    have lB5 := blk_lt b55
    go_upto_region 6 with (fail)
    go_loopw [33] (fun _ wr => ∃ (k c3 : Nat) (A3 : Option Addr) (cs : List Value), L.length + k ≤ 11 ∧ CB wr B5 (.slice A3 (L.length + k) c3) ∧ CB wr B4 (.slice none 0 0) ∧ wr.ownsRow w1.heap.size 33 4 (.slice A3 (L.length + k) c3) (L.length + k) cs ∧ MbsD wr D cs (L ++ List.replicate k noMb) ∧ (Value.slice A3 (L.length + k) c3).ownBlock ≠ some B5 ∧ SrcR 84 wr g ∧ Fr (some g) w wr) (fun _ wr => 11 - lenAt wr B5)
    case atStart => exact ⟨0, c2, _, _, by omega, b55, b45, own5, hm50, hne5, S5, F05⟩
    case round =>
      clear b55 b45 own5 hm50 hne5 S5 F05
      obtain ⟨k, c3, A3, cs, hk, b55, b45, own, hm, hne, S, F⟩ := hrel
      obtain ⟨wz, hwz⟩ : ∃ wz : World, wz = wr := ⟨_, rfl⟩
      subst hwz
      have R5z := b55.cell
      have Z5z := b55.free
      have l5z := blk_lt b55
      by_cases hlt : L.length + k ≤ 10
      · have hcd : decide (((L.length + k : Nat) : Int) ≤ 10) = true := decide_eq_true (by omega)
        go_wp2_with (at_builtin; refine app_lit eiMb rfl _ _ rfl w1.heap.size A3 (L.length + k) c3 _ rfl own 1 [.bool false, .int .i64 0, .slice none 0 0, .slice none 0 0] _ _ rfl (by simp) rfl (by simp [Value.oneCell']) (by omega) (by unfold maxLen; omega) (by omega) ?_; intro A5 c5 w6 own6 F6 nb6; have b56 := b55.fr F6 hne; have R56 := b56.cell; have Z56 := b56.free; have l56 := blk_lt b56)
        have hlen : lenAt wz B5 = L.length + k := by unfold lenAt; rw [R5z 0]; rfl
        have FQ := Fr.set1 w6 ⟨B5, 0, none⟩ (.slice A5 (L.length + k + 1) c5)
        have b57 := b56.set0 (.slice A5 (L.length + k + 1) c5)
        have og := own_blk_ge own
        have hz6 := F6.size
        have hne6 : (Value.slice A5 (L.length + k + 1) c5).ownBlock ≠ some B5 := by
          rcases nb6 with h | ⟨q, h, hq⟩
          · rw [h]; exact hne
          · rw [h]; simp; omega
        have hlen2 : lenAt (w6.setCell ⟨B5, 0, none⟩ (.slice A5 (L.length + k + 1) c5)) B5 = L.length + k + 1 := by unfold lenAt; rw [b57.cell 0]; rfl
        have b46 : CB w6 B4 (.slice none 0 0) := b45.fr F6 (fun e => by have := og B4 e; omega)
        have hm6 : MbsD w6 D cs (L ++ List.replicate k noMb) := hm.keep (fun b hb => ⟨hb, F6.block b (by have := F.size; have := (HD.out b hb).1; omega) (fun e => by have := og b e.symm; have := (HD.out b hb).1; omega)⟩) _ _
        have hm7 : MbsD (w6.setCell ⟨B5, 0, none⟩ (.slice A5 (L.length + k + 1) c5)) D cs (L ++ List.replicate k noMb) := hm6.keep (fun b hb => ⟨hb, FQ.block b (by have := F.size; have := (HD.out b hb).1; omega) (by have := (HD.out b hb).1; simp; omega)⟩) _ _
        have hms : MbsD (w6.setCell ⟨B5, 0, none⟩ (.slice A5 (L.length + k + 1) c5)) D (cs ++ [.bool false, .int .i64 0, .slice none 0 0, .slice none 0 0]) (L ++ List.replicate (k + 1) noMb) := by
          rw [List.replicate_succ', ← List.append_assoc]
          exact MbsD.append (noMbD _ _) hm7
        have S7 := (S.frs F6 (fun b hb => by have := og b hb; omega)).frs FQ (by simp; omega)
        have F7 := (F.own F6 (fun b hb => by have := og b hb; omega)).own FQ (by simp; omega)
        have b47 := b46.fr FQ (by simp; omega)
        have own7 := own_ne_fr own6 FQ hne6
        go_roundw
        case rel => exact ⟨k + 1, c5, A5, _, by omega, b57, b47, own7, hms, hne6, S7, F7⟩
        case measure => rw [hlen, hlen2]; omega
      · have hcd : decide (((L.length + k : Nat) : Int) ≤ 10) = false := decide_eq_false (by omega)
        obtain ⟨wn, hwn⟩ : ∃ wn : World, wn = wz := ⟨_, rfl⟩
        subst hwn
        have hzF := F.size
        have hb5 := b55
        have hb4 := b45
        have Sn := S
        have Fn := F
        have hslN : SlD wn (fun b => D b ∨ (w1.heap.size ≤ b ∧ b < wn.heap.size)) 4 _ _ := (SlD.own_dn own).keep (fun b hb => ⟨.inr ⟨hb.1, hb.2⟩, rfl⟩)
        have hmmN : MbsD wn (fun b => D b ∨ (w1.heap.size ≤ b ∧ b < wn.heap.size)) _ _ := hm.keep (fun b hb => ⟨.inl hb, rfl⟩) _ _
        have hnn : Hid (L.length + k = (L ++ List.replicate k noMb).length) := by unfold Hid; simp
        have hll : (L ++ List.replicate k noMb).length ≤ 20 := by rw [← hnn.out]; omega
        have hss : ∀ m ∈ L ++ List.replicate k noMb, m.tr.size ≤ 2000 := fun m hm => by
          rcases List.mem_append.1 hm with hm | hm
          · have := HSZ.out m hm; omega
          · rw [(List.mem_replicate.1 hm).2]; simp [noMb, zeroTr, Tr.size, sizeL]
        clear b55 b45 S F own hm R5z Z5z l5z
        have R5n := hb5.cell
        have l5n := blk_lt hb5
        have R4n := hb4.cell
        have Z4n := hb4.free
        have l4n := blk_lt hb4
        go_wp2_with fail
        generalize hW5 : World.setCell _ _ _ = w9
        have G : Fr (some B4) wn w9 := hW5 ▸ Fr.set1 _ ⟨B4, 0, none⟩ _
        have m9 : CB w9 B4 (.slice A3 (L.length + k) c3) := by rw [← hW5]; exact hb4.set0 _
        clear hW5
        have R6 := m9.cell
        refine bodyPost_ret (v := .agg #[.slice A3 (L.length + k) c3]) (by simp [results, Tryz.results47, go_sem, R6]) rfl ?_
        have hzG := G.size
        have hzn := Fn.size
        have kk : ∀ b, (D b ∨ (w1.heap.size ≤ b ∧ b < wn.heap.size)) → (D b ∨ (w.heap.size ≤ b ∧ b < w9.heap.size)) ∧ w9.heap[b]? = wn.heap[b]? := fun b hb => by
          rcases hb with hb | hb
          · exact ⟨.inl hb, G.block b (by have := (HD.out b hb).1; omega) (by have := (HD.out b hb).1; simp; omega)⟩
          · exact ⟨.inr ⟨by omega, by omega⟩, G.block b hb.2 (by simp; omega)⟩
        exact ⟨_, (L ++ List.replicate k noMb), rfl, cfd_mk hnn.out (hslN.keep kk) (hmmN.keep kk _ _), hll, hss, Sn.frs G (by simp; omega), Fn.own G (by simp; omega)⟩
end Go.Proofs.YtoblhcieidljjaaGreatDoor

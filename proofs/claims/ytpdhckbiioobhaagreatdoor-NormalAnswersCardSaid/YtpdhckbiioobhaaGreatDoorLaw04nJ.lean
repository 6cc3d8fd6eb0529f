/- The law NormalAnswers: its walk. -/
import Derived.Test.YtpdhckbiioobhaaGreatDoorProg
import Derived.Test.YtpdhckbiioobhaaGreatDoorLaw04cJ
import Derived.Test.YtpdhckbiioobhaaGreatDoorJN7
import Derived.Test.YtpdhckbiioobhaaGreatDoorBentWJ
import Derived.Test.YtpdhckbiioobhaaGreatDoorKdJ
set_option linter.unusedSimpArgs false
set_option linter.unusedVariables false
namespace Go.Proofs.YtpdhckbiioobhaaGreatDoor
open Go.RowKit

/-- Four trusts in a row: in memory, small enough. -/
def Lst4 (w : World) (A : Option Addr) (L : List Tr) : Prop :=
  ∃ cells, SlD w (Dm w none) 3 (.slice A 4 4) cells ∧ TrsD w (Dm w none) cells L ∧ ∀ x ∈ L, x.size ≤ 1000
theorem same_fixn (a b : Tr) (B : Bool) (hB : Hid (B = sameT a b)) (va vb : Value) (w : World) (ha : TrR w none va a) (hb : TrR w none vb b) : Calls Tryz.prog 27 #[va, vb] w fun e w' => e = .returned (.bool B) ∧ Fr none w w' :=
  (rsame_any a.dep a b va vb w none (Nat.le_refl _) ha hb).mono fun e w' k => ⟨by rw [hB.out]; exact k.1, k.2⟩
theorem nis_fixn (a : Tr) (B : Bool) (hB : Hid (B = isN a)) (va : Value) (w : World) (hs : a.size ≤ 1000) (ha : TrR w none va a) : Calls Tryz.prog 42 #[va] w fun e w' => e = .returned (.bool B) ∧ Fr none w w' :=
  (nis_any a va w ha (by omega)).mono fun e w' k => ⟨by rw [hB.out]; exact k.1, k.2⟩
theorem ris_fixn (a : Tr) (B : Bool) (hB : Hid (B = isN a)) (va : Value) (w : World) (hs : a.size ≤ 1000) (ha : TrR w none va a) : Calls Tryz.prog 43 #[va] w fun e w' => e = .returned (.bool B) ∧ Fr none w w' :=
  (ris_any a va w ha (by omega)).mono fun e w' k => ⟨by rw [hB.out]; exact k.1, k.2⟩
theorem rcmp_fix (a b : Tr) (X : Int) (hX : Hid (X = cmpT a b)) (va vb : Value) (w : World) (ha : TrR w none va a) (hb : TrR w none vb b) :
    Calls Tryz.prog 44 #[va, vb] w fun e w' => e = .returned (.int .i64 X) ∧ Fr none w w' :=
  (rcmp_any a.dep a b va vb w none (Nat.le_refl _) ha hb).mono fun e w' h => ⟨by rw [hX.out]; exact h.1, h.2⟩
theorem nrmV_size (t : Tr) : (nrmV t).size ≤ t.size := by
  unfold nrmV
  split
  · rename_i hv; exact (norm_ok hv).2.2.1
  · simp [Tr.size, sizeL]
theorem Lst4.get {w : World} {bk : Nat} {L : List Tr} (h : Lst4 w (some ⟨bk, 0, none⟩) L) (hL : L.length = 4) (j : Nat) (hj : j < 4) :
    ∃ (ty : Int) (A1 : Option Addr) (n1 c1 : Nat) (A2 : Option Addr) (n2 c2 : Nat) (z : Tr), w.cell? ⟨bk, j * 3, none⟩ = some (.int .i64 ty) ∧ w.cell? ⟨bk, j * 3 + 1, none⟩ = some (.slice A1 n1 c1) ∧ w.cell? ⟨bk, j * 3 + 2, none⟩ = some (.slice A2 n2 c2) ∧ TrR w none (.agg #[.int .i64 ty, .slice A1 n1 c1, .slice A2 n2 c2]) z ∧ z.size ≤ 1000 := by
  obtain ⟨cells, hsl, hts, hLs⟩ := h
  have hjL : j < L.length := by omega
  obtain ⟨a, b, c, e0, e1, e2, hy0⟩ := hts.get j hjL
  obtain ⟨ty, A1, n1, c1, A2, n2, c2, hsh⟩ := hy0.shape
  simp only [Value.agg.injEq, Array.mk.injEq, List.cons.injEq, and_true] at hsh
  obtain ⟨rfl, rfl, rfl⟩ := hsh
  obtain ⟨A', n', c', e, _, _, _, hx⟩ := hsl
  injection e with q1 q2 q3
  subst q1 q2 q3
  obtain ⟨b, off, h1, _, h2⟩ := hx (by omega)
  injection h1 with h1
  injection h1 with h3 h4
  subst h3 h4
  exact ⟨ty, A1, n1, c1, A2, n2, c2, L[j], by simpa using h2 _ _ e0, by simpa using h2 _ _ e1, by simpa using h2 _ _ e2, hy0, hLs _ (List.getElem_mem _)⟩
theorem Lst4.fr {w w' : World} {A : Option Addr} {L : List Tr} (h : Lst4 w A L) (F : Fr none w w') : Lst4 w' A L := by
  obtain ⟨cells, h1, h2, h3⟩ := h
  exact ⟨cells, h1.keep (fr_dm F), TrsD.keep (fr_dm F) _ _ h2, h3⟩
/-- What the law holds on to: four boxes and their trusts. -/
structure Hold4 (w : World) (b1 b2 b3 b4 : Nat) (x1 y1 z1 x2 y2 z2 x3 y3 z3 x4 y4 z4 : Value) (t1 t2 t3 t4 : Tr) : Prop where
  p1 : TB w b1 x1 y1 z1
  p2 : TB w b2 x2 y2 z2
  p3 : TB w b3 x3 y3 z3
  p4 : TB w b4 x4 y4 z4
  r1 : TrR w none (.agg #[x1, y1, z1]) t1
  r2 : TrR w none (.agg #[x2, y2, z2]) t2
  r3 : TrR w none (.agg #[x3, y3, z3]) t3
  r4 : TrR w none (.agg #[x4, y4, z4]) t4
theorem Hold4.fr {w w' : World} {b1 b2 b3 b4 : Nat} {x1 y1 z1 x2 y2 z2 x3 y3 z3 x4 y4 z4 : Value} {t1 t2 t3 t4 : Tr} (h : Hold4 w b1 b2 b3 b4 x1 y1 z1 x2 y2 z2 x3 y3 z3 x4 y4 z4 t1 t2 t3 t4) (F : Fr none w w') : Hold4 w' b1 b2 b3 b4 x1 y1 z1 x2 y2 z2 x3 y3 z3 x4 y4 z4 t1 t2 t3 t4 :=
  ⟨h.p1.fr F (by simp), h.p2.fr F (by simp), h.p3.fr F (by simp), h.p4.fr F (by simp), h.r1.fr F, h.r2.fr F, h.r3.fr F, h.r4.fr F⟩

set_option maxRecDepth 100000 in
set_option maxHeartbeats 8000000 in
theorem law04n_any (v : Value) (l : List Int) (ur : Value) (raw : Tr) (uo : Value) (oth : Tr) (w : World) (hl : SlI w none v l) (hr : RwD w ur raw) (ho : RwD w uo oth) (hT : Tab w) : Calls Tryz.prog 8 #[v, ur, uo] w fun e w' => e = .returned (.bool true) ∧ Fr none w w' := by
  obtain ⟨tr, P1, i1, j1, P2, i2, j2, rfl⟩ := hr.shape
  obtain ⟨tO, Q1, k1, e1, Q2, k2, e2, rfl⟩ := ho.shape
  go_enter Tryz.func8, Tryz.ntmps8
  go_wp2_with fail
  generalize hW : (w.alloc _).alloc _ = w1
  have F1 : Fr none w w1 := hW ▸ ((Fr.refl _ w).alloc _).alloc _
  have p1 : TB w1 w.heap.size (.int .i64 tr) (.slice P1 i1 j1) (.slice P2 i2 j2) := by
    rw [← hW]; exact (Below.heap_alloc _ _ _ (by simp)).trans (blk_new _ _)
  have p2 : TB w1 (w.heap.size + 1) (.int .i64 tO) (.slice Q1 k1 e1) (.slice Q2 k2 e2) := by
    rw [← hW]; exact blk_new_at (by simp) _
  have hr1 := hr.fr F1
  have ho1 := ho.fr F1
  have hl1 := hl.fr F1
  have T1 := hT.fr F1
  clear hW hr ho hl
  refine (small_any raw _ _ hr1).mono ?_
  rintro e w2 ⟨x, rfl, hx, F2⟩
  have p1 := p1.fr F2 (by simp)
  have p2 := p2.fr F2 (by simp)
  have F02 := F1.pure F2
  have T2 := T1.fr F2
  clear T1
  cases x with
  | false =>
    clear hx
    go_wp2_with fail
    refine (awake4_any _ T2).mono ?_
    rintro e w3 ⟨rfl, F3⟩
    go_wp2_with fail
    go_ret
    exact ⟨rfl, F02.pure F3⟩
  | true =>
    have hsr := hx rfl
    have hr2 := (hr1.fr F2).small (by omega)
    have ho2 := ho1.fr F2
    have hl2 := hl1.fr F2
    have R2 := p2.cell
    clear hx hr1 ho1 hl1 F1 F2
    go_wp2_with fail
    refine (small_any oth _ _ ho2).mono ?_
    rintro e w3 ⟨x, rfl, hx, F3⟩
    have p1 := p1.fr F3 (by simp)
    have p2 := p2.fr F3 (by simp)
    have F03 := F02.pure F3
    have T3 := T2.fr F3
    clear R2 T2 F02
    cases x with
    | false =>
      clear hx
      go_wp2_with fail
      refine (awake4_any _ T3).mono ?_
      rintro e w4 ⟨rfl, F4⟩
      go_wp2_with fail
      go_ret
      exact ⟨rfl, F03.pure F4⟩
    | true =>
      have hso := hx rfl
      have hr3 := hr2.fr F3
      have ho3 := (ho2.fr F3).small (by omega)
      have hl3 := hl2.fr F3
      clear hx hr2 ho2 hl2 F3
      go_wp2_with fail
      refine (tapeNew_any _ _ _ hl3).mono ?_
      rintro e w4 ⟨g, rfl, hg, S4, F4⟩
      have hg4 := S4.lt
      have l1 := blk_lt p1
      have l2 := blk_lt p2
      have hg3 : w3.heap.size ≤ g := hg
      have raw4 : TrD w4 (fun b => b < w3.heap.size) (.agg #[.int .i64 tr, .slice P1 i1 j1, .slice P2 i2 j2]) raw := TrD.keep (fun k hk => ⟨hk.1, F4.block k hk.1 (by simp)⟩) _ _ hr3
      have oth4 : TrD w4 (fun b => b < w3.heap.size) (.agg #[.int .i64 tO, .slice Q1 k1 e1, .slice Q2 k2 e2]) oth := TrD.keep (fun k hk => ⟨hk.1, F4.block k hk.1 (by simp)⟩) _ _ ho3
      have q1 := p1.fr F4 (by simp)
      have q2 := p2.fr F4 (by simp)
      have F04 := F03.pure F4
      have hz4 := F4.size
      have hz3 := F03.size
      clear hl3 hr3 ho3 p1 p2
      go_wp2_with fail
      refine (trust4_any g _ S4).mono ?_
      rintro e w5 ⟨v5, x, rfl, hX, hvx, S5, F5⟩
      obtain ⟨th, A1, n1, c1, A2, n2, c2, rfl⟩ := hX.shape
      have hz5 := F5.size
      go_wp2_with fail
      refine (trust4_any g _ S5).mono ?_
      rintro e w6 ⟨v6, y, rfl, hY, hvy, S6, F6⟩
      obtain ⟨th2, B1, m1, d1, B2, m2, d2, rfl⟩ := hY.shape
      have hz6 := F6.size
      have F56 := F5.same F6
      have q1 := q1.fr F56 (by simp; omega)
      have q2 := q2.fr F56 (by simp; omega)
      have F06 := F04.own F56 (fun q hq => by injection hq with hq; omega)
      have raw6 : TrD w6 (fun b => b < w6.heap.size ∧ b ≠ g) (.agg #[.int .i64 tr, .slice P1 i1 j1, .slice P2 i2 j2]) raw := TrD.keep (fun k hk => ⟨⟨by omega, by omega⟩, F56.block k (by omega) (by simp; omega)⟩) _ _ raw4
      have oth6 : TrD w6 (fun b => b < w6.heap.size ∧ b ≠ g) (.agg #[.int .i64 tO, .slice Q1 k1 e1, .slice Q2 k2 e2]) oth := TrD.keep (fun k hk => ⟨⟨by omega, by omega⟩, F56.block k (by omega) (by simp; omega)⟩) _ _ oth4
      have x6 : TrD w6 (fun b => b < w6.heap.size ∧ b ≠ g) (.agg #[.int .i64 th, .slice A1 n1 c1, .slice A2 n2 c2]) x := TrD.keep (fun k hk => ⟨⟨by have := hk.2; omega, by have := hk.1; omega⟩, F6.block k hk.2 (by simp; have := hk.1; omega)⟩) _ _ hX
      have y6 : TrD w6 (fun b => b < w6.heap.size ∧ b ≠ g) (.agg #[.int .i64 th2, .slice B1 m1 d1, .slice B2 m2 d2]) y := TrD.keep (fun k hk => ⟨⟨hk.2, by have := hk.1; omega⟩, rfl⟩) _ _ hY
      have hsx := (valid_facts hvx).2.1
      have hsy := (valid_facts hvy).2.1
      clear hX hY raw4 oth4 F04 F5 F6 F56 S4 S5
      go_upto_region 5 with (fail)
      generalize hW : (w6.alloc _).alloc _ = w7
      have F7 : Fr none w6 w7 := hW ▸ ((Fr.refl none w6).alloc _).alloc _
      have b8 : TB w7 w6.heap.size (.int .i64 th) (.slice A1 n1 c1) (.slice A2 n2 c2) := by rw [← hW]; exact (Below.heap_alloc _ _ _ (by simp)).trans (blk_new _ _)
      have b9 : TB w7 (w6.heap.size + 1) (.int .i64 th2) (.slice B1 m1 d1) (.slice B2 m2 d2) := by rw [← hW]; exact blk_new_at (by simp) _
      clear hW
      have q1 := q1.fr F7 (by simp)
      have q2 := q2.fr F7 (by simp)
      have kk : ∀ k, (k < w6.heap.size ∧ k ≠ g) → (k < w7.heap.size ∧ k ≠ g) ∧ w7.heap[k]? = w6.heap[k]? := fun k hk => ⟨⟨by have := F7.size; omega, hk.2⟩, F7.block k hk.1 (by simp)⟩
      have raw7 := TrD.keep kk _ _ raw6
      have oth7 := TrD.keep kk _ _ oth6
      have x7 := TrD.keep kk _ _ x6
      have y7 := TrD.keep kk _ _ y6
      have S7 := S6.fr F7
      have F07 := F06.pure F7
      have hz7 := F7.size
      have l8 := blk_lt b8
      have l9 := blk_lt b9
      have hgb : g < w6.heap.size := by omega
      clear raw6 oth6 x6 y6 S6 F7 kk
      go_cut [33, 34, 35, 36, 37, 38, 39, 40, 41] (fun _ _ _ _ _ _ s39 s40 s41 wr => ∃ bk L, s39 = .slice (some ⟨bk, 0, none⟩) 4 4 ∧ s40 = .int .i64 4 ∧ s41 = .int .i64 0 ∧ bk < wr.heap.size ∧ L.length = 4 ∧ Lst4 wr (some ⟨bk, 0, none⟩) L ∧ Fr none w wr ∧
        Hold4 wr w.heap.size (w.heap.size + 1) w6.heap.size (w6.heap.size + 1) (.int .i64 tr) (.slice P1 i1 j1) (.slice P2 i2 j2) (.int .i64 tO) (.slice Q1 k1 e1) (.slice Q2 k2 e2) (.int .i64 th) (.slice A1 n1 c1) (.slice A2 n2 c2) (.int .i64 th2) (.slice B1 m1 d1) (.slice B2 m2 d2) raw oth x y)
      case first =>
        refine wp_region_held_drew (S := fun W => (∀ i, W.cell? ⟨w6.heap.size, i, none⟩ = (#[.int .i64 th, .slice A1 n1 c1, .slice A2 n2 c2] : Array Value)[i]?) ∧ (∀ i, W.cell? ⟨w6.heap.size + 1, i, none⟩ = (#[.int .i64 th2, .slice B1 m1 d1, .slice B2 m2 d2] : Array Value)[i]?) ∧ (∀ i, W.cell? ⟨w.heap.size, i, none⟩ = (#[.int .i64 tr, .slice P1 i1 j1, .slice P2 i2 j2] : Array Value)[i]?) ∧ Fr (some g) w7 W) (by kernel_rfl) ⟨b8.cell, b9.cell, q1.cell, (Fr.refl _ _).drew⟩ (fun hH0 => ?_)
        refine wpAnyH_take (i := 0) (v := ?_) rfl (by kernel_rfl) (by kernel_rfl) (by kernel_rfl) (fun _ _ _ h => h) (Or.inl ⟨by rfl, ?_⟩) (by assumption) ?_
        rotate_left
        · (intro W hW; (try dsimp only at hW); go_simp; try with_reducible rfl)
        try simp only [Act.put, List.setIfInBounds_toArray, List.set_cons_zero, List.set_cons_succ, List.getElem_toArray, List.getElem_cons_zero, List.getElem_cons_succ]
        refine wpAnyH_take (i := 1) (v := ?_) rfl (by kernel_rfl) (by kernel_rfl) (by kernel_rfl) (fun _ _ _ h => h) (Or.inl ⟨by rfl, ?_⟩) (by assumption) ?_
        rotate_left
        · (intro W hW; (try dsimp only at hW); go_simp; try with_reducible rfl)
        try simp only [Act.put, List.setIfInBounds_toArray, List.set_cons_zero, List.set_cons_succ, List.getElem_toArray, List.getElem_cons_zero, List.getElem_cons_succ]
        refine wpAnyH_take (i := 2) (v := ?_) rfl (by kernel_rfl) (by kernel_rfl) (by kernel_rfl) (fun _ _ _ h => h) (Or.inl ⟨by rfl, ?_⟩) (by assumption) ?_
        rotate_left
        · (intro W hW; (try dsimp only at hW); go_simp; try with_reducible rfl)
        try simp only [Act.put, List.setIfInBounds_toArray, List.set_cons_zero, List.set_cons_succ, List.getElem_toArray, List.getElem_cons_zero, List.getElem_cons_succ]
        refine wpAnyH_take (i := 3) (v := ?_) rfl (by kernel_rfl) (by kernel_rfl) (by kernel_rfl) (fun _ _ _ h => h) (Or.inl ⟨by rfl, ?_⟩) (by assumption) ?_
        rotate_left
        · (intro W hW; (try dsimp only at hW); go_simp; try with_reducible rfl)
        try simp only [Act.put, List.setIfInBounds_toArray, List.set_cons_zero, List.set_cons_succ, List.getElem_toArray, List.getElem_cons_zero, List.getElem_cons_succ]
        refine wpAnyH_take (i := 5) (v := ?_) rfl (by kernel_rfl) (by kernel_rfl) (by kernel_rfl) (fun _ _ _ h => h) (Or.inl ⟨by rfl, ?_⟩) (by assumption) ?_
        rotate_left
        · (intro W hW; (try dsimp only at hW); go_simp; try with_reducible rfl)
        try simp only [Act.put, List.setIfInBounds_toArray, List.set_cons_zero, List.set_cons_succ, List.getElem_toArray, List.getElem_cons_zero, List.getElem_cons_succ]
        refine wpAnyH_take (i := 8) (v := ?_) rfl (by kernel_rfl) (by kernel_rfl) (by kernel_rfl) (fun _ _ _ h => h) (Or.inl ⟨by rfl, ?_⟩) (by assumption) ?_
        rotate_left
        · (intro W hW; (try dsimp only at hW); go_simp; try with_reducible rfl)
        try simp only [Act.put, List.setIfInBounds_toArray, List.set_cons_zero, List.set_cons_succ, List.getElem_toArray, List.getElem_cons_zero, List.getElem_cons_succ]
        refine wpAnyH_ready (rs := [4]) (by kernel_rfl) (by simp) ?_
        refine AllReadyH.cons rfl (fun K hK => ?_) AllReadyH.nil
        simp only [List.getElem_toArray, List.getElem_cons_zero, List.getElem_cons_succ]
        go_simp
        go_at_call 40
        refine (bent_any x.dep x (.agg #[.int .i64 th, .slice A1 n1 c1, .slice A2 n2 c2]) g w7.drew (fun b => b < w7.heap.size ∧ b ≠ g) (Nat.le_refl _) (by omega) (fun b hb => hb) x7.drew' S7.drew).mono ?_
        rintro e w8 ⟨v8, T8, rfl, hT8, hs8, S8, F8⟩
        obtain ⟨tb, V1, g1, q1', V2, g2, q2', rfl⟩ := hT8.shape
        have F8 := ((Fr.refl (some g) w7).drew).same F8
        refine hK.out _ _ ⟨(b8.fr F8 (by simp; omega)).cell, (b9.fr F8 (by simp; omega)).cell, (q1.fr F8 (by simp; omega)).cell, F8⟩ (fun hH1 => ?_)
        clear hK K hH0
        try simp only [Act.put, List.setIfInBounds_toArray, List.set_cons_zero, List.set_cons_succ, List.getElem_toArray, List.getElem_cons_zero, List.getElem_cons_succ]
        refine wpAnyH_ready (rs := [6]) (by kernel_rfl) (by simp) ?_
        refine AllReadyH.cons rfl (fun K hK => ?_) AllReadyH.nil
        simp only [List.getElem_toArray, List.getElem_cons_zero, List.getElem_cons_succ]
        go_simp
        have FA := F8.alloc (.cells #[.int .i64 th, .slice A1 n1 c1, .slice A2 n2 c2, .int .i64 th2, .slice B1 m1 d1, .slice B2 m2 d2, .int .i64 tb, .slice V1 g1 q1', .slice V2 g2 q2', .int .i64 tr, .slice P1 i1 j1, .slice P2 i2 j2] 31)
        refine hK.out _ _ ⟨(b8.fr FA (by simp; omega)).cell, (b9.fr FA (by simp; omega)).cell, (q1.fr FA (by simp; omega)).cell, FA⟩ (fun hH2 => ?_)
        clear hK K hH1
        try simp only [Act.put, List.setIfInBounds_toArray, List.set_cons_zero, List.set_cons_succ, List.getElem_toArray, List.getElem_cons_zero, List.getElem_cons_succ]
        refine wpAnyH_take (i := 7) (v := ?_) rfl (by kernel_rfl) (by kernel_rfl) (by kernel_rfl) (fun _ _ _ h => h) (Or.inl ⟨by rfl, ?_⟩) (by assumption) ?_
        rotate_left
        · (intro W hW; (try dsimp only at hW); go_simp; try with_reducible rfl)
        try simp only [Act.put, List.setIfInBounds_toArray, List.set_cons_zero, List.set_cons_succ, List.getElem_toArray, List.getElem_cons_zero, List.getElem_cons_succ]
        refine wpAnyH_done (by kernel_rfl) ?_ _
        go_wp2_with fail
        go_meet
        have hz8 : w7.heap.size ≤ w8.heap.size := F8.size
        have kk : ∀ k, (k < w7.heap.size ∧ k ≠ g) → Dm w8 none k ∧ w8.heap[k]? = w7.heap[k]? := fun k hk => ⟨⟨by omega, by simp⟩, F8.block k hk.1 (by simp; omega)⟩
        have raw8 : TrR w8 none (.agg #[.int .i64 tr, .slice P1 i1 j1, .slice P2 i2 j2]) raw := TrD.keep kk _ _ raw7
        have oth8 : TrR w8 none (.agg #[.int .i64 tO, .slice Q1 k1 e1, .slice Q2 k2 e2]) oth := TrD.keep kk _ _ oth7
        have x8 : TrR w8 none (.agg #[.int .i64 th, .slice A1 n1 c1, .slice A2 n2 c2]) x := TrD.keep kk _ _ x7
        have y8 : TrR w8 none (.agg #[.int .i64 th2, .slice B1 m1 d1, .slice B2 m2 d2]) y := TrD.keep kk _ _ y7
        have t8 : TrR w8 none (.agg #[.int .i64 tb, .slice V1 g1 q1', .slice V2 g2 q2']) T8 := TrD.keep (fun k hk => ⟨⟨by
          rcases hk with h | h
          · have := h.1; omega
          · exact h.2, by simp⟩, rfl⟩) _ _ hT8
        have FB := (Fr.refl none w8).alloc (.cells #[.int .i64 th, .slice A1 n1 c1, .slice A2 n2 c2, .int .i64 th2, .slice B1 m1 d1, .slice B2 m2 d2, .int .i64 tb, .slice V1 g1 q1', .slice V2 g2 q2', .int .i64 tr, .slice P1 i1 j1, .slice P2 i2 j2] 31)
        refine ⟨w8.heap.size, [x, y, T8, raw], rfl, rfl, rfl, by simp, rfl, ⟨_, SlD.lit_dm #[.int .i64 th, .slice A1 n1 c1, .slice A2 n2 c2, .int .i64 th2, .slice B1 m1 d1, .slice B2 m2 d2, .int .i64 tb, .slice V1 g1 q1', .slice V2 g2 q2', .int .i64 tr, .slice P1 i1 j1, .slice P2 i2 j2] 31 4 3 rfl (by unfold maxLen; omega) (by simp) (Fr.refl none _), ?_, ?_⟩, F07.own FA (fun b hb => by injection hb with hb; omega), ⟨(q1.fr F8 (by simp; omega)).fr FB (by simp), (q2.fr F8 (by simp; omega)).fr FB (by simp), (b8.fr F8 (by simp; omega)).fr FB (by simp), (b9.fr F8 (by simp; omega)).fr FB (by simp), raw8.fr FB, oth8.fr FB, x8.fr FB, y8.fr FB⟩⟩
        · simp only [TrsD]
          exact ⟨_, _, _, _, rfl, x8.fr FB, _, _, _, _, rfl, y8.fr FB, _, _, _, _, rfl, t8.fr FB, _, _, _, [], rfl, raw8.fr FB, rfl⟩
        · intro q hq
          simp only [List.mem_cons, List.not_mem_nil, or_false] at hq
          rcases hq with rfl | rfl | rfl | rfl <;> omega
      case rest =>
        clear b8 b9 q1 q2 raw7 oth7 x7 y7 S7 F07 F06 hz7 l8 l9 hgb hz6 hz5 hz4 hz3 hg3 hg hg4 l1 l2 F03 T3
        obtain ⟨bk, L, rfl, rfl, rfl, hbk, hL, hLst, Fc, H4⟩ := hcut
        have Tc := hT.fr Fc
        have HL4 := Lib.hid hL
        have HLS := Lib.hid hLst
        clear hL hLst
        go_wp2_with fail
        go_loopw [41] (fun s41 wr => ∃ j : Nat, j ≤ 4 ∧ s41 = .int .i64 (j : Int) ∧ Fr none wc wr) (fun s41 _ => 4 - (intOf s41).toNat)
        case atStart => exact ⟨0, by omega, rfl, Fr.refl _ _⟩
        case round =>
          obtain ⟨j, hj, rfl, Fr1⟩ := hrel
          obtain ⟨wz, hwz⟩ : ∃ wz : World, wz = wr := ⟨_, rfl⟩
          subst hwz
          by_cases hlt : j < 4
          · obtain ⟨tz, U1, a1, f1, U2, a2, f2, z, g0, g1, g2, hz, hzs⟩ := (HLS.out.fr Fr1).get HL4.out j hlt
            have hbr : bk < wz.heap.size := by have := Fr1.size; omega
            go_upto_region 8 with (fail)
            generalize hW : wz.alloc _ = wa
            have Fa : Fr none wz wa := hW ▸ (Fr.refl none wz).alloc _
            have ba : TB wa wz.heap.size (.int .i64 tz) (.slice U1 a1 f1) (.slice U2 a2 f2) := by rw [← hW]; exact blk_new _ _
            clear hW g0 g1 g2
            have hza := hz.fr Fa
            have Ra := ba.cell
            go_wp2_with fail
            refine (normal_any z _ _ none (by simp) hza (by omega)).mono ?_
            rintro e wb ⟨vb, rfl, hTb, Fb⟩
            obtain ⟨yt, Y1, y1, y2, Y2, y3, y4, rfl⟩ := TrD.shape hTb
            have bb := ba.fr Fb (by simp)
            have Rb := bb.cell
            have lb := blk_lt bb
            clear Ra
            go_upto_region 9 with (fail)
            generalize hW : wb.alloc _ = wd
            have Fd : Fr none wb wd := hW ▸ (Fr.refl none wb).alloc _
            have bd : TB wd wb.heap.size (.int .i64 yt) (.slice Y1 y1 y2) (.slice Y2 y3 y4) := by rw [← hW]; exact blk_new _ _
            clear hW Rb
            have ba2 := bb.fr Fd (by simp)
            have hzd := (hza.fr Fb).fr Fd
            have hTd := hTb.fr Fd
            have Fad := (Fa.pure Fb).pure Fd
            have Rd := ba2.cell
            clear hza hTb bb Fa Fb Fd ba
            go_wp2_with fail
            refine (rnormal_any z _ _ none (by simp) hzd (by omega)).mono ?_
            rintro e we ⟨ve, rfl, hTe, Fe⟩
            obtain ⟨zt, Z1, z1, z2, Z2, z3, z4, rfl⟩ := TrD.shape hTe
            have be := ba2.fr Fe (by simp)
            have bde := bd.fr Fe (by simp)
            clear Rd
            go_upto_region 10 with (fail)
            generalize hW : we.alloc _ = wf
            have Ff : Fr none we wf := hW ▸ (Fr.refl none we).alloc _
            have bf : TB wf we.heap.size (.int .i64 zt) (.slice Z1 z1 z2) (.slice Z2 z3 z4) := by rw [← hW]; exact blk_new _ _
            clear hW
            have baf := be.fr Ff (by simp)
            have bdf := bde.fr Ff (by simp)
            have hzf := (hzd.fr Fe).fr Ff
            have hYf := (hTd.fr Fe).fr Ff
            have hZf := hTe.fr Ff
            have Faf := (Fad.pure Fe).pure Ff
            have m1 := blk_lt baf
            have m2 := blk_lt bdf
            have m3 := blk_lt bf
            have R1 := baf.cell
            have R2 := bdf.cell
            have R3 := bf.cell
            have hns : (nrmV z).size ≤ 1000 := Nat.le_trans (nrmV_size z) hzs
            have hee : (validE z != validE z) = false := by simp
            obtain ⟨BA, hBA⟩ : ∃ B, B = isN z := ⟨_, rfl⟩
            obtain ⟨BB, hBB⟩ : ∃ B, B = isN (nrmV z) := ⟨_, rfl⟩
            have HBA := Lib.hid hBA
            have HBB := Lib.hid hBB
            have HSM : Hid (true = sameT (nrmV z) (nrmV z)) := ((sameT_iff _ _).2 rfl).symm
            have hq1 : (BA != BA) = false := by simp
            have hq2 : (BB != BB) = false := by simp
            have K0 : Kt wf wz.heap.size wb.heap.size we.heap.size #[.int .i64 tz, .slice U1 a1 f1, .slice U2 a2 f2] #[.int .i64 yt, .slice Y1 y1 y2, .slice Y2 y3 y4] #[.int .i64 zt, .slice Z1 z1 z2, .slice Z2 z3 z4] wf.drew := ⟨R1, R2, R3, (Fr.refl _ _).drew⟩
            clear hBA hBB hzd hTd hTe Fe Ff be bde bd ba2 lb Fad
            go_cut [77] (fun s77 wq => s77 = .bool false ∧ Fr none wf wq)
            case first =>
              go_region_held3 (fun w' => (∀ i, w'.cell? ⟨wz.heap.size, i, none⟩ = (#[.int .i64 tz, .slice U1 a1 f1, .slice U2 a2 f2] : Array Value)[i]?) ∧ (∀ i, w'.cell? ⟨wb.heap.size, i, none⟩ = (#[.int .i64 yt, .slice Y1 y1 y2, .slice Y2 y3 y4] : Array Value)[i]?) ∧ (∀ i, w'.cell? ⟨we.heap.size, i, none⟩ = (#[.int .i64 zt, .slice Z1 z1 z2, .slice Z2 z3 z4] : Array Value)[i]?) ∧ Kt wf wz.heap.size wb.heap.size we.heap.size #[.int .i64 tz, .slice U1 a1 f1, .slice U2 a2 f2] #[.int .i64 yt, .slice Y1 y1 y2, .slice Y2 y3 y4] #[.int .i64 zt, .slice Z1 z1 z2, .slice Z2 z3 z4] w') (first | (with_reducible exact kt_four K0) | (with_reducible exact kt_four KK)) (first | (go_at_call 27; (with_reducible refine (same_fixn (nrmV z) (nrmV z) true HSM (.agg #[.int .i64 yt, .slice Y1 y1 y2, .slice Y2 y3 y4]) (.agg #[.int .i64 zt, .slice Z1 z1 z2, .slice Z2 z3 z4]) _ (hYf.fr (‹_ ∧ _ ∧ _ ∧ Kt wf wz.heap.size wb.heap.size we.heap.size _ _ _ _›).2.2.2.frame) (hZf.fr (‹_ ∧ _ ∧ _ ∧ Kt wf wz.heap.size wb.heap.size we.heap.size _ _ _ _›).2.2.2.frame)).mono ?_); rintro e w9 ⟨rfl, F9⟩; have KK := (‹_ ∧ _ ∧ _ ∧ Kt wf wz.heap.size wb.heap.size we.heap.size _ _ _ _›).2.2.2.fr m1 m2 m3 F9) | (go_at_call 42; (with_reducible refine (nis_fixn z BA HBA (.agg #[.int .i64 tz, .slice U1 a1 f1, .slice U2 a2 f2]) _ hzs (hzf.fr (‹_ ∧ _ ∧ _ ∧ Kt wf wz.heap.size wb.heap.size we.heap.size _ _ _ _›).2.2.2.frame)).mono ?_); rintro e w9 ⟨rfl, F9⟩; have KK := (‹_ ∧ _ ∧ _ ∧ Kt wf wz.heap.size wb.heap.size we.heap.size _ _ _ _›).2.2.2.fr m1 m2 m3 F9) | (go_at_call 43; (with_reducible refine (ris_fixn z BA HBA (.agg #[.int .i64 tz, .slice U1 a1 f1, .slice U2 a2 f2]) _ hzs (hzf.fr (‹_ ∧ _ ∧ _ ∧ Kt wf wz.heap.size wb.heap.size we.heap.size _ _ _ _›).2.2.2.frame)).mono ?_); rintro e w9 ⟨rfl, F9⟩; have KK := (‹_ ∧ _ ∧ _ ∧ Kt wf wz.heap.size wb.heap.size we.heap.size _ _ _ _›).2.2.2.fr m1 m2 m3 F9) | (go_at_call 42; (with_reducible refine (nis_fixn (nrmV z) BB HBB (.agg #[.int .i64 zt, .slice Z1 z1 z2, .slice Z2 z3 z4]) _ hns (hZf.fr (‹_ ∧ _ ∧ _ ∧ Kt wf wz.heap.size wb.heap.size we.heap.size _ _ _ _›).2.2.2.frame)).mono ?_); rintro e w9 ⟨rfl, F9⟩; have KK := (‹_ ∧ _ ∧ _ ∧ Kt wf wz.heap.size wb.heap.size we.heap.size _ _ _ _›).2.2.2.fr m1 m2 m3 F9) | (go_at_call 43; (with_reducible refine (ris_fixn (nrmV z) BB HBB (.agg #[.int .i64 zt, .slice Z1 z1 z2, .slice Z2 z3 z4]) _ hns (hZf.fr (‹_ ∧ _ ∧ _ ∧ Kt wf wz.heap.size wb.heap.size we.heap.size _ _ _ _›).2.2.2.frame)).mono ?_); rintro e w9 ⟨rfl, F9⟩; have KK := (‹_ ∧ _ ∧ _ ∧ Kt wf wz.heap.size wb.heap.size we.heap.size _ _ _ _›).2.2.2.fr m1 m2 m3 F9))
              all_goals
                go_wp2_with fail
                go_meet
                exact ⟨rfl, KK.frame⟩
            case rest =>
              obtain ⟨rfl, Fq⟩ := hcut
              obtain ⟨wq, hwq⟩ : ∃ wq : World, wq = wc := ⟨_, rfl⟩
              subst hwq
              have hH := H4.fr (Fr1.pure (Faf.pure Fq))
              have baq := baf.fr Fq (by simp)
              have hzq := hzf.fr Fq
              have Faq := Faf.pure Fq
              have r1 := hH.p1.cell
              have r2 := hH.p2.cell
              have r3 := hH.p3.cell
              have r4 := hH.p4.cell
              clear K0 R1 R2 R3 baf bdf bf hzf hYf hZf Faf m1 m2 m3 hq1 hq2 hee HSM HBA HBB Fq
              go_wp2_with fail
              generalize hW : wq.alloc _ = wm
              have Fm : Fr none wq wm := hW ▸ (Fr.refl none wq).alloc _
              have hL4 : Lst4 wm (some ⟨wq.heap.size, 0, none⟩) [x, y, oth, raw] := by
                refine ⟨_, (by rw [← hW]; exact SlD.lit_dm #[.int .i64 th, .slice A1 n1 c1, .slice A2 n2 c2, .int .i64 th2, .slice B1 m1 d1, .slice B2 m2 d2, .int .i64 tO, .slice Q1 k1 e1, .slice Q2 k2 e2, .int .i64 tr, .slice P1 i1 j1, .slice P2 i2 j2] 31 4 3 rfl (by unfold maxLen; omega) (by simp) (Fr.refl none _)), ?_, ?_⟩
                · simp only [TrsD]
                  exact ⟨_, _, _, _, rfl, hH.r3.fr Fm, _, _, _, _, rfl, hH.r4.fr Fm, _, _, _, _, rfl, hH.r2.fr Fm, _, _, _, [], rfl, hH.r1.fr Fm, rfl⟩
                · intro q hq
                  simp only [List.mem_cons, List.not_mem_nil, or_false] at hq
                  rcases hq with rfl | rfl | rfl | rfl <;> omega
              have hlm : wq.heap.size < wm.heap.size := by rw [← hW]; simp
              have bam := baq.fr Fm (by simp)
              have hzm := hzq.fr Fm
              have Fam := Faq.pure Fm
              clear hW r1 r2 r3 r4 hH baq hzq Faq Fm
              go_loopw [84] (fun s84 wn => ∃ q : Nat, q ≤ 4 ∧ s84 = .int .i64 (q : Int) ∧ Fr none wm wn) (fun s84 _ => 4 - (intOf s84).toNat)
              case atStart => exact ⟨0, by omega, rfl, Fr.refl _ _⟩
              case round =>
                obtain ⟨q, hq, rfl, Fn⟩ := hrel
                obtain ⟨wn, hwn⟩ : ∃ wn : World, wn = wr := ⟨_, rfl⟩
                subst hwn
                by_cases hq4 : q < 4
                · obtain ⟨tw, M1, o1, s1, M2, o2, s2, zw, g0, g1, g2, hw0, hws⟩ := (hL4.fr Fn).get rfl q hq4
                  have hln : wq.heap.size < wn.heap.size := by have := Fn.size; omega
                  go_upto_region 15 with (fail)
                  generalize hW : wn.alloc _ = wo
                  have Fo : Fr none wn wo := hW ▸ (Fr.refl none wn).alloc _
                  have bo : TB wo wn.heap.size (.int .i64 tw) (.slice M1 o1 s1) (.slice M2 o2 s2) := by rw [← hW]; exact blk_new _ _
                  clear hW g0 g1 g2
                  have bao := (bam.fr Fn (by simp)).fr Fo (by simp)
                  have hzo := (hzm.fr Fn).fr Fo
                  have hwo := hw0.fr Fo
                  have m1 := blk_lt bao
                  have m2 := blk_lt bo
                  have R1 := bao.cell
                  have R2 := bo.cell
                  obtain ⟨CC, hCC⟩ : ∃ C, C = cmpT z zw := ⟨_, rfl⟩
                  have HCC := Lib.hid hCC
                  have hcc : (CC != CC) = false := by simp
                  have K0 : Kd wo wz.heap.size wn.heap.size #[.int .i64 tz, .slice U1 a1 f1, .slice U2 a2 f2] #[.int .i64 tw, .slice M1 o1 s1, .slice M2 o2 s2] wo.drew := ⟨R1, R2, (Fr.refl _ _).drew⟩
                  clear hCC hw0
                  go_region_held3 (fun w' => (∀ i, w'.cell? ⟨wz.heap.size, i, none⟩ = (#[.int .i64 tz, .slice U1 a1 f1, .slice U2 a2 f2] : Array Value)[i]?) ∧ (∀ i, w'.cell? ⟨wn.heap.size, i, none⟩ = (#[.int .i64 tw, .slice M1 o1 s1, .slice M2 o2 s2] : Array Value)[i]?) ∧ Kd wo wz.heap.size wn.heap.size #[.int .i64 tz, .slice U1 a1 f1, .slice U2 a2 f2] #[.int .i64 tw, .slice M1 o1 s1, .slice M2 o2 s2] w') (first | (with_reducible exact kd_three K0) | (with_reducible exact kd_three KK)) (first | (go_at_call 29; (with_reducible refine (cmp_fix z zw CC HCC (.agg #[.int .i64 tz, .slice U1 a1 f1, .slice U2 a2 f2]) (.agg #[.int .i64 tw, .slice M1 o1 s1, .slice M2 o2 s2]) _ (hzo.fr (‹_ ∧ _ ∧ Kd wo wz.heap.size wn.heap.size _ _ _›).2.2.frame) (hwo.fr (‹_ ∧ _ ∧ Kd wo wz.heap.size wn.heap.size _ _ _›).2.2.frame)).mono ?_); rintro e w9 ⟨rfl, F9⟩; have KK := (‹_ ∧ _ ∧ Kd wo wz.heap.size wn.heap.size _ _ _›).2.2.fr m1 m2 F9) | (go_at_call 44; (with_reducible refine (rcmp_fix z zw CC HCC (.agg #[.int .i64 tz, .slice U1 a1 f1, .slice U2 a2 f2]) (.agg #[.int .i64 tw, .slice M1 o1 s1, .slice M2 o2 s2]) _ (hzo.fr (‹_ ∧ _ ∧ Kd wo wz.heap.size wn.heap.size _ _ _›).2.2.frame) (hwo.fr (‹_ ∧ _ ∧ Kd wo wz.heap.size wn.heap.size _ _ _›).2.2.frame)).mono ?_); rintro e w9 ⟨rfl, F9⟩; have KK := (‹_ ∧ _ ∧ Kd wo wz.heap.size wn.heap.size _ _ _›).2.2.fr m1 m2 F9))
                  all_goals
                    go_wp2_with fail
                    go_roundw
                    case rel => exact ⟨q + 1, by omega, by go_num, (Fn.pure Fo).pure KK.frame⟩
                    case measure => simp [intOf]; omega
                · obtain rfl : q = 4 := by omega
                  go_wp2_with fail
                  go_roundw
                  case rel => exact ⟨j + 1, by omega, by go_num, (Fr1.pure Fam).pure Fn⟩
                  case measure => simp [intOf]; omega
          · obtain rfl : j = 4 := by omega
            go_wp2_with fail
            refine (awake4_any _ (Tc.fr Fr1)).mono ?_
            rintro e w9 ⟨rfl, F9⟩
            go_wp2_with fail
            go_ret
            exact ⟨rfl, (Fc.pure Fr1).pure F9⟩
end Go.Proofs.YtpdhckbiioobhaaGreatDoor

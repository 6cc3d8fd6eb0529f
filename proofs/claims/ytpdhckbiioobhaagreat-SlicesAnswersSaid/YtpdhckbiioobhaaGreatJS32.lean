/- Some texts of this claim, joined: contracts of the functions that it reaches, and plain laws. -/
import Derived.Test.YtpdhckbiioobhaaGreatProg
import Derived.Test.YtpdhckbiioobhaaGreatJS24
import Derived.Test.YtpdhckbiioobhaaGreatJS31
import Derived.Test.YtpdhckbiioobhaaGreatJS9
import Derived.Test.YtpdhckbiioobhaaGreatJS16
import Derived.Test.YtpdhckbiioobhaaGreatJS10

set_option linter.unusedSimpArgs false
set_option linter.unusedVariables false
/- The law SlicesAnswers: its walk. -/
namespace Go.Proofs.YtpdhckbiioobhaaGreat
open Go.RowKit

/-- Trusts in a row: in memory, small enough. -/
def LstT (w : World) (n : Nat) (A : Option Addr) (L : List Tr) : Prop :=
  ∃ cells, SlD w (Dm w none) 3 (.slice A n n) cells ∧ TrsD w (Dm w none) cells L ∧ ∀ x ∈ L, x.size ≤ 1000
theorem LstT.get {w : World} {bk n : Nat} {L : List Tr} (h : LstT w n (some ⟨bk, 0, none⟩) L) (hL : L.length = n) (j : Nat) (hj : j < n) :
    ∃ (ty : Int) (A1 : Option Addr) (n1 c1 : Nat) (A2 : Option Addr) (n2 c2 : Nat) (z : Tr), w.cell? ⟨bk, j * 3, none⟩ = some (.int .i64 ty) ∧ w.cell? ⟨bk, j * 3 + 1, none⟩ = some (.slice A1 n1 c1) ∧ w.cell? ⟨bk, j * 3 + 2, none⟩ = some (.slice A2 n2 c2) ∧ TrR w none (.agg #[.int .i64 ty, .slice A1 n1 c1, .slice A2 n2 c2]) z ∧ z.size ≤ 1000 := by
  obtain ⟨cells, hsl, hts, hLs⟩ := h
  have hjL : j < L.length := by omega
  obtain ⟨a, b, c, e0, e1, e2, hy0⟩ := hts.get j hjL
  obtain ⟨ty, A1, n1, c1, A2, n2, c2, hsh⟩ := hy0.shape
  simp only [Value.agg.injEq, Array.mk.injEq, List.cons.injEq, and_true] at hsh
  obtain ⟨rfl, rfl, rfl⟩ := hsh
  obtain ⟨A', n', c', e, _, _, _, hx⟩ := hsl
  injection e with q1 q2 q3
  subst q1 q2 q3
  obtain ⟨b, off, h1, _, h2⟩ := hx (by omega)
  injection h1 with h1
  injection h1 with h3 h4
  subst h3 h4
  exact ⟨ty, A1, n1, c1, A2, n2, c2, L[j], by simpa using h2 _ _ e0, by simpa using h2 _ _ e1, by simpa using h2 _ _ e2, hy0, hLs _ (List.getElem_mem _)⟩
theorem LstT.fr {w w' : World} {n : Nat} {A : Option Addr} {L : List Tr} (h : LstT w n A L) (F : Fr none w w') : LstT w' n A L := by
  obtain ⟨cells, h1, h2, h3⟩ := h
  exact ⟨cells, h1.keep (fr_dm F), TrsD.keep (fr_dm F) _ _ h2, h3⟩
theorem ansV_shape (p : Nat → Bool) : ∃ (B : Bool) (K M : Int), ansV p = .tuple #[.bool B, .int .i64 K, .int .i64 M] := by
  unfold ansV
  cases ordN.find? p with
  | none => exact ⟨_, _, _, rfl⟩
  | some s => exact ⟨_, _, _, rfl⟩
theorem ansE_shape (t u : Tr) (p : Nat → Bool) : ∃ (B : Bool) (K M : Int), ansE t u p = .tuple #[.bool B, .int .i64 K, .int .i64 M] := by
  unfold ansE
  split
  · split
    · exact ansV_shape p
    · exact ⟨_, _, _, rfl⟩
  · exact ⟨_, _, _, rfl⟩
theorem slc_wi (t : Tr) : ∀ z ∈ (if validE t = 0 then slcS ordI t else []), Wi z := fun z hz => by
  split at hz
  · obtain ⟨a, rfl, ha, _⟩ := slc_mem ordI_all hz
    constructor <;> omega
  · cases hz
theorem blc_wi (t : Tr) : ∀ z ∈ (if validE t = 0 then blcS ordI t else []), Wi z := fun z hz => by
  split at hz
  · obtain ⟨a, rfl, ha⟩ := validB_nat (leastS_mem hz).2
    constructor <;> omega
  · cases hz
/-- What the law holds on to: two boxes and their trusts, the list, the tape. -/
structure Hold5 (w : World) (b1 b2 g : Nat) (x1 y1 z1 x2 y2 z2 : Value) (t1 t2 : Tr) (vq : Value) (lq : List Int) : Prop where
  p1 : TB w b1 x1 y1 z1
  p2 : TB w b2 x2 y2 z2
  r1 : TrR w none (.agg #[x1, y1, z1]) t1
  r2 : TrR w none (.agg #[x2, y2, z2]) t2
  hq : SlI w (some g) vq lq
  tape : SrcR 49 w g
theorem Hold5.fr {w w' : World} {b1 b2 g : Nat} {x1 y1 z1 x2 y2 z2 : Value} {t1 t2 : Tr} {vq : Value} {lq : List Int} (h : Hold5 w b1 b2 g x1 y1 z1 x2 y2 z2 t1 t2 vq lq) (F : Fr none w w') : Hold5 w' b1 b2 g x1 y1 z1 x2 y2 z2 t1 t2 vq lq :=
  ⟨h.p1.fr F (by simp), h.p2.fr F (by simp), h.r1.fr F, h.r2.fr F, ⟨h.hq.1.keep (fun k hk => ⟨⟨Nat.lt_of_lt_of_le hk.1 F.size, hk.2⟩, F.block k hk.1 (by simp)⟩), h.hq.2⟩, h.tape.fr F⟩

set_option maxRecDepth 100000 in
set_option maxHeartbeats 8000000 in
theorem law05n_any (v : Value) (l : List Int) (ur : Value) (raw : Tr) (vq : Value) (lq : List Int) (w : World) (hl : SlI w none v l) (hr : RwD w ur raw) (hq : SlI w none vq lq) : Calls Tryz.prog 4 #[v, ur, vq] w fun e w' => e = .returned (.bool true) ∧ Fr none w w' := by
  obtain ⟨tr, P1, i1, j1, P2, i2, j2, rfl⟩ := hr.shape
  obtain ⟨Aq, cq, rfl, q1, q2, _⟩ := hq.open_
  go_enter Tryz.func4, Tryz.ntmps4
  go_wp2_with fail
  generalize hW : w.alloc _ = w1
  have F1 : Fr none w w1 := hW ▸ (Fr.refl _ w).alloc _
  have p1 : TB w1 w.heap.size (.int .i64 tr) (.slice P1 i1 j1) (.slice P2 i2 j2) := by rw [← hW]; exact blk_new _ _
  have hr1 := hr.fr F1
  have hq1 := hq.fr F1
  have hl1 := hl.fr F1
  clear hW hr hq hl
  refine (small_any raw _ _ hr1).mono ?_
  rintro e w2 ⟨x, rfl, hx, F2⟩
  have p1 := p1.fr F2 (by simp)
  have F02 := F1.pure F2
  have hq2 := hq1.fr F2
  have hl2 := hl1.fr F2
  cases x with
  | false =>
    clear hx hr1 hq1 hl1 F1 F2
    go_wp2_with fail
    refine (awake5_any _).mono ?_
    rintro e w9 ⟨rfl, F9⟩
    go_wp2_with fail
    go_ret
    exact ⟨rfl, F02.pure F9⟩
  | true =>
    have hsr := hx rfl
    have hr2 := (hr1.fr F2).small (by omega)
    clear hx hr1 hq1 hl1 F1 F2
    by_cases h60 : 60 < lq.length
    · have hgt : decide ((60 : Int) < (lq.length : Int)) = true := decide_eq_true (by omega)
      clear h60
      go_wp2_with fail
      refine (awake5_any _).mono ?_
      rintro e w9 ⟨rfl, F9⟩
      go_wp2_with fail
      go_ret
      exact ⟨rfl, F02.pure F9⟩
    · have hgt : decide ((60 : Int) < (lq.length : Int)) = false := decide_eq_false (by omega)
      have hq60 : lq.length ≤ 60 := by omega
      clear h60
      go_wp2_with fail
      refine (tapeNew_any _ _ _ hl2).mono ?_
      rintro e w4 ⟨g, rfl, hg, S4, F4⟩
      have hg4 := S4.lt
      have l1 := blk_lt p1
      have raw4 : TrD w4 (fun b => b < w2.heap.size) (.agg #[.int .i64 tr, .slice P1 i1 j1, .slice P2 i2 j2]) raw := TrD.keep (fun k hk => ⟨hk.1, F4.block k hk.1 (by simp)⟩) _ _ hr2
      have p1 := p1.fr F4 (by simp)
      have hz2 := F02.size
      have hz4 := F4.size
      have hq4 : SlI w4 (some g) _ lq := hq2.fresh F4 hg
      have F04 := F02.pure F4
      clear hl2 hr2 hq2 F02
      go_wp2_with fail
      refine (tapeRange_any 1 7 g _ (by omega) (by omega) (by omega) S4).mono ?_
      rintro e w5 ⟨n, rfl, n1', n2', S5, F5⟩
      obtain ⟨m, rfl⟩ := Int.eq_ofNat_of_zero_le (show 0 ≤ n by omega)
      go_wp2_with fail
      refine (mkTrust_any m 3 g _ (by omega) (by omega) (by omega) (by omega) S5).mono ?_
      rintro e w6 ⟨v6, x, rfl, hX, hvx, hdx, hnx, S6, F6⟩
      obtain ⟨th, A1, n1, c1, A2, n2, c2, rfl⟩ := hX.shape
      go_wp2_with fail
      refine (tapeRange_any 1 7 g _ (by omega) (by omega) (by omega) S6).mono ?_
      rintro e w7 ⟨n', rfl, n3', n4', S7, F7⟩
      obtain ⟨m', rfl⟩ := Int.eq_ofNat_of_zero_le (show 0 ≤ n' by omega)
      go_wp2_with fail
      refine (mkTrust_any m' 3 g _ (by omega) (by omega) (by omega) (by omega) S7).mono ?_
      rintro e w8 ⟨v8, y, rfl, hY, hvy, hdy, hny, S8, F8⟩
      obtain ⟨th2, B1, m1, d1, B2, m2, d2, rfl⟩ := hY.shape
      have hz5 := F5.size
      have hz6 := F6.size
      have hz7 := F7.size
      have hz8 := F8.size
      have F58 := ((F5.same F6).same F7).same F8
      have F78 := F7.same F8
      have p1 := p1.fr F58 (by simp; omega)
      have F08 := F04.own F58 (fun q hq => by injection hq with hq; omega)
      have raw8 : TrD w8 (fun b => b < w8.heap.size ∧ b ≠ g) (.agg #[.int .i64 tr, .slice P1 i1 j1, .slice P2 i2 j2]) raw := TrD.keep (fun k hk => ⟨⟨by omega, by omega⟩, F58.block k (by omega) (by simp; omega)⟩) _ _ raw4
      have x8 : TrD w8 (fun b => b < w8.heap.size ∧ b ≠ g) (.agg #[.int .i64 th, .slice A1 n1 c1, .slice A2 n2 c2]) x := TrD.keep (fun k hk => ⟨⟨by have := hk.2; omega, by have := hk.1; omega⟩, F78.block k hk.2 (by simp; have := hk.1; omega)⟩) _ _ hX
      have y8 : TrD w8 (fun b => b < w8.heap.size ∧ b ≠ g) (.agg #[.int .i64 th2, .slice B1 m1 d1, .slice B2 m2 d2]) y := TrD.keep (fun k hk => ⟨⟨hk.2, by have := hk.1; omega⟩, rfl⟩) _ _ hY
      have hq8 : SlI w8 (some g) _ lq := hq4.fr F58
      have hsx := (valid_facts hvx).2.1
      have hsy := (valid_facts hvy).2.1
      clear hX hY raw4 F04 F5 F6 F7 F8 F58 F78 S4 S5 S6 S7 hq4 hdx hnx hdy hny hvx hvy
      go_upto_region 5 with (fail)
      generalize hW : (w8.alloc _).alloc _ = wA
      have FA : Fr none w8 wA := hW ▸ ((Fr.refl none w8).alloc _).alloc _
      have b8 : TB wA w8.heap.size (.int .i64 th) (.slice A1 n1 c1) (.slice A2 n2 c2) := by rw [← hW]; exact (Below.heap_alloc _ _ _ (by simp)).trans (blk_new _ _)
      have b9 : TB wA (w8.heap.size + 1) (.int .i64 th2) (.slice B1 m1 d1) (.slice B2 m2 d2) := by rw [← hW]; exact blk_new_at (by simp) _
      clear hW
      have p1 := p1.fr FA (by simp)
      have kk : ∀ k, (k < w8.heap.size ∧ k ≠ g) → (k < wA.heap.size ∧ k ≠ g) ∧ wA.heap[k]? = w8.heap[k]? := fun k hk => ⟨⟨by have := FA.size; omega, hk.2⟩, FA.block k hk.1 (by simp)⟩
      have rawA := TrD.keep kk _ _ raw8
      have xA := TrD.keep kk _ _ x8
      have yA := TrD.keep kk _ _ y8
      have SA := S8.fr FA
      have hqA : SlI wA (some g) _ lq := ⟨hq8.1.keep (fun k hk => ⟨⟨Nat.lt_of_lt_of_le hk.1 FA.size, hk.2⟩, FA.block k hk.1 (by simp)⟩), hq8.2⟩
      have F0A := F08.pure FA
      have hzA := FA.size
      have l8 := blk_lt b8
      have l9 := blk_lt b9
      have hgb : g < w8.heap.size := by omega
      have hg2 : w2.heap.size ≤ g := hg
      have hl2 : w.heap.size < g := by omega
      clear raw8 x8 y8 S8 FA F08 kk hq8 hz4 hz5 hz6 hz7 hz8 hg4 l1 n1' n2' n3' n4' hg
      go_cut [57, 58, 59, 60, 61, 62, 63, 64] (fun _ _ _ _ _ s62 s63 s64 wr => ∃ bk L, s62 = .slice (some ⟨bk, 0, none⟩) 3 3 ∧ s63 = .int .i64 3 ∧ s64 = .int .i64 0 ∧ bk < wr.heap.size ∧ L.length = 3 ∧ LstT wr 3 (some ⟨bk, 0, none⟩) L ∧ Fr none w wr ∧
        Hold5 wr w8.heap.size (w8.heap.size + 1) g (.int .i64 th) (.slice A1 n1 c1) (.slice A2 n2 c2) (.int .i64 th2) (.slice B1 m1 d1) (.slice B2 m2 d2) x y (.slice Aq lq.length cq) lq)
      case first =>
        refine wp_region_held_drew (S := fun W => (∀ i, W.cell? ⟨w8.heap.size, i, none⟩ = (#[.int .i64 th, .slice A1 n1 c1, .slice A2 n2 c2] : Array Value)[i]?) ∧ (∀ i, W.cell? ⟨w8.heap.size + 1, i, none⟩ = (#[.int .i64 th2, .slice B1 m1 d1, .slice B2 m2 d2] : Array Value)[i]?) ∧ (∀ i, W.cell? ⟨w.heap.size, i, none⟩ = (#[.int .i64 tr, .slice P1 i1 j1, .slice P2 i2 j2] : Array Value)[i]?) ∧ Fr (some g) wA W) (by kernel_rfl) ⟨b8.cell, b9.cell, p1.cell, (Fr.refl _ _).drew⟩ (fun hH0 => ?_)
        refine wpAnyH_take (i := 0) (v := ?_) rfl (by kernel_rfl) (by kernel_rfl) (by kernel_rfl) (fun _ _ _ h => h) (Or.inl ⟨by rfl, ?_⟩) (by assumption) ?_
        rotate_left
        · (intro W hW; (try dsimp only at hW); go_simp; try with_reducible rfl)
        try simp only [Act.put, List.setIfInBounds_toArray, List.set_cons_zero, List.set_cons_succ, List.getElem_toArray, List.getElem_cons_zero, List.getElem_cons_succ]
        refine wpAnyH_take (i := 1) (v := ?_) rfl (by kernel_rfl) (by kernel_rfl) (by kernel_rfl) (fun _ _ _ h => h) (Or.inl ⟨by rfl, ?_⟩) (by assumption) ?_
        rotate_left
        · (intro W hW; (try dsimp only at hW); go_simp; try with_reducible rfl)
        try simp only [Act.put, List.setIfInBounds_toArray, List.set_cons_zero, List.set_cons_succ, List.getElem_toArray, List.getElem_cons_zero, List.getElem_cons_succ]
        refine wpAnyH_take (i := 2) (v := ?_) rfl (by kernel_rfl) (by kernel_rfl) (by kernel_rfl) (fun _ _ _ h => h) (Or.inl ⟨by rfl, ?_⟩) (by assumption) ?_
        rotate_left
        · (intro W hW; (try dsimp only at hW); go_simp; try with_reducible rfl)
        try simp only [Act.put, List.setIfInBounds_toArray, List.set_cons_zero, List.set_cons_succ, List.getElem_toArray, List.getElem_cons_zero, List.getElem_cons_succ]
        refine wpAnyH_take (i := 4) (v := ?_) rfl (by kernel_rfl) (by kernel_rfl) (by kernel_rfl) (fun _ _ _ h => h) (Or.inl ⟨by rfl, ?_⟩) (by assumption) ?_
        rotate_left
        · (intro W hW; (try dsimp only at hW); go_simp; try with_reducible rfl)
        try simp only [Act.put, List.setIfInBounds_toArray, List.set_cons_zero, List.set_cons_succ, List.getElem_toArray, List.getElem_cons_zero, List.getElem_cons_succ]
        refine wpAnyH_take (i := 7) (v := ?_) rfl (by kernel_rfl) (by kernel_rfl) (by kernel_rfl) (fun _ _ _ h => h) (Or.inl ⟨by rfl, ?_⟩) (by assumption) ?_
        rotate_left
        · (intro W hW; (try dsimp only at hW); go_simp; try with_reducible rfl)
        try simp only [Act.put, List.setIfInBounds_toArray, List.set_cons_zero, List.set_cons_succ, List.getElem_toArray, List.getElem_cons_zero, List.getElem_cons_succ]
        refine wpAnyH_ready (rs := [3]) (by kernel_rfl) (by simp) ?_
        refine AllReadyH.cons rfl (fun K hK => ?_) AllReadyH.nil
        simp only [List.getElem_toArray, List.getElem_cons_zero, List.getElem_cons_succ]
        go_simp
        go_at_call 17
        refine (bent_any y.dep y (.agg #[.int .i64 th2, .slice B1 m1 d1, .slice B2 m2 d2]) g wA.drew (fun b => b < wA.heap.size ∧ b ≠ g) (Nat.le_refl _) (by omega) (fun b hb => hb) yA.drew' SA.drew).mono ?_
        rintro e wB ⟨vB, T8, rfl, hT8, hs8, SB, F8⟩
        obtain ⟨tb, V1, g1, q1', V2, g2, q2', rfl⟩ := hT8.shape
        have F8 := ((Fr.refl (some g) wA).drew).same F8
        refine hK.out _ _ ⟨(b8.fr F8 (by simp; omega)).cell, (b9.fr F8 (by simp; omega)).cell, (p1.fr F8 (by simp; omega)).cell, F8⟩ (fun hH1 => ?_)
        clear hK K hH0
        try simp only [Act.put, List.setIfInBounds_toArray, List.set_cons_zero, List.set_cons_succ, List.getElem_toArray, List.getElem_cons_zero, List.getElem_cons_succ]
        refine wpAnyH_ready (rs := [5]) (by kernel_rfl) (by simp) ?_
        refine AllReadyH.cons rfl (fun K hK => ?_) AllReadyH.nil
        simp only [List.getElem_toArray, List.getElem_cons_zero, List.getElem_cons_succ]
        go_simp
        have FC := F8.alloc (.cells #[.int .i64 th, .slice A1 n1 c1, .slice A2 n2 c2, .int .i64 tb, .slice V1 g1 q1', .slice V2 g2 q2', .int .i64 tr, .slice P1 i1 j1, .slice P2 i2 j2] 29)
        refine hK.out _ _ ⟨(b8.fr FC (by simp; omega)).cell, (b9.fr FC (by simp; omega)).cell, (p1.fr FC (by simp; omega)).cell, FC⟩ (fun hH2 => ?_)
        clear hK K hH1
        try simp only [Act.put, List.setIfInBounds_toArray, List.set_cons_zero, List.set_cons_succ, List.getElem_toArray, List.getElem_cons_zero, List.getElem_cons_succ]
        refine wpAnyH_take (i := 6) (v := ?_) rfl (by kernel_rfl) (by kernel_rfl) (by kernel_rfl) (fun _ _ _ h => h) (Or.inl ⟨by rfl, ?_⟩) (by assumption) ?_
        rotate_left
        · (intro W hW; (try dsimp only at hW); go_simp; try with_reducible rfl)
        try simp only [Act.put, List.setIfInBounds_toArray, List.set_cons_zero, List.set_cons_succ, List.getElem_toArray, List.getElem_cons_zero, List.getElem_cons_succ]
        refine wpAnyH_done (by kernel_rfl) ?_ _
        go_wp2_with fail
        go_meet
        have hzB : wA.heap.size ≤ wB.heap.size := F8.size
        have kk : ∀ k, (k < wA.heap.size ∧ k ≠ g) → Dm wB none k ∧ wB.heap[k]? = wA.heap[k]? := fun k hk => ⟨⟨by omega, by simp⟩, F8.block k hk.1 (by simp; omega)⟩
        have raw8 : TrR wB none (.agg #[.int .i64 tr, .slice P1 i1 j1, .slice P2 i2 j2]) raw := TrD.keep kk _ _ rawA
        have x8 : TrR wB none (.agg #[.int .i64 th, .slice A1 n1 c1, .slice A2 n2 c2]) x := TrD.keep kk _ _ xA
        have y8 : TrR wB none (.agg #[.int .i64 th2, .slice B1 m1 d1, .slice B2 m2 d2]) y := TrD.keep kk _ _ yA
        have t8 : TrR wB none (.agg #[.int .i64 tb, .slice V1 g1 q1', .slice V2 g2 q2']) T8 := TrD.keep (fun k hk => ⟨⟨by
          rcases hk with h | h
          · have := h.1; omega
          · exact h.2, by simp⟩, rfl⟩) _ _ hT8
        have FB := (Fr.refl none wB).alloc (.cells #[.int .i64 th, .slice A1 n1 c1, .slice A2 n2 c2, .int .i64 tb, .slice V1 g1 q1', .slice V2 g2 q2', .int .i64 tr, .slice P1 i1 j1, .slice P2 i2 j2] 29)
        refine ⟨wB.heap.size, [x, T8, raw], rfl, rfl, rfl, by simp, rfl, ⟨_, SlD.lit_dm #[.int .i64 th, .slice A1 n1 c1, .slice A2 n2 c2, .int .i64 tb, .slice V1 g1 q1', .slice V2 g2 q2', .int .i64 tr, .slice P1 i1 j1, .slice P2 i2 j2] 29 3 3 rfl (by unfold maxLen; omega) (by simp) (Fr.refl none _), ?_, ?_⟩, F0A.own FC (fun b hb => by injection hb with hb; omega), ⟨(b8.fr F8 (by simp; omega)).fr FB (by simp), (b9.fr F8 (by simp; omega)).fr FB (by simp), x8.fr FB, y8.fr FB, ?_, SB.fr FB⟩⟩
        · simp only [TrsD]
          exact ⟨_, _, _, _, rfl, x8.fr FB, _, _, _, _, rfl, t8.fr FB, _, _, _, [], rfl, raw8.fr FB, rfl⟩
        · intro q hq
          simp only [List.mem_cons, List.not_mem_nil, or_false] at hq
          rcases hq with rfl | rfl | rfl <;> omega
        · exact hqA.fr FC
      case rest =>
        obtain ⟨bk, L, rfl, rfl, rfl, hbk, hL, hLst, Fc, H4⟩ := hcut
        have HL4 := Lib.hid hL
        have HLS := Lib.hid hLst
        clear hL hLst b8 b9 p1 rawA xA yA SA F0A hzA hqA
        go_wp2_with fail
        go_loopw [64] (fun s64 wr => ∃ j : Nat, j ≤ 3 ∧ s64 = .int .i64 (j : Int) ∧ Fr none wc wr) (fun s64 _ => 3 - (intOf s64).toNat)
        case atStart => exact ⟨0, by omega, rfl, Fr.refl _ _⟩
        case round =>
          obtain ⟨j, hj, rfl, Fr1⟩ := hrel
          obtain ⟨wz, hwz⟩ : ∃ wz : World, wz = wr := ⟨_, rfl⟩
          subst hwz
          by_cases hlt : j < 3
          · obtain ⟨tz, U1, a1, f1, U2, a2, f2, z, g0, g1, g2, hz, hzs⟩ := (HLS.out.fr Fr1).get HL4.out j hlt
            have hbr : bk < wz.heap.size := by have := Fr1.size; omega
            have Hz := H4.fr Fr1
            go_upto_region 8 with (fail)
            generalize hW : wz.alloc _ = wa
            have Fa : Fr none wz wa := hW ▸ (Fr.refl none wz).alloc _
            have ba : TB wa wz.heap.size (.int .i64 tz) (.slice U1 a1 f1) (.slice U2 a2 f2) := by rw [← hW]; exact blk_new _ _
            clear hW g0 g1 g2
            have hza := hz.fr Fa
            have Ha := Hz.fr Fa
            have Ra := ba.cell
            clear hz Hz
            have hs9 : z.size ≤ 1073741000 := by omega
            go_wp2_with fail
            refine (slices_gen z _ _ hza hs9).mono ?_
            rintro e wb ⟨v1, rfl, D1, Fb⟩
            have i1 : SlI wb none v1 _ := ⟨D1.keep (dn_dm (by simp)), slc_wi z⟩
            have bb := ba.fr Fb (by simp)
            have Rb := bb.cell
            have hzb := hza.fr Fb
            clear Ra D1
            go_wp2_with fail
            refine (r5slices_any z _ _ hzb hs9).mono ?_
            rintro e wd ⟨v2, rfl, D2, Fd⟩
            have i2 : SlI wd none v2 _ := ⟨D2.keep (dn_dm (by simp)), slc_wi z⟩
            have i1 := i1.fr Fd
            have bd := bb.fr Fd (by simp)
            have Rd := bd.cell
            have hzd := hzb.fr Fd
            clear Rb D2
            go_wp2_with fail
            refine (blocking_gen z _ _ hzd hs9).mono ?_
            rintro e we ⟨v3, rfl, D3, Fe⟩
            have i3 : SlI we none v3 _ := ⟨D3.keep (dn_dm (by simp)), blc_wi z⟩
            have i1 := i1.fr Fe
            have i2 := i2.fr Fe
            have be := bd.fr Fe (by simp)
            have Re := be.cell
            have hze := hzd.fr Fe
            clear Rd D3
            go_wp2_with fail
            refine (r5blocking_any z _ _ hze hs9).mono ?_
            rintro e wf ⟨v4, rfl, D4, Ff⟩
            have i4 : SlI wf none v4 _ := ⟨D4.keep (dn_dm (by simp)), blc_wi z⟩
            have i1 := i1.fr Ff
            have i2 := i2.fr Ff
            have i3 := i3.fr Ff
            have bf := be.fr Ff (by simp)
            have hzf := hze.fr Ff
            have Faf := ((((Fr.refl none wa).pure Fb).pure Fd).pure Fe).pure Ff
            have hee : (validE z != validE z) = false := by simp
            clear Re D4 ba bb bd be hza hzb hzd hze Fb Fd Fe Ff
            go_wp2_with fail
            refine (ints_any _ _ _ _ _ i1 i2).mono ?_
            rintro e wg ⟨rfl, Fg⟩
            rw [decide_eq_true rfl]
            have i3 := i3.fr Fg
            have i4 := i4.fr Fg
            clear i1 i2
            go_wp2_with fail
            refine (ints_any _ _ _ _ _ i3 i4).mono ?_
            rintro e wh ⟨rfl, Fh⟩
            rw [decide_eq_true rfl]
            have bh := (bf.fr Fg (by simp)).fr Fh (by simp)
            have hzh := (hzf.fr Fg).fr Fh
            have Fah := (Faf.pure Fg).pure Fh
            have Hh := Ha.fr Fah
            have Rh := bh.cell
            have r1 := Hh.p1.cell
            have r2 := Hh.p2.cell
            have l1 := blk_lt Hh.p1
            have l2 := blk_lt Hh.p2
            have l3 := blk_lt bh
            obtain ⟨B1', K1, M1, hA1⟩ := ansE_shape z y (fun s : Nat => sat (s : Int) z && !sat (s : Int) y)
            obtain ⟨B2', K2, M2, hA2⟩ := ansE_shape x z (fun s : Nat => sat (s : Int) x != sat (s : Int) z)
            have HA1 := Lib.hid hA1
            have HA2 := Lib.hid hA2
            have e1 : (B1' != B1') = false := by simp
            have e2 : (K1 != K1) = false := by simp
            have e3 : (M1 != M1) = false := by simp
            have e4 : (B2' != B2') = false := by simp
            have e5 : (K2 != K2) = false := by simp
            have e6 : (M2 != M2) = false := by simp
            clear i3 i4 hA1 hA2 bf hzf Faf Fg Fh
            go_wp2_with fail
            refine (imp_gen z y _ _ _ hzh Hh.r2 hs9 (by omega)).mono ?_
            rintro e wi ⟨rfl, Fi⟩
            rw [HA1.out]
            have Ri := (bh.fr Fi (by simp)).cell
            have r2i := (Hh.p2.fr Fi (by simp)).cell
            have li := Fi.size
            clear Rh r1 r2
            go_wp2_with fail
            refine (rimp_any z y _ _ _ (hzh.fr Fi) (Hh.r2.fr Fi) hs9 (by omega)).mono ?_
            rintro e wj ⟨rfl, Fj⟩
            rw [HA1.out]
            have Fj := Fi.pure Fj
            have Rj := (bh.fr Fj (by simp)).cell
            have r1j := (Hh.p1.fr Fj (by simp)).cell
            have lj := Fj.size
            clear Ri r2i li Fi
            go_wp2_with fail
            refine (eqv_gen x z _ _ _ (Hh.r1.fr Fj) (hzh.fr Fj) (by omega) hs9).mono ?_
            rintro e wk ⟨rfl, Fk⟩
            rw [HA2.out]
            have Fk := Fj.pure Fk
            have Rk := (bh.fr Fk (by simp)).cell
            have r1k := (Hh.p1.fr Fk (by simp)).cell
            have lk := Fk.size
            clear Rj r1j lj Fj
            go_wp2_with fail
            refine (reqv_any x z _ _ _ (Hh.r1.fr Fk) (hzh.fr Fk) (by omega) hs9).mono ?_
            rintro e wl ⟨rfl, Fl⟩
            rw [HA2.out]
            have Fl := Fk.pure Fl
            clear Rk r1k lk Fk
            go_wp2_with fail
            go_roundw
            case rel => exact ⟨j + 1, by omega, by go_num, ((Fr1.pure Fa).pure Fah).pure Fl⟩
            case measure => simp [intOf]; omega
          · obtain rfl : j = 3 := by omega
            have Hz := H4.fr Fr1
            have F0z := Fc.pure Fr1
            have S0 := Hz.tape
            have hgz := S0.lt
            have hq0 := Hz.hq
            have hzz := F0z.size
            clear Hz H4 HLS HL4 Fc Fr1 hbk l8 l9 hsx hsy hsr hgb hg2
            go_wp2_with fail
            refine (tapeRange_any 1 8 g _ (by omega) (by omega) (by omega) S0).mono ?_
            rintro e wa ⟨n, rfl, n1', n2', Sa, Fa⟩
            obtain ⟨m, rfl⟩ := Int.eq_ofNat_of_zero_le (show 0 ≤ n by omega)
            go_wp2_with fail
            refine (setsO_any 8 m g _ (by omega) (by omega) Sa).mono ?_
            rintro e wb ⟨l2, A2', c2', rfl, hl2', hb2, own2, Sb, Fb⟩
            go_wp2_with fail
            refine (setsO_any 5 5 g _ (by omega) (by omega) Sb).mono ?_
            rintro e wd ⟨l3, A3, c3, rfl, hl3, hb3, own3, Sd, Fd⟩
            go_wp2_with fail
            have hzb := Fa.size
            have hzc := Fb.size
            have hzd := Fd.size
            have FL := (Fr.refl none wd).alloc (.cells #[.int .i64 0, .int .i64 (-1), .int .i64 1024, .int .i64 31] 3)
            have hlit : SlI (wd.alloc (.cells #[.int .i64 0, .int .i64 (-1), .int .i64 1024, .int .i64 31] 3)) (some g) (.slice (some ⟨wd.heap.size, 0, none⟩) 4 4) [0, -1, 1024, 31] :=
              ⟨SlD.lit_dm #[.int .i64 0, .int .i64 (-1), .int .i64 1024, .int .i64 31] 3 4 1 rfl (by unfold maxLen; omega) (by simp; omega) (Fr.refl _ _), by intro x hx; simp at hx; constructor <;> omega⟩
            refine (tapePick_any _ [0, -1, 1024, 31] g _ hlit (by simp) (by simp) (Sd.fr FL)).mono ?_
            rintro e wp ⟨x9, rfl, hx9, Sp, Fp⟩
            have hxw : Wi x9 := by simp at hx9; constructor <;> omega
            have FLp : Fr (some g) wd wp := FL.mono.same Fp
            have Fap := ((Fa.same Fb).same Fd).same FLp
            have ow3 := own_fr own3 FLp (by simp; omega)
            have own3h := Lib.hid ow3
            have Fbp := Fd.same FLp
            have D2p : SlD wp (fun b => b < wb.heap.size) 1 (.slice A2' l2.length c2') (l2.map (Value.int .i64)) := (SlD.own_dn own2).keep (fun k hk => ⟨hk.2, Fbp.block k hk.2 (by have := hk.1; simp; omega)⟩)
            have D1p : SlD wp (fun b => b < wz.heap.size) 1 (.slice Aq lq.length cq) (lq.map (Value.int .i64)) := hq0.1.keep (fun k hk => ⟨hk.1, Fap.block k hk.1 hk.2⟩)
            have hqw := hq0.2
            have F0p := F0z.own Fap (fun q hq => by injection hq with hq; omega)
            have hb5 : ∀ y ∈ l3, Wi y := fun y hy => by
              obtain ⟨a, rfl, ha⟩ := hb3 y hy
              have : (2 : Nat) ^ 5 = 32 := rfl
              constructor <;> omega
            have hb8 : ∀ y ∈ l2, Wi y := fun y hy => by
              obtain ⟨a, rfl, ha⟩ := hb2 y hy
              have := Nat.pow_le_pow_right (n := 2) (by omega) (show m ≤ 8 by omega)
              constructor <;> omega
            have HB5 := Lib.hid hb5
            have HB8 := Lib.hid hb8
            have hzp := FLp.size
            clear hlit hx9 own2 own3 hb2 hb3 hb5 hb8 Fa Fb Fd FL Fp FLp Fap Fbp S0 Sa Sb Sd F0z hq0 hzz
            go_wp2_with (at_builtin; refine app_lit eiInt rfl _ _ rfl wb.heap.size A3 l3.length c3 _ rfl ow3 1 [.int .i64 x9] _ _ rfl (by simp) rfl (by simp [Value.oneCell']) (by omega) (by unfold maxLen; omega) (by omega) ?_; intro A4 c4 wq own4 Fq nb4)
            have og3 := own_blk_ge ow3
            have hzq := Fq.size
            obtain ⟨lz, hlz⟩ : ∃ lz, lz = l3 ++ [x9] := ⟨_, rfl⟩
            have hzl : l3.length + 1 = lz.length := by rw [hlz]; simp
            have hz6 : lz.length ≤ 60 := by omega
            have own4 : wq.ownsRow wb.heap.size 3 1 (.slice A4 lz.length c4) lz.length (lz.map (Value.int .i64)) := by rw [← hzl, hlz]; simpa using own4
            have hbz : ∀ y ∈ lz, Wi y := by
              rw [hlz]; intro y hy
              rcases List.mem_append.1 hy with hy | hy
              · exact HB5.out y hy
              · simp at hy; subst hy; exact hxw
            have I3 : SlI wq none (.slice A4 lz.length c4) lz := SlI.of_own own4 (by simp) hbz
            rw [hzl]
            have I2 : SlI wq none (.slice A2' l2.length c2') l2 := ⟨D2p.keep (fun k hk => ⟨⟨by omega, by simp⟩, Fq.block k (by omega) (fun e => by have := og3 k e.symm; omega)⟩), HB8.out⟩
            have I1 : SlI wq none (.slice Aq lq.length cq) lq := ⟨D1p.keep (fun k hk => ⟨⟨by omega, by simp⟩, Fq.block k (by omega) (fun e => by have := og3 k e.symm; omega)⟩), hqw⟩
            have F0q : Fr none w wq := F0p.own Fq (fun q hq => by have := og3 q hq; omega)
            have hl2q : l2.length ≤ 60 := by omega
            generalize hW : wq.alloc _ = wr
            have Fr0 : Fr none wq wr := hW ▸ (Fr.refl none wq).alloc _
            have hblk : wr.heap[wq.heap.size]? = some (.cells #[.slice Aq lq.length cq, .slice A2' l2.length c2', .slice A4 lz.length c4] 22 (0, 0)) := by rw [← hW]; exact blk_new _ _
            have I1 := I1.fr Fr0
            have I2 := I2.fr Fr0
            have I3 := I3.fr Fr0
            have F0r := F0q.pure Fr0
            obtain ⟨bk2, hbk2⟩ : ∃ b, b = wq.heap.size := ⟨_, rfl⟩
            rw [← hbk2] at hblk ⊢
            have HI : Hid (∀ W, Fr none wr W → ∀ j : Nat, j < 3 → ∃ (A' : Option Addr) (l' : List Int) (c' : Nat), W.cell? ⟨bk2, j, none⟩ = some (.slice A' l'.length c') ∧ SlI W none (.slice A' l'.length c') l' ∧ l'.length ≤ 60) := fun W FW j hj => by
              have hb := blk_cell (blk_fr hblk FW (by simp)) j
              obtain rfl | rfl | rfl : j = 0 ∨ j = 1 ∨ j = 2 := by omega
              · exact ⟨_, lq, _, hb, I1.fr FW, hq60⟩
              · exact ⟨_, l2, _, hb, I2.fr FW, hl2q⟩
              · exact ⟨_, lz, _, hb, I3.fr FW, hz6⟩
            have hlb := blk_lt hblk
            clear hW hblk I1 I2 I3 F0q Fr0 own4 D2p D1p hbz hbk2 HB5 HB8 F0p ow3 own3h Fq nb4 og3 hqw hxw hzl hlz
            go_loopw [33, 179] (fun _ s179 wn => ∃ j : Nat, j ≤ 3 ∧ s179 = .int .i64 (j : Int) ∧ Fr none wr wn) (fun _ s179 _ => 3 - (intOf s179).toNat)
            case atStart => exact ⟨0, by omega, rfl, Fr.refl _ _⟩
            case round =>
              obtain ⟨j, hj, rfl, Fn⟩ := hrel
              rename_i wn
              by_cases hlt : j < 3
              · obtain ⟨A', l', c', g0, hI, hlen⟩ := HI.out _ Fn j hlt
                have hlb2 : bk2 < wn.heap.size := by have := Fn.size; omega
                have hee : (ofE l' != ofE l') = false := by simp
                have HSM : Hid (sameT (ofV l') (ofV l') = true) := (sameT_iff _ _).2 rfl
                go_wp2_with fail
                refine (sof_any l' _ _ hI (by omega)).mono ?_
                rintro e wa ⟨va, rfl, hTa, Fa⟩
                obtain ⟨ta, Y1, y1, y2, Y2, y3, y4, rfl⟩ := TrD.shape hTa
                go_upto_region 25 with (fail)
                generalize hW : wa.alloc _ = wb'
                have Fb : Fr none wa wb' := hW ▸ (Fr.refl none wa).alloc _
                have bb : TB wb' wa.heap.size (.int .i64 ta) (.slice Y1 y1 y2) (.slice Y2 y3 y4) := by rw [← hW]; exact blk_new _ _
                have Fab := Fa.pure Fb
                have hTb := hTa.fr Fb
                clear hW g0 hTa Fa Fb
                go_wp2_with fail
                refine (r5of_any l' _ _ (hI.fr Fab) (by omega)).mono ?_
                rintro e wd' ⟨vd, rfl, hTd, Fd⟩
                obtain ⟨td, Z1, z1, z2, Z2, z3, z4, rfl⟩ := TrD.shape hTd
                go_upto_region 26 with (fail)
                generalize hW : wd'.alloc _ = we
                have Fe : Fr none wd' we := hW ▸ (Fr.refl none wd').alloc _
                have be : TB we wd'.heap.size (.int .i64 td) (.slice Z1 z1 z2) (.slice Z2 z3 z4) := by rw [← hW]; exact blk_new _ _
                have bbe := (bb.fr Fd (by simp)).fr Fe (by simp)
                have Fbe := (Fab.pure Fd).pure Fe
                have hTbe := (hTb.fr Fd).fr Fe
                have hTe := hTd.fr Fe
                have R1 := bbe.cell
                have R2 := be.cell
                have m1 := blk_lt bbe
                have m2 := blk_lt be
                clear hW hTb hTd Fd Fe bb be bbe Fab
                go_wp2_with fail
                refine (rsame_any (ofV l').dep (ofV l') (ofV l') _ _ _ none (Nat.le_refl _) hTbe hTe).mono ?_
                rintro e wf ⟨rfl, Ff⟩
                rw [HSM.out]
                go_wp2_with fail
                go_roundw
                case rel => exact ⟨j + 1, by omega, by go_num, (Fn.pure Fbe).pure Ff⟩
                case measure => simp [intOf]; omega
              · obtain rfl : j = 3 := by omega
                go_wp2_with fail
                refine (awake5_any _).mono ?_
                rintro e w9 ⟨rfl, F9⟩
                go_wp2_with fail
                go_ret
                exact ⟨rfl, (F0r.pure Fn).pure F9⟩
end Go.Proofs.YtpdhckbiioobhaaGreat

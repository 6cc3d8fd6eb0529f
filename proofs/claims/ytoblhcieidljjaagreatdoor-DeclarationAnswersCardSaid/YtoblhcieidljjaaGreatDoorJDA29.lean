/- Some texts of this claim, joined: contracts of the functions that it reaches, and plain laws. -/
import Derived.Test.YtoblhcieidljjaaGreatDoorProg
import Derived.Test.YtoblhcieidljjaaGreatDoorJDA11
import Derived.Test.YtoblhcieidljjaaGreatDoorJDA28
import Derived.Test.YtoblhcieidljjaaGreatDoorJDA16
import Derived.Test.YtoblhcieidljjaaGreatDoorJDA17
import Derived.Test.YtoblhcieidljjaaGreatDoorJDA23
import Derived.Test.YtoblhcieidljjaaGreatDoorJDA10
import Derived.Test.YtoblhcieidljjaaGreatDoorJDA24
import Derived.Test.YtoblhcieidljjaaGreatDoorJDA19

set_option linter.unusedSimpArgs false
set_option linter.unusedVariables false
/- Walks: mk.BentDeclaration, mk.SmallDeclaration. -/
namespace Go.Proofs.YtoblhcieidljjaaGreatDoor
open Go.RowKit

theorem wrap_wi (x : Int) : Wi (IntKind.i64.wrap x) := by
  rw [IntKind.wrap_i64]
  constructor <;> omega
theorem smalld_any (d : De) (v : Value) (w : World) (h : RwDe w v d) : Calls Tryz.prog 13 #[v] w (SmallP d.tr w) := by
  obtain ⟨th, A1, n1, c1, A2, n2, c2, rfl, hT, hn, hq, ht⟩ := h.shape
  have F1 := (Fr.refl none w).alloc (.cells #[.int .i64 d.node, .int .i64 d.seq, .int .i64 th, .slice A1 n1 c1, .slice A2 n2 c2, .int .u64 d.tag] 45)
  have h1 := hT.fr F1
  go_enter Tryz.func13, Tryz.ntmps13
  go_wp2_with fail
  refine (small_any d.tr _ _ h1).mono ?_
  rintro e w2 ⟨b, rfl, hb, F2⟩
  go_wp2_with fail
  go_ret
  exact ⟨b, rfl, hb, F1.pure F2⟩

/-- Blocks that are neither the tape nor the two of the call. -/
def Dbd (B g : Nat) (w : World) : Nat → Prop := fun k => (k < B ∨ B + 2 ≤ k) ∧ k < w.heap.size ∧ k ≠ g
theorem dbd_fr {B g : Nat} {w w' : World} {r : Option Nat} (F : Fr r w w') (hr : ∀ b, r = some b → b = g ∨ b = B ∨ b = B + 1) : ∀ k, Dbd B g w k → Dbd B g w' k ∧ w'.heap[k]? = w.heap[k]? := fun k hk =>
  ⟨⟨hk.1, Nat.lt_of_lt_of_le hk.2.1 F.size, hk.2.2⟩, F.block k hk.2.1 (fun e => by have := hr k e.symm; have := hk.1; have := hk.2.2; omega)⟩
theorem dbd_dm {B g : Nat} {w : World} : ∀ k, Dbd B g w k → Dm w (some g) k ∧ w.heap[k]? = w.heap[k]? := fun k hk => ⟨⟨hk.2.1, fun e => hk.2.2 (by injection e)⟩, rfl⟩
/-- What BentDeclaration hands back: a declaration, whichever. -/
def BdcP (w : World) (g N : Nat) (e : Ending) (w' : World) : Prop :=
  ∃ v d, e = .returned v ∧ DeD w' (Dm w' (some g)) v d ∧ d.tr.size ≤ N + 410 ∧ SrcR 84 w' g ∧ Fr (some g) w w'
set_option maxRecDepth 100000 in
set_option maxHeartbeats 4000000 in
theorem bentd_any (d : De) (v : Value) (g : Nat) (w : World) (hs : d.tr.size ≤ 1000000) (h : DeD w (Dm w (some g)) v d) (S0 : SrcR 84 w g) :
    Calls Tryz.prog 18 #[.pointer (some ⟨g, 0, none⟩), v] w (BdcP w g d.tr.size) := by
  obtain ⟨th, A1, n1, c1, A2, n2, c2, rfl, hT, hn, hq, ht⟩ := h.shape
  obtain ⟨nd, sq, t, tg⟩ := d
  simp only at hs hT hn hq ht ⊢
  have hg := S0.lt
  clear h
  have HN := Lib.hid hn
  have HQ := Lib.hid hq
  have HT := Lib.hid ht
  clear hn hq ht
  go_enter Tryz.func18, Tryz.ntmps18
  go_wp2_with fail
  generalize hW : (w.alloc _).alloc _ = w1
  have F1 : Fr none w w1 := hW ▸ ((Fr.refl none w).alloc _).alloc _
  have K1 : DB w1 w.heap.size (.int .i64 nd) (.int .i64 sq) (.int .i64 th) (.slice A1 n1 c1) (.slice A2 n2 c2) (.int .u64 (tg : Int)) := by
    rw [← hW]; exact (Below.heap_alloc _ _ _ (by simp)).trans (blk_new _ _)
  have J1 : DB w1 (w.heap.size + 1) (.int .i64 0) (.int .i64 0) (.int .i64 0) (.slice none 0 0) (.slice none 0 0) (.int .u64 0) := by
    rw [← hW]; exact blk_new_at (by simp) _
  have hz1 : w1.heap.size = w.heap.size + 2 := by rw [← hW]; simp
  clear hW
  have S1 := S0.fr F1
  refine (tapeN_any 5 g _ (by omega) (by omega) S1).mono ?_
  rintro e w3 ⟨x, rfl, x1, x2, S3, F3⟩
  have hz3 : w.heap.size + 2 ≤ w3.heap.size := by have := F3.size; omega
  have K3 := K1.fr F3 (by simp; omega)
  have J3 := J1.fr F3 (by simp; omega)
  have F3 := (F1.mono (r := some g)).same F3
  have hT3 : TrD w3 (Dbd w.heap.size g w3) _ t := TrD.keep (fun k hk => ⟨⟨.inl hk.1, by have := hk.1; omega, fun e => hk.2 (by rw [e])⟩, F3.block k hk.1 hk.2⟩) _ _ hT
  have R3 := K3.cell
  have Z3 := K3.free
  have hb3 := blk_lt K3
  clear K1 J1 S1 F1 hz1 hT S0
  obtain rfl | rfl | rfl | rfl | rfl : x = 0 ∨ x = 1 ∨ x = 2 ∨ x = 3 ∨ x = 4 := by omega
  · skip
    obtain ⟨y, hy⟩ : ∃ y, y = IntKind.i64.wrap (nd + 1) := ⟨_, rfl⟩
    have hyw : Wi y := hy ▸ wrap_wi _
    have hwr : IntKind.i64.wrap (nd + 1) = y := hy.symm
    clear hy
    go_wp2_with fail
    have FA := (Fr.refl none w3).alloc (.cells #[.int .i64 (-1), .int .i64 (0), .int .i64 (9), .int .i64 (10), .int .i64 y] 3)
    have hlit : SlI (w3.alloc (.cells #[.int .i64 (-1), .int .i64 (0), .int .i64 (9), .int .i64 (10), .int .i64 y] 3)) (some g) (.slice (some ⟨w3.heap.size, 0, none⟩) 5 5) [-1, 0, 9, 10, y] :=
      ⟨SlD.lit_dm #[.int .i64 (-1), .int .i64 (0), .int .i64 (9), .int .i64 (10), .int .i64 y] 3 5 1 rfl (by unfold maxLen; omega) (by simp; omega) (Fr.refl _ _), by intro x hx; simp at hx; rcases hx with rfl | rfl | rfl | rfl | rfl <;> first | exact hyw | (constructor <;> omega)⟩
    refine (tapePick_any _ [-1, 0, 9, 10, y] g _ hlit (by simp) (by simp) (S3.fr FA)).mono ?_
    rintro e wp ⟨x, rfl, hx, Sp, Fp⟩
    have hxw : Wi x := by simp at hx; rcases hx with rfl | rfl | rfl | rfl | rfl <;> first | exact hyw | (constructor <;> omega)
    have Fp := FA.mono.same Fp
    have Fw := F3.same Fp
    have K5 := K3.fr Fp (by simp; omega)
    have J5 := J3.fr Fp (by simp; omega)
    have hzp := Fp.size
    clear hx hlit FA R3 Z3
    have R6 := (K5).cell
    have Z6 := (K5).free
    have hb6 := blk_lt (K5)
    have R7 := (J5).cell
    have Z7 := (J5).free
    have hb7 := blk_lt (J5)
    go_wp2_with fail
    refine bodyPost_ret (v := .agg #[.int .i64 x, .int .i64 sq, .int .i64 th, (.slice A1 n1 c1), (.slice A2 n2 c2), .int .u64 (tg : Int)]) (by simp [results, Tryz.results18, go_sem, R7, R6]) rfl ?_
    generalize hW : World.setCell wp _ _ = w6
    have G6 : Fr (some w.heap.size) wp w6 := by rw [← hW]; exact Fr.set1 wp ⟨w.heap.size, 0, none⟩ _
    clear hW
    have G := fr_fill6 w6 (w.heap.size + 1) (.int .i64 x) (.int .i64 sq) (.int .i64 th) (.slice A1 n1 c1) (.slice A2 n2 c2) (.int .u64 (tg : Int))
    exact ⟨_, ⟨x, sq, t, tg⟩, rfl, ⟨_, _, _, rfl, TrD.keep dbd_dm _ _ (TrD.keep (dbd_fr G (by simp)) _ _ (TrD.keep (dbd_fr G6 (by simp)) _ _ (TrD.keep (dbd_fr Fp (by simp)) _ _ hT3))), hxw, HQ.out, HT.out⟩, (by show t.size ≤ _; omega), ((Sp).frs G6 (by simp; omega)).frs G (by simp; omega), ((Fw).own G6 (by simp)).own G (by simp)⟩
  · skip
    obtain ⟨y, hy⟩ : ∃ y, y = IntKind.i64.wrap (sq + 1) := ⟨_, rfl⟩
    have hyw : Wi y := hy ▸ wrap_wi _
    have hwr : IntKind.i64.wrap (sq + 1) = y := hy.symm
    clear hy
    go_wp2_with fail
    have FA := (Fr.refl none w3).alloc (.cells #[.int .i64 (0), .int .i64 (-1), .int .i64 (30), .int .i64 (31), .int .i64 y] 3)
    have hlit : SlI (w3.alloc (.cells #[.int .i64 (0), .int .i64 (-1), .int .i64 (30), .int .i64 (31), .int .i64 y] 3)) (some g) (.slice (some ⟨w3.heap.size, 0, none⟩) 5 5) [0, -1, 30, 31, y] :=
      ⟨SlD.lit_dm #[.int .i64 (0), .int .i64 (-1), .int .i64 (30), .int .i64 (31), .int .i64 y] 3 5 1 rfl (by unfold maxLen; omega) (by simp; omega) (Fr.refl _ _), by intro x hx; simp at hx; rcases hx with rfl | rfl | rfl | rfl | rfl <;> first | exact hyw | (constructor <;> omega)⟩
    refine (tapePick_any _ [0, -1, 30, 31, y] g _ hlit (by simp) (by simp) (S3.fr FA)).mono ?_
    rintro e wp ⟨x, rfl, hx, Sp, Fp⟩
    have hxw : Wi x := by simp at hx; rcases hx with rfl | rfl | rfl | rfl | rfl <;> first | exact hyw | (constructor <;> omega)
    have Fp := FA.mono.same Fp
    have Fw := F3.same Fp
    have K5 := K3.fr Fp (by simp; omega)
    have J5 := J3.fr Fp (by simp; omega)
    have hzp := Fp.size
    clear hx hlit FA R3 Z3
    have R6 := (K5).cell
    have Z6 := (K5).free
    have hb6 := blk_lt (K5)
    have R7 := (J5).cell
    have Z7 := (J5).free
    have hb7 := blk_lt (J5)
    go_wp2_with fail
    refine bodyPost_ret (v := .agg #[.int .i64 nd, .int .i64 x, .int .i64 th, (.slice A1 n1 c1), (.slice A2 n2 c2), .int .u64 (tg : Int)]) (by simp [results, Tryz.results18, go_sem, R7, R6]) rfl ?_
    generalize hW : World.setCell wp _ _ = w6
    have G6 : Fr (some w.heap.size) wp w6 := by rw [← hW]; exact Fr.set1 wp ⟨w.heap.size, 1, none⟩ _
    clear hW
    have G := fr_fill6 w6 (w.heap.size + 1) (.int .i64 nd) (.int .i64 x) (.int .i64 th) (.slice A1 n1 c1) (.slice A2 n2 c2) (.int .u64 (tg : Int))
    exact ⟨_, ⟨nd, x, t, tg⟩, rfl, ⟨_, _, _, rfl, TrD.keep dbd_dm _ _ (TrD.keep (dbd_fr G (by simp)) _ _ (TrD.keep (dbd_fr G6 (by simp)) _ _ (TrD.keep (dbd_fr Fp (by simp)) _ _ hT3))), HN.out, hxw, HT.out⟩, (by show t.size ≤ _; omega), ((Sp).frs G6 (by simp; omega)).frs G (by simp; omega), ((Fw).own G6 (by simp)).own G (by simp)⟩
  · obtain ⟨y, hy⟩ : ∃ y, y = (tg + 1) % 18446744073709551616 := ⟨_, rfl⟩
    have hyl : y < 18446744073709551616 := hy ▸ Nat.mod_lt _ (by decide)
    have hwr : IntKind.u64.wrap ((tg : Int) + 1) = (y : Int) := by rw [IntKind.wrap_u64, hy]; have := HT.out; omega
    have HY := Lib.hid hyl
    clear hy hyl R3 Z3
    have R6 := (K3).cell
    have Z6 := (K3).free
    have hb6 := blk_lt (K3)
    have R7 := (J3).cell
    have Z7 := (J3).free
    have hb7 := blk_lt (J3)
    go_wp2_with fail
    refine bodyPost_ret (v := .agg #[.int .i64 nd, .int .i64 sq, .int .i64 th, (.slice A1 n1 c1), (.slice A2 n2 c2), .int .u64 (y : Int)]) (by simp [results, Tryz.results18, go_sem, R7, R6]) rfl ?_
    generalize hW : World.setCell w3 _ _ = w6
    have G6 : Fr (some w.heap.size) w3 w6 := by rw [← hW]; exact Fr.set1 w3 ⟨w.heap.size, 5, none⟩ _
    clear hW
    have G := fr_fill6 w6 (w.heap.size + 1) (.int .i64 nd) (.int .i64 sq) (.int .i64 th) (.slice A1 n1 c1) (.slice A2 n2 c2) (.int .u64 (y : Int))
    exact ⟨_, ⟨nd, sq, t, y⟩, rfl, ⟨_, _, _, rfl, TrD.keep dbd_dm _ _ (TrD.keep (dbd_fr G (by simp)) _ _ (TrD.keep (dbd_fr G6 (by simp)) _ _ hT3)), HN.out, HQ.out, HY.out⟩, (by show t.size ≤ _; omega), ((S3).frs G6 (by simp; omega)).frs G (by simp; omega), ((F3).own G6 (by simp)).own G (by simp)⟩
  · go_wp2_with fail
    refine (bent_any t.dep t _ g _ (Dbd w.heap.size g w3) (Nat.le_refl _) hs (fun b hb => hb.2) hT3 S3).mono ?_
    rintro e w5 ⟨v5, T, rfl, hT5, hTs, S5, F5⟩
    obtain ⟨th', a1, m1, e1, a2, m2, e2, rfl⟩ := hT5.shape
    have hz5 := F5.size
    have hT5 : TrD w5 (Dbd w.heap.size g w5) _ T := TrD.keep (fun k hk => by
      have hk' : Dbd w.heap.size g w5 k := by
        rcases hk with h | h
        · exact ⟨h.1, by have := h.2.1; omega, h.2.2⟩
        · exact ⟨.inr (by omega), h.2, by omega⟩
      exact ⟨hk', rfl⟩) _ _ hT5
    have K5 := K3.fr F5 (by simp; omega)
    have J5 := J3.fr F5 (by simp; omega)
    clear R3 Z3 K3 J3
    have R6 := (K5).cell
    have Z6 := (K5).free
    have hb6 := blk_lt (K5)
    have R7 := (J5).cell
    have Z7 := (J5).free
    have hb7 := blk_lt (J5)
    go_wp2_with fail
    refine bodyPost_ret (v := .agg #[.int .i64 nd, .int .i64 sq, .int .i64 th', (.slice a1 m1 e1), (.slice a2 m2 e2), .int .u64 (tg : Int)]) (by simp [results, Tryz.results18, go_sem, R7, R6]) rfl ?_
    generalize hW : World.setCell (World.setCell (World.setCell w5 _ _) _ _) _ _ = w6
    have G6 : Fr (some w.heap.size) w5 w6 := by rw [← hW]; exact Fr.setRow (p := ⟨w.heap.size, 4, none⟩) (Fr.setRow (p := ⟨w.heap.size, 3, none⟩) (Fr.set1 w5 ⟨w.heap.size, 2, none⟩ _) rfl _) rfl _
    clear hW
    have G := fr_fill6 w6 (w.heap.size + 1) (.int .i64 nd) (.int .i64 sq) (.int .i64 th') (.slice a1 m1 e1) (.slice a2 m2 e2) (.int .u64 (tg : Int))
    exact ⟨_, ⟨nd, sq, T, tg⟩, rfl, ⟨_, _, _, rfl, TrD.keep dbd_dm _ _ (TrD.keep (dbd_fr G (by simp)) _ _ (TrD.keep (dbd_fr G6 (by simp)) _ _ hT5)), HN.out, HQ.out, HT.out⟩, (by show T.size ≤ _; omega), ((S5).frs G6 (by simp; omega)).frs G (by simp; omega), ((F3.same F5).own G6 (by simp)).own G (by simp)⟩
  · go_wp2_with fail
    refine (mkTrust_any 10 4 g _ (by omega) (by omega) (by omega) (by omega) S3).mono ?_
    rintro e w5 ⟨v5, T, rfl, hT5, hva, _, _, S5, F5⟩
    obtain ⟨th', a1, m1, e1, a2, m2, e2, rfl⟩ := hT5.shape
    have hTs := (valid_facts hva).2.1
    have hz5 := F5.size
    have hT5 : TrD w5 (Dbd w.heap.size g w5) _ T := TrD.keep (fun k hk => ⟨⟨.inr (by have := hk.1; omega), hk.2, by have := hk.1; omega⟩, rfl⟩) _ _ hT5
    have K5 := K3.fr F5 (by simp; omega)
    have J5 := J3.fr F5 (by simp; omega)
    clear R3 Z3 hva K3 J3
    have R6 := (K5).cell
    have Z6 := (K5).free
    have hb6 := blk_lt (K5)
    have R7 := (J5).cell
    have Z7 := (J5).free
    have hb7 := blk_lt (J5)
    go_wp2_with fail
    refine bodyPost_ret (v := .agg #[.int .i64 nd, .int .i64 sq, .int .i64 th', (.slice a1 m1 e1), (.slice a2 m2 e2), .int .u64 (tg : Int)]) (by simp [results, Tryz.results18, go_sem, R7, R6]) rfl ?_
    generalize hW : World.setCell (World.setCell (World.setCell w5 _ _) _ _) _ _ = w6
    have G6 : Fr (some w.heap.size) w5 w6 := by rw [← hW]; exact Fr.setRow (p := ⟨w.heap.size, 4, none⟩) (Fr.setRow (p := ⟨w.heap.size, 3, none⟩) (Fr.set1 w5 ⟨w.heap.size, 2, none⟩ _) rfl _) rfl _
    clear hW
    have G := fr_fill6 w6 (w.heap.size + 1) (.int .i64 nd) (.int .i64 sq) (.int .i64 th') (.slice a1 m1 e1) (.slice a2 m2 e2) (.int .u64 (tg : Int))
    exact ⟨_, ⟨nd, sq, T, tg⟩, rfl, ⟨_, _, _, rfl, TrD.keep dbd_dm _ _ (TrD.keep (dbd_fr G (by simp)) _ _ (TrD.keep (dbd_fr G6 (by simp)) _ _ hT5)), HN.out, HQ.out, HT.out⟩, (by show T.size ≤ _; omega), ((S5).frs G6 (by simp; omega)).frs G (by simp; omega), ((F3.same F5).own G6 (by simp)).own G (by simp)⟩
end Go.Proofs.YtoblhcieidljjaaGreatDoor

/- The law DeclarationAnswers: the great test of its first loop (region 10): all answers of the program and the reference agree. -/
namespace Go.Proofs.YtoblhcieidljjaaGreatDoor
open Go.RowKit

/-- A declaration that stands aside of the tape, small. -/
structure De7 (w : World) (g : Nat) (v : Value) (d : De) : Prop where
  de : DeD w (Dm w (some g)) v d
  siz : d.tr.size ≤ 3000
theorem De7.fr {w w' : World} {g : Nat} {v : Value} {d : De} (h : De7 w g v d) (F : Fr (some g) w w') : De7 w' g v d := ⟨h.de.keep (fr_dm F), h.siz⟩
theorem De7.none {w : World} {g : Nat} {v : Value} {d : De} (h : De7 w g v d) : DeD w (Dm w none) v d := h.de.keep dm_none
theorem De7.big {w : World} {g : Nat} {v : Value} {d : De} (h : De7 w g v d) : d.tr.size ≤ 1073741000 := by have := h.siz; omega
/-- A region of a code, by its number. -/
def regionAt (n : Nat) : Code → Option Code
  | .region k ops fl => if k = n then some (.region k ops fl) else none
  | .seq a b => match regionAt n a with
    | some c => some c
    | none => regionAt n b
  | .block _ c => regionAt n c
  | .scope c => regionAt n c
  | .cond _ a b => match regionAt n a with
    | some c => some c
    | none => regionAt n b
  | .loop c => regionAt n c
  | _ => none
noncomputable def law07r10 : Code := ((Tryz.f4.body.bind (regionAt 10)).getD .skip)

set_option maxRecDepth 100000 in
set_option maxHeartbeats 64000000 in
theorem law07r_any (X d oth : De) (SX : ByteArray) (xt dt ot : Int) (X1 X2 D1 D2 O1 O2 : Option Addr) (xn1 xc1 xn2 xc2 dn1 dc1 dn2 dc2 on1 oc1 on2 oc2 : Nat) (g B18 B15 B8 : Nat) (A3 Ak : Option Addr) (c3 ck : Nat) (keys ks : List Nat) (wa : World)
    (z0 z1 z2 z4 z5 z6 z7 z9 z10 z11 z12 z13 z16 z17 z19 z20 z21 z22 z23 z24 z25 z26 z27 z28 z29 z30 z31 z32 z33 z34 z35 z36 z37 z38 z39 z40 z41 z42 z43 z44 z45 z46 z47 z48 z49 z50 z51 z52 z53 z54 z55 z56 z57 z58 z59 z60 z61 z62 z63 z64 z65 z66 z67 z68 z69 z70 z71 z72 z73 z74 z75 z76 z77 z78 z79 z80 z81 z82 z83 z84 z85 z86 z87 z88 z89 z90 z91 z92 z93 z94 z95 z96 z97 z98 z99 z100 z101 z102 z103 z104 z105 z106 z107 z108 z109 z110 z111 z112 z113 z114 z115 z116 z117 z118 z119 z120 z121 z122 z123 z124 z125 z126 z127 z128 z129 z130 z131 z132 z133 z134 z135 z136 z137 z138 z139 z140 z141 z142 z143 z144 z145 z146 z147 z148 z149 z150 z151 z152 z153 z154 z155 z156 z157 z158 z159 z160 z161 z162 z163 z164 z165 z166 z167 z168 z169 z170 z171 z172 z173 z174 z175 z176 z177 z178 z179 z180 z181 z182 z183 z184 z185 z186 z187 z188 z189 z190 z191 z192 z193 z194 z195 z196 z197 z198 z199 z200 z201 z202 z203 z204 z205 z206 z207 z208 z209 z210 z211 z212 z213 z214 z215 z216 z217 z218 z219 z220 z221 z222 z223 z224 z225 z226 z227 z228 z229 z230 z231 z232 z233 z234 z235 z236 z237 z238 z239 z240 z241 z242 z243 : Value)
    (b18 : DB wa B18 (.int .i64 X.node) (.int .i64 X.seq) (.int .i64 xt) (.slice X1 xn1 xc1) (.slice X2 xn2 xc2) (.int .u64 (X.tag : Int))) (b15a : DB wa B15 (.int .i64 d.node) (.int .i64 d.seq) (.int .i64 dt) (.slice D1 dn1 dc1) (.slice D2 dn2 dc2) (.int .u64 (d.tag : Int))) (b8a : DB wa B8 (.int .i64 oth.node) (.int .i64 oth.seq) (.int .i64 ot) (.slice O1 on1 oc1) (.slice O2 on2 oc2) (.int .u64 (oth.tag : Int)))
    (HHx : Hid (De7 wa g (.agg #[.int .i64 X.node, .int .i64 X.seq, .int .i64 xt, .slice X1 xn1 xc1, .slice X2 xn2 xc2, .int .u64 (X.tag : Int)]) X)) (Hda : Hid (De7 wa g (.agg #[.int .i64 d.node, .int .i64 d.seq, .int .i64 dt, .slice D1 dn1 dc1, .slice D2 dn2 dc2, .int .u64 (d.tag : Int)]) d)) (Hoa : Hid (De7 wa g (.agg #[.int .i64 oth.node, .int .i64 oth.seq, .int .i64 ot, .slice O1 on1 oc1, .slice O2 on2 oc2, .int .u64 (oth.tag : Int)]) oth))
    (Ka : SlD wa (Dm wa none) 1 (.slice Ak ks.length ck) (ks.map u64v)) (Hka : SlD wa (Dm wa none) 1 (.slice A3 keys.length c3) (keys.map u64v)) (HKS : Hid (∀ y ∈ ks, y < 18446744073709551616)) (HKS0 : Hid (∀ y ∈ keys, y < 18446744073709551616))
    (Ta : Tab wa) (Ba : Deb wa) (HSX : Hid (SX = bs (bytesS X))) (K : Act → World → Prop) (Q : Exit → Act → World → Prop) (HPQ : Hid (∀ (c : List PanicEntry) (a : Act) (d : Nat) (v : Value) (w' : World), Q (.panic c) (a.put (some d) v) w' → Q (.panic c) a w'))
    (HK : Hid (∀ (u75 u76 u77 u78 u79 u80 u81 u82 u83 u84 u85 u86 u87 u88 u89 u90 u91 u92 u93 u94 u95 u96 u97 u98 u99 u100 u101 u102 u103 u104 u105 u106 u107 u108 u109 u110 u111 u112 u113 u114 u115 u116 u117 u118 u119 u120 u121 u122 u123 u124 u125 u126 u127 u128 : Value) (w' : World), Fr none wa w' → K ⟨List.toArray (z0 :: z1 :: z2 :: Value.slice A3 keys.length c3 :: z4 :: z5 :: z6 :: z7 :: Value.pointer (some ⟨B8, 0, none⟩) :: z9 :: z10 :: z11 :: z12 :: z13 :: Value.slice Ak ks.length ck :: Value.pointer (some ⟨B15, 0, none⟩) :: z16 :: z17 :: Value.pointer (some ⟨B18, 0, none⟩) :: z19 :: z20 :: z21 :: z22 :: z23 :: z24 :: z25 :: z26 :: z27 :: z28 :: z29 :: z30 :: z31 :: z32 :: z33 :: z34 :: z35 :: z36 :: z37 :: z38 :: z39 :: z40 :: z41 :: z42 :: z43 :: z44 :: z45 :: z46 :: z47 :: z48 :: z49 :: z50 :: z51 :: z52 :: z53 :: z54 :: z55 :: z56 :: z57 :: z58 :: z59 :: z60 :: z61 :: z62 :: z63 :: z64 :: z65 :: z66 :: z67 :: z68 :: z69 :: z70 :: z71 :: z72 :: z73 :: z74 :: u75 :: u76 :: u77 :: u78 :: u79 :: u80 :: u81 :: u82 :: u83 :: u84 :: u85 :: u86 :: u87 :: u88 :: u89 :: u90 :: u91 :: u92 :: u93 :: u94 :: u95 :: u96 :: u97 :: u98 :: u99 :: u100 :: u101 :: u102 :: u103 :: u104 :: u105 :: u106 :: u107 :: u108 :: u109 :: u110 :: u111 :: u112 :: u113 :: u114 :: u115 :: u116 :: u117 :: u118 :: u119 :: u120 :: u121 :: u122 :: u123 :: u124 :: u125 :: u126 :: u127 :: u128 :: Value.bool false :: z130 :: z131 :: z132 :: z133 :: z134 :: z135 :: z136 :: z137 :: z138 :: z139 :: z140 :: z141 :: z142 :: z143 :: z144 :: z145 :: z146 :: z147 :: z148 :: z149 :: z150 :: z151 :: z152 :: z153 :: z154 :: z155 :: z156 :: z157 :: z158 :: z159 :: z160 :: z161 :: z162 :: z163 :: z164 :: z165 :: z166 :: z167 :: z168 :: z169 :: z170 :: z171 :: z172 :: z173 :: z174 :: z175 :: z176 :: z177 :: z178 :: z179 :: z180 :: z181 :: z182 :: z183 :: z184 :: z185 :: z186 :: z187 :: z188 :: z189 :: z190 :: z191 :: z192 :: z193 :: z194 :: z195 :: z196 :: z197 :: z198 :: z199 :: z200 :: z201 :: z202 :: z203 :: z204 :: z205 :: z206 :: z207 :: z208 :: z209 :: z210 :: z211 :: z212 :: z213 :: z214 :: z215 :: z216 :: z217 :: z218 :: z219 :: z220 :: z221 :: z222 :: z223 :: z224 :: z225 :: z226 :: z227 :: z228 :: z229 :: z230 :: z231 :: z232 :: z233 :: z234 :: z235 :: z236 :: z237 :: z238 :: z239 :: z240 :: z241 :: z242 :: z243 :: []), []⟩ w')) :
    Code.wp Tryz.prog law07r10 (Exit.then K Q) ⟨List.toArray (z0 :: z1 :: z2 :: Value.slice A3 keys.length c3 :: z4 :: z5 :: z6 :: z7 :: Value.pointer (some ⟨B8, 0, none⟩) :: z9 :: z10 :: z11 :: z12 :: z13 :: Value.slice Ak ks.length ck :: Value.pointer (some ⟨B15, 0, none⟩) :: z16 :: z17 :: Value.pointer (some ⟨B18, 0, none⟩) :: z19 :: z20 :: z21 :: z22 :: z23 :: z24 :: z25 :: z26 :: z27 :: z28 :: z29 :: z30 :: z31 :: z32 :: z33 :: z34 :: z35 :: z36 :: z37 :: z38 :: z39 :: z40 :: z41 :: z42 :: z43 :: z44 :: z45 :: z46 :: z47 :: z48 :: z49 :: z50 :: z51 :: z52 :: z53 :: z54 :: z55 :: z56 :: z57 :: z58 :: z59 :: z60 :: z61 :: z62 :: z63 :: z64 :: z65 :: z66 :: z67 :: z68 :: z69 :: z70 :: z71 :: z72 :: z73 :: z74 :: z75 :: z76 :: z77 :: z78 :: z79 :: z80 :: z81 :: z82 :: z83 :: z84 :: z85 :: z86 :: z87 :: z88 :: z89 :: z90 :: z91 :: z92 :: z93 :: z94 :: z95 :: z96 :: z97 :: z98 :: z99 :: z100 :: z101 :: z102 :: z103 :: z104 :: z105 :: z106 :: z107 :: z108 :: z109 :: z110 :: z111 :: z112 :: z113 :: z114 :: z115 :: z116 :: z117 :: z118 :: z119 :: z120 :: z121 :: z122 :: z123 :: z124 :: z125 :: z126 :: z127 :: z128 :: z129 :: z130 :: z131 :: z132 :: z133 :: z134 :: z135 :: z136 :: z137 :: z138 :: z139 :: z140 :: z141 :: z142 :: z143 :: z144 :: z145 :: z146 :: z147 :: z148 :: z149 :: z150 :: z151 :: z152 :: z153 :: z154 :: z155 :: z156 :: z157 :: z158 :: z159 :: z160 :: z161 :: z162 :: z163 :: z164 :: z165 :: z166 :: z167 :: z168 :: z169 :: z170 :: z171 :: z172 :: z173 :: z174 :: z175 :: z176 :: z177 :: z178 :: z179 :: z180 :: z181 :: z182 :: z183 :: z184 :: z185 :: z186 :: z187 :: z188 :: z189 :: z190 :: z191 :: z192 :: z193 :: z194 :: z195 :: z196 :: z197 :: z198 :: z199 :: z200 :: z201 :: z202 :: z203 :: z204 :: z205 :: z206 :: z207 :: z208 :: z209 :: z210 :: z211 :: z212 :: z213 :: z214 :: z215 :: z216 :: z217 :: z218 :: z219 :: z220 :: z221 :: z222 :: z223 :: z224 :: z225 :: z226 :: z227 :: z228 :: z229 :: z230 :: z231 :: z232 :: z233 :: z234 :: z235 :: z236 :: z237 :: z238 :: z239 :: z240 :: z241 :: z242 :: z243 :: []), []⟩ wa := by
  conv => arg 2; whnf
  refine wp_region_held_drew (S := fun W => (∀ z, W.cell? ⟨B18, z, none⟩ = (#[.int .i64 X.node, .int .i64 X.seq, .int .i64 xt, .slice X1 xn1 xc1, .slice X2 xn2 xc2, .int .u64 (X.tag : Int)] : Array Value)[z]?) ∧ (∀ z, W.cell? ⟨B15, z, none⟩ = (#[.int .i64 d.node, .int .i64 d.seq, .int .i64 dt, .slice D1 dn1 dc1, .slice D2 dn2 dc2, .int .u64 (d.tag : Int)] : Array Value)[z]?) ∧ (∀ z, W.cell? ⟨B8, z, none⟩ = (#[.int .i64 oth.node, .int .i64 oth.seq, .int .i64 ot, .slice O1 on1 oc1, .slice O2 on2 oc2, .int .u64 (oth.tag : Int)] : Array Value)[z]?) ∧ Fr none wa W) (by kernel_rfl) ⟨b18.cell, b15a.cell, b8a.cell, (Fr.refl _ _).drew⟩ (fun hH0 => ?_)
  change wpAnyH _ _ _ _ _ 55 #[false, false, false, false, false, false, false, false, false, false, false, false, false, false, false, false, false, false, false, false, false, false, false, false, false, false, false, false, false, false, false, false, false, false, false, false, false, false, false, false, false, false, false, false, false, false, false, false, false, false, false, false, false, false, false] _ _
  refine wpAnyH_take (i := 0) (v := ?_) rfl (by kernel_rfl) (by kernel_rfl) (by kernel_rfl) (fun c a w h => HPQ.out c a _ _ w h) (Or.inl ⟨by rfl, ?_⟩) (by assumption) ?_
  rotate_left
  · (intro W hW; (try dsimp only at hW); go_simp; try with_reducible rfl)
  try simp only [Act.put, List.setIfInBounds_toArray, List.set_cons_zero, List.set_cons_succ, List.getElem_toArray, List.getElem_cons_zero, List.getElem_cons_succ]
  refine wpAnyH_take (i := 2) (v := ?_) rfl (by kernel_rfl) (by kernel_rfl) (by kernel_rfl) (fun c a w h => HPQ.out c a _ _ w h) (Or.inl ⟨by rfl, ?_⟩) (by assumption) ?_
  rotate_left
  · (intro W hW; (try dsimp only at hW); go_simp; try with_reducible rfl)
  try simp only [Act.put, List.setIfInBounds_toArray, List.set_cons_zero, List.set_cons_succ, List.getElem_toArray, List.getElem_cons_zero, List.getElem_cons_succ]
  refine wpAnyH_ready (rs := [1]) (by kernel_rfl) (by simp) ?_
  refine AllReadyH.cons rfl (fun K hK => ?_) AllReadyH.nil
  simp only [List.getElem_toArray, List.getElem_cons_zero, List.getElem_cons_succ]
  go_simp
  go_at_call 19
  refine (plain_any X _ _ none HHx.out.big (HHx.out.none.keep (fr_dm hH0.2.2.2))).mono ?_
  rintro e wN ⟨rfl, FN⟩
  have FN := hH0.2.2.2.pure FN
  refine hK.out _ _ ⟨(b18.fr FN (by simp)).cell, (b15a.fr FN (by simp)).cell, (b8a.fr FN (by simp)).cell, FN⟩ (fun hH1 => ?_)
  clear hK K hH0 FN
  have hH0 := hH1
  clear hH1
  try simp only [Act.put, List.setIfInBounds_toArray, List.set_cons_zero, List.set_cons_succ, List.getElem_toArray, List.getElem_cons_zero, List.getElem_cons_succ]
  refine wpAnyH_ready (rs := [3]) (by kernel_rfl) (by simp) ?_
  refine AllReadyH.cons rfl (fun K hK => ?_) AllReadyH.nil
  simp only [List.getElem_toArray, List.getElem_cons_zero, List.getElem_cons_succ]
  go_simp
  go_at_call 20
  refine (rplain_any X _ _ none HHx.out.big (HHx.out.none.keep (fr_dm hH0.2.2.2))).mono ?_
  rintro e wN ⟨rfl, FN⟩
  have FN := hH0.2.2.2.pure FN
  refine hK.out _ _ ⟨(b18.fr FN (by simp)).cell, (b15a.fr FN (by simp)).cell, (b8a.fr FN (by simp)).cell, FN⟩ (fun hH1 => ?_)
  clear hK K hH0 FN
  have hH0 := hH1
  clear hH1
  try simp only [Act.put, List.setIfInBounds_toArray, List.set_cons_zero, List.set_cons_succ, List.getElem_toArray, List.getElem_cons_zero, List.getElem_cons_succ]
  refine wpAnyH_take (i := 4) (v := ?_) rfl (by kernel_rfl) (by kernel_rfl) (by kernel_rfl) (fun c a w h => HPQ.out c a _ _ w h) (Or.inl ⟨by rfl, ?_⟩) (by assumption) ?_
  rotate_left
  · (intro W hW; (try dsimp only at hW); go_simp; try with_reducible rfl)
  try simp only [Act.put, List.setIfInBounds_toArray, List.set_cons_zero, List.set_cons_succ, List.getElem_toArray, List.getElem_cons_zero, List.getElem_cons_succ]
  refine wpAnyH_take (i := 5) (v := ?_) rfl (by kernel_rfl) (by kernel_rfl) (by kernel_rfl) (fun c a w h => HPQ.out c a _ _ w h) (Or.inl ⟨by rfl, ?_⟩) (by assumption) ?_
  rotate_left
  · (intro W hW; (try dsimp only at hW); go_simp; try with_reducible rfl)
  try simp only [Act.put, List.setIfInBounds_toArray, List.set_cons_zero, List.set_cons_succ, List.getElem_toArray, List.getElem_cons_zero, List.getElem_cons_succ]
  refine wpAnyH_take (i := 6) (v := ?_) rfl (by kernel_rfl) (by kernel_rfl) (by kernel_rfl) (fun c a w h => HPQ.out c a _ _ w h) (Or.inl ⟨by rfl, ?_⟩) (by assumption) ?_
  rotate_left
  · (intro W hW; (try dsimp only at hW); go_simp; try with_reducible rfl)
  try simp only [Act.put, List.setIfInBounds_toArray, List.set_cons_zero, List.set_cons_succ, List.getElem_toArray, List.getElem_cons_zero, List.getElem_cons_succ]
  refine wpAnyH_take (i := 8) (v := ?_) rfl (by kernel_rfl) (by kernel_rfl) (by kernel_rfl) (fun c a w h => HPQ.out c a _ _ w h) (Or.inl ⟨by rfl, ?_⟩) (by assumption) ?_
  rotate_left
  · (intro W hW; (try dsimp only at hW); go_simp; try with_reducible rfl)
  try simp only [Act.put, List.setIfInBounds_toArray, List.set_cons_zero, List.set_cons_succ, List.getElem_toArray, List.getElem_cons_zero, List.getElem_cons_succ]
  refine wpAnyH_ready (rs := [7]) (by kernel_rfl) (by simp) ?_
  refine AllReadyH.cons rfl (fun K hK => ?_) AllReadyH.nil
  simp only [List.getElem_toArray, List.getElem_cons_zero, List.getElem_cons_succ]
  go_simp
  go_at_call 21
  refine (bytes_fixP X SX HSX _ _ none HHx.out.big (HHx.out.none.keep (fr_dm hH0.2.2.2)) (Ta.fr hH0.2.2.2)).mono ?_
  rintro e wN ⟨rfl, FN⟩
  have FN := hH0.2.2.2.pure FN
  refine hK.out _ _ ⟨(b18.fr FN (by simp)).cell, (b15a.fr FN (by simp)).cell, (b8a.fr FN (by simp)).cell, FN⟩ (fun hH1 => ?_)
  clear hK K hH0 FN
  have hH0 := hH1
  clear hH1
  try simp only [Act.put, List.setIfInBounds_toArray, List.set_cons_zero, List.set_cons_succ, List.getElem_toArray, List.getElem_cons_zero, List.getElem_cons_succ]
  refine wpAnyH_ready (rs := [9]) (by kernel_rfl) (by simp) ?_
  refine AllReadyH.cons rfl (fun K hK => ?_) AllReadyH.nil
  simp only [List.getElem_toArray, List.getElem_cons_zero, List.getElem_cons_succ]
  go_simp
  go_at_call 22
  refine (rbytes_fixP X SX HSX _ _ none HHx.out.big (HHx.out.none.keep (fr_dm hH0.2.2.2)) (Ta.fr hH0.2.2.2)).mono ?_
  rintro e wN ⟨rfl, FN⟩
  have FN := hH0.2.2.2.pure FN
  refine hK.out _ _ ⟨(b18.fr FN (by simp)).cell, (b15a.fr FN (by simp)).cell, (b8a.fr FN (by simp)).cell, FN⟩ (fun hH1 => ?_)
  clear hK K hH0 FN
  have hH0 := hH1
  clear hH1
  try simp only [Act.put, List.setIfInBounds_toArray, List.set_cons_zero, List.set_cons_succ, List.getElem_toArray, List.getElem_cons_zero, List.getElem_cons_succ]
  refine wpAnyH_take (i := 10) (v := ?_) rfl (by kernel_rfl) (by kernel_rfl) (by kernel_rfl) (fun c a w h => HPQ.out c a _ _ w h) (Or.inl ⟨by rfl, ?_⟩) (by assumption) ?_
  rotate_left
  · (intro W hW; (try dsimp only at hW); go_simp; try with_reducible rfl)
  try simp only [Act.put, List.setIfInBounds_toArray, List.set_cons_zero, List.set_cons_succ, List.getElem_toArray, List.getElem_cons_zero, List.getElem_cons_succ]
  refine wpAnyH_take (i := 11) (v := ?_) rfl (by kernel_rfl) (by kernel_rfl) (by kernel_rfl) (fun c a w h => HPQ.out c a _ _ w h) (Or.inl ⟨by rfl, ?_⟩) (by assumption) ?_
  rotate_left
  · (intro W hW; (try dsimp only at hW); go_simp; try with_reducible rfl)
  try simp only [Act.put, List.setIfInBounds_toArray, List.set_cons_zero, List.set_cons_succ, List.getElem_toArray, List.getElem_cons_zero, List.getElem_cons_succ]
  refine wpAnyH_take (i := 12) (v := ?_) rfl (by kernel_rfl) (by kernel_rfl) (by kernel_rfl) (fun c a w h => HPQ.out c a _ _ w h) (Or.inl ⟨by rfl, ?_⟩) (by assumption) ?_
  rotate_left
  · (intro W hW; (try dsimp only at hW); go_simp; try with_reducible rfl)
  try simp only [Act.put, List.setIfInBounds_toArray, List.set_cons_zero, List.set_cons_succ, List.getElem_toArray, List.getElem_cons_zero, List.getElem_cons_succ]
  refine wpAnyH_take (i := 13) (v := ?_) rfl (by kernel_rfl) (by kernel_rfl) (by kernel_rfl) (fun c a w h => HPQ.out c a _ _ w h) (Or.inl ⟨by rfl, ?_⟩) (by assumption) ?_
  rotate_left
  · (intro W hW; (try dsimp only at hW); go_simp; try with_reducible rfl)
  try simp only [Act.put, List.setIfInBounds_toArray, List.set_cons_zero, List.set_cons_succ, List.getElem_toArray, List.getElem_cons_zero, List.getElem_cons_succ]
  refine wpAnyH_take (i := 15) (v := ?_) rfl (by kernel_rfl) (by kernel_rfl) (by kernel_rfl) (fun c a w h => HPQ.out c a _ _ w h) (Or.inl ⟨by rfl, ?_⟩) (by assumption) ?_
  rotate_left
  · (intro W hW; (try dsimp only at hW); go_simp; try with_reducible rfl)
  try simp only [Act.put, List.setIfInBounds_toArray, List.set_cons_zero, List.set_cons_succ, List.getElem_toArray, List.getElem_cons_zero, List.getElem_cons_succ]
  refine wpAnyH_ready (rs := [14]) (by kernel_rfl) (by simp) ?_
  refine AllReadyH.cons rfl (fun K hK => ?_) AllReadyH.nil
  simp only [List.getElem_toArray, List.getElem_cons_zero, List.getElem_cons_succ]
  go_simp
  go_at_call 23
  refine (dtextG_any X _ _ none (HHx.out.none.keep (fr_dm hH0.2.2.2)) HHx.out.big (Ta.fr hH0.2.2.2) (Ba.fr hH0.2.2.2)).mono ?_
  rintro e wN ⟨rfl, FN⟩
  have FN := hH0.2.2.2.pure FN
  refine hK.out _ _ ⟨(b18.fr FN (by simp)).cell, (b15a.fr FN (by simp)).cell, (b8a.fr FN (by simp)).cell, FN⟩ (fun hH1 => ?_)
  clear hK K hH0 FN
  have hH0 := hH1
  clear hH1
  try simp only [Act.put, List.setIfInBounds_toArray, List.set_cons_zero, List.set_cons_succ, List.getElem_toArray, List.getElem_cons_zero, List.getElem_cons_succ]
  refine wpAnyH_ready (rs := [16]) (by kernel_rfl) (by simp) ?_
  refine AllReadyH.cons rfl (fun K hK => ?_) AllReadyH.nil
  simp only [List.getElem_toArray, List.getElem_cons_zero, List.getElem_cons_succ]
  go_simp
  go_at_call 24
  refine (rdtextG_any X _ _ none (HHx.out.none.keep (fr_dm hH0.2.2.2)) HHx.out.big (Ta.fr hH0.2.2.2)).mono ?_
  rintro e wN ⟨rfl, FN⟩
  have FN := hH0.2.2.2.pure FN
  refine hK.out _ _ ⟨(b18.fr FN (by simp)).cell, (b15a.fr FN (by simp)).cell, (b8a.fr FN (by simp)).cell, FN⟩ (fun hH1 => ?_)
  clear hK K hH0 FN
  have hH0 := hH1
  clear hH1
  try simp only [Act.put, List.setIfInBounds_toArray, List.set_cons_zero, List.set_cons_succ, List.getElem_toArray, List.getElem_cons_zero, List.getElem_cons_succ]
  refine wpAnyH_take (i := 17) (v := ?_) rfl (by kernel_rfl) (by kernel_rfl) (by kernel_rfl) (fun c a w h => HPQ.out c a _ _ w h) (Or.inl ⟨by rfl, ?_⟩) (by assumption) ?_
  rotate_left
  · (intro W hW; (try dsimp only at hW); go_simp; try with_reducible rfl)
  try simp only [Act.put, List.setIfInBounds_toArray, List.set_cons_zero, List.set_cons_succ, List.getElem_toArray, List.getElem_cons_zero, List.getElem_cons_succ]
  refine wpAnyH_take (i := 18) (v := ?_) rfl (by kernel_rfl) (by kernel_rfl) (by kernel_rfl) (fun c a w h => HPQ.out c a _ _ w h) (Or.inl ⟨by rfl, ?_⟩) (by assumption) ?_
  rotate_left
  · (intro W hW; (try dsimp only at hW); go_simp; try with_reducible rfl)
  try simp only [Act.put, List.setIfInBounds_toArray, List.set_cons_zero, List.set_cons_succ, List.getElem_toArray, List.getElem_cons_zero, List.getElem_cons_succ]
  refine wpAnyH_take (i := 19) (v := ?_) rfl (by kernel_rfl) (by kernel_rfl) (by kernel_rfl) (fun c a w h => HPQ.out c a _ _ w h) (Or.inl ⟨by rfl, ?_⟩) (by assumption) ?_
  rotate_left
  · (intro W hW; (try dsimp only at hW); go_simp; try with_reducible rfl)
  try simp only [Act.put, List.setIfInBounds_toArray, List.set_cons_zero, List.set_cons_succ, List.getElem_toArray, List.getElem_cons_zero, List.getElem_cons_succ]
  refine wpAnyH_take (i := 20) (v := ?_) rfl (by kernel_rfl) (by kernel_rfl) (by kernel_rfl) (fun c a w h => HPQ.out c a _ _ w h) (Or.inl ⟨by rfl, ?_⟩) (by assumption) ?_
  rotate_left
  · (intro W hW; (try dsimp only at hW); go_simp; try with_reducible rfl)
  try simp only [Act.put, List.setIfInBounds_toArray, List.set_cons_zero, List.set_cons_succ, List.getElem_toArray, List.getElem_cons_zero, List.getElem_cons_succ]
  refine wpAnyH_take (i := 21) (v := ?_) rfl (by kernel_rfl) (by kernel_rfl) (by kernel_rfl) (fun c a w h => HPQ.out c a _ _ w h) (Or.inl ⟨by rfl, ?_⟩) (by assumption) ?_
  rotate_left
  · (intro W hW; (try dsimp only at hW); go_simp; try with_reducible rfl)
  try simp only [Act.put, List.setIfInBounds_toArray, List.set_cons_zero, List.set_cons_succ, List.getElem_toArray, List.getElem_cons_zero, List.getElem_cons_succ]
  refine wpAnyH_take (i := 23) (v := ?_) rfl (by kernel_rfl) (by kernel_rfl) (by kernel_rfl) (fun c a w h => HPQ.out c a _ _ w h) (Or.inl ⟨by rfl, ?_⟩) (by assumption) ?_
  rotate_left
  · (intro W hW; (try dsimp only at hW); go_simp; try with_reducible rfl)
  try simp only [Act.put, List.setIfInBounds_toArray, List.set_cons_zero, List.set_cons_succ, List.getElem_toArray, List.getElem_cons_zero, List.getElem_cons_succ]
  refine wpAnyH_take (i := 24) (v := ?_) rfl (by kernel_rfl) (by kernel_rfl) (by kernel_rfl) (fun c a w h => HPQ.out c a _ _ w h) (Or.inl ⟨by rfl, ?_⟩) (by assumption) ?_
  rotate_left
  · (intro W hW; (try dsimp only at hW); go_simp; try with_reducible rfl)
  try simp only [Act.put, List.setIfInBounds_toArray, List.set_cons_zero, List.set_cons_succ, List.getElem_toArray, List.getElem_cons_zero, List.getElem_cons_succ]
  refine wpAnyH_ready (rs := [22]) (by kernel_rfl) (by simp) ?_
  refine AllReadyH.cons rfl (fun K hK => ?_) AllReadyH.nil
  simp only [List.getElem_toArray, List.getElem_cons_zero, List.getElem_cons_succ]
  go_simp
  go_at_call 25
  refine (compareD_any X oth _ _ _ (HHx.out.none.keep (fr_dm hH0.2.2.2)) (Hoa.out.none.keep (fr_dm hH0.2.2.2)) HHx.out.big Hoa.out.big (Ta.fr hH0.2.2.2)).mono ?_
  rintro e wN ⟨rfl, FN⟩
  have FN := hH0.2.2.2.pure FN
  refine hK.out _ _ ⟨(b18.fr FN (by simp)).cell, (b15a.fr FN (by simp)).cell, (b8a.fr FN (by simp)).cell, FN⟩ (fun hH1 => ?_)
  clear hK K hH0 FN
  have hH0 := hH1
  clear hH1
  try simp only [Act.put, List.setIfInBounds_toArray, List.set_cons_zero, List.set_cons_succ, List.getElem_toArray, List.getElem_cons_zero, List.getElem_cons_succ]
  refine wpAnyH_ready (rs := [25]) (by kernel_rfl) (by simp) ?_
  refine AllReadyH.cons rfl (fun K hK => ?_) AllReadyH.nil
  simp only [List.getElem_toArray, List.getElem_cons_zero, List.getElem_cons_succ]
  go_simp
  go_at_call 26
  refine (rcompareD_any X oth _ _ _ (HHx.out.none.keep (fr_dm hH0.2.2.2)) (Hoa.out.none.keep (fr_dm hH0.2.2.2)) HHx.out.big Hoa.out.big (Ta.fr hH0.2.2.2)).mono ?_
  rintro e wN ⟨rfl, FN⟩
  have FN := hH0.2.2.2.pure FN
  refine hK.out _ _ ⟨(b18.fr FN (by simp)).cell, (b15a.fr FN (by simp)).cell, (b8a.fr FN (by simp)).cell, FN⟩ (fun hH1 => ?_)
  clear hK K hH0 FN
  have hH0 := hH1
  clear hH1
  try simp only [Act.put, List.setIfInBounds_toArray, List.set_cons_zero, List.set_cons_succ, List.getElem_toArray, List.getElem_cons_zero, List.getElem_cons_succ]
  refine wpAnyH_take (i := 26) (v := ?_) rfl (by kernel_rfl) (by kernel_rfl) (by kernel_rfl) (fun c a w h => HPQ.out c a _ _ w h) (Or.inl ⟨by rfl, ?_⟩) (by assumption) ?_
  rotate_left
  · (intro W hW; (try dsimp only at hW); go_simp; try with_reducible rfl)
  try simp only [Act.put, List.setIfInBounds_toArray, List.set_cons_zero, List.set_cons_succ, List.getElem_toArray, List.getElem_cons_zero, List.getElem_cons_succ]
  refine wpAnyH_take (i := 27) (v := ?_) rfl (by kernel_rfl) (by kernel_rfl) (by kernel_rfl) (fun c a w h => HPQ.out c a _ _ w h) (Or.inl ⟨by rfl, ?_⟩) (by assumption) ?_
  rotate_left
  · (intro W hW; (try dsimp only at hW); go_simp; try with_reducible rfl)
  try simp only [Act.put, List.setIfInBounds_toArray, List.set_cons_zero, List.set_cons_succ, List.getElem_toArray, List.getElem_cons_zero, List.getElem_cons_succ]
  refine wpAnyH_take (i := 28) (v := ?_) rfl (by kernel_rfl) (by kernel_rfl) (by kernel_rfl) (fun c a w h => HPQ.out c a _ _ w h) (Or.inl ⟨by rfl, ?_⟩) (by assumption) ?_
  rotate_left
  · (intro W hW; (try dsimp only at hW); go_simp; try with_reducible rfl)
  try simp only [Act.put, List.setIfInBounds_toArray, List.set_cons_zero, List.set_cons_succ, List.getElem_toArray, List.getElem_cons_zero, List.getElem_cons_succ]
  refine wpAnyH_take (i := 29) (v := ?_) rfl (by kernel_rfl) (by kernel_rfl) (by kernel_rfl) (fun c a w h => HPQ.out c a _ _ w h) (Or.inl ⟨by rfl, ?_⟩) (by assumption) ?_
  rotate_left
  · (intro W hW; (try dsimp only at hW); go_simp; try with_reducible rfl)
  try simp only [Act.put, List.setIfInBounds_toArray, List.set_cons_zero, List.set_cons_succ, List.getElem_toArray, List.getElem_cons_zero, List.getElem_cons_succ]
  refine wpAnyH_take (i := 30) (v := ?_) rfl (by kernel_rfl) (by kernel_rfl) (by kernel_rfl) (fun c a w h => HPQ.out c a _ _ w h) (Or.inl ⟨by rfl, ?_⟩) (by assumption) ?_
  rotate_left
  · (intro W hW; (try dsimp only at hW); go_simp; try with_reducible rfl)
  try simp only [Act.put, List.setIfInBounds_toArray, List.set_cons_zero, List.set_cons_succ, List.getElem_toArray, List.getElem_cons_zero, List.getElem_cons_succ]
  refine wpAnyH_take (i := 32) (v := ?_) rfl (by kernel_rfl) (by kernel_rfl) (by kernel_rfl) (fun c a w h => HPQ.out c a _ _ w h) (Or.inl ⟨by rfl, ?_⟩) (by assumption) ?_
  rotate_left
  · (intro W hW; (try dsimp only at hW); go_simp; try with_reducible rfl)
  try simp only [Act.put, List.setIfInBounds_toArray, List.set_cons_zero, List.set_cons_succ, List.getElem_toArray, List.getElem_cons_zero, List.getElem_cons_succ]
  refine wpAnyH_take (i := 33) (v := ?_) rfl (by kernel_rfl) (by kernel_rfl) (by kernel_rfl) (fun c a w h => HPQ.out c a _ _ w h) (Or.inl ⟨by rfl, ?_⟩) (by assumption) ?_
  rotate_left
  · (intro W hW; (try dsimp only at hW); go_simp; try with_reducible rfl)
  try simp only [Act.put, List.setIfInBounds_toArray, List.set_cons_zero, List.set_cons_succ, List.getElem_toArray, List.getElem_cons_zero, List.getElem_cons_succ]
  refine wpAnyH_ready (rs := [31]) (by kernel_rfl) (by simp) ?_
  refine AllReadyH.cons rfl (fun K hK => ?_) AllReadyH.nil
  simp only [List.getElem_toArray, List.getElem_cons_zero, List.getElem_cons_succ]
  go_simp
  go_at_call 25
  refine (compareD_any d X _ _ _ (Hda.out.none.keep (fr_dm hH0.2.2.2)) (HHx.out.none.keep (fr_dm hH0.2.2.2)) Hda.out.big HHx.out.big (Ta.fr hH0.2.2.2)).mono ?_
  rintro e wN ⟨rfl, FN⟩
  have FN := hH0.2.2.2.pure FN
  refine hK.out _ _ ⟨(b18.fr FN (by simp)).cell, (b15a.fr FN (by simp)).cell, (b8a.fr FN (by simp)).cell, FN⟩ (fun hH1 => ?_)
  clear hK K hH0 FN
  have hH0 := hH1
  clear hH1
  try simp only [Act.put, List.setIfInBounds_toArray, List.set_cons_zero, List.set_cons_succ, List.getElem_toArray, List.getElem_cons_zero, List.getElem_cons_succ]
  refine wpAnyH_ready (rs := [34]) (by kernel_rfl) (by simp) ?_
  refine AllReadyH.cons rfl (fun K hK => ?_) AllReadyH.nil
  simp only [List.getElem_toArray, List.getElem_cons_zero, List.getElem_cons_succ]
  go_simp
  go_at_call 26
  refine (rcompareD_any d X _ _ _ (Hda.out.none.keep (fr_dm hH0.2.2.2)) (HHx.out.none.keep (fr_dm hH0.2.2.2)) Hda.out.big HHx.out.big (Ta.fr hH0.2.2.2)).mono ?_
  rintro e wN ⟨rfl, FN⟩
  have FN := hH0.2.2.2.pure FN
  refine hK.out _ _ ⟨(b18.fr FN (by simp)).cell, (b15a.fr FN (by simp)).cell, (b8a.fr FN (by simp)).cell, FN⟩ (fun hH1 => ?_)
  clear hK K hH0 FN
  have hH0 := hH1
  clear hH1
  try simp only [Act.put, List.setIfInBounds_toArray, List.set_cons_zero, List.set_cons_succ, List.getElem_toArray, List.getElem_cons_zero, List.getElem_cons_succ]
  refine wpAnyH_take (i := 35) (v := ?_) rfl (by kernel_rfl) (by kernel_rfl) (by kernel_rfl) (fun c a w h => HPQ.out c a _ _ w h) (Or.inl ⟨by rfl, ?_⟩) (by assumption) ?_
  rotate_left
  · (intro W hW; (try dsimp only at hW); go_simp; try with_reducible rfl)
  try simp only [Act.put, List.setIfInBounds_toArray, List.set_cons_zero, List.set_cons_succ, List.getElem_toArray, List.getElem_cons_zero, List.getElem_cons_succ]
  refine wpAnyH_take (i := 36) (v := ?_) rfl (by kernel_rfl) (by kernel_rfl) (by kernel_rfl) (fun c a w h => HPQ.out c a _ _ w h) (Or.inl ⟨by rfl, ?_⟩) (by assumption) ?_
  rotate_left
  · (intro W hW; (try dsimp only at hW); go_simp; try with_reducible rfl)
  try simp only [Act.put, List.setIfInBounds_toArray, List.set_cons_zero, List.set_cons_succ, List.getElem_toArray, List.getElem_cons_zero, List.getElem_cons_succ]
  refine wpAnyH_take (i := 37) (v := ?_) rfl (by kernel_rfl) (by kernel_rfl) (by kernel_rfl) (fun c a w h => HPQ.out c a _ _ w h) (Or.inl ⟨by rfl, ?_⟩) (by assumption) ?_
  rotate_left
  · (intro W hW; (try dsimp only at hW); go_simp; try with_reducible rfl)
  try simp only [Act.put, List.setIfInBounds_toArray, List.set_cons_zero, List.set_cons_succ, List.getElem_toArray, List.getElem_cons_zero, List.getElem_cons_succ]
  refine wpAnyH_take (i := 38) (v := ?_) rfl (by kernel_rfl) (by kernel_rfl) (by kernel_rfl) (fun c a w h => HPQ.out c a _ _ w h) (Or.inl ⟨by rfl, ?_⟩) (by assumption) ?_
  rotate_left
  · (intro W hW; (try dsimp only at hW); go_simp; try with_reducible rfl)
  try simp only [Act.put, List.setIfInBounds_toArray, List.set_cons_zero, List.set_cons_succ, List.getElem_toArray, List.getElem_cons_zero, List.getElem_cons_succ]
  refine wpAnyH_take (i := 39) (v := ?_) rfl (by kernel_rfl) (by kernel_rfl) (by kernel_rfl) (fun c a w h => HPQ.out c a _ _ w h) (Or.inl ⟨by rfl, ?_⟩) (by assumption) ?_
  rotate_left
  · (intro W hW; (try dsimp only at hW); go_simp; try with_reducible rfl)
  try simp only [Act.put, List.setIfInBounds_toArray, List.set_cons_zero, List.set_cons_succ, List.getElem_toArray, List.getElem_cons_zero, List.getElem_cons_succ]
  refine wpAnyH_take (i := 41) (v := ?_) rfl (by kernel_rfl) (by kernel_rfl) (by kernel_rfl) (fun c a w h => HPQ.out c a _ _ w h) (Or.inl ⟨by rfl, ?_⟩) (by assumption) ?_
  rotate_left
  · (intro W hW; (try dsimp only at hW); go_simp; try with_reducible rfl)
  try simp only [Act.put, List.setIfInBounds_toArray, List.set_cons_zero, List.set_cons_succ, List.getElem_toArray, List.getElem_cons_zero, List.getElem_cons_succ]
  refine wpAnyH_take (i := 42) (v := ?_) rfl (by kernel_rfl) (by kernel_rfl) (by kernel_rfl) (fun c a w h => HPQ.out c a _ _ w h) (Or.inl ⟨by rfl, ?_⟩) (by assumption) ?_
  rotate_left
  · (intro W hW; (try dsimp only at hW); go_simp; try with_reducible rfl)
  try simp only [Act.put, List.setIfInBounds_toArray, List.set_cons_zero, List.set_cons_succ, List.getElem_toArray, List.getElem_cons_zero, List.getElem_cons_succ]
  refine wpAnyH_ready (rs := [40]) (by kernel_rfl) (by simp) ?_
  refine AllReadyH.cons rfl (fun K hK => ?_) AllReadyH.nil
  simp only [List.getElem_toArray, List.getElem_cons_zero, List.getElem_cons_succ]
  go_simp
  go_at_call 27
  refine (checkG_any ks _ X _ _ none HKS.out (Ka.keep (fr_dm hH0.2.2.2)) (HHx.out.none.keep (fr_dm hH0.2.2.2)) HHx.out.big (Ta.fr hH0.2.2.2)).mono ?_
  rintro e wN ⟨rfl, FN⟩
  have FN := hH0.2.2.2.pure FN
  refine hK.out _ _ ⟨(b18.fr FN (by simp)).cell, (b15a.fr FN (by simp)).cell, (b8a.fr FN (by simp)).cell, FN⟩ (fun hH1 => ?_)
  clear hK K hH0 FN
  have hH0 := hH1
  clear hH1
  try simp only [Act.put, List.setIfInBounds_toArray, List.set_cons_zero, List.set_cons_succ, List.getElem_toArray, List.getElem_cons_zero, List.getElem_cons_succ]
  refine wpAnyH_ready (rs := [43]) (by kernel_rfl) (by simp) ?_
  refine AllReadyH.cons rfl (fun K hK => ?_) AllReadyH.nil
  simp only [List.getElem_toArray, List.getElem_cons_zero, List.getElem_cons_succ]
  go_simp
  go_at_call 28
  refine (rcheckG_any ks _ X _ _ none HKS.out (Ka.keep (fr_dm hH0.2.2.2)) (HHx.out.none.keep (fr_dm hH0.2.2.2)) HHx.out.big (Ta.fr hH0.2.2.2)).mono ?_
  rintro e wN ⟨rfl, FN⟩
  have FN := hH0.2.2.2.pure FN
  refine hK.out _ _ ⟨(b18.fr FN (by simp)).cell, (b15a.fr FN (by simp)).cell, (b8a.fr FN (by simp)).cell, FN⟩ (fun hH1 => ?_)
  clear hK K hH0 FN
  have hH0 := hH1
  clear hH1
  try simp only [Act.put, List.setIfInBounds_toArray, List.set_cons_zero, List.set_cons_succ, List.getElem_toArray, List.getElem_cons_zero, List.getElem_cons_succ]
  refine wpAnyH_take (i := 44) (v := ?_) rfl (by kernel_rfl) (by kernel_rfl) (by kernel_rfl) (fun c a w h => HPQ.out c a _ _ w h) (Or.inl ⟨by rfl, ?_⟩) (by assumption) ?_
  rotate_left
  · (intro W hW; (try dsimp only at hW); go_simp; try with_reducible rfl)
  try simp only [Act.put, List.setIfInBounds_toArray, List.set_cons_zero, List.set_cons_succ, List.getElem_toArray, List.getElem_cons_zero, List.getElem_cons_succ]
  refine wpAnyH_take (i := 45) (v := ?_) rfl (by kernel_rfl) (by kernel_rfl) (by kernel_rfl) (fun c a w h => HPQ.out c a _ _ w h) (Or.inl ⟨by rfl, ?_⟩) (by assumption) ?_
  rotate_left
  · (intro W hW; (try dsimp only at hW); go_simp; try with_reducible rfl)
  try simp only [Act.put, List.setIfInBounds_toArray, List.set_cons_zero, List.set_cons_succ, List.getElem_toArray, List.getElem_cons_zero, List.getElem_cons_succ]
  refine wpAnyH_take (i := 46) (v := ?_) rfl (by kernel_rfl) (by kernel_rfl) (by kernel_rfl) (fun c a w h => HPQ.out c a _ _ w h) (Or.inl ⟨by rfl, ?_⟩) (by assumption) ?_
  rotate_left
  · (intro W hW; (try dsimp only at hW); go_simp; try with_reducible rfl)
  try simp only [Act.put, List.setIfInBounds_toArray, List.set_cons_zero, List.set_cons_succ, List.getElem_toArray, List.getElem_cons_zero, List.getElem_cons_succ]
  refine wpAnyH_take (i := 47) (v := ?_) rfl (by kernel_rfl) (by kernel_rfl) (by kernel_rfl) (fun c a w h => HPQ.out c a _ _ w h) (Or.inl ⟨by rfl, ?_⟩) (by assumption) ?_
  rotate_left
  · (intro W hW; (try dsimp only at hW); go_simp; try with_reducible rfl)
  try simp only [Act.put, List.setIfInBounds_toArray, List.set_cons_zero, List.set_cons_succ, List.getElem_toArray, List.getElem_cons_zero, List.getElem_cons_succ]
  refine wpAnyH_take (i := 48) (v := ?_) rfl (by kernel_rfl) (by kernel_rfl) (by kernel_rfl) (fun c a w h => HPQ.out c a _ _ w h) (Or.inl ⟨by rfl, ?_⟩) (by assumption) ?_
  rotate_left
  · (intro W hW; (try dsimp only at hW); go_simp; try with_reducible rfl)
  try simp only [Act.put, List.setIfInBounds_toArray, List.set_cons_zero, List.set_cons_succ, List.getElem_toArray, List.getElem_cons_zero, List.getElem_cons_succ]
  refine wpAnyH_take (i := 50) (v := ?_) rfl (by kernel_rfl) (by kernel_rfl) (by kernel_rfl) (fun c a w h => HPQ.out c a _ _ w h) (Or.inl ⟨by rfl, ?_⟩) (by assumption) ?_
  rotate_left
  · (intro W hW; (try dsimp only at hW); go_simp; try with_reducible rfl)
  try simp only [Act.put, List.setIfInBounds_toArray, List.set_cons_zero, List.set_cons_succ, List.getElem_toArray, List.getElem_cons_zero, List.getElem_cons_succ]
  refine wpAnyH_take (i := 51) (v := ?_) rfl (by kernel_rfl) (by kernel_rfl) (by kernel_rfl) (fun c a w h => HPQ.out c a _ _ w h) (Or.inl ⟨by rfl, ?_⟩) (by assumption) ?_
  rotate_left
  · (intro W hW; (try dsimp only at hW); go_simp; try with_reducible rfl)
  try simp only [Act.put, List.setIfInBounds_toArray, List.set_cons_zero, List.set_cons_succ, List.getElem_toArray, List.getElem_cons_zero, List.getElem_cons_succ]
  refine wpAnyH_ready (rs := [49]) (by kernel_rfl) (by simp) ?_
  refine AllReadyH.cons rfl (fun K hK => ?_) AllReadyH.nil
  simp only [List.getElem_toArray, List.getElem_cons_zero, List.getElem_cons_succ]
  go_simp
  go_at_call 27
  refine (checkG_any keys _ X _ _ none HKS0.out (Hka.keep (fr_dm hH0.2.2.2)) (HHx.out.none.keep (fr_dm hH0.2.2.2)) HHx.out.big (Ta.fr hH0.2.2.2)).mono ?_
  rintro e wN ⟨rfl, FN⟩
  have FN := hH0.2.2.2.pure FN
  refine hK.out _ _ ⟨(b18.fr FN (by simp)).cell, (b15a.fr FN (by simp)).cell, (b8a.fr FN (by simp)).cell, FN⟩ (fun hH1 => ?_)
  clear hK K hH0 FN
  have hH0 := hH1
  clear hH1
  try simp only [Act.put, List.setIfInBounds_toArray, List.set_cons_zero, List.set_cons_succ, List.getElem_toArray, List.getElem_cons_zero, List.getElem_cons_succ]
  refine wpAnyH_ready (rs := [52]) (by kernel_rfl) (by simp) ?_
  refine AllReadyH.cons rfl (fun K hK => ?_) AllReadyH.nil
  simp only [List.getElem_toArray, List.getElem_cons_zero, List.getElem_cons_succ]
  go_simp
  go_at_call 28
  refine (rcheckG_any keys _ X _ _ none HKS0.out (Hka.keep (fr_dm hH0.2.2.2)) (HHx.out.none.keep (fr_dm hH0.2.2.2)) HHx.out.big (Ta.fr hH0.2.2.2)).mono ?_
  rintro e wN ⟨rfl, FN⟩
  have FN := hH0.2.2.2.pure FN
  refine hK.out _ _ ⟨(b18.fr FN (by simp)).cell, (b15a.fr FN (by simp)).cell, (b8a.fr FN (by simp)).cell, FN⟩ (fun hH1 => ?_)
  clear hK K hH0 FN
  have hH0 := hH1
  clear hH1
  try simp only [Act.put, List.setIfInBounds_toArray, List.set_cons_zero, List.set_cons_succ, List.getElem_toArray, List.getElem_cons_zero, List.getElem_cons_succ]
  refine wpAnyH_take (i := 53) (v := ?_) rfl (by kernel_rfl) (by kernel_rfl) (by kernel_rfl) (fun c a w h => HPQ.out c a _ _ w h) (Or.inl ⟨by rfl, ?_⟩) (by assumption) ?_
  rotate_left
  · (intro W hW; (try dsimp only at hW); go_simp; try with_reducible rfl)
  try simp only [Act.put, List.setIfInBounds_toArray, List.set_cons_zero, List.set_cons_succ, List.getElem_toArray, List.getElem_cons_zero, List.getElem_cons_succ]
  refine wpAnyH_take (i := 54) (v := ?_) rfl (by kernel_rfl) (by kernel_rfl) (by kernel_rfl) (fun c a w h => HPQ.out c a _ _ w h) (Or.inl ⟨by rfl, ?_⟩) (by assumption) ?_
  rotate_left
  · (intro W hW; (try dsimp only at hW); go_simp; try with_reducible rfl)
  try simp only [Act.put, List.setIfInBounds_toArray, List.set_cons_zero, List.set_cons_succ, List.getElem_toArray, List.getElem_cons_zero, List.getElem_cons_succ]
  refine wpAnyH_done (by kernel_rfl) ?_ _
  go_wp2_with fail
  exact HK.out _ _ _ _ _ _ _ _ _ _ _ _ _ _ _ _ _ _ _ _ _ _ _ _ _ _ _ _ _ _ _ _ _ _ _ _ _ _ _ _ _ _ _ _ _ _ _ _ _ _ _ _ _ _ _ hH0.2.2.2
end Go.Proofs.YtoblhcieidljjaaGreatDoor

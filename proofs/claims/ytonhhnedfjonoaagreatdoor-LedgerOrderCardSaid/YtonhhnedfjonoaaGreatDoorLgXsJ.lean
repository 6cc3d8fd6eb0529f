/- Some texts of this claim, joined. -/
import Derived.Test.YtonhhnedfjonoaaGreatDoorProg
import Derived.Test.YtonhhnedfjonoaaGreatDoorJM10
import Derived.Test.YtonhhnedfjonoaaGreatDoorJM26
import Derived.Test.YtonhhnedfjonoaaGreatDoorOrdPJ
import Derived.Test.YtonhhnedfjonoaaGreatDoorJM21

set_option linter.unusedSimpArgs false
set_option linter.unusedVariables false
/- Walk: trustquorumplay's Op: a valid operation. -/
namespace Go.Proofs.YtonhhnedfjonoaaGreatDoor
open Go.RowKit

def OpS (w : World) (g : Nat) (e : Ending) (w' : World) : Prop :=
  ∃ x : OpX, e = .returned (.agg (opL x.o x.v).toArray) ∧ vOp x.o = true ∧ SlN astR w.heap.size w' x.v x.o.path ∧ OpW x.o ∧ SrcR 63 w' g ∧ Fr (some g) w w'
theorem vOp1 {t a : Int} (ht : 1 ≤ t ∧ t ≤ 1000) (ha : 1 ≤ a ∧ a ≤ 5000) : vOp ⟨1, t, a, 0, nat, nat, 0, 0, 0, []⟩ = true := by
  unfold vOp plO
  simp [op0, inR, pos1, vAmt]
  omega
theorem vOp2 {t a : Int} {x : Ast} (ht : 1 ≤ t ∧ t ≤ 1000) (ha : 1 ≤ a ∧ a ≤ 5000) (hx : vAst x = true) : vOp ⟨2, t, a, 0, x, nat, 0, 0, 0, []⟩ = true := by
  unfold vOp plO
  simp [op0, inR, pos1, vAmt, hx]
  omega
theorem vOp3 {a : Int} {x : Ast} (ha : 0 ≤ a ∧ a ≤ 5000) (hx : vAst x = true) (hn : x ≠ nat) : vOp ⟨3, 0, a, 0, x, nat, 0, 0, 0, []⟩ = true := by
  unfold vOp plO
  simp [op0, inR, pos1, vAmt, hx, hn]
  omega
theorem vOp4 {a n d : Int} {x y : Ast} (ha : 1 ≤ a ∧ a ≤ 5000) (hx : vAst x = true) (hy : vAst y = true) (hn : x ≠ y) (h1 : 1 ≤ n ∧ n ≤ 4) (h2 : 1 ≤ d ∧ d ≤ 4) : vOp ⟨4, 0, a, 0, x, y, n, d, 0, []⟩ = true := by
  unfold vOp plO
  simp [op0, inR, pos1, vAmt, vPrc, hx, hy, hn]
  omega
theorem vOp5 {i : Int} (h : 1 ≤ i ∧ i ≤ 1000) : vOp ⟨5, 0, 0, 0, nat, nat, 0, 0, i, []⟩ = true := by
  unfold vOp plO
  simp [op0, inR, pos1, vAmt]
  omega
theorem vOp6 {t a l : Int} {x y : Ast} {p : List Ast} (ht : 1 ≤ t ∧ t ≤ 1000) (ha : 1 ≤ a ∧ a ≤ 5000) (hl : 1 ≤ l ∧ l ≤ 5000) (hx : vAst x = true) (hy : vAst y = true) (hp : p.length ≤ 4) (hq : ∀ z ∈ p, vAst z = true) : vOp ⟨6, t, a, l, x, y, 0, 0, 0, p⟩ = true := by
  have hq' : p.all vAst = true := List.all_eq_true.2 hq
  unfold vOp plO
  simp [op0, inR, pos1, vAmt, vPath, hx, hy, hp, hq']
  omega
theorem ast3 {a : Ast} (h : a = nat ∨ a = usd ∨ a = eur) : vAst a = true := by rcases h with rfl | rfl | rfl <;> decide
theorem wi_os {n : Int} (h : -1 ≤ n ∧ n ≤ 1000000) : Wi n := by constructor <;> omega
set_option maxRecDepth 100000 in
set_option maxHeartbeats 4000000 in
theorem srcOp_any (g : Nat) (w : World) (h : SrcR 63 w g) :
    Calls Tryz.prog 41 #[.pointer (some ⟨g, 0, none⟩)] w (OpS w g) := by
  have hgl := h.lt
  go_enter Tryz.func41, Tryz.ntmps41
  go_upto_region 1 with (fail)
  generalize hW : w.alloc _ = w1
  have F1 : Fr none w w1 := hW ▸ (Fr.refl none w).alloc _
  have hR : OpB w1 w.heap.size op0 (.slice none 0 0) := by rw [← hW]; exact blk_new _ _
  clear hW
  have S1 := h.fr F1
  have hs1 := F1.size
  clear h
  have G2 := (Fr.refl none w1).alloc (.cells #[.int .i64 1, .int .i64 3, .int .i64 10, .int .i64 100, .int .i64 700] 3)
  have hlit : SlI (w1.alloc (.cells #[.int .i64 1, .int .i64 3, .int .i64 10, .int .i64 100, .int .i64 700] 3)) (some g) (.slice (some ⟨w1.heap.size, 0, none⟩) 5 5) [1, 3, 10, 100, 700] :=
    ⟨SlD.lit_dm #[.int .i64 1, .int .i64 3, .int .i64 10, .int .i64 100, .int .i64 700] 3 5 1 rfl (by unfold maxLen; omega) (by simp; omega) (Fr.refl _ _), by intro x hx; simp at hx; constructor <;> omega⟩
  go_wp2_with fail
  refine (srcPick_any _ [1, 3, 10, 100, 700] g _ hlit (by simp) (by simp) (S1.fr G2)).mono ?_
  rintro e w2 ⟨a, rfl, hx, S2, F2⟩
  have ha : 1 ≤ a ∧ a ≤ 700 := by simp at hx; omega
  have F12 : Fr (some g) w1 w2 := G2.mono.same F2
  have hR := hR.fr F12 (by intro e; injection e with e; omega)
  have FX : Fr (some g) w w2 := F1.mono.same F12
  clear hlit hx G2 F2 F12 F1 S1
  go_wp2_with fail
  refine (srcRange_any 1 6 g w2 (by omega) (by omega) (by omega) (by omega) S2).mono ?_
  rintro e w3 ⟨n, rfl, n1, n2, S3, F3⟩
  have n2 : n ≤ 6 := by omega
  have hR := hR.fr F3 (by intro e; injection e with e; omega)
  have FX := FX.same F3
  have hs3 := FX.size
  clear S2 F3
  have hn : n = 1 ∨ n = 2 ∨ n = 3 ∨ n = 4 ∨ n = 5 ∨ n = 6 := by omega
  clear n1 n2
  rcases hn with rfl | rfl | rfl | rfl | rfl | rfl
  · go_wp2_with fail
    refine (srcRange_any 1 7 g w3 (by omega) (by omega) (by omega) (by omega) S3).mono ?_
    rintro e w4 ⟨t, rfl, t1, t2, S4, F4⟩
    have t2 : t ≤ 7 := by omega
    have hR := hR.fr F4 (by intro e; injection e with e; omega)
    have FX := FX.same F4
    have el := hR.lt
    clear S3 F4
    have z0 := OpB.free hR 0
    have z1 := OpB.free hR 1
    have z2 := OpB.free hR 2
    have z3 := OpB.free hR 3
    have z4 := OpB.free hR 4
    have z5 := OpB.free hR 5
    have z6 := OpB.free hR 6
    have z7 := OpB.free hR 7
    have z8 := OpB.free hR 8
    have z9 := OpB.free hR 9
    have z10 := OpB.free hR 10
    have z11 := OpB.free hR 11
    obtain ⟨e0, e1, e2, e3, e4, e5, e6, e7, e8, e9, e10, e11⟩ := OpB.cells hR
    go_wp2_with fail
    generalize hW5 : World.setCell _ _ _ = w9
    obtain ⟨R9, G9⟩ := opw12n hR (⟨1, t, a, 0, nat, nat, 0, 0, 0, []⟩ : Opr) (.slice none ((⟨1, t, a, 0, nat, nat, 0, 0, 0, []⟩ : Opr)).path.length 0) w9 hW5.symm
    clear hW5 z0 z1 z2 z3 z4 z5 z6 z7 z8 z9 z10 z11 e0 e1 e2 e3 e4 e5 e6 e7 e8 e9 e10 e11
    have S9 := (S4).frs G9 (fun b e => by injection e with e; omega)
    have z0 := OpB.free R9 0
    have z1 := OpB.free R9 1
    have z2 := OpB.free R9 2
    have z3 := OpB.free R9 3
    have z4 := OpB.free R9 4
    have z5 := OpB.free R9 5
    have z6 := OpB.free R9 6
    have z7 := OpB.free R9 7
    have z8 := OpB.free R9 8
    have z9 := OpB.free R9 9
    have z10 := OpB.free R9 10
    have z11 := OpB.free R9 11
    obtain ⟨e0, e1, e2, e3, e4, e5, e6, e7, e8, e9, e10, e11⟩ := OpB.cells R9
    refine bodyPost_ret (v := .agg (opL (⟨1, t, a, 0, nat, nat, 0, 0, 0, []⟩ : Opr) (.slice none ((⟨1, t, a, 0, nat, nat, 0, 0, 0, []⟩ : Opr)).path.length 0)).toArray) (by simp [results, Tryz.results41, go_sem, opL, e0, e1, e2, e3, e4, e5, e6, e7, e8, e9, e10, e11]) rfl ?_
    exact ⟨⟨⟨1, t, a, 0, nat, nat, 0, 0, 0, []⟩, none, 0⟩, rfl, vOp1 (by omega) (by omega), SlN.nil _ _ _, ⟨wi1, wi_os (n := t) (by omega), wi_os (n := a) (by omega), wi0, wi0, wi0, wi0, wi0, wi0⟩, S9, FX.new G9 (Nat.le_refl _)⟩
  · go_wp2_with fail
    refine (srcRange_any 1 6 g w3 (by omega) (by omega) (by omega) (by omega) S3).mono ?_
    rintro e w4 ⟨t, rfl, t1, t2, S4, F4⟩
    have t2 : t ≤ 6 := by omega
    have hR := hR.fr F4 (by intro e; injection e with e; omega)
    have FX := FX.same F4
    clear S3 F4
    go_wp2_with fail
    refine (srcAst_any g w4 S4).mono ?_
    rintro e w5 ⟨x, rfl, hx, S5, F5⟩
    have hR := hR.fr F5 (by intro e; injection e with e; omega)
    have FX := FX.same F5
    have HX := Lib.hid hx
    have el := hR.lt
    clear S4 F5 hx
    have z0 := OpB.free hR 0
    have z1 := OpB.free hR 1
    have z2 := OpB.free hR 2
    have z3 := OpB.free hR 3
    have z4 := OpB.free hR 4
    have z5 := OpB.free hR 5
    have z6 := OpB.free hR 6
    have z7 := OpB.free hR 7
    have z8 := OpB.free hR 8
    have z9 := OpB.free hR 9
    have z10 := OpB.free hR 10
    have z11 := OpB.free hR 11
    obtain ⟨e0, e1, e2, e3, e4, e5, e6, e7, e8, e9, e10, e11⟩ := OpB.cells hR
    go_wp2_with fail
    generalize hW5 : World.setCell _ _ _ = w9
    obtain ⟨R9, G9⟩ := opw12n hR (⟨2, t, a, 0, x, nat, 0, 0, 0, []⟩ : Opr) (.slice none ((⟨2, t, a, 0, x, nat, 0, 0, 0, []⟩ : Opr)).path.length 0) w9 hW5.symm
    clear hW5 z0 z1 z2 z3 z4 z5 z6 z7 z8 z9 z10 z11 e0 e1 e2 e3 e4 e5 e6 e7 e8 e9 e10 e11
    have S9 := (S5).frs G9 (fun b e => by injection e with e; omega)
    have z0 := OpB.free R9 0
    have z1 := OpB.free R9 1
    have z2 := OpB.free R9 2
    have z3 := OpB.free R9 3
    have z4 := OpB.free R9 4
    have z5 := OpB.free R9 5
    have z6 := OpB.free R9 6
    have z7 := OpB.free R9 7
    have z8 := OpB.free R9 8
    have z9 := OpB.free R9 9
    have z10 := OpB.free R9 10
    have z11 := OpB.free R9 11
    obtain ⟨e0, e1, e2, e3, e4, e5, e6, e7, e8, e9, e10, e11⟩ := OpB.cells R9
    refine bodyPost_ret (v := .agg (opL (⟨2, t, a, 0, x, nat, 0, 0, 0, []⟩ : Opr) (.slice none ((⟨2, t, a, 0, x, nat, 0, 0, 0, []⟩ : Opr)).path.length 0)).toArray) (by simp [results, Tryz.results41, go_sem, opL, e0, e1, e2, e3, e4, e5, e6, e7, e8, e9, e10, e11]) rfl ?_
    exact ⟨⟨⟨2, t, a, 0, x, nat, 0, 0, 0, []⟩, none, 0⟩, rfl, vOp2 (by omega) (by omega) (ast3 HX.out), SlN.nil _ _ _, ⟨wi2, wi_os (n := t) (by omega), wi_os (n := a) (by omega), wi0, AstS.wi HX.out, wi0, wi0, wi0, wi0⟩, S9, FX.new G9 (Nat.le_refl _)⟩
  · have G4 := (Fr.refl none w3).alloc (.cells #[.int .i64 0, .int .i64 a, .int .i64 1000] 3)
    have hlit : SlI (w3.alloc (.cells #[.int .i64 0, .int .i64 a, .int .i64 1000] 3)) (some g) (.slice (some ⟨w3.heap.size, 0, none⟩) 3 3) [0, a, 1000] :=
      ⟨SlD.lit_dm #[.int .i64 0, .int .i64 a, .int .i64 1000] 3 3 1 rfl (by unfold maxLen; omega) (by simp; omega) (Fr.refl _ _), by intro x hx; simp at hx; constructor <;> omega⟩
    go_wp2_with fail
    refine (srcPick_any _ [0, a, 1000] g _ hlit (by simp) (by simp) (S3.fr G4)).mono ?_
    rintro e w4 ⟨m, rfl, hx, S4, F4⟩
    have hm : 0 ≤ m ∧ m ≤ 1000 := by simp at hx; omega
    have F34 : Fr (some g) w3 w4 := G4.mono.same F4
    have hR := hR.fr F34 (by intro e; injection e with e; omega)
    have FX := FX.same F34
    clear hlit hx G4 F4 F34 S3
    go_wp2_with fail
    refine (usd_any w4).mono ?_
    rintro e w5 ⟨rfl, F5⟩
    go_wp2_with fail
    refine (eur_any w5).mono ?_
    rintro e w6 ⟨rfl, F6⟩
    have F7 := (Fr.refl none w6).alloc (.cells #[.string (bL usd.code), .int .i64 usd.iss, .string (bL eur.code), .int .i64 eur.iss, .string ⟨#[88, 65, 85]⟩, .int .i64 9] 36)
    have b4 := blk_new w6 (.cells #[.string (bL usd.code), .int .i64 usd.iss, .string (bL eur.code), .int .i64 eur.iss, .string ⟨#[88, 65, 85]⟩, .int .i64 9] 36)
    have F47 := (F5.pure F6).pure F7
    have hs6 : g < w6.heap.size := Nat.lt_of_lt_of_le S4.lt (F5.pure F6).size
    go_wp2_with fail
    refine (srcN_any 3 g _ (by omega) (S4.fr F47)).mono ?_
    rintro e w8 ⟨x, rfl, x1, x2, S8, F8⟩
    have b4 := blk_fr b4 F8 (by intro e; injection e with e; omega)
    have hR := (hR.fr F47 (by simp)).fr F8 (by intro e; injection e with e; omega)
    have FX := (FX.pure F47).same F8
    have el := hR.lt
    have l4 := blk_lt b4
    have k0 : w8.cell? ⟨w6.heap.size, 0, none⟩ = some (.string (bL usd.code)) := by rw [blk_cell b4]; rfl
    have k1 : w8.cell? ⟨w6.heap.size, 1, none⟩ = some (.int .i64 usd.iss) := by rw [blk_cell b4]; rfl
    have k2 : w8.cell? ⟨w6.heap.size, 2, none⟩ = some (.string (bL eur.code)) := by rw [blk_cell b4]; rfl
    have k3 : w8.cell? ⟨w6.heap.size, 3, none⟩ = some (.int .i64 eur.iss) := by rw [blk_cell b4]; rfl
    have k4 : w8.cell? ⟨w6.heap.size, 4, none⟩ = some (.string ⟨#[88, 65, 85]⟩) := by rw [blk_cell b4]; rfl
    have k5 : w8.cell? ⟨w6.heap.size, 5, none⟩ = some (.int .i64 9) := by rw [blk_cell b4]; rfl
    clear F5 F6 F7 F47 F8 S4 b4
    have hx : x = 0 ∨ x = 1 ∨ x = 2 := by omega
    clear x1 x2
    have z0 := OpB.free hR 0
    have z1 := OpB.free hR 1
    have z2 := OpB.free hR 2
    have z3 := OpB.free hR 3
    have z4 := OpB.free hR 4
    have z5 := OpB.free hR 5
    have z6 := OpB.free hR 6
    have z7 := OpB.free hR 7
    have z8 := OpB.free hR 8
    have z9 := OpB.free hR 9
    have z10 := OpB.free hR 10
    have z11 := OpB.free hR 11
    obtain ⟨e0, e1, e2, e3, e4, e5, e6, e7, e8, e9, e10, e11⟩ := OpB.cells hR
    rcases hx with rfl | rfl | rfl
    · go_wp2_with fail
      generalize hW5 : World.setCell _ _ _ = w9
      obtain ⟨R9, G9⟩ := opw12n hR (⟨3, 0, m, 0, usd, nat, 0, 0, 0, []⟩ : Opr) (.slice none ((⟨3, 0, m, 0, usd, nat, 0, 0, 0, []⟩ : Opr)).path.length 0) w9 hW5.symm
      clear hW5 z0 z1 z2 z3 z4 z5 z6 z7 z8 z9 z10 z11 e0 e1 e2 e3 e4 e5 e6 e7 e8 e9 e10 e11
      have S9 := (S8).frs G9 (fun b e => by injection e with e; omega)
      have z0 := OpB.free R9 0
      have z1 := OpB.free R9 1
      have z2 := OpB.free R9 2
      have z3 := OpB.free R9 3
      have z4 := OpB.free R9 4
      have z5 := OpB.free R9 5
      have z6 := OpB.free R9 6
      have z7 := OpB.free R9 7
      have z8 := OpB.free R9 8
      have z9 := OpB.free R9 9
      have z10 := OpB.free R9 10
      have z11 := OpB.free R9 11
      obtain ⟨e0, e1, e2, e3, e4, e5, e6, e7, e8, e9, e10, e11⟩ := OpB.cells R9
      refine bodyPost_ret (v := .agg (opL (⟨3, 0, m, 0, usd, nat, 0, 0, 0, []⟩ : Opr) (.slice none ((⟨3, 0, m, 0, usd, nat, 0, 0, 0, []⟩ : Opr)).path.length 0)).toArray) (by simp [results, Tryz.results41, go_sem, opL, e0, e1, e2, e3, e4, e5, e6, e7, e8, e9, e10, e11]) rfl ?_
      exact ⟨⟨⟨3, 0, m, 0, usd, nat, 0, 0, 0, []⟩, none, 0⟩, rfl, vOp3 (by omega) (by decide) (by decide), SlN.nil _ _ _, ⟨wi3, wi0, wi_os (n := m) (by omega), wi0, wi_os (n := usd.iss) (by decide), wi0, wi0, wi0, wi0⟩, S9, FX.new G9 (Nat.le_refl _)⟩
    · go_wp2_with fail
      generalize hW5 : World.setCell _ _ _ = w9
      obtain ⟨R9, G9⟩ := opw12n hR (⟨3, 0, m, 0, eur, nat, 0, 0, 0, []⟩ : Opr) (.slice none ((⟨3, 0, m, 0, eur, nat, 0, 0, 0, []⟩ : Opr)).path.length 0) w9 hW5.symm
      clear hW5 z0 z1 z2 z3 z4 z5 z6 z7 z8 z9 z10 z11 e0 e1 e2 e3 e4 e5 e6 e7 e8 e9 e10 e11
      have S9 := (S8).frs G9 (fun b e => by injection e with e; omega)
      have z0 := OpB.free R9 0
      have z1 := OpB.free R9 1
      have z2 := OpB.free R9 2
      have z3 := OpB.free R9 3
      have z4 := OpB.free R9 4
      have z5 := OpB.free R9 5
      have z6 := OpB.free R9 6
      have z7 := OpB.free R9 7
      have z8 := OpB.free R9 8
      have z9 := OpB.free R9 9
      have z10 := OpB.free R9 10
      have z11 := OpB.free R9 11
      obtain ⟨e0, e1, e2, e3, e4, e5, e6, e7, e8, e9, e10, e11⟩ := OpB.cells R9
      refine bodyPost_ret (v := .agg (opL (⟨3, 0, m, 0, eur, nat, 0, 0, 0, []⟩ : Opr) (.slice none ((⟨3, 0, m, 0, eur, nat, 0, 0, 0, []⟩ : Opr)).path.length 0)).toArray) (by simp [results, Tryz.results41, go_sem, opL, e0, e1, e2, e3, e4, e5, e6, e7, e8, e9, e10, e11]) rfl ?_
      exact ⟨⟨⟨3, 0, m, 0, eur, nat, 0, 0, 0, []⟩, none, 0⟩, rfl, vOp3 (by omega) (by decide) (by decide), SlN.nil _ _ _, ⟨wi3, wi0, wi_os (n := m) (by omega), wi0, wi_os (n := eur.iss) (by decide), wi0, wi0, wi0, wi0⟩, S9, FX.new G9 (Nat.le_refl _)⟩
    · go_wp2_with fail
      generalize hW5 : World.setCell _ _ _ = w9
      obtain ⟨R9, G9⟩ := opw12n hR (⟨3, 0, m, 0, (⟨[88, 65, 85], 9⟩ : Ast), nat, 0, 0, 0, []⟩ : Opr) (.slice none ((⟨3, 0, m, 0, (⟨[88, 65, 85], 9⟩ : Ast), nat, 0, 0, 0, []⟩ : Opr)).path.length 0) w9 hW5.symm
      clear hW5 z0 z1 z2 z3 z4 z5 z6 z7 z8 z9 z10 z11 e0 e1 e2 e3 e4 e5 e6 e7 e8 e9 e10 e11
      have S9 := (S8).frs G9 (fun b e => by injection e with e; omega)
      have z0 := OpB.free R9 0
      have z1 := OpB.free R9 1
      have z2 := OpB.free R9 2
      have z3 := OpB.free R9 3
      have z4 := OpB.free R9 4
      have z5 := OpB.free R9 5
      have z6 := OpB.free R9 6
      have z7 := OpB.free R9 7
      have z8 := OpB.free R9 8
      have z9 := OpB.free R9 9
      have z10 := OpB.free R9 10
      have z11 := OpB.free R9 11
      obtain ⟨e0, e1, e2, e3, e4, e5, e6, e7, e8, e9, e10, e11⟩ := OpB.cells R9
      refine bodyPost_ret (v := .agg (opL (⟨3, 0, m, 0, (⟨[88, 65, 85], 9⟩ : Ast), nat, 0, 0, 0, []⟩ : Opr) (.slice none ((⟨3, 0, m, 0, (⟨[88, 65, 85], 9⟩ : Ast), nat, 0, 0, 0, []⟩ : Opr)).path.length 0)).toArray) (by simp [results, Tryz.results41, go_sem, opL, e0, e1, e2, e3, e4, e5, e6, e7, e8, e9, e10, e11]) rfl ?_
      exact ⟨⟨⟨3, 0, m, 0, (⟨[88, 65, 85], 9⟩ : Ast), nat, 0, 0, 0, []⟩, none, 0⟩, rfl, vOp3 (by omega) (by decide) (by decide), SlN.nil _ _ _, ⟨wi3, wi0, wi_os (n := m) (by omega), wi0, wi_os (n := (⟨[88, 65, 85], 9⟩ : Ast).iss) (by decide), wi0, wi0, wi0, wi0⟩, S9, FX.new G9 (Nat.le_refl _)⟩
  · go_wp2_with fail
    refine (srcAst_any g w3 S3).mono ?_
    rintro e w4 ⟨x, rfl, hx, S4, F4⟩
    go_wp2_with fail
    refine (srcAst_any g w4 S4).mono ?_
    rintro e w5 ⟨y, rfl, hy, S5, F5⟩
    go_wp2_with fail
    refine (srcRange_any 1 4 g w5 (by omega) (by omega) (by omega) (by omega) S5).mono ?_
    rintro e w6 ⟨m, rfl, m1, m2, S6, F6⟩
    go_wp2_with fail
    refine (srcRange_any 1 4 g w6 (by omega) (by omega) (by omega) (by omega) S6).mono ?_
    rintro e w7 ⟨d, rfl, d1, d2, S7, F7⟩
    have m2 : m ≤ 4 := by omega
    have d2 : d ≤ 4 := by omega
    have F37 := ((F4.same F5).same F6).same F7
    have hR := hR.fr F37 (by intro e; injection e with e; omega)
    have FX := FX.same F37
    clear S3 S4 S5 S6 F4 F5 F6 F7 F37
    go_upto_region 11 with (fail)
    obtain ⟨ob, hob⟩ : ∃ ob, ob = w7.heap.size := ⟨_, rfl⟩
    rw [← hob]
    generalize hW : w7.alloc _ = w8
    have F8 : Fr none w7 w8 := hW ▸ (Fr.refl none w7).alloc _
    have hO : OpB w8 ob ⟨4, 0, a, 0, x, y, m, d, 0, []⟩ (.slice none 0 0) := by rw [← hW, hob]; exact blk_new _ _
    have hlo : w.heap.size < ob := by have := hR.lt; omega
    clear hW hob
    have S8 := S7.fr F8
    have hR := hR.fr F8 (by simp)
    have FX := FX.pure F8
    have HX := Lib.hid hx
    have HY := Lib.hid hy
    clear S7 F8 hx hy
    obtain ⟨c0, c1, c2, c3, c4, c5, c6, c7, c8, c9, c10, c11⟩ := OpB.cells hO
    dsimp only at c0 c1 c2 c3 c4 c5 c6 c7 c8 c9 c10 c11
    have hfo := OpB.frees hO
    have ol := hO.lt
    have el := hR.lt
    by_cases hxy : x = y
    · subst hxy
      go_wp2_with fail
      refine (usd_any w8).mono ?_
      rintro e w9 ⟨rfl, F9⟩
      have hO := hO.fr F9 (by simp)
      have hR := hR.fr F9 (by simp)
      have FX := FX.pure F9
      have S9 := S8.fr F9
      clear c0 c1 c2 c3 c4 c5 c6 c7 c8 c9 c10 c11 hfo ol el F9 S8
      obtain ⟨c0, c1, c2, c3, c4, c5, c6, c7, c8, c9, c10, c11⟩ := OpB.cells hO
      dsimp only at c0 c1 c2 c3 c4 c5 c6 c7 c8 c9 c10 c11
      have hfo := OpB.frees hO
      have ol := hO.lt
      go_upto_region 13 with (fail)
      generalize hW : World.setCell _ _ _ = w10
      have hO2 := OpB.oth (OpB.ast hO nat) usd
      have G10 : Fr (some ob) w9 w10 := by
        rw [← hW]
        have F0 : Fr (some ob) w9 _ := Fr.set1 w9 ⟨ob, 4, none⟩ (.string (bL nat.code))
        have F1 : Fr (some ob) w9 _ := F0.setRow (p := ⟨ob, 5, none⟩) rfl (.int .i64 nat.iss)
        have F2 : Fr (some ob) w9 _ := F1.setRow (p := ⟨ob, 6, none⟩) rfl (.string (bL usd.code))
        exact F2.setRow (p := ⟨ob, 7, none⟩) rfl (.int .i64 usd.iss)
      have hO3 : OpB w10 ob ⟨4, 0, a, 0, nat, usd, m, d, 0, []⟩ (.slice none 0 0) := by rw [← hW]; exact hO2
      have hR := hR.fr G10 (by intro e; injection e with e; omega)
      have FX := FX.new G10 (by omega)
      have S10 := S9.frs G10 (fun b e => by injection e with e; omega)
      clear hW hO2 G10 c0 c1 c2 c3 c4 c5 c6 c7 c8 c9 c10 c11 hfo ol S9 hO
      obtain ⟨c0, c1, c2, c3, c4, c5, c6, c7, c8, c9, c10, c11⟩ := OpB.cells hO3
      dsimp only at c0 c1 c2 c3 c4 c5 c6 c7 c8 c9 c10 c11
      have ol := hO3.lt
      have el := hR.lt
      have z0 := OpB.free hR 0
      have z1 := OpB.free hR 1
      have z2 := OpB.free hR 2
      have z3 := OpB.free hR 3
      have z4 := OpB.free hR 4
      have z5 := OpB.free hR 5
      have z6 := OpB.free hR 6
      have z7 := OpB.free hR 7
      have z8 := OpB.free hR 8
      have z9 := OpB.free hR 9
      have z10 := OpB.free hR 10
      have z11 := OpB.free hR 11
      obtain ⟨e0, e1, e2, e3, e4, e5, e6, e7, e8, e9, e10, e11⟩ := OpB.cells hR
      go_wp2_with fail
      generalize hW5 : World.setCell _ _ _ = w9
      obtain ⟨R9, G9⟩ := opw12n hR (⟨4, 0, a, 0, nat, usd, m, d, 0, []⟩ : Opr) (.slice none ((⟨4, 0, a, 0, nat, usd, m, d, 0, []⟩ : Opr)).path.length 0) w9 hW5.symm
      clear hW5 z0 z1 z2 z3 z4 z5 z6 z7 z8 z9 z10 z11 e0 e1 e2 e3 e4 e5 e6 e7 e8 e9 e10 e11
      have S9 := (S10).frs G9 (fun b e => by injection e with e; omega)
      have z0 := OpB.free R9 0
      have z1 := OpB.free R9 1
      have z2 := OpB.free R9 2
      have z3 := OpB.free R9 3
      have z4 := OpB.free R9 4
      have z5 := OpB.free R9 5
      have z6 := OpB.free R9 6
      have z7 := OpB.free R9 7
      have z8 := OpB.free R9 8
      have z9 := OpB.free R9 9
      have z10 := OpB.free R9 10
      have z11 := OpB.free R9 11
      obtain ⟨e0, e1, e2, e3, e4, e5, e6, e7, e8, e9, e10, e11⟩ := OpB.cells R9
      refine bodyPost_ret (v := .agg (opL (⟨4, 0, a, 0, nat, usd, m, d, 0, []⟩ : Opr) (.slice none ((⟨4, 0, a, 0, nat, usd, m, d, 0, []⟩ : Opr)).path.length 0)).toArray) (by simp [results, Tryz.results41, go_sem, opL, e0, e1, e2, e3, e4, e5, e6, e7, e8, e9, e10, e11]) rfl ?_
      exact ⟨⟨⟨4, 0, a, 0, nat, usd, m, d, 0, []⟩, none, 0⟩, rfl, vOp4 (by omega) (by decide) (by decide) (by decide) (by omega) (by omega), SlN.nil _ _ _, ⟨wi4, wi0, wi_os (n := a) (by omega), wi0, wi_os (n := nat.iss) (by decide), wi_os (n := usd.iss) (by decide), wi_os (n := m) (by omega), wi_os (n := d) (by omega), wi0⟩, S9, FX.new G9 (Nat.le_refl _)⟩
    · have HXY := Lib.hid hxy
      have z0 := OpB.free hR 0
      have z1 := OpB.free hR 1
      have z2 := OpB.free hR 2
      have z3 := OpB.free hR 3
      have z4 := OpB.free hR 4
      have z5 := OpB.free hR 5
      have z6 := OpB.free hR 6
      have z7 := OpB.free hR 7
      have z8 := OpB.free hR 8
      have z9 := OpB.free hR 9
      have z10 := OpB.free hR 10
      have z11 := OpB.free hR 11
      obtain ⟨e0, e1, e2, e3, e4, e5, e6, e7, e8, e9, e10, e11⟩ := OpB.cells hR
      by_cases hc : x.code = y.code
      · have hq1 : (bL x.code).toList = (bL y.code).toList := by rw [hc]
        have hq2 : ¬ x.iss = y.iss := fun e => hxy (by cases x; cases y; simp at hc e; rw [hc, e])
        clear hxy hc
        go_wp2_with fail
        generalize hW5 : World.setCell _ _ _ = w9
        obtain ⟨R9, G9⟩ := opw12n hR (⟨4, 0, a, 0, x, y, m, d, 0, []⟩ : Opr) (.slice none ((⟨4, 0, a, 0, x, y, m, d, 0, []⟩ : Opr)).path.length 0) w9 hW5.symm
        clear hW5 z0 z1 z2 z3 z4 z5 z6 z7 z8 z9 z10 z11 e0 e1 e2 e3 e4 e5 e6 e7 e8 e9 e10 e11
        have S9 := (S8).frs G9 (fun b e => by injection e with e; omega)
        have z0 := OpB.free R9 0
        have z1 := OpB.free R9 1
        have z2 := OpB.free R9 2
        have z3 := OpB.free R9 3
        have z4 := OpB.free R9 4
        have z5 := OpB.free R9 5
        have z6 := OpB.free R9 6
        have z7 := OpB.free R9 7
        have z8 := OpB.free R9 8
        have z9 := OpB.free R9 9
        have z10 := OpB.free R9 10
        have z11 := OpB.free R9 11
        obtain ⟨e0, e1, e2, e3, e4, e5, e6, e7, e8, e9, e10, e11⟩ := OpB.cells R9
        refine bodyPost_ret (v := .agg (opL (⟨4, 0, a, 0, x, y, m, d, 0, []⟩ : Opr) (.slice none ((⟨4, 0, a, 0, x, y, m, d, 0, []⟩ : Opr)).path.length 0)).toArray) (by simp [results, Tryz.results41, go_sem, opL, e0, e1, e2, e3, e4, e5, e6, e7, e8, e9, e10, e11]) rfl ?_
        exact ⟨⟨⟨4, 0, a, 0, x, y, m, d, 0, []⟩, none, 0⟩, rfl, vOp4 (by omega) (ast3 HX.out) (ast3 HY.out) HXY.out (by omega) (by omega), SlN.nil _ _ _, ⟨wi4, wi0, wi_os (n := a) (by omega), wi0, AstS.wi HX.out, AstS.wi HY.out, wi_os (n := m) (by omega), wi_os (n := d) (by omega), wi0⟩, S9, FX.new G9 (Nat.le_refl _)⟩
      · have hq1 : ¬ (bL x.code).toList = (bL y.code).toList := by rw [bL_tl, bL_tl]; exact hc
        clear hxy hc
        go_wp2_with fail
        generalize hW5 : World.setCell _ _ _ = w9
        obtain ⟨R9, G9⟩ := opw12n hR (⟨4, 0, a, 0, x, y, m, d, 0, []⟩ : Opr) (.slice none ((⟨4, 0, a, 0, x, y, m, d, 0, []⟩ : Opr)).path.length 0) w9 hW5.symm
        clear hW5 z0 z1 z2 z3 z4 z5 z6 z7 z8 z9 z10 z11 e0 e1 e2 e3 e4 e5 e6 e7 e8 e9 e10 e11
        have S9 := (S8).frs G9 (fun b e => by injection e with e; omega)
        have z0 := OpB.free R9 0
        have z1 := OpB.free R9 1
        have z2 := OpB.free R9 2
        have z3 := OpB.free R9 3
        have z4 := OpB.free R9 4
        have z5 := OpB.free R9 5
        have z6 := OpB.free R9 6
        have z7 := OpB.free R9 7
        have z8 := OpB.free R9 8
        have z9 := OpB.free R9 9
        have z10 := OpB.free R9 10
        have z11 := OpB.free R9 11
        obtain ⟨e0, e1, e2, e3, e4, e5, e6, e7, e8, e9, e10, e11⟩ := OpB.cells R9
        refine bodyPost_ret (v := .agg (opL (⟨4, 0, a, 0, x, y, m, d, 0, []⟩ : Opr) (.slice none ((⟨4, 0, a, 0, x, y, m, d, 0, []⟩ : Opr)).path.length 0)).toArray) (by simp [results, Tryz.results41, go_sem, opL, e0, e1, e2, e3, e4, e5, e6, e7, e8, e9, e10, e11]) rfl ?_
        exact ⟨⟨⟨4, 0, a, 0, x, y, m, d, 0, []⟩, none, 0⟩, rfl, vOp4 (by omega) (ast3 HX.out) (ast3 HY.out) HXY.out (by omega) (by omega), SlN.nil _ _ _, ⟨wi4, wi0, wi_os (n := a) (by omega), wi0, AstS.wi HX.out, AstS.wi HY.out, wi_os (n := m) (by omega), wi_os (n := d) (by omega), wi0⟩, S9, FX.new G9 (Nat.le_refl _)⟩
  · go_wp2_with fail
    refine (srcRange_any 1 6 g w3 (by omega) (by omega) (by omega) (by omega) S3).mono ?_
    rintro e w4 ⟨t, rfl, t1, t2, S4, F4⟩
    have t2 : t ≤ 6 := by omega
    have hR := hR.fr F4 (by intro e; injection e with e; omega)
    have FX := FX.same F4
    have el := hR.lt
    clear S3 F4
    have z0 := OpB.free hR 0
    have z1 := OpB.free hR 1
    have z2 := OpB.free hR 2
    have z3 := OpB.free hR 3
    have z4 := OpB.free hR 4
    have z5 := OpB.free hR 5
    have z6 := OpB.free hR 6
    have z7 := OpB.free hR 7
    have z8 := OpB.free hR 8
    have z9 := OpB.free hR 9
    have z10 := OpB.free hR 10
    have z11 := OpB.free hR 11
    obtain ⟨e0, e1, e2, e3, e4, e5, e6, e7, e8, e9, e10, e11⟩ := OpB.cells hR
    go_wp2_with fail
    generalize hW5 : World.setCell _ _ _ = w9
    obtain ⟨R9, G9⟩ := opw12n hR (⟨5, 0, 0, 0, nat, nat, 0, 0, t, []⟩ : Opr) (.slice none ((⟨5, 0, 0, 0, nat, nat, 0, 0, t, []⟩ : Opr)).path.length 0) w9 hW5.symm
    clear hW5 z0 z1 z2 z3 z4 z5 z6 z7 z8 z9 z10 z11 e0 e1 e2 e3 e4 e5 e6 e7 e8 e9 e10 e11
    have S9 := (S4).frs G9 (fun b e => by injection e with e; omega)
    have z0 := OpB.free R9 0
    have z1 := OpB.free R9 1
    have z2 := OpB.free R9 2
    have z3 := OpB.free R9 3
    have z4 := OpB.free R9 4
    have z5 := OpB.free R9 5
    have z6 := OpB.free R9 6
    have z7 := OpB.free R9 7
    have z8 := OpB.free R9 8
    have z9 := OpB.free R9 9
    have z10 := OpB.free R9 10
    have z11 := OpB.free R9 11
    obtain ⟨e0, e1, e2, e3, e4, e5, e6, e7, e8, e9, e10, e11⟩ := OpB.cells R9
    refine bodyPost_ret (v := .agg (opL (⟨5, 0, 0, 0, nat, nat, 0, 0, t, []⟩ : Opr) (.slice none ((⟨5, 0, 0, 0, nat, nat, 0, 0, t, []⟩ : Opr)).path.length 0)).toArray) (by simp [results, Tryz.results41, go_sem, opL, e0, e1, e2, e3, e4, e5, e6, e7, e8, e9, e10, e11]) rfl ?_
    exact ⟨⟨⟨5, 0, 0, 0, nat, nat, 0, 0, t, []⟩, none, 0⟩, rfl, vOp5 (by omega), SlN.nil _ _ _, ⟨wi5, wi0, wi0, wi0, wi0, wi0, wi0, wi0, wi_os (n := t) (by omega)⟩, S9, FX.new G9 (Nat.le_refl _)⟩
  · go_wp2_with fail
    refine (srcRange_any 1 5 g w3 (by omega) (by omega) (by omega) (by omega) S3).mono ?_
    rintro e w4 ⟨t, rfl, t1, t2, S4, F4⟩
    have t2 : t ≤ 5 := by omega
    have G5 := (Fr.refl none w4).alloc (.cells #[.int .i64 1, .int .i64 50, .int .i64 5000] 3)
    have hg4 := S4.lt
    have hlit : SlI (w4.alloc (.cells #[.int .i64 1, .int .i64 50, .int .i64 5000] 3)) (some g) (.slice (some ⟨w4.heap.size, 0, none⟩) 3 3) [1, 50, 5000] :=
      ⟨SlD.lit_dm #[.int .i64 1, .int .i64 50, .int .i64 5000] 3 3 1 rfl (by unfold maxLen; omega) (by simp; omega) (Fr.refl _ _), by intro x hx; simp at hx; constructor <;> omega⟩
    go_wp2_with fail
    refine (srcPick_any _ [1, 50, 5000] g _ hlit (by simp) (by simp) (S4.fr G5)).mono ?_
    rintro e w5 ⟨m, rfl, hm, S5, F5⟩
    have hm : 1 ≤ m ∧ m ≤ 5000 := by simp at hm; omega
    go_wp2_with fail
    refine (srcAst_any g w5 S5).mono ?_
    rintro e w6 ⟨x, rfl, hx, S6, F6⟩
    go_wp2_with fail
    refine (srcAst_any g w6 S6).mono ?_
    rintro e w7 ⟨y, rfl, hy, S7, F7⟩
    have F37 := ((F4.same (G5.mono.same F5)).same F6).same F7
    have hR := hR.fr F37 (by intro e; injection e with e; omega)
    have FX := FX.same F37
    clear S3 S4 S5 S6 F4 F5 F6 F7 F37 hlit G5
    go_upto_region 17 with (fail)
    obtain ⟨ob, hob⟩ : ∃ ob, ob = w7.heap.size := ⟨_, rfl⟩
    rw [← hob]
    generalize hW : w7.alloc _ = w8
    have F8 : Fr none w7 w8 := hW ▸ (Fr.refl none w7).alloc _
    have hO : OpB w8 ob ⟨6, t, a, m, x, y, 0, 0, 0, []⟩ (.slice none 0 0) := by rw [← hW, hob]; exact blk_new _ _
    have hlo : w.heap.size < ob := by have := hR.lt; omega
    clear hW hob
    have S8 := S7.fr F8
    have hR := hR.fr F8 (by simp)
    have FX := FX.pure F8
    have HX := Lib.hid hx
    have HY := Lib.hid hy
    clear S7 F8 hx hy
    go_wp2_with fail
    refine (srcN_any 3 g w8 (by omega) S8).mono ?_
    rintro e w9 ⟨j0, rfl, j1, j2, S9, F9⟩
    have j2 : j0 ≤ 2 := by omega
    have hO := hO.fr F9 (by intro e; injection e with e; omega)
    have hR := hR.fr F9 (by intro e; injection e with e; omega)
    have FX := FX.same F9
    have hOl := hO.lt
    clear S8 F9
    go_wp2_with fail
    go_loopw [6] (fun s6 wr => ∃ (j : Int) (l : List Ast) (Ap : Option Addr) (cp : Nat), s6 = .int .i64 j ∧ 0 ≤ j ∧ j + (l.length : Int) ≤ 2 ∧ Hid (∀ z ∈ l, z = nat ∨ z = usd ∨ z = eur) ∧ OpB wr ob ⟨6, t, a, m, x, y, 0, 0, 0, l⟩ (.slice Ap l.length cp) ∧ SrcR 63 wr g ∧ OpB wr w.heap.size op0 (.slice none 0 0) ∧ Fr (some g) w wr ∧ wr.ownsRow (ob + 1) 36 2 (.slice Ap l.length cp) l.length (flR astR l) ∧ ob < wr.heap.size) (fun s6 _ => (intOf s6).toNat)
    case atStart => exact ⟨j0, [], none, 0, rfl, j1, by simpa using j2, (fun z hz => by cases hz), hO, S9, hR, FX, World.ownsRow_nil _ _ _ _, hOl⟩
    case round =>
      clear hO hR FX S9 hOl
      obtain ⟨j, l, Ap, cp, rfl, hj0, hj2, HL, hO, hS, hR, FX, own, hOl⟩ := hrel
      by_cases hlt : 0 < j
      · have hm1 : IntKind.i64.wrap (j - 1) = j - 1 := by rw [IntKind.wrap_i64]; omega
        have hl2 : l.length ≤ 2 := by omega
        have hcp := own_cap own
        go_upto_region 20 with (fail)
        have HO0 := Lib.hid hO
        refine wp_region_fxP (fun W => OpB W ob ⟨6, t, a, m, x, y, 0, 0, 0, l⟩ (.slice Ap l.length cp)) (fun W => OpB W ob ⟨6, t, a, m, x, y, 0, 0, 0, l⟩ (.slice Ap l.length cp) ∧ SrcR 63 W g ∧ OpB W w.heap.size op0 (.slice none 0 0) ∧ Fr (some g) w W ∧ W.ownsRow (ob + 1) 36 2 (.slice Ap l.length cp) l.length (flR astR l) ∧ ob < W.heap.size) [3, 4, 5, 7] [0, 1, 2, 3, 4, 5, 6, 7] 93 [none, some 91, some 90, some 89, some 88, some 87, some 86, some 85] (by kernel_rfl) (by kernel_rfl) (by kernel_rfl) (Nat.le_refl _) (show (fun W => OpB W ob ⟨6, t, a, m, x, y, 0, 0, 0, l⟩ (.slice Ap l.length cp) ∧ SrcR 63 W g ∧ OpB W w.heap.size op0 (.slice none 0 0) ∧ Fr (some g) w W ∧ W.ownsRow (ob + 1) 36 2 (.slice Ap l.length cp) l.length (flR astR l) ∧ ob < W.heap.size) _ from (by exact ⟨HO0.out, hS.drew, opb_drew hR, FX.drew, own.drew, hOl⟩)) (fun W h => h.1) ?_
        clear hO hS hR FX own HO0 hOl
        refine FxP.pure (v := ?_) rfl rfl rfl (fun ev w E => ?_) ?_; rotate_left
        · obtain ⟨t5, ec, ef, eg⟩ := E.get [] [5] (by kernel_rfl); clear E; go_simp; try with_reducible rfl
        refine FxP.load (v := ?_) rfl rfl rfl (fun ev w hS E => ?_) ?_; rotate_left
        · obtain ⟨c0, c1, c2, c3, c4, c5, c6, c7, c8, c9, c10, c11⟩ := OpB.cells hS
          dsimp only at c0 c1 c2 c3 c4 c5 c6 c7 c8 c9 c10 c11
          obtain ⟨t85, ec, ef, eg⟩ := E.get [(0, 0, 85)] [] (by kernel_rfl); clear E; simp only [nthV] at t85; go_simp; try with_reducible rfl
        refine FxP.pure (v := ?_) rfl rfl rfl (fun ev w E => ?_) ?_; rotate_left
        · obtain ⟨t0, ec, ef, eg⟩ := E.get [] [0] (by kernel_rfl); clear E; go_simp; try with_reducible rfl
        refine FxP.call (f := ?_) (args := ?_) (fun v W => OpB W ob ⟨6, t, a, m, x, y, 0, 0, 0, l⟩ (.slice Ap l.length cp) ∧ ∃ z : Ast, v = .agg #[.string (bL z.code), .int .i64 z.iss] ∧ Hid (z = nat ∨ z = usd ∨ z = eur) ∧ SrcR 63 W g ∧ OpB W w.heap.size op0 (.slice none 0 0) ∧ Fr (some g) w W ∧ W.ownsRow (ob + 1) 36 2 (.slice Ap l.length cp) l.length (flR astR l) ∧ ob < W.heap.size) rfl rfl rfl (by kernel_rfl) (fun ev w hS E => ?_) (fun w hS => ?_) (fun v W h => h.1) ?_; rotate_left 2
        · obtain ⟨t87, ec, ef, eg⟩ := E.get [(0, 2, 87)] [] (by kernel_rfl); clear E; simp only [nthV] at t87; go_simp; first | (refine And.intro ?_ ?_ <;> with_reducible rfl) | with_reducible rfl
        · refine (srcAst_any g w hS.2.1).mono ?_
          rintro e w2 ⟨z, rfl, hz, S2, F2⟩
          exact ⟨_, rfl, hS.1.fr F2 (by intro e; injection e with e; omega), z, rfl, hz, S2, hS.2.2.1.fr F2 (by intro e; injection e with e; omega), hS.2.2.2.1.same F2, own_fr hS.2.2.2.2.1 F2 (fun q hq => by injection hq with hq; omega), Nat.lt_of_lt_of_le hS.2.2.2.2.2 F2.size⟩
        rintro v88 wq hT88
        clear hT88 wq
        refine FxP.new (fun u W => OpB W ob ⟨6, t, a, m, x, y, 0, 0, 0, l⟩ (.slice Ap l.length cp) ∧ ∃ (z : Ast) (bk : Nat), u = .slice (some ⟨bk, 0, none⟩) 1 1 ∧ W.heap[bk]? = some (.cells #[.string (bL z.code), .int .i64 z.iss] 36 (0, 0)) ∧ Hid (z = nat ∨ z = usd ∨ z = eur) ∧ SrcR 63 W g ∧ OpB W w.heap.size op0 (.slice none 0 0) ∧ Fr (some g) w W ∧ W.ownsRow (ob + 1) 36 2 (.slice Ap l.length cp) l.length (flR astR l) ∧ ob < W.heap.size) rfl rfl rfl (by kernel_rfl) (fun ev w hS E => ?_) (fun v W h => h.1) ?_
        · obtain ⟨t88, ec, ef, eg⟩ := E.get [(0, 3, 88)] [] (by kernel_rfl); clear E; simp only [nthV] at t88
          obtain ⟨q1, z, rfl, q2, q3, q4, q5, q6, q7⟩ := hS
          refine ⟨?_, ?_, ?_, ?_⟩
          rotate_left 2
          · go_simp; first | (refine And.intro ?_ ?_ <;> with_reducible rfl) | with_reducible rfl
          have FA := (Fr.refl none w).alloc (.cells #[.string (bL z.code), .int .i64 z.iss] 36)
          exact ⟨q1.fr FA (by simp), z, w.heap.size, rfl, blk_new _ _, q2, q3.fr FA, q4.fr FA (by simp), q5.pure FA, own_fr q6 FA (by simp), Nat.lt_of_lt_of_le q7 FA.size⟩
        rintro v89 wq hT89
        clear hT89 wq
        refine FxP.new (fun u W => OpB W ob ⟨6, t, a, m, x, y, 0, 0, 0, l⟩ (.slice Ap l.length cp) ∧ ∃ (z : Ast) (A' : Option Addr) (c' : Nat), u = .slice A' (l.length + 1) c' ∧ Hid (z = nat ∨ z = usd ∨ z = eur) ∧ SrcR 63 W g ∧ OpB W w.heap.size op0 (.slice none 0 0) ∧ Fr (some g) w W ∧ W.ownsRow (ob + 1) 36 2 (.slice A' (l.length + 1) c') (l.length + 1) (flR astR (l ++ [z])) ∧ ob < W.heap.size) rfl rfl rfl (by kernel_rfl) (fun ev w hS E => ?_) (fun v W h => h.1) ?_
        · obtain ⟨t86, t89, ec, ef, eg⟩ := E.get [(3, 1, 86), (0, 4, 89)] [] (by kernel_rfl); clear E; simp only [nthV] at t86 t89
          obtain ⟨q1, z, bk, rfl, hbk, q2, q3, q4, q5, q6, q7⟩ := hS
          refine app_new eiAst (.tmp 86) (.tmp 89) rfl (ob + 1) Ap l.length cp (flR astR l) t86 q6 _ 1 1 _ t89 (sld_blk hbk 1 2 rfl (by unfold maxLen; omega)) (by simp [Value.oneCell']) (by omega) (by unfold maxLen; omega) (by omega) ?_
          intro A' c' w' own' F' nb
          exact ⟨q1.fr F' (own_ne q6 (by omega)), z, A', c', rfl, q2, q3.frs F' (fun b e => by have := own_blk_ge q6 b e; omega), q4.fr F' (own_ne q6 (by omega)), q5.own F' (fun b e => by have := own_blk_ge q6 b e; omega), by rw [flR_snoc]; exact own', Nat.lt_of_lt_of_le q7 F'.size⟩
        rintro v90 wq hT90
        clear hT90 wq
        refine FxP.pure (v := ?_) rfl rfl rfl (fun ev w E => ?_) ?_; rotate_left
        · obtain ⟨t5, ec, ef, eg⟩ := E.get [] [5] (by kernel_rfl); clear E; go_simp; try with_reducible rfl
        refine FxP.store (S' := (fun W => ∃ (z : Ast) (A' : Option Addr) (c' : Nat), Hid (z = nat ∨ z = usd ∨ z = eur) ∧ OpB W ob ⟨6, t, a, m, x, y, 0, 0, 0, l ++ [z]⟩ (.slice A' (l.length + 1) c') ∧ SrcR 63 W g ∧ OpB W w.heap.size op0 (.slice none 0 0) ∧ Fr (some g) w W ∧ W.ownsRow (ob + 1) 36 2 (.slice A' (l.length + 1) c') (l.length + 1) (flR astR (l ++ [z])) ∧ ob < W.heap.size)) rfl rfl rfl (by kernel_rfl) (fun ev w hS E => ?_) (NextP.new (G' := fun _ => True) (by kernel_rfl) (fun _ _ => trivial)) ?_
        · obtain ⟨q1, z, A', c', rfl, q2, q3, q4, q5, q6, q7⟩ := hS
          have hz := q1.frees
          obtain ⟨c0, c1, c2, c3, c4, c5, c6, c7, c8, c9, c10, c11⟩ := OpB.cells q1
          obtain ⟨t91, t90, ec, ef, eg⟩ := E.get [(0, 6, 91), (1, 5, 90)] [] (by kernel_rfl); clear E; simp only [nthV] at t91 t90
          refine ⟨?_, ?_, ?_⟩
          rotate_left
          · go_simp; try with_reducible rfl
          · have G : Fr (some ob) w _ := Fr.set1 w ⟨ob, 11, none⟩ (.slice A' (l.length + 1) c')
            exact ⟨z, A', c', q2, OpB.path q1 (l ++ [z]) _, q3.frs G (fun b e => by injection e with e; omega), q4.fr G (by intro e; injection e with e; omega), q5.new G (by omega), own_fr q6 G (fun b hb => by injection hb with hb; omega), Nat.lt_of_lt_of_le q7 G.size⟩
        refine FxP.done (fun W hW => ?_)
        simp only [fillZ]
        try simp only [Act.put, List.setIfInBounds_toArray, List.set_cons_zero, List.set_cons_succ, List.getElem_toArray, List.getElem_cons_zero, List.getElem_cons_succ]
        obtain ⟨z, A', c', q2, q1, q3, q4, q5, q6, q7⟩ := hW
        go_wp2_with fail
        go_roundw
        case rel => exact ⟨j - 1, l ++ [z], A', c', by go_num, by omega, by rw [List.length_append]; simp only [List.length_cons, List.length_nil]; omega, (fun u hu => by
          rcases List.mem_append.1 hu with hu | hu
          · exact HL.out u hu
          · rw [List.mem_singleton.1 hu]; exact q2.out), by rw [List.length_append]; exact q1, q3, q4, q5, by rw [List.length_append]; exact q6, q7⟩
        case measure => simp [intOf]; omega
      · have hl2 : l.length ≤ 2 := by omega
        obtain ⟨c0, c1, c2, c3, c4, c5, c6, c7, c8, c9, c10, c11⟩ := OpB.cells hO
        dsimp only at c0 c1 c2 c3 c4 c5 c6 c7 c8 c9 c10 c11
        have el := hR.lt
        have HOW := Lib.hid own
        clear own
        have z0 := OpB.free hR 0
        have z1 := OpB.free hR 1
        have z2 := OpB.free hR 2
        have z3 := OpB.free hR 3
        have z4 := OpB.free hR 4
        have z5 := OpB.free hR 5
        have z6 := OpB.free hR 6
        have z7 := OpB.free hR 7
        have z8 := OpB.free hR 8
        have z9 := OpB.free hR 9
        have z10 := OpB.free hR 10
        have z11 := OpB.free hR 11
        obtain ⟨e0, e1, e2, e3, e4, e5, e6, e7, e8, e9, e10, e11⟩ := OpB.cells hR
        go_wp2_with fail
        generalize hW5 : World.setCell _ _ _ = w9
        obtain ⟨R9, G9⟩ := opw12n hR (⟨6, t, a, m, x, y, 0, 0, 0, l⟩ : Opr) (.slice Ap ((⟨6, t, a, m, x, y, 0, 0, 0, l⟩ : Opr)).path.length cp) w9 hW5.symm
        clear hW5 z0 z1 z2 z3 z4 z5 z6 z7 z8 z9 z10 z11 e0 e1 e2 e3 e4 e5 e6 e7 e8 e9 e10 e11
        have S9 := (hS).frs G9 (fun b e => by injection e with e; omega)
        have z0 := OpB.free R9 0
        have z1 := OpB.free R9 1
        have z2 := OpB.free R9 2
        have z3 := OpB.free R9 3
        have z4 := OpB.free R9 4
        have z5 := OpB.free R9 5
        have z6 := OpB.free R9 6
        have z7 := OpB.free R9 7
        have z8 := OpB.free R9 8
        have z9 := OpB.free R9 9
        have z10 := OpB.free R9 10
        have z11 := OpB.free R9 11
        obtain ⟨e0, e1, e2, e3, e4, e5, e6, e7, e8, e9, e10, e11⟩ := OpB.cells R9
        refine bodyPost_ret (v := .agg (opL (⟨6, t, a, m, x, y, 0, 0, 0, l⟩ : Opr) (.slice Ap ((⟨6, t, a, m, x, y, 0, 0, 0, l⟩ : Opr)).path.length cp)).toArray) (by simp [results, Tryz.results41, go_sem, opL, e0, e1, e2, e3, e4, e5, e6, e7, e8, e9, e10, e11]) rfl ?_
        exact ⟨⟨⟨6, t, a, m, x, y, 0, 0, 0, l⟩, Ap, cp⟩, rfl, vOp6 (by omega) (by omega) (by omega) (ast3 HX.out) (ast3 HY.out) (by omega) (fun z hz => ast3 (HL.out z hz)), (SlN.of_own (R := astR) (own_fr HOW.out G9 (fun b hb => by injection hb with hb; omega)) (fun z hz => AstS.wi (HL.out z hz))).mono (by omega), ⟨wi6, wi_os (n := t) (by omega), wi_os (n := a) (by omega), wi_os (n := m) (by omega), AstS.wi HX.out, AstS.wi HY.out, wi0, wi0, wi0⟩, S9, FX.new G9 (Nat.le_refl _)⟩
end Go.Proofs.YtonhhnedfjonoaaGreatDoor

/- Walk: trustquorumplay's Tx: a valid transaction. -/
namespace Go.Proofs.YtonhhnedfjonoaaGreatDoor
open Go.RowKit

theorem GA.fnd {l : List Acct} (h : GA l) (id : Int) : 0 ≤ (fndA l id).1.seq ∧ (fndA l id).1.seq ≤ 2 := by
  unfold fndA
  cases hf : findA l id with
  | none => exact ⟨by decide, by decide⟩
  | some a =>
    have hm : a ∈ l := List.mem_of_find?_eq_some hf
    obtain ⟨k, hk, rfl⟩ := List.getElem_of_mem hm
    have := h k hk
    exact ⟨this.2.2.2.1, this.2.2.2.2⟩
def TxS (w : World) (g : Nat) (e : Ending) (w' : World) : Prop :=
  ∃ t : TxX, e = .returned (txV t) ∧ (1 ≤ t.src ∧ t.src ≤ 5) ∧ (1 ≤ t.seq ∧ t.seq ≤ 4) ∧ (1 ≤ t.fee ∧ t.fee ≤ 5) ∧ (1 ≤ t.ops.length ∧ t.ops.length ≤ 3) ∧ (∀ x ∈ t.ops, vOp x.o = true) ∧ TxN w.heap.size w' t ∧ SrcR 63 w' g ∧ Fr (some g) w w'
/-- The operations of a transaction that is being made: their paths lie in blocks from B on that are not the row of v. -/
def OpsO (B : Nat) (w : World) (v : Value) (l : List OpX) : Prop := ∀ x ∈ l, OpW x.o ∧ vOp x.o = true ∧ SlD w (Dx B w v) 2 x.v (flR astR x.o.path) ∧ ∀ a ∈ x.o.path, Wi a.iss
theorem OpsO.keep {B B' : Nat} {w w' : World} {v v' : Value} {l : List OpX} (h : OpsO B w v l) (hD : ∀ z, Dx B w v z → Dx B' w' v' z ∧ w'.heap[z]? = w.heap[z]?) : OpsO B' w' v' l := fun x hx => ⟨(h x hx).1, (h x hx).2.1, (h x hx).2.2.1.keep hD, (h x hx).2.2.2⟩
theorem OpsO.snoc {B : Nat} {w : World} {v : Value} {l : List OpX} {x : OpX} (h : OpsO B w v l) (hx : OpsO B w v [x]) : OpsO B w v (l ++ [x]) := fun y hy => by
  rcases List.mem_append.1 hy with hy | hy
  · exact h y hy
  · exact hx y hy
set_option maxRecDepth 100000 in
set_option maxHeartbeats 4000000 in
theorem srcTx_any (g : Nat) (G : Lgr) (A1 A2 A3 : Option Addr) (n2 n3 c1 c2 c3 : Nat) (w : World) (h : SrcR 63 w g) (hA : SlR accR w (some g) (.slice A1 G.accs.length c1) G.accs) (hG : GA G.accs) :
    Calls Tryz.prog 19 #[.pointer (some ⟨g, 0, none⟩), .agg #[.int .i64 G.num, .slice A1 G.accs.length c1, .slice A2 n2 c2, .slice A3 n3 c3, .int .i64 G.nid, .int .i64 G.fees, .int .u64 (G.link : Int)]] w (TxS w g) := by
  have hgl := h.lt
  go_enter Tryz.func19, Tryz.ntmps19
  go_upto_region 1 with (fail)
  generalize hW : w.alloc _ = w1
  have F1 : Fr none w w1 := hW ▸ (Fr.refl none w).alloc _
  have bg : w1.heap[w.heap.size]? = some (.cells #[.int .i64 G.num, .slice A1 G.accs.length c1, .slice A2 n2 c2, .slice A3 n3 c3, .int .i64 G.nid, .int .i64 G.fees, .int .u64 (G.link : Int)] 30 (0, 0)) := by rw [← hW]; exact blk_new _ _
  have s1 : w1.heap.size = w.heap.size + 1 := by rw [← hW]; exact Array.size_push _
  clear hW
  obtain ⟨rb, hrb⟩ : ∃ rb, rb = w.heap.size + 1 := ⟨_, rfl⟩
  have s1 : w1.heap.size = rb := s1.trans hrb.symm
  generalize hW : w1.alloc _ = w2
  have F2 : Fr none w1 w2 := hW ▸ (Fr.refl none w1).alloc _
  have hR : TxB w2 rb tx0 := by rw [← hW, ← s1]; exact blk_new _ _
  have hbr : w.heap.size < rb := by have := blk_lt bg; omega
  rw [← hrb]
  clear hW hrb s1
  have bg := blk_fr bg F2 (by simp)
  have FX : Fr (some g) w w2 := (F1.pure F2).mono
  have S2 := h.fr (F1.pure F2)
  clear F1 F2 h
  go_wp2_with fail
  refine (srcRange_any 1 5 g w2 (by omega) (by omega) (by omega) (by omega) S2).mono ?_
  rintro e w3 ⟨t, rfl, t1, t2, S3, F3⟩
  have t2 : t ≤ 5 := by omega
  have G4 := (Fr.refl none w3).alloc (.cells #[.int .i64 1, .int .i64 2, .int .i64 5] 3)
  have hg3 := S3.lt
  have hlit : SlI (w3.alloc (.cells #[.int .i64 1, .int .i64 2, .int .i64 5] 3)) (some g) (.slice (some ⟨w3.heap.size, 0, none⟩) 3 3) [1, 2, 5] :=
    ⟨SlD.lit_dm #[.int .i64 1, .int .i64 2, .int .i64 5] 3 3 1 rfl (by unfold maxLen; omega) (by simp; omega) (Fr.refl _ _), by intro x hx; simp at hx; constructor <;> omega⟩
  go_wp2_with fail
  refine (srcPick_any _ [1, 2, 5] g _ hlit (by simp) (by simp) (S3.fr G4)).mono ?_
  rintro e w4 ⟨f, rfl, hf, S4, F4⟩
  have hf : 1 ≤ f ∧ f ≤ 5 := by simp at hf; omega
  have F24 := F3.same (G4.mono.same F4)
  have bg := blk_fr bg F24 (by intro e; injection e with e; omega)
  have hR := hR.fr F24 (by intro e; injection e with e; omega)
  have FX := FX.same F24
  clear hlit G4 F3 F4 F24 S2 S3
  go_upto_region 2 with (fail)
  obtain ⟨tb, htb⟩ : ∃ tb, tb = w4.heap.size := ⟨_, rfl⟩
  rw [← htb]
  generalize hW : w4.alloc _ = w5
  have F5 : Fr none w4 w5 := hW ▸ (Fr.refl none w4).alloc _
  have hT : TxB w5 tb ⟨t, 1, f, [], none, 0⟩ := by rw [← hW, htb]; exact blk_new _ _
  have hrt : rb < tb := by have := hR.lt; omega
  clear hW htb
  have bg := blk_fr bg F5 (by simp)
  have hR := hR.fr F5 (by simp)
  have FX := FX.pure F5
  have S5 := S4.fr F5
  have p1 := (lgcells bg).2.1
  obtain ⟨e0, e1, e2, e3⟩ := txcells hT
  dsimp only at e0 e1 e2 e3
  clear S4 F5
  go_wp2_with fail
  refine (rfnd36_any G.accs _ t w5 (hA.fr FX).weak).mono ?_
  rintro e w6 ⟨rfl, F6⟩
  unfold accV
  have hsq := hG.fnd t
  have bg := blk_fr bg F6 (by simp)
  have hR := hR.fr F6 (by simp)
  have hT := hT.fr F6 (by simp)
  have FX := FX.pure F6
  have S6 := S5.fr F6
  clear p1 e0 e1 e2 e3 S5 F6
  generalize hV : fndA G.accs t = V at hsq ⊢
  obtain ⟨V1, V2⟩ := V
  clear hV
  dsimp only at hsq ⊢
  go_upto_if 23 with (fail)
  obtain ⟨ab, hab⟩ : ∃ ab, ab = w6.heap.size := ⟨_, rfl⟩
  rw [← hab]
  generalize hW : w6.alloc _ = w7
  have F7 : Fr none w6 w7 := hW ▸ (Fr.refl none w6).alloc _
  have ba : w7.heap[ab]? = some (.cells #[.int .i64 V1.id, .int .i64 V1.bal, .int .i64 V1.seq] 34 (0, 0)) := by rw [← hW, hab]; exact blk_new _ _
  clear hW hab
  have hR := hR.fr F7 (by simp)
  have hT := hT.fr F7 (by simp)
  have FX := FX.pure F7
  have S7 := S6.fr F7
  have q2 : w7.cell? ⟨ab, 2, none⟩ = some (.int .i64 V1.seq) := by rw [blk_cell ba]; rfl
  clear S6 F7 bg ba
  go_cut [] (fun W => ∃ sq : Int, 1 ≤ sq ∧ sq ≤ 3 ∧ TxB W tb ⟨t, sq, f, [], none, 0⟩ ∧ TxB W rb tx0 ∧ SrcR 63 W g ∧ Fr (some g) w W)
  case first =>
    obtain ⟨e0, e1, e2, e3⟩ := txcells hT
    dsimp only at e0 e1 e2 e3
    have hz := txfrees hT
    have hw1 : IntKind.i64.wrap (V1.seq + 1) = V1.seq + 1 := by rw [IntKind.wrap_i64]; omega
    cases V2 with
    | true =>
      go_wp2_with fail
      go_meet
      generalize hW : World.setCell _ _ _ = w8
      have G8 : Fr (some tb) w7 w8 := hW ▸ Fr.set1 w7 ⟨tb, 1, none⟩ (.int .i64 (V1.seq + 1))
      exact ⟨V1.seq + 1, by omega, by omega, by rw [← hW]; exact blk_set hT 1 _, hR.fr G8 (by intro e; injection e with e; omega), S7.frs G8 (fun b e => by injection e with e; omega), FX.new G8 (by omega)⟩
    | false =>
      go_wp2_with fail
      go_meet
      exact ⟨1, by omega, by omega, hT, hR, S7, FX⟩
  case rest =>
    obtain ⟨sq, s1, s2, hT, hR, S8, FX⟩ := hcut
    go_wp2_with fail
    refine (srcN_any 8 g wc (by omega) S8).mono ?_
    rintro e w9 ⟨x, rfl, x1, x2, S9, F9⟩
    have hT := hT.fr F9 (by intro e; injection e with e; omega)
    have hR := hR.fr F9 (by intro e; injection e with e; omega)
    have FX := FX.same F9
    clear S8 F9
    go_upto_if 30 with (fail)
    go_cut [] (fun W => ∃ sq : Int, 1 ≤ sq ∧ sq ≤ 4 ∧ TxB W tb ⟨t, sq, f, [], none, 0⟩ ∧ TxB W rb tx0 ∧ SrcR 63 W g ∧ Fr (some g) w W)
    case first =>
      obtain ⟨e0, e1, e2, e3⟩ := txcells hT
      dsimp only at e0 e1 e2 e3
      have hz := txfrees hT
      have hw1 : IntKind.i64.wrap (sq + 1) = sq + 1 := by rw [IntKind.wrap_i64]; omega
      by_cases h7 : x = 7
      · have h7' : (x == 7) = true := by rw [beq_iff_eq]; exact h7
        clear h7
        go_wp2_with fail
        go_meet
        generalize hW : World.setCell _ _ _ = w10
        have G8 : Fr (some tb) w9 w10 := hW ▸ Fr.set1 w9 ⟨tb, 1, none⟩ (.int .i64 (sq + 1))
        exact ⟨sq + 1, by omega, by omega, by rw [← hW]; exact blk_set hT 1 _, hR.fr G8 (by intro e; injection e with e; omega), S9.frs G8 (fun b e => by injection e with e; omega), FX.new G8 (by omega)⟩
      · have h7' : (x == 7) = false := by rw [beq_eq_false_iff_ne]; exact h7
        clear h7
        go_wp2_with fail
        go_meet
        exact ⟨sq, by omega, by omega, hT, hR, S9, FX⟩
    case rest =>
      clear hT hR FX S9 s1 s2
      obtain ⟨sq, s1, s2, hT, hR, S9, FX⟩ := hcut
      go_wp2_with fail
      refine (srcRange_any 1 3 g _ (by omega) (by omega) (by omega) (by omega) S9).mono ?_
      rintro e w11 ⟨n, rfl, n1, n2, S11, F11⟩
      have n2 : n ≤ 3 := by omega
      have hT := hT.fr F11 (by intro e; injection e with e; omega)
      have hR := hR.fr F11 (by intro e; injection e with e; omega)
      have FX := FX.same F11
      have hTl := hT.lt
      clear S9 F11
      go_wp2_with fail
      go_loopw [8] (fun s8 wr => ∃ (j : Int) (l : List OpX) (Ap : Option Addr) (cp : Nat), s8 = .int .i64 j ∧ 0 ≤ j ∧ j + (l.length : Int) = n ∧ TxB wr tb ⟨t, sq, f, l, Ap, cp⟩ ∧ SrcR 63 wr g ∧ TxB wr rb tx0 ∧ Fr (some g) w wr ∧ wr.ownsRow (tb + 1) 92 12 (.slice Ap l.length cp) l.length (flR opR l) ∧ OpsO (tb + 1) wr (.slice Ap l.length cp) l ∧ tb < wr.heap.size) (fun s8 _ => (intOf s8).toNat)
      case atStart => exact ⟨n, [], none, 0, rfl, by omega, by simp, hT, S11, hR, FX, World.ownsRow_nil _ _ _ _, (fun z hz => by cases hz), hTl⟩
      case round =>
        clear hT hR FX S11 hTl
        obtain ⟨j, l, Ap, cp, rfl, hj0, hj2, hT, hS, hR, FX, own, HP, hTl⟩ := hrel
        by_cases hlt : 0 < j
        · have hm1 : IntKind.i64.wrap (j - 1) = j - 1 := by rw [IntKind.wrap_i64]; omega
          have hl2 : l.length ≤ 3 := by omega
          have hcp := own_cap own
          go_upto_region 10 with (fail)
          have HT0 := Lib.hid hT
          refine wp_region_fxP (fun W => TxB W tb ⟨t, sq, f, l, Ap, cp⟩) (fun W => TxB W tb ⟨t, sq, f, l, Ap, cp⟩ ∧ SrcR 63 W g ∧ TxB W rb tx0 ∧ Fr (some g) w W ∧ W.ownsRow (tb + 1) 92 12 (.slice Ap l.length cp) l.length (flR opR l) ∧ OpsO (tb + 1) W (.slice Ap l.length cp) l ∧ tb < W.heap.size) [3, 4, 5, 7] [0, 1, 2, 3, 4, 5, 6, 7] 49 [none, some 47, some 46, some 45, some 44, some 43, some 42, some 41] (by kernel_rfl) (by kernel_rfl) (by kernel_rfl) (Nat.le_refl _) (show (fun W => TxB W tb ⟨t, sq, f, l, Ap, cp⟩ ∧ SrcR 63 W g ∧ TxB W rb tx0 ∧ Fr (some g) w W ∧ W.ownsRow (tb + 1) 92 12 (.slice Ap l.length cp) l.length (flR opR l) ∧ OpsO (tb + 1) W (.slice Ap l.length cp) l ∧ tb < W.heap.size) _ from (by exact ⟨HT0.out, hS.drew, hR, FX.drew, own.drew, HP, hTl⟩)) (fun W h => h.1) ?_
          clear hT hS hR FX own HT0 hTl HP
          refine FxP.pure (v := ?_) rfl rfl rfl (fun ev w E => ?_) ?_; rotate_left
          · obtain ⟨t5, ec, ef, eg⟩ := E.get [] [5] (by kernel_rfl); clear E; go_simp; try with_reducible rfl
          refine FxP.load (v := ?_) rfl rfl rfl (fun ev w hS E => ?_) ?_; rotate_left
          · obtain ⟨c0, c1, c2, c3⟩ := txcells hS
            dsimp only at c0 c1 c2 c3
            obtain ⟨t41, ec, ef, eg⟩ := E.get [(0, 0, 41)] [] (by kernel_rfl); clear E; simp only [nthV] at t41; go_simp; try with_reducible rfl
          refine FxP.pure (v := ?_) rfl rfl rfl (fun ev w E => ?_) ?_; rotate_left
          · obtain ⟨t0, ec, ef, eg⟩ := E.get [] [0] (by kernel_rfl); clear E; go_simp; try with_reducible rfl
          refine FxP.call (f := ?_) (args := ?_) (fun v W => TxB W tb ⟨t, sq, f, l, Ap, cp⟩ ∧ ∃ z : OpX, v = .agg (opL z.o z.v).toArray ∧ OpsO (tb + 1) W (.slice Ap l.length cp) [z] ∧ SrcR 63 W g ∧ TxB W rb tx0 ∧ Fr (some g) w W ∧ W.ownsRow (tb + 1) 92 12 (.slice Ap l.length cp) l.length (flR opR l) ∧ OpsO (tb + 1) W (.slice Ap l.length cp) l ∧ tb < W.heap.size) rfl rfl rfl (by kernel_rfl) (fun ev w hS E => ?_) (fun w hS => ?_) (fun v W h => h.1) ?_; rotate_left 2
          · obtain ⟨t43, ec, ef, eg⟩ := E.get [(0, 2, 43)] [] (by kernel_rfl); clear E; simp only [nthV] at t43; go_simp; first | (refine And.intro ?_ ?_ <;> with_reducible rfl) | with_reducible rfl
          · refine (srcOp_any g w hS.2.1).mono ?_
            rintro e w2 ⟨z, rfl, z1, z2, z3, S2, F2⟩
            obtain ⟨q1, q2, q3, q4, q5, q6, q7⟩ := hS
            exact ⟨_, rfl, q1.fr F2 (by intro e; injection e with e; omega), z, rfl, (fun y hy => by rw [List.mem_singleton.1 hy]; exact ⟨z3, z1, z2.1.keep (dn_dx (by omega) (fun b hb => (q5.lt b hb).2)), z2.2⟩), S2, q3.fr F2 (by intro e; injection e with e; omega), q4.same F2, own_fr q5 F2 (fun b hb => by injection hb with hb; omega), q6.keep (dx_fr F2 (fun b hb => by injection hb with hb; omega)), Nat.lt_of_lt_of_le q7 F2.size⟩
          rintro v44 wq hT44
          clear hT44 wq
          refine FxP.new (fun u W => TxB W tb ⟨t, sq, f, l, Ap, cp⟩ ∧ ∃ (z : OpX) (bk : Nat), u = .slice (some ⟨bk, 0, none⟩) 1 1 ∧ W.heap[bk]? = some (.cells (opL z.o z.v).toArray 92 (0, 0)) ∧ OpsO (tb + 1) W (.slice Ap l.length cp) [z] ∧ SrcR 63 W g ∧ TxB W rb tx0 ∧ Fr (some g) w W ∧ W.ownsRow (tb + 1) 92 12 (.slice Ap l.length cp) l.length (flR opR l) ∧ OpsO (tb + 1) W (.slice Ap l.length cp) l ∧ tb < W.heap.size) rfl rfl rfl (by kernel_rfl) (fun ev w hS E => ?_) (fun v W h => h.1) ?_
          · obtain ⟨t44, ec, ef, eg⟩ := E.get [(0, 3, 44)] [] (by kernel_rfl); clear E; simp only [nthV] at t44
            obtain ⟨q1, z, rfl, q8, q2, q3, q4, q5, q6, q7⟩ := hS
            simp only [opL, OpX.v] at t44
            refine ⟨?_, ?_, ?_, ?_⟩
            rotate_left 2
            · go_simp; first | (refine And.intro ?_ ?_ <;> with_reducible rfl) | with_reducible rfl
            have FA := (Fr.refl none w).alloc (.cells (opL z.o z.v).toArray 92)
            exact ⟨q1.fr FA (by simp), z, w.heap.size, rfl, blk_new _ _, q8.keep (dx_fr FA (by simp)), q2.fr FA, q3.fr FA (by simp), q4.pure FA, own_fr q5 FA (by simp), q6.keep (dx_fr FA (by simp)), Nat.lt_of_lt_of_le q7 FA.size⟩
          rintro v45 wq hT45
          clear hT45 wq
          refine FxP.new (fun u W => TxB W tb ⟨t, sq, f, l, Ap, cp⟩ ∧ ∃ (z : OpX) (A' : Option Addr) (c' : Nat), u = .slice A' (l.length + 1) c' ∧ SrcR 63 W g ∧ TxB W rb tx0 ∧ Fr (some g) w W ∧ W.ownsRow (tb + 1) 92 12 (.slice A' (l.length + 1) c') (l.length + 1) (flR opR (l ++ [z])) ∧ OpsO (tb + 1) W (.slice A' (l.length + 1) c') (l ++ [z]) ∧ tb < W.heap.size) rfl rfl rfl (by kernel_rfl) (fun ev w hS E => ?_) (fun v W h => h.1) ?_
          · obtain ⟨t42, t45, ec, ef, eg⟩ := E.get [(3, 1, 42), (0, 4, 45)] [] (by kernel_rfl); clear E; simp only [nthV] at t42 t45
            obtain ⟨q1, z, bk, rfl, hbk, q8, q2, q3, q4, q5, q6, q7⟩ := hS
            refine app_new eiOp (.tmp 42) (.tmp 45) rfl (tb + 1) Ap l.length cp (flR opR l) t42 q5 _ 1 1 _ t45 (sld_blk hbk 1 12 rfl (by unfold maxLen; omega)) (opL_one _ _ _ _) (by omega) (by unfold maxLen; omega) (by omega) ?_
            intro A' c' w' own' F' nb
            exact ⟨q1.fr F' (own_ne q5 (by omega)), z, A', c', rfl, q2.frs F' (fun b e => by have := own_blk_ge q5 b e; omega), q3.fr F' (own_ne q5 (by omega)), q4.own F' (fun b e => by have := own_blk_ge q5 b e; omega), by rw [flR_snoc]; exact own', (q6.snoc q8).keep (dx_app F' nb), Nat.lt_of_lt_of_le q7 F'.size⟩
          rintro v46 wq hT46
          clear hT46 wq
          refine FxP.pure (v := ?_) rfl rfl rfl (fun ev w E => ?_) ?_; rotate_left
          · obtain ⟨t5, ec, ef, eg⟩ := E.get [] [5] (by kernel_rfl); clear E; go_simp; try with_reducible rfl
          refine FxP.store (S' := (fun W => ∃ (z : OpX) (A' : Option Addr) (c' : Nat), TxB W tb ⟨t, sq, f, l ++ [z], A', c'⟩ ∧ SrcR 63 W g ∧ TxB W rb tx0 ∧ Fr (some g) w W ∧ W.ownsRow (tb + 1) 92 12 (.slice A' (l.length + 1) c') (l.length + 1) (flR opR (l ++ [z])) ∧ OpsO (tb + 1) W (.slice A' (l.length + 1) c') (l ++ [z]) ∧ tb < W.heap.size)) rfl rfl rfl (by kernel_rfl) (fun ev w hS E => ?_) (NextP.new (G' := fun _ => True) (by kernel_rfl) (fun _ _ => trivial)) ?_
          · obtain ⟨q1, z, A', c', rfl, q2, q3, q4, q5, q6, q7⟩ := hS
            have hz := txfrees q1
            obtain ⟨c0, c1, c2, c3⟩ := txcells q1
            obtain ⟨t47, t46, ec, ef, eg⟩ := E.get [(0, 6, 47), (1, 5, 46)] [] (by kernel_rfl); clear E; simp only [nthV] at t47 t46
            refine ⟨?_, ?_, ?_⟩
            rotate_left
            · go_simp; try with_reducible rfl
            · have G : Fr (some tb) w _ := Fr.set1 w ⟨tb, 3, none⟩ (.slice A' (l.length + 1) c')
              refine ⟨z, A', c', ?_, q2.frs G (fun b e => by injection e with e; omega), q3.fr G (by intro e; injection e with e; omega), q4.new G (by omega), own_fr q5 G (fun b hb => by injection hb with hb; omega), q6.keep (dx_fr G (fun b hb => by injection hb with hb; omega)), Nat.lt_of_lt_of_le q7 G.size⟩
              have hq := blk_set q1 3 (.slice A' (l.length + 1) c')
              unfold TxB txC TxX.v
              simp only [List.length_append, List.length_cons, List.length_nil]
              exact hq
          refine FxP.done (fun W hW => ?_)
          simp only [fillZ]
          try simp only [Act.put, List.setIfInBounds_toArray, List.set_cons_zero, List.set_cons_succ, List.getElem_toArray, List.getElem_cons_zero, List.getElem_cons_succ]
          obtain ⟨z, A', c', q1, q2, q3, q4, q5, q6, q7⟩ := hW
          go_wp2_with fail
          go_roundw
          case rel => exact ⟨j - 1, l ++ [z], A', c', by go_num, by omega, by rw [List.length_append]; simp only [List.length_cons, List.length_nil]; omega, q1, q2, q3, q4, by rw [List.length_append]; exact q5, by rw [List.length_append]; exact q6, q7⟩
          case measure => simp [intOf]; omega
        · have hl2 : 1 ≤ l.length ∧ l.length ≤ 3 := by omega
          obtain ⟨c0, c1, c2, c3⟩ := txcells hT
          dsimp only at c0 c1 c2 c3
          have el := hR.lt
          have HOW := Lib.hid own
          have HPP := Lib.hid HP
          clear own HP
          have hz := txfrees hR
          obtain ⟨e0, e1, e2, e3⟩ := txcells hR
          simp only [tx0, List.length_nil] at e0 e1 e2 e3
          go_wp2_with fail
          generalize hW5 : World.setCell _ _ _ = w9'
          obtain ⟨R9, G9⟩ := txw4 hR ⟨t, sq, f, l, Ap, cp⟩ w9' hW5.symm
          clear hW5 e0 e1 e2 e3
          obtain ⟨e0, e1, e2, e3⟩ := txcells R9
          dsimp only at e0 e1 e2 e3
          refine bodyPost_ret (v := txV ⟨t, sq, f, l, Ap, cp⟩) (by simp [results, Tryz.results19, go_sem, txV, txC, TxX.v, e0, e1, e2, e3]) rfl ?_
          refine ⟨⟨t, sq, f, l, Ap, cp⟩, rfl, ⟨t1, t2⟩, ⟨s1, s2⟩, hf, hl2, fun z hz => (HPP.out z hz).2.1, ⟨(SlN.of_own (R := opR) (own_fr HOW.out G9 (fun b hb => by injection hb with hb; omega)) (fun z hz => (HPP.out z hz).1)).mono (by omega), fun z hz => ?_⟩, hS.frs G9 (fun b e => by injection e with e; omega), FX.new G9 (by omega)⟩
          have hq := HPP.out z hz
          exact ⟨(hq.2.2.1.keep (dx_fr G9 (fun b hb => by injection hb with hb; omega))).keep (fun b hb => ⟨⟨by have := hb.1; omega, hb.2.1⟩, rfl⟩), hq.2.2.2⟩
end Go.Proofs.YtonhhnedfjonoaaGreatDoor

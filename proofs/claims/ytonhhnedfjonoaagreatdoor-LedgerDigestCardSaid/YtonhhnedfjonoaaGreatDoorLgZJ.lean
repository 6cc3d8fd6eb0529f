/- Walks: the bytes of a ledger. -/
import Derived.Test.YtonhhnedfjonoaaGreatDoorProg
import Derived.Test.YtonhhnedfjonoaaGreatDoorJL10
set_option linter.unusedSimpArgs false
set_option linter.unusedVariables false
namespace Go.Proofs.YtonhhnedfjonoaaGreatDoor
open Go.RowKit

theorem wiz1 {a : Int} (ha : Wi a) : ∀ x ∈ ([a] : List Int), Wi x := fun x hx => by
  obtain rfl := List.mem_singleton.1 hx
  exact ha
theorem wiz2 {a b : Int} (ha : Wi a) (hb : Wi b) : ∀ x ∈ ([a, b] : List Int), Wi x := fun x hx => by
  rcases List.mem_cons.1 hx with rfl | hx
  · exact ha
  · exact wiz1 hb x hx
theorem wiz3 {a b c : Int} (ha : Wi a) (hb : Wi b) (hc : Wi c) : ∀ x ∈ ([a, b, c] : List Int), Wi x := fun x hx => by
  rcases List.mem_cons.1 hx with rfl | hx
  · exact ha
  · exact wiz2 hb hc x hx
theorem flat_len {α : Type} (f : α → List UInt8) (c : Nat) : ∀ l : List α, (∀ x ∈ l, (f x).length ≤ c) → (l.flatMap f).length ≤ c * l.length
  | [], _ => by simp
  | x :: r, h => by
    have h1 := h x (by simp)
    have h2 := flat_len f c r (fun y hy => h y (by simp [hy]))
    rw [List.flatMap_cons, List.length_append, List.length_cons, Nat.mul_succ]
    omega
theorem flat_take {α : Type} (f : α → List UInt8) (l : List α) (k : Nat) (hk : k < l.length) : (l.take (k + 1)).flatMap f = (l.take k).flatMap f ++ f l[k] := by
  rw [List.take_succ_eq_append_getElem hk, List.flatMap_append]
  simp
theorem astT_len {a : Ast} (h : Wi a.iss) (hc : a.code.length ≤ 1000) : (astT a).length ≤ 1021 := by
  have := itoaL_len h
  unfold astT
  split
  · simp
  · rw [List.length_append]; omega
theorem accB_len {a : Acct} (h : accR.ok a) : (accB a).length ≤ 66 := by
  have h1 := nwB_len h.1
  have h2 := nwB_len h.2.1
  have h3 := nwB_len h.2.2
  unfold accB
  simp only [List.length_append]
  omega
theorem lnB_len {a : Ln} (h : lnR.ok a) (hc : a.ast.code.length ≤ 1000) : (lnB a).length ≤ 1088 := by
  have h1 := nwB_len h.1
  have h2 := astT_len h.2.1 hc
  have h3 := nwB_len h.2.2.1
  have h4 := nwB_len h.2.2.2
  unfold lnB wdB
  simp only [List.length_append, List.length_cons, List.length_nil]
  omega
theorem ofB_len {a : Ofr} (h : ofR.ok a) (hc : a.sg.code.length ≤ 1000 ∧ a.by_.code.length ≤ 1000) : (ofB a).length ≤ 2154 := by
  have h1 := nwB_len h.1
  have h2 := nwB_len h.2.1
  have h3 := astT_len h.2.2.1 hc.1
  have h4 := astT_len h.2.2.2.1 hc.2
  have h5 := nwB_len h.2.2.2.2.1
  have h6 := nwB_len h.2.2.2.2.2.1
  have h7 := nwB_len h.2.2.2.2.2.2
  unfold ofB wdB
  simp only [List.length_append, List.length_cons, List.length_nil]
  omega
/-- A ledger that is not too great for its bytes. -/
structure SmG (G : Lgr) : Prop where
  a : G.accs.length ≤ 1000
  l : G.lines.length ≤ 1000
  o : G.offers.length ≤ 1000
  lc : ∀ x ∈ G.lines, x.ast.code.length ≤ 1000
  oc : ∀ x ∈ G.offers, x.sg.code.length ≤ 1000 ∧ x.by_.code.length ≤ 1000
set_option maxRecDepth 100000 in
set_option maxHeartbeats 4000000 in
theorem pbytes_any (G : Lgr) (va vl vo : Value) (w : World) (h : LgS w none G va vl vo) (hm : SmG G) (hT : Tab w) :
    Calls Tryz.prog 10 #[.agg #[.int .i64 G.num, va, vl, vo, .int .i64 G.nid, .int .i64 G.fees, .int .u64 (G.link : Int)]] w fun e w' => ∃ v, e = .returned v ∧ SlD w' (Dn w.heap.size w') 1 v (Lib.byteCells (bytesG G)) ∧ Fr none w w' := by
  obtain ⟨A1, ca, rfl, _, _, hca⟩ := accR_open h.1
  obtain ⟨A2, cl, rfl, _, _, hcl⟩ := lnR_open h.2.1
  obtain ⟨A3, co, rfl, _, _, hco⟩ := ofR_open h.2.2.1
  have HA := Lib.hid hca
  have HL := Lib.hid hcl
  have HO := Lib.hid hco
  have HG := Lib.hid h
  have HM := Lib.hid hm
  obtain ⟨ha, hl, ho⟩ : G.accs.length ≤ 1000 ∧ G.lines.length ≤ 1000 ∧ G.offers.length ≤ 1000 := ⟨hm.a, hm.l, hm.o⟩
  have hTl := hT.cells.1
  clear hca hcl hco h hm
  go_enter Tryz.func10, Tryz.ntmps10
  go_upto_region 1 with (fail)
  generalize hW : w.alloc _ = w1
  have F1 : Fr none w w1 := hW ▸ (Fr.refl none w).alloc _
  have b1 : w1.heap[w.heap.size]? = some (.cells #[.int .i64 G.num, .slice A1 G.accs.length ca, .slice A2 G.lines.length cl, .slice A3 G.offers.length co, .int .i64 G.nid, .int .i64 G.fees, .int .u64 (G.link : Int)] 30 (0, 0)) := by rw [← hW]; exact blk_new _ _
  have hz1 : w1.heap.size = w.heap.size + 1 := by rw [← hW]; simp
  have HZ1 := Lib.hid hz1
  clear hW hz1
  go_upto_region 2 with (fail)
  generalize hW : w1.alloc _ = w2
  have F2 : Fr none w1 w2 := hW ▸ (Fr.refl none w1).alloc _
  have hP0 : PgB w1.heap.size w1.heap.size [] w2 := by rw [← hW]; exact Lib.fresh_isBuilder _ _ w1
  have hz2 : w2.heap.size = w1.heap.size + 1 := by rw [← hW]; simp
  clear hW
  obtain ⟨b, hbb⟩ : ∃ b, b = w1.heap.size := ⟨_, rfl⟩
  rw [← hbb] at hP0 hz2
  rw [← hbb]
  have hz1 : b = w.heap.size + 1 := hbb.trans HZ1.out
  have HZb := Lib.hid hz1
  have hwb : w.heap.size < b := by omega
  have hzb : b < w2.heap.size := by omega
  clear hbb hz1 hz2
  have HK : Hid (∀ W, Below b w2 W → W.cell? ⟨w.heap.size, 0, none⟩ = some (.int .i64 G.num) ∧ W.cell? ⟨w.heap.size, 1, none⟩ = some (.slice A1 G.accs.length ca) ∧ W.cell? ⟨w.heap.size, 2, none⟩ = some (.slice A2 G.lines.length cl) ∧ W.cell? ⟨w.heap.size, 3, none⟩ = some (.slice A3 G.offers.length co) ∧ W.cell? ⟨w.heap.size, 4, none⟩ = some (.int .i64 G.nid) ∧ W.cell? ⟨w.heap.size, 5, none⟩ = some (.int .i64 G.fees) ∧ W.cell? ⟨w.heap.size, 6, none⟩ = some (.int .u64 (G.link : Int)) ∧ w2.heap.size ≤ W.heap.size) := fun W hB => by
    have q : W.heap[w.heap.size]? = _ := (hB.block w.heap.size (by omega)).trans (blk_fr b1 F2 (by simp))
    exact ⟨by rw [blk_cell q]; rfl, by rw [blk_cell q]; rfl, by rw [blk_cell q]; rfl, by rw [blk_cell q]; rfl, by rw [blk_cell q]; rfl, by rw [blk_cell q]; rfl, by rw [blk_cell q]; rfl, hB.size⟩
  have HE : Hid (∀ W, Below b w2 W → ∀ (p : Addr) (u : Value), p.block < w.heap.size → w.cell? p = some u → W.cell? p = some u) := fun W hB p u hp hc => by
    have h2 := (F1.pure F2).keep hc (by simp)
    have : W.cell? p = w2.cell? p := World.cell?_of_block (hB.block p.block (by omega))
    rw [this]
    exact h2
  have hTb : 0 < b := by omega
  have hT := hT.fr (F1.pure F2)
  have hB : Below b w2 w2 := Below.refl _ _
  have HF02 := Lib.hid (F1.pure F2)
  clear b1 F1 F2 hTl
  have hL0 : ([] : List UInt8).length ≤ 0 := by simp
  obtain ⟨k0, k1, k2, k3, k4, k5, k6, kz⟩ := HK.out w2 hB
  have hP := hP0
  clear hP0
  go_wp2_with fail
  have F3 := (Fr.refl none w2).alloc (.cells (([G.num, G.nid, G.fees] : List Int).map (Value.int .i64)).toArray 3)
  have hb3 := blk_new w2 (.cells (([G.num, G.nid, G.fees] : List Int).map (Value.int .i64)).toArray 3)
  have hz3 := F3.size
  have hWz := hB.size
  have hB3 := hB.trans (F3.below.mono (show b ≤ (w2).heap.size by omega))
  have hwi : ∀ u ∈ ([G.num, G.nid, G.fees] : List Int), Wi u := (wiz3 HG.out.2.2.2.1 HG.out.2.2.2.2.1 HG.out.2.2.2.2.2.1)
  refine (pgnum_any b b (w2).heap.size ([] : List UInt8) [G.num, G.nid, G.fees] _ (hP.fr F3) hb3 (by omega) (by simp only [List.length_cons, List.length_nil]; omega) (by simp) hwi (hT.below hB3 hTb) hTb).mono ?_
  rintro e w3 ⟨rfl, hP1, hB1, hF1⟩
  obtain ⟨L1, hq⟩ : ∃ z, z = ([] : List UInt8) ++ numsB [G.num, G.nid, G.fees] := ⟨_, rfl⟩
  rw [← hq] at hP1
  have hL1 : (L1).length ≤ (([] : List UInt8)).length + 66 := by rw [hq]; have := numsB_len [G.num, G.nid, G.fees] hwi; simp only [List.length_append, List.length_cons, List.length_nil] at this ⊢; omega
  have HL1 := Lib.hid hq
  have hF := (PgF.fr F3).trans hF1
  have hB := hB3.trans hB1
  have hP := hP1
  clear hq hP1 hB1 hF1 hB3 hwi hb3 F3 hz3
  clear k0 k1 k2 k3 k4 k5 k6 kz
  obtain ⟨k0, k1, k2, k3, k4, k5, k6, kz⟩ := HK.out w3 hB
  go_wp2_with fail
  refine (fmu_any G.link HG.out.2.2.2.2.2.2 w3 (hT.below hB hTb)).mono ?_
  rintro e w4 ⟨rfl, F4⟩
  have hB := hB.trans (F4.below.mono (by omega))
  have hP := hP.fr F4
  clear k0 k1 k2 k3 k4 k5 k6 kz
  have hdl : (Lib.decDigits G.link).length ≤ 20 := by rw [Lib.decDigits_length]; exact Lib.nDigits_le20 _ HG.out.2.2.2.2.2.2
  go_wp2_with fail
  have F3 := (Fr.refl none w4).alloc (.cells (([Lib.decDigits G.link] : List (List UInt8)).map fun x => Value.string (bL x)).toArray 9)
  have hb3 := blk_new w4 (.cells (([Lib.decDigits G.link] : List (List UInt8)).map fun x => Value.string (bL x)).toArray 9)
  have hz3 := F3.size
  have hWz := hB.size
  have hB3 := hB.trans (F3.below.mono (show b ≤ (w4).heap.size by omega))
  have hwl : (wdsB [Lib.decDigits G.link]).length ≤ 21 := (by simp [wdsB]; omega)
  refine (pgput_any b b (w4).heap.size L1 [Lib.decDigits G.link] _ (hP.fr F3) hb3 (by omega) (by omega) (by simp)).mono ?_
  rintro e w5 ⟨rfl, hP1, hB1, hF1⟩
  obtain ⟨L2, hq⟩ : ∃ z, z = L1 ++ wdsB [Lib.decDigits G.link] := ⟨_, rfl⟩
  rw [← hq] at hP1
  have hL2 : (L2).length ≤ (L1).length + 21 := by rw [hq, List.length_append]; omega
  have HL2 := Lib.hid hq
  have hF := (PgF.fr F3).trans hF1
  have hB := hB3.trans hB1
  have hP := hP1
  clear hq hP1 hB1 hF1 hB3 hwl hb3 F3 hz3
  obtain ⟨k0, k1, k2, k3, k4, k5, k6, kz⟩ := HK.out w5 hB
  go_wp2_with fail
  have F3 := (Fr.refl none w5).alloc (.cells (([(G.accs.length : Int)] : List Int).map (Value.int .i64)).toArray 3)
  have hb3 := blk_new w5 (.cells (([(G.accs.length : Int)] : List Int).map (Value.int .i64)).toArray 3)
  have hz3 := F3.size
  have hWz := hB.size
  have hB3 := hB.trans (F3.below.mono (show b ≤ (w5).heap.size by omega))
  have hwi : ∀ u ∈ ([(G.accs.length : Int)] : List Int), Wi u := (wiz1 (by constructor <;> omega))
  refine (pgnum_any b b (w5).heap.size L2 [(G.accs.length : Int)] _ (hP.fr F3) hb3 (by omega) (by simp only [List.length_cons, List.length_nil]; omega) (by simp) hwi (hT.below hB3 hTb) hTb).mono ?_
  rintro e w6 ⟨rfl, hP1, hB1, hF1⟩
  obtain ⟨L3, hq⟩ : ∃ z, z = L2 ++ numsB [(G.accs.length : Int)] := ⟨_, rfl⟩
  rw [← hq] at hP1
  have hL3 : (L3).length ≤ (L2).length + 22 := by rw [hq]; have := numsB_len [(G.accs.length : Int)] hwi; simp only [List.length_append, List.length_cons, List.length_nil] at this ⊢; omega
  have HL3 := Lib.hid hq
  have hF := (PgF.fr F3).trans hF1
  have hB := hB3.trans hB1
  have hP := hP1
  clear hq hP1 hB1 hF1 hB3 hwi hb3 F3 hz3
  clear k0 k1 k2 k3 k4 k5 k6 kz
  obtain ⟨k0, k1, k2, k3, k4, k5, k6, kz⟩ := HK.out w6 hB
  have hL3' : L3.length ≤ 109 := by simp at hL1; omega
  clear hL1 hL2 hL3 hdl F4 hF
  go_wp2_with fail
  clear k0 k1 k2 k3 k4 k5 k6 kz
  go_loopw [31] (fun s31 wr => ∃ k : Nat, k ≤ G.accs.length ∧ s31 = .int .i64 (k : Int) ∧ PgB b b (L3 ++ (G.accs.take k).flatMap accB) wr ∧ Below b w2 wr) (fun s31 _ => G.accs.length - (intOf s31).toNat)
  case atStart => exact ⟨0, by omega, rfl, by simpa using hP, hB⟩
  case round =>
    clear hP hB hWz
    obtain ⟨k, hk, rfl, hP, hB⟩ := hrel
    obtain ⟨wz, hwz⟩ : ∃ wz : World, wz = wr := ⟨_, rfl⟩
    subst hwz
    have hZl := flat_len accB 66 (G.accs.take k) (fun x hx => accB_len (HG.out.1.2 x (List.mem_of_mem_take hx)))
    rw [List.length_take] at hZl
    have hZ2 : (L3 ++ (G.accs.take k).flatMap accB).length ≤ 66109 := by rw [List.length_append]; have hmn : min k G.accs.length ≤ 1000 := (by omega); omega
    clear hZl
    by_cases hlt : k < G.accs.length
    · obtain ⟨q, off, rfl, hq, _, hcc⟩ := HA.out (by omega)
      obtain ⟨d1, d2, d3⟩ := hcc k hlt
      have d1 := HE.out wz hB _ _ hq d1
      have d2 := HE.out wz hB _ _ hq d2
      have d3 := HE.out wz hB _ _ hq d3
      have hok : accR.ok G.accs[k] := HG.out.1.2 _ (List.getElem_mem hlt)
      have HOK := Lib.hid hok
      have hnx : L3 ++ (G.accs.take (k + 1)).flatMap accB = (L3 ++ (G.accs.take k).flatMap accB) ++ accB G.accs[k] := by rw [flat_take accB G.accs k hlt, List.append_assoc]
      have HNX := Lib.hid hnx
      clear hcc hnx hok
      have hqz : q < wz.heap.size := by have := hB.size; omega
      generalize G.accs[k] = x at *
      obtain ⟨LK, hLK⟩ : ∃ LK, LK = L3 ++ (G.accs.take k).flatMap accB := ⟨_, rfl⟩
      rw [← hLK] at hP hZ2 HNX
      clear hLK
      go_upto_region 8 with (fail)
      generalize hW : wz.alloc _ = wd
      have Fd : Fr none wz wd := hW ▸ (Fr.refl none wz).alloc _
      have b5 : wd.heap[wz.heap.size]? = some (.cells #[.int .i64 x.id, .int .i64 x.bal, .int .i64 x.seq] 34 (0, 0)) := by rw [← hW]; exact blk_new _ _
      clear hW
      have r0 : wd.cell? ⟨wz.heap.size, 0, none⟩ = some (.int .i64 x.id) := by rw [blk_cell b5]; rfl
      have r1 : wd.cell? ⟨wz.heap.size, 1, none⟩ = some (.int .i64 x.bal) := by rw [blk_cell b5]; rfl
      have r2 : wd.cell? ⟨wz.heap.size, 2, none⟩ = some (.int .i64 x.seq) := by rw [blk_cell b5]; rfl
      have lb5 := blk_lt b5
      have hB := hB.trans (Fd.below.mono (by have := hB.size; omega))
      have hP := hP.fr Fd
      clear d1 d2 d3 Fd
      go_wp2_with fail
      have F3 := (Fr.refl none wd).alloc (.cells (([x.id, x.bal, x.seq] : List Int).map (Value.int .i64)).toArray 3)
      have hb3 := blk_new wd (.cells (([x.id, x.bal, x.seq] : List Int).map (Value.int .i64)).toArray 3)
      have hz3 := F3.size
      have hWz := hB.size
      have hB3 := hB.trans (F3.below.mono (show b ≤ (wd).heap.size by omega))
      have hwi : ∀ u ∈ ([x.id, x.bal, x.seq] : List Int), Wi u := (wiz3 HOK.out.1 HOK.out.2.1 HOK.out.2.2)
      refine (pgnum_any b b (wd).heap.size LK [x.id, x.bal, x.seq] _ (hP.fr F3) hb3 (by omega) (by simp only [List.length_cons, List.length_nil]; omega) (by simp) hwi (hT.below hB3 hTb) hTb).mono ?_
      rintro e we ⟨rfl, hP1, hB1, hF1⟩
      obtain ⟨LN, hq⟩ : ∃ z, z = LK ++ numsB [x.id, x.bal, x.seq] := ⟨_, rfl⟩
      rw [← hq] at hP1
      have hLN : (LN).length ≤ (LK).length + 66 := by rw [hq]; have := numsB_len [x.id, x.bal, x.seq] hwi; simp only [List.length_append, List.length_cons, List.length_nil] at this ⊢; omega
      have HLN := Lib.hid hq
      have hF := (PgF.fr F3).trans hF1
      have hB := hB3.trans hB1
      have hP := hP1
      clear hq hP1 hB1 hF1 hB3 hwi hb3 F3 hz3
      clear r0 r1 r2 lb5 b5
      go_wp2_with fail
      go_roundw
      case rel => exact ⟨k + 1, hlt, by go_num, by rw [HNX.out, show accB x = numsB [x.id, x.bal, x.seq] by simp [accB, numsB], ← HLN.out]; exact hP, hB⟩
      case measure => simp [intOf]; omega
    · obtain rfl : k = G.accs.length := by omega
      rw [List.take_length] at hP hZ2
      obtain ⟨L4, hL4⟩ : ∃ L4, L4 = L3 ++ G.accs.flatMap accB := ⟨_, rfl⟩
      rw [← hL4] at hP hZ2
      have HL4 := Lib.hid hL4
      clear hL4
      obtain ⟨k0, k1, k2, k3, k4, k5, k6, kz⟩ := HK.out wz hB
      go_wp2_with fail
      have F3 := (Fr.refl none wz).alloc (.cells (([(G.lines.length : Int)] : List Int).map (Value.int .i64)).toArray 3)
      have hb3 := blk_new wz (.cells (([(G.lines.length : Int)] : List Int).map (Value.int .i64)).toArray 3)
      have hz3 := F3.size
      have hWz := hB.size
      have hB3 := hB.trans (F3.below.mono (show b ≤ (wz).heap.size by omega))
      have hwi : ∀ u ∈ ([(G.lines.length : Int)] : List Int), Wi u := (wiz1 (by constructor <;> omega))
      refine (pgnum_any b b (wz).heap.size L4 [(G.lines.length : Int)] _ (hP.fr F3) hb3 (by omega) (by simp only [List.length_cons, List.length_nil]; omega) (by simp) hwi (hT.below hB3 hTb) hTb).mono ?_
      rintro e w7 ⟨rfl, hP1, hB1, hF1⟩
      obtain ⟨L5, hq⟩ : ∃ z, z = L4 ++ numsB [(G.lines.length : Int)] := ⟨_, rfl⟩
      rw [← hq] at hP1
      have hL5 : (L5).length ≤ (L4).length + 22 := by rw [hq]; have := numsB_len [(G.lines.length : Int)] hwi; simp only [List.length_append, List.length_cons, List.length_nil] at this ⊢; omega
      have HL5 := Lib.hid hq
      have hF := (PgF.fr F3).trans hF1
      have hB := hB3.trans hB1
      have hP := hP1
      clear hq hP1 hB1 hF1 hB3 hwi hb3 F3 hz3
      clear k0 k1 k2 k3 k4 k5 k6 kz
      obtain ⟨k0, k1, k2, k3, k4, k5, k6, kz⟩ := HK.out w7 hB
      have hL5' : L5.length ≤ 66131 := by omega
      clear hL5 hF hZ2
      go_wp2_with fail
      clear k0 k1 k2 k3 k4 k5 k6 kz
      go_loopw [52] (fun s52 wr => ∃ k : Nat, k ≤ G.lines.length ∧ s52 = .int .i64 (k : Int) ∧ PgB b b (L5 ++ (G.lines.take k).flatMap lnB) wr ∧ Below b w2 wr) (fun s52 _ => G.lines.length - (intOf s52).toNat)
      case atStart => exact ⟨0, by omega, rfl, by simpa using hP, hB⟩
      case round =>
        clear hP hB hWz
        obtain ⟨k, hk, rfl, hP, hB⟩ := hrel
        obtain ⟨wz, hwz⟩ : ∃ wz : World, wz = wr := ⟨_, rfl⟩
        subst hwz
        have hZl := flat_len lnB 1088 (G.lines.take k) (fun x hx => lnB_len (HG.out.2.1.2 x (List.mem_of_mem_take hx)) (HM.out.lc x (List.mem_of_mem_take hx)))
        rw [List.length_take] at hZl
        have hZ2 : (L5 ++ (G.lines.take k).flatMap lnB).length ≤ 1154131 := by rw [List.length_append]; have hmn : min k G.lines.length ≤ 1000 := (by omega); omega
        clear hZl
        by_cases hlt : k < G.lines.length
        · obtain ⟨q, off, rfl, hq, _, hcc⟩ := HL.out (by omega)
          obtain ⟨d1, d2, d3, d4, d5⟩ := hcc k hlt
          have d1 := HE.out wz hB _ _ hq d1
          have d2 := HE.out wz hB _ _ hq d2
          have d3 := HE.out wz hB _ _ hq d3
          have d4 := HE.out wz hB _ _ hq d4
          have d5 := HE.out wz hB _ _ hq d5
          have hok : lnR.ok G.lines[k] := HG.out.2.1.2 _ (List.getElem_mem hlt)
          have HOK := Lib.hid hok
          have hcl := HM.out.lc _ (List.getElem_mem hlt)
          have hnx : L5 ++ (G.lines.take (k + 1)).flatMap lnB = (L5 ++ (G.lines.take k).flatMap lnB) ++ lnB G.lines[k] := by rw [flat_take lnB G.lines k hlt, List.append_assoc]
          have HNX := Lib.hid hnx
          clear hcc hnx hok
          have hqz : q < wz.heap.size := by have := hB.size; omega
          generalize G.lines[k] = x at *
          obtain ⟨LK, hLK⟩ : ∃ LK, LK = L5 ++ (G.lines.take k).flatMap lnB := ⟨_, rfl⟩
          rw [← hLK] at hP hZ2 HNX
          clear hLK
          go_upto_region 14 with (fail)
          generalize hW : wz.alloc _ = wd
          have Fd : Fr none wz wd := hW ▸ (Fr.refl none wz).alloc _
          have b5 : wd.heap[wz.heap.size]? = some (.cells #[.int .i64 x.acc, .string (bL x.ast.code), .int .i64 x.ast.iss, .int .i64 x.bal, .int .i64 x.lim] 39 (0, 0)) := by rw [← hW]; exact blk_new _ _
          clear hW
          have r0 : wd.cell? ⟨wz.heap.size, 0, none⟩ = some (.int .i64 x.acc) := by rw [blk_cell b5]; rfl
          have lb5 := blk_lt b5
          have hB := hB.trans (Fd.below.mono (by have := hB.size; omega))
          have hP := hP.fr Fd
          clear d1 d2 d3 d4 d5 Fd
          go_wp2_with fail
          have F3 := (Fr.refl none wd).alloc (.cells (([x.acc] : List Int).map (Value.int .i64)).toArray 3)
          have hb3 := blk_new wd (.cells (([x.acc] : List Int).map (Value.int .i64)).toArray 3)
          have hz3 := F3.size
          have hWz := hB.size
          have hB3 := hB.trans (F3.below.mono (show b ≤ (wd).heap.size by omega))
          have hwi : ∀ u ∈ ([x.acc] : List Int), Wi u := (wiz1 HOK.out.1)
          refine (pgnum_any b b (wd).heap.size LK [x.acc] _ (hP.fr F3) hb3 (by omega) (by simp only [List.length_cons, List.length_nil]; omega) (by simp) hwi (hT.below hB3 hTb) hTb).mono ?_
          rintro e we ⟨rfl, hP1, hB1, hF1⟩
          obtain ⟨LA, hq⟩ : ∃ z, z = LK ++ numsB [x.acc] := ⟨_, rfl⟩
          rw [← hq] at hP1
          have hLA : (LA).length ≤ (LK).length + 22 := by rw [hq]; have := numsB_len [x.acc] hwi; simp only [List.length_append, List.length_cons, List.length_nil] at this ⊢; omega
          have HLA := Lib.hid hq
          have hF := (PgF.fr F3).trans hF1
          have hB := hB3.trans hB1
          have hP := hP1
          clear hq hP1 hB1 hF1 hB3 hwi hb3 F3 hz3
          clear r0 lb5
          have b5 := hF _ _ _ _ b5 (by decide) (by decide)
          have r1 : we.cell? ⟨wz.heap.size, 1, none⟩ = some (.string (bL x.ast.code)) := by rw [blk_cell b5]; rfl
          have r2 : we.cell? ⟨wz.heap.size, 2, none⟩ = some (.int .i64 x.ast.iss) := by rw [blk_cell b5]; rfl
          have lb5 := blk_lt b5
          go_wp2_with fail
          refine (past_any x.ast HOK.out.2.1 (by omega) we (hT.below hB hTb)).mono ?_
          rintro e wf ⟨rfl, F6⟩
          have hWf := hB.size
          have hB := hB.trans (F6.below.mono (by omega))
          have hP := hP.fr F6
          have b5 := blk_fr b5 F6 (by simp)
          have hal := astT_len HOK.out.2.1 hcl
          clear r1 r2 lb5 F6
          go_wp2_with fail
          have F3 := (Fr.refl none wf).alloc (.cells (([astT x.ast] : List (List UInt8)).map fun x => Value.string (bL x)).toArray 9)
          have hb3 := blk_new wf (.cells (([astT x.ast] : List (List UInt8)).map fun x => Value.string (bL x)).toArray 9)
          have hz3 := F3.size
          have hWz := hB.size
          have hB3 := hB.trans (F3.below.mono (show b ≤ (wf).heap.size by omega))
          have hwl : (wdsB [astT x.ast]).length ≤ 1022 := (by simp [wdsB]; omega)
          refine (pgput_any b b (wf).heap.size LA [astT x.ast] _ (hP.fr F3) hb3 (by omega) (by omega) (by simp)).mono ?_
          rintro e wg ⟨rfl, hP1, hB1, hF1⟩
          obtain ⟨LB, hq⟩ : ∃ z, z = LA ++ wdsB [astT x.ast] := ⟨_, rfl⟩
          rw [← hq] at hP1
          have hLB : (LB).length ≤ (LA).length + 1022 := by rw [hq, List.length_append]; omega
          have HLB := Lib.hid hq
          have hF := (PgF.fr F3).trans hF1
          have hB := hB3.trans hB1
          have hP := hP1
          clear hq hP1 hB1 hF1 hB3 hwl hb3 F3 hz3
          have b5 := hF _ _ _ _ b5 (by decide) (by decide)
          have r3 : wg.cell? ⟨wz.heap.size, 3, none⟩ = some (.int .i64 x.bal) := by rw [blk_cell b5]; rfl
          have r4 : wg.cell? ⟨wz.heap.size, 4, none⟩ = some (.int .i64 x.lim) := by rw [blk_cell b5]; rfl
          have lb5 := blk_lt b5
          go_wp2_with fail
          have F3 := (Fr.refl none wg).alloc (.cells (([x.bal, x.lim] : List Int).map (Value.int .i64)).toArray 3)
          have hb3 := blk_new wg (.cells (([x.bal, x.lim] : List Int).map (Value.int .i64)).toArray 3)
          have hz3 := F3.size
          have hWz := hB.size
          have hB3 := hB.trans (F3.below.mono (show b ≤ (wg).heap.size by omega))
          have hwi : ∀ u ∈ ([x.bal, x.lim] : List Int), Wi u := (wiz2 HOK.out.2.2.1 HOK.out.2.2.2)
          refine (pgnum_any b b (wg).heap.size LB [x.bal, x.lim] _ (hP.fr F3) hb3 (by omega) (by simp only [List.length_cons, List.length_nil]; omega) (by simp) hwi (hT.below hB3 hTb) hTb).mono ?_
          rintro e wh ⟨rfl, hP1, hB1, hF1⟩
          obtain ⟨LN, hq⟩ : ∃ z, z = LB ++ numsB [x.bal, x.lim] := ⟨_, rfl⟩
          rw [← hq] at hP1
          have hLN : (LN).length ≤ (LB).length + 44 := by rw [hq]; have := numsB_len [x.bal, x.lim] hwi; simp only [List.length_append, List.length_cons, List.length_nil] at this ⊢; omega
          have HLN := Lib.hid hq
          have hF := (PgF.fr F3).trans hF1
          have hB := hB3.trans hB1
          have hP := hP1
          clear hq hP1 hB1 hF1 hB3 hwi hb3 F3 hz3
          clear r3 r4 lb5 b5
          go_wp2_with fail
          go_roundw
          case rel =>
            have hfin : LN = LK ++ lnB x := by rw [HLN.out, HLB.out, HLA.out]; simp [lnB, numsB, wdsB, wdB]
            exact ⟨k + 1, hlt, by go_num, by rw [HNX.out, ← hfin]; exact hP, hB⟩
          case measure => simp [intOf]; omega
        · obtain rfl : k = G.lines.length := by omega
          rw [List.take_length] at hP hZ2
          obtain ⟨L6, hL6⟩ : ∃ L6, L6 = L5 ++ G.lines.flatMap lnB := ⟨_, rfl⟩
          rw [← hL6] at hP hZ2
          have HL6 := Lib.hid hL6
          clear hL6
          obtain ⟨k0, k1, k2, k3, k4, k5, k6, kz⟩ := HK.out wz hB
          go_wp2_with fail
          have F3 := (Fr.refl none wz).alloc (.cells (([(G.offers.length : Int)] : List Int).map (Value.int .i64)).toArray 3)
          have hb3 := blk_new wz (.cells (([(G.offers.length : Int)] : List Int).map (Value.int .i64)).toArray 3)
          have hz3 := F3.size
          have hWz := hB.size
          have hB3 := hB.trans (F3.below.mono (show b ≤ (wz).heap.size by omega))
          have hwi : ∀ u ∈ ([(G.offers.length : Int)] : List Int), Wi u := (wiz1 (by constructor <;> omega))
          refine (pgnum_any b b (wz).heap.size L6 [(G.offers.length : Int)] _ (hP.fr F3) hb3 (by omega) (by simp only [List.length_cons, List.length_nil]; omega) (by simp) hwi (hT.below hB3 hTb) hTb).mono ?_
          rintro e w8 ⟨rfl, hP1, hB1, hF1⟩
          obtain ⟨L7, hq⟩ : ∃ z, z = L6 ++ numsB [(G.offers.length : Int)] := ⟨_, rfl⟩
          rw [← hq] at hP1
          have hL7 : (L7).length ≤ (L6).length + 22 := by rw [hq]; have := numsB_len [(G.offers.length : Int)] hwi; simp only [List.length_append, List.length_cons, List.length_nil] at this ⊢; omega
          have HL7 := Lib.hid hq
          have hF := (PgF.fr F3).trans hF1
          have hB := hB3.trans hB1
          have hP := hP1
          clear hq hP1 hB1 hF1 hB3 hwi hb3 F3 hz3
          clear k0 k1 k2 k3 k4 k5 k6 kz
          obtain ⟨k0, k1, k2, k3, k4, k5, k6, kz⟩ := HK.out w8 hB
          have hL7' : L7.length ≤ 1154153 := by omega
          clear hL7 hF hZ2
          go_wp2_with fail
          clear k0 k1 k2 k3 k4 k5 k6 kz
          go_loopw [80] (fun s80 wr => ∃ k : Nat, k ≤ G.offers.length ∧ s80 = .int .i64 (k : Int) ∧ PgB b b (L7 ++ (G.offers.take k).flatMap ofB) wr ∧ Below b w2 wr) (fun s80 _ => G.offers.length - (intOf s80).toNat)
          case atStart => exact ⟨0, by omega, rfl, by simpa using hP, hB⟩
          case round =>
            clear hP hB hWz
            obtain ⟨k, hk, rfl, hP, hB⟩ := hrel
            obtain ⟨wz, hwz⟩ : ∃ wz : World, wz = wr := ⟨_, rfl⟩
            subst hwz
            have hZl := flat_len ofB 2154 (G.offers.take k) (fun x hx => ofB_len (HG.out.2.2.1.2 x (List.mem_of_mem_take hx)) (HM.out.oc x (List.mem_of_mem_take hx)))
            rw [List.length_take] at hZl
            have hZ2 : (L7 ++ (G.offers.take k).flatMap ofB).length ≤ 3308153 := by rw [List.length_append]; have hmn : min k G.offers.length ≤ 1000 := (by omega); omega
            clear hZl
            by_cases hlt : k < G.offers.length
            · obtain ⟨q, off, rfl, hq, _, hcc⟩ := HO.out (by omega)
              obtain ⟨d1, d2, d3, d4, d5, d6, d7, d8, d9⟩ := hcc k hlt
              have d1 := HE.out wz hB _ _ hq d1
              have d2 := HE.out wz hB _ _ hq d2
              have d3 := HE.out wz hB _ _ hq d3
              have d4 := HE.out wz hB _ _ hq d4
              have d5 := HE.out wz hB _ _ hq d5
              have d6 := HE.out wz hB _ _ hq d6
              have d7 := HE.out wz hB _ _ hq d7
              have d8 := HE.out wz hB _ _ hq d8
              have d9 := HE.out wz hB _ _ hq d9
              have hok : ofR.ok G.offers[k] := HG.out.2.2.1.2 _ (List.getElem_mem hlt)
              have HOK := Lib.hid hok
              have hcl := HM.out.oc _ (List.getElem_mem hlt)
              have hnx : L7 ++ (G.offers.take (k + 1)).flatMap ofB = (L7 ++ (G.offers.take k).flatMap ofB) ++ ofB G.offers[k] := by rw [flat_take ofB G.offers k hlt, List.append_assoc]
              have HNX := Lib.hid hnx
              clear hcc hnx hok
              have hqz : q < wz.heap.size := by have := hB.size; omega
              generalize G.offers[k] = x at *
              obtain ⟨LK, hLK⟩ : ∃ LK, LK = L7 ++ (G.offers.take k).flatMap ofB := ⟨_, rfl⟩
              rw [← hLK] at hP hZ2 HNX
              clear hLK
              go_upto_region 22 with (fail)
              generalize hW : wz.alloc _ = wd
              have Fd : Fr none wz wd := hW ▸ (Fr.refl none wz).alloc _
              have b5 : wd.heap[wz.heap.size]? = some (.cells #[.int .i64 x.id, .int .i64 x.sel, .string (bL x.sg.code), .int .i64 x.sg.iss, .string (bL x.by_.code), .int .i64 x.by_.iss, .int .i64 x.amt, .int .i64 x.num, .int .i64 x.den] 41 (0, 0)) := by rw [← hW]; exact blk_new _ _
              clear hW
              have r0 : wd.cell? ⟨wz.heap.size, 0, none⟩ = some (.int .i64 x.id) := by rw [blk_cell b5]; rfl
              have r1 : wd.cell? ⟨wz.heap.size, 1, none⟩ = some (.int .i64 x.sel) := by rw [blk_cell b5]; rfl
              have lb5 := blk_lt b5
              have hB := hB.trans (Fd.below.mono (by have := hB.size; omega))
              have hP := hP.fr Fd
              clear d1 d2 d3 d4 d5 d6 d7 d8 d9 Fd
              go_wp2_with fail
              have F3 := (Fr.refl none wd).alloc (.cells (([x.id, x.sel] : List Int).map (Value.int .i64)).toArray 3)
              have hb3 := blk_new wd (.cells (([x.id, x.sel] : List Int).map (Value.int .i64)).toArray 3)
              have hz3 := F3.size
              have hWz := hB.size
              have hB3 := hB.trans (F3.below.mono (show b ≤ (wd).heap.size by omega))
              have hwi : ∀ u ∈ ([x.id, x.sel] : List Int), Wi u := (wiz2 HOK.out.1 HOK.out.2.1)
              refine (pgnum_any b b (wd).heap.size LK [x.id, x.sel] _ (hP.fr F3) hb3 (by omega) (by simp only [List.length_cons, List.length_nil]; omega) (by simp) hwi (hT.below hB3 hTb) hTb).mono ?_
              rintro e we ⟨rfl, hP1, hB1, hF1⟩
              obtain ⟨LA, hq⟩ : ∃ z, z = LK ++ numsB [x.id, x.sel] := ⟨_, rfl⟩
              rw [← hq] at hP1
              have hLA : (LA).length ≤ (LK).length + 44 := by rw [hq]; have := numsB_len [x.id, x.sel] hwi; simp only [List.length_append, List.length_cons, List.length_nil] at this ⊢; omega
              have HLA := Lib.hid hq
              have hF := (PgF.fr F3).trans hF1
              have hB := hB3.trans hB1
              have hP := hP1
              clear hq hP1 hB1 hF1 hB3 hwi hb3 F3 hz3
              clear r0 r1 lb5
              have b5 := hF _ _ _ _ b5 (by decide) (by decide)
              go_upto_region 23 with (fail)
              have HS : Hid (∀ W, PgF we W → W.cell? ⟨wz.heap.size, 2, none⟩ = some (.string (bL x.sg.code)) ∧ W.cell? ⟨wz.heap.size, 3, none⟩ = some (.int .i64 x.sg.iss) ∧ W.cell? ⟨wz.heap.size, 4, none⟩ = some (.string (bL x.by_.code)) ∧ W.cell? ⟨wz.heap.size, 5, none⟩ = some (.int .i64 x.by_.iss)) := fun W hF => by
                have b5 := hF _ _ _ _ b5 (by decide) (by decide)
                exact ⟨by rw [blk_cell b5]; rfl, by rw [blk_cell b5]; rfl, by rw [blk_cell b5]; rfl, by rw [blk_cell b5]; rfl⟩
              clear hF
              refine wp_region_held_drew (S := fun W => W.cell? ⟨wz.heap.size, 2, none⟩ = some (.string (bL x.sg.code)) ∧ W.cell? ⟨wz.heap.size, 3, none⟩ = some (.int .i64 x.sg.iss) ∧ W.cell? ⟨wz.heap.size, 4, none⟩ = some (.string (bL x.by_.code)) ∧ W.cell? ⟨wz.heap.size, 5, none⟩ = some (.int .i64 x.by_.iss)) (by kernel_rfl) (HS.out _ (PgF.fr (Fr.refl _ _).drew)) (fun hH0 => ?_)
              refine wpAnyH_take (i := 0) (v := ?_) rfl (by kernel_rfl) (by kernel_rfl) (by kernel_rfl) (fun _ _ _ h => h) (Or.inl ⟨by rfl, ?_⟩) (by assumption) ?_
              rotate_left
              · (intro W hW; (try dsimp only at hW); go_simp; try with_reducible rfl)
              try simp only [Act.put, List.setIfInBounds_toArray, List.set_cons_zero, List.set_cons_succ, List.getElem_toArray, List.getElem_cons_zero, List.getElem_cons_succ]
              refine wpAnyH_take (i := 1) (v := ?_) rfl (by kernel_rfl) (by kernel_rfl) (by kernel_rfl) (fun _ _ _ h => h) (Or.inl ⟨by rfl, ?_⟩) (by assumption) ?_
              rotate_left
              · (intro W hW; (try dsimp only at hW); go_simp; try with_reducible rfl)
              try simp only [Act.put, List.setIfInBounds_toArray, List.set_cons_zero, List.set_cons_succ, List.getElem_toArray, List.getElem_cons_zero, List.getElem_cons_succ]
              refine wpAnyH_take (i := 3) (v := ?_) rfl (by kernel_rfl) (by kernel_rfl) (by kernel_rfl) (fun _ _ _ h => h) (Or.inl ⟨by rfl, ?_⟩) (by assumption) ?_
              rotate_left
              · (intro W hW; (try dsimp only at hW); go_simp; try with_reducible rfl)
              try simp only [Act.put, List.setIfInBounds_toArray, List.set_cons_zero, List.set_cons_succ, List.getElem_toArray, List.getElem_cons_zero, List.getElem_cons_succ]
              refine wpAnyH_take (i := 4) (v := ?_) rfl (by kernel_rfl) (by kernel_rfl) (by kernel_rfl) (fun _ _ _ h => h) (Or.inl ⟨by rfl, ?_⟩) (by assumption) ?_
              rotate_left
              · (intro W hW; (try dsimp only at hW); go_simp; try with_reducible rfl)
              try simp only [Act.put, List.setIfInBounds_toArray, List.set_cons_zero, List.set_cons_succ, List.getElem_toArray, List.getElem_cons_zero, List.getElem_cons_succ]
              have G0 : Fr none we we.drew := (Fr.refl _ _).drew
              generalize we.drew = wN at *
              have hWe := hB.size
              have hB := hB.trans (G0.below.mono (by omega))
              have hP := hP.fr G0
              have hF := PgF.fr G0
              clear G0
              refine wpAnyH_ready (rs := [2]) (by kernel_rfl) (by simp) ?_
              refine AllReadyH.cons rfl (fun K hK => ?_) AllReadyH.nil
              simp only [List.getElem_toArray, List.getElem_cons_zero, List.getElem_cons_succ]
              go_simp
              go_at_call 29
              refine (past_any x.sg HOK.out.2.2.1 (by omega) wN (hT.below hB hTb)).mono ?_
              rintro e wf ⟨rfl, F6⟩
              have hWf := hB.size
              have hB := hB.trans (F6.below.mono (by omega))
              have hP := hP.fr F6
              have hF := hF.trans (PgF.fr F6)
              clear F6
              refine hK.out _ _ (HS.out _ hF) (fun hH9 => ?_)
              clear hK K hH0
              have hH0 := hH9
              clear hH9
              try simp only [Act.put, List.setIfInBounds_toArray, List.set_cons_zero, List.set_cons_succ, List.getElem_toArray, List.getElem_cons_zero, List.getElem_cons_succ]
              refine wpAnyH_ready (rs := [5]) (by kernel_rfl) (by simp) ?_
              refine AllReadyH.cons rfl (fun K hK => ?_) AllReadyH.nil
              simp only [List.getElem_toArray, List.getElem_cons_zero, List.getElem_cons_succ]
              go_simp
              go_at_call 29
              refine (past_any x.by_ HOK.out.2.2.2.1 (by omega) wf (hT.below hB hTb)).mono ?_
              rintro e wf2 ⟨rfl, F6⟩
              have hWf := hB.size
              have hB := hB.trans (F6.below.mono (by omega))
              have hP := hP.fr F6
              have hF := hF.trans (PgF.fr F6)
              clear F6
              refine hK.out _ _ (HS.out _ hF) (fun hH9 => ?_)
              clear hK K hH0
              have hH0 := hH9
              clear hH9
              try simp only [Act.put, List.setIfInBounds_toArray, List.set_cons_zero, List.set_cons_succ, List.getElem_toArray, List.getElem_cons_zero, List.getElem_cons_succ]
              have hal := astT_len HOK.out.2.2.1 hcl.1
              have hal2 := astT_len HOK.out.2.2.2.1 hcl.2
              have F3 := (Fr.refl none wf2).alloc (.cells (([astT x.sg, astT x.by_] : List (List UInt8)).map fun x => Value.string (bL x)).toArray 9)
              have hb3 := blk_new wf2 (.cells (([astT x.sg, astT x.by_] : List (List UInt8)).map fun x => Value.string (bL x)).toArray 9)
              have hz3 := F3.size
              have hWz := hB.size
              have hB3 := hB.trans (F3.below.mono (show b ≤ wf2.heap.size by omega))
              have hwl : (wdsB [astT x.sg, astT x.by_]).length ≤ 2044 := by simp [wdsB]; omega
              have hF3 := hF.trans (PgF.fr F3)
              refine wpAnyH_ready (rs := [6]) (by kernel_rfl) (by simp) ?_
              refine AllReadyH.cons rfl (fun K hK => ?_) AllReadyH.nil
              simp only [List.getElem_toArray, List.getElem_cons_zero, List.getElem_cons_succ]
              go_simp
              refine hK.out _ _ (HS.out _ hF3) (fun hH9 => ?_)
              clear hK K hH0
              have hH0 := hH9
              clear hH9
              try simp only [Act.put, List.setIfInBounds_toArray, List.set_cons_zero, List.set_cons_succ, List.getElem_toArray, List.getElem_cons_zero, List.getElem_cons_succ]
              refine wpAnyH_ready (rs := [7]) (by kernel_rfl) (by simp) ?_
              refine AllReadyH.cons rfl (fun K hK => ?_) AllReadyH.nil
              simp only [List.getElem_toArray, List.getElem_cons_zero, List.getElem_cons_succ]
              go_simp
              go_at_call 27
              refine (pgput_any b b wf2.heap.size LA [astT x.sg, astT x.by_] _ (hP.fr F3) hb3 (by omega) (by omega) (by simp)).mono ?_
              rintro e wg ⟨rfl, hP1, hB1, hF1⟩
              obtain ⟨LB, hq⟩ : ∃ z, z = LA ++ wdsB [astT x.sg, astT x.by_] := ⟨_, rfl⟩
              rw [← hq] at hP1
              have hLB : LB.length ≤ LA.length + 2044 := by rw [hq, List.length_append]; omega
              have HLB := Lib.hid hq
              have hF := hF3.trans hF1
              have hB := hB3.trans hB1
              have hP := hP1
              clear hq hP1 hB1 hF1 hB3 hwl hb3 F3 hz3 hF3
              refine hK.out _ _ (HS.out _ hF) (fun hH9 => ?_)
              clear hK K hH0
              have hH0 := hH9
              clear hH9
              try simp only [Act.put, List.setIfInBounds_toArray, List.set_cons_zero, List.set_cons_succ, List.getElem_toArray, List.getElem_cons_zero, List.getElem_cons_succ]
              refine wpAnyH_done (by kernel_rfl) ?_ _
              clear hH0
              have b5 := hF _ _ _ _ b5 (by decide) (by decide)
              have r6 : wg.cell? ⟨wz.heap.size, 6, none⟩ = some (.int .i64 x.amt) := by rw [blk_cell b5]; rfl
              have r7 : wg.cell? ⟨wz.heap.size, 7, none⟩ = some (.int .i64 x.num) := by rw [blk_cell b5]; rfl
              have r8 : wg.cell? ⟨wz.heap.size, 8, none⟩ = some (.int .i64 x.den) := by rw [blk_cell b5]; rfl
              have lb5 := blk_lt b5
              go_wp2_with fail
              have F3 := (Fr.refl none wg).alloc (.cells (([x.amt, x.num, x.den] : List Int).map (Value.int .i64)).toArray 3)
              have hb3 := blk_new wg (.cells (([x.amt, x.num, x.den] : List Int).map (Value.int .i64)).toArray 3)
              have hz3 := F3.size
              have hWz := hB.size
              have hB3 := hB.trans (F3.below.mono (show b ≤ (wg).heap.size by omega))
              have hwi : ∀ u ∈ ([x.amt, x.num, x.den] : List Int), Wi u := (wiz3 HOK.out.2.2.2.2.1 HOK.out.2.2.2.2.2.1 HOK.out.2.2.2.2.2.2)
              refine (pgnum_any b b (wg).heap.size LB [x.amt, x.num, x.den] _ (hP.fr F3) hb3 (by omega) (by simp only [List.length_cons, List.length_nil]; omega) (by simp) hwi (hT.below hB3 hTb) hTb).mono ?_
              rintro e wh ⟨rfl, hP1, hB1, hF1⟩
              obtain ⟨LN, hq⟩ : ∃ z, z = LB ++ numsB [x.amt, x.num, x.den] := ⟨_, rfl⟩
              rw [← hq] at hP1
              have hLN : (LN).length ≤ (LB).length + 66 := by rw [hq]; have := numsB_len [x.amt, x.num, x.den] hwi; simp only [List.length_append, List.length_cons, List.length_nil] at this ⊢; omega
              have HLN := Lib.hid hq
              have hF := (PgF.fr F3).trans hF1
              have hB := hB3.trans hB1
              have hP := hP1
              clear hq hP1 hB1 hF1 hB3 hwi hb3 F3 hz3
              clear r6 r7 r8 lb5 b5
              go_wp2_with fail
              go_roundw
              case rel =>
                have hfin : LN = LK ++ ofB x := by rw [HLN.out, HLB.out, HLA.out]; simp [ofB, numsB, wdsB, wdB]
                exact ⟨k + 1, hlt, by go_num, by rw [HNX.out, ← hfin]; exact hP, hB⟩
              case measure => simp [intOf]; omega
            · obtain rfl : k = G.offers.length := by omega
              rw [List.take_length] at hP hZ2
              have hfin : L7 ++ G.offers.flatMap ofB = bytesG G := by
                rw [HL7.out, HL6.out, HL5.out, HL4.out, HL3.out, HL2.out, HL1.out]
                have e1 : Lib.itoa (G.link : Int) = Lib.decDigits G.link := Lib.itoa_nonneg _
                simp [bytesG, numsB, wdsB, nwB, wdB, e1]
              rw [hfin] at hP
              have HF := Lib.hid hfin
              clear hfin
              go_wp2_with fail
              have hne : bytesG G ≠ [] := by
                intro e
                have := congrArg List.length e
                simp [bytesG, nwB, wdB] at this
              refine (pgstr_any b b (bytesG G) wz hP hne).mono ?_
              rintro e wq ⟨rfl, hBq⟩
              have hBw := hB.trans hBq
              have hWq := hBw.size
              have hcv := Lib.run_convert_string_bytes (P := Tryz.prog) wq 9 42 5 (⟨(bytesG G).toArray⟩ : ByteArray) (u := .string) Tryz.underlying9 Tryz.underlying42 Tryz.underlying5
              obtain ⟨wy, hwy⟩ : ∃ wy, wy = Lib.bytesWorld wq 5 (⟨(bytesG G).toArray⟩ : ByteArray) := ⟨_, rfl⟩
              have hsz : (⟨(bytesG G).toArray⟩ : ByteArray).size = (bytesG G).length := bL_size (bytesG G)
              have hcell : ∀ j, j < (bytesG G).length → wy.cell? ⟨wq.heap.size, j, none⟩ = some (.int .u8 ((bytesG G).getD j 0).toNat) := fun j hj => by rw [hwy]; exact Lib.bytesWorld_cell wq _ _ j (by rw [hsz]; exact hj)
              have hyz : wy.heap.size = wq.heap.size + 1 := by rw [hwy, Lib.bytesWorld_size]
              have Fy : Fr none wq wy := by
                rw [hwy]
                exact ⟨rfl, rfl, rfl, by rw [Lib.bytesWorld_size]; omega, fun k hk _ => Lib.bytesWorld_at_old wq _ _ k hk⟩
              rw [← hwy, hsz] at hcv
              obtain ⟨cp, hcp⟩ : ∃ cp, cp = grownCap wq (bytesG G).length 0 5 := ⟨_, rfl⟩
              have hcpb : (bytesG G).length ≤ cp ∧ cp ≤ maxLen := by
                rw [hcp]
                exact ⟨grownCap_ge _ _ _ _, grownCap_le_maxLen _ _ _ _ (by unfold maxLen; have : (bytesG G).length ≤ 3308153 := (by rw [← HF.out]; exact hZ2); omega)⟩
              rw [← hcp] at hcv
              have HCE := Lib.hid hcell
              have HYZ := Lib.hid hyz
              clear hcp hcell hwy hsz hne hyz
              go_wp2_with fail
              go_ret
              refine ⟨_, rfl, ⟨_, (bytesG G).length, cp, rfl, by rw [Lib.byteCells_length, Nat.mul_one], hcpb.1, hcpb.2, fun _ => ⟨wq.heap.size, 0, rfl, ⟨by have := HZb.out; omega, by rw [HYZ.out]; omega⟩, fun j u hu => ?_⟩⟩, ?_⟩
              · rw [Nat.zero_add]
                have hj : j < (bytesG G).length := by have := (List.getElem?_eq_some_iff.1 hu).1; rwa [Lib.byteCells_length] at this
                rw [HCE.out j hj, ← hu]
                simp [Lib.byteCells, hj]
              · have F0 : Fr none w w2 := HF02.out
                refine ⟨(World.grownBy.os Fy).trans (hBw.os.trans (World.grownBy.os F0)), (World.grownBy.tape Fy).trans (hBw.tape.trans (World.grownBy.tape F0)), (World.grownBy.output Fy).trans (hBw.output.trans (World.grownBy.output F0)), by have := F0.size; have := Fy.size; omega, fun q hq _ => ?_⟩
                rw [Fy.block q (by have := F0.size; omega) (by simp), hBw.block q (by have := HZb.out; omega)]
                exact F0.block q hq (by simp)
end Go.Proofs.YtonhhnedfjonoaaGreatDoor

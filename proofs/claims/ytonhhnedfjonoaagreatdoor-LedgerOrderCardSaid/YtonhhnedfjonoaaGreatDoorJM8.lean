/- Some texts of this claim, joined: contracts of the functions that it reaches, and plain laws. -/
import Derived.Test.YtonhhnedfjonoaaGreatDoorJM6
import Derived.Test.YtonhhnedfjonoaaGreatDoorJM3

set_option linter.unusedSimpArgs false
set_option linter.unusedVariables false
/- Walk: ledger.read at the letter o (printed by gen_read.py). -/
namespace Go.Proofs.YtonhhnedfjonoaaGreatDoor
open Go.RowKit

set_option maxRecDepth 100000 in
set_option maxHeartbeats 8000000 in
theorem pread4_any (v : List UInt8) (w : World) (hE : Errs w) (hM : Mxl w) (hL : (111 :: v).length ≤ 1000000) (hA : ∀ c ∈ (111 :: v), c.toNat < 128) : Calls Tryz.prog 61 #[.string (bL (111 :: v))] w fun e w' => ∃ o A c ok, e = .returned (.tuple #[.agg (opL o (.slice A o.path.length c)).toArray, .bool ok]) ∧ RdP (111 :: v) o ok ∧ SlN astR w.heap.size w' (.slice A o.path.length c) o.path ∧ OpW o ∧ Fr none w w' := by
  obtain ⟨k, hkk⟩ : ∃ k : UInt8, k = 111 := ⟨_, rfl⟩
  rw [← hkk] at hL hA ⊢
  have HKK := Lib.hid hkk
  clear hkk
  have HA := Lib.hid hA
  clear hA
  have he : (bL (k :: v)).toList.isEmpty = false := by rw [bL_tl]; rfl
  go_enter Tryz.func61, Tryz.ntmps61
  go_upto_region 1 with (fail)
  generalize hW : w.alloc _ = w0
  have F0 : Fr none w w0 := hW ▸ (Fr.refl none w).alloc _
  have b0 : OpB w0 w.heap.size op0 (.slice none 0 0) := by rw [← hW]; exact blk_new _ _
  have hE0 := hE.frs F0 (by simp) (by simp)
  have hM0 := hM.frs F0 (by simp)
  have hE1w := hE.lt
  clear hW hE hM
  have hsz : (bL (k :: v)).size = v.length + 1 := by rw [bL_size, List.length_cons]
  have h1 : (1 : Int) ≤ ((bL (k :: v)).size : Int) := by omega
  have hx0 : (bL (k :: v)).extract 1 (bL (k :: v)).size = bL v := by rw [hsz]; apply ByteArray.ext; apply Array.ext'; simp [bL]
  have hx1 : (bL (k :: v)).extract 1 (v.length + 1) = bL v := by apply ByteArray.ext; apply Array.ext'; simp [bL]
  go_wp2_with fail
  refine (split_any 44 v w0 hM0 (by simp at hL; omega)).mono ?_
  rintro e w1 ⟨A, n, c, rfl, hn, hs, F1⟩
  go_upto_region 5 with (fail)
  have HM1 : True := trivial
  obtain ⟨fb, hfb0⟩ : ∃ fb, fb = w1.heap.size := ⟨_, rfl⟩
  obtain ⟨L, hL0⟩ : ∃ L, L = splL 44 v := ⟨_, rfl⟩
  have HL0 := Lib.hid hL0
  rw [hn, ← hL0] at hs
  rw [← hL0]
  rw [← hfb0]
  have b1 : (w1.alloc (.cells #[.slice A L.length c, .bool false] 121)).heap[fb]? = some (.cells #[.slice A L.length c, .bool false] 121 (0, 0)) := by rw [hfb0]; exact blk_new _ _
  generalize hW1 : w1.alloc _ = w2 at b1 ⊢
  have F2 : Fr none w1 w2 := hW1 ▸ (Fr.refl none w1).alloc _
  have s2 : w2.heap.size = fb + 1 := by rw [← hW1, hfb0]; exact Array.size_push _
  clear hW1
  generalize hW2 : w2.alloc _ = wn0
  have b2 : OpB wn0 (fb + 1) op0 (.slice none 0 0) := by rw [← hW2, ← s2]; exact blk_new _ _
  have F3 : Fr none w2 wn0 := hW2 ▸ (Fr.refl none w2).alloc _
  clear hW2
  obtain ⟨ob, hob⟩ : ∃ ob, ob = fb + 1 := ⟨_, rfl⟩
  rw [← hob] at b2 ⊢
  have hfo : fb < ob := by omega
  have hwf : w.heap.size < fb := by have := b0.lt; have := F1.size; omega
  have FF : Fr none w wn0 := ((F0.pure F1).pure F2).pure F3
  have hO : OpB wn0 ob op0 (.slice none 0 0) := b2
  have hR : OpB wn0 w.heap.size op0 (.slice none 0 0) := b0.fr ((F1.pure F2).pure F3) (by simp)
  have hE : Errs wn0 := hE0.frs ((F1.pure F2).pure F3) (by simp) (by simp)
  have hF : FdB wn0 fb fb (L.drop 0) false := by
    have hs2 := s2
    have hs3 := F3.size
    rw [List.drop_zero]
    refine ⟨by omega, A, c, blk_fr b1 F3 (by simp), hs.keep (D' := Db fb fb) (fun j hj => ⟨⟨by omega, by omega⟩, ?_⟩)⟩
    rw [F3.block j (by omega) (by simp), F2.block j (by omega) (by simp)]
  have hle := hE.lt
  have hew := hE0.lt
  have hnb1 : fb ≠ 6 ∧ ob ≠ 6 := by
    have := hE1w.1
    exact ⟨by omega, by omega⟩
  have hnb2 : fb ≠ 7 ∧ ob ≠ 7 := by
    have := hE1w.2
    exact ⟨by omega, by omega⟩
  have HEb : Hid (6 < ob ∧ 7 < ob) := ⟨by have := hE1w.1; omega, by have := hE1w.2; omega⟩
  clear hs b1 b2 s2 hfb0 hob F0 F1 F2 F3 b0 hE0 hM0 hL0 hn hle hew hE1w
  have HLn : Hid (∀ i, ∀ x ∈ L.drop i, x.length ≤ 1000000 ∧ ∀ c ∈ x, c.toNat < 128) := fun i x hx => by
    have hx' := List.mem_of_mem_drop hx
    rw [HL0.out] at hx'
    have := splL_mem hx'
    simp only [List.length_cons] at hL
    exact ⟨by omega, fun c hc => HA.out c (List.mem_cons_of_mem _ (this.2 c hc))⟩
  have hg : ∀ h : 0 < (bL (k :: v)).size, (bL (k :: v))[0]'h = k := fun _ => rfl
  have hne : some fb ≠ some ob := fun e => by have := Option.some.inj e; omega
  have hne' : some ob ≠ some fb := fun e => by have := Option.some.inj e; omega
  have hnr : some fb ≠ some w.heap.size := fun e => by have := Option.some.inj e; omega
  have hnr' : some ob ≠ some w.heap.size := fun e => by have := Option.some.inj e; omega
  have hob : w.heap.size ≤ ob := by omega
  have hfb : w.heap.size ≤ fb := by omega
  have hob' : fb ≤ ob := by omega
  have Z1 : some fb ≠ some 6 := fun e => hnb1.1 (Option.some.inj e)
  have Z2 : some fb ≠ some 7 := fun e => hnb2.1 (Option.some.inj e)
  have Z3 : some ob ≠ some 6 := fun e => hnb1.2 (Option.some.inj e)
  have Z4 : some ob ≠ some 7 := fun e => hnb2.2 (Option.some.inj e)
  have hkk := HKK.out
  subst hkk
  have hx0 : ((111 : Int) == 99) = false := by decide
  have hx1 : ((111 : Int) == 112) = false := by decide
  have hx2 : ((111 : Int) == 116) = false := by decide
  have zc := OpB.free hO 0
  have ec : World.cell? wn0 ⟨ob, 0, none⟩ = _ := OpB.cell hO 0
  have elc := OpB.lt hO
  simp only [opL, List.getElem?_cons_zero, List.getElem?_cons_succ] at ec
  go_wp2_with fail
  generalize hW : World.setCell _ _ _ = wn1
  have G : Fr (some ob) wn0 wn1 := hW ▸ Fr.set1 wn0 ⟨ob, 0, none⟩ (.int .i64 4)
  have hO2 := OpB.kind hO 4
  rw [hW] at hO2
  try dsimp only at hO2
  have hF2 := hF.fr G hne' (fun g e => by rw [← Option.some.inj e]; exact hob')
  have hE2 := hE.frs G Z3 Z4
  have hR2 := hR.fr G hnr'
  have FF2 := FF.new G hob
  clear hW G hO hF hE hR FF zc ec elc
  have hO := hO2
  have hF := hF2
  have hE := hE2
  have hR := hR2
  have FF := FF2
  clear hO2 hF2 hE2 hR2 FF2
  refine (fdnum_any fb fb (L.drop 0) false wn1 hF hE (fun x hx => (HLn.out 0 x hx).1) hnb1.1 hnb2.1).mono ?_
  rintro e wn2 ⟨n1, b1, rfl, hf, hN1, hW1, F⟩
  have hF2 : FdB wn2 fb fb (L.drop 1) b1 := by rw [List.drop_drop] at hf; exact hf
  have hO2 := hO.fr F hne
  have hE2 := hE.frs F Z1 Z2
  have hR2 := hR.fr F hnr
  have FF2 := FF.new F hfb
  have HN1 := Lib.hid hN1
  have HW1 := Lib.hid hW1
  clear hf hO hF hE hR FF F hN1 hW1
  have hO := hO2
  have hF := hF2
  have hE := hE2
  have hR := hR2
  have FF := FF2
  clear hO2 hF2 hE2 hR2 FF2
  have zc := OpB.free hO 2
  have ec : World.cell? wn2 ⟨ob, 2, none⟩ = _ := OpB.cell hO 2
  have elc := OpB.lt hO
  simp only [opL, List.getElem?_cons_zero, List.getElem?_cons_succ] at ec
  go_wp2_with fail
  generalize hW : World.setCell _ _ _ = wn3
  have G : Fr (some ob) wn2 wn3 := hW ▸ Fr.set1 wn2 ⟨ob, 2, none⟩ (.int .i64 n1)
  have hO2 := OpB.amt hO n1
  rw [hW] at hO2
  try dsimp only at hO2
  have hF2 := hF.fr G hne' (fun g e => by rw [← Option.some.inj e]; exact hob')
  have hE2 := hE.frs G Z3 Z4
  have hR2 := hR.fr G hnr'
  have FF2 := FF.new G hob
  clear hW G hO hF hE hR FF zc ec elc
  have hO := hO2
  have hF := hF2
  have hE := hE2
  have hR := hR2
  have FF := FF2
  clear hO2 hF2 hE2 hR2 FF2
  refine (fdast_any fb fb (L.drop 1) b1 wn3 hF hE (fun x hx => HLn.out 1 x hx) hnb1.1 hnb2.1).mono ?_
  rintro e wn4 ⟨n2, b2, rfl, hf, hN2, hW2, F⟩
  have hF2 : FdB wn4 fb fb (L.drop 2) b2 := by rw [List.drop_drop] at hf; exact hf
  have hN2 : AstF (L.drop 1) b1 n2 b2 := hN2
  have hO2 := hO.fr F hne
  have hE2 := hE.frs F Z1 Z2
  have hR2 := hR.fr F hnr
  have FF2 := FF.new F hfb
  have HN2 := Lib.hid hN2
  have HW2 := Lib.hid hW2
  clear hf hO hF hE hR FF F hN2 hW2
  have hO := hO2
  have hF := hF2
  have hE := hE2
  have hR := hR2
  have FF := FF2
  clear hO2 hF2 hE2 hR2 FF2
  have zc := OpB.free hO 4
  have ec : World.cell? wn4 ⟨ob, 4, none⟩ = _ := OpB.cell hO 4
  have elc := OpB.lt hO
  simp only [opL, List.getElem?_cons_zero, List.getElem?_cons_succ] at ec
  have zc2 := OpB.free hO 5
  have ec2 : World.cell? wn4 ⟨ob, 5, none⟩ = _ := OpB.cell hO 5
  simp only [opL, List.getElem?_cons_zero, List.getElem?_cons_succ] at ec2
  go_wp2_with fail
  generalize hW : World.setCell _ _ _ = wn5
  have G : Fr (some ob) wn4 wn5 := hW ▸ ((Fr.set1 wn4 ⟨ob, 4, none⟩ (.string (bL n2.code))).setRow (p := ⟨ob, 5, none⟩) rfl (.int .i64 n2.iss))
  have hO2 := OpB.ast hO n2
  rw [hW] at hO2
  try dsimp only at hO2
  clear zc2 ec2
  have hF2 := hF.fr G hne' (fun g e => by rw [← Option.some.inj e]; exact hob')
  have hE2 := hE.frs G Z3 Z4
  have hR2 := hR.fr G hnr'
  have FF2 := FF.new G hob
  clear hW G hO hF hE hR FF zc ec elc
  have hO := hO2
  have hF := hF2
  have hE := hE2
  have hR := hR2
  have FF := FF2
  clear hO2 hF2 hE2 hR2 FF2
  refine (fdast_any fb fb (L.drop 2) b2 wn5 hF hE (fun x hx => HLn.out 2 x hx) hnb1.1 hnb2.1).mono ?_
  rintro e wn6 ⟨n3, b3, rfl, hf, hN3, hW3, F⟩
  have hF2 : FdB wn6 fb fb (L.drop 3) b3 := by rw [List.drop_drop] at hf; exact hf
  have hN3 : AstF (L.drop 2) b2 n3 b3 := hN3
  have hO2 := hO.fr F hne
  have hE2 := hE.frs F Z1 Z2
  have hR2 := hR.fr F hnr
  have FF2 := FF.new F hfb
  have HN3 := Lib.hid hN3
  have HW3 := Lib.hid hW3
  clear hf hO hF hE hR FF F hN3 hW3
  have hO := hO2
  have hF := hF2
  have hE := hE2
  have hR := hR2
  have FF := FF2
  clear hO2 hF2 hE2 hR2 FF2
  have zc := OpB.free hO 6
  have ec : World.cell? wn6 ⟨ob, 6, none⟩ = _ := OpB.cell hO 6
  have elc := OpB.lt hO
  simp only [opL, List.getElem?_cons_zero, List.getElem?_cons_succ] at ec
  have zc2 := OpB.free hO 7
  have ec2 : World.cell? wn6 ⟨ob, 7, none⟩ = _ := OpB.cell hO 7
  simp only [opL, List.getElem?_cons_zero, List.getElem?_cons_succ] at ec2
  go_wp2_with fail
  generalize hW : World.setCell _ _ _ = wn7
  have G : Fr (some ob) wn6 wn7 := hW ▸ ((Fr.set1 wn6 ⟨ob, 6, none⟩ (.string (bL n3.code))).setRow (p := ⟨ob, 7, none⟩) rfl (.int .i64 n3.iss))
  have hO2 := OpB.oth hO n3
  rw [hW] at hO2
  try dsimp only at hO2
  clear zc2 ec2
  have hF2 := hF.fr G hne' (fun g e => by rw [← Option.some.inj e]; exact hob')
  have hE2 := hE.frs G Z3 Z4
  have hR2 := hR.fr G hnr'
  have FF2 := FF.new G hob
  clear hW G hO hF hE hR FF zc ec elc
  have hO := hO2
  have hF := hF2
  have hE := hE2
  have hR := hR2
  have FF := FF2
  clear hO2 hF2 hE2 hR2 FF2
  refine (fdnum_any fb fb (L.drop 3) b3 wn7 hF hE (fun x hx => (HLn.out 3 x hx).1) hnb1.1 hnb2.1).mono ?_
  rintro e wn8 ⟨n4, b4, rfl, hf, hN4, hW4, F⟩
  have hF2 : FdB wn8 fb fb (L.drop 4) b4 := by rw [List.drop_drop] at hf; exact hf
  have hO2 := hO.fr F hne
  have hE2 := hE.frs F Z1 Z2
  have hR2 := hR.fr F hnr
  have FF2 := FF.new F hfb
  have HN4 := Lib.hid hN4
  have HW4 := Lib.hid hW4
  clear hf hO hF hE hR FF F hN4 hW4
  have hO := hO2
  have hF := hF2
  have hE := hE2
  have hR := hR2
  have FF := FF2
  clear hO2 hF2 hE2 hR2 FF2
  have zc := OpB.free hO 8
  have ec : World.cell? wn8 ⟨ob, 8, none⟩ = _ := OpB.cell hO 8
  have elc := OpB.lt hO
  simp only [opL, List.getElem?_cons_zero, List.getElem?_cons_succ] at ec
  go_wp2_with fail
  generalize hW : World.setCell _ _ _ = wn9
  have G : Fr (some ob) wn8 wn9 := hW ▸ Fr.set1 wn8 ⟨ob, 8, none⟩ (.int .i64 n4)
  have hO2 := OpB.num hO n4
  rw [hW] at hO2
  try dsimp only at hO2
  have hF2 := hF.fr G hne' (fun g e => by rw [← Option.some.inj e]; exact hob')
  have hE2 := hE.frs G Z3 Z4
  have hR2 := hR.fr G hnr'
  have FF2 := FF.new G hob
  clear hW G hO hF hE hR FF zc ec elc
  have hO := hO2
  have hF := hF2
  have hE := hE2
  have hR := hR2
  have FF := FF2
  clear hO2 hF2 hE2 hR2 FF2
  refine (fdnum_any fb fb (L.drop 4) b4 wn9 hF hE (fun x hx => (HLn.out 4 x hx).1) hnb1.1 hnb2.1).mono ?_
  rintro e wn10 ⟨n5, b5, rfl, hf, hN5, hW5, F⟩
  have hF2 : FdB wn10 fb fb (L.drop 5) b5 := by rw [List.drop_drop] at hf; exact hf
  have hO2 := hO.fr F hne
  have hE2 := hE.frs F Z1 Z2
  have hR2 := hR.fr F hnr
  have FF2 := FF.new F hfb
  have HN5 := Lib.hid hN5
  have HW5 := Lib.hid hW5
  clear hf hO hF hE hR FF F hN5 hW5
  have hO := hO2
  have hF := hF2
  have hE := hE2
  have hR := hR2
  have FF := FF2
  clear hO2 hF2 hE2 hR2 FF2
  have zc := OpB.free hO 9
  have ec : World.cell? wn10 ⟨ob, 9, none⟩ = _ := OpB.cell hO 9
  have elc := OpB.lt hO
  simp only [opL, List.getElem?_cons_zero, List.getElem?_cons_succ] at ec
  go_upto_region 38 with (fail)
  generalize hW : World.setCell _ _ _ = wn11
  have G : Fr (some ob) wn10 wn11 := hW ▸ Fr.set1 wn10 ⟨ob, 9, none⟩ (.int .i64 n5)
  have hO2 := OpB.den hO n5
  rw [hW] at hO2
  try dsimp only at hO2
  have hF2 := hF.fr G hne' (fun g e => by rw [← Option.some.inj e]; exact hob')
  have hE2 := hE.frs G Z3 Z4
  have hR2 := hR.fr G hnr'
  have FF2 := FF.new G hob
  clear hW G hO hF hE hR FF zc ec elc
  have hO := hO2
  have hF := hF2
  have hE := hE2
  have hR := hR2
  have FF := FF2
  clear hO2 hF2 hE2 hR2 FF2
  have HRd := Lib.hid (rdO_o HL0.out HN1.out HN2.out HN3.out HN4.out HN5.out)
  obtain ⟨o, Ap, cp, hO2, hSl, HRd2, hOW⟩ : ∃ o Ap cp, OpB wn11 ob o (.slice Ap o.path.length cp) ∧ Hid (SlN astR (w.heap.size + 1) wn11 (.slice Ap o.path.length cp) o.path) ∧ Hid ((b5 = false → L.drop 5 = [] → rdO (111 :: v) = some o) ∧ (b5 = true ∨ L.drop 5 ≠ [] → rdO (111 :: v) = none)) ∧ Hid (OpW o) := ⟨{ op0 with kind := 4, amt := n1, ast := n2, oth := n3, num := n4, den := n5 }, none, 0, hO, SlN.nil _ _ _, HRd.out, by refine ⟨?_, ?_, ?_, ?_, ?_, ?_, ?_, ?_, ?_⟩ <;> first | exact HW1.out | exact HW2.out | exact HW3.out | exact HW4.out | exact HW5.out | exact wi0 | exact wi1 | exact wi2 | exact wi3 | exact wi4 | exact wi5 | exact wi6⟩
  clear hO HRd
  have hO := hO2
  have HRd := HRd2
  clear hO2 HRd2
  obtain ⟨R, hRR⟩ : ∃ R, R = L.drop 5 := ⟨_, rfl⟩
  rw [← hRR] at hF
  have HRR := Lib.hid hRR
  clear hRR
  have hF' := hF
  obtain ⟨_, A1, c1, hb1, _⟩ := hF'
  have f0 : World.cell? wn11 ⟨fb, 0, none⟩ = some (.slice A1 R.length c1) := by rw [blk_cell hb1]; rfl
  have f1 : World.cell? wn11 ⟨fb, 1, none⟩ = some (.bool b5) := by rw [blk_cell hb1]; rfl
  have fl := hF.lt
  clear hb1
  have z0 := OpB.free hR 0
  have z1 := OpB.free hR 1
  have z2 := OpB.free hR 2
  have z3 := OpB.free hR 3
  have z4 := OpB.free hR 4
  have z5 := OpB.free hR 5
  have z6 := OpB.free hR 6
  have z7 := OpB.free hR 7
  have z8 := OpB.free hR 8
  have z9 := OpB.free hR 9
  have z10 := OpB.free hR 10
  have z11 := OpB.free hR 11
  have e0 : World.cell? wn11 ⟨w.heap.size, 0, none⟩ = _ := OpB.cell hR 0
  have e1 : World.cell? wn11 ⟨w.heap.size, 1, none⟩ = _ := OpB.cell hR 1
  have e2 : World.cell? wn11 ⟨w.heap.size, 2, none⟩ = _ := OpB.cell hR 2
  have e3 : World.cell? wn11 ⟨w.heap.size, 3, none⟩ = _ := OpB.cell hR 3
  have e4 : World.cell? wn11 ⟨w.heap.size, 4, none⟩ = _ := OpB.cell hR 4
  have e5 : World.cell? wn11 ⟨w.heap.size, 5, none⟩ = _ := OpB.cell hR 5
  have e6 : World.cell? wn11 ⟨w.heap.size, 6, none⟩ = _ := OpB.cell hR 6
  have e7 : World.cell? wn11 ⟨w.heap.size, 7, none⟩ = _ := OpB.cell hR 7
  have e8 : World.cell? wn11 ⟨w.heap.size, 8, none⟩ = _ := OpB.cell hR 8
  have e9 : World.cell? wn11 ⟨w.heap.size, 9, none⟩ = _ := OpB.cell hR 9
  have e10 : World.cell? wn11 ⟨w.heap.size, 10, none⟩ = _ := OpB.cell hR 10
  have e11 : World.cell? wn11 ⟨w.heap.size, 11, none⟩ = _ := OpB.cell hR 11
  have el := OpB.lt hR
  simp only [opL, List.getElem?_cons_zero, List.getElem?_cons_succ] at e0 e1 e2 e3 e4 e5 e6 e7 e8 e9 e10 e11
  have o0 : World.cell? wn11 ⟨ob, 0, none⟩ = _ := OpB.cell hO 0
  have o1 : World.cell? wn11 ⟨ob, 1, none⟩ = _ := OpB.cell hO 1
  have o2 : World.cell? wn11 ⟨ob, 2, none⟩ = _ := OpB.cell hO 2
  have o3 : World.cell? wn11 ⟨ob, 3, none⟩ = _ := OpB.cell hO 3
  have o4 : World.cell? wn11 ⟨ob, 4, none⟩ = _ := OpB.cell hO 4
  have o5 : World.cell? wn11 ⟨ob, 5, none⟩ = _ := OpB.cell hO 5
  have o6 : World.cell? wn11 ⟨ob, 6, none⟩ = _ := OpB.cell hO 6
  have o7 : World.cell? wn11 ⟨ob, 7, none⟩ = _ := OpB.cell hO 7
  have o8 : World.cell? wn11 ⟨ob, 8, none⟩ = _ := OpB.cell hO 8
  have o9 : World.cell? wn11 ⟨ob, 9, none⟩ = _ := OpB.cell hO 9
  have o10 : World.cell? wn11 ⟨ob, 10, none⟩ = _ := OpB.cell hO 10
  have o11 : World.cell? wn11 ⟨ob, 11, none⟩ = _ := OpB.cell hO 11
  simp only [opL, List.getElem?_cons_zero, List.getElem?_cons_succ] at o0 o1 o2 o3 o4 o5 o6 o7 o8 o9 o10 o11
  have ol := hO.lt
  cases b5 with
  | true =>
    go_region
    go_wp2_with fail
    clear z0 z1 z2 z3 z4 z5 z6 z7 z8 z9 z10 z11 e0 e1 e2 e3 e4 e5 e6 e7 e8 e9 e10 e11 el
    generalize hW5 : World.drew _ = w9
    obtain ⟨R9, G9⟩ := opw12 hR o _ w9 hW5.symm
    clear hW5
    have z0 := OpB.free R9 0
    have z1 := OpB.free R9 1
    have z2 := OpB.free R9 2
    have z3 := OpB.free R9 3
    have z4 := OpB.free R9 4
    have z5 := OpB.free R9 5
    have z6 := OpB.free R9 6
    have z7 := OpB.free R9 7
    have z8 := OpB.free R9 8
    have z9 := OpB.free R9 9
    have z10 := OpB.free R9 10
    have z11 := OpB.free R9 11
    have e0 : World.cell? w9 ⟨w.heap.size, 0, none⟩ = _ := OpB.cell R9 0
    have e1 : World.cell? w9 ⟨w.heap.size, 1, none⟩ = _ := OpB.cell R9 1
    have e2 : World.cell? w9 ⟨w.heap.size, 2, none⟩ = _ := OpB.cell R9 2
    have e3 : World.cell? w9 ⟨w.heap.size, 3, none⟩ = _ := OpB.cell R9 3
    have e4 : World.cell? w9 ⟨w.heap.size, 4, none⟩ = _ := OpB.cell R9 4
    have e5 : World.cell? w9 ⟨w.heap.size, 5, none⟩ = _ := OpB.cell R9 5
    have e6 : World.cell? w9 ⟨w.heap.size, 6, none⟩ = _ := OpB.cell R9 6
    have e7 : World.cell? w9 ⟨w.heap.size, 7, none⟩ = _ := OpB.cell R9 7
    have e8 : World.cell? w9 ⟨w.heap.size, 8, none⟩ = _ := OpB.cell R9 8
    have e9 : World.cell? w9 ⟨w.heap.size, 9, none⟩ = _ := OpB.cell R9 9
    have e10 : World.cell? w9 ⟨w.heap.size, 10, none⟩ = _ := OpB.cell R9 10
    have e11 : World.cell? w9 ⟨w.heap.size, 11, none⟩ = _ := OpB.cell R9 11
    have el := OpB.lt R9
    simp only [opL, List.getElem?_cons_zero, List.getElem?_cons_succ] at e0 e1 e2 e3 e4 e5 e6 e7 e8 e9 e10 e11
    refine bodyPost_ret (v := .tuple #[.agg (opL o (.slice Ap o.path.length cp)).toArray, .bool false]) (by simp [results, Tryz.results61, go_sem, opL, e0, e1, e2, e3, e4, e5, e6, e7, e8, e9, e10, e11]) rfl ?_
    exact ⟨o, Ap, cp, .inl ⟨rfl, ⟨(fun e => by cases e), fun _ => HRd.out.2 (.inl (by simp))⟩, ((hSl.out).fr G9 (by intro g hg; injection hg with hg; omega)).mono (Nat.le_succ _), hOW.out, FF.new G9 (Nat.le_refl _)⟩⟩
  | false =>
    cases R with
    | nil =>
      go_region
      go_wp2_with fail
      clear z0 z1 z2 z3 z4 z5 z6 z7 z8 z9 z10 z11 e0 e1 e2 e3 e4 e5 e6 e7 e8 e9 e10 e11 el
      generalize hW5 : World.drew _ = w9
      obtain ⟨R9, G9⟩ := opw12 hR o _ w9 hW5.symm
      clear hW5
      have z0 := OpB.free R9 0
      have z1 := OpB.free R9 1
      have z2 := OpB.free R9 2
      have z3 := OpB.free R9 3
      have z4 := OpB.free R9 4
      have z5 := OpB.free R9 5
      have z6 := OpB.free R9 6
      have z7 := OpB.free R9 7
      have z8 := OpB.free R9 8
      have z9 := OpB.free R9 9
      have z10 := OpB.free R9 10
      have z11 := OpB.free R9 11
      have e0 : World.cell? w9 ⟨w.heap.size, 0, none⟩ = _ := OpB.cell R9 0
      have e1 : World.cell? w9 ⟨w.heap.size, 1, none⟩ = _ := OpB.cell R9 1
      have e2 : World.cell? w9 ⟨w.heap.size, 2, none⟩ = _ := OpB.cell R9 2
      have e3 : World.cell? w9 ⟨w.heap.size, 3, none⟩ = _ := OpB.cell R9 3
      have e4 : World.cell? w9 ⟨w.heap.size, 4, none⟩ = _ := OpB.cell R9 4
      have e5 : World.cell? w9 ⟨w.heap.size, 5, none⟩ = _ := OpB.cell R9 5
      have e6 : World.cell? w9 ⟨w.heap.size, 6, none⟩ = _ := OpB.cell R9 6
      have e7 : World.cell? w9 ⟨w.heap.size, 7, none⟩ = _ := OpB.cell R9 7
      have e8 : World.cell? w9 ⟨w.heap.size, 8, none⟩ = _ := OpB.cell R9 8
      have e9 : World.cell? w9 ⟨w.heap.size, 9, none⟩ = _ := OpB.cell R9 9
      have e10 : World.cell? w9 ⟨w.heap.size, 10, none⟩ = _ := OpB.cell R9 10
      have e11 : World.cell? w9 ⟨w.heap.size, 11, none⟩ = _ := OpB.cell R9 11
      have el := OpB.lt R9
      simp only [opL, List.getElem?_cons_zero, List.getElem?_cons_succ] at e0 e1 e2 e3 e4 e5 e6 e7 e8 e9 e10 e11
      refine bodyPost_ret (v := .tuple #[.agg (opL o (.slice Ap o.path.length cp)).toArray, .bool true]) (by simp [results, Tryz.results61, go_sem, opL, e0, e1, e2, e3, e4, e5, e6, e7, e8, e9, e10, e11]) rfl ?_
      exact ⟨o, Ap, cp, .inr ⟨rfl, ⟨(fun _ => HRd.out.1 (by simp) HRR.out.symm), fun e => by cases e⟩, ((hSl.out).fr G9 (by intro g hg; injection hg with hg; omega)).mono (Nat.le_succ _), hOW.out, FF.new G9 (Nat.le_refl _)⟩⟩
    | cons x r =>
      have hlt : ¬ ((r.length : Int) + 1 = 0) := by omega
      have hlt2 : ((r.length : Int) + 1 == 0) = false := by rw [beq_eq_false_iff_ne]; omega
      simp only [List.length_cons] at f0
      go_region
      go_wp2_with fail
      clear z0 z1 z2 z3 z4 z5 z6 z7 z8 z9 z10 z11 e0 e1 e2 e3 e4 e5 e6 e7 e8 e9 e10 e11 el
      generalize hW5 : World.drew _ = w9
      obtain ⟨R9, G9⟩ := opw12 hR o _ w9 hW5.symm
      clear hW5
      have z0 := OpB.free R9 0
      have z1 := OpB.free R9 1
      have z2 := OpB.free R9 2
      have z3 := OpB.free R9 3
      have z4 := OpB.free R9 4
      have z5 := OpB.free R9 5
      have z6 := OpB.free R9 6
      have z7 := OpB.free R9 7
      have z8 := OpB.free R9 8
      have z9 := OpB.free R9 9
      have z10 := OpB.free R9 10
      have z11 := OpB.free R9 11
      have e0 : World.cell? w9 ⟨w.heap.size, 0, none⟩ = _ := OpB.cell R9 0
      have e1 : World.cell? w9 ⟨w.heap.size, 1, none⟩ = _ := OpB.cell R9 1
      have e2 : World.cell? w9 ⟨w.heap.size, 2, none⟩ = _ := OpB.cell R9 2
      have e3 : World.cell? w9 ⟨w.heap.size, 3, none⟩ = _ := OpB.cell R9 3
      have e4 : World.cell? w9 ⟨w.heap.size, 4, none⟩ = _ := OpB.cell R9 4
      have e5 : World.cell? w9 ⟨w.heap.size, 5, none⟩ = _ := OpB.cell R9 5
      have e6 : World.cell? w9 ⟨w.heap.size, 6, none⟩ = _ := OpB.cell R9 6
      have e7 : World.cell? w9 ⟨w.heap.size, 7, none⟩ = _ := OpB.cell R9 7
      have e8 : World.cell? w9 ⟨w.heap.size, 8, none⟩ = _ := OpB.cell R9 8
      have e9 : World.cell? w9 ⟨w.heap.size, 9, none⟩ = _ := OpB.cell R9 9
      have e10 : World.cell? w9 ⟨w.heap.size, 10, none⟩ = _ := OpB.cell R9 10
      have e11 : World.cell? w9 ⟨w.heap.size, 11, none⟩ = _ := OpB.cell R9 11
      have el := OpB.lt R9
      simp only [opL, List.getElem?_cons_zero, List.getElem?_cons_succ] at e0 e1 e2 e3 e4 e5 e6 e7 e8 e9 e10 e11
      refine bodyPost_ret (v := .tuple #[.agg (opL o (.slice Ap o.path.length cp)).toArray, .bool false]) (by simp [results, Tryz.results61, go_sem, opL, e0, e1, e2, e3, e4, e5, e6, e7, e8, e9, e10, e11]) rfl ?_
      exact ⟨o, Ap, cp, .inl ⟨rfl, ⟨(fun e => by cases e), fun _ => HRd.out.2 (.inr (by rw [← HRR.out]; simp))⟩, ((hSl.out).fr G9 (by intro g hg; injection hg with hg; omega)).mono (Nat.le_succ _), hOW.out, FF.new G9 (Nat.le_refl _)⟩⟩
end Go.Proofs.YtonhhnedfjonoaaGreatDoor

/- Walk: ledger.read at the letter x (printed by gen_read.py). -/
namespace Go.Proofs.YtonhhnedfjonoaaGreatDoor
open Go.RowKit

set_option maxRecDepth 100000 in
set_option maxHeartbeats 8000000 in
theorem pread5_any (v : List UInt8) (w : World) (hE : Errs w) (hM : Mxl w) (hL : (120 :: v).length ≤ 1000000) (hA : ∀ c ∈ (120 :: v), c.toNat < 128) : Calls Tryz.prog 61 #[.string (bL (120 :: v))] w fun e w' => ∃ o A c ok, e = .returned (.tuple #[.agg (opL o (.slice A o.path.length c)).toArray, .bool ok]) ∧ RdP (120 :: v) o ok ∧ SlN astR w.heap.size w' (.slice A o.path.length c) o.path ∧ OpW o ∧ Fr none w w' := by
  obtain ⟨k, hkk⟩ : ∃ k : UInt8, k = 120 := ⟨_, rfl⟩
  rw [← hkk] at hL hA ⊢
  have HKK := Lib.hid hkk
  clear hkk
  have HA := Lib.hid hA
  clear hA
  have he : (bL (k :: v)).toList.isEmpty = false := by rw [bL_tl]; rfl
  go_enter Tryz.func61, Tryz.ntmps61
  go_upto_region 1 with (fail)
  generalize hW : w.alloc _ = w0
  have F0 : Fr none w w0 := hW ▸ (Fr.refl none w).alloc _
  have b0 : OpB w0 w.heap.size op0 (.slice none 0 0) := by rw [← hW]; exact blk_new _ _
  have hE0 := hE.frs F0 (by simp) (by simp)
  have hM0 := hM.frs F0 (by simp)
  have hE1w := hE.lt
  clear hW hE hM
  have hsz : (bL (k :: v)).size = v.length + 1 := by rw [bL_size, List.length_cons]
  have h1 : (1 : Int) ≤ ((bL (k :: v)).size : Int) := by omega
  have hx0 : (bL (k :: v)).extract 1 (bL (k :: v)).size = bL v := by rw [hsz]; apply ByteArray.ext; apply Array.ext'; simp [bL]
  have hx1 : (bL (k :: v)).extract 1 (v.length + 1) = bL v := by apply ByteArray.ext; apply Array.ext'; simp [bL]
  go_wp2_with fail
  refine (split_any 44 v w0 hM0 (by simp at hL; omega)).mono ?_
  rintro e w1 ⟨A, n, c, rfl, hn, hs, F1⟩
  go_upto_region 5 with (fail)
  have HM1 : True := trivial
  obtain ⟨fb, hfb0⟩ : ∃ fb, fb = w1.heap.size := ⟨_, rfl⟩
  obtain ⟨L, hL0⟩ : ∃ L, L = splL 44 v := ⟨_, rfl⟩
  have HL0 := Lib.hid hL0
  rw [hn, ← hL0] at hs
  rw [← hL0]
  rw [← hfb0]
  have b1 : (w1.alloc (.cells #[.slice A L.length c, .bool false] 121)).heap[fb]? = some (.cells #[.slice A L.length c, .bool false] 121 (0, 0)) := by rw [hfb0]; exact blk_new _ _
  generalize hW1 : w1.alloc _ = w2 at b1 ⊢
  have F2 : Fr none w1 w2 := hW1 ▸ (Fr.refl none w1).alloc _
  have s2 : w2.heap.size = fb + 1 := by rw [← hW1, hfb0]; exact Array.size_push _
  clear hW1
  generalize hW2 : w2.alloc _ = wn0
  have b2 : OpB wn0 (fb + 1) op0 (.slice none 0 0) := by rw [← hW2, ← s2]; exact blk_new _ _
  have F3 : Fr none w2 wn0 := hW2 ▸ (Fr.refl none w2).alloc _
  clear hW2
  obtain ⟨ob, hob⟩ : ∃ ob, ob = fb + 1 := ⟨_, rfl⟩
  rw [← hob] at b2 ⊢
  have hfo : fb < ob := by omega
  have hwf : w.heap.size < fb := by have := b0.lt; have := F1.size; omega
  have FF : Fr none w wn0 := ((F0.pure F1).pure F2).pure F3
  have hO : OpB wn0 ob op0 (.slice none 0 0) := b2
  have hR : OpB wn0 w.heap.size op0 (.slice none 0 0) := b0.fr ((F1.pure F2).pure F3) (by simp)
  have hE : Errs wn0 := hE0.frs ((F1.pure F2).pure F3) (by simp) (by simp)
  have hF : FdB wn0 fb fb (L.drop 0) false := by
    have hs2 := s2
    have hs3 := F3.size
    rw [List.drop_zero]
    refine ⟨by omega, A, c, blk_fr b1 F3 (by simp), hs.keep (D' := Db fb fb) (fun j hj => ⟨⟨by omega, by omega⟩, ?_⟩)⟩
    rw [F3.block j (by omega) (by simp), F2.block j (by omega) (by simp)]
  have hle := hE.lt
  have hew := hE0.lt
  have hnb1 : fb ≠ 6 ∧ ob ≠ 6 := by
    have := hE1w.1
    exact ⟨by omega, by omega⟩
  have hnb2 : fb ≠ 7 ∧ ob ≠ 7 := by
    have := hE1w.2
    exact ⟨by omega, by omega⟩
  have HEb : Hid (6 < ob ∧ 7 < ob) := ⟨by have := hE1w.1; omega, by have := hE1w.2; omega⟩
  clear hs b1 b2 s2 hfb0 hob F0 F1 F2 F3 b0 hE0 hM0 hL0 hn hle hew hE1w
  have HLn : Hid (∀ i, ∀ x ∈ L.drop i, x.length ≤ 1000000 ∧ ∀ c ∈ x, c.toNat < 128) := fun i x hx => by
    have hx' := List.mem_of_mem_drop hx
    rw [HL0.out] at hx'
    have := splL_mem hx'
    simp only [List.length_cons] at hL
    exact ⟨by omega, fun c hc => HA.out c (List.mem_cons_of_mem _ (this.2 c hc))⟩
  have hg : ∀ h : 0 < (bL (k :: v)).size, (bL (k :: v))[0]'h = k := fun _ => rfl
  have hne : some fb ≠ some ob := fun e => by have := Option.some.inj e; omega
  have hne' : some ob ≠ some fb := fun e => by have := Option.some.inj e; omega
  have hnr : some fb ≠ some w.heap.size := fun e => by have := Option.some.inj e; omega
  have hnr' : some ob ≠ some w.heap.size := fun e => by have := Option.some.inj e; omega
  have hob : w.heap.size ≤ ob := by omega
  have hfb : w.heap.size ≤ fb := by omega
  have hob' : fb ≤ ob := by omega
  have Z1 : some fb ≠ some 6 := fun e => hnb1.1 (Option.some.inj e)
  have Z2 : some fb ≠ some 7 := fun e => hnb2.1 (Option.some.inj e)
  have Z3 : some ob ≠ some 6 := fun e => hnb1.2 (Option.some.inj e)
  have Z4 : some ob ≠ some 7 := fun e => hnb2.2 (Option.some.inj e)
  have hkk := HKK.out
  subst hkk
  have hx0 : ((120 : Int) == 99) = false := by decide
  have hx1 : ((120 : Int) == 112) = false := by decide
  have hx2 : ((120 : Int) == 116) = false := by decide
  have hx3 : ((120 : Int) == 111) = false := by decide
  have zc := OpB.free hO 0
  have ec : World.cell? wn0 ⟨ob, 0, none⟩ = _ := OpB.cell hO 0
  have elc := OpB.lt hO
  simp only [opL, List.getElem?_cons_zero, List.getElem?_cons_succ] at ec
  go_wp2_with fail
  generalize hW : World.setCell _ _ _ = wn1
  have G : Fr (some ob) wn0 wn1 := hW ▸ Fr.set1 wn0 ⟨ob, 0, none⟩ (.int .i64 5)
  have hO2 := OpB.kind hO 5
  rw [hW] at hO2
  try dsimp only at hO2
  have hF2 := hF.fr G hne' (fun g e => by rw [← Option.some.inj e]; exact hob')
  have hE2 := hE.frs G Z3 Z4
  have hR2 := hR.fr G hnr'
  have FF2 := FF.new G hob
  clear hW G hO hF hE hR FF zc ec elc
  have hO := hO2
  have hF := hF2
  have hE := hE2
  have hR := hR2
  have FF := FF2
  clear hO2 hF2 hE2 hR2 FF2
  refine (fdnum_any fb fb (L.drop 0) false wn1 hF hE (fun x hx => (HLn.out 0 x hx).1) hnb1.1 hnb2.1).mono ?_
  rintro e wn2 ⟨n1, b1, rfl, hf, hN1, hW1, F⟩
  have hF2 : FdB wn2 fb fb (L.drop 1) b1 := by rw [List.drop_drop] at hf; exact hf
  have hO2 := hO.fr F hne
  have hE2 := hE.frs F Z1 Z2
  have hR2 := hR.fr F hnr
  have FF2 := FF.new F hfb
  have HN1 := Lib.hid hN1
  have HW1 := Lib.hid hW1
  clear hf hO hF hE hR FF F hN1 hW1
  have hO := hO2
  have hF := hF2
  have hE := hE2
  have hR := hR2
  have FF := FF2
  clear hO2 hF2 hE2 hR2 FF2
  have zc := OpB.free hO 10
  have ec : World.cell? wn2 ⟨ob, 10, none⟩ = _ := OpB.cell hO 10
  have elc := OpB.lt hO
  simp only [opL, List.getElem?_cons_zero, List.getElem?_cons_succ] at ec
  go_upto_region 38 with (fail)
  generalize hW : World.setCell _ _ _ = wn3
  have G : Fr (some ob) wn2 wn3 := hW ▸ Fr.set1 wn2 ⟨ob, 10, none⟩ (.int .i64 n1)
  have hO2 := OpB.id hO n1
  rw [hW] at hO2
  try dsimp only at hO2
  have hF2 := hF.fr G hne' (fun g e => by rw [← Option.some.inj e]; exact hob')
  have hE2 := hE.frs G Z3 Z4
  have hR2 := hR.fr G hnr'
  have FF2 := FF.new G hob
  clear hW G hO hF hE hR FF zc ec elc
  have hO := hO2
  have hF := hF2
  have hE := hE2
  have hR := hR2
  have FF := FF2
  clear hO2 hF2 hE2 hR2 FF2
  have HRd := Lib.hid (rdO_x HL0.out HN1.out)
  obtain ⟨o, Ap, cp, hO2, hSl, HRd2, hOW⟩ : ∃ o Ap cp, OpB wn3 ob o (.slice Ap o.path.length cp) ∧ Hid (SlN astR (w.heap.size + 1) wn3 (.slice Ap o.path.length cp) o.path) ∧ Hid ((b1 = false → L.drop 1 = [] → rdO (120 :: v) = some o) ∧ (b1 = true ∨ L.drop 1 ≠ [] → rdO (120 :: v) = none)) ∧ Hid (OpW o) := ⟨{ op0 with kind := 5, id := n1 }, none, 0, hO, SlN.nil _ _ _, HRd.out, by refine ⟨?_, ?_, ?_, ?_, ?_, ?_, ?_, ?_, ?_⟩ <;> first | exact HW1.out | exact HW2.out | exact HW3.out | exact HW4.out | exact HW5.out | exact wi0 | exact wi1 | exact wi2 | exact wi3 | exact wi4 | exact wi5 | exact wi6⟩
  clear hO HRd
  have hO := hO2
  have HRd := HRd2
  clear hO2 HRd2
  obtain ⟨R, hRR⟩ : ∃ R, R = L.drop 1 := ⟨_, rfl⟩
  rw [← hRR] at hF
  have HRR := Lib.hid hRR
  clear hRR
  have hF' := hF
  obtain ⟨_, A1, c1, hb1, _⟩ := hF'
  have f0 : World.cell? wn3 ⟨fb, 0, none⟩ = some (.slice A1 R.length c1) := by rw [blk_cell hb1]; rfl
  have f1 : World.cell? wn3 ⟨fb, 1, none⟩ = some (.bool b1) := by rw [blk_cell hb1]; rfl
  have fl := hF.lt
  clear hb1
  have z0 := OpB.free hR 0
  have z1 := OpB.free hR 1
  have z2 := OpB.free hR 2
  have z3 := OpB.free hR 3
  have z4 := OpB.free hR 4
  have z5 := OpB.free hR 5
  have z6 := OpB.free hR 6
  have z7 := OpB.free hR 7
  have z8 := OpB.free hR 8
  have z9 := OpB.free hR 9
  have z10 := OpB.free hR 10
  have z11 := OpB.free hR 11
  have e0 : World.cell? wn3 ⟨w.heap.size, 0, none⟩ = _ := OpB.cell hR 0
  have e1 : World.cell? wn3 ⟨w.heap.size, 1, none⟩ = _ := OpB.cell hR 1
  have e2 : World.cell? wn3 ⟨w.heap.size, 2, none⟩ = _ := OpB.cell hR 2
  have e3 : World.cell? wn3 ⟨w.heap.size, 3, none⟩ = _ := OpB.cell hR 3
  have e4 : World.cell? wn3 ⟨w.heap.size, 4, none⟩ = _ := OpB.cell hR 4
  have e5 : World.cell? wn3 ⟨w.heap.size, 5, none⟩ = _ := OpB.cell hR 5
  have e6 : World.cell? wn3 ⟨w.heap.size, 6, none⟩ = _ := OpB.cell hR 6
  have e7 : World.cell? wn3 ⟨w.heap.size, 7, none⟩ = _ := OpB.cell hR 7
  have e8 : World.cell? wn3 ⟨w.heap.size, 8, none⟩ = _ := OpB.cell hR 8
  have e9 : World.cell? wn3 ⟨w.heap.size, 9, none⟩ = _ := OpB.cell hR 9
  have e10 : World.cell? wn3 ⟨w.heap.size, 10, none⟩ = _ := OpB.cell hR 10
  have e11 : World.cell? wn3 ⟨w.heap.size, 11, none⟩ = _ := OpB.cell hR 11
  have el := OpB.lt hR
  simp only [opL, List.getElem?_cons_zero, List.getElem?_cons_succ] at e0 e1 e2 e3 e4 e5 e6 e7 e8 e9 e10 e11
  have o0 : World.cell? wn3 ⟨ob, 0, none⟩ = _ := OpB.cell hO 0
  have o1 : World.cell? wn3 ⟨ob, 1, none⟩ = _ := OpB.cell hO 1
  have o2 : World.cell? wn3 ⟨ob, 2, none⟩ = _ := OpB.cell hO 2
  have o3 : World.cell? wn3 ⟨ob, 3, none⟩ = _ := OpB.cell hO 3
  have o4 : World.cell? wn3 ⟨ob, 4, none⟩ = _ := OpB.cell hO 4
  have o5 : World.cell? wn3 ⟨ob, 5, none⟩ = _ := OpB.cell hO 5
  have o6 : World.cell? wn3 ⟨ob, 6, none⟩ = _ := OpB.cell hO 6
  have o7 : World.cell? wn3 ⟨ob, 7, none⟩ = _ := OpB.cell hO 7
  have o8 : World.cell? wn3 ⟨ob, 8, none⟩ = _ := OpB.cell hO 8
  have o9 : World.cell? wn3 ⟨ob, 9, none⟩ = _ := OpB.cell hO 9
  have o10 : World.cell? wn3 ⟨ob, 10, none⟩ = _ := OpB.cell hO 10
  have o11 : World.cell? wn3 ⟨ob, 11, none⟩ = _ := OpB.cell hO 11
  simp only [opL, List.getElem?_cons_zero, List.getElem?_cons_succ] at o0 o1 o2 o3 o4 o5 o6 o7 o8 o9 o10 o11
  have ol := hO.lt
  cases b1 with
  | true =>
    go_region
    go_wp2_with fail
    clear z0 z1 z2 z3 z4 z5 z6 z7 z8 z9 z10 z11 e0 e1 e2 e3 e4 e5 e6 e7 e8 e9 e10 e11 el
    generalize hW5 : World.drew _ = w9
    obtain ⟨R9, G9⟩ := opw12 hR o _ w9 hW5.symm
    clear hW5
    have z0 := OpB.free R9 0
    have z1 := OpB.free R9 1
    have z2 := OpB.free R9 2
    have z3 := OpB.free R9 3
    have z4 := OpB.free R9 4
    have z5 := OpB.free R9 5
    have z6 := OpB.free R9 6
    have z7 := OpB.free R9 7
    have z8 := OpB.free R9 8
    have z9 := OpB.free R9 9
    have z10 := OpB.free R9 10
    have z11 := OpB.free R9 11
    have e0 : World.cell? w9 ⟨w.heap.size, 0, none⟩ = _ := OpB.cell R9 0
    have e1 : World.cell? w9 ⟨w.heap.size, 1, none⟩ = _ := OpB.cell R9 1
    have e2 : World.cell? w9 ⟨w.heap.size, 2, none⟩ = _ := OpB.cell R9 2
    have e3 : World.cell? w9 ⟨w.heap.size, 3, none⟩ = _ := OpB.cell R9 3
    have e4 : World.cell? w9 ⟨w.heap.size, 4, none⟩ = _ := OpB.cell R9 4
    have e5 : World.cell? w9 ⟨w.heap.size, 5, none⟩ = _ := OpB.cell R9 5
    have e6 : World.cell? w9 ⟨w.heap.size, 6, none⟩ = _ := OpB.cell R9 6
    have e7 : World.cell? w9 ⟨w.heap.size, 7, none⟩ = _ := OpB.cell R9 7
    have e8 : World.cell? w9 ⟨w.heap.size, 8, none⟩ = _ := OpB.cell R9 8
    have e9 : World.cell? w9 ⟨w.heap.size, 9, none⟩ = _ := OpB.cell R9 9
    have e10 : World.cell? w9 ⟨w.heap.size, 10, none⟩ = _ := OpB.cell R9 10
    have e11 : World.cell? w9 ⟨w.heap.size, 11, none⟩ = _ := OpB.cell R9 11
    have el := OpB.lt R9
    simp only [opL, List.getElem?_cons_zero, List.getElem?_cons_succ] at e0 e1 e2 e3 e4 e5 e6 e7 e8 e9 e10 e11
    refine bodyPost_ret (v := .tuple #[.agg (opL o (.slice Ap o.path.length cp)).toArray, .bool false]) (by simp [results, Tryz.results61, go_sem, opL, e0, e1, e2, e3, e4, e5, e6, e7, e8, e9, e10, e11]) rfl ?_
    exact ⟨o, Ap, cp, .inl ⟨rfl, ⟨(fun e => by cases e), fun _ => HRd.out.2 (.inl (by simp))⟩, ((hSl.out).fr G9 (by intro g hg; injection hg with hg; omega)).mono (Nat.le_succ _), hOW.out, FF.new G9 (Nat.le_refl _)⟩⟩
  | false =>
    cases R with
    | nil =>
      go_region
      go_wp2_with fail
      clear z0 z1 z2 z3 z4 z5 z6 z7 z8 z9 z10 z11 e0 e1 e2 e3 e4 e5 e6 e7 e8 e9 e10 e11 el
      generalize hW5 : World.drew _ = w9
      obtain ⟨R9, G9⟩ := opw12 hR o _ w9 hW5.symm
      clear hW5
      have z0 := OpB.free R9 0
      have z1 := OpB.free R9 1
      have z2 := OpB.free R9 2
      have z3 := OpB.free R9 3
      have z4 := OpB.free R9 4
      have z5 := OpB.free R9 5
      have z6 := OpB.free R9 6
      have z7 := OpB.free R9 7
      have z8 := OpB.free R9 8
      have z9 := OpB.free R9 9
      have z10 := OpB.free R9 10
      have z11 := OpB.free R9 11
      have e0 : World.cell? w9 ⟨w.heap.size, 0, none⟩ = _ := OpB.cell R9 0
      have e1 : World.cell? w9 ⟨w.heap.size, 1, none⟩ = _ := OpB.cell R9 1
      have e2 : World.cell? w9 ⟨w.heap.size, 2, none⟩ = _ := OpB.cell R9 2
      have e3 : World.cell? w9 ⟨w.heap.size, 3, none⟩ = _ := OpB.cell R9 3
      have e4 : World.cell? w9 ⟨w.heap.size, 4, none⟩ = _ := OpB.cell R9 4
      have e5 : World.cell? w9 ⟨w.heap.size, 5, none⟩ = _ := OpB.cell R9 5
      have e6 : World.cell? w9 ⟨w.heap.size, 6, none⟩ = _ := OpB.cell R9 6
      have e7 : World.cell? w9 ⟨w.heap.size, 7, none⟩ = _ := OpB.cell R9 7
      have e8 : World.cell? w9 ⟨w.heap.size, 8, none⟩ = _ := OpB.cell R9 8
      have e9 : World.cell? w9 ⟨w.heap.size, 9, none⟩ = _ := OpB.cell R9 9
      have e10 : World.cell? w9 ⟨w.heap.size, 10, none⟩ = _ := OpB.cell R9 10
      have e11 : World.cell? w9 ⟨w.heap.size, 11, none⟩ = _ := OpB.cell R9 11
      have el := OpB.lt R9
      simp only [opL, List.getElem?_cons_zero, List.getElem?_cons_succ] at e0 e1 e2 e3 e4 e5 e6 e7 e8 e9 e10 e11
      refine bodyPost_ret (v := .tuple #[.agg (opL o (.slice Ap o.path.length cp)).toArray, .bool true]) (by simp [results, Tryz.results61, go_sem, opL, e0, e1, e2, e3, e4, e5, e6, e7, e8, e9, e10, e11]) rfl ?_
      exact ⟨o, Ap, cp, .inr ⟨rfl, ⟨(fun _ => HRd.out.1 (by simp) HRR.out.symm), fun e => by cases e⟩, ((hSl.out).fr G9 (by intro g hg; injection hg with hg; omega)).mono (Nat.le_succ _), hOW.out, FF.new G9 (Nat.le_refl _)⟩⟩
    | cons x r =>
      have hlt : ¬ ((r.length : Int) + 1 = 0) := by omega
      have hlt2 : ((r.length : Int) + 1 == 0) = false := by rw [beq_eq_false_iff_ne]; omega
      simp only [List.length_cons] at f0
      go_region
      go_wp2_with fail
      clear z0 z1 z2 z3 z4 z5 z6 z7 z8 z9 z10 z11 e0 e1 e2 e3 e4 e5 e6 e7 e8 e9 e10 e11 el
      generalize hW5 : World.drew _ = w9
      obtain ⟨R9, G9⟩ := opw12 hR o _ w9 hW5.symm
      clear hW5
      have z0 := OpB.free R9 0
      have z1 := OpB.free R9 1
      have z2 := OpB.free R9 2
      have z3 := OpB.free R9 3
      have z4 := OpB.free R9 4
      have z5 := OpB.free R9 5
      have z6 := OpB.free R9 6
      have z7 := OpB.free R9 7
      have z8 := OpB.free R9 8
      have z9 := OpB.free R9 9
      have z10 := OpB.free R9 10
      have z11 := OpB.free R9 11
      have e0 : World.cell? w9 ⟨w.heap.size, 0, none⟩ = _ := OpB.cell R9 0
      have e1 : World.cell? w9 ⟨w.heap.size, 1, none⟩ = _ := OpB.cell R9 1
      have e2 : World.cell? w9 ⟨w.heap.size, 2, none⟩ = _ := OpB.cell R9 2
      have e3 : World.cell? w9 ⟨w.heap.size, 3, none⟩ = _ := OpB.cell R9 3
      have e4 : World.cell? w9 ⟨w.heap.size, 4, none⟩ = _ := OpB.cell R9 4
      have e5 : World.cell? w9 ⟨w.heap.size, 5, none⟩ = _ := OpB.cell R9 5
      have e6 : World.cell? w9 ⟨w.heap.size, 6, none⟩ = _ := OpB.cell R9 6
      have e7 : World.cell? w9 ⟨w.heap.size, 7, none⟩ = _ := OpB.cell R9 7
      have e8 : World.cell? w9 ⟨w.heap.size, 8, none⟩ = _ := OpB.cell R9 8
      have e9 : World.cell? w9 ⟨w.heap.size, 9, none⟩ = _ := OpB.cell R9 9
      have e10 : World.cell? w9 ⟨w.heap.size, 10, none⟩ = _ := OpB.cell R9 10
      have e11 : World.cell? w9 ⟨w.heap.size, 11, none⟩ = _ := OpB.cell R9 11
      have el := OpB.lt R9
      simp only [opL, List.getElem?_cons_zero, List.getElem?_cons_succ] at e0 e1 e2 e3 e4 e5 e6 e7 e8 e9 e10 e11
      refine bodyPost_ret (v := .tuple #[.agg (opL o (.slice Ap o.path.length cp)).toArray, .bool false]) (by simp [results, Tryz.results61, go_sem, opL, e0, e1, e2, e3, e4, e5, e6, e7, e8, e9, e10, e11]) rfl ?_
      exact ⟨o, Ap, cp, .inl ⟨rfl, ⟨(fun e => by cases e), fun _ => HRd.out.2 (.inr (by rw [← HRR.out]; simp))⟩, ((hSl.out).fr G9 (by intro g hg; injection hg with hg; omega)).mono (Nat.le_succ _), hOW.out, FF.new G9 (Nat.le_refl _)⟩⟩
end Go.Proofs.YtonhhnedfjonoaaGreatDoor

/- Some texts of this claim, joined: contracts of the functions that it reaches, and plain laws. -/
import Derived.Test.YtonhhnedfjonoaaGreatDoorJM6
import Derived.Test.YtonhhnedfjonoaaGreatDoorJM3
import Derived.Test.YtonhhnedfjonoaaGreatDoorJM7
import Derived.Test.YtonhhnedfjonoaaGreatDoorJM8
import Derived.Test.YtonhhnedfjonoaaGreatDoorProg
import Derived.Test.YtonhhnedfjonoaaGreatDoorJM19
import Derived.Test.YtonhhnedfjonoaaGreatDoorJM21

set_option linter.unusedSimpArgs false
set_option linter.unusedVariables false
/- Walk: ledger.read at the letter s (printed by gen_read.py). -/
namespace Go.Proofs.YtonhhnedfjonoaaGreatDoor
open Go.RowKit

set_option maxRecDepth 100000 in
set_option maxHeartbeats 8000000 in
theorem pread6_any (v : List UInt8) (w : World) (hE : Errs w) (hM : Mxl w) (hL : (115 :: v).length ≤ 1000000) (hA : ∀ c ∈ (115 :: v), c.toNat < 128) : Calls Tryz.prog 61 #[.string (bL (115 :: v))] w fun e w' => ∃ o A c ok, e = .returned (.tuple #[.agg (opL o (.slice A o.path.length c)).toArray, .bool ok]) ∧ RdP (115 :: v) o ok ∧ SlN astR w.heap.size w' (.slice A o.path.length c) o.path ∧ OpW o ∧ Fr none w w' := by
  obtain ⟨k, hkk⟩ : ∃ k : UInt8, k = 115 := ⟨_, rfl⟩
  rw [← hkk] at hL hA ⊢
  have HKK := Lib.hid hkk
  clear hkk
  have HA := Lib.hid hA
  clear hA
  have he : (bL (k :: v)).toList.isEmpty = false := by rw [bL_tl]; rfl
  go_enter Tryz.func61, Tryz.ntmps61
  go_upto_region 1 with (fail)
  generalize hW : w.alloc _ = w0
  have F0 : Fr none w w0 := hW ▸ (Fr.refl none w).alloc _
  have b0 : OpB w0 w.heap.size op0 (.slice none 0 0) := by rw [← hW]; exact blk_new _ _
  have hE0 := hE.frs F0 (by simp) (by simp)
  have hM0 := hM.frs F0 (by simp)
  have hE1w := hE.lt
  clear hW hE hM
  have hsz : (bL (k :: v)).size = v.length + 1 := by rw [bL_size, List.length_cons]
  have h1 : (1 : Int) ≤ ((bL (k :: v)).size : Int) := by omega
  have hx0 : (bL (k :: v)).extract 1 (bL (k :: v)).size = bL v := by rw [hsz]; apply ByteArray.ext; apply Array.ext'; simp [bL]
  have hx1 : (bL (k :: v)).extract 1 (v.length + 1) = bL v := by apply ByteArray.ext; apply Array.ext'; simp [bL]
  go_wp2_with fail
  refine (split_any 44 v w0 hM0 (by simp at hL; omega)).mono ?_
  rintro e w1 ⟨A, n, c, rfl, hn, hs, F1⟩
  go_upto_region 5 with (fail)
  have HM1 : True := trivial
  obtain ⟨fb, hfb0⟩ : ∃ fb, fb = w1.heap.size := ⟨_, rfl⟩
  obtain ⟨L, hL0⟩ : ∃ L, L = splL 44 v := ⟨_, rfl⟩
  have HL0 := Lib.hid hL0
  rw [hn, ← hL0] at hs
  rw [← hL0]
  rw [← hfb0]
  have b1 : (w1.alloc (.cells #[.slice A L.length c, .bool false] 121)).heap[fb]? = some (.cells #[.slice A L.length c, .bool false] 121 (0, 0)) := by rw [hfb0]; exact blk_new _ _
  generalize hW1 : w1.alloc _ = w2 at b1 ⊢
  have F2 : Fr none w1 w2 := hW1 ▸ (Fr.refl none w1).alloc _
  have s2 : w2.heap.size = fb + 1 := by rw [← hW1, hfb0]; exact Array.size_push _
  clear hW1
  generalize hW2 : w2.alloc _ = wn0
  have b2 : OpB wn0 (fb + 1) op0 (.slice none 0 0) := by rw [← hW2, ← s2]; exact blk_new _ _
  have F3 : Fr none w2 wn0 := hW2 ▸ (Fr.refl none w2).alloc _
  clear hW2
  obtain ⟨ob, hob⟩ : ∃ ob, ob = fb + 1 := ⟨_, rfl⟩
  rw [← hob] at b2 ⊢
  have hfo : fb < ob := by omega
  have hwf : w.heap.size < fb := by have := b0.lt; have := F1.size; omega
  have FF : Fr none w wn0 := ((F0.pure F1).pure F2).pure F3
  have hO : OpB wn0 ob op0 (.slice none 0 0) := b2
  have hR : OpB wn0 w.heap.size op0 (.slice none 0 0) := b0.fr ((F1.pure F2).pure F3) (by simp)
  have hE : Errs wn0 := hE0.frs ((F1.pure F2).pure F3) (by simp) (by simp)
  have hF : FdB wn0 fb fb (L.drop 0) false := by
    have hs2 := s2
    have hs3 := F3.size
    rw [List.drop_zero]
    refine ⟨by omega, A, c, blk_fr b1 F3 (by simp), hs.keep (D' := Db fb fb) (fun j hj => ⟨⟨by omega, by omega⟩, ?_⟩)⟩
    rw [F3.block j (by omega) (by simp), F2.block j (by omega) (by simp)]
  have hle := hE.lt
  have hew := hE0.lt
  have hnb1 : fb ≠ 6 ∧ ob ≠ 6 := by
    have := hE1w.1
    exact ⟨by omega, by omega⟩
  have hnb2 : fb ≠ 7 ∧ ob ≠ 7 := by
    have := hE1w.2
    exact ⟨by omega, by omega⟩
  have HEb : Hid (6 < ob ∧ 7 < ob) := ⟨by have := hE1w.1; omega, by have := hE1w.2; omega⟩
  clear hs b1 b2 s2 hfb0 hob F0 F1 F2 F3 b0 hE0 hM0 hL0 hn hle hew hE1w
  have HLn : Hid (∀ i, ∀ x ∈ L.drop i, x.length ≤ 1000000 ∧ ∀ c ∈ x, c.toNat < 128) := fun i x hx => by
    have hx' := List.mem_of_mem_drop hx
    rw [HL0.out] at hx'
    have := splL_mem hx'
    simp only [List.length_cons] at hL
    exact ⟨by omega, fun c hc => HA.out c (List.mem_cons_of_mem _ (this.2 c hc))⟩
  have hg : ∀ h : 0 < (bL (k :: v)).size, (bL (k :: v))[0]'h = k := fun _ => rfl
  have hne : some fb ≠ some ob := fun e => by have := Option.some.inj e; omega
  have hne' : some ob ≠ some fb := fun e => by have := Option.some.inj e; omega
  have hnr : some fb ≠ some w.heap.size := fun e => by have := Option.some.inj e; omega
  have hnr' : some ob ≠ some w.heap.size := fun e => by have := Option.some.inj e; omega
  have hob : w.heap.size ≤ ob := by omega
  have hfb : w.heap.size ≤ fb := by omega
  have hob' : fb ≤ ob := by omega
  have Z1 : some fb ≠ some 6 := fun e => hnb1.1 (Option.some.inj e)
  have Z2 : some fb ≠ some 7 := fun e => hnb2.1 (Option.some.inj e)
  have Z3 : some ob ≠ some 6 := fun e => hnb1.2 (Option.some.inj e)
  have Z4 : some ob ≠ some 7 := fun e => hnb2.2 (Option.some.inj e)
  have hkk := HKK.out
  subst hkk
  have hx0 : ((115 : Int) == 99) = false := by decide
  have hx1 : ((115 : Int) == 112) = false := by decide
  have hx2 : ((115 : Int) == 116) = false := by decide
  have hx3 : ((115 : Int) == 111) = false := by decide
  have hx4 : ((115 : Int) == 120) = false := by decide
  have zc := OpB.free hO 0
  have ec : World.cell? wn0 ⟨ob, 0, none⟩ = _ := OpB.cell hO 0
  have elc := OpB.lt hO
  simp only [opL, List.getElem?_cons_zero, List.getElem?_cons_succ] at ec
  go_wp2_with fail
  generalize hW : World.setCell _ _ _ = wn1
  have G : Fr (some ob) wn0 wn1 := hW ▸ Fr.set1 wn0 ⟨ob, 0, none⟩ (.int .i64 6)
  have hO2 := OpB.kind hO 6
  rw [hW] at hO2
  try dsimp only at hO2
  have hF2 := hF.fr G hne' (fun g e => by rw [← Option.some.inj e]; exact hob')
  have hE2 := hE.frs G Z3 Z4
  have hR2 := hR.fr G hnr'
  have FF2 := FF.new G hob
  clear hW G hO hF hE hR FF zc ec elc
  have hO := hO2
  have hF := hF2
  have hE := hE2
  have hR := hR2
  have FF := FF2
  clear hO2 hF2 hE2 hR2 FF2
  refine (fdnum_any fb fb (L.drop 0) false wn1 hF hE (fun x hx => (HLn.out 0 x hx).1) hnb1.1 hnb2.1).mono ?_
  rintro e wn2 ⟨n1, b1, rfl, hf, hN1, hW1, F⟩
  have hF2 : FdB wn2 fb fb (L.drop 1) b1 := by rw [List.drop_drop] at hf; exact hf
  have hO2 := hO.fr F hne
  have hE2 := hE.frs F Z1 Z2
  have hR2 := hR.fr F hnr
  have FF2 := FF.new F hfb
  have HN1 := Lib.hid hN1
  have HW1 := Lib.hid hW1
  clear hf hO hF hE hR FF F hN1 hW1
  have hO := hO2
  have hF := hF2
  have hE := hE2
  have hR := hR2
  have FF := FF2
  clear hO2 hF2 hE2 hR2 FF2
  have zc := OpB.free hO 1
  have ec : World.cell? wn2 ⟨ob, 1, none⟩ = _ := OpB.cell hO 1
  have elc := OpB.lt hO
  simp only [opL, List.getElem?_cons_zero, List.getElem?_cons_succ] at ec
  go_wp2_with fail
  generalize hW : World.setCell _ _ _ = wn3
  have G : Fr (some ob) wn2 wn3 := hW ▸ Fr.set1 wn2 ⟨ob, 1, none⟩ (.int .i64 n1)
  have hO2 := OpB.to_ hO n1
  rw [hW] at hO2
  try dsimp only at hO2
  have hF2 := hF.fr G hne' (fun g e => by rw [← Option.some.inj e]; exact hob')
  have hE2 := hE.frs G Z3 Z4
  have hR2 := hR.fr G hnr'
  have FF2 := FF.new G hob
  clear hW G hO hF hE hR FF zc ec elc
  have hO := hO2
  have hF := hF2
  have hE := hE2
  have hR := hR2
  have FF := FF2
  clear hO2 hF2 hE2 hR2 FF2
  refine (fdnum_any fb fb (L.drop 1) b1 wn3 hF hE (fun x hx => (HLn.out 1 x hx).1) hnb1.1 hnb2.1).mono ?_
  rintro e wn4 ⟨n2, b2, rfl, hf, hN2, hW2, F⟩
  have hF2 : FdB wn4 fb fb (L.drop 2) b2 := by rw [List.drop_drop] at hf; exact hf
  have hO2 := hO.fr F hne
  have hE2 := hE.frs F Z1 Z2
  have hR2 := hR.fr F hnr
  have FF2 := FF.new F hfb
  have HN2 := Lib.hid hN2
  have HW2 := Lib.hid hW2
  clear hf hO hF hE hR FF F hN2 hW2
  have hO := hO2
  have hF := hF2
  have hE := hE2
  have hR := hR2
  have FF := FF2
  clear hO2 hF2 hE2 hR2 FF2
  have zc := OpB.free hO 2
  have ec : World.cell? wn4 ⟨ob, 2, none⟩ = _ := OpB.cell hO 2
  have elc := OpB.lt hO
  simp only [opL, List.getElem?_cons_zero, List.getElem?_cons_succ] at ec
  go_wp2_with fail
  generalize hW : World.setCell _ _ _ = wn5
  have G : Fr (some ob) wn4 wn5 := hW ▸ Fr.set1 wn4 ⟨ob, 2, none⟩ (.int .i64 n2)
  have hO2 := OpB.amt hO n2
  rw [hW] at hO2
  try dsimp only at hO2
  have hF2 := hF.fr G hne' (fun g e => by rw [← Option.some.inj e]; exact hob')
  have hE2 := hE.frs G Z3 Z4
  have hR2 := hR.fr G hnr'
  have FF2 := FF.new G hob
  clear hW G hO hF hE hR FF zc ec elc
  have hO := hO2
  have hF := hF2
  have hE := hE2
  have hR := hR2
  have FF := FF2
  clear hO2 hF2 hE2 hR2 FF2
  refine (fdast_any fb fb (L.drop 2) b2 wn5 hF hE (fun x hx => HLn.out 2 x hx) hnb1.1 hnb2.1).mono ?_
  rintro e wn6 ⟨n3, b3, rfl, hf, hN3, hW3, F⟩
  have hF2 : FdB wn6 fb fb (L.drop 3) b3 := by rw [List.drop_drop] at hf; exact hf
  have hN3 : AstF (L.drop 2) b2 n3 b3 := hN3
  have hO2 := hO.fr F hne
  have hE2 := hE.frs F Z1 Z2
  have hR2 := hR.fr F hnr
  have FF2 := FF.new F hfb
  have HN3 := Lib.hid hN3
  have HW3 := Lib.hid hW3
  clear hf hO hF hE hR FF F hN3 hW3
  have hO := hO2
  have hF := hF2
  have hE := hE2
  have hR := hR2
  have FF := FF2
  clear hO2 hF2 hE2 hR2 FF2
  have zc := OpB.free hO 4
  have ec : World.cell? wn6 ⟨ob, 4, none⟩ = _ := OpB.cell hO 4
  have elc := OpB.lt hO
  simp only [opL, List.getElem?_cons_zero, List.getElem?_cons_succ] at ec
  have zc2 := OpB.free hO 5
  have ec2 : World.cell? wn6 ⟨ob, 5, none⟩ = _ := OpB.cell hO 5
  simp only [opL, List.getElem?_cons_zero, List.getElem?_cons_succ] at ec2
  go_wp2_with fail
  generalize hW : World.setCell _ _ _ = wn7
  have G : Fr (some ob) wn6 wn7 := hW ▸ ((Fr.set1 wn6 ⟨ob, 4, none⟩ (.string (bL n3.code))).setRow (p := ⟨ob, 5, none⟩) rfl (.int .i64 n3.iss))
  have hO2 := OpB.ast hO n3
  rw [hW] at hO2
  try dsimp only at hO2
  clear zc2 ec2
  have hF2 := hF.fr G hne' (fun g e => by rw [← Option.some.inj e]; exact hob')
  have hE2 := hE.frs G Z3 Z4
  have hR2 := hR.fr G hnr'
  have FF2 := FF.new G hob
  clear hW G hO hF hE hR FF zc ec elc
  have hO := hO2
  have hF := hF2
  have hE := hE2
  have hR := hR2
  have FF := FF2
  clear hO2 hF2 hE2 hR2 FF2
  refine (fdnum_any fb fb (L.drop 3) b3 wn7 hF hE (fun x hx => (HLn.out 3 x hx).1) hnb1.1 hnb2.1).mono ?_
  rintro e wn8 ⟨n4, b4, rfl, hf, hN4, hW4, F⟩
  have hF2 : FdB wn8 fb fb (L.drop 4) b4 := by rw [List.drop_drop] at hf; exact hf
  have hO2 := hO.fr F hne
  have hE2 := hE.frs F Z1 Z2
  have hR2 := hR.fr F hnr
  have FF2 := FF.new F hfb
  have HN4 := Lib.hid hN4
  have HW4 := Lib.hid hW4
  clear hf hO hF hE hR FF F hN4 hW4
  have hO := hO2
  have hF := hF2
  have hE := hE2
  have hR := hR2
  have FF := FF2
  clear hO2 hF2 hE2 hR2 FF2
  have zc := OpB.free hO 3
  have ec : World.cell? wn8 ⟨ob, 3, none⟩ = _ := OpB.cell hO 3
  have elc := OpB.lt hO
  simp only [opL, List.getElem?_cons_zero, List.getElem?_cons_succ] at ec
  go_wp2_with fail
  generalize hW : World.setCell _ _ _ = wn9
  have G : Fr (some ob) wn8 wn9 := hW ▸ Fr.set1 wn8 ⟨ob, 3, none⟩ (.int .i64 n4)
  have hO2 := OpB.lim hO n4
  rw [hW] at hO2
  try dsimp only at hO2
  have hF2 := hF.fr G hne' (fun g e => by rw [← Option.some.inj e]; exact hob')
  have hE2 := hE.frs G Z3 Z4
  have hR2 := hR.fr G hnr'
  have FF2 := FF.new G hob
  clear hW G hO hF hE hR FF zc ec elc
  have hO := hO2
  have hF := hF2
  have hE := hE2
  have hR := hR2
  have FF := FF2
  clear hO2 hF2 hE2 hR2 FF2
  refine (fdast_any fb fb (L.drop 4) b4 wn9 hF hE (fun x hx => HLn.out 4 x hx) hnb1.1 hnb2.1).mono ?_
  rintro e wn10 ⟨n5, b5, rfl, hf, hN5, hW5, F⟩
  have hF2 : FdB wn10 fb fb (L.drop 5) b5 := by rw [List.drop_drop] at hf; exact hf
  have hN5 : AstF (L.drop 4) b4 n5 b5 := hN5
  have hO2 := hO.fr F hne
  have hE2 := hE.frs F Z1 Z2
  have hR2 := hR.fr F hnr
  have FF2 := FF.new F hfb
  have HN5 := Lib.hid hN5
  have HW5 := Lib.hid hW5
  clear hf hO hF hE hR FF F hN5 hW5
  have hO := hO2
  have hF := hF2
  have hE := hE2
  have hR := hR2
  have FF := FF2
  clear hO2 hF2 hE2 hR2 FF2
  have zc := OpB.free hO 6
  have ec : World.cell? wn10 ⟨ob, 6, none⟩ = _ := OpB.cell hO 6
  have elc := OpB.lt hO
  simp only [opL, List.getElem?_cons_zero, List.getElem?_cons_succ] at ec
  have zc2 := OpB.free hO 7
  have ec2 : World.cell? wn10 ⟨ob, 7, none⟩ = _ := OpB.cell hO 7
  simp only [opL, List.getElem?_cons_zero, List.getElem?_cons_succ] at ec2
  go_wp2_with fail
  generalize hW : World.setCell _ _ _ = wn11
  have G : Fr (some ob) wn10 wn11 := hW ▸ ((Fr.set1 wn10 ⟨ob, 6, none⟩ (.string (bL n5.code))).setRow (p := ⟨ob, 7, none⟩) rfl (.int .i64 n5.iss))
  have hO2 := OpB.oth hO n5
  rw [hW] at hO2
  try dsimp only at hO2
  clear zc2 ec2
  have hF2 := hF.fr G hne' (fun g e => by rw [← Option.some.inj e]; exact hob')
  have hE2 := hE.frs G Z3 Z4
  have hR2 := hR.fr G hnr'
  have FF2 := FF.new G hob
  clear hW G hO hF hE hR FF zc ec elc
  have hO := hO2
  have hF := hF2
  have hE := hE2
  have hR := hR2
  have FF := FF2
  clear hO2 hF2 hE2 hR2 FF2
  -- the path
  have HWS : Hid (Wi n1 ∧ Wi n2 ∧ Wi n4 ∧ Wi n3.iss ∧ Wi n5.iss) := ⟨HW1.out, HW2.out, HW4.out, HW3.out, HW5.out⟩
  have HNS : Hid (NumF (L.drop 0) false n1 b1 ∧ NumF (L.drop 1) b1 n2 b2 ∧ AstF (L.drop 2) b2 n3 b3 ∧ NumF (L.drop 3) b3 n4 b4 ∧ AstF (L.drop 4) b4 n5 b5) := ⟨HN1.out, HN2.out, HN3.out, HN4.out, HN5.out⟩
  have hO : OpB wn11 ob ⟨6, n1, n2, n4, n3, n5, 0, 0, 0, []⟩ (.slice none 0 0) := hO
  have hos := hO.lt
  clear HW1 HW2 HW3 HW4 HW5 HN1 HN2 HN3 HN4 HN5
  go_loopg [] (L.drop 5).length (fun gk wr => ∃ (l : List Ast) (R : List (List UInt8)) (bb : Bool) (Ap : Option Addr) (cp : Nat), Hid (R.length = gk) ∧ Hid (PthF (L.drop 5) b5 l R bb) ∧ Hid (∃ i, R = L.drop i) ∧ OpB wr ob ⟨6, n1, n2, n4, n3, n5, 0, 0, 0, l⟩ (.slice Ap l.length cp) ∧ FdB wr fb fb R bb ∧ Errs wr ∧ OpB wr w.heap.size op0 (.slice none 0 0) ∧ Fr none w wr ∧ wr.ownsRow (ob + 1) 36 2 (.slice Ap l.length cp) l.length (flR astR l) ∧ Hid (∀ a ∈ l, Wi a.iss) ∧ Hid (ob < wr.heap.size) ∧ Hid (l.length + gk = (L.drop 5).length))
  case atStart => exact ⟨[], L.drop 5, b5, none, 0, rfl, PthF.zero _ _, ⟨5, rfl⟩, hO, hF, hE, hR, FF, World.ownsRow_nil _ _ _ _, (fun a h => by cases h), hos, by unfold Hid; simp⟩
  case round =>
    obtain ⟨l, R, bb, Ap, cp, HRl, HP, HRi, hO, hF, hE, hR, FF, own, HWl, HOB, HLL⟩ := hrel
    have hF' := hF
    obtain ⟨_, A1, c1, hb1, _⟩ := hF'
    have f0 : World.cell? wr ⟨fb, 0, none⟩ = some (.slice A1 R.length c1) := by rw [blk_cell hb1]; rfl
    have fl := hF.lt
    clear hb1
    have hl6 : l.length ≤ 1000000 := by
      have h1 := HLL.out
      have h2 := splL_le 44 v
      have h3 : (L.drop 5).length ≤ (splL 44 v).length := by rw [HL0.out, List.length_drop]; omega
      simp only [List.length_cons] at hL
      omega
    cases R with
    | nil =>
      have HRd : Hid ((bb = false → rdO (115 :: v) = some ⟨6, n1, n2, n4, n3, n5, 0, 0, 0, l⟩) ∧ (bb = true → rdO (115 :: v) = none)) := rdO_s HL0.out HNS.out.1 HNS.out.2.1 HNS.out.2.2.1 HNS.out.2.2.2.1 HNS.out.2.2.2.2 HP.out
      obtain ⟨o, ho⟩ : ∃ o : Opr, o = ⟨6, n1, n2, n4, n3, n5, 0, 0, 0, l⟩ := ⟨_, rfl⟩
      have hOW : Hid (OpW o) := by rw [ho]; exact ⟨wi6, HWS.out.1, HWS.out.2.1, HWS.out.2.2.1, HWS.out.2.2.2.1, HWS.out.2.2.2.2, wi0, wi0, wi0⟩
      have hSl : Hid (SlN astR (w.heap.size + 1) wr (.slice Ap o.path.length cp) o.path) := by rw [ho]; exact (SlN.of_own (R := astR) own HWl.out).mono (by omega)
      have hO : OpB wr ob o (.slice Ap o.path.length cp) := by rw [ho]; exact hO
      rw [← ho] at HRd
      clear ho own hl6
      simp only [List.length_nil] at f0
      go_wp2_with fail
      have hF' := hF
      obtain ⟨_, A1, c1, hb1, _⟩ := hF'
      have f0 : World.cell? wr ⟨fb, 0, none⟩ = some (.slice A1 0 c1) := by rw [blk_cell hb1]; rfl
      have f1 : World.cell? wr ⟨fb, 1, none⟩ = some (.bool bb) := by rw [blk_cell hb1]; rfl
      have fl := hF.lt
      clear hb1
      have z0 := OpB.free hR 0
      have z1 := OpB.free hR 1
      have z2 := OpB.free hR 2
      have z3 := OpB.free hR 3
      have z4 := OpB.free hR 4
      have z5 := OpB.free hR 5
      have z6 := OpB.free hR 6
      have z7 := OpB.free hR 7
      have z8 := OpB.free hR 8
      have z9 := OpB.free hR 9
      have z10 := OpB.free hR 10
      have z11 := OpB.free hR 11
      have e0 : World.cell? wr ⟨w.heap.size, 0, none⟩ = _ := OpB.cell hR 0
      have e1 : World.cell? wr ⟨w.heap.size, 1, none⟩ = _ := OpB.cell hR 1
      have e2 : World.cell? wr ⟨w.heap.size, 2, none⟩ = _ := OpB.cell hR 2
      have e3 : World.cell? wr ⟨w.heap.size, 3, none⟩ = _ := OpB.cell hR 3
      have e4 : World.cell? wr ⟨w.heap.size, 4, none⟩ = _ := OpB.cell hR 4
      have e5 : World.cell? wr ⟨w.heap.size, 5, none⟩ = _ := OpB.cell hR 5
      have e6 : World.cell? wr ⟨w.heap.size, 6, none⟩ = _ := OpB.cell hR 6
      have e7 : World.cell? wr ⟨w.heap.size, 7, none⟩ = _ := OpB.cell hR 7
      have e8 : World.cell? wr ⟨w.heap.size, 8, none⟩ = _ := OpB.cell hR 8
      have e9 : World.cell? wr ⟨w.heap.size, 9, none⟩ = _ := OpB.cell hR 9
      have e10 : World.cell? wr ⟨w.heap.size, 10, none⟩ = _ := OpB.cell hR 10
      have e11 : World.cell? wr ⟨w.heap.size, 11, none⟩ = _ := OpB.cell hR 11
      have el := OpB.lt hR
      simp only [opL, List.getElem?_cons_zero, List.getElem?_cons_succ] at e0 e1 e2 e3 e4 e5 e6 e7 e8 e9 e10 e11
      have o0 : World.cell? wr ⟨ob, 0, none⟩ = _ := OpB.cell hO 0
      have o1 : World.cell? wr ⟨ob, 1, none⟩ = _ := OpB.cell hO 1
      have o2 : World.cell? wr ⟨ob, 2, none⟩ = _ := OpB.cell hO 2
      have o3 : World.cell? wr ⟨ob, 3, none⟩ = _ := OpB.cell hO 3
      have o4 : World.cell? wr ⟨ob, 4, none⟩ = _ := OpB.cell hO 4
      have o5 : World.cell? wr ⟨ob, 5, none⟩ = _ := OpB.cell hO 5
      have o6 : World.cell? wr ⟨ob, 6, none⟩ = _ := OpB.cell hO 6
      have o7 : World.cell? wr ⟨ob, 7, none⟩ = _ := OpB.cell hO 7
      have o8 : World.cell? wr ⟨ob, 8, none⟩ = _ := OpB.cell hO 8
      have o9 : World.cell? wr ⟨ob, 9, none⟩ = _ := OpB.cell hO 9
      have o10 : World.cell? wr ⟨ob, 10, none⟩ = _ := OpB.cell hO 10
      have o11 : World.cell? wr ⟨ob, 11, none⟩ = _ := OpB.cell hO 11
      simp only [opL, List.getElem?_cons_zero, List.getElem?_cons_succ] at o0 o1 o2 o3 o4 o5 o6 o7 o8 o9 o10 o11
      have ol := hO.lt
      cases bb with
      | true =>
        go_region
        go_wp2_with fail
        clear z0 z1 z2 z3 z4 z5 z6 z7 z8 z9 z10 z11 e0 e1 e2 e3 e4 e5 e6 e7 e8 e9 e10 e11 el
        generalize hW5 : World.drew _ = w9
        obtain ⟨R9, G9⟩ := opw12 hR o _ w9 hW5.symm
        clear hW5
        have z0 := OpB.free R9 0
        have z1 := OpB.free R9 1
        have z2 := OpB.free R9 2
        have z3 := OpB.free R9 3
        have z4 := OpB.free R9 4
        have z5 := OpB.free R9 5
        have z6 := OpB.free R9 6
        have z7 := OpB.free R9 7
        have z8 := OpB.free R9 8
        have z9 := OpB.free R9 9
        have z10 := OpB.free R9 10
        have z11 := OpB.free R9 11
        have e0 : World.cell? w9 ⟨w.heap.size, 0, none⟩ = _ := OpB.cell R9 0
        have e1 : World.cell? w9 ⟨w.heap.size, 1, none⟩ = _ := OpB.cell R9 1
        have e2 : World.cell? w9 ⟨w.heap.size, 2, none⟩ = _ := OpB.cell R9 2
        have e3 : World.cell? w9 ⟨w.heap.size, 3, none⟩ = _ := OpB.cell R9 3
        have e4 : World.cell? w9 ⟨w.heap.size, 4, none⟩ = _ := OpB.cell R9 4
        have e5 : World.cell? w9 ⟨w.heap.size, 5, none⟩ = _ := OpB.cell R9 5
        have e6 : World.cell? w9 ⟨w.heap.size, 6, none⟩ = _ := OpB.cell R9 6
        have e7 : World.cell? w9 ⟨w.heap.size, 7, none⟩ = _ := OpB.cell R9 7
        have e8 : World.cell? w9 ⟨w.heap.size, 8, none⟩ = _ := OpB.cell R9 8
        have e9 : World.cell? w9 ⟨w.heap.size, 9, none⟩ = _ := OpB.cell R9 9
        have e10 : World.cell? w9 ⟨w.heap.size, 10, none⟩ = _ := OpB.cell R9 10
        have e11 : World.cell? w9 ⟨w.heap.size, 11, none⟩ = _ := OpB.cell R9 11
        have el := OpB.lt R9
        simp only [opL, List.getElem?_cons_zero, List.getElem?_cons_succ] at e0 e1 e2 e3 e4 e5 e6 e7 e8 e9 e10 e11
        refine bodyPost_ret (v := .tuple #[.agg (opL o (.slice Ap o.path.length cp)).toArray, .bool false]) (by simp [results, Tryz.results61, go_sem, opL, e0, e1, e2, e3, e4, e5, e6, e7, e8, e9, e10, e11]) rfl ?_
        exact ⟨o, Ap, cp, .inl ⟨rfl, ⟨(fun e => by cases e), fun _ => HRd.out.2 (by simp)⟩, ((hSl.out).fr G9 (by intro g hg; injection hg with hg; omega)).mono (Nat.le_succ _), hOW.out, FF.new G9 (Nat.le_refl _)⟩⟩
      | false =>
        go_region
        go_wp2_with fail
        clear z0 z1 z2 z3 z4 z5 z6 z7 z8 z9 z10 z11 e0 e1 e2 e3 e4 e5 e6 e7 e8 e9 e10 e11 el
        generalize hW5 : World.drew _ = w9
        obtain ⟨R9, G9⟩ := opw12 hR o _ w9 hW5.symm
        clear hW5
        have z0 := OpB.free R9 0
        have z1 := OpB.free R9 1
        have z2 := OpB.free R9 2
        have z3 := OpB.free R9 3
        have z4 := OpB.free R9 4
        have z5 := OpB.free R9 5
        have z6 := OpB.free R9 6
        have z7 := OpB.free R9 7
        have z8 := OpB.free R9 8
        have z9 := OpB.free R9 9
        have z10 := OpB.free R9 10
        have z11 := OpB.free R9 11
        have e0 : World.cell? w9 ⟨w.heap.size, 0, none⟩ = _ := OpB.cell R9 0
        have e1 : World.cell? w9 ⟨w.heap.size, 1, none⟩ = _ := OpB.cell R9 1
        have e2 : World.cell? w9 ⟨w.heap.size, 2, none⟩ = _ := OpB.cell R9 2
        have e3 : World.cell? w9 ⟨w.heap.size, 3, none⟩ = _ := OpB.cell R9 3
        have e4 : World.cell? w9 ⟨w.heap.size, 4, none⟩ = _ := OpB.cell R9 4
        have e5 : World.cell? w9 ⟨w.heap.size, 5, none⟩ = _ := OpB.cell R9 5
        have e6 : World.cell? w9 ⟨w.heap.size, 6, none⟩ = _ := OpB.cell R9 6
        have e7 : World.cell? w9 ⟨w.heap.size, 7, none⟩ = _ := OpB.cell R9 7
        have e8 : World.cell? w9 ⟨w.heap.size, 8, none⟩ = _ := OpB.cell R9 8
        have e9 : World.cell? w9 ⟨w.heap.size, 9, none⟩ = _ := OpB.cell R9 9
        have e10 : World.cell? w9 ⟨w.heap.size, 10, none⟩ = _ := OpB.cell R9 10
        have e11 : World.cell? w9 ⟨w.heap.size, 11, none⟩ = _ := OpB.cell R9 11
        have el := OpB.lt R9
        simp only [opL, List.getElem?_cons_zero, List.getElem?_cons_succ] at e0 e1 e2 e3 e4 e5 e6 e7 e8 e9 e10 e11
        refine bodyPost_ret (v := .tuple #[.agg (opL o (.slice Ap o.path.length cp)).toArray, .bool true]) (by simp [results, Tryz.results61, go_sem, opL, e0, e1, e2, e3, e4, e5, e6, e7, e8, e9, e10, e11]) rfl ?_
        exact ⟨o, Ap, cp, .inr ⟨rfl, ⟨(fun _ => HRd.out.1 (by simp)), fun e => by cases e⟩, ((hSl.out).fr G9 (by intro g hg; injection hg with hg; omega)).mono (Nat.le_succ _), hOW.out, FF.new G9 (Nat.le_refl _)⟩⟩
    | cons x r =>
      obtain ⟨gk', hgk⟩ : ∃ g, gk = g + 1 := ⟨r.length, HRl.out.symm⟩
      obtain ⟨i0, hi0⟩ := HRi.out
      have HLx : Hid (∀ y ∈ x :: r, y.length ≤ 1000000 ∧ ∀ c ∈ y, c.toNat < 128) := fun y hy => HLn.out i0 y (hi0 ▸ hy)
      have HI : Hid (∃ i, r = L.drop i) := ⟨i0 + 1, by rw [← List.drop_drop, ← hi0]; rfl⟩
      have HGK := Lib.hid hgk
      clear hi0 hgk
      simp only [List.length_cons] at f0
      have hlt : (0 : Int) < (r.length : Int) + 1 := by omega
      go_upto_region 37 with (fail)
      have hO0 := Lib.hid hO
      clear f0 hlt
      refine wp_region_fxN (fun W => OpB W ob ⟨6, n1, n2, n4, n3, n5, 0, 0, 0, l⟩ (.slice Ap l.length cp)) (fun W => OpB W ob ⟨6, n1, n2, n4, n3, n5, 0, 0, 0, l⟩ (.slice Ap l.length cp) ∧ FdB W fb fb (x :: r) bb ∧ Errs W ∧ OpB W w.heap.size op0 (.slice none 0 0) ∧ Fr none w W ∧ W.ownsRow (ob + 1) 36 2 (.slice Ap l.length cp) l.length (flR astR l) ∧ ob < W.heap.size) [3, 4, 5, 7] [0, 1, 2, 3, 4, 5, 6, 7] 115 [none, some 100, some 99, some 98, some 97, some 96, some 95, some 94] (by kernel_rfl) (by kernel_rfl) (by kernel_rfl) (Nat.le_refl _) (show (fun W => OpB W ob ⟨6, n1, n2, n4, n3, n5, 0, 0, 0, l⟩ (.slice Ap l.length cp) ∧ FdB W fb fb (x :: r) bb ∧ Errs W ∧ OpB W w.heap.size op0 (.slice none 0 0) ∧ Fr none w W ∧ W.ownsRow (ob + 1) 36 2 (.slice Ap l.length cp) l.length (flR astR l) ∧ ob < W.heap.size) _ from ⟨hO0.out, hF, hE, hR, FF.drew, own.drew, HOB.out⟩) (fun W h => h.1) ?_
      clear hO hF hE hR FF own hO0 HOB
      refine FxN.pure (v := ?_) rfl rfl rfl (fun ev w E => ?_) ?_; rotate_left
      · obtain ⟨t5, ec, ef, eg⟩ := E.get [] [5] (by kernel_rfl); clear E; go_simp; try with_reducible rfl
      refine FxN.load (v := ?_) rfl rfl rfl (fun ev w hS E => ?_) ?_; rotate_left
      · obtain ⟨c0, c1, c2, c3, c4, c5, c6, c7, c8, c9, c10, c11⟩ := OpB.cells hS
        dsimp only at c0 c1 c2 c3 c4 c5 c6 c7 c8 c9 c10 c11
        obtain ⟨t94, ec, ef, eg⟩ := E.get [(0, 0, 94)] [] (by kernel_rfl); clear E; simp only [nthV] at t94; go_simp; try with_reducible rfl
      refine FxN.pure (v := ?_) rfl rfl rfl (fun ev w E => ?_) ?_; rotate_left
      · obtain ⟨t4, ec, ef, eg⟩ := E.get [] [4] (by kernel_rfl); clear E; go_simp; try with_reducible rfl
      refine FxN.call (f := ?_) (args := ?_) (fun v W => OpB W ob ⟨6, n1, n2, n4, n3, n5, 0, 0, 0, l⟩ (.slice Ap l.length cp) ∧ ∃ (a : Ast) (b2 : Bool), v = .agg #[.string (bL a.code), .int .i64 a.iss] ∧ Hid (AstF (x :: r) bb a b2) ∧ Hid (Wi a.iss) ∧ FdB W fb fb r b2 ∧ Errs W ∧ OpB W w.heap.size op0 (.slice none 0 0) ∧ Fr none w W ∧ W.ownsRow (ob + 1) 36 2 (.slice Ap l.length cp) l.length (flR astR l) ∧ ob < W.heap.size) rfl rfl rfl (by kernel_rfl) (fun ev w hS E => ?_) (fun w hS => ?_) (fun v W h => h.1) ?_; rotate_left 2
      · obtain ⟨t96, ec, ef, eg⟩ := E.get [(0, 2, 96)] [] (by kernel_rfl); clear E; simp only [nthV] at t96; go_simp; first | (refine And.intro ?_ ?_ <;> with_reducible rfl) | with_reducible rfl
      · refine (fdast_any fb fb (x :: r) bb w hS.2.1 hS.2.2.1 HLx.out hnb1.1 hnb2.1).mono ?_
        rintro e w2 ⟨a, b2, rfl, hf, hN, hWi, F⟩
        exact ⟨_, rfl, hS.1.fr F hne, a, b2, rfl, hN, hWi, hf, hS.2.2.1.frs F Z1 Z2, hS.2.2.2.1.fr F hnr, hS.2.2.2.2.1.new F hfb, own_fr hS.2.2.2.2.2.1 F (fun g hg => by injection hg with hg; omega), Nat.lt_of_lt_of_le hS.2.2.2.2.2.2 F.size⟩
      rintro v97 w97 hT97
      clear hT97 w97
      refine FxN.new (fun u W => OpB W ob ⟨6, n1, n2, n4, n3, n5, 0, 0, 0, l⟩ (.slice Ap l.length cp) ∧ ∃ (a : Ast) (b2 : Bool) (bk : Nat), u = .slice (some ⟨bk, 0, none⟩) 1 1 ∧ W.heap[bk]? = some (.cells #[.string (bL a.code), .int .i64 a.iss] 36 (0, 0)) ∧ Hid (AstF (x :: r) bb a b2) ∧ Hid (Wi a.iss) ∧ FdB W fb fb r b2 ∧ Errs W ∧ OpB W w.heap.size op0 (.slice none 0 0) ∧ Fr none w W ∧ W.ownsRow (ob + 1) 36 2 (.slice Ap l.length cp) l.length (flR astR l) ∧ ob < W.heap.size) rfl rfl rfl (by kernel_rfl) (fun ev w hS E => ?_) (fun v W h => h.1) ?_
      · obtain ⟨t97, ec, ef, eg⟩ := E.get [(0, 3, 97)] [] (by kernel_rfl); clear E; simp only [nthV] at t97
        obtain ⟨q3, a, b2, rfl, q1, q2, q4, q5, q6, q7, q8, q9⟩ := hS
        refine ⟨?_, ?_, ?_, ?_⟩
        rotate_left 2
        · go_simp; first | (refine And.intro ?_ ?_ <;> with_reducible rfl) | with_reducible rfl
        have FA := (Fr.refl none w).alloc (.cells #[.string (bL a.code), .int .i64 a.iss] 36)
        exact ⟨q3.fr FA (by simp), a, b2, w.heap.size, rfl, blk_new _ _, q1, q2, q4.fr FA (by simp) (fun g e => by cases e), q5.frs FA (by simp) (by simp), q6.fr FA (by simp), q7.pure FA, own_fr q8 FA (by simp), Nat.lt_of_lt_of_le q9 FA.size⟩
      rintro v98 w98 hT98
      clear hT98 w98
      refine FxN.new (fun u W => OpB W ob ⟨6, n1, n2, n4, n3, n5, 0, 0, 0, l⟩ (.slice Ap l.length cp) ∧ ∃ (a : Ast) (b2 : Bool) (A' : Option Addr) (c' : Nat), u = .slice A' (l.length + 1) c' ∧ Hid (AstF (x :: r) bb a b2) ∧ Hid (Wi a.iss) ∧ FdB W fb fb r b2 ∧ Errs W ∧ OpB W w.heap.size op0 (.slice none 0 0) ∧ Fr none w W ∧ W.ownsRow (ob + 1) 36 2 (.slice A' (l.length + 1) c') (l.length + 1) (flR astR (l ++ [a])) ∧ ob < W.heap.size) rfl rfl rfl (by kernel_rfl) (fun ev w hS E => ?_) (fun v W h => h.1) ?_
      · obtain ⟨t95, t98, ec, ef, eg⟩ := E.get [(3, 1, 95), (0, 4, 98)] [] (by kernel_rfl); clear E; simp only [nthV] at t95 t98
        obtain ⟨q3, a, b2, bk, rfl, hbk, q1, q2, q4, q5, q6, q7, q8, q9⟩ := hS
        refine app_new eiAst (.tmp 95) (.tmp 98) rfl (ob + 1) Ap l.length cp (flR astR l) t95 q8 _ 1 1 _ t98 (sld_blk hbk 1 2 rfl (by unfold maxLen; omega)) (by simp [Value.oneCell']) (by omega) (by unfold maxLen; omega) (by omega) ?_
        intro A' c' w' own' F' nb
        exact ⟨q3.fr F' (own_ne q8 (by omega)), a, b2, A', c', rfl, q1, q2, q4.fr F' (own_ne q8 (by omega)) (fun g e => by have := own_blk_ge q8 g e; omega), q5.frs F' (own_ne q8 (by have := HEb.out.1; omega)) (own_ne q8 (by have := HEb.out.2; omega)), q6.fr F' (own_ne q8 (by omega)), q7.own F' (fun g e => by have := own_blk_ge q8 g e; omega), by rw [flR_snoc]; exact own', Nat.lt_of_lt_of_le q9 F'.size⟩
      rintro v99 w99 hT99
      clear hT99 w99
      refine FxN.pure (v := ?_) rfl rfl rfl (fun ev w E => ?_) ?_; rotate_left
      · obtain ⟨t5, ec, ef, eg⟩ := E.get [] [5] (by kernel_rfl); clear E; go_simp; try with_reducible rfl
      refine FxN.store (S' := (fun W => ∃ (a : Ast) (b2 : Bool) (A' : Option Addr) (c' : Nat), Hid (AstF (x :: r) bb a b2) ∧ Hid (Wi a.iss) ∧ OpB W ob ⟨6, n1, n2, n4, n3, n5, 0, 0, 0, l ++ [a]⟩ (.slice A' (l.length + 1) c') ∧ FdB W fb fb r b2 ∧ Errs W ∧ OpB W w.heap.size op0 (.slice none 0 0) ∧ Fr none w W ∧ W.ownsRow (ob + 1) 36 2 (.slice A' (l.length + 1) c') (l.length + 1) (flR astR (l ++ [a])) ∧ ob < W.heap.size)) rfl rfl rfl (by kernel_rfl) (fun ev w hS E => ?_) (NextG.new (G' := fun _ => True) (by kernel_rfl) (fun _ _ => trivial)) ?_
      · obtain ⟨q3, a, b2, A', c', rfl, q1, q2, q4, q5, q6, q7, q8, q9⟩ := hS
        have hz := q3.frees
        obtain ⟨c0, c1, c2, c3, c4, c5, c6, c7, c8, c9, c10, c11⟩ := OpB.cells q3
        obtain ⟨t100, t99, ec, ef, eg⟩ := E.get [(0, 6, 100), (1, 5, 99)] [] (by kernel_rfl); clear E; simp only [nthV] at t100 t99
        refine ⟨?_, ?_, ?_⟩
        rotate_left
        · go_simp; try with_reducible rfl
        · have G : Fr (some ob) w _ := Fr.set1 w ⟨ob, 11, none⟩ (.slice A' (l.length + 1) c')
          exact ⟨a, b2, A', c', q1, q2, OpB.path q3 (l ++ [a]) _, q4.fr G hne' (fun g e => by rw [← Option.some.inj e]; exact hob'), q5.frs G Z3 Z4, q6.fr G hnr', q7.new G hob, own_fr q8 G (fun g hg => by injection hg with hg; omega), Nat.lt_of_lt_of_le q9 G.size⟩
      refine FxN.done (fun W hW => ?_)
      simp only [fillZ]
      try simp only [Act.put, List.setIfInBounds_toArray, List.set_cons_zero, List.set_cons_succ, List.getElem_toArray, List.getElem_cons_zero, List.getElem_cons_succ]
      obtain ⟨a, b2, A', c', q1, q2, q3, q4, q5, q6, q7, q8, q9⟩ := hW
      go_wp2_with fail
      go_roundg gk'
      case measure => have := HGK.out; omega
      case rel =>
        have hg := HGK.out
        exact ⟨l ++ [a], r, b2, A', c', by have := HRl.out; simp only [List.length_cons] at this; unfold Hid; omega, HP.out.step q1.out, HI.out, by rw [List.length_append]; exact q3, q4, q5, q6, q7, by rw [List.length_append]; exact q8, fun z hz => by
          rcases List.mem_append.1 hz with hz | hz
          · exact HWl.out z hz
          · rw [List.mem_singleton.1 hz]; exact q2.out, q9, by have := HLL.out; unfold Hid; rw [List.length_append]; simp only [List.length_cons, List.length_nil]; omega⟩

end Go.Proofs.YtonhhnedfjonoaaGreatDoor

/- Walk: ledger.read, whole (printed by a line of python out of XLgRd's beginning). -/
namespace Go.Proofs.YtonhhnedfjonoaaGreatDoor
open Go.RowKit

set_option maxRecDepth 100000 in
set_option maxHeartbeats 4000000 in
theorem pread0_any (w : World) : Calls Tryz.prog 61 #[.string (bL [])] w fun e w' => e = .returned (.tuple #[.agg (opL op0 (.slice none 0 0)).toArray, .bool false]) ∧ Fr none w w' := by
  have he : (bL ([] : List UInt8)).toList.isEmpty = true := by rw [bL_tl]; rfl
  go_enter Tryz.func61, Tryz.ntmps61
  go_upto_region 1 with (fail)
  generalize hW : w.alloc _ = w0
  have F0 : Fr none w w0 := hW ▸ (Fr.refl none w).alloc _
  have b0 : OpB w0 w.heap.size op0 (.slice none 0 0) := by rw [← hW]; exact blk_new _ _
  clear hW
  have z0 := OpB.free b0 0
  have z1 := OpB.free b0 1
  have z2 := OpB.free b0 2
  have z3 := OpB.free b0 3
  have z4 := OpB.free b0 4
  have z5 := OpB.free b0 5
  have z6 := OpB.free b0 6
  have z7 := OpB.free b0 7
  have z8 := OpB.free b0 8
  have z9 := OpB.free b0 9
  have z10 := OpB.free b0 10
  have z11 := OpB.free b0 11
  have e0 : World.cell? w0 ⟨w.heap.size, 0, none⟩ = _ := OpB.cell b0 0
  have e1 : World.cell? w0 ⟨w.heap.size, 1, none⟩ = _ := OpB.cell b0 1
  have e2 : World.cell? w0 ⟨w.heap.size, 2, none⟩ = _ := OpB.cell b0 2
  have e3 : World.cell? w0 ⟨w.heap.size, 3, none⟩ = _ := OpB.cell b0 3
  have e4 : World.cell? w0 ⟨w.heap.size, 4, none⟩ = _ := OpB.cell b0 4
  have e5 : World.cell? w0 ⟨w.heap.size, 5, none⟩ = _ := OpB.cell b0 5
  have e6 : World.cell? w0 ⟨w.heap.size, 6, none⟩ = _ := OpB.cell b0 6
  have e7 : World.cell? w0 ⟨w.heap.size, 7, none⟩ = _ := OpB.cell b0 7
  have e8 : World.cell? w0 ⟨w.heap.size, 8, none⟩ = _ := OpB.cell b0 8
  have e9 : World.cell? w0 ⟨w.heap.size, 9, none⟩ = _ := OpB.cell b0 9
  have e10 : World.cell? w0 ⟨w.heap.size, 10, none⟩ = _ := OpB.cell b0 10
  have e11 : World.cell? w0 ⟨w.heap.size, 11, none⟩ = _ := OpB.cell b0 11
  have el := OpB.lt b0
  simp only [opL, List.getElem?_cons_zero, List.getElem?_cons_succ] at e0 e1 e2 e3 e4 e5 e6 e7 e8 e9 e10 e11
  simp only [op0] at e0 e1 e2 e3 e4 e5 e6 e7 e8 e9 e10 e11
  go_wp2_with fail
  clear z0 z1 z2 z3 z4 z5 z6 z7 z8 z9 z10 z11 e0 e1 e2 e3 e4 e5 e6 e7 e8 e9 e10 e11 el
  generalize hW5 : World.setCell _ _ _ = w9
  obtain ⟨R9, G9⟩ := opw12n b0 op0 (.slice none 0 0) w9 hW5.symm
  clear hW5
  have z0 := OpB.free R9 0
  have z1 := OpB.free R9 1
  have z2 := OpB.free R9 2
  have z3 := OpB.free R9 3
  have z4 := OpB.free R9 4
  have z5 := OpB.free R9 5
  have z6 := OpB.free R9 6
  have z7 := OpB.free R9 7
  have z8 := OpB.free R9 8
  have z9 := OpB.free R9 9
  have z10 := OpB.free R9 10
  have z11 := OpB.free R9 11
  have e0 : World.cell? w9 ⟨w.heap.size, 0, none⟩ = _ := OpB.cell R9 0
  have e1 : World.cell? w9 ⟨w.heap.size, 1, none⟩ = _ := OpB.cell R9 1
  have e2 : World.cell? w9 ⟨w.heap.size, 2, none⟩ = _ := OpB.cell R9 2
  have e3 : World.cell? w9 ⟨w.heap.size, 3, none⟩ = _ := OpB.cell R9 3
  have e4 : World.cell? w9 ⟨w.heap.size, 4, none⟩ = _ := OpB.cell R9 4
  have e5 : World.cell? w9 ⟨w.heap.size, 5, none⟩ = _ := OpB.cell R9 5
  have e6 : World.cell? w9 ⟨w.heap.size, 6, none⟩ = _ := OpB.cell R9 6
  have e7 : World.cell? w9 ⟨w.heap.size, 7, none⟩ = _ := OpB.cell R9 7
  have e8 : World.cell? w9 ⟨w.heap.size, 8, none⟩ = _ := OpB.cell R9 8
  have e9 : World.cell? w9 ⟨w.heap.size, 9, none⟩ = _ := OpB.cell R9 9
  have e10 : World.cell? w9 ⟨w.heap.size, 10, none⟩ = _ := OpB.cell R9 10
  have e11 : World.cell? w9 ⟨w.heap.size, 11, none⟩ = _ := OpB.cell R9 11
  have el := OpB.lt R9
  simp only [opL, List.getElem?_cons_zero, List.getElem?_cons_succ] at e0 e1 e2 e3 e4 e5 e6 e7 e8 e9 e10 e11
  refine bodyPost_ret (v := .tuple #[.agg (opL op0 (.slice none 0 0)).toArray, .bool false]) (by simp [results, Tryz.results61, go_sem, opL, e0, e1, e2, e3, e4, e5, e6, e7, e8, e9, e10, e11]) rfl ?_
  exact ⟨rfl, F0.new G9 (Nat.le_refl _)⟩
set_option maxRecDepth 100000 in
set_option maxHeartbeats 8000000 in
theorem preadx_any (k : UInt8) (v : List UInt8) (w : World) (hk : ¬ k = 99 ∧ ¬ k = 112 ∧ ¬ k = 116 ∧ ¬ k = 111 ∧ ¬ k = 120 ∧ ¬ k = 115) (hE : Errs w) (hM : Mxl w) (hL : (k :: v).length ≤ 1000000) (hA : ∀ c ∈ (k :: v), c.toNat < 128) : Calls Tryz.prog 61 #[.string (bL (k :: v))] w fun e w' => e = .returned (.tuple #[.agg (opL op0 (.slice none 0 0)).toArray, .bool false]) ∧ Fr none w w' := by
  have HA := Lib.hid hA
  clear hA
  have he : (bL (k :: v)).toList.isEmpty = false := by rw [bL_tl]; rfl
  go_enter Tryz.func61, Tryz.ntmps61
  go_upto_region 1 with (fail)
  generalize hW : w.alloc _ = w0
  have F0 : Fr none w w0 := hW ▸ (Fr.refl none w).alloc _
  have b0 : OpB w0 w.heap.size op0 (.slice none 0 0) := by rw [← hW]; exact blk_new _ _
  have hE0 := hE.frs F0 (by simp) (by simp)
  have hM0 := hM.frs F0 (by simp)
  have hE1w := hE.lt
  clear hW hE hM
  have hsz : (bL (k :: v)).size = v.length + 1 := by rw [bL_size, List.length_cons]
  have h1 : (1 : Int) ≤ ((bL (k :: v)).size : Int) := by omega
  have hx0 : (bL (k :: v)).extract 1 (bL (k :: v)).size = bL v := by rw [hsz]; apply ByteArray.ext; apply Array.ext'; simp [bL]
  have hx1 : (bL (k :: v)).extract 1 (v.length + 1) = bL v := by apply ByteArray.ext; apply Array.ext'; simp [bL]
  go_wp2_with fail
  refine (split_any 44 v w0 hM0 (by simp at hL; omega)).mono ?_
  rintro e w1 ⟨A, n, c, rfl, hn, hs, F1⟩
  go_upto_region 5 with (fail)
  have HM1 : True := trivial
  obtain ⟨fb, hfb0⟩ : ∃ fb, fb = w1.heap.size := ⟨_, rfl⟩
  obtain ⟨L, hL0⟩ : ∃ L, L = splL 44 v := ⟨_, rfl⟩
  have HL0 := Lib.hid hL0
  rw [hn, ← hL0] at hs
  rw [← hL0]
  rw [← hfb0]
  have b1 : (w1.alloc (.cells #[.slice A L.length c, .bool false] 121)).heap[fb]? = some (.cells #[.slice A L.length c, .bool false] 121 (0, 0)) := by rw [hfb0]; exact blk_new _ _
  generalize hW1 : w1.alloc _ = w2 at b1 ⊢
  have F2 : Fr none w1 w2 := hW1 ▸ (Fr.refl none w1).alloc _
  have s2 : w2.heap.size = fb + 1 := by rw [← hW1, hfb0]; exact Array.size_push _
  clear hW1
  generalize hW2 : w2.alloc _ = wn0
  have b2 : OpB wn0 (fb + 1) op0 (.slice none 0 0) := by rw [← hW2, ← s2]; exact blk_new _ _
  have F3 : Fr none w2 wn0 := hW2 ▸ (Fr.refl none w2).alloc _
  clear hW2
  obtain ⟨ob, hob⟩ : ∃ ob, ob = fb + 1 := ⟨_, rfl⟩
  rw [← hob] at b2 ⊢
  have hfo : fb < ob := by omega
  have hwf : w.heap.size < fb := by have := b0.lt; have := F1.size; omega
  have FF : Fr none w wn0 := ((F0.pure F1).pure F2).pure F3
  have hO : OpB wn0 ob op0 (.slice none 0 0) := b2
  have hR : OpB wn0 w.heap.size op0 (.slice none 0 0) := b0.fr ((F1.pure F2).pure F3) (by simp)
  have hE : Errs wn0 := hE0.frs ((F1.pure F2).pure F3) (by simp) (by simp)
  have hF : FdB wn0 fb fb (L.drop 0) false := by
    have hs2 := s2
    have hs3 := F3.size
    rw [List.drop_zero]
    refine ⟨by omega, A, c, blk_fr b1 F3 (by simp), hs.keep (D' := Db fb fb) (fun j hj => ⟨⟨by omega, by omega⟩, ?_⟩)⟩
    rw [F3.block j (by omega) (by simp), F2.block j (by omega) (by simp)]
  have hle := hE.lt
  have hew := hE0.lt
  have hnb1 : fb ≠ 6 ∧ ob ≠ 6 := by
    have := hE1w.1
    exact ⟨by omega, by omega⟩
  have hnb2 : fb ≠ 7 ∧ ob ≠ 7 := by
    have := hE1w.2
    exact ⟨by omega, by omega⟩
  have HEb : Hid (6 < ob ∧ 7 < ob) := ⟨by have := hE1w.1; omega, by have := hE1w.2; omega⟩
  clear hs b1 b2 s2 hfb0 hob F0 F1 F2 F3 b0 hE0 hM0 hL0 hn hle hew hE1w
  have HLn : Hid (∀ i, ∀ x ∈ L.drop i, x.length ≤ 1000000 ∧ ∀ c ∈ x, c.toNat < 128) := fun i x hx => by
    have hx' := List.mem_of_mem_drop hx
    rw [HL0.out] at hx'
    have := splL_mem hx'
    simp only [List.length_cons] at hL
    exact ⟨by omega, fun c hc => HA.out c (List.mem_cons_of_mem _ (this.2 c hc))⟩
  have hg : ∀ h : 0 < (bL (k :: v)).size, (bL (k :: v))[0]'h = k := fun _ => rfl
  have hne : some fb ≠ some ob := fun e => by have := Option.some.inj e; omega
  have hne' : some ob ≠ some fb := fun e => by have := Option.some.inj e; omega
  have hnr : some fb ≠ some w.heap.size := fun e => by have := Option.some.inj e; omega
  have hnr' : some ob ≠ some w.heap.size := fun e => by have := Option.some.inj e; omega
  have hob : w.heap.size ≤ ob := by omega
  have hfb : w.heap.size ≤ fb := by omega
  have hob' : fb ≤ ob := by omega
  have Z1 : some fb ≠ some 6 := fun e => hnb1.1 (Option.some.inj e)
  have Z2 : some fb ≠ some 7 := fun e => hnb2.1 (Option.some.inj e)
  have Z3 : some ob ≠ some 6 := fun e => hnb1.2 (Option.some.inj e)
  have Z4 : some ob ≠ some 7 := fun e => hnb2.2 (Option.some.inj e)
  obtain ⟨k1, k2, k3, k4, k5, k6⟩ := hk
  have y1 := u8ne k1
  have y2 := u8ne k2
  have y3 := u8ne k3
  have y4 := u8ne k4
  have y5 := u8ne k5
  have y6 := u8ne k6
  simp only [show (99 : UInt8).toNat = 99 from rfl] at y1
  simp only [show (112 : UInt8).toNat = 112 from rfl] at y2
  simp only [show (116 : UInt8).toNat = 116 from rfl] at y3
  simp only [show (111 : UInt8).toNat = 111 from rfl] at y4
  simp only [show (120 : UInt8).toNat = 120 from rfl] at y5
  simp only [show (115 : UInt8).toNat = 115 from rfl] at y6
  clear k1 k2 k3 k4 k5 k6
  go_upto_region 38 with (fail)
  obtain ⟨x, r, hxr⟩ : ∃ x r, L.drop 0 = x :: r := by
    rw [List.drop_zero]
    cases hLL : L with
    | nil =>
      have := splL_len 44 v
      rw [← HL0.out, hLL] at this
      simp at this
    | cons x r => exact ⟨x, r, rfl⟩
  rw [hxr] at hF
  clear hxr
  have hF' := hF
  obtain ⟨_, A1, c1, hb1, _⟩ := hF'
  have f0 : World.cell? wn0 ⟨fb, 0, none⟩ = some (.slice A1 (x :: r).length c1) := by rw [blk_cell hb1]; rfl
  have f1 : World.cell? wn0 ⟨fb, 1, none⟩ = some (.bool false) := by rw [blk_cell hb1]; rfl
  have fl := hF.lt
  clear hb1
  simp only [List.length_cons] at f0
  have hlt : ¬ ((r.length : Int) + 1 = 0) := by omega
  have hlt2 : ((r.length : Int) + 1 == 0) = false := by rw [beq_eq_false_iff_ne]; omega
  have z0 := OpB.free hR 0
  have z1 := OpB.free hR 1
  have z2 := OpB.free hR 2
  have z3 := OpB.free hR 3
  have z4 := OpB.free hR 4
  have z5 := OpB.free hR 5
  have z6 := OpB.free hR 6
  have z7 := OpB.free hR 7
  have z8 := OpB.free hR 8
  have z9 := OpB.free hR 9
  have z10 := OpB.free hR 10
  have z11 := OpB.free hR 11
  have e0 : World.cell? wn0 ⟨w.heap.size, 0, none⟩ = _ := OpB.cell hR 0
  have e1 : World.cell? wn0 ⟨w.heap.size, 1, none⟩ = _ := OpB.cell hR 1
  have e2 : World.cell? wn0 ⟨w.heap.size, 2, none⟩ = _ := OpB.cell hR 2
  have e3 : World.cell? wn0 ⟨w.heap.size, 3, none⟩ = _ := OpB.cell hR 3
  have e4 : World.cell? wn0 ⟨w.heap.size, 4, none⟩ = _ := OpB.cell hR 4
  have e5 : World.cell? wn0 ⟨w.heap.size, 5, none⟩ = _ := OpB.cell hR 5
  have e6 : World.cell? wn0 ⟨w.heap.size, 6, none⟩ = _ := OpB.cell hR 6
  have e7 : World.cell? wn0 ⟨w.heap.size, 7, none⟩ = _ := OpB.cell hR 7
  have e8 : World.cell? wn0 ⟨w.heap.size, 8, none⟩ = _ := OpB.cell hR 8
  have e9 : World.cell? wn0 ⟨w.heap.size, 9, none⟩ = _ := OpB.cell hR 9
  have e10 : World.cell? wn0 ⟨w.heap.size, 10, none⟩ = _ := OpB.cell hR 10
  have e11 : World.cell? wn0 ⟨w.heap.size, 11, none⟩ = _ := OpB.cell hR 11
  have el := OpB.lt hR
  simp only [opL, List.getElem?_cons_zero, List.getElem?_cons_succ] at e0 e1 e2 e3 e4 e5 e6 e7 e8 e9 e10 e11
  obtain ⟨o0, o1, o2, o3, o4, o5, o6, o7, o8, o9, o10, o11⟩ := hO.cells
  have ol := hO.lt
  simp only [op0] at o0 o1 o2 o3 o4 o5 o6 o7 o8 o9 o10 o11 e0 e1 e2 e3 e4 e5 e6 e7 e8 e9 e10 e11
  go_region
  go_wp2_with fail
  clear z0 z1 z2 z3 z4 z5 z6 z7 z8 z9 z10 z11 e0 e1 e2 e3 e4 e5 e6 e7 e8 e9 e10 e11 el
  generalize hW5 : World.drew _ = w9
  obtain ⟨R9, G9⟩ := opw12 hR op0 (.slice none 0 0) w9 hW5.symm
  clear hW5
  have z0 := OpB.free R9 0
  have z1 := OpB.free R9 1
  have z2 := OpB.free R9 2
  have z3 := OpB.free R9 3
  have z4 := OpB.free R9 4
  have z5 := OpB.free R9 5
  have z6 := OpB.free R9 6
  have z7 := OpB.free R9 7
  have z8 := OpB.free R9 8
  have z9 := OpB.free R9 9
  have z10 := OpB.free R9 10
  have z11 := OpB.free R9 11
  have e0 : World.cell? w9 ⟨w.heap.size, 0, none⟩ = _ := OpB.cell R9 0
  have e1 : World.cell? w9 ⟨w.heap.size, 1, none⟩ = _ := OpB.cell R9 1
  have e2 : World.cell? w9 ⟨w.heap.size, 2, none⟩ = _ := OpB.cell R9 2
  have e3 : World.cell? w9 ⟨w.heap.size, 3, none⟩ = _ := OpB.cell R9 3
  have e4 : World.cell? w9 ⟨w.heap.size, 4, none⟩ = _ := OpB.cell R9 4
  have e5 : World.cell? w9 ⟨w.heap.size, 5, none⟩ = _ := OpB.cell R9 5
  have e6 : World.cell? w9 ⟨w.heap.size, 6, none⟩ = _ := OpB.cell R9 6
  have e7 : World.cell? w9 ⟨w.heap.size, 7, none⟩ = _ := OpB.cell R9 7
  have e8 : World.cell? w9 ⟨w.heap.size, 8, none⟩ = _ := OpB.cell R9 8
  have e9 : World.cell? w9 ⟨w.heap.size, 9, none⟩ = _ := OpB.cell R9 9
  have e10 : World.cell? w9 ⟨w.heap.size, 10, none⟩ = _ := OpB.cell R9 10
  have e11 : World.cell? w9 ⟨w.heap.size, 11, none⟩ = _ := OpB.cell R9 11
  have el := OpB.lt R9
  simp only [opL, List.getElem?_cons_zero, List.getElem?_cons_succ] at e0 e1 e2 e3 e4 e5 e6 e7 e8 e9 e10 e11
  refine bodyPost_ret (v := .tuple #[.agg (opL op0 (.slice none 0 0)).toArray, .bool false]) (by simp [results, Tryz.results61, go_sem, opL, e0, e1, e2, e3, e4, e5, e6, e7, e8, e9, e10, e11]) rfl ?_
  exact ⟨rfl, FF.new G9 (Nat.le_refl _)⟩
theorem pread_any (word : List UInt8) (w : World) (hE : Errs w) (hM : Mxl w) (hL : word.length ≤ 1000000) (hA : ∀ c ∈ word, c.toNat < 128) : Calls Tryz.prog 61 #[.string (bL word)] w fun e w' => ∃ o A c ok, e = .returned (.tuple #[.agg (opL o (.slice A o.path.length c)).toArray, .bool ok]) ∧ RdP word o ok ∧ SlN astR w.heap.size w' (.slice A o.path.length c) o.path ∧ OpW o ∧ Fr none w w' := by
  have hop0 : OpW op0 := ⟨wi0, wi0, wi0, wi0, wi0, wi0, wi0, wi0, wi0⟩
  cases word with
  | nil =>
    refine (pread0_any w).mono ?_
    rintro e w' ⟨rfl, F⟩
    exact ⟨op0, none, 0, false, rfl, ⟨(fun e => by cases e), fun _ => rfl⟩, SlN.nil _ _ _, hop0, F⟩
  | cons k v =>
    by_cases k1 : k = 99
    · subst k1; exact pread1_any v w hE hM hL hA
    by_cases k2 : k = 112
    · subst k2; exact pread2_any v w hE hM hL hA
    by_cases k3 : k = 116
    · subst k3; exact pread3_any v w hE hM hL hA
    by_cases k4 : k = 111
    · subst k4; exact pread4_any v w hE hM hL hA
    by_cases k5 : k = 120
    · subst k5; exact pread5_any v w hE hM hL hA
    by_cases k6 : k = 115
    · subst k6; exact pread6_any v w hE hM hL hA
    refine (preadx_any k v w ⟨k1, k2, k3, k4, k5, k6⟩ hE hM hL hA).mono ?_
    rintro e w' ⟨rfl, F⟩
    exact ⟨op0, none, 0, false, rfl, ⟨(fun e => by cases e), fun _ => rdO_z k1 k2 k3 k4 k5 k6⟩, SlN.nil _ _ _, hop0, F⟩
end Go.Proofs.YtonhhnedfjonoaaGreatDoor

/- Walks: ledger.compare. -/
namespace Go.Proofs.YtonhhnedfjonoaaGreatDoor
open Go.RowKit

/-- The order of transactions. -/
def cmpT (a b : TxX) : Int := orL [cmpI a.src b.src, cmpI a.seq b.seq]
theorem cmpT_geq (a b : TxX) : decide (0 ≤ cmpT a b) = !ltTx a.pl b.pl := by
  unfold cmpT ltTx TxX.pl
  simp only [orL, cmpI]
  rw [Bool.eq_iff_iff]
  simp only [decide_eq_true_eq, Bool.not_eq_true', decide_eq_false_iff_not]
  by_cases h1 : a.src < b.src
  · simp [h1]
  · by_cases h2 : b.src < a.src
    · simp [h1, h2]; omega
    · have h12 : a.src = b.src := by omega
      by_cases h3 : a.seq < b.seq
      · simp [h12, h3]
      · by_cases h4 : b.seq < a.seq
        · simp [h12, h3, h4]
        · simp [h12, h3, h4]
def txV (t : TxX) : Value := .agg #[.int .i64 t.src, .int .i64 t.seq, .int .i64 t.fee, .slice t.A t.ops.length t.c]
theorem txcells {w : World} {b : Nat} {t : TxX} (h : TxB w b t) : w.cell? ⟨b, 0, none⟩ = some (.int .i64 t.src) ∧ w.cell? ⟨b, 1, none⟩ = some (.int .i64 t.seq) ∧ w.cell? ⟨b, 2, none⟩ = some (.int .i64 t.fee) ∧ w.cell? ⟨b, 3, none⟩ = some (.slice t.A t.ops.length t.c) := ⟨h.cell 0, h.cell 1, h.cell 2, h.cell 3⟩
set_option maxRecDepth 100000 in
set_option maxHeartbeats 1000000 in
theorem pcmp_any (x y : TxX) (w : World) : Calls Tryz.prog 40 #[txV x, txV y] w fun e w' => e = .returned (.int .i64 (cmpT x y)) ∧ Fr none w w' := by
  obtain ⟨C1, hC1⟩ : ∃ C, C = cmpI x.src y.src := ⟨_, rfl⟩
  obtain ⟨C2, hC2⟩ : ∃ C, C = cmpI x.seq y.seq := ⟨_, rfl⟩
  have HE : Hid (orL [C1, C2] = cmpT x y) := by unfold Hid cmpT; rw [hC1, hC2]
  have HW : Hid (∀ n ∈ [C1, C2], Wi n) := by unfold Hid; rw [hC1, hC2]; simp [cmpI_wi]
  have H1 := Lib.hid hC1
  have H2 := Lib.hid hC2
  clear hC1 hC2
  unfold txV
  go_enter Tryz.func40, Tryz.ntmps40
  go_upto_region 1 with (fail)
  generalize hW : w.alloc _ = wa
  have F1 : Fr none w wa := hW ▸ (Fr.refl none w).alloc _
  have b1 : TxB wa w.heap.size x := by rw [← hW]; exact blk_new _ _
  have sa : w.heap.size + 1 = wa.heap.size := by rw [← hW]; exact (Array.size_push _).symm
  clear hW
  generalize hW : wa.alloc _ = w1
  have F2 : Fr none wa w1 := hW ▸ (Fr.refl none wa).alloc _
  have b2 : TxB w1 (w.heap.size + 1) y := by rw [← hW, sa]; exact blk_new _ _
  have b1 := b1.fr F2 (by simp)
  clear hW sa
  have FF := F1.pure F2
  clear F1 F2
  refine wp_region_fxL (fun W => Fr none w1 W) 10 17 [some 14, some 13, some 12, some 11, some 10, some 9, some 8, some 7, some 6, some 5] (by kernel_rfl) (by kernel_rfl) (by kernel_rfl) (Nat.le_refl _) ((Fr.refl _ _).drew) ?_
  refine FxL.pure (v := ?_) rfl (fun ev w hS E => ?_) ?_; rotate_left
  · obtain ⟨t2, ec, ef, eg⟩ := E.get [] [2] (by kernel_rfl); clear E; go_simp; try with_reducible rfl
  refine FxL.pure (v := ?_) rfl (fun ev w hS E => ?_) ?_; rotate_left
  · obtain ⟨c0, c1, c2, c3⟩ := txcells (b1.fr hS (by simp))
    obtain ⟨d0, d1, d2, d3⟩ := txcells (b2.fr hS (by simp))
    obtain ⟨t5, ec, ef, eg⟩ := E.get [(0, 0, 5)] [] (by kernel_rfl); clear E; simp only [nthV] at t5; go_simp; try with_reducible rfl
  refine FxL.pure (v := ?_) rfl (fun ev w hS E => ?_) ?_; rotate_left
  · obtain ⟨t3, ec, ef, eg⟩ := E.get [] [3] (by kernel_rfl); clear E; go_simp; try with_reducible rfl
  refine FxL.pure (v := ?_) rfl (fun ev w hS E => ?_) ?_; rotate_left
  · obtain ⟨c0, c1, c2, c3⟩ := txcells (b1.fr hS (by simp))
    obtain ⟨d0, d1, d2, d3⟩ := txcells (b2.fr hS (by simp))
    obtain ⟨t7, ec, ef, eg⟩ := E.get [(0, 2, 7)] [] (by kernel_rfl); clear E; simp only [nthV] at t7; go_simp; try with_reducible rfl
  refine FxL.call (v := ?_) (f := ?_) (args := ?_) rfl (fun ev w hS E => ?_) (fun w hS => ?_) ?_; rotate_left 3
  · obtain ⟨c0, c1, c2, c3⟩ := txcells (b1.fr hS (by simp))
    obtain ⟨d0, d1, d2, d3⟩ := txcells (b2.fr hS (by simp))
    obtain ⟨t6, t8, ec, ef, eg⟩ := E.get [(2, 1, 6), (0, 3, 8)] [] (by kernel_rfl); clear E; simp only [nthV] at t6 t8; go_simp; first | (refine And.intro ?_ ?_ <;> with_reducible rfl) | with_reducible rfl
  · obtain ⟨c0, c1, c2, c3⟩ := txcells (b1.fr hS (by simp))
    obtain ⟨d0, d1, d2, d3⟩ := txcells (b2.fr hS (by simp))
    refine (cmpCompare_any x.src y.src w).mono ?_
    rintro e w2 ⟨rfl, rfl⟩
    refine ⟨?_, hS⟩; with_reducible rfl
  refine FxL.pure (v := ?_) rfl (fun ev w hS E => ?_) ?_; rotate_left
  · obtain ⟨t2, ec, ef, eg⟩ := E.get [] [2] (by kernel_rfl); clear E; go_simp; try with_reducible rfl
  refine FxL.pure (v := ?_) rfl (fun ev w hS E => ?_) ?_; rotate_left
  · obtain ⟨c0, c1, c2, c3⟩ := txcells (b1.fr hS (by simp))
    obtain ⟨d0, d1, d2, d3⟩ := txcells (b2.fr hS (by simp))
    obtain ⟨t10, ec, ef, eg⟩ := E.get [(0, 5, 10)] [] (by kernel_rfl); clear E; simp only [nthV] at t10; go_simp; try with_reducible rfl
  refine FxL.pure (v := ?_) rfl (fun ev w hS E => ?_) ?_; rotate_left
  · obtain ⟨t3, ec, ef, eg⟩ := E.get [] [3] (by kernel_rfl); clear E; go_simp; try with_reducible rfl
  refine FxL.pure (v := ?_) rfl (fun ev w hS E => ?_) ?_; rotate_left
  · obtain ⟨c0, c1, c2, c3⟩ := txcells (b1.fr hS (by simp))
    obtain ⟨d0, d1, d2, d3⟩ := txcells (b2.fr hS (by simp))
    obtain ⟨t12, ec, ef, eg⟩ := E.get [(0, 7, 12)] [] (by kernel_rfl); clear E; simp only [nthV] at t12; go_simp; try with_reducible rfl
  refine FxL.call (v := ?_) (f := ?_) (args := ?_) rfl (fun ev w hS E => ?_) (fun w hS => ?_) ?_; rotate_left 3
  · obtain ⟨c0, c1, c2, c3⟩ := txcells (b1.fr hS (by simp))
    obtain ⟨d0, d1, d2, d3⟩ := txcells (b2.fr hS (by simp))
    obtain ⟨t11, t13, ec, ef, eg⟩ := E.get [(2, 6, 11), (0, 8, 13)] [] (by kernel_rfl); clear E; simp only [nthV] at t11 t13; go_simp; first | (refine And.intro ?_ ?_ <;> with_reducible rfl) | with_reducible rfl
  · obtain ⟨c0, c1, c2, c3⟩ := txcells (b1.fr hS (by simp))
    obtain ⟨d0, d1, d2, d3⟩ := txcells (b2.fr hS (by simp))
    refine (cmpCompare_any x.seq y.seq w).mono ?_
    rintro e w2 ⟨rfl, rfl⟩
    refine ⟨?_, hS⟩; with_reducible rfl
  refine FxL.done (fun W hW => ?_)
  simp only [fillZ]
  try simp only [Act.put, List.setIfInBounds_toArray, List.set_cons_zero, List.set_cons_succ, List.getElem_toArray, List.getElem_cons_zero, List.getElem_cons_succ]
  try simp only [List.drop_succ_cons, List.drop_zero, List.drop_nil]
  rw [← H1.out, ← H2.out]
  go_wp2_with fail
  refine (or_any [C1, C2] _ _ none ⟨SlD.lit_dm (r := none) #[.int .i64 C1, .int .i64 C2] 3 2 1 rfl (by decide) (by simp) (Fr.refl _ _), HW.out⟩).mono ?_
  rintro e5 w5 ⟨rfl, rfl⟩
  go_wp2_with fail
  go_ret
  exact ⟨by rw [HE.out]; rfl, FF.pure (hW.alloc _)⟩
end Go.Proofs.YtonhhnedfjonoaaGreatDoor

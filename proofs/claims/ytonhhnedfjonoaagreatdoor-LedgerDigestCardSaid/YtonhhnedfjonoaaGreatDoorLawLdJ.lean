/- The law LedgerDigest: its walk. -/
import Derived.Test.YtonhhnedfjonoaaGreatDoorProg
import Derived.Test.YtonhhnedfjonoaaGreatDoorLdMJ
import Derived.Test.YtonhhnedfjonoaaGreatDoorJL17
import Derived.Test.YtonhhnedfjonoaaGreatDoorOrdPJ
set_option linter.unusedSimpArgs false
set_option linter.unusedVariables false
namespace Go.Proofs.YtonhhnedfjonoaaGreatDoor
open Go.RowKit

set_option maxRecDepth 100000 in
set_option maxHeartbeats 4000000 in
theorem lawLd_any (v : Value) (t : List Int) (w : World) (ht : SlI w none v t) (hT : Tab w) (hE : Errs w) (hM : Mxl w) :
    Calls Tryz.prog 3 #[v] w fun e w' => e = .returned (.bool true) ∧ Fr none w w' := by
  have HT := Lib.hid hT
  have HE := Lib.hid hE
  have HM := Lib.hid hM
  clear hT hE hM
  go_enter Tryz.func3, Tryz.ntmps3
  go_wp2_with fail
  refine (srcNew_any v t w ht).mono ?_
  rintro e w1 ⟨sb, rfl, hsb, S1, F1⟩
  go_wp2_with fail
  refine (srcLed_any sb w1 S1).mono ?_
  rintro e w2 ⟨va, vl, vo, G, rfl, hG, hok, S2, F2⟩
  unfold bxv
  obtain ⟨A1, ca, rfl, qa1, qa2, _⟩ := accR_open (hG.lgs none (by simp)).1
  obtain ⟨A2, cl, rfl, ql1, ql2, _⟩ := lnR_open (hG.lgs none (by simp)).2.1
  obtain ⟨A3, co, rfl, qo1, qo2, _⟩ := ofR_open (hG.lgs none (by simp)).2.2.1
  have LX := LgBel.of (sb := sb) (xb := w2.heap.size) hG S1.lt (Nat.le_refl _)
  have HOK := Lib.hid hok
  have HGo := Lib.hid (And.intro hG.oa (And.intro hG.ol (And.intro hG.oo hG.wi)))
  have hsm := hok.sm
  have hlim : G.accs.length ≤ 1000 ∧ G.lines.length ≤ 1000 ∧ G.offers.length ≤ 1000 := ⟨hsm.a, hsm.l, hsm.o⟩
  clear hG hok hsm
  have FX : Fr none w w2 := F1.new F2 hsb
  have hs1 := S1.lt
  have hs2 := F2.size
  clear S1 F1 F2 ht
  go_upto_region 3 with (fail)
  obtain ⟨gb, hgb⟩ : ∃ gb, gb = w2.heap.size := ⟨_, rfl⟩
  rw [← hgb] at LX ⊢
  generalize hW : w2.alloc _ = w3
  have F3 : Fr none w2 w3 := hW ▸ (Fr.refl none w2).alloc _
  have bg : w3.heap[gb]? = some (.cells #[.int .i64 G.num, .slice A1 G.accs.length ca, .slice A2 G.lines.length cl, .slice A3 G.offers.length co, .int .i64 G.nid, .int .i64 G.fees, .int .u64 (G.link : Int)] 30 (0, 0)) := by rw [← hW, hgb]; exact blk_new _ _
  have hs3 : gb + 1 ≤ w3.heap.size := by rw [← hW, hgb]; exact Nat.le_of_eq (Array.size_push _).symm
  have hz2 : w2.heap.size ≤ gb ∧ gb ≤ w2.heap.size := by omega
  clear hW hgb
  have k0 : w3.cell? ⟨gb, 0, none⟩ = some (.int .i64 G.num) := by rw [blk_cell bg]; rfl
  have k1 : w3.cell? ⟨gb, 1, none⟩ = some (.slice A1 G.accs.length ca) := by rw [blk_cell bg]; rfl
  have k2 : w3.cell? ⟨gb, 2, none⟩ = some (.slice A2 G.lines.length cl) := by rw [blk_cell bg]; rfl
  have k3 : w3.cell? ⟨gb, 3, none⟩ = some (.slice A3 G.offers.length co) := by rw [blk_cell bg]; rfl
  have k4 : w3.cell? ⟨gb, 4, none⟩ = some (.int .i64 G.nid) := by rw [blk_cell bg]; rfl
  have k5 : w3.cell? ⟨gb, 5, none⟩ = some (.int .i64 G.fees) := by rw [blk_cell bg]; rfl
  have k6 : w3.cell? ⟨gb, 6, none⟩ = some (.int .u64 (G.link : Int)) := by rw [blk_cell bg]; rfl
  go_upto_region 4 with (fail)
  clear k0 k1 k2 k3 k4 k5 k6
  obtain ⟨xb, hxb⟩ : ∃ xb, xb = w3.heap.size := ⟨_, rfl⟩
  rw [← hxb]
  generalize hW : w3.alloc _ = w4
  have F4 : Fr none w3 w4 := hW ▸ (Fr.refl none w3).alloc _
  have bx : w4.heap[xb]? = some (.cells #[.int .i64 G.num, .slice A1 G.accs.length ca, .slice A2 G.lines.length cl, .slice A3 G.offers.length co, .int .i64 G.nid, .int .i64 G.fees, .int .u64 (G.link : Int)] 30 (0, 0)) := by rw [← hW, hxb]; exact blk_new _ _
  have hs4 : xb + 1 ≤ w4.heap.size := by rw [← hW, hxb]; exact Nat.le_of_eq (Array.size_push _).symm
  have hz3 : gb < xb := by omega
  clear hW hxb
  have bg := blk_fr bg F4 (by simp)
  have SX := S2.fr (F3.pure F4)
  have LX := (LX.fr (F3.pure F4) (by omega) (by simp)).low (xb := xb) (by omega)
  have FX := FX.pure (F3.pure F4)
  clear S2
  have gk : World.cell? w4 ⟨gb, 1, none⟩ = some (.slice A1 G.accs.length ca) := by rw [blk_cell bg]; rfl
  have HSA : Hid (SlD w4 (fun _ => True) 3 (.slice A1 G.accs.length ca) (flR accR G.accs)) := LX.ga.any
  go_upto_region 5 with (at_builtin; refine app_any eiAcc rfl _ _ rfl (xb + 1) none 0 0 [] rfl (World.ownsRow_nil _ _ _ _) A1 G.accs.length ca (flR accR G.accs) rfl HSA.out (flR_one accR _) (by omega) (by unfold maxLen; omega) (by omega) ?_; intro B1 d1 w5 own1 F9 _; simp only [Nat.zero_add, List.nil_append] at own1 ⊢; have F9 : Fr none w4 w5 := F9; have bx9 := blk_fr bx F9 (by simp); have z9 := blk_free bx9 1; have y9 : World.cell? w5 ⟨xb, 1, none⟩ = some (.slice A1 G.accs.length ca) := by rw [blk_cell bx9]; rfl)
  generalize hW : World.setCell _ _ _ = w6
  have G9 : Fr (some xb) w5 w6 := hW ▸ Fr.set1 w5 ⟨xb, 1, none⟩ (.slice B1 G.accs.length d1)
  have bx2 : (w6).heap[xb]? = some (.cells #[.int .i64 G.num, .slice B1 G.accs.length d1, .slice A2 G.lines.length cl, .slice A3 G.offers.length co, .int .i64 G.nid, .int .i64 G.fees, .int .u64 (G.link : Int)] 30 (0, 0)) := by rw [← hW]; exact blk_set bx9 1 _
  have bg2 := blk_fr (blk_fr bg F9 (by simp)) G9 (by intro e; injection e with e; omega)
  have LX2 := (LX.fr F9 (by omega) (by simp)).fr G9 (by have := F9.size; omega) (by intro e h; injection h with h; omega)
  have SX2 := (SX.fr F9).frs G9 (by intro b e; injection e with e; omega)
  have FX2 := (FX.pure F9).new G9 (by omega)
  have own1 := own_fr own1 G9 (by intro g e; injection e with e; omega)
  have hz9 := F9.size
  have hz8 := G9.size
  clear hW gk HSA z9 y9 bx9 bx bg LX SX FX F9 G9
  have bx := bx2
  have bg := bg2
  have LX := LX2
  have SX := SX2
  have FX := FX2
  clear bx2 bg2 LX2 SX2 FX2
  have hl6 : Hid (∀ g, (Value.slice B1 G.accs.length d1).ownBlock = some g → g < w6.heap.size) := fun g hg => (own1.lt g hg).2
  have gk : World.cell? w6 ⟨gb, 2, none⟩ = some (.slice A2 G.lines.length cl) := by rw [blk_cell bg]; rfl
  have HSA : Hid (SlD w6 (fun _ => True) 5 (.slice A2 G.lines.length cl) (flR lnR G.lines)) := LX.gl.any
  go_upto_region 6 with (at_builtin; refine app_any eiLn rfl _ _ rfl w6.heap.size none 0 0 [] rfl (World.ownsRow_nil _ _ _ _) A2 G.lines.length cl (flR lnR G.lines) rfl HSA.out (flR_one lnR _) (by omega) (by unfold maxLen; omega) (by omega) ?_; intro B2 d2 w7 own2 F9 _; simp only [Nat.zero_add, List.nil_append] at own2 ⊢; have F9 : Fr none w6 w7 := F9; have bx9 := blk_fr bx F9 (by simp); have z9 := blk_free bx9 2; have y9 : World.cell? w7 ⟨xb, 2, none⟩ = some (.slice A2 G.lines.length cl) := by rw [blk_cell bx9]; rfl)
  generalize hW : World.setCell _ _ _ = w8
  have G9 : Fr (some xb) w7 w8 := hW ▸ Fr.set1 w7 ⟨xb, 2, none⟩ (.slice B2 G.lines.length d2)
  have bx2 : (w8).heap[xb]? = some (.cells #[.int .i64 G.num, .slice B1 G.accs.length d1, .slice B2 G.lines.length d2, .slice A3 G.offers.length co, .int .i64 G.nid, .int .i64 G.fees, .int .u64 (G.link : Int)] 30 (0, 0)) := by rw [← hW]; exact blk_set bx9 2 _
  have bg2 := blk_fr (blk_fr bg F9 (by simp)) G9 (by intro e; injection e with e; omega)
  have LX2 := (LX.fr F9 (by omega) (by simp)).fr G9 (by have := F9.size; omega) (by intro e h; injection h with h; omega)
  have SX2 := (SX.fr F9).frs G9 (by intro b e; injection e with e; omega)
  have FX2 := (FX.pure F9).new G9 (by omega)
  have own2 := own_fr own2 G9 (by intro g e; injection e with e; omega)
  have hz9 := F9.size
  have hz8 := G9.size
  have own1 := own_fr (own_fr own1 F9 (by simp)) G9 (by intro g e; injection e with e; omega)
  clear hW gk HSA z9 y9 bx9 bx bg LX SX FX F9 G9
  have bx := bx2
  have bg := bg2
  have LX := LX2
  have SX := SX2
  have FX := FX2
  clear bx2 bg2 LX2 SX2 FX2
  have hl8 : Hid (∀ g, (Value.slice B2 G.lines.length d2).ownBlock = some g → g < w8.heap.size) := fun g hg => (own2.lt g hg).2
  have gk : World.cell? w8 ⟨gb, 3, none⟩ = some (.slice A3 G.offers.length co) := by rw [blk_cell bg]; rfl
  have HSA : Hid (SlD w8 (fun _ => True) 9 (.slice A3 G.offers.length co) (flR ofR G.offers)) := LX.go.any
  go_upto_region 7 with (at_builtin; refine app_any eiOfr rfl _ _ rfl w8.heap.size none 0 0 [] rfl (World.ownsRow_nil _ _ _ _) A3 G.offers.length co (flR ofR G.offers) rfl HSA.out (flR_one ofR _) (by omega) (by unfold maxLen; omega) (by omega) ?_; intro B3 d3 w9 own3 F9 _; simp only [Nat.zero_add, List.nil_append] at own3 ⊢; have F9 : Fr none w8 w9 := F9; have bx9 := blk_fr bx F9 (by simp); have z9 := blk_free bx9 3; have y9 : World.cell? w9 ⟨xb, 3, none⟩ = some (.slice A3 G.offers.length co) := by rw [blk_cell bx9]; rfl)
  generalize hW : World.setCell _ _ _ = w10
  have G9 : Fr (some xb) w9 w10 := hW ▸ Fr.set1 w9 ⟨xb, 3, none⟩ (.slice B3 G.offers.length d3)
  have bx2 : (w10).heap[xb]? = some (.cells #[.int .i64 G.num, .slice B1 G.accs.length d1, .slice B2 G.lines.length d2, .slice B3 G.offers.length d3, .int .i64 G.nid, .int .i64 G.fees, .int .u64 (G.link : Int)] 30 (0, 0)) := by rw [← hW]; exact blk_set bx9 3 _
  have bg2 := blk_fr (blk_fr bg F9 (by simp)) G9 (by intro e; injection e with e; omega)
  have LX2 := (LX.fr F9 (by omega) (by simp)).fr G9 (by have := F9.size; omega) (by intro e h; injection h with h; omega)
  have SX2 := (SX.fr F9).frs G9 (by intro b e; injection e with e; omega)
  have FX2 := (FX.pure F9).new G9 (by omega)
  have own3 := own_fr own3 G9 (by intro g e; injection e with e; omega)
  have hz9 := F9.size
  have hz8 := G9.size
  have own1 := own_fr (own_fr own1 F9 (by simp)) G9 (by intro g e; injection e with e; omega)
  have own2 := own_fr (own_fr own2 F9 (by simp)) G9 (by intro g e; injection e with e; omega)
  clear hW gk HSA z9 y9 bx9 bx bg LX SX FX F9 G9
  have bx := bx2
  have bg := bg2
  have LX := LX2
  have SX := SX2
  have FX := FX2
  clear bx2 bg2 LX2 SX2 FX2
  have HD : Hid (DigM w w10 G _ _ _ sb gb xb w6.heap.size w8.heap.size B1 d1 B2 d2 B3 d3) := ⟨bg, bx, LX.ga, LX.gl, LX.go, own1, own2, own3, hl6.out, hl8.out, ⟨by omega, by omega, by omega, by omega, by omega, by omega⟩, FX, SX, HOK.out, HGo.out.1, HGo.out.2.1, HGo.out.2.2.1, HGo.out.2.2.2⟩
  clear bx bg LX FX own1 own2 own3 hz9 hz8 hl6 hl8 HOK HGo
  go_wp2_with fail
  refine (srcN_any 6 sb w10 (by omega) SX).mono ?_
  rintro e w11 ⟨x, rfl, x1, x2, S11, F11⟩
  have HD := Lib.hid (HD.out.src F11 S11)
  have x2 : x ≤ 5 := by omega
  clear SX F11 S11
  generalize w6.heap.size = s4 at *
  generalize w8.heap.size = s5 at *
  go_upto_block 0 with (fail)
  go_cut [] (fun W => DigE w gb xb W)
  case first =>
    have hok := HD.out.ok
    have hlin := HD.out.lin
    obtain ⟨hn1, hn2⟩ := hok.num
    obtain ⟨hf1, hf2⟩ := hok.fees
    obtain ⟨ha1, ha2⟩ := hok.len
    have hx : x = 0 ∨ x = 1 ∨ x = 2 ∨ x = 3 ∨ x = 4 ∨ x = 5 := by omega
    rcases hx with rfl | rfl | rfl | rfl | rfl | rfl
    ·
      obtain ⟨b, rfl⟩ := own_some HD.out.xa (by omega)
      have p1 := (lgcells HD.out.xc).2.1
      have hcap := own_cap HD.out.xa
      go_upto_region 10 with (fail)
      refine wp_region_fxP (fun W => W.cell? ⟨xb, 1, none⟩ = some (.slice (some ⟨b, 0, none⟩) G.accs.length d1)) (fun W => W.cell? ⟨xb, 1, none⟩ = some (.slice (some ⟨b, 0, none⟩) G.accs.length d1) ∧ DigM w W G (.slice A1 G.accs.length ca) (.slice A2 G.lines.length cl) (.slice A3 G.offers.length co) sb gb xb s4 s5 (some ⟨b, 0, none⟩) d1 B2 d2 B3 d3) [6, 13] [0, 1, 2, 3, 4, 5, 6, 7, 8, 9, 10, 11, 12, 13] 101 [none, some 43, some 42, some 41, some 40, some 39, some 38, some 37, some 36, some 35, some 34, some 33, some 32, some 31] (by kernel_rfl) (by kernel_rfl) (by kernel_rfl) (Nat.le_refl _) (show (fun W => W.cell? ⟨xb, 1, none⟩ = some (.slice (some ⟨b, 0, none⟩) G.accs.length d1) ∧ DigM w W G (.slice A1 G.accs.length ca) (.slice A2 G.lines.length cl) (.slice A3 G.offers.length co) sb gb xb s4 s5 (some ⟨b, 0, none⟩) d1 B2 d2 B3 d3) _ from (by exact ⟨p1, HD.out.src (Fr.refl _ _).drew HD.out.sr⟩)) (fun W h => h.1) ?_
      clear p1
      refine FxP.pure (v := ?_) rfl rfl rfl (fun ev w E => ?_) ?_; rotate_left
      · obtain ⟨t5, ec, ef, eg⟩ := E.get [] [5] (by kernel_rfl); clear E; go_simp; try with_reducible rfl
      refine FxP.load (v := ?_) rfl rfl rfl (fun ev w hS E => ?_) ?_; rotate_left
      · have p1 := hS
        obtain ⟨t31, ec, ef, eg⟩ := E.get [(0, 0, 31)] [] (by kernel_rfl); clear E; simp only [nthV] at t31; go_simp; try with_reducible rfl
      refine FxP.pure (v := ?_) rfl rfl rfl (fun ev w E => ?_) ?_; rotate_left
      · obtain ⟨t3, ec, ef, eg⟩ := E.get [] [3] (by kernel_rfl); clear E; go_simp; try with_reducible rfl
      refine FxP.pure (v := ?_) rfl rfl rfl (fun ev w E => ?_) ?_; rotate_left
      · obtain ⟨t5, ec, ef, eg⟩ := E.get [] [5] (by kernel_rfl); clear E; go_simp; try with_reducible rfl
      refine FxP.load (v := ?_) rfl rfl rfl (fun ev w hS E => ?_) ?_; rotate_left
      · have p1 := hS
        obtain ⟨t34, ec, ef, eg⟩ := E.get [(0, 3, 34)] [] (by kernel_rfl); clear E; simp only [nthV] at t34; go_simp; try with_reducible rfl
      refine FxP.pure (v := ?_) rfl rfl rfl (fun ev w E => ?_) ?_; rotate_left
      · obtain ⟨t35, ec, ef, eg⟩ := E.get [(0, 4, 35)] [] (by kernel_rfl); clear E; simp only [nthV] at t35; go_simp; try with_reducible rfl
      refine FxP.call (f := ?_) (args := ?_) (fun v W => W.cell? ⟨xb, 1, none⟩ = some (.slice (some ⟨b, 0, none⟩) G.accs.length d1) ∧ DigM w W G (.slice A1 G.accs.length ca) (.slice A2 G.lines.length cl) (.slice A3 G.offers.length co) sb gb xb s4 s5 (some ⟨b, 0, none⟩) d1 B2 d2 B3 d3 ∧ ∃ k : Nat, v = .int .i64 (k : Int) ∧ k < G.accs.length) rfl rfl rfl (by kernel_rfl) (fun ev w hS E => ?_) (fun w hS => ?_) (fun v W h => h.1) ?_; rotate_left 2
      · obtain ⟨t33, t36, ec, ef, eg⟩ := E.get [(3, 2, 33), (0, 5, 36)] [] (by kernel_rfl); clear E; simp only [nthV] at t33 t36; go_simp; first | (refine And.intro ?_ ?_ <;> with_reducible rfl) | with_reducible rfl
      · refine (srcN_any (G.accs.length : Int) sb w (by omega) hS.2.sr).mono ?_
        rintro e w2 ⟨n, rfl, h1, h2, S2, F2⟩
        obtain ⟨k, rfl⟩ := Int.eq_ofNat_of_zero_le h1
        have D2 := hS.2.src F2 S2
        exact ⟨_, rfl, (lgcells D2.xc).2.1, D2, k, rfl, by omega⟩
      rintro v37 wq ⟨-, -, k, rfl, hk⟩
      clear wq
      have hgk := hok.ga k hk
      obtain ⟨-, hb1, hb2, hb3, hb4⟩ := hgk
      have hwb : IntKind.i64.wrap (G.accs[k].bal + 1) = G.accs[k].bal + 1 := by rw [IntKind.wrap_i64]; omega
      have hws : IntKind.i64.wrap (G.accs[k].seq + 1) = G.accs[k].seq + 1 := by rw [IntKind.wrap_i64]; omega
      refine FxP.pure (v := ?_) rfl rfl rfl (fun ev w E => ?_) ?_; rotate_left
      · obtain ⟨t32, t37, ec, ef, eg⟩ := E.get [(5, 1, 32), (0, 6, 37)] [] (by kernel_rfl); clear E; simp only [nthV] at t32 t37; go_simp; try with_reducible rfl
      refine FxP.pure (v := ?_) rfl rfl rfl (fun ev w E => ?_) ?_; rotate_left
      · obtain ⟨t38, ec, ef, eg⟩ := E.get [(0, 7, 38)] [] (by kernel_rfl); clear E; simp only [nthV] at t38; go_simp; try with_reducible rfl
      refine FxP.loadS (v := ?_) rfl rfl rfl (by kernel_rfl) (fun ev w hS E => ?_) ?_; rotate_left
      · obtain ⟨c1, c2, -⟩ := hS.2.1.acc k hk
        obtain ⟨t39, ec, ef, eg⟩ := E.get [(0, 8, 39)] [] (by kernel_rfl); clear E; simp only [nthV] at t39; go_simp; try with_reducible rfl
      refine FxP.pure (v := ?_) rfl rfl rfl (fun ev w E => ?_) ?_; rotate_left
      · obtain ⟨t40, ec, ef, eg⟩ := E.get [(0, 9, 40)] [] (by kernel_rfl); clear E; simp only [nthV] at t40; go_simp; try with_reducible rfl
      refine FxP.pure (v := ?_) rfl rfl rfl (fun ev w E => ?_) ?_; rotate_left
      · obtain ⟨t32, t37, ec, ef, eg⟩ := E.get [(9, 1, 32), (4, 6, 37)] [] (by kernel_rfl); clear E; simp only [nthV] at t32 t37; go_simp; try with_reducible rfl
      refine FxP.pure (v := ?_) rfl rfl rfl (fun ev w E => ?_) ?_; rotate_left
      · obtain ⟨t42, ec, ef, eg⟩ := E.get [(0, 11, 42)] [] (by kernel_rfl); clear E; simp only [nthV] at t42; go_simp; try with_reducible rfl
      refine FxP.store (S' := (fun W => DigE w gb xb W)) rfl rfl rfl (by kernel_rfl) (fun ev w hS E => ?_) (NextP.new (G' := fun _ => True) (by kernel_rfl) (fun _ _ => trivial)) ?_
      · obtain ⟨c1, c2, hz⟩ := hS.2.1.acc k hk
        obtain ⟨t43, t41, ec, ef, eg⟩ := E.get [(0, 12, 43), (2, 10, 41)] [] (by kernel_rfl); clear E; simp only [nthV] at t43 t41
        refine ⟨?_, ?_, ?_⟩
        rotate_left
        · go_simp; try with_reducible rfl
        · exact hS.2.1.bal b k rfl hk
      refine FxP.done (fun W hW => ?_)
      simp only [fillZ]
      try simp only [Act.put, List.setIfInBounds_toArray, List.set_cons_zero, List.set_cons_succ, List.getElem_toArray, List.getElem_cons_zero, List.getElem_cons_succ]
      go_wp2_with fail
      go_meet
      exact hW
    ·
      obtain ⟨b, rfl⟩ := own_some HD.out.xa (by omega)
      have p1 := (lgcells HD.out.xc).2.1
      have hcap := own_cap HD.out.xa
      go_upto_region 12 with (fail)
      refine wp_region_fxP (fun W => W.cell? ⟨xb, 1, none⟩ = some (.slice (some ⟨b, 0, none⟩) G.accs.length d1)) (fun W => W.cell? ⟨xb, 1, none⟩ = some (.slice (some ⟨b, 0, none⟩) G.accs.length d1) ∧ DigM w W G (.slice A1 G.accs.length ca) (.slice A2 G.lines.length cl) (.slice A3 G.offers.length co) sb gb xb s4 s5 (some ⟨b, 0, none⟩) d1 B2 d2 B3 d3) [6, 13] [0, 1, 2, 3, 4, 5, 6, 7, 8, 9, 10, 11, 12, 13] 101 [none, some 58, some 57, some 56, some 55, some 54, some 53, some 52, some 51, some 50, some 49, some 48, some 47, some 46] (by kernel_rfl) (by kernel_rfl) (by kernel_rfl) (Nat.le_refl _) (show (fun W => W.cell? ⟨xb, 1, none⟩ = some (.slice (some ⟨b, 0, none⟩) G.accs.length d1) ∧ DigM w W G (.slice A1 G.accs.length ca) (.slice A2 G.lines.length cl) (.slice A3 G.offers.length co) sb gb xb s4 s5 (some ⟨b, 0, none⟩) d1 B2 d2 B3 d3) _ from (by exact ⟨p1, HD.out.src (Fr.refl _ _).drew HD.out.sr⟩)) (fun W h => h.1) ?_
      clear p1
      refine FxP.pure (v := ?_) rfl rfl rfl (fun ev w E => ?_) ?_; rotate_left
      · obtain ⟨t5, ec, ef, eg⟩ := E.get [] [5] (by kernel_rfl); clear E; go_simp; try with_reducible rfl
      refine FxP.load (v := ?_) rfl rfl rfl (fun ev w hS E => ?_) ?_; rotate_left
      · have p1 := hS
        obtain ⟨t46, ec, ef, eg⟩ := E.get [(0, 0, 46)] [] (by kernel_rfl); clear E; simp only [nthV] at t46; go_simp; try with_reducible rfl
      refine FxP.pure (v := ?_) rfl rfl rfl (fun ev w E => ?_) ?_; rotate_left
      · obtain ⟨t3, ec, ef, eg⟩ := E.get [] [3] (by kernel_rfl); clear E; go_simp; try with_reducible rfl
      refine FxP.pure (v := ?_) rfl rfl rfl (fun ev w E => ?_) ?_; rotate_left
      · obtain ⟨t5, ec, ef, eg⟩ := E.get [] [5] (by kernel_rfl); clear E; go_simp; try with_reducible rfl
      refine FxP.load (v := ?_) rfl rfl rfl (fun ev w hS E => ?_) ?_; rotate_left
      · have p1 := hS
        obtain ⟨t49, ec, ef, eg⟩ := E.get [(0, 3, 49)] [] (by kernel_rfl); clear E; simp only [nthV] at t49; go_simp; try with_reducible rfl
      refine FxP.pure (v := ?_) rfl rfl rfl (fun ev w E => ?_) ?_; rotate_left
      · obtain ⟨t50, ec, ef, eg⟩ := E.get [(0, 4, 50)] [] (by kernel_rfl); clear E; simp only [nthV] at t50; go_simp; try with_reducible rfl
      refine FxP.call (f := ?_) (args := ?_) (fun v W => W.cell? ⟨xb, 1, none⟩ = some (.slice (some ⟨b, 0, none⟩) G.accs.length d1) ∧ DigM w W G (.slice A1 G.accs.length ca) (.slice A2 G.lines.length cl) (.slice A3 G.offers.length co) sb gb xb s4 s5 (some ⟨b, 0, none⟩) d1 B2 d2 B3 d3 ∧ ∃ k : Nat, v = .int .i64 (k : Int) ∧ k < G.accs.length) rfl rfl rfl (by kernel_rfl) (fun ev w hS E => ?_) (fun w hS => ?_) (fun v W h => h.1) ?_; rotate_left 2
      · obtain ⟨t48, t51, ec, ef, eg⟩ := E.get [(3, 2, 48), (0, 5, 51)] [] (by kernel_rfl); clear E; simp only [nthV] at t48 t51; go_simp; first | (refine And.intro ?_ ?_ <;> with_reducible rfl) | with_reducible rfl
      · refine (srcN_any (G.accs.length : Int) sb w (by omega) hS.2.sr).mono ?_
        rintro e w2 ⟨n, rfl, h1, h2, S2, F2⟩
        obtain ⟨k, rfl⟩ := Int.eq_ofNat_of_zero_le h1
        have D2 := hS.2.src F2 S2
        exact ⟨_, rfl, (lgcells D2.xc).2.1, D2, k, rfl, by omega⟩
      rintro v52 wq ⟨-, -, k, rfl, hk⟩
      clear wq
      have hgk := hok.ga k hk
      obtain ⟨-, hb1, hb2, hb3, hb4⟩ := hgk
      have hwb : IntKind.i64.wrap (G.accs[k].bal + 1) = G.accs[k].bal + 1 := by rw [IntKind.wrap_i64]; omega
      have hws : IntKind.i64.wrap (G.accs[k].seq + 1) = G.accs[k].seq + 1 := by rw [IntKind.wrap_i64]; omega
      refine FxP.pure (v := ?_) rfl rfl rfl (fun ev w E => ?_) ?_; rotate_left
      · obtain ⟨t47, t52, ec, ef, eg⟩ := E.get [(5, 1, 47), (0, 6, 52)] [] (by kernel_rfl); clear E; simp only [nthV] at t47 t52; go_simp; try with_reducible rfl
      refine FxP.pure (v := ?_) rfl rfl rfl (fun ev w E => ?_) ?_; rotate_left
      · obtain ⟨t53, ec, ef, eg⟩ := E.get [(0, 7, 53)] [] (by kernel_rfl); clear E; simp only [nthV] at t53; go_simp; try with_reducible rfl
      refine FxP.loadS (v := ?_) rfl rfl rfl (by kernel_rfl) (fun ev w hS E => ?_) ?_; rotate_left
      · obtain ⟨c1, c2, -⟩ := hS.2.1.acc k hk
        obtain ⟨t54, ec, ef, eg⟩ := E.get [(0, 8, 54)] [] (by kernel_rfl); clear E; simp only [nthV] at t54; go_simp; try with_reducible rfl
      refine FxP.pure (v := ?_) rfl rfl rfl (fun ev w E => ?_) ?_; rotate_left
      · obtain ⟨t55, ec, ef, eg⟩ := E.get [(0, 9, 55)] [] (by kernel_rfl); clear E; simp only [nthV] at t55; go_simp; try with_reducible rfl
      refine FxP.pure (v := ?_) rfl rfl rfl (fun ev w E => ?_) ?_; rotate_left
      · obtain ⟨t47, t52, ec, ef, eg⟩ := E.get [(9, 1, 47), (4, 6, 52)] [] (by kernel_rfl); clear E; simp only [nthV] at t47 t52; go_simp; try with_reducible rfl
      refine FxP.pure (v := ?_) rfl rfl rfl (fun ev w E => ?_) ?_; rotate_left
      · obtain ⟨t57, ec, ef, eg⟩ := E.get [(0, 11, 57)] [] (by kernel_rfl); clear E; simp only [nthV] at t57; go_simp; try with_reducible rfl
      refine FxP.store (S' := (fun W => DigE w gb xb W)) rfl rfl rfl (by kernel_rfl) (fun ev w hS E => ?_) (NextP.new (G' := fun _ => True) (by kernel_rfl) (fun _ _ => trivial)) ?_
      · obtain ⟨c1, c2, hz⟩ := hS.2.1.acc k hk
        obtain ⟨t58, t56, ec, ef, eg⟩ := E.get [(0, 12, 58), (2, 10, 56)] [] (by kernel_rfl); clear E; simp only [nthV] at t58 t56
        refine ⟨?_, ?_, ?_⟩
        rotate_left
        · go_simp; try with_reducible rfl
        · exact hS.2.1.seq b k rfl hk
      refine FxP.done (fun W hW => ?_)
      simp only [fillZ]
      try simp only [Act.put, List.setIfInBounds_toArray, List.set_cons_zero, List.set_cons_succ, List.getElem_toArray, List.getElem_cons_zero, List.getElem_cons_succ]
      go_wp2_with fail
      go_meet
      exact hW
    · have p2 := (lgcells HD.out.xc).2.2.1
      have hcap := own_cap HD.out.xl
      go_upto_region 14 with (fail)
      refine wp_region_fxP (fun W => W.cell? ⟨xb, 2, none⟩ = some (.slice B2 G.lines.length d2)) (fun W => W.cell? ⟨xb, 2, none⟩ = some (.slice B2 G.lines.length d2) ∧ Fr none w11 W) [2, 4, 5, 7] [0, 1, 2, 3, 4, 5, 6, 7] 101 [none, some 67, some 66, some 65, some 64, some 63, some 62, some 61] (by kernel_rfl) (by kernel_rfl) (by kernel_rfl) (Nat.le_refl _) (show (fun W => W.cell? ⟨xb, 2, none⟩ = some (.slice B2 G.lines.length d2) ∧ Fr none w11 W) _ from (by exact ⟨p2, (Fr.refl _ _).drew⟩)) (fun W h => h.1) ?_
      clear p2
      refine FxP.pure (v := ?_) rfl rfl rfl (fun ev w E => ?_) ?_; rotate_left
      · obtain ⟨t5, ec, ef, eg⟩ := E.get [] [5] (by kernel_rfl); clear E; go_simp; try with_reducible rfl
      refine FxP.load (v := ?_) rfl rfl rfl (fun ev w hS E => ?_) ?_; rotate_left
      · have p2 := hS
        obtain ⟨t61, ec, ef, eg⟩ := E.get [(0, 0, 61)] [] (by kernel_rfl); clear E; simp only [nthV] at t61; go_simp; try with_reducible rfl
      refine FxP.callv (v := ?_) (f := ?_) (args := ?_) (S' := (fun W => W.cell? ⟨xb, 2, none⟩ = some (.slice B2 G.lines.length d2) ∧ Fr none w11 W)) rfl rfl rfl (by kernel_rfl) (fun ev w hS E => ?_) (fun w hS => ?_) (NextP.stay (fun W h => h.1)) ?_; rotate_left 3
      · obtain ⟨ec, ef, eg⟩ := E.get [] [] (by kernel_rfl); clear E; go_simp; first | (refine And.intro ?_ ?_ <;> with_reducible rfl) | with_reducible rfl
      · refine (usd_any w).mono ?_
        rintro e w2 ⟨rfl, F2⟩
        refine ⟨?_, F2.keep hS.1 (by simp), hS.2.pure F2⟩
        with_reducible rfl
      refine FxP.pure (v := ?_) rfl rfl rfl (fun ev w E => ?_) ?_; rotate_left
      · obtain ⟨t63, ec, ef, eg⟩ := E.get [(0, 2, 63)] [] (by kernel_rfl); clear E; simp only [nthV] at t63; go_simp; try with_reducible rfl
      refine FxP.new (fun u W => W.cell? ⟨xb, 2, none⟩ = some (.slice B2 G.lines.length d2) ∧ ∃ (bk : Nat), u = .slice (some ⟨bk, 0, none⟩) 1 1 ∧ W.heap[bk]? = some (.cells #[.int .i64 9, .string (bL usd.code), .int .i64 usd.iss, .int .i64 0, .int .i64 4] 39 (0, 0)) ∧ Fr none w11 W) rfl rfl rfl (by kernel_rfl) (fun ev w hS E => ?_) (fun v W h => h.1) ?_
      · obtain ⟨t64, ec, ef, eg⟩ := E.get [(0, 3, 64)] [] (by kernel_rfl); clear E; simp only [nthV] at t64
        refine ⟨?_, ?_, ?_, ?_⟩
        rotate_left 2
        · go_simp; first | (refine And.intro ?_ ?_ <;> with_reducible rfl) | with_reducible rfl
        have FA := (Fr.refl none w).alloc (.cells #[.int .i64 9, .string (bL usd.code), .int .i64 usd.iss, .int .i64 0, .int .i64 4] 39)
        exact ⟨FA.keep hS.1 (by simp), w.heap.size, rfl, blk_new _ _, hS.2.pure FA⟩
      rintro v65 wq hT65
      clear hT65 wq
      refine FxP.new (fun u W => W.cell? ⟨xb, 2, none⟩ = some (.slice B2 G.lines.length d2) ∧ ∃ (A' : Option Addr) (c' : Nat), u = .slice A' (G.lines.length + 1) c' ∧ Fr (Value.slice B2 G.lines.length d2).ownBlock w11 W ∧ W.ownsRow s4 39 5 (.slice A' (G.lines.length + 1) c') (G.lines.length + 1) (flR lnR G.lines ++ [.int .i64 9, .string (bL usd.code), .int .i64 usd.iss, .int .i64 0, .int .i64 4])) rfl rfl rfl (by kernel_rfl) (fun ev w hS E => ?_) (fun v W h => h.1) ?_
      · obtain ⟨t62, t65, ec, ef, eg⟩ := E.get [(3, 1, 62), (0, 4, 65)] [] (by kernel_rfl); clear E; simp only [nthV] at t62 t65
        obtain ⟨q3, bk, rfl, hbk, q4⟩ := hS
        have own := own_fr HD.out.xl q4 (by simp)
        have hlt := HD.out.lt
        have hsz := q4.size
        refine app_new eiLn (.tmp 62) (.tmp 65) rfl s4 B2 G.lines.length d2 (flR lnR G.lines) t62 own _ 1 1 _ t65 (sld_blk hbk 1 5 rfl (by unfold maxLen; omega)) (by simp [Value.oneCell']) (by omega) (by unfold maxLen; omega) (by omega) ?_
        intro A' c' w' own' F' nb
        exact ⟨F'.keep q3 (fun e => own_ne own (g := xb) (by omega) e.symm), A', c', rfl, q4.mono.same F', own'⟩
      rintro v66 wq hT66
      clear hT66 wq
      refine FxP.pure (v := ?_) rfl rfl rfl (fun ev w E => ?_) ?_; rotate_left
      · obtain ⟨t5, ec, ef, eg⟩ := E.get [] [5] (by kernel_rfl); clear E; go_simp; try with_reducible rfl
      refine FxP.store (S' := (fun W => DigE w gb xb W)) rfl rfl rfl (by kernel_rfl) (fun ev w hS E => ?_) (NextP.new (G' := fun _ => True) (by kernel_rfl) (fun _ _ => trivial)) ?_
      · obtain ⟨q3, A', c', rfl, F', own'⟩ := hS
        have hlt := HD.out.lt
        have hz := blk_free (blk_fr HD.out.xc F' (fun e => own_ne HD.out.xl (g := xb) (by omega) e)) 2
        obtain ⟨t67, t66, ec, ef, eg⟩ := E.get [(0, 6, 67), (1, 5, 66)] [] (by kernel_rfl); clear E; simp only [nthV] at t67 t66
        refine ⟨?_, ?_, ?_⟩
        rotate_left
        · go_simp; try with_reducible rfl
        · exact HD.out.line F' A' c' own'
      refine FxP.done (fun W hW => ?_)
      simp only [fillZ]
      try simp only [Act.put, List.setIfInBounds_toArray, List.set_cons_zero, List.set_cons_succ, List.getElem_toArray, List.getElem_cons_zero, List.getElem_cons_succ]
      go_wp2_with fail
      go_meet
      exact hW
    · have hlt := HD.out.lt
      have p3 := (lgcells HD.out.xc).2.2.2.1
      have hcap := own_cap HD.out.xo
      have HXO := Lib.hid HD.out.xo
      go_wp2_with (at_builtin; refine app_lit eiOfr rfl _ _ rfl s5 B3 G.offers.length d3 _ rfl HXO.out 1 [.int .i64 77, .int .i64 0, .string ⟨#[]⟩, .int .i64 0, .string ⟨#[]⟩, .int .i64 0, .int .i64 0, .int .i64 0, .int .i64 0] _ _ rfl (by simp) rfl (by simp [Value.oneCell']) (by omega) (by unfold maxLen; omega) (by omega) ?_; intro A7 c7 w7 own7 F7 nb7; have hx7 := blk_fr HD.out.xc F7 (fun e => own_ne HXO.out (g := xb) (by omega) e); have z7 := blk_free hx7 3; have y7 := (lgcells hx7).2.2.2.1)
      go_meet
      exact HD.out.offer F7 A7 c7 own7
    · have p5 := (lgcells HD.out.xc).2.2.2.2.2.1
      have z5 := blk_free HD.out.xc 5
      go_wp2_with fail
      go_meet
      exact HD.out.fees (Fr.set1 w11 ⟨xb, 5, none⟩ _) (blk_set HD.out.xc 5 _)
    · have p0 := (lgcells HD.out.xc).1
      have z0 := blk_free HD.out.xc 0
      go_wp2_with fail
      go_meet
      exact HD.out.num (Fr.set1 w11 ⟨xb, 0, none⟩ _) (blk_set HD.out.xc 0 _)
  case rest =>
    clear HD
    obtain ⟨G, G', va, vl, vo, xa, xl, xo, hS⟩ := hcut
    obtain ⟨A1, ca, rfl, _, _, _⟩ := accR_open hS.gs.1
    obtain ⟨A2, cl, rfl, _, _, _⟩ := lnR_open hS.gs.2.1
    obtain ⟨A3, co, rfl, _, _, _⟩ := ofR_open hS.gs.2.2.1
    obtain ⟨B1, da, rfl, _, _, _⟩ := accR_open hS.xs.1
    obtain ⟨B2, dl, rfl, _, _, _⟩ := lnR_open hS.xs.2.1
    obtain ⟨B3, do', rfl, _, _, _⟩ := ofR_open hS.xs.2.2.1
    have hbl : (bytesG G).length ≤ 4000000 := bytesG_len hS.sg hS.gs.1.2 hS.gs.2.1.2 hS.gs.2.2.1.2 hS.gs.2.2.2.1 hS.gs.2.2.2.2.1 hS.gs.2.2.2.2.2.1 hS.gs.2.2.2.2.2.2
    have hne : ((bL (bytesG G')).toList == (bL (bytesG G)).toList) = false := by rw [bL_tl, bL_tl, beq_eq_false_iff_ne]; exact hS.ne
    have HS := Lib.hid hS
    have hmx : 1 < w.heap.size := by obtain ⟨m, h⟩ := HM.out; exact World.block_lt_of_cell? w _ h
    have HTW : Hid (∀ W, Fr none wc W → Tab W ∧ Errs W ∧ Mxl W ∧ 1 < W.heap.size) := fun W F => ⟨HT.out.fr (HS.out.fr.pure F), HE.out.frs (HS.out.fr.pure F) (by simp) (by simp), HM.out.frs (HS.out.fr.pure F) (by simp), Nat.lt_of_lt_of_le hmx (HS.out.fr.pure F).size⟩
    clear hS hmx
    go_upto_region 19 with (fail)
    refine wp_region_fxP (fun W => True ∧ Fr none wc W) (fun W => True ∧ Fr none wc W) [1, 4, 9, 11, 13, 17] [0, 3, 1, 2, 4, 5, 6, 7, 8, 10, 9, 11, 12, 13, 14, 15, 16, 17, 18, 19] 101 [some 2, some 100, some 99, some 98, some 97, some 96, some 95, some 94, some 93, some 91, some 92, some 90, some 89, some 88, some 87, some 86, some 84, some 83, some 85, some 82] (by kernel_rfl) (by kernel_rfl) (by kernel_rfl) (Nat.le_refl _) (show (fun W => True ∧ Fr none wc W) _ from ⟨trivial, (Fr.refl _ _).drew⟩) (fun W h => h) ?_
    refine FxP.load (v := ?_) rfl rfl rfl (fun ev w hS E => ?_) ?_; rotate_left
    · obtain ⟨p0, p1, p2, p3, p4, p5, p6⟩ := lgcells (blk_fr HS.out.xc hS.2 (by simp))
      obtain ⟨q0, q1, q2, q3, q4, q5, q6⟩ := lgcells (blk_fr HS.out.gc hS.2 (by simp))
      obtain ⟨t5, ec, ef, eg⟩ := E.get [] [5] (by kernel_rfl); clear E; go_simp; try with_reducible rfl
    refine FxP.load (v := ?_) rfl rfl rfl (fun ev w hS E => ?_) ?_; rotate_left
    · obtain ⟨p0, p1, p2, p3, p4, p5, p6⟩ := lgcells (blk_fr HS.out.xc hS.2 (by simp))
      obtain ⟨q0, q1, q2, q3, q4, q5, q6⟩ := lgcells (blk_fr HS.out.gc hS.2 (by simp))
      obtain ⟨t4, ec, ef, eg⟩ := E.get [] [4] (by kernel_rfl); clear E; go_simp; try with_reducible rfl
    refine FxP.callG (f := ?_) (args := ?_) (fun v83 W => SlD W (Dm W none) 1 v83 (Lib.byteCells (bytesG G')) ∧ Fr none wc W) (fun v83 W => SlD W (Dm W none) 1 v83 (Lib.byteCells (bytesG G')) ∧ Fr none wc W) rfl rfl rfl (by kernel_rfl) (fun ev w hS E => ?_) (fun w hS => ?_) (fun v W h => ⟨h, fun _ h => ⟨trivial, h.2⟩⟩) ?_; rotate_left 2
    · obtain ⟨t82, ec, ef, eg⟩ := E.get [(1, 0, 82)] [] (by kernel_rfl); clear E; simp only [nthV] at t82; go_simp; first | (refine And.intro ?_ ?_ <;> with_reducible rfl) | with_reducible rfl
    · refine (pbytes_any G' _ _ _ w (HS.out.xs.fr hS.2) HS.out.sx (HTW.out w hS.2).1).mono ?_
      rintro e w2 ⟨v, rfl, hv, F2⟩
      exact ⟨v, rfl, hv.keep (dn_dm (by simp)), hS.2.pure F2⟩
    rintro v83 wq hT1
    clear hT1 wq
    refine FxP.load (v := ?_) rfl rfl rfl (fun ev w hS E => ?_) ?_; rotate_left
    · obtain ⟨p0, p1, p2, p3, p4, p5, p6⟩ := lgcells (blk_fr HS.out.xc hS.2 (by simp))
      obtain ⟨q0, q1, q2, q3, q4, q5, q6⟩ := lgcells (blk_fr HS.out.gc hS.2 (by simp))
      obtain ⟨t83, ec, ef, eg⟩ := E.get [(0, 1, 83)] [] (by kernel_rfl); clear E; simp only [nthV] at t83
      have hcv := conv_back hS.1 (bytesG_ne G')
      go_simp
      try with_reducible rfl
    refine FxP.call (f := ?_) (args := ?_) (fun v W => (SlD W (Dm W none) 1 v83 (Lib.byteCells (bytesG G')) ∧ Fr none wc W) ∧ SlD W (Dm W none) 1 v (Lib.byteCells (bytesG G))) rfl rfl rfl (by kernel_rfl) (fun ev w hS E => ?_) (fun w hS => ?_) (fun v W h => h.1) ?_; rotate_left 2
    · obtain ⟨t85, ec, ef, eg⟩ := E.get [(2, 3, 85)] [] (by kernel_rfl); clear E; simp only [nthV] at t85; go_simp; first | (refine And.intro ?_ ?_ <;> with_reducible rfl) | with_reducible rfl
    · refine (pbytes_any G _ _ _ w (HS.out.gs.fr hS.2) HS.out.sg (HTW.out w hS.2).1).mono ?_
      rintro e w2 ⟨v, rfl, hv, F2⟩
      exact ⟨v, rfl, ⟨hS.1.keep (fr_dm F2), hS.2.pure F2⟩, hv.keep (dn_dm (by simp))⟩
    rintro v86 wq hT4
    clear hT4 wq
    refine FxP.loadS (v := ?_) rfl rfl rfl (by kernel_rfl) (fun ev w hS E => ?_) ?_; rotate_left
    · obtain ⟨t86, ec, ef, eg⟩ := E.get [(0, 4, 86)] [] (by kernel_rfl); clear E; simp only [nthV] at t86
      have hcv := conv_back hS.2 (bytesG_ne G)
      go_simp
      try with_reducible rfl
    refine FxP.pure (v := ?_) rfl rfl rfl (fun ev w E => ?_) ?_; rotate_left
    · obtain ⟨t84, t87, ec, ef, eg⟩ := E.get [(2, 2, 84), (0, 5, 87)] [] (by kernel_rfl); clear E; simp only [nthV] at t84 t87; go_simp; try with_reducible rfl
    refine FxP.pure (v := ?_) rfl rfl rfl (fun ev w E => ?_) ?_; rotate_left
    · obtain ⟨t88, ec, ef, eg⟩ := E.get [(0, 6, 88)] [] (by kernel_rfl); clear E; simp only [nthV] at t88; go_simp; try with_reducible rfl
    refine FxP.gload (v := ?_) 0 rfl rfl rfl rfl rfl (fun ev w hS E => ?_) ?_; rotate_left
    · obtain ⟨q0, q1, q2, q3, q4, q5, q6⟩ := lgcells (blk_fr HS.out.gc hS.2 (by simp))
      obtain ⟨t4, ec, ef, eg⟩ := E.get [] [4] (by kernel_rfl); clear E; go_simp; try with_reducible rfl
    refine FxP.gload (v := ?_) 1 rfl rfl rfl rfl rfl (fun ev w hS E => ?_) ?_; rotate_left
    · obtain ⟨q0, q1, q2, q3, q4, q5, q6⟩ := lgcells (blk_fr HS.out.gc hS.2 (by simp))
      obtain ⟨t4, ec, ef, eg⟩ := E.get [] [4] (by kernel_rfl); clear E; go_simp; try with_reducible rfl
    refine FxP.gcallv (v := ?_) (f := ?_) (args := ?_) (S' := (fun W => SlD W (Dm W none) 1 v83 (Lib.byteCells (bytesG G')) ∧ Fr none wc W)) 2 rfl rfl rfl rfl rfl (by kernel_rfl) (fun ev w hS E => ?_) (fun w hS => ?_) (NextP.stay (fun W h => h)) ?_; rotate_left 3
    · obtain ⟨t90, ec, ef, eg⟩ := E.get [(1, 8, 90)] [] (by kernel_rfl); clear E; simp only [nthV] at t90; go_simp; first | (refine And.intro ?_ ?_ <;> with_reducible rfl) | with_reducible rfl
    · refine (pdig_any G _ _ _ w (HS.out.gs.fr hS.1.2) HS.out.sg (HTW.out w hS.1.2).1).mono ?_
      rintro e w2 ⟨rfl, F2⟩
      refine ⟨?_, hS.1.1.keep (fr_dm F2), hS.1.2.pure F2⟩
      with_reducible rfl
    refine FxP.gcall (f := ?_) (args := ?_) (fun v W => (SlD W (Dm W none) 1 v83 (Lib.byteCells (bytesG G')) ∧ Fr none wc W) ∧ SlD W (Dm W none) 1 v (Lib.byteCells (bytesG G))) 3 rfl rfl rfl rfl rfl (by kernel_rfl) (fun ev w hS E => ?_) (fun w hS => ?_) (fun v W h => h.1) ?_; rotate_left 2
    · obtain ⟨t92, ec, ef, eg⟩ := E.get [(1, 10, 92)] [] (by kernel_rfl); clear E; simp only [nthV] at t92; go_simp; first | (refine And.intro ?_ ?_ <;> with_reducible rfl) | with_reducible rfl
    · refine (pbytes_any G _ _ _ w (HS.out.gs.fr hS.2) HS.out.sg (HTW.out w hS.2).1).mono ?_
      rintro e w2 ⟨v, rfl, hv, F2⟩
      exact ⟨v, rfl, ⟨hS.1.keep (fr_dm F2), hS.2.pure F2⟩, hv.keep (dn_dm (by simp))⟩
    rintro v93 wq hT4
    clear hT4 wq
    refine FxP.gloadS (v := ?_) 4 rfl rfl rfl rfl rfl (by kernel_rfl) (fun ev w hS E => ?_) ?_; rotate_left
    · obtain ⟨t93, ec, ef, eg⟩ := E.get [(0, 11, 93)] [] (by kernel_rfl); clear E; simp only [nthV] at t93
      have hcv := conv_back hS.2 (bytesG_ne G)
      go_simp
      try with_reducible rfl
    refine FxP.gcallv (v := ?_) (f := ?_) (args := ?_) (S' := (fun W => SlD W (Dm W none) 1 v83 (Lib.byteCells (bytesG G')) ∧ Fr none wc W)) 5 rfl rfl rfl rfl rfl (by kernel_rfl) (fun ev w hS E => ?_) (fun w hS => ?_) (NextP.stay (fun W h => h)) ?_; rotate_left 3
    · obtain ⟨t94, ec, ef, eg⟩ := E.get [(0, 12, 94)] [] (by kernel_rfl); clear E; simp only [nthV] at t94; go_simp; first | (refine And.intro ?_ ?_ <;> with_reducible rfl) | with_reducible rfl
    · refine (rhash_any (bL (bytesG G)) w (by rw [bL_size]; omega)).mono ?_
      rintro e w2 ⟨rfl, rfl⟩
      refine ⟨?_, hS.1⟩
      rw [bL_list]
    refine FxP.gpure (v := ?_) 6 rfl rfl rfl rfl rfl (fun ev w E => ?_) ?_; rotate_left
    · obtain ⟨t91, t95, ec, ef, eg⟩ := E.get [(3, 9, 91), (0, 13, 95)] [] (by kernel_rfl); clear E; simp only [nthV] at t91 t95; go_simp; try with_reducible rfl
    refine FxP.pure (v := ?_) rfl rfl rfl (fun ev w E => ?_) ?_; rotate_left
    · obtain ⟨t89, t96, ec, ef, eg⟩ := E.get [(7, 7, 89), (0, 14, 96)] [] (by kernel_rfl); clear E; simp only [nthV] at t89 t96; go_simp; try with_reducible rfl
    refine FxP.pure (v := ?_) rfl rfl rfl (fun ev w E => ?_) ?_; rotate_left
    · obtain ⟨t97, ec, ef, eg⟩ := E.get [(0, 15, 97)] [] (by kernel_rfl); clear E; simp only [nthV] at t97; go_simp; try with_reducible rfl
    refine FxP.gcallv (v := ?_) (f := ?_) (args := ?_) (S' := (fun W => SlD W (Dm W none) 1 v83 (Lib.byteCells (bytesG G')) ∧ Fr none wc W)) 0 rfl rfl rfl rfl rfl (by kernel_rfl) (fun ev w hS E => ?_) (fun w hS => ?_) (NextP.stay (fun W h => h)) ?_; rotate_left 3
    · obtain ⟨ec, ef, eg⟩ := E.get [] [] (by kernel_rfl); clear E; go_simp; first | (refine And.intro ?_ ?_ <;> with_reducible rfl) | with_reducible rfl
    · refine (sane40_any w (HTW.out w hS.2).2.1 (HTW.out w hS.2).2.2.1 (HTW.out w hS.2).1 (HTW.out w hS.2).2.2.2).mono ?_
      rintro e w2 ⟨rfl, F2⟩
      refine ⟨?_, hS.1.keep (fr_dm F2), hS.2.pure F2⟩
      with_reducible rfl
    refine FxP.pure (v := ?_) rfl rfl rfl (fun ev w E => ?_) ?_; rotate_left
    · obtain ⟨t98, t99, ec, ef, eg⟩ := E.get [(1, 16, 98), (0, 17, 99)] [] (by kernel_rfl); clear E; simp only [nthV] at t98 t99; go_simp; try with_reducible rfl
    refine FxP.pure (v := ?_) rfl rfl rfl (fun ev w E => ?_) ?_; rotate_left
    · obtain ⟨t100, ec, ef, eg⟩ := E.get [(0, 18, 100)] [] (by kernel_rfl); clear E; simp only [nthV] at t100; go_simp; try with_reducible rfl
    refine FxP.done (fun W hW => ?_)
    simp only [fillZ]
    try simp only [Act.put, List.setIfInBounds_toArray, List.set_cons_zero, List.set_cons_succ, List.getElem_toArray, List.getElem_cons_zero, List.getElem_cons_succ]
    go_wp2_with fail
    go_ret
    exact ⟨rfl, HS.out.fr.pure hW.2⟩
end Go.Proofs.YtonhhnedfjonoaaGreatDoor

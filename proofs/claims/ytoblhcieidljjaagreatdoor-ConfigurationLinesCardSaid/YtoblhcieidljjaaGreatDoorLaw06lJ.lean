/- The law ConfigurationLines: its walk. -/
import Derived.Test.YtoblhcieidljjaaGreatDoorProg
import Derived.Test.YtoblhcieidljjaaGreatDoorJG23
import Derived.Test.YtoblhcieidljjaaGreatDoorCprLJ
set_option linter.unusedSimpArgs false
set_option linter.unusedVariables false
namespace Go.Proofs.YtoblhcieidljjaaGreatDoor
open Go.RowKit

theorem dg_toNat {j : Nat} (hj : j < 10) : (dg j).toNat = 48 + j := by
  rcases ten_cases hj with rfl | rfl | rfl | rfl | rfl | rfl | rfl | rfl | rfl | rfl <;> rfl
theorem dg_run (j : Nat) (hj : j < 10) (W : World) (b : Nat) (h : W.cell? ⟨b, 0, none⟩ = some (.int .u8 (48 + (j : Int)))) : (convert 35 9 (.slice (some ⟨b, 0, none⟩) 1 1)).run Tryz.prog W = .ok (.string (bs [dg j])) W :=
  Lib.run_convert_whole (P := Tryz.prog) W 35 5 9 Tryz.underlying35 Tryz.underlying5 Tryz.underlying9 b 0 (bs [dg j]) (fun i hi => by
    have hi : i < 1 := hi
    obtain rfl : i = 0 := by omega
    rw [Nat.zero_add, h]
    show some (Value.int .u8 (48 + (j : Int))) = some (Value.int .u8 (((dg j).toNat : Nat) : Int))
    rw [dg_toNat hj]
    congr 2) 1
theorem wpAnyH_str {P : Program} {md : Region.Mode} {ops : Array Oper} {Q : Exit → Act → World → Prop} {S S' : World → Prop} (hSS : ∀ w, S' w → S w) :
    ∀ (fuel : Nat) (listed : Array Bool) (a : Act) (w : World), wpAnyH P md ops Q S' fuel listed a w → wpAnyH P md ops Q S fuel listed a w
  | 0, _, _, _, h => h
  | fuel + 1, _, _, _, h => ⟨h.1, fun i hi => wpOp_mono (fun a' w' h' => ⟨hSS _ h'.1, wpAnyH_str hSS fuel _ a' w' h'.2⟩) (h.2 i hi)⟩
theorem textC_no : textC [noMb] = [48, 58, 32, 45, 10] := by kernel_rfl
set_option maxRecDepth 100000 in
set_option maxHeartbeats 32000000 in
theorem law06l_any (v : Value) (l : List Int) (n : Int) (w : World) (hl : SlI w none v l) (hn : 0 ≤ n ∧ n < 256) (hT : Tab w) (hM : Mxl w) : Calls Tryz.prog 3 #[v, .int .u8 n] w fun e w' => e = .returned (.bool true) ∧ Fr none w w' := by
  obtain ⟨n, rfl⟩ := Int.eq_ofNat_of_zero_le hn.1
  go_enter Tryz.func3, Tryz.ntmps3
  go_wp2_with fail
  refine (tapeNew_any _ _ _ hl).mono ?_
  rintro e w1 ⟨g, rfl, hg, S1, F1⟩
  have hg1 := S1.lt
  clear hl
  go_wp2_with fail
  refine (mkconfig_any 10 g _ (by omega) (by omega) S1).mono ?_
  rintro e w2 ⟨vc, L, rfl, hc, hL1, hL10, hok, S2, F2⟩
  obtain ⟨A, c, rfl⟩ := hc.shape
  have hz2 := F2.size
  have F02 := F1.own F2 (fun q hq => by injection hq with hq; omega)
  have hc : CfD w2 (fun b => b < w2.heap.size ∧ b ≠ g) (.agg #[.slice A L.length c]) L := hc.keep (fun k hk => ⟨⟨hk.2, by have := hk.1; omega⟩, rfl⟩)
  have HOK := Lib.hid hok
  have hgw : w.heap.size ≤ g := hg
  have hmod : Int.tmod (n : Int) (L.length : Int) = ((n % L.length : Nat) : Int) := rfl
  have hk1 : n % L.length < L.length := Nat.mod_lt _ (by omega)
  obtain ⟨k, hk⟩ : ∃ k, n % L.length = k := ⟨_, rfl⟩
  rw [hk] at hmod hk1
  clear S1 F1 F2 hok hg hk
  go_upto_region 3 with (fail)
  generalize hW : w2.alloc _ = w3
  have F3 : Fr none w2 w3 := hW ▸ (Fr.refl none w2).alloc _
  have b4 : CB w3 w2.heap.size (.slice A L.length c) := by rw [← hW]; exact blk_new _ _
  clear hW
  have hz3 := F3.size
  have S3 := S2.fr F3
  have hg2 := S2.lt
  have F03 := F02.pure F3
  have hc3 : CfD w3 (fun b => b < w2.heap.size ∧ b ≠ g) (.agg #[.slice A L.length c]) L := hc.keep (fun k hk => ⟨hk, F3.block k hk.1 (by simp)⟩)
  clear S2 F02 F3 hc
  have R4 := b4.cell
  have l4 := blk_lt b4
  obtain ⟨A', c', eA, q1, q2, hcell⟩ := hc3.open_
  injection eA with eA
  simp only [Array.mk.injEq, List.cons.injEq, and_true] at eA
  injection eA with e1 _ e3
  subst e1 e3
  have HC := Lib.hid hcell
  unfold maxLen at q2
  have hgw3 : g < w3.heap.size := by omega
  clear hcell hc3
  go_wp2_with fail
  go_loopw [8, 9, 10, 11, 12, 32] (fun s8 s9 _ _ _ s32 wr => ∃ (j : Nat) (G B : List (List UInt8)) (U V : ByteArray), j ≤ L.length ∧ s32 = .int .i64 (j : Int) ∧ s8 = .string U ∧ s9 = .string V ∧ Fr (some g) w3 wr ∧ SrcR 84 wr g ∧ Hid (U = bs (flatL G) ∧ G.length = j ∧ ∀ i (hi : i < G.length), goodL i G[i]) ∧ Hid (V = bs (flatL B) ∧ B.length = j ∧ (∀ i (hi : i < B.length), i ≠ k → goodL i B[i]) ∧ ∀ hi : k < B.length, badL k B[k]) ∧ U.size ≤ j * 12 ∧ V.size ≤ j * 12) (fun _ _ _ _ _ s32 _ => L.length - (intOf s32).toNat)
  case atStart => exact ⟨0, [], [], _, _, Nat.zero_le _, rfl, rfl, rfl, Fr.refl _ _, S3, ⟨rfl, rfl, fun i hi => by simp at hi⟩, ⟨rfl, rfl, fun i hi => by simp at hi, fun hi => by simp at hi⟩, by decide, by decide⟩
  case round =>
    clear R4 l4
    obtain ⟨j, G, B, U, V, hj, rfl, rfl, rfl, F, S, HG, HB, hU, hV⟩ := hrel
    obtain ⟨wz, hwz⟩ : ∃ wz : World, wz = wr := ⟨_, rfl⟩
    subst hwz
    have bz := b4.fr F (by simp; omega)
    by_cases hlt : j < L.length
    · obtain ⟨b, off, th, A1, n1, c1, A2, n2, c2, rfl, hb, g0, g1, g2, g3, ht⟩ := HC.out j hlt
      have hbne : b ≠ g := hb.2
      have g0 := F.keep g0 (by simp; omega)
      have g1 := F.keep g1 (by simp; omega)
      have g2 := F.keep g2 (by simp; omega)
      have g3 := F.keep g3 (by simp; omega)
      have ht : TrR wz none (.agg #[.int .i64 th, .slice A1 n1 c1, .slice A2 n2 c2]) L[j].tr := TrD.keep (fun k hk => ⟨⟨by have := F.size; have := hk.1; omega, by simp⟩, F.block k (by have := hk.1; omega) (by have := hk.2; simp; omega)⟩) _ _ ht
      have HM := Lib.hid (HOK.out _ (List.getElem_mem hlt))
      have hsz := F.size
      have T0 := hT.fr (F03.own F (fun q hq => by injection hq with hq; omega))
      have M0 := hM.fr (F03.own F (fun q hq => by injection hq with hq; omega))
      generalize L[j] = m at g0 ht HM
      obtain ⟨d, t⟩ := m
      simp only at g0 ht
      go_wp2_with fail
      generalize hW : (wz.alloc _).alloc _ = wa
      have Fa : Fr none wz wa := hW ▸ ((Fr.refl none wz).alloc _).alloc _
      have m11 : MB wa wz.heap.size (.bool d) (.int .i64 th) (.slice A1 n1 c1) (.slice A2 n2 c2) := by rw [← hW]; exact (Below.heap_alloc _ _ _ (by simp)).trans (blk_new _ _)
      have hcl : ∀ i, wa.cell? ⟨wz.heap.size + 1, i, none⟩ = (#[.bool d, .int .i64 th, .slice A1 n1 c1, .slice A2 n2 c2] : Array Value)[i]? := by rw [← hW]; exact blk_cell (blk_new_at (by simp) _)
      have hza : wa.heap.size = wz.heap.size + 2 := by rw [← hW]; simp
      clear hW g0 g1 g2 g3
      have hc1 : CfD wa (Dm wa none) (.agg #[.slice (some ⟨wz.heap.size + 1, 0, none⟩) ([⟨d, t⟩] : List Mb).length 1]) [⟨d, t⟩] :=
        ⟨_, 1, [.bool d, .int .i64 th, .slice A1 n1 c1, .slice A2 n2 c2], rfl, ⟨_, _, _, rfl, rfl, Nat.le_refl _, by decide, fun _ => ⟨_, 0, rfl, ⟨by omega, by simp⟩, fun i x hx => by rw [Nat.zero_add, hcl]; simpa using hx⟩⟩, _, _, _, _, rfl, ht.fr Fa, rfl⟩
      refine (rctext_any [⟨d, t⟩] _ _ hc1 (fun m hm => by rw [List.mem_singleton.1 hm]; have := mbok_size HM.out; simp only at this ⊢; omega) (by simp) (T0.fr Fa)).mono ?_
      rintro e wb ⟨rfl, Fb⟩
      have m11 := m11.fr Fb (by simp)
      have R11 := m11.cell
      have l11 := blk_lt m11
      have F0b := (F.pure Fa).pure Fb
      have Sb := (S.fr Fa).fr Fb
      have hzb := Fb.size
      clear hcl hc1 ht
      obtain ⟨SL, hSL, hSd⟩ : ∃ SL : ByteArray, bs (textC [⟨d, t⟩]) = SL ∧ (d = false → SL = ⟨#[48, 58, 32, 45, 10]⟩) := ⟨_, rfl, fun hd => by
        subst hd
        have ht0 : t = zeroTr := HM.out.2 rfl
        subst ht0
        rw [show (⟨false, zeroTr⟩ : Mb) = noMb from rfl, textC_no]
        rfl⟩
      rw [hSL]
      have hcv := dg_run j (by omega)
      clear hSL HM
      cases d with
      | true =>
        clear hSd
        obtain ⟨X1, H1, z1, a1⟩ := str_add (bs [dg j]) ((⟨#[48, 58, 32, 49, 32, 111, 102, 32, 40, 48, 41, 10]⟩ : ByteArray).extract 1 12) (by rw [bs_size]; simp) (by decide)
        have hX1 : X1 = bs (dg j :: gT ++ [10]) := by rw [H1.out]; exact bs_app [dg j] (gT ++ [10])
        have z1' : X1.size = 12 := by rw [hX1, bs_size]; simp [gT]
        have hgood : goodL j (dg j :: gT) := by first | exact .inl rfl | exact .inr rfl
        have HX1 := Lib.hid hX1
        clear hX1
        obtain ⟨X2, H2, z2, a2⟩ := str_add U X1 (by omega) (by omega)
        go_upto_region 11 with (fail)
        go_region
        generalize hW : (wb.alloc _).drew = wc
        have Fc : Fr none wb wc := hW ▸ ((Fr.refl none wb).alloc _).drew
        have Sc := Sb.fr Fc
        have F0c := F0b.pure Fc
        clear hW R11 l11 m11
        by_cases hjk : j = k
        · subst hjk
          obtain ⟨X4, H4, z4, a4⟩ := str_add (bs [dg j]) ⟨#[58, 32, 49, 32, 111, 102, 32, 40, 48, 10]⟩ (by rw [bs_size]; simp) (by decide)
          obtain ⟨X5, H5, z5, a5⟩ := str_add (bs [dg j]) ⟨#[58, 32, 48, 32, 111, 102, 32, 40, 48, 41, 10]⟩ (by rw [bs_size]; simp) (by decide)
          have hw64 : IntKind.i64.wrap (48 + (j : Int)) = 48 + (j : Int) := by rw [IntKind.wrap_i64]; omega
          have hw8 : IntKind.u8.wrap (48 + (j : Int)) = 48 + (j : Int) := by rw [IntKind.wrap_u8]; omega
          go_upto_region 14 with (fail)
          go_cut [12] (fun s12 wq => ∃ (x : List UInt8) (Z : ByteArray), s12 = .string Z ∧ Hid (badL j x ∧ Z = bs (x ++ [10])) ∧ Fr (some g) wc wq ∧ SrcR 84 wq g)
          case first =>
            -- LINES BEGIN
            have HP : Hid (∀ a < 5, ∃ (Z : ByteArray) (x : List UInt8), (#[.string ⟨#[120, 10]⟩, .string ⟨#[10]⟩, .string ⟨#[48, 58, 49, 32, 111, 102, 32, 40, 48, 41, 10]⟩, .string X4, .string X5] : Array Value)[a]? = some (.string Z) ∧ Hid (badL j x ∧ Z = bs (x ++ [10]))) := fun a ha => by
              rcases (show a = 0 ∨ a = 1 ∨ a = 2 ∨ a = 3 ∨ a = 4 by omega) with rfl | rfl | rfl | rfl | rfl
              · exact ⟨_, [120], rfl, .inl rfl, rfl⟩
              · exact ⟨_, [], rfl, .inr (.inl rfl), rfl⟩
              · exact ⟨_, b3L, rfl, .inr (.inr (.inl rfl)), rfl⟩
              · exact ⟨X4, dg j :: b4L, rfl, .inr (.inr (.inr (.inl rfl))), by rw [H4.out]; exact bs_app [dg j] (b4L ++ [10])⟩
              · exact ⟨X5, dg j :: b5L, rfl, .inr (.inr (.inr (.inr rfl))), by rw [H5.out]; exact bs_app [dg j] (b5L ++ [10])⟩
            have hgc : g < wc.heap.size := by have := F0c.size; omega
            refine wp_region_held_drew (S := fun W => Fr (some g) wc W ∧ SrcR 84 W g) (by kernel_rfl) ⟨(Fr.refl _ _).drew, Sc.fr (Fr.refl _ _).drew⟩ (fun hH0 => ?_)
            refine wpAnyH_take (i := 0) (v := ?_) rfl (by kernel_rfl) (by kernel_rfl) (by kernel_rfl) (fun _ _ _ h => h) (Or.inl ⟨by rfl, ?_⟩) (by assumption) ?_
            rotate_left
            · (intro W hW; (try dsimp only at hW); go_simp; try with_reducible rfl)
            try simp only [Act.put, List.setIfInBounds_toArray, List.set_cons_zero, List.set_cons_succ, List.getElem_toArray, List.getElem_cons_zero, List.getElem_cons_succ]
            refine wpAnyH_take (i := 1) (v := ?_) rfl (by kernel_rfl) (by kernel_rfl) (by kernel_rfl) (fun _ _ _ h => h) (Or.inl ⟨by rfl, ?_⟩) (by assumption) ?_
            rotate_left
            · (intro W hW; (try dsimp only at hW); go_simp; try with_reducible rfl)
            try simp only [Act.put, List.setIfInBounds_toArray, List.set_cons_zero, List.set_cons_succ, List.getElem_toArray, List.getElem_cons_zero, List.getElem_cons_succ]
            refine wpAnyH_take (i := 2) (v := ?_) rfl (by kernel_rfl) (by kernel_rfl) (by kernel_rfl) (fun _ _ _ h => h) (Or.inl ⟨by rfl, ?_⟩) (by assumption) ?_
            rotate_left
            · (intro W hW; (try dsimp only at hW); go_simp; try with_reducible rfl)
            try simp only [Act.put, List.setIfInBounds_toArray, List.set_cons_zero, List.set_cons_succ, List.getElem_toArray, List.getElem_cons_zero, List.getElem_cons_succ]
            refine wpAnyH_take (i := 6) (v := ?_) rfl (by kernel_rfl) (by kernel_rfl) (by kernel_rfl) (fun _ _ _ h => h) (Or.inl ⟨by rfl, ?_⟩) (by assumption) ?_
            rotate_left
            · (intro W hW; (try dsimp only at hW); go_simp; try with_reducible rfl)
            try simp only [Act.put, List.setIfInBounds_toArray, List.set_cons_zero, List.set_cons_succ, List.getElem_toArray, List.getElem_cons_zero, List.getElem_cons_succ]
            refine wpAnyH_take (i := 7) (v := ?_) rfl (by kernel_rfl) (by kernel_rfl) (by kernel_rfl) (fun _ _ _ h => h) (Or.inl ⟨by rfl, ?_⟩) (by assumption) ?_
            rotate_left
            · (intro W hW; (try dsimp only at hW); go_simp; try with_reducible rfl)
            try simp only [Act.put, List.setIfInBounds_toArray, List.set_cons_zero, List.set_cons_succ, List.getElem_toArray, List.getElem_cons_zero, List.getElem_cons_succ]
            refine wpAnyH_take (i := 8) (v := ?_) rfl (by kernel_rfl) (by kernel_rfl) (by kernel_rfl) (fun _ _ _ h => h) (Or.inl ⟨by rfl, ?_⟩) (by assumption) ?_
            rotate_left
            · (intro W hW; (try dsimp only at hW); go_simp; try with_reducible rfl)
            try simp only [Act.put, List.setIfInBounds_toArray, List.set_cons_zero, List.set_cons_succ, List.getElem_toArray, List.getElem_cons_zero, List.getElem_cons_succ]
            refine wpAnyH_take (i := 13) (v := ?_) rfl (by kernel_rfl) (by kernel_rfl) (by kernel_rfl) (fun _ _ _ h => h) (Or.inl ⟨by rfl, ?_⟩) (by assumption) ?_
            rotate_left
            · (intro W hW; (try dsimp only at hW); go_simp; try with_reducible rfl)
            try simp only [Act.put, List.setIfInBounds_toArray, List.set_cons_zero, List.set_cons_succ, List.getElem_toArray, List.getElem_cons_zero, List.getElem_cons_succ]
            have hF0 := hH0.1
            have hS0 := hH0.2
            generalize hw0 : World.drew wc = v0 at hF0 hS0 hH0 ⊢
            clear hw0
            refine wpAnyH_ready (rs := [3, 9, 14]) (by kernel_rfl) (by simp) ?_
            refine AllReadyH.cons rfl (fun KA hK => ?_) (AllReadyH.cons rfl (fun KA hK => ?_) (AllReadyH.cons rfl (fun KA hK => ?_) (AllReadyH.nil)))
            · simp only [List.getElem_toArray, List.getElem_cons_zero, List.getElem_cons_succ]
              go_simp
              generalize hW : World.alloc v0 _ = v1
              have FN : Fr none v0 v1 := hW ▸ (Fr.refl none v0).alloc _
              have h3_1 : v1.heap[v0.heap.size]? = some (.cells #[.int .u8 (48 + (j : Int))] 5 (0, 0)) := by rw [← hW]; exact blk_new _ _
              clear hW
              have n3 : g ≠ v0.heap.size := by have := hF0.size; omega
              have hS1 := hS0.fr FN
              have hF1 := hF0.pure FN
              refine hK.out _ _ ⟨hF1, hS1⟩ (fun hH1 => ?_)
              clear hK KA hH0 hF0 hS0 FN
              refine wpAnyH_str (S' := fun W => Fr (some g) wc W ∧ SrcR 84 W g ∧ W.cell? ⟨v0.heap.size, 0, none⟩ = some (.int .u8 (48 + (j : Int)))) (fun W h => ⟨h.1, h.2.1⟩) _ _ _ _ ?_
              have hH0 : Fr (some g) wc v1 ∧ SrcR 84 v1 g ∧ v1.cell? ⟨v0.heap.size, 0, none⟩ = some (.int .u8 (48 + (j : Int))) := ⟨hF1, hS1, blk_cell h3_1 0⟩
              clear hH1
              try simp only [Act.put, List.setIfInBounds_toArray, List.set_cons_zero, List.set_cons_succ, List.getElem_toArray, List.getElem_cons_zero, List.getElem_cons_succ]
              refine wpAnyH_take (i := 4) (v := ?_) rfl (by kernel_rfl) (by kernel_rfl) (by kernel_rfl) (fun _ _ _ h => h) (Or.inl ⟨by rfl, ?_⟩) (by assumption) ?_
              rotate_left
              · (intro W hW; (try dsimp only at hW); go_simp; try with_reducible rfl)
              try simp only [Act.put, List.setIfInBounds_toArray, List.set_cons_zero, List.set_cons_succ, List.getElem_toArray, List.getElem_cons_zero, List.getElem_cons_succ]
              refine wpAnyH_take (i := 5) (v := ?_) rfl (by kernel_rfl) (by kernel_rfl) (by kernel_rfl) (fun _ _ _ h => h) (Or.inl ⟨by rfl, ?_⟩) (by assumption) ?_
              rotate_left
              · (intro W hW; (try dsimp only at hW); go_simp; try with_reducible rfl)
              try simp only [Act.put, List.setIfInBounds_toArray, List.set_cons_zero, List.set_cons_succ, List.getElem_toArray, List.getElem_cons_zero, List.getElem_cons_succ]
              refine wpAnyH_ready (rs := [9, 14]) (by kernel_rfl) (by simp) ?_
              refine AllReadyH.cons rfl (fun KA hK => ?_) (AllReadyH.cons rfl (fun KA hK => ?_) (AllReadyH.nil))
              · simp only [List.getElem_toArray, List.getElem_cons_zero, List.getElem_cons_succ]
                go_simp
                generalize hW : World.alloc v1 _ = v2
                have FN : Fr none v1 v2 := hW ▸ (Fr.refl none v1).alloc _
                have h9_2 : v2.heap[v1.heap.size]? = some (.cells #[.int .u8 (48 + (j : Int))] 5 (0, 0)) := by rw [← hW]; exact blk_new _ _
                clear hW
                have n9 : g ≠ v1.heap.size := by have := hF1.size; omega
                have hS2 := hS1.fr FN
                have hF2 := hF1.pure FN
                have h3_2 := blk_fr h3_1 FN (by simp)
                refine hK.out _ _ ⟨hF2, hS2, blk_cell h3_2 0⟩ (fun hH1 => ?_)
                clear hK KA hH0 hF1 hS1 FN h3_1
                refine wpAnyH_str (S' := fun W => Fr (some g) wc W ∧ SrcR 84 W g ∧ W.cell? ⟨v0.heap.size, 0, none⟩ = some (.int .u8 (48 + (j : Int))) ∧ W.cell? ⟨v1.heap.size, 0, none⟩ = some (.int .u8 (48 + (j : Int)))) (fun W h => ⟨h.1, h.2.1, h.2.2.1⟩) _ _ _ _ ?_
                have hH0 : Fr (some g) wc v2 ∧ SrcR 84 v2 g ∧ v2.cell? ⟨v0.heap.size, 0, none⟩ = some (.int .u8 (48 + (j : Int))) ∧ v2.cell? ⟨v1.heap.size, 0, none⟩ = some (.int .u8 (48 + (j : Int))) := ⟨hF2, hS2, blk_cell h3_2 0, blk_cell h9_2 0⟩
                clear hH1
                try simp only [Act.put, List.setIfInBounds_toArray, List.set_cons_zero, List.set_cons_succ, List.getElem_toArray, List.getElem_cons_zero, List.getElem_cons_succ]
                refine wpAnyH_take (i := 10) (v := ?_) rfl (by kernel_rfl) (by kernel_rfl) (by kernel_rfl) (fun _ _ _ h => h) (Or.inl ⟨by rfl, ?_⟩) (by assumption) ?_
                rotate_left
                · (intro W hW; (try dsimp only at hW); go_simp; try with_reducible rfl)
                try simp only [Act.put, List.setIfInBounds_toArray, List.set_cons_zero, List.set_cons_succ, List.getElem_toArray, List.getElem_cons_zero, List.getElem_cons_succ]
                refine wpAnyH_take (i := 11) (v := ?_) rfl (by kernel_rfl) (by kernel_rfl) (by kernel_rfl) (fun _ _ _ h => h) (Or.inl ⟨by rfl, ?_⟩) (by assumption) ?_
                rotate_left
                · (intro W hW; (try dsimp only at hW); go_simp; try with_reducible rfl)
                try simp only [Act.put, List.setIfInBounds_toArray, List.set_cons_zero, List.set_cons_succ, List.getElem_toArray, List.getElem_cons_zero, List.getElem_cons_succ]
                refine wpAnyH_ready (rs := [12, 14]) (by kernel_rfl) (by simp) ?_
                refine AllReadyH.cons rfl (fun KA hK => ?_) (AllReadyH.cons rfl (fun KA hK => ?_) (AllReadyH.nil))
                · simp only [List.getElem_toArray, List.getElem_cons_zero, List.getElem_cons_succ]
                  go_simp
                  generalize hW : World.alloc v2 _ = v3
                  have FN : Fr none v2 v3 := hW ▸ (Fr.refl none v2).alloc _
                  have h12_3 : v3.heap[v2.heap.size]? = some (.cells #[.string ⟨#[120, 10]⟩, .string ⟨#[10]⟩, .string ⟨#[48, 58, 49, 32, 111, 102, 32, 40, 48, 41, 10]⟩, .string X4, .string X5] 9 (0, 0)) := by rw [← hW]; exact blk_new _ _
                  clear hW
                  have n12 : g ≠ v2.heap.size := by have := hF2.size; omega
                  have hS3 := hS2.fr FN
                  have hF3 := hF2.pure FN
                  have h3_3 := blk_fr h3_2 FN (by simp)
                  have h9_3 := blk_fr h9_2 FN (by simp)
                  refine hK.out _ _ ⟨hF3, hS3, blk_cell h3_3 0, blk_cell h9_3 0⟩ (fun hH1 => ?_)
                  clear hK KA hH0 hF2 hS2 FN h3_2 h9_2
                  have hH0 := hH1
                  clear hH1
                  try simp only [Act.put, List.setIfInBounds_toArray, List.set_cons_zero, List.set_cons_succ, List.getElem_toArray, List.getElem_cons_zero, List.getElem_cons_succ]
                  refine wpAnyH_ready (rs := [14]) (by kernel_rfl) (by simp) ?_
                  refine AllReadyH.cons rfl (fun KA hK => ?_) (AllReadyH.nil)
                  · simp only [List.getElem_toArray, List.getElem_cons_zero, List.getElem_cons_succ]
                    go_simp
                    go_at_call 10
                    refine (tapeN_any 5 g _ (by omega) (by omega) hS3).mono ?_
                    rintro e v4 ⟨a, rfl, a1, a2, hS4, FN⟩
                    obtain ⟨a, rfl⟩ := Int.eq_ofNat_of_zero_le a1
                    have ha : a < 5 := by omega
                    have hai : (a : Int) < 5 := by omega
                    have hai0 : (0 : Int) ≤ (a : Int) := by omega
                    obtain ⟨Z, x, hz, hbad⟩ := HP.out a ha
                    have hF4 := hF3.same FN
                    have h3_4 := blk_fr h3_3 FN (by simp; omega)
                    have h9_4 := blk_fr h9_3 FN (by simp; omega)
                    have h12_4 := blk_fr h12_3 FN (by simp; omega)
                    refine hK.out _ _ ⟨hF4, hS4, blk_cell h3_4 0, blk_cell h9_4 0⟩ (fun hH1 => ?_)
                    clear hK KA hH0 hF3 hS3 FN h3_3 h9_3 h12_3
                    have hH0 := hH1
                    clear hH1
                    try simp only [Act.put, List.setIfInBounds_toArray, List.set_cons_zero, List.set_cons_succ, List.getElem_toArray, List.getElem_cons_zero, List.getElem_cons_succ]
                    refine wpAnyH_str (S' := fun W => Fr (some g) wc W ∧ SrcR 84 W g ∧ W.cell? ⟨v0.heap.size, 0, none⟩ = some (.int .u8 (48 + (j : Int))) ∧ W.cell? ⟨v1.heap.size, 0, none⟩ = some (.int .u8 (48 + (j : Int))) ∧ W.cell? ⟨v2.heap.size, a, none⟩ = some (.string Z)) (fun W h => ⟨h.1, h.2.1, h.2.2.1, h.2.2.2.1⟩) _ _ _ _ ?_
                    have hH0 : Fr (some g) wc v4 ∧ SrcR 84 v4 g ∧ v4.cell? ⟨v0.heap.size, 0, none⟩ = some (.int .u8 (48 + (j : Int))) ∧ v4.cell? ⟨v1.heap.size, 0, none⟩ = some (.int .u8 (48 + (j : Int))) ∧ v4.cell? ⟨v2.heap.size, a, none⟩ = some (.string Z) := ⟨hF4, hS4, blk_cell h3_4 0, blk_cell h9_4 0, (blk_cell h12_4 a).trans hz⟩
                    refine wpAnyH_take (i := 15) (v := ?_) rfl (by kernel_rfl) (by kernel_rfl) (by kernel_rfl) (fun _ _ _ h => h) (Or.inl ⟨by rfl, ?_⟩) (by assumption) ?_
                    rotate_left
                    · (intro W hW; (try dsimp only at hW); go_simp; try with_reducible rfl)
                    try simp only [Act.put, List.setIfInBounds_toArray, List.set_cons_zero, List.set_cons_succ, List.getElem_toArray, List.getElem_cons_zero, List.getElem_cons_succ]
                    refine wpAnyH_take (i := 16) (v := ?_) rfl (by kernel_rfl) (by kernel_rfl) (by kernel_rfl) (fun _ _ _ h => h) (Or.inl ⟨by rfl, ?_⟩) (by assumption) ?_
                    rotate_left
                    · (intro W hW; (try dsimp only at hW); go_simp; try with_reducible rfl)
                    try simp only [Act.put, List.setIfInBounds_toArray, List.set_cons_zero, List.set_cons_succ, List.getElem_toArray, List.getElem_cons_zero, List.getElem_cons_succ]
                    refine wpAnyH_take (i := 17) (v := ?_) rfl (by kernel_rfl) (by kernel_rfl) (by kernel_rfl) (fun _ _ _ h => h) (Or.inl ⟨by rfl, ?_⟩) (by assumption) ?_
                    rotate_left
                    · (intro W hW; (try dsimp only at hW); go_simp; try with_reducible rfl)
                    try simp only [Act.put, List.setIfInBounds_toArray, List.set_cons_zero, List.set_cons_succ, List.getElem_toArray, List.getElem_cons_zero, List.getElem_cons_succ]
                    refine wpAnyH_done (by kernel_rfl) ?_ _
                    go_wp2_with fail
                    go_meet
                    exact ⟨x, Z, rfl, hbad, hF4, hS4⟩
                · simp only [List.getElem_toArray, List.getElem_cons_zero, List.getElem_cons_succ]
                  go_simp
                  go_at_call 10
                  refine (tapeN_any 5 g _ (by omega) (by omega) hS2).mono ?_
                  rintro e v3 ⟨a, rfl, a1, a2, hS3, FN⟩
                  obtain ⟨a, rfl⟩ := Int.eq_ofNat_of_zero_le a1
                  have ha : a < 5 := by omega
                  have hai : (a : Int) < 5 := by omega
                  have hai0 : (0 : Int) ≤ (a : Int) := by omega
                  obtain ⟨Z, x, hz, hbad⟩ := HP.out a ha
                  have hF3 := hF2.same FN
                  have h3_3 := blk_fr h3_2 FN (by simp; omega)
                  have h9_3 := blk_fr h9_2 FN (by simp; omega)
                  refine hK.out _ _ ⟨hF3, hS3, blk_cell h3_3 0, blk_cell h9_3 0⟩ (fun hH1 => ?_)
                  clear hK KA hH0 hF2 hS2 FN h3_2 h9_2
                  have hH0 := hH1
                  clear hH1
                  try simp only [Act.put, List.setIfInBounds_toArray, List.set_cons_zero, List.set_cons_succ, List.getElem_toArray, List.getElem_cons_zero, List.getElem_cons_succ]
                  refine wpAnyH_ready (rs := [12]) (by kernel_rfl) (by simp) ?_
                  refine AllReadyH.cons rfl (fun KA hK => ?_) (AllReadyH.nil)
                  · simp only [List.getElem_toArray, List.getElem_cons_zero, List.getElem_cons_succ]
                    go_simp
                    generalize hW : World.alloc v3 _ = v4
                    have FN : Fr none v3 v4 := hW ▸ (Fr.refl none v3).alloc _
                    have h12_4 : v4.heap[v3.heap.size]? = some (.cells #[.string ⟨#[120, 10]⟩, .string ⟨#[10]⟩, .string ⟨#[48, 58, 49, 32, 111, 102, 32, 40, 48, 41, 10]⟩, .string X4, .string X5] 9 (0, 0)) := by rw [← hW]; exact blk_new _ _
                    clear hW
                    have n12 : g ≠ v3.heap.size := by have := hF3.size; omega
                    have hS4 := hS3.fr FN
                    have hF4 := hF3.pure FN
                    have h3_4 := blk_fr h3_3 FN (by simp)
                    have h9_4 := blk_fr h9_3 FN (by simp)
                    refine hK.out _ _ ⟨hF4, hS4, blk_cell h3_4 0, blk_cell h9_4 0⟩ (fun hH1 => ?_)
                    clear hK KA hH0 hF3 hS3 FN h3_3 h9_3
                    have hH0 := hH1
                    clear hH1
                    try simp only [Act.put, List.setIfInBounds_toArray, List.set_cons_zero, List.set_cons_succ, List.getElem_toArray, List.getElem_cons_zero, List.getElem_cons_succ]
                    refine wpAnyH_str (S' := fun W => Fr (some g) wc W ∧ SrcR 84 W g ∧ W.cell? ⟨v0.heap.size, 0, none⟩ = some (.int .u8 (48 + (j : Int))) ∧ W.cell? ⟨v1.heap.size, 0, none⟩ = some (.int .u8 (48 + (j : Int))) ∧ W.cell? ⟨v3.heap.size, a, none⟩ = some (.string Z)) (fun W h => ⟨h.1, h.2.1, h.2.2.1, h.2.2.2.1⟩) _ _ _ _ ?_
                    have hH0 : Fr (some g) wc v4 ∧ SrcR 84 v4 g ∧ v4.cell? ⟨v0.heap.size, 0, none⟩ = some (.int .u8 (48 + (j : Int))) ∧ v4.cell? ⟨v1.heap.size, 0, none⟩ = some (.int .u8 (48 + (j : Int))) ∧ v4.cell? ⟨v3.heap.size, a, none⟩ = some (.string Z) := ⟨hF4, hS4, blk_cell h3_4 0, blk_cell h9_4 0, (blk_cell h12_4 a).trans hz⟩
                    refine wpAnyH_take (i := 15) (v := ?_) rfl (by kernel_rfl) (by kernel_rfl) (by kernel_rfl) (fun _ _ _ h => h) (Or.inl ⟨by rfl, ?_⟩) (by assumption) ?_
                    rotate_left
                    · (intro W hW; (try dsimp only at hW); go_simp; try with_reducible rfl)
                    try simp only [Act.put, List.setIfInBounds_toArray, List.set_cons_zero, List.set_cons_succ, List.getElem_toArray, List.getElem_cons_zero, List.getElem_cons_succ]
                    refine wpAnyH_take (i := 16) (v := ?_) rfl (by kernel_rfl) (by kernel_rfl) (by kernel_rfl) (fun _ _ _ h => h) (Or.inl ⟨by rfl, ?_⟩) (by assumption) ?_
                    rotate_left
                    · (intro W hW; (try dsimp only at hW); go_simp; try with_reducible rfl)
                    try simp only [Act.put, List.setIfInBounds_toArray, List.set_cons_zero, List.set_cons_succ, List.getElem_toArray, List.getElem_cons_zero, List.getElem_cons_succ]
                    refine wpAnyH_take (i := 17) (v := ?_) rfl (by kernel_rfl) (by kernel_rfl) (by kernel_rfl) (fun _ _ _ h => h) (Or.inl ⟨by rfl, ?_⟩) (by assumption) ?_
                    rotate_left
                    · (intro W hW; (try dsimp only at hW); go_simp; try with_reducible rfl)
                    try simp only [Act.put, List.setIfInBounds_toArray, List.set_cons_zero, List.set_cons_succ, List.getElem_toArray, List.getElem_cons_zero, List.getElem_cons_succ]
                    refine wpAnyH_done (by kernel_rfl) ?_ _
                    go_wp2_with fail
                    go_meet
                    exact ⟨x, Z, rfl, hbad, hF4, hS4⟩
              · simp only [List.getElem_toArray, List.getElem_cons_zero, List.getElem_cons_succ]
                go_simp
                go_at_call 10
                refine (tapeN_any 5 g _ (by omega) (by omega) hS1).mono ?_
                rintro e v2 ⟨a, rfl, a1, a2, hS2, FN⟩
                obtain ⟨a, rfl⟩ := Int.eq_ofNat_of_zero_le a1
                have ha : a < 5 := by omega
                have hai : (a : Int) < 5 := by omega
                have hai0 : (0 : Int) ≤ (a : Int) := by omega
                obtain ⟨Z, x, hz, hbad⟩ := HP.out a ha
                have hF2 := hF1.same FN
                have h3_2 := blk_fr h3_1 FN (by simp; omega)
                refine hK.out _ _ ⟨hF2, hS2, blk_cell h3_2 0⟩ (fun hH1 => ?_)
                clear hK KA hH0 hF1 hS1 FN h3_1
                have hH0 := hH1
                clear hH1
                try simp only [Act.put, List.setIfInBounds_toArray, List.set_cons_zero, List.set_cons_succ, List.getElem_toArray, List.getElem_cons_zero, List.getElem_cons_succ]
                refine wpAnyH_ready (rs := [9]) (by kernel_rfl) (by simp) ?_
                refine AllReadyH.cons rfl (fun KA hK => ?_) (AllReadyH.nil)
                · simp only [List.getElem_toArray, List.getElem_cons_zero, List.getElem_cons_succ]
                  go_simp
                  generalize hW : World.alloc v2 _ = v3
                  have FN : Fr none v2 v3 := hW ▸ (Fr.refl none v2).alloc _
                  have h9_3 : v3.heap[v2.heap.size]? = some (.cells #[.int .u8 (48 + (j : Int))] 5 (0, 0)) := by rw [← hW]; exact blk_new _ _
                  clear hW
                  have n9 : g ≠ v2.heap.size := by have := hF2.size; omega
                  have hS3 := hS2.fr FN
                  have hF3 := hF2.pure FN
                  have h3_3 := blk_fr h3_2 FN (by simp)
                  refine hK.out _ _ ⟨hF3, hS3, blk_cell h3_3 0⟩ (fun hH1 => ?_)
                  clear hK KA hH0 hF2 hS2 FN h3_2
                  refine wpAnyH_str (S' := fun W => Fr (some g) wc W ∧ SrcR 84 W g ∧ W.cell? ⟨v0.heap.size, 0, none⟩ = some (.int .u8 (48 + (j : Int))) ∧ W.cell? ⟨v2.heap.size, 0, none⟩ = some (.int .u8 (48 + (j : Int)))) (fun W h => ⟨h.1, h.2.1, h.2.2.1⟩) _ _ _ _ ?_
                  have hH0 : Fr (some g) wc v3 ∧ SrcR 84 v3 g ∧ v3.cell? ⟨v0.heap.size, 0, none⟩ = some (.int .u8 (48 + (j : Int))) ∧ v3.cell? ⟨v2.heap.size, 0, none⟩ = some (.int .u8 (48 + (j : Int))) := ⟨hF3, hS3, blk_cell h3_3 0, blk_cell h9_3 0⟩
                  clear hH1
                  try simp only [Act.put, List.setIfInBounds_toArray, List.set_cons_zero, List.set_cons_succ, List.getElem_toArray, List.getElem_cons_zero, List.getElem_cons_succ]
                  refine wpAnyH_take (i := 10) (v := ?_) rfl (by kernel_rfl) (by kernel_rfl) (by kernel_rfl) (fun _ _ _ h => h) (Or.inl ⟨by rfl, ?_⟩) (by assumption) ?_
                  rotate_left
                  · (intro W hW; (try dsimp only at hW); go_simp; try with_reducible rfl)
                  try simp only [Act.put, List.setIfInBounds_toArray, List.set_cons_zero, List.set_cons_succ, List.getElem_toArray, List.getElem_cons_zero, List.getElem_cons_succ]
                  refine wpAnyH_take (i := 11) (v := ?_) rfl (by kernel_rfl) (by kernel_rfl) (by kernel_rfl) (fun _ _ _ h => h) (Or.inl ⟨by rfl, ?_⟩) (by assumption) ?_
                  rotate_left
                  · (intro W hW; (try dsimp only at hW); go_simp; try with_reducible rfl)
                  try simp only [Act.put, List.setIfInBounds_toArray, List.set_cons_zero, List.set_cons_succ, List.getElem_toArray, List.getElem_cons_zero, List.getElem_cons_succ]
                  refine wpAnyH_ready (rs := [12]) (by kernel_rfl) (by simp) ?_
                  refine AllReadyH.cons rfl (fun KA hK => ?_) (AllReadyH.nil)
                  · simp only [List.getElem_toArray, List.getElem_cons_zero, List.getElem_cons_succ]
                    go_simp
                    generalize hW : World.alloc v3 _ = v4
                    have FN : Fr none v3 v4 := hW ▸ (Fr.refl none v3).alloc _
                    have h12_4 : v4.heap[v3.heap.size]? = some (.cells #[.string ⟨#[120, 10]⟩, .string ⟨#[10]⟩, .string ⟨#[48, 58, 49, 32, 111, 102, 32, 40, 48, 41, 10]⟩, .string X4, .string X5] 9 (0, 0)) := by rw [← hW]; exact blk_new _ _
                    clear hW
                    have n12 : g ≠ v3.heap.size := by have := hF3.size; omega
                    have hS4 := hS3.fr FN
                    have hF4 := hF3.pure FN
                    have h3_4 := blk_fr h3_3 FN (by simp)
                    have h9_4 := blk_fr h9_3 FN (by simp)
                    refine hK.out _ _ ⟨hF4, hS4, blk_cell h3_4 0, blk_cell h9_4 0⟩ (fun hH1 => ?_)
                    clear hK KA hH0 hF3 hS3 FN h3_3 h9_3
                    have hH0 := hH1
                    clear hH1
                    try simp only [Act.put, List.setIfInBounds_toArray, List.set_cons_zero, List.set_cons_succ, List.getElem_toArray, List.getElem_cons_zero, List.getElem_cons_succ]
                    refine wpAnyH_str (S' := fun W => Fr (some g) wc W ∧ SrcR 84 W g ∧ W.cell? ⟨v0.heap.size, 0, none⟩ = some (.int .u8 (48 + (j : Int))) ∧ W.cell? ⟨v2.heap.size, 0, none⟩ = some (.int .u8 (48 + (j : Int))) ∧ W.cell? ⟨v3.heap.size, a, none⟩ = some (.string Z)) (fun W h => ⟨h.1, h.2.1, h.2.2.1, h.2.2.2.1⟩) _ _ _ _ ?_
                    have hH0 : Fr (some g) wc v4 ∧ SrcR 84 v4 g ∧ v4.cell? ⟨v0.heap.size, 0, none⟩ = some (.int .u8 (48 + (j : Int))) ∧ v4.cell? ⟨v2.heap.size, 0, none⟩ = some (.int .u8 (48 + (j : Int))) ∧ v4.cell? ⟨v3.heap.size, a, none⟩ = some (.string Z) := ⟨hF4, hS4, blk_cell h3_4 0, blk_cell h9_4 0, (blk_cell h12_4 a).trans hz⟩
                    refine wpAnyH_take (i := 15) (v := ?_) rfl (by kernel_rfl) (by kernel_rfl) (by kernel_rfl) (fun _ _ _ h => h) (Or.inl ⟨by rfl, ?_⟩) (by assumption) ?_
                    rotate_left
                    · (intro W hW; (try dsimp only at hW); go_simp; try with_reducible rfl)
                    try simp only [Act.put, List.setIfInBounds_toArray, List.set_cons_zero, List.set_cons_succ, List.getElem_toArray, List.getElem_cons_zero, List.getElem_cons_succ]
                    refine wpAnyH_take (i := 16) (v := ?_) rfl (by kernel_rfl) (by kernel_rfl) (by kernel_rfl) (fun _ _ _ h => h) (Or.inl ⟨by rfl, ?_⟩) (by assumption) ?_
                    rotate_left
                    · (intro W hW; (try dsimp only at hW); go_simp; try with_reducible rfl)
                    try simp only [Act.put, List.setIfInBounds_toArray, List.set_cons_zero, List.set_cons_succ, List.getElem_toArray, List.getElem_cons_zero, List.getElem_cons_succ]
                    refine wpAnyH_take (i := 17) (v := ?_) rfl (by kernel_rfl) (by kernel_rfl) (by kernel_rfl) (fun _ _ _ h => h) (Or.inl ⟨by rfl, ?_⟩) (by assumption) ?_
                    rotate_left
                    · (intro W hW; (try dsimp only at hW); go_simp; try with_reducible rfl)
                    try simp only [Act.put, List.setIfInBounds_toArray, List.set_cons_zero, List.set_cons_succ, List.getElem_toArray, List.getElem_cons_zero, List.getElem_cons_succ]
                    refine wpAnyH_done (by kernel_rfl) ?_ _
                    go_wp2_with fail
                    go_meet
                    exact ⟨x, Z, rfl, hbad, hF4, hS4⟩
            · simp only [List.getElem_toArray, List.getElem_cons_zero, List.getElem_cons_succ]
              go_simp
              generalize hW : World.alloc v0 _ = v1
              have FN : Fr none v0 v1 := hW ▸ (Fr.refl none v0).alloc _
              have h9_1 : v1.heap[v0.heap.size]? = some (.cells #[.int .u8 (48 + (j : Int))] 5 (0, 0)) := by rw [← hW]; exact blk_new _ _
              clear hW
              have n9 : g ≠ v0.heap.size := by have := hF0.size; omega
              have hS1 := hS0.fr FN
              have hF1 := hF0.pure FN
              refine hK.out _ _ ⟨hF1, hS1⟩ (fun hH1 => ?_)
              clear hK KA hH0 hF0 hS0 FN
              refine wpAnyH_str (S' := fun W => Fr (some g) wc W ∧ SrcR 84 W g ∧ W.cell? ⟨v0.heap.size, 0, none⟩ = some (.int .u8 (48 + (j : Int)))) (fun W h => ⟨h.1, h.2.1⟩) _ _ _ _ ?_
              have hH0 : Fr (some g) wc v1 ∧ SrcR 84 v1 g ∧ v1.cell? ⟨v0.heap.size, 0, none⟩ = some (.int .u8 (48 + (j : Int))) := ⟨hF1, hS1, blk_cell h9_1 0⟩
              clear hH1
              try simp only [Act.put, List.setIfInBounds_toArray, List.set_cons_zero, List.set_cons_succ, List.getElem_toArray, List.getElem_cons_zero, List.getElem_cons_succ]
              refine wpAnyH_take (i := 10) (v := ?_) rfl (by kernel_rfl) (by kernel_rfl) (by kernel_rfl) (fun _ _ _ h => h) (Or.inl ⟨by rfl, ?_⟩) (by assumption) ?_
              rotate_left
              · (intro W hW; (try dsimp only at hW); go_simp; try with_reducible rfl)
              try simp only [Act.put, List.setIfInBounds_toArray, List.set_cons_zero, List.set_cons_succ, List.getElem_toArray, List.getElem_cons_zero, List.getElem_cons_succ]
              refine wpAnyH_take (i := 11) (v := ?_) rfl (by kernel_rfl) (by kernel_rfl) (by kernel_rfl) (fun _ _ _ h => h) (Or.inl ⟨by rfl, ?_⟩) (by assumption) ?_
              rotate_left
              · (intro W hW; (try dsimp only at hW); go_simp; try with_reducible rfl)
              try simp only [Act.put, List.setIfInBounds_toArray, List.set_cons_zero, List.set_cons_succ, List.getElem_toArray, List.getElem_cons_zero, List.getElem_cons_succ]
              refine wpAnyH_ready (rs := [3, 14]) (by kernel_rfl) (by simp) ?_
              refine AllReadyH.cons rfl (fun KA hK => ?_) (AllReadyH.cons rfl (fun KA hK => ?_) (AllReadyH.nil))
              · simp only [List.getElem_toArray, List.getElem_cons_zero, List.getElem_cons_succ]
                go_simp
                generalize hW : World.alloc v1 _ = v2
                have FN : Fr none v1 v2 := hW ▸ (Fr.refl none v1).alloc _
                have h3_2 : v2.heap[v1.heap.size]? = some (.cells #[.int .u8 (48 + (j : Int))] 5 (0, 0)) := by rw [← hW]; exact blk_new _ _
                clear hW
                have n3 : g ≠ v1.heap.size := by have := hF1.size; omega
                have hS2 := hS1.fr FN
                have hF2 := hF1.pure FN
                have h9_2 := blk_fr h9_1 FN (by simp)
                refine hK.out _ _ ⟨hF2, hS2, blk_cell h9_2 0⟩ (fun hH1 => ?_)
                clear hK KA hH0 hF1 hS1 FN h9_1
                refine wpAnyH_str (S' := fun W => Fr (some g) wc W ∧ SrcR 84 W g ∧ W.cell? ⟨v0.heap.size, 0, none⟩ = some (.int .u8 (48 + (j : Int))) ∧ W.cell? ⟨v1.heap.size, 0, none⟩ = some (.int .u8 (48 + (j : Int)))) (fun W h => ⟨h.1, h.2.1, h.2.2.1⟩) _ _ _ _ ?_
                have hH0 : Fr (some g) wc v2 ∧ SrcR 84 v2 g ∧ v2.cell? ⟨v0.heap.size, 0, none⟩ = some (.int .u8 (48 + (j : Int))) ∧ v2.cell? ⟨v1.heap.size, 0, none⟩ = some (.int .u8 (48 + (j : Int))) := ⟨hF2, hS2, blk_cell h9_2 0, blk_cell h3_2 0⟩
                clear hH1
                try simp only [Act.put, List.setIfInBounds_toArray, List.set_cons_zero, List.set_cons_succ, List.getElem_toArray, List.getElem_cons_zero, List.getElem_cons_succ]
                refine wpAnyH_take (i := 4) (v := ?_) rfl (by kernel_rfl) (by kernel_rfl) (by kernel_rfl) (fun _ _ _ h => h) (Or.inl ⟨by rfl, ?_⟩) (by assumption) ?_
                rotate_left
                · (intro W hW; (try dsimp only at hW); go_simp; try with_reducible rfl)
                try simp only [Act.put, List.setIfInBounds_toArray, List.set_cons_zero, List.set_cons_succ, List.getElem_toArray, List.getElem_cons_zero, List.getElem_cons_succ]
                refine wpAnyH_take (i := 5) (v := ?_) rfl (by kernel_rfl) (by kernel_rfl) (by kernel_rfl) (fun _ _ _ h => h) (Or.inl ⟨by rfl, ?_⟩) (by assumption) ?_
                rotate_left
                · (intro W hW; (try dsimp only at hW); go_simp; try with_reducible rfl)
                try simp only [Act.put, List.setIfInBounds_toArray, List.set_cons_zero, List.set_cons_succ, List.getElem_toArray, List.getElem_cons_zero, List.getElem_cons_succ]
                refine wpAnyH_ready (rs := [12, 14]) (by kernel_rfl) (by simp) ?_
                refine AllReadyH.cons rfl (fun KA hK => ?_) (AllReadyH.cons rfl (fun KA hK => ?_) (AllReadyH.nil))
                · simp only [List.getElem_toArray, List.getElem_cons_zero, List.getElem_cons_succ]
                  go_simp
                  generalize hW : World.alloc v2 _ = v3
                  have FN : Fr none v2 v3 := hW ▸ (Fr.refl none v2).alloc _
                  have h12_3 : v3.heap[v2.heap.size]? = some (.cells #[.string ⟨#[120, 10]⟩, .string ⟨#[10]⟩, .string ⟨#[48, 58, 49, 32, 111, 102, 32, 40, 48, 41, 10]⟩, .string X4, .string X5] 9 (0, 0)) := by rw [← hW]; exact blk_new _ _
                  clear hW
                  have n12 : g ≠ v2.heap.size := by have := hF2.size; omega
                  have hS3 := hS2.fr FN
                  have hF3 := hF2.pure FN
                  have h9_3 := blk_fr h9_2 FN (by simp)
                  have h3_3 := blk_fr h3_2 FN (by simp)
                  refine hK.out _ _ ⟨hF3, hS3, blk_cell h9_3 0, blk_cell h3_3 0⟩ (fun hH1 => ?_)
                  clear hK KA hH0 hF2 hS2 FN h9_2 h3_2
                  have hH0 := hH1
                  clear hH1
                  try simp only [Act.put, List.setIfInBounds_toArray, List.set_cons_zero, List.set_cons_succ, List.getElem_toArray, List.getElem_cons_zero, List.getElem_cons_succ]
                  refine wpAnyH_ready (rs := [14]) (by kernel_rfl) (by simp) ?_
                  refine AllReadyH.cons rfl (fun KA hK => ?_) (AllReadyH.nil)
                  · simp only [List.getElem_toArray, List.getElem_cons_zero, List.getElem_cons_succ]
                    go_simp
                    go_at_call 10
                    refine (tapeN_any 5 g _ (by omega) (by omega) hS3).mono ?_
                    rintro e v4 ⟨a, rfl, a1, a2, hS4, FN⟩
                    obtain ⟨a, rfl⟩ := Int.eq_ofNat_of_zero_le a1
                    have ha : a < 5 := by omega
                    have hai : (a : Int) < 5 := by omega
                    have hai0 : (0 : Int) ≤ (a : Int) := by omega
                    obtain ⟨Z, x, hz, hbad⟩ := HP.out a ha
                    have hF4 := hF3.same FN
                    have h9_4 := blk_fr h9_3 FN (by simp; omega)
                    have h3_4 := blk_fr h3_3 FN (by simp; omega)
                    have h12_4 := blk_fr h12_3 FN (by simp; omega)
                    refine hK.out _ _ ⟨hF4, hS4, blk_cell h9_4 0, blk_cell h3_4 0⟩ (fun hH1 => ?_)
                    clear hK KA hH0 hF3 hS3 FN h9_3 h3_3 h12_3
                    have hH0 := hH1
                    clear hH1
                    try simp only [Act.put, List.setIfInBounds_toArray, List.set_cons_zero, List.set_cons_succ, List.getElem_toArray, List.getElem_cons_zero, List.getElem_cons_succ]
                    refine wpAnyH_str (S' := fun W => Fr (some g) wc W ∧ SrcR 84 W g ∧ W.cell? ⟨v0.heap.size, 0, none⟩ = some (.int .u8 (48 + (j : Int))) ∧ W.cell? ⟨v1.heap.size, 0, none⟩ = some (.int .u8 (48 + (j : Int))) ∧ W.cell? ⟨v2.heap.size, a, none⟩ = some (.string Z)) (fun W h => ⟨h.1, h.2.1, h.2.2.1, h.2.2.2.1⟩) _ _ _ _ ?_
                    have hH0 : Fr (some g) wc v4 ∧ SrcR 84 v4 g ∧ v4.cell? ⟨v0.heap.size, 0, none⟩ = some (.int .u8 (48 + (j : Int))) ∧ v4.cell? ⟨v1.heap.size, 0, none⟩ = some (.int .u8 (48 + (j : Int))) ∧ v4.cell? ⟨v2.heap.size, a, none⟩ = some (.string Z) := ⟨hF4, hS4, blk_cell h9_4 0, blk_cell h3_4 0, (blk_cell h12_4 a).trans hz⟩
                    refine wpAnyH_take (i := 15) (v := ?_) rfl (by kernel_rfl) (by kernel_rfl) (by kernel_rfl) (fun _ _ _ h => h) (Or.inl ⟨by rfl, ?_⟩) (by assumption) ?_
                    rotate_left
                    · (intro W hW; (try dsimp only at hW); go_simp; try with_reducible rfl)
                    try simp only [Act.put, List.setIfInBounds_toArray, List.set_cons_zero, List.set_cons_succ, List.getElem_toArray, List.getElem_cons_zero, List.getElem_cons_succ]
                    refine wpAnyH_take (i := 16) (v := ?_) rfl (by kernel_rfl) (by kernel_rfl) (by kernel_rfl) (fun _ _ _ h => h) (Or.inl ⟨by rfl, ?_⟩) (by assumption) ?_
                    rotate_left
                    · (intro W hW; (try dsimp only at hW); go_simp; try with_reducible rfl)
                    try simp only [Act.put, List.setIfInBounds_toArray, List.set_cons_zero, List.set_cons_succ, List.getElem_toArray, List.getElem_cons_zero, List.getElem_cons_succ]
                    refine wpAnyH_take (i := 17) (v := ?_) rfl (by kernel_rfl) (by kernel_rfl) (by kernel_rfl) (fun _ _ _ h => h) (Or.inl ⟨by rfl, ?_⟩) (by assumption) ?_
                    rotate_left
                    · (intro W hW; (try dsimp only at hW); go_simp; try with_reducible rfl)
                    try simp only [Act.put, List.setIfInBounds_toArray, List.set_cons_zero, List.set_cons_succ, List.getElem_toArray, List.getElem_cons_zero, List.getElem_cons_succ]
                    refine wpAnyH_done (by kernel_rfl) ?_ _
                    go_wp2_with fail
                    go_meet
                    exact ⟨x, Z, rfl, hbad, hF4, hS4⟩
                · simp only [List.getElem_toArray, List.getElem_cons_zero, List.getElem_cons_succ]
                  go_simp
                  go_at_call 10
                  refine (tapeN_any 5 g _ (by omega) (by omega) hS2).mono ?_
                  rintro e v3 ⟨a, rfl, a1, a2, hS3, FN⟩
                  obtain ⟨a, rfl⟩ := Int.eq_ofNat_of_zero_le a1
                  have ha : a < 5 := by omega
                  have hai : (a : Int) < 5 := by omega
                  have hai0 : (0 : Int) ≤ (a : Int) := by omega
                  obtain ⟨Z, x, hz, hbad⟩ := HP.out a ha
                  have hF3 := hF2.same FN
                  have h9_3 := blk_fr h9_2 FN (by simp; omega)
                  have h3_3 := blk_fr h3_2 FN (by simp; omega)
                  refine hK.out _ _ ⟨hF3, hS3, blk_cell h9_3 0, blk_cell h3_3 0⟩ (fun hH1 => ?_)
                  clear hK KA hH0 hF2 hS2 FN h9_2 h3_2
                  have hH0 := hH1
                  clear hH1
                  try simp only [Act.put, List.setIfInBounds_toArray, List.set_cons_zero, List.set_cons_succ, List.getElem_toArray, List.getElem_cons_zero, List.getElem_cons_succ]
                  refine wpAnyH_ready (rs := [12]) (by kernel_rfl) (by simp) ?_
                  refine AllReadyH.cons rfl (fun KA hK => ?_) (AllReadyH.nil)
                  · simp only [List.getElem_toArray, List.getElem_cons_zero, List.getElem_cons_succ]
                    go_simp
                    generalize hW : World.alloc v3 _ = v4
                    have FN : Fr none v3 v4 := hW ▸ (Fr.refl none v3).alloc _
                    have h12_4 : v4.heap[v3.heap.size]? = some (.cells #[.string ⟨#[120, 10]⟩, .string ⟨#[10]⟩, .string ⟨#[48, 58, 49, 32, 111, 102, 32, 40, 48, 41, 10]⟩, .string X4, .string X5] 9 (0, 0)) := by rw [← hW]; exact blk_new _ _
                    clear hW
                    have n12 : g ≠ v3.heap.size := by have := hF3.size; omega
                    have hS4 := hS3.fr FN
                    have hF4 := hF3.pure FN
                    have h9_4 := blk_fr h9_3 FN (by simp)
                    have h3_4 := blk_fr h3_3 FN (by simp)
                    refine hK.out _ _ ⟨hF4, hS4, blk_cell h9_4 0, blk_cell h3_4 0⟩ (fun hH1 => ?_)
                    clear hK KA hH0 hF3 hS3 FN h9_3 h3_3
                    have hH0 := hH1
                    clear hH1
                    try simp only [Act.put, List.setIfInBounds_toArray, List.set_cons_zero, List.set_cons_succ, List.getElem_toArray, List.getElem_cons_zero, List.getElem_cons_succ]
                    refine wpAnyH_str (S' := fun W => Fr (some g) wc W ∧ SrcR 84 W g ∧ W.cell? ⟨v0.heap.size, 0, none⟩ = some (.int .u8 (48 + (j : Int))) ∧ W.cell? ⟨v1.heap.size, 0, none⟩ = some (.int .u8 (48 + (j : Int))) ∧ W.cell? ⟨v3.heap.size, a, none⟩ = some (.string Z)) (fun W h => ⟨h.1, h.2.1, h.2.2.1, h.2.2.2.1⟩) _ _ _ _ ?_
                    have hH0 : Fr (some g) wc v4 ∧ SrcR 84 v4 g ∧ v4.cell? ⟨v0.heap.size, 0, none⟩ = some (.int .u8 (48 + (j : Int))) ∧ v4.cell? ⟨v1.heap.size, 0, none⟩ = some (.int .u8 (48 + (j : Int))) ∧ v4.cell? ⟨v3.heap.size, a, none⟩ = some (.string Z) := ⟨hF4, hS4, blk_cell h9_4 0, blk_cell h3_4 0, (blk_cell h12_4 a).trans hz⟩
                    refine wpAnyH_take (i := 15) (v := ?_) rfl (by kernel_rfl) (by kernel_rfl) (by kernel_rfl) (fun _ _ _ h => h) (Or.inl ⟨by rfl, ?_⟩) (by assumption) ?_
                    rotate_left
                    · (intro W hW; (try dsimp only at hW); go_simp; try with_reducible rfl)
                    try simp only [Act.put, List.setIfInBounds_toArray, List.set_cons_zero, List.set_cons_succ, List.getElem_toArray, List.getElem_cons_zero, List.getElem_cons_succ]
                    refine wpAnyH_take (i := 16) (v := ?_) rfl (by kernel_rfl) (by kernel_rfl) (by kernel_rfl) (fun _ _ _ h => h) (Or.inl ⟨by rfl, ?_⟩) (by assumption) ?_
                    rotate_left
                    · (intro W hW; (try dsimp only at hW); go_simp; try with_reducible rfl)
                    try simp only [Act.put, List.setIfInBounds_toArray, List.set_cons_zero, List.set_cons_succ, List.getElem_toArray, List.getElem_cons_zero, List.getElem_cons_succ]
                    refine wpAnyH_take (i := 17) (v := ?_) rfl (by kernel_rfl) (by kernel_rfl) (by kernel_rfl) (fun _ _ _ h => h) (Or.inl ⟨by rfl, ?_⟩) (by assumption) ?_
                    rotate_left
                    · (intro W hW; (try dsimp only at hW); go_simp; try with_reducible rfl)
                    try simp only [Act.put, List.setIfInBounds_toArray, List.set_cons_zero, List.set_cons_succ, List.getElem_toArray, List.getElem_cons_zero, List.getElem_cons_succ]
                    refine wpAnyH_done (by kernel_rfl) ?_ _
                    go_wp2_with fail
                    go_meet
                    exact ⟨x, Z, rfl, hbad, hF4, hS4⟩
              · simp only [List.getElem_toArray, List.getElem_cons_zero, List.getElem_cons_succ]
                go_simp
                go_at_call 10
                refine (tapeN_any 5 g _ (by omega) (by omega) hS1).mono ?_
                rintro e v2 ⟨a, rfl, a1, a2, hS2, FN⟩
                obtain ⟨a, rfl⟩ := Int.eq_ofNat_of_zero_le a1
                have ha : a < 5 := by omega
                have hai : (a : Int) < 5 := by omega
                have hai0 : (0 : Int) ≤ (a : Int) := by omega
                obtain ⟨Z, x, hz, hbad⟩ := HP.out a ha
                have hF2 := hF1.same FN
                have h9_2 := blk_fr h9_1 FN (by simp; omega)
                refine hK.out _ _ ⟨hF2, hS2, blk_cell h9_2 0⟩ (fun hH1 => ?_)
                clear hK KA hH0 hF1 hS1 FN h9_1
                have hH0 := hH1
                clear hH1
                try simp only [Act.put, List.setIfInBounds_toArray, List.set_cons_zero, List.set_cons_succ, List.getElem_toArray, List.getElem_cons_zero, List.getElem_cons_succ]
                refine wpAnyH_ready (rs := [3]) (by kernel_rfl) (by simp) ?_
                refine AllReadyH.cons rfl (fun KA hK => ?_) (AllReadyH.nil)
                · simp only [List.getElem_toArray, List.getElem_cons_zero, List.getElem_cons_succ]
                  go_simp
                  generalize hW : World.alloc v2 _ = v3
                  have FN : Fr none v2 v3 := hW ▸ (Fr.refl none v2).alloc _
                  have h3_3 : v3.heap[v2.heap.size]? = some (.cells #[.int .u8 (48 + (j : Int))] 5 (0, 0)) := by rw [← hW]; exact blk_new _ _
                  clear hW
                  have n3 : g ≠ v2.heap.size := by have := hF2.size; omega
                  have hS3 := hS2.fr FN
                  have hF3 := hF2.pure FN
                  have h9_3 := blk_fr h9_2 FN (by simp)
                  refine hK.out _ _ ⟨hF3, hS3, blk_cell h9_3 0⟩ (fun hH1 => ?_)
                  clear hK KA hH0 hF2 hS2 FN h9_2
                  refine wpAnyH_str (S' := fun W => Fr (some g) wc W ∧ SrcR 84 W g ∧ W.cell? ⟨v0.heap.size, 0, none⟩ = some (.int .u8 (48 + (j : Int))) ∧ W.cell? ⟨v2.heap.size, 0, none⟩ = some (.int .u8 (48 + (j : Int)))) (fun W h => ⟨h.1, h.2.1, h.2.2.1⟩) _ _ _ _ ?_
                  have hH0 : Fr (some g) wc v3 ∧ SrcR 84 v3 g ∧ v3.cell? ⟨v0.heap.size, 0, none⟩ = some (.int .u8 (48 + (j : Int))) ∧ v3.cell? ⟨v2.heap.size, 0, none⟩ = some (.int .u8 (48 + (j : Int))) := ⟨hF3, hS3, blk_cell h9_3 0, blk_cell h3_3 0⟩
                  clear hH1
                  try simp only [Act.put, List.setIfInBounds_toArray, List.set_cons_zero, List.set_cons_succ, List.getElem_toArray, List.getElem_cons_zero, List.getElem_cons_succ]
                  refine wpAnyH_take (i := 4) (v := ?_) rfl (by kernel_rfl) (by kernel_rfl) (by kernel_rfl) (fun _ _ _ h => h) (Or.inl ⟨by rfl, ?_⟩) (by assumption) ?_
                  rotate_left
                  · (intro W hW; (try dsimp only at hW); go_simp; try with_reducible rfl)
                  try simp only [Act.put, List.setIfInBounds_toArray, List.set_cons_zero, List.set_cons_succ, List.getElem_toArray, List.getElem_cons_zero, List.getElem_cons_succ]
                  refine wpAnyH_take (i := 5) (v := ?_) rfl (by kernel_rfl) (by kernel_rfl) (by kernel_rfl) (fun _ _ _ h => h) (Or.inl ⟨by rfl, ?_⟩) (by assumption) ?_
                  rotate_left
                  · (intro W hW; (try dsimp only at hW); go_simp; try with_reducible rfl)
                  try simp only [Act.put, List.setIfInBounds_toArray, List.set_cons_zero, List.set_cons_succ, List.getElem_toArray, List.getElem_cons_zero, List.getElem_cons_succ]
                  refine wpAnyH_ready (rs := [12]) (by kernel_rfl) (by simp) ?_
                  refine AllReadyH.cons rfl (fun KA hK => ?_) (AllReadyH.nil)
                  · simp only [List.getElem_toArray, List.getElem_cons_zero, List.getElem_cons_succ]
                    go_simp
                    generalize hW : World.alloc v3 _ = v4
                    have FN : Fr none v3 v4 := hW ▸ (Fr.refl none v3).alloc _
                    have h12_4 : v4.heap[v3.heap.size]? = some (.cells #[.string ⟨#[120, 10]⟩, .string ⟨#[10]⟩, .string ⟨#[48, 58, 49, 32, 111, 102, 32, 40, 48, 41, 10]⟩, .string X4, .string X5] 9 (0, 0)) := by rw [← hW]; exact blk_new _ _
                    clear hW
                    have n12 : g ≠ v3.heap.size := by have := hF3.size; omega
                    have hS4 := hS3.fr FN
                    have hF4 := hF3.pure FN
                    have h9_4 := blk_fr h9_3 FN (by simp)
                    have h3_4 := blk_fr h3_3 FN (by simp)
                    refine hK.out _ _ ⟨hF4, hS4, blk_cell h9_4 0, blk_cell h3_4 0⟩ (fun hH1 => ?_)
                    clear hK KA hH0 hF3 hS3 FN h9_3 h3_3
                    have hH0 := hH1
                    clear hH1
                    try simp only [Act.put, List.setIfInBounds_toArray, List.set_cons_zero, List.set_cons_succ, List.getElem_toArray, List.getElem_cons_zero, List.getElem_cons_succ]
                    refine wpAnyH_str (S' := fun W => Fr (some g) wc W ∧ SrcR 84 W g ∧ W.cell? ⟨v0.heap.size, 0, none⟩ = some (.int .u8 (48 + (j : Int))) ∧ W.cell? ⟨v2.heap.size, 0, none⟩ = some (.int .u8 (48 + (j : Int))) ∧ W.cell? ⟨v3.heap.size, a, none⟩ = some (.string Z)) (fun W h => ⟨h.1, h.2.1, h.2.2.1, h.2.2.2.1⟩) _ _ _ _ ?_
                    have hH0 : Fr (some g) wc v4 ∧ SrcR 84 v4 g ∧ v4.cell? ⟨v0.heap.size, 0, none⟩ = some (.int .u8 (48 + (j : Int))) ∧ v4.cell? ⟨v2.heap.size, 0, none⟩ = some (.int .u8 (48 + (j : Int))) ∧ v4.cell? ⟨v3.heap.size, a, none⟩ = some (.string Z) := ⟨hF4, hS4, blk_cell h9_4 0, blk_cell h3_4 0, (blk_cell h12_4 a).trans hz⟩
                    refine wpAnyH_take (i := 15) (v := ?_) rfl (by kernel_rfl) (by kernel_rfl) (by kernel_rfl) (fun _ _ _ h => h) (Or.inl ⟨by rfl, ?_⟩) (by assumption) ?_
                    rotate_left
                    · (intro W hW; (try dsimp only at hW); go_simp; try with_reducible rfl)
                    try simp only [Act.put, List.setIfInBounds_toArray, List.set_cons_zero, List.set_cons_succ, List.getElem_toArray, List.getElem_cons_zero, List.getElem_cons_succ]
                    refine wpAnyH_take (i := 16) (v := ?_) rfl (by kernel_rfl) (by kernel_rfl) (by kernel_rfl) (fun _ _ _ h => h) (Or.inl ⟨by rfl, ?_⟩) (by assumption) ?_
                    rotate_left
                    · (intro W hW; (try dsimp only at hW); go_simp; try with_reducible rfl)
                    try simp only [Act.put, List.setIfInBounds_toArray, List.set_cons_zero, List.set_cons_succ, List.getElem_toArray, List.getElem_cons_zero, List.getElem_cons_succ]
                    refine wpAnyH_take (i := 17) (v := ?_) rfl (by kernel_rfl) (by kernel_rfl) (by kernel_rfl) (fun _ _ _ h => h) (Or.inl ⟨by rfl, ?_⟩) (by assumption) ?_
                    rotate_left
                    · (intro W hW; (try dsimp only at hW); go_simp; try with_reducible rfl)
                    try simp only [Act.put, List.setIfInBounds_toArray, List.set_cons_zero, List.set_cons_succ, List.getElem_toArray, List.getElem_cons_zero, List.getElem_cons_succ]
                    refine wpAnyH_done (by kernel_rfl) ?_ _
                    go_wp2_with fail
                    go_meet
                    exact ⟨x, Z, rfl, hbad, hF4, hS4⟩
            · simp only [List.getElem_toArray, List.getElem_cons_zero, List.getElem_cons_succ]
              go_simp
              go_at_call 10
              refine (tapeN_any 5 g _ (by omega) (by omega) hS0).mono ?_
              rintro e v1 ⟨a, rfl, a1, a2, hS1, FN⟩
              obtain ⟨a, rfl⟩ := Int.eq_ofNat_of_zero_le a1
              have ha : a < 5 := by omega
              have hai : (a : Int) < 5 := by omega
              have hai0 : (0 : Int) ≤ (a : Int) := by omega
              obtain ⟨Z, x, hz, hbad⟩ := HP.out a ha
              have hF1 := hF0.same FN
              refine hK.out _ _ ⟨hF1, hS1⟩ (fun hH1 => ?_)
              clear hK KA hH0 hF0 hS0 FN
              have hH0 := hH1
              clear hH1
              try simp only [Act.put, List.setIfInBounds_toArray, List.set_cons_zero, List.set_cons_succ, List.getElem_toArray, List.getElem_cons_zero, List.getElem_cons_succ]
              refine wpAnyH_ready (rs := [3, 9]) (by kernel_rfl) (by simp) ?_
              refine AllReadyH.cons rfl (fun KA hK => ?_) (AllReadyH.cons rfl (fun KA hK => ?_) (AllReadyH.nil))
              · simp only [List.getElem_toArray, List.getElem_cons_zero, List.getElem_cons_succ]
                go_simp
                generalize hW : World.alloc v1 _ = v2
                have FN : Fr none v1 v2 := hW ▸ (Fr.refl none v1).alloc _
                have h3_2 : v2.heap[v1.heap.size]? = some (.cells #[.int .u8 (48 + (j : Int))] 5 (0, 0)) := by rw [← hW]; exact blk_new _ _
                clear hW
                have n3 : g ≠ v1.heap.size := by have := hF1.size; omega
                have hS2 := hS1.fr FN
                have hF2 := hF1.pure FN
                refine hK.out _ _ ⟨hF2, hS2⟩ (fun hH1 => ?_)
                clear hK KA hH0 hF1 hS1 FN
                refine wpAnyH_str (S' := fun W => Fr (some g) wc W ∧ SrcR 84 W g ∧ W.cell? ⟨v1.heap.size, 0, none⟩ = some (.int .u8 (48 + (j : Int)))) (fun W h => ⟨h.1, h.2.1⟩) _ _ _ _ ?_
                have hH0 : Fr (some g) wc v2 ∧ SrcR 84 v2 g ∧ v2.cell? ⟨v1.heap.size, 0, none⟩ = some (.int .u8 (48 + (j : Int))) := ⟨hF2, hS2, blk_cell h3_2 0⟩
                clear hH1
                try simp only [Act.put, List.setIfInBounds_toArray, List.set_cons_zero, List.set_cons_succ, List.getElem_toArray, List.getElem_cons_zero, List.getElem_cons_succ]
                refine wpAnyH_take (i := 4) (v := ?_) rfl (by kernel_rfl) (by kernel_rfl) (by kernel_rfl) (fun _ _ _ h => h) (Or.inl ⟨by rfl, ?_⟩) (by assumption) ?_
                rotate_left
                · (intro W hW; (try dsimp only at hW); go_simp; try with_reducible rfl)
                try simp only [Act.put, List.setIfInBounds_toArray, List.set_cons_zero, List.set_cons_succ, List.getElem_toArray, List.getElem_cons_zero, List.getElem_cons_succ]
                refine wpAnyH_take (i := 5) (v := ?_) rfl (by kernel_rfl) (by kernel_rfl) (by kernel_rfl) (fun _ _ _ h => h) (Or.inl ⟨by rfl, ?_⟩) (by assumption) ?_
                rotate_left
                · (intro W hW; (try dsimp only at hW); go_simp; try with_reducible rfl)
                try simp only [Act.put, List.setIfInBounds_toArray, List.set_cons_zero, List.set_cons_succ, List.getElem_toArray, List.getElem_cons_zero, List.getElem_cons_succ]
                refine wpAnyH_ready (rs := [9]) (by kernel_rfl) (by simp) ?_
                refine AllReadyH.cons rfl (fun KA hK => ?_) (AllReadyH.nil)
                · simp only [List.getElem_toArray, List.getElem_cons_zero, List.getElem_cons_succ]
                  go_simp
                  generalize hW : World.alloc v2 _ = v3
                  have FN : Fr none v2 v3 := hW ▸ (Fr.refl none v2).alloc _
                  have h9_3 : v3.heap[v2.heap.size]? = some (.cells #[.int .u8 (48 + (j : Int))] 5 (0, 0)) := by rw [← hW]; exact blk_new _ _
                  clear hW
                  have n9 : g ≠ v2.heap.size := by have := hF2.size; omega
                  have hS3 := hS2.fr FN
                  have hF3 := hF2.pure FN
                  have h3_3 := blk_fr h3_2 FN (by simp)
                  refine hK.out _ _ ⟨hF3, hS3, blk_cell h3_3 0⟩ (fun hH1 => ?_)
                  clear hK KA hH0 hF2 hS2 FN h3_2
                  refine wpAnyH_str (S' := fun W => Fr (some g) wc W ∧ SrcR 84 W g ∧ W.cell? ⟨v1.heap.size, 0, none⟩ = some (.int .u8 (48 + (j : Int))) ∧ W.cell? ⟨v2.heap.size, 0, none⟩ = some (.int .u8 (48 + (j : Int)))) (fun W h => ⟨h.1, h.2.1, h.2.2.1⟩) _ _ _ _ ?_
                  have hH0 : Fr (some g) wc v3 ∧ SrcR 84 v3 g ∧ v3.cell? ⟨v1.heap.size, 0, none⟩ = some (.int .u8 (48 + (j : Int))) ∧ v3.cell? ⟨v2.heap.size, 0, none⟩ = some (.int .u8 (48 + (j : Int))) := ⟨hF3, hS3, blk_cell h3_3 0, blk_cell h9_3 0⟩
                  clear hH1
                  try simp only [Act.put, List.setIfInBounds_toArray, List.set_cons_zero, List.set_cons_succ, List.getElem_toArray, List.getElem_cons_zero, List.getElem_cons_succ]
                  refine wpAnyH_take (i := 10) (v := ?_) rfl (by kernel_rfl) (by kernel_rfl) (by kernel_rfl) (fun _ _ _ h => h) (Or.inl ⟨by rfl, ?_⟩) (by assumption) ?_
                  rotate_left
                  · (intro W hW; (try dsimp only at hW); go_simp; try with_reducible rfl)
                  try simp only [Act.put, List.setIfInBounds_toArray, List.set_cons_zero, List.set_cons_succ, List.getElem_toArray, List.getElem_cons_zero, List.getElem_cons_succ]
                  refine wpAnyH_take (i := 11) (v := ?_) rfl (by kernel_rfl) (by kernel_rfl) (by kernel_rfl) (fun _ _ _ h => h) (Or.inl ⟨by rfl, ?_⟩) (by assumption) ?_
                  rotate_left
                  · (intro W hW; (try dsimp only at hW); go_simp; try with_reducible rfl)
                  try simp only [Act.put, List.setIfInBounds_toArray, List.set_cons_zero, List.set_cons_succ, List.getElem_toArray, List.getElem_cons_zero, List.getElem_cons_succ]
                  refine wpAnyH_ready (rs := [12]) (by kernel_rfl) (by simp) ?_
                  refine AllReadyH.cons rfl (fun KA hK => ?_) (AllReadyH.nil)
                  · simp only [List.getElem_toArray, List.getElem_cons_zero, List.getElem_cons_succ]
                    go_simp
                    generalize hW : World.alloc v3 _ = v4
                    have FN : Fr none v3 v4 := hW ▸ (Fr.refl none v3).alloc _
                    have h12_4 : v4.heap[v3.heap.size]? = some (.cells #[.string ⟨#[120, 10]⟩, .string ⟨#[10]⟩, .string ⟨#[48, 58, 49, 32, 111, 102, 32, 40, 48, 41, 10]⟩, .string X4, .string X5] 9 (0, 0)) := by rw [← hW]; exact blk_new _ _
                    clear hW
                    have n12 : g ≠ v3.heap.size := by have := hF3.size; omega
                    have hS4 := hS3.fr FN
                    have hF4 := hF3.pure FN
                    have h3_4 := blk_fr h3_3 FN (by simp)
                    have h9_4 := blk_fr h9_3 FN (by simp)
                    refine hK.out _ _ ⟨hF4, hS4, blk_cell h3_4 0, blk_cell h9_4 0⟩ (fun hH1 => ?_)
                    clear hK KA hH0 hF3 hS3 FN h3_3 h9_3
                    have hH0 := hH1
                    clear hH1
                    try simp only [Act.put, List.setIfInBounds_toArray, List.set_cons_zero, List.set_cons_succ, List.getElem_toArray, List.getElem_cons_zero, List.getElem_cons_succ]
                    refine wpAnyH_str (S' := fun W => Fr (some g) wc W ∧ SrcR 84 W g ∧ W.cell? ⟨v1.heap.size, 0, none⟩ = some (.int .u8 (48 + (j : Int))) ∧ W.cell? ⟨v2.heap.size, 0, none⟩ = some (.int .u8 (48 + (j : Int))) ∧ W.cell? ⟨v3.heap.size, a, none⟩ = some (.string Z)) (fun W h => ⟨h.1, h.2.1, h.2.2.1, h.2.2.2.1⟩) _ _ _ _ ?_
                    have hH0 : Fr (some g) wc v4 ∧ SrcR 84 v4 g ∧ v4.cell? ⟨v1.heap.size, 0, none⟩ = some (.int .u8 (48 + (j : Int))) ∧ v4.cell? ⟨v2.heap.size, 0, none⟩ = some (.int .u8 (48 + (j : Int))) ∧ v4.cell? ⟨v3.heap.size, a, none⟩ = some (.string Z) := ⟨hF4, hS4, blk_cell h3_4 0, blk_cell h9_4 0, (blk_cell h12_4 a).trans hz⟩
                    refine wpAnyH_take (i := 15) (v := ?_) rfl (by kernel_rfl) (by kernel_rfl) (by kernel_rfl) (fun _ _ _ h => h) (Or.inl ⟨by rfl, ?_⟩) (by assumption) ?_
                    rotate_left
                    · (intro W hW; (try dsimp only at hW); go_simp; try with_reducible rfl)
                    try simp only [Act.put, List.setIfInBounds_toArray, List.set_cons_zero, List.set_cons_succ, List.getElem_toArray, List.getElem_cons_zero, List.getElem_cons_succ]
                    refine wpAnyH_take (i := 16) (v := ?_) rfl (by kernel_rfl) (by kernel_rfl) (by kernel_rfl) (fun _ _ _ h => h) (Or.inl ⟨by rfl, ?_⟩) (by assumption) ?_
                    rotate_left
                    · (intro W hW; (try dsimp only at hW); go_simp; try with_reducible rfl)
                    try simp only [Act.put, List.setIfInBounds_toArray, List.set_cons_zero, List.set_cons_succ, List.getElem_toArray, List.getElem_cons_zero, List.getElem_cons_succ]
                    refine wpAnyH_take (i := 17) (v := ?_) rfl (by kernel_rfl) (by kernel_rfl) (by kernel_rfl) (fun _ _ _ h => h) (Or.inl ⟨by rfl, ?_⟩) (by assumption) ?_
                    rotate_left
                    · (intro W hW; (try dsimp only at hW); go_simp; try with_reducible rfl)
                    try simp only [Act.put, List.setIfInBounds_toArray, List.set_cons_zero, List.set_cons_succ, List.getElem_toArray, List.getElem_cons_zero, List.getElem_cons_succ]
                    refine wpAnyH_done (by kernel_rfl) ?_ _
                    go_wp2_with fail
                    go_meet
                    exact ⟨x, Z, rfl, hbad, hF4, hS4⟩
              · simp only [List.getElem_toArray, List.getElem_cons_zero, List.getElem_cons_succ]
                go_simp
                generalize hW : World.alloc v1 _ = v2
                have FN : Fr none v1 v2 := hW ▸ (Fr.refl none v1).alloc _
                have h9_2 : v2.heap[v1.heap.size]? = some (.cells #[.int .u8 (48 + (j : Int))] 5 (0, 0)) := by rw [← hW]; exact blk_new _ _
                clear hW
                have n9 : g ≠ v1.heap.size := by have := hF1.size; omega
                have hS2 := hS1.fr FN
                have hF2 := hF1.pure FN
                refine hK.out _ _ ⟨hF2, hS2⟩ (fun hH1 => ?_)
                clear hK KA hH0 hF1 hS1 FN
                refine wpAnyH_str (S' := fun W => Fr (some g) wc W ∧ SrcR 84 W g ∧ W.cell? ⟨v1.heap.size, 0, none⟩ = some (.int .u8 (48 + (j : Int)))) (fun W h => ⟨h.1, h.2.1⟩) _ _ _ _ ?_
                have hH0 : Fr (some g) wc v2 ∧ SrcR 84 v2 g ∧ v2.cell? ⟨v1.heap.size, 0, none⟩ = some (.int .u8 (48 + (j : Int))) := ⟨hF2, hS2, blk_cell h9_2 0⟩
                clear hH1
                try simp only [Act.put, List.setIfInBounds_toArray, List.set_cons_zero, List.set_cons_succ, List.getElem_toArray, List.getElem_cons_zero, List.getElem_cons_succ]
                refine wpAnyH_take (i := 10) (v := ?_) rfl (by kernel_rfl) (by kernel_rfl) (by kernel_rfl) (fun _ _ _ h => h) (Or.inl ⟨by rfl, ?_⟩) (by assumption) ?_
                rotate_left
                · (intro W hW; (try dsimp only at hW); go_simp; try with_reducible rfl)
                try simp only [Act.put, List.setIfInBounds_toArray, List.set_cons_zero, List.set_cons_succ, List.getElem_toArray, List.getElem_cons_zero, List.getElem_cons_succ]
                refine wpAnyH_take (i := 11) (v := ?_) rfl (by kernel_rfl) (by kernel_rfl) (by kernel_rfl) (fun _ _ _ h => h) (Or.inl ⟨by rfl, ?_⟩) (by assumption) ?_
                rotate_left
                · (intro W hW; (try dsimp only at hW); go_simp; try with_reducible rfl)
                try simp only [Act.put, List.setIfInBounds_toArray, List.set_cons_zero, List.set_cons_succ, List.getElem_toArray, List.getElem_cons_zero, List.getElem_cons_succ]
                refine wpAnyH_ready (rs := [3]) (by kernel_rfl) (by simp) ?_
                refine AllReadyH.cons rfl (fun KA hK => ?_) (AllReadyH.nil)
                · simp only [List.getElem_toArray, List.getElem_cons_zero, List.getElem_cons_succ]
                  go_simp
                  generalize hW : World.alloc v2 _ = v3
                  have FN : Fr none v2 v3 := hW ▸ (Fr.refl none v2).alloc _
                  have h3_3 : v3.heap[v2.heap.size]? = some (.cells #[.int .u8 (48 + (j : Int))] 5 (0, 0)) := by rw [← hW]; exact blk_new _ _
                  clear hW
                  have n3 : g ≠ v2.heap.size := by have := hF2.size; omega
                  have hS3 := hS2.fr FN
                  have hF3 := hF2.pure FN
                  have h9_3 := blk_fr h9_2 FN (by simp)
                  refine hK.out _ _ ⟨hF3, hS3, blk_cell h9_3 0⟩ (fun hH1 => ?_)
                  clear hK KA hH0 hF2 hS2 FN h9_2
                  refine wpAnyH_str (S' := fun W => Fr (some g) wc W ∧ SrcR 84 W g ∧ W.cell? ⟨v1.heap.size, 0, none⟩ = some (.int .u8 (48 + (j : Int))) ∧ W.cell? ⟨v2.heap.size, 0, none⟩ = some (.int .u8 (48 + (j : Int)))) (fun W h => ⟨h.1, h.2.1, h.2.2.1⟩) _ _ _ _ ?_
                  have hH0 : Fr (some g) wc v3 ∧ SrcR 84 v3 g ∧ v3.cell? ⟨v1.heap.size, 0, none⟩ = some (.int .u8 (48 + (j : Int))) ∧ v3.cell? ⟨v2.heap.size, 0, none⟩ = some (.int .u8 (48 + (j : Int))) := ⟨hF3, hS3, blk_cell h9_3 0, blk_cell h3_3 0⟩
                  clear hH1
                  try simp only [Act.put, List.setIfInBounds_toArray, List.set_cons_zero, List.set_cons_succ, List.getElem_toArray, List.getElem_cons_zero, List.getElem_cons_succ]
                  refine wpAnyH_take (i := 4) (v := ?_) rfl (by kernel_rfl) (by kernel_rfl) (by kernel_rfl) (fun _ _ _ h => h) (Or.inl ⟨by rfl, ?_⟩) (by assumption) ?_
                  rotate_left
                  · (intro W hW; (try dsimp only at hW); go_simp; try with_reducible rfl)
                  try simp only [Act.put, List.setIfInBounds_toArray, List.set_cons_zero, List.set_cons_succ, List.getElem_toArray, List.getElem_cons_zero, List.getElem_cons_succ]
                  refine wpAnyH_take (i := 5) (v := ?_) rfl (by kernel_rfl) (by kernel_rfl) (by kernel_rfl) (fun _ _ _ h => h) (Or.inl ⟨by rfl, ?_⟩) (by assumption) ?_
                  rotate_left
                  · (intro W hW; (try dsimp only at hW); go_simp; try with_reducible rfl)
                  try simp only [Act.put, List.setIfInBounds_toArray, List.set_cons_zero, List.set_cons_succ, List.getElem_toArray, List.getElem_cons_zero, List.getElem_cons_succ]
                  refine wpAnyH_ready (rs := [12]) (by kernel_rfl) (by simp) ?_
                  refine AllReadyH.cons rfl (fun KA hK => ?_) (AllReadyH.nil)
                  · simp only [List.getElem_toArray, List.getElem_cons_zero, List.getElem_cons_succ]
                    go_simp
                    generalize hW : World.alloc v3 _ = v4
                    have FN : Fr none v3 v4 := hW ▸ (Fr.refl none v3).alloc _
                    have h12_4 : v4.heap[v3.heap.size]? = some (.cells #[.string ⟨#[120, 10]⟩, .string ⟨#[10]⟩, .string ⟨#[48, 58, 49, 32, 111, 102, 32, 40, 48, 41, 10]⟩, .string X4, .string X5] 9 (0, 0)) := by rw [← hW]; exact blk_new _ _
                    clear hW
                    have n12 : g ≠ v3.heap.size := by have := hF3.size; omega
                    have hS4 := hS3.fr FN
                    have hF4 := hF3.pure FN
                    have h9_4 := blk_fr h9_3 FN (by simp)
                    have h3_4 := blk_fr h3_3 FN (by simp)
                    refine hK.out _ _ ⟨hF4, hS4, blk_cell h9_4 0, blk_cell h3_4 0⟩ (fun hH1 => ?_)
                    clear hK KA hH0 hF3 hS3 FN h9_3 h3_3
                    have hH0 := hH1
                    clear hH1
                    try simp only [Act.put, List.setIfInBounds_toArray, List.set_cons_zero, List.set_cons_succ, List.getElem_toArray, List.getElem_cons_zero, List.getElem_cons_succ]
                    refine wpAnyH_str (S' := fun W => Fr (some g) wc W ∧ SrcR 84 W g ∧ W.cell? ⟨v1.heap.size, 0, none⟩ = some (.int .u8 (48 + (j : Int))) ∧ W.cell? ⟨v2.heap.size, 0, none⟩ = some (.int .u8 (48 + (j : Int))) ∧ W.cell? ⟨v3.heap.size, a, none⟩ = some (.string Z)) (fun W h => ⟨h.1, h.2.1, h.2.2.1, h.2.2.2.1⟩) _ _ _ _ ?_
                    have hH0 : Fr (some g) wc v4 ∧ SrcR 84 v4 g ∧ v4.cell? ⟨v1.heap.size, 0, none⟩ = some (.int .u8 (48 + (j : Int))) ∧ v4.cell? ⟨v2.heap.size, 0, none⟩ = some (.int .u8 (48 + (j : Int))) ∧ v4.cell? ⟨v3.heap.size, a, none⟩ = some (.string Z) := ⟨hF4, hS4, blk_cell h9_4 0, blk_cell h3_4 0, (blk_cell h12_4 a).trans hz⟩
                    refine wpAnyH_take (i := 15) (v := ?_) rfl (by kernel_rfl) (by kernel_rfl) (by kernel_rfl) (fun _ _ _ h => h) (Or.inl ⟨by rfl, ?_⟩) (by assumption) ?_
                    rotate_left
                    · (intro W hW; (try dsimp only at hW); go_simp; try with_reducible rfl)
                    try simp only [Act.put, List.setIfInBounds_toArray, List.set_cons_zero, List.set_cons_succ, List.getElem_toArray, List.getElem_cons_zero, List.getElem_cons_succ]
                    refine wpAnyH_take (i := 16) (v := ?_) rfl (by kernel_rfl) (by kernel_rfl) (by kernel_rfl) (fun _ _ _ h => h) (Or.inl ⟨by rfl, ?_⟩) (by assumption) ?_
                    rotate_left
                    · (intro W hW; (try dsimp only at hW); go_simp; try with_reducible rfl)
                    try simp only [Act.put, List.setIfInBounds_toArray, List.set_cons_zero, List.set_cons_succ, List.getElem_toArray, List.getElem_cons_zero, List.getElem_cons_succ]
                    refine wpAnyH_take (i := 17) (v := ?_) rfl (by kernel_rfl) (by kernel_rfl) (by kernel_rfl) (fun _ _ _ h => h) (Or.inl ⟨by rfl, ?_⟩) (by assumption) ?_
                    rotate_left
                    · (intro W hW; (try dsimp only at hW); go_simp; try with_reducible rfl)
                    try simp only [Act.put, List.setIfInBounds_toArray, List.set_cons_zero, List.set_cons_succ, List.getElem_toArray, List.getElem_cons_zero, List.getElem_cons_succ]
                    refine wpAnyH_done (by kernel_rfl) ?_ _
                    go_wp2_with fail
                    go_meet
                    exact ⟨x, Z, rfl, hbad, hF4, hS4⟩
            -- LINES END
          case rest =>
            obtain ⟨x, Z, rfl, HZ, Fq, Sq⟩ := hcut
            have hZs : Z.size ≤ 12 := by rw [HZ.out.2, bs_size]; have := bad_len HZ.out.1; simp; omega
            obtain ⟨X3, H3, z3, a3⟩ := str_add V Z (by omega) (by omega)
            go_wp2_with fail
            go_roundw
            case rel => exact ⟨j + 1, G ++ [dg j :: gT], B ++ [x], X2, X3, by omega, by go_num, rfl, rfl, F0c.same Fq, Sq, by
              obtain ⟨e1, e2, e3⟩ := HG.out
              refine ⟨by rw [H2.out, HX1.out, e1, flat_snoc, bs_app], by simp [e2], fun i hi => ?_⟩
              rcases Nat.lt_or_ge i G.length with h | h
              · rw [List.getElem_append_left h]; exact e3 i h
              · obtain rfl : i = G.length := by simp at hi; omega
                simp only [List.getElem_append_right (Nat.le_refl _), Nat.sub_self, List.getElem_cons_zero]
                rw [e2]; exact hgood, by
              obtain ⟨e1, e2, e3, e4⟩ := HB.out
              refine ⟨by rw [H3.out, HZ.out.2, e1, flat_snoc, bs_app], by simp [e2], fun i hi hik => ?_, fun hi => ?_⟩
              · rcases Nat.lt_or_ge i B.length with h | h
                · rw [List.getElem_append_left h]; exact e3 i h hik
                · exact absurd (show i = j by simp at hi; omega) hik
              · have hb := HZ.out.1
                revert hi
                rw [← e2]
                intro hi
                simp only [List.getElem_append_right (Nat.le_refl _), Nat.sub_self, List.getElem_cons_zero]
                rw [e2]; exact hb, by omega, by omega⟩
            case measure => simp [intOf]; omega
        · have hne : ((j : Int) == (k : Int)) = false := by rw [beq_eq_false_iff_ne]; omega
          obtain ⟨X3, H3, z3, a3⟩ := str_add V X1 (by omega) (by omega)
          go_wp2_with fail
          go_roundw
          case rel => exact ⟨j + 1, G ++ [dg j :: gT], B ++ [dg j :: gT], X2, X3, by omega, by go_num, rfl, rfl, F0c, Sc, by
            obtain ⟨e1, e2, e3⟩ := HG.out
            refine ⟨by rw [H2.out, HX1.out, e1, flat_snoc, bs_app], by simp [e2], fun i hi => ?_⟩
            rcases Nat.lt_or_ge i G.length with h | h
            · rw [List.getElem_append_left h]; exact e3 i h
            · obtain rfl : i = G.length := by simp at hi; omega
              simp only [List.getElem_append_right (Nat.le_refl _), Nat.sub_self, List.getElem_cons_zero]
              rw [e2]; exact hgood, by
            obtain ⟨e1, e2, e3, e4⟩ := HB.out
            refine ⟨by rw [H3.out, HX1.out, e1, flat_snoc, bs_app], by simp [e2], fun i hi hik => ?_, fun hi => ?_⟩
            · rcases Nat.lt_or_ge i B.length with h | h
              · rw [List.getElem_append_left h]; exact e3 i h hik
              · obtain rfl : i = B.length := by simp at hi; omega
                simp only [List.getElem_append_right (Nat.le_refl _), Nat.sub_self, List.getElem_cons_zero]
                rw [e2]; exact hgood
            · have h : k < B.length := by simp at hi; omega
              rw [List.getElem_append_left h]; exact e4 h, by omega, by omega⟩
          case measure => simp [intOf]; omega
      | false =>
        have hSd := hSd rfl
        subst hSd
        obtain ⟨X1, H1, z1, a1⟩ := str_add (bs [dg j]) ((⟨#[48, 58, 32, 45, 10]⟩ : ByteArray).extract 1 5) (by rw [bs_size]; simp) (by decide)
        have hX1 : X1 = bs (dg j :: gN ++ [10]) := by rw [H1.out]; exact bs_app [dg j] (gN ++ [10])
        have z1' : X1.size = 5 := by rw [hX1, bs_size]; simp [gN]
        have hgood : goodL j (dg j :: gN) := by first | exact .inl rfl | exact .inr rfl
        have HX1 := Lib.hid hX1
        clear hX1
        obtain ⟨X2, H2, z2, a2⟩ := str_add U X1 (by omega) (by omega)
        go_upto_region 11 with (fail)
        go_region
        generalize hW : (wb.alloc _).drew = wc
        have Fc : Fr none wb wc := hW ▸ ((Fr.refl none wb).alloc _).drew
        have Sc := Sb.fr Fc
        have F0c := F0b.pure Fc
        clear hW R11 l11 m11
        by_cases hjk : j = k
        · subst hjk
          obtain ⟨X4, H4, z4, a4⟩ := str_add (bs [dg j]) ⟨#[58, 32, 49, 32, 111, 102, 32, 40, 48, 10]⟩ (by rw [bs_size]; simp) (by decide)
          obtain ⟨X5, H5, z5, a5⟩ := str_add (bs [dg j]) ⟨#[58, 32, 48, 32, 111, 102, 32, 40, 48, 41, 10]⟩ (by rw [bs_size]; simp) (by decide)
          have hw64 : IntKind.i64.wrap (48 + (j : Int)) = 48 + (j : Int) := by rw [IntKind.wrap_i64]; omega
          have hw8 : IntKind.u8.wrap (48 + (j : Int)) = 48 + (j : Int) := by rw [IntKind.wrap_u8]; omega
          go_upto_region 14 with (fail)
          go_cut [12] (fun s12 wq => ∃ (x : List UInt8) (Z : ByteArray), s12 = .string Z ∧ Hid (badL j x ∧ Z = bs (x ++ [10])) ∧ Fr (some g) wc wq ∧ SrcR 84 wq g)
          case first =>
            -- LINES BEGIN
            have HP : Hid (∀ a < 5, ∃ (Z : ByteArray) (x : List UInt8), (#[.string ⟨#[120, 10]⟩, .string ⟨#[10]⟩, .string ⟨#[48, 58, 49, 32, 111, 102, 32, 40, 48, 41, 10]⟩, .string X4, .string X5] : Array Value)[a]? = some (.string Z) ∧ Hid (badL j x ∧ Z = bs (x ++ [10]))) := fun a ha => by
              rcases (show a = 0 ∨ a = 1 ∨ a = 2 ∨ a = 3 ∨ a = 4 by omega) with rfl | rfl | rfl | rfl | rfl
              · exact ⟨_, [120], rfl, .inl rfl, rfl⟩
              · exact ⟨_, [], rfl, .inr (.inl rfl), rfl⟩
              · exact ⟨_, b3L, rfl, .inr (.inr (.inl rfl)), rfl⟩
              · exact ⟨X4, dg j :: b4L, rfl, .inr (.inr (.inr (.inl rfl))), by rw [H4.out]; exact bs_app [dg j] (b4L ++ [10])⟩
              · exact ⟨X5, dg j :: b5L, rfl, .inr (.inr (.inr (.inr rfl))), by rw [H5.out]; exact bs_app [dg j] (b5L ++ [10])⟩
            have hgc : g < wc.heap.size := by have := F0c.size; omega
            refine wp_region_held_drew (S := fun W => Fr (some g) wc W ∧ SrcR 84 W g) (by kernel_rfl) ⟨(Fr.refl _ _).drew, Sc.fr (Fr.refl _ _).drew⟩ (fun hH0 => ?_)
            refine wpAnyH_take (i := 0) (v := ?_) rfl (by kernel_rfl) (by kernel_rfl) (by kernel_rfl) (fun _ _ _ h => h) (Or.inl ⟨by rfl, ?_⟩) (by assumption) ?_
            rotate_left
            · (intro W hW; (try dsimp only at hW); go_simp; try with_reducible rfl)
            try simp only [Act.put, List.setIfInBounds_toArray, List.set_cons_zero, List.set_cons_succ, List.getElem_toArray, List.getElem_cons_zero, List.getElem_cons_succ]
            refine wpAnyH_take (i := 1) (v := ?_) rfl (by kernel_rfl) (by kernel_rfl) (by kernel_rfl) (fun _ _ _ h => h) (Or.inl ⟨by rfl, ?_⟩) (by assumption) ?_
            rotate_left
            · (intro W hW; (try dsimp only at hW); go_simp; try with_reducible rfl)
            try simp only [Act.put, List.setIfInBounds_toArray, List.set_cons_zero, List.set_cons_succ, List.getElem_toArray, List.getElem_cons_zero, List.getElem_cons_succ]
            refine wpAnyH_take (i := 2) (v := ?_) rfl (by kernel_rfl) (by kernel_rfl) (by kernel_rfl) (fun _ _ _ h => h) (Or.inl ⟨by rfl, ?_⟩) (by assumption) ?_
            rotate_left
            · (intro W hW; (try dsimp only at hW); go_simp; try with_reducible rfl)
            try simp only [Act.put, List.setIfInBounds_toArray, List.set_cons_zero, List.set_cons_succ, List.getElem_toArray, List.getElem_cons_zero, List.getElem_cons_succ]
            refine wpAnyH_take (i := 6) (v := ?_) rfl (by kernel_rfl) (by kernel_rfl) (by kernel_rfl) (fun _ _ _ h => h) (Or.inl ⟨by rfl, ?_⟩) (by assumption) ?_
            rotate_left
            · (intro W hW; (try dsimp only at hW); go_simp; try with_reducible rfl)
            try simp only [Act.put, List.setIfInBounds_toArray, List.set_cons_zero, List.set_cons_succ, List.getElem_toArray, List.getElem_cons_zero, List.getElem_cons_succ]
            refine wpAnyH_take (i := 7) (v := ?_) rfl (by kernel_rfl) (by kernel_rfl) (by kernel_rfl) (fun _ _ _ h => h) (Or.inl ⟨by rfl, ?_⟩) (by assumption) ?_
            rotate_left
            · (intro W hW; (try dsimp only at hW); go_simp; try with_reducible rfl)
            try simp only [Act.put, List.setIfInBounds_toArray, List.set_cons_zero, List.set_cons_succ, List.getElem_toArray, List.getElem_cons_zero, List.getElem_cons_succ]
            refine wpAnyH_take (i := 8) (v := ?_) rfl (by kernel_rfl) (by kernel_rfl) (by kernel_rfl) (fun _ _ _ h => h) (Or.inl ⟨by rfl, ?_⟩) (by assumption) ?_
            rotate_left
            · (intro W hW; (try dsimp only at hW); go_simp; try with_reducible rfl)
            try simp only [Act.put, List.setIfInBounds_toArray, List.set_cons_zero, List.set_cons_succ, List.getElem_toArray, List.getElem_cons_zero, List.getElem_cons_succ]
            refine wpAnyH_take (i := 13) (v := ?_) rfl (by kernel_rfl) (by kernel_rfl) (by kernel_rfl) (fun _ _ _ h => h) (Or.inl ⟨by rfl, ?_⟩) (by assumption) ?_
            rotate_left
            · (intro W hW; (try dsimp only at hW); go_simp; try with_reducible rfl)
            try simp only [Act.put, List.setIfInBounds_toArray, List.set_cons_zero, List.set_cons_succ, List.getElem_toArray, List.getElem_cons_zero, List.getElem_cons_succ]
            have hF0 := hH0.1
            have hS0 := hH0.2
            generalize hw0 : World.drew wc = v0 at hF0 hS0 hH0 ⊢
            clear hw0
            refine wpAnyH_ready (rs := [3, 9, 14]) (by kernel_rfl) (by simp) ?_
            refine AllReadyH.cons rfl (fun KA hK => ?_) (AllReadyH.cons rfl (fun KA hK => ?_) (AllReadyH.cons rfl (fun KA hK => ?_) (AllReadyH.nil)))
            · simp only [List.getElem_toArray, List.getElem_cons_zero, List.getElem_cons_succ]
              go_simp
              generalize hW : World.alloc v0 _ = v1
              have FN : Fr none v0 v1 := hW ▸ (Fr.refl none v0).alloc _
              have h3_1 : v1.heap[v0.heap.size]? = some (.cells #[.int .u8 (48 + (j : Int))] 5 (0, 0)) := by rw [← hW]; exact blk_new _ _
              clear hW
              have n3 : g ≠ v0.heap.size := by have := hF0.size; omega
              have hS1 := hS0.fr FN
              have hF1 := hF0.pure FN
              refine hK.out _ _ ⟨hF1, hS1⟩ (fun hH1 => ?_)
              clear hK KA hH0 hF0 hS0 FN
              refine wpAnyH_str (S' := fun W => Fr (some g) wc W ∧ SrcR 84 W g ∧ W.cell? ⟨v0.heap.size, 0, none⟩ = some (.int .u8 (48 + (j : Int)))) (fun W h => ⟨h.1, h.2.1⟩) _ _ _ _ ?_
              have hH0 : Fr (some g) wc v1 ∧ SrcR 84 v1 g ∧ v1.cell? ⟨v0.heap.size, 0, none⟩ = some (.int .u8 (48 + (j : Int))) := ⟨hF1, hS1, blk_cell h3_1 0⟩
              clear hH1
              try simp only [Act.put, List.setIfInBounds_toArray, List.set_cons_zero, List.set_cons_succ, List.getElem_toArray, List.getElem_cons_zero, List.getElem_cons_succ]
              refine wpAnyH_take (i := 4) (v := ?_) rfl (by kernel_rfl) (by kernel_rfl) (by kernel_rfl) (fun _ _ _ h => h) (Or.inl ⟨by rfl, ?_⟩) (by assumption) ?_
              rotate_left
              · (intro W hW; (try dsimp only at hW); go_simp; try with_reducible rfl)
              try simp only [Act.put, List.setIfInBounds_toArray, List.set_cons_zero, List.set_cons_succ, List.getElem_toArray, List.getElem_cons_zero, List.getElem_cons_succ]
              refine wpAnyH_take (i := 5) (v := ?_) rfl (by kernel_rfl) (by kernel_rfl) (by kernel_rfl) (fun _ _ _ h => h) (Or.inl ⟨by rfl, ?_⟩) (by assumption) ?_
              rotate_left
              · (intro W hW; (try dsimp only at hW); go_simp; try with_reducible rfl)
              try simp only [Act.put, List.setIfInBounds_toArray, List.set_cons_zero, List.set_cons_succ, List.getElem_toArray, List.getElem_cons_zero, List.getElem_cons_succ]
              refine wpAnyH_ready (rs := [9, 14]) (by kernel_rfl) (by simp) ?_
              refine AllReadyH.cons rfl (fun KA hK => ?_) (AllReadyH.cons rfl (fun KA hK => ?_) (AllReadyH.nil))
              · simp only [List.getElem_toArray, List.getElem_cons_zero, List.getElem_cons_succ]
                go_simp
                generalize hW : World.alloc v1 _ = v2
                have FN : Fr none v1 v2 := hW ▸ (Fr.refl none v1).alloc _
                have h9_2 : v2.heap[v1.heap.size]? = some (.cells #[.int .u8 (48 + (j : Int))] 5 (0, 0)) := by rw [← hW]; exact blk_new _ _
                clear hW
                have n9 : g ≠ v1.heap.size := by have := hF1.size; omega
                have hS2 := hS1.fr FN
                have hF2 := hF1.pure FN
                have h3_2 := blk_fr h3_1 FN (by simp)
                refine hK.out _ _ ⟨hF2, hS2, blk_cell h3_2 0⟩ (fun hH1 => ?_)
                clear hK KA hH0 hF1 hS1 FN h3_1
                refine wpAnyH_str (S' := fun W => Fr (some g) wc W ∧ SrcR 84 W g ∧ W.cell? ⟨v0.heap.size, 0, none⟩ = some (.int .u8 (48 + (j : Int))) ∧ W.cell? ⟨v1.heap.size, 0, none⟩ = some (.int .u8 (48 + (j : Int)))) (fun W h => ⟨h.1, h.2.1, h.2.2.1⟩) _ _ _ _ ?_
                have hH0 : Fr (some g) wc v2 ∧ SrcR 84 v2 g ∧ v2.cell? ⟨v0.heap.size, 0, none⟩ = some (.int .u8 (48 + (j : Int))) ∧ v2.cell? ⟨v1.heap.size, 0, none⟩ = some (.int .u8 (48 + (j : Int))) := ⟨hF2, hS2, blk_cell h3_2 0, blk_cell h9_2 0⟩
                clear hH1
                try simp only [Act.put, List.setIfInBounds_toArray, List.set_cons_zero, List.set_cons_succ, List.getElem_toArray, List.getElem_cons_zero, List.getElem_cons_succ]
                refine wpAnyH_take (i := 10) (v := ?_) rfl (by kernel_rfl) (by kernel_rfl) (by kernel_rfl) (fun _ _ _ h => h) (Or.inl ⟨by rfl, ?_⟩) (by assumption) ?_
                rotate_left
                · (intro W hW; (try dsimp only at hW); go_simp; try with_reducible rfl)
                try simp only [Act.put, List.setIfInBounds_toArray, List.set_cons_zero, List.set_cons_succ, List.getElem_toArray, List.getElem_cons_zero, List.getElem_cons_succ]
                refine wpAnyH_take (i := 11) (v := ?_) rfl (by kernel_rfl) (by kernel_rfl) (by kernel_rfl) (fun _ _ _ h => h) (Or.inl ⟨by rfl, ?_⟩) (by assumption) ?_
                rotate_left
                · (intro W hW; (try dsimp only at hW); go_simp; try with_reducible rfl)
                try simp only [Act.put, List.setIfInBounds_toArray, List.set_cons_zero, List.set_cons_succ, List.getElem_toArray, List.getElem_cons_zero, List.getElem_cons_succ]
                refine wpAnyH_ready (rs := [12, 14]) (by kernel_rfl) (by simp) ?_
                refine AllReadyH.cons rfl (fun KA hK => ?_) (AllReadyH.cons rfl (fun KA hK => ?_) (AllReadyH.nil))
                · simp only [List.getElem_toArray, List.getElem_cons_zero, List.getElem_cons_succ]
                  go_simp
                  generalize hW : World.alloc v2 _ = v3
                  have FN : Fr none v2 v3 := hW ▸ (Fr.refl none v2).alloc _
                  have h12_3 : v3.heap[v2.heap.size]? = some (.cells #[.string ⟨#[120, 10]⟩, .string ⟨#[10]⟩, .string ⟨#[48, 58, 49, 32, 111, 102, 32, 40, 48, 41, 10]⟩, .string X4, .string X5] 9 (0, 0)) := by rw [← hW]; exact blk_new _ _
                  clear hW
                  have n12 : g ≠ v2.heap.size := by have := hF2.size; omega
                  have hS3 := hS2.fr FN
                  have hF3 := hF2.pure FN
                  have h3_3 := blk_fr h3_2 FN (by simp)
                  have h9_3 := blk_fr h9_2 FN (by simp)
                  refine hK.out _ _ ⟨hF3, hS3, blk_cell h3_3 0, blk_cell h9_3 0⟩ (fun hH1 => ?_)
                  clear hK KA hH0 hF2 hS2 FN h3_2 h9_2
                  have hH0 := hH1
                  clear hH1
                  try simp only [Act.put, List.setIfInBounds_toArray, List.set_cons_zero, List.set_cons_succ, List.getElem_toArray, List.getElem_cons_zero, List.getElem_cons_succ]
                  refine wpAnyH_ready (rs := [14]) (by kernel_rfl) (by simp) ?_
                  refine AllReadyH.cons rfl (fun KA hK => ?_) (AllReadyH.nil)
                  · simp only [List.getElem_toArray, List.getElem_cons_zero, List.getElem_cons_succ]
                    go_simp
                    go_at_call 10
                    refine (tapeN_any 5 g _ (by omega) (by omega) hS3).mono ?_
                    rintro e v4 ⟨a, rfl, a1, a2, hS4, FN⟩
                    obtain ⟨a, rfl⟩ := Int.eq_ofNat_of_zero_le a1
                    have ha : a < 5 := by omega
                    have hai : (a : Int) < 5 := by omega
                    have hai0 : (0 : Int) ≤ (a : Int) := by omega
                    obtain ⟨Z, x, hz, hbad⟩ := HP.out a ha
                    have hF4 := hF3.same FN
                    have h3_4 := blk_fr h3_3 FN (by simp; omega)
                    have h9_4 := blk_fr h9_3 FN (by simp; omega)
                    have h12_4 := blk_fr h12_3 FN (by simp; omega)
                    refine hK.out _ _ ⟨hF4, hS4, blk_cell h3_4 0, blk_cell h9_4 0⟩ (fun hH1 => ?_)
                    clear hK KA hH0 hF3 hS3 FN h3_3 h9_3 h12_3
                    have hH0 := hH1
                    clear hH1
                    try simp only [Act.put, List.setIfInBounds_toArray, List.set_cons_zero, List.set_cons_succ, List.getElem_toArray, List.getElem_cons_zero, List.getElem_cons_succ]
                    refine wpAnyH_str (S' := fun W => Fr (some g) wc W ∧ SrcR 84 W g ∧ W.cell? ⟨v0.heap.size, 0, none⟩ = some (.int .u8 (48 + (j : Int))) ∧ W.cell? ⟨v1.heap.size, 0, none⟩ = some (.int .u8 (48 + (j : Int))) ∧ W.cell? ⟨v2.heap.size, a, none⟩ = some (.string Z)) (fun W h => ⟨h.1, h.2.1, h.2.2.1, h.2.2.2.1⟩) _ _ _ _ ?_
                    have hH0 : Fr (some g) wc v4 ∧ SrcR 84 v4 g ∧ v4.cell? ⟨v0.heap.size, 0, none⟩ = some (.int .u8 (48 + (j : Int))) ∧ v4.cell? ⟨v1.heap.size, 0, none⟩ = some (.int .u8 (48 + (j : Int))) ∧ v4.cell? ⟨v2.heap.size, a, none⟩ = some (.string Z) := ⟨hF4, hS4, blk_cell h3_4 0, blk_cell h9_4 0, (blk_cell h12_4 a).trans hz⟩
                    refine wpAnyH_take (i := 15) (v := ?_) rfl (by kernel_rfl) (by kernel_rfl) (by kernel_rfl) (fun _ _ _ h => h) (Or.inl ⟨by rfl, ?_⟩) (by assumption) ?_
                    rotate_left
                    · (intro W hW; (try dsimp only at hW); go_simp; try with_reducible rfl)
                    try simp only [Act.put, List.setIfInBounds_toArray, List.set_cons_zero, List.set_cons_succ, List.getElem_toArray, List.getElem_cons_zero, List.getElem_cons_succ]
                    refine wpAnyH_take (i := 16) (v := ?_) rfl (by kernel_rfl) (by kernel_rfl) (by kernel_rfl) (fun _ _ _ h => h) (Or.inl ⟨by rfl, ?_⟩) (by assumption) ?_
                    rotate_left
                    · (intro W hW; (try dsimp only at hW); go_simp; try with_reducible rfl)
                    try simp only [Act.put, List.setIfInBounds_toArray, List.set_cons_zero, List.set_cons_succ, List.getElem_toArray, List.getElem_cons_zero, List.getElem_cons_succ]
                    refine wpAnyH_take (i := 17) (v := ?_) rfl (by kernel_rfl) (by kernel_rfl) (by kernel_rfl) (fun _ _ _ h => h) (Or.inl ⟨by rfl, ?_⟩) (by assumption) ?_
                    rotate_left
                    · (intro W hW; (try dsimp only at hW); go_simp; try with_reducible rfl)
                    try simp only [Act.put, List.setIfInBounds_toArray, List.set_cons_zero, List.set_cons_succ, List.getElem_toArray, List.getElem_cons_zero, List.getElem_cons_succ]
                    refine wpAnyH_done (by kernel_rfl) ?_ _
                    go_wp2_with fail
                    go_meet
                    exact ⟨x, Z, rfl, hbad, hF4, hS4⟩
                · simp only [List.getElem_toArray, List.getElem_cons_zero, List.getElem_cons_succ]
                  go_simp
                  go_at_call 10
                  refine (tapeN_any 5 g _ (by omega) (by omega) hS2).mono ?_
                  rintro e v3 ⟨a, rfl, a1, a2, hS3, FN⟩
                  obtain ⟨a, rfl⟩ := Int.eq_ofNat_of_zero_le a1
                  have ha : a < 5 := by omega
                  have hai : (a : Int) < 5 := by omega
                  have hai0 : (0 : Int) ≤ (a : Int) := by omega
                  obtain ⟨Z, x, hz, hbad⟩ := HP.out a ha
                  have hF3 := hF2.same FN
                  have h3_3 := blk_fr h3_2 FN (by simp; omega)
                  have h9_3 := blk_fr h9_2 FN (by simp; omega)
                  refine hK.out _ _ ⟨hF3, hS3, blk_cell h3_3 0, blk_cell h9_3 0⟩ (fun hH1 => ?_)
                  clear hK KA hH0 hF2 hS2 FN h3_2 h9_2
                  have hH0 := hH1
                  clear hH1
                  try simp only [Act.put, List.setIfInBounds_toArray, List.set_cons_zero, List.set_cons_succ, List.getElem_toArray, List.getElem_cons_zero, List.getElem_cons_succ]
                  refine wpAnyH_ready (rs := [12]) (by kernel_rfl) (by simp) ?_
                  refine AllReadyH.cons rfl (fun KA hK => ?_) (AllReadyH.nil)
                  · simp only [List.getElem_toArray, List.getElem_cons_zero, List.getElem_cons_succ]
                    go_simp
                    generalize hW : World.alloc v3 _ = v4
                    have FN : Fr none v3 v4 := hW ▸ (Fr.refl none v3).alloc _
                    have h12_4 : v4.heap[v3.heap.size]? = some (.cells #[.string ⟨#[120, 10]⟩, .string ⟨#[10]⟩, .string ⟨#[48, 58, 49, 32, 111, 102, 32, 40, 48, 41, 10]⟩, .string X4, .string X5] 9 (0, 0)) := by rw [← hW]; exact blk_new _ _
                    clear hW
                    have n12 : g ≠ v3.heap.size := by have := hF3.size; omega
                    have hS4 := hS3.fr FN
                    have hF4 := hF3.pure FN
                    have h3_4 := blk_fr h3_3 FN (by simp)
                    have h9_4 := blk_fr h9_3 FN (by simp)
                    refine hK.out _ _ ⟨hF4, hS4, blk_cell h3_4 0, blk_cell h9_4 0⟩ (fun hH1 => ?_)
                    clear hK KA hH0 hF3 hS3 FN h3_3 h9_3
                    have hH0 := hH1
                    clear hH1
                    try simp only [Act.put, List.setIfInBounds_toArray, List.set_cons_zero, List.set_cons_succ, List.getElem_toArray, List.getElem_cons_zero, List.getElem_cons_succ]
                    refine wpAnyH_str (S' := fun W => Fr (some g) wc W ∧ SrcR 84 W g ∧ W.cell? ⟨v0.heap.size, 0, none⟩ = some (.int .u8 (48 + (j : Int))) ∧ W.cell? ⟨v1.heap.size, 0, none⟩ = some (.int .u8 (48 + (j : Int))) ∧ W.cell? ⟨v3.heap.size, a, none⟩ = some (.string Z)) (fun W h => ⟨h.1, h.2.1, h.2.2.1, h.2.2.2.1⟩) _ _ _ _ ?_
                    have hH0 : Fr (some g) wc v4 ∧ SrcR 84 v4 g ∧ v4.cell? ⟨v0.heap.size, 0, none⟩ = some (.int .u8 (48 + (j : Int))) ∧ v4.cell? ⟨v1.heap.size, 0, none⟩ = some (.int .u8 (48 + (j : Int))) ∧ v4.cell? ⟨v3.heap.size, a, none⟩ = some (.string Z) := ⟨hF4, hS4, blk_cell h3_4 0, blk_cell h9_4 0, (blk_cell h12_4 a).trans hz⟩
                    refine wpAnyH_take (i := 15) (v := ?_) rfl (by kernel_rfl) (by kernel_rfl) (by kernel_rfl) (fun _ _ _ h => h) (Or.inl ⟨by rfl, ?_⟩) (by assumption) ?_
                    rotate_left
                    · (intro W hW; (try dsimp only at hW); go_simp; try with_reducible rfl)
                    try simp only [Act.put, List.setIfInBounds_toArray, List.set_cons_zero, List.set_cons_succ, List.getElem_toArray, List.getElem_cons_zero, List.getElem_cons_succ]
                    refine wpAnyH_take (i := 16) (v := ?_) rfl (by kernel_rfl) (by kernel_rfl) (by kernel_rfl) (fun _ _ _ h => h) (Or.inl ⟨by rfl, ?_⟩) (by assumption) ?_
                    rotate_left
                    · (intro W hW; (try dsimp only at hW); go_simp; try with_reducible rfl)
                    try simp only [Act.put, List.setIfInBounds_toArray, List.set_cons_zero, List.set_cons_succ, List.getElem_toArray, List.getElem_cons_zero, List.getElem_cons_succ]
                    refine wpAnyH_take (i := 17) (v := ?_) rfl (by kernel_rfl) (by kernel_rfl) (by kernel_rfl) (fun _ _ _ h => h) (Or.inl ⟨by rfl, ?_⟩) (by assumption) ?_
                    rotate_left
                    · (intro W hW; (try dsimp only at hW); go_simp; try with_reducible rfl)
                    try simp only [Act.put, List.setIfInBounds_toArray, List.set_cons_zero, List.set_cons_succ, List.getElem_toArray, List.getElem_cons_zero, List.getElem_cons_succ]
                    refine wpAnyH_done (by kernel_rfl) ?_ _
                    go_wp2_with fail
                    go_meet
                    exact ⟨x, Z, rfl, hbad, hF4, hS4⟩
              · simp only [List.getElem_toArray, List.getElem_cons_zero, List.getElem_cons_succ]
                go_simp
                go_at_call 10
                refine (tapeN_any 5 g _ (by omega) (by omega) hS1).mono ?_
                rintro e v2 ⟨a, rfl, a1, a2, hS2, FN⟩
                obtain ⟨a, rfl⟩ := Int.eq_ofNat_of_zero_le a1
                have ha : a < 5 := by omega
                have hai : (a : Int) < 5 := by omega
                have hai0 : (0 : Int) ≤ (a : Int) := by omega
                obtain ⟨Z, x, hz, hbad⟩ := HP.out a ha
                have hF2 := hF1.same FN
                have h3_2 := blk_fr h3_1 FN (by simp; omega)
                refine hK.out _ _ ⟨hF2, hS2, blk_cell h3_2 0⟩ (fun hH1 => ?_)
                clear hK KA hH0 hF1 hS1 FN h3_1
                have hH0 := hH1
                clear hH1
                try simp only [Act.put, List.setIfInBounds_toArray, List.set_cons_zero, List.set_cons_succ, List.getElem_toArray, List.getElem_cons_zero, List.getElem_cons_succ]
                refine wpAnyH_ready (rs := [9]) (by kernel_rfl) (by simp) ?_
                refine AllReadyH.cons rfl (fun KA hK => ?_) (AllReadyH.nil)
                · simp only [List.getElem_toArray, List.getElem_cons_zero, List.getElem_cons_succ]
                  go_simp
                  generalize hW : World.alloc v2 _ = v3
                  have FN : Fr none v2 v3 := hW ▸ (Fr.refl none v2).alloc _
                  have h9_3 : v3.heap[v2.heap.size]? = some (.cells #[.int .u8 (48 + (j : Int))] 5 (0, 0)) := by rw [← hW]; exact blk_new _ _
                  clear hW
                  have n9 : g ≠ v2.heap.size := by have := hF2.size; omega
                  have hS3 := hS2.fr FN
                  have hF3 := hF2.pure FN
                  have h3_3 := blk_fr h3_2 FN (by simp)
                  refine hK.out _ _ ⟨hF3, hS3, blk_cell h3_3 0⟩ (fun hH1 => ?_)
                  clear hK KA hH0 hF2 hS2 FN h3_2
                  refine wpAnyH_str (S' := fun W => Fr (some g) wc W ∧ SrcR 84 W g ∧ W.cell? ⟨v0.heap.size, 0, none⟩ = some (.int .u8 (48 + (j : Int))) ∧ W.cell? ⟨v2.heap.size, 0, none⟩ = some (.int .u8 (48 + (j : Int)))) (fun W h => ⟨h.1, h.2.1, h.2.2.1⟩) _ _ _ _ ?_
                  have hH0 : Fr (some g) wc v3 ∧ SrcR 84 v3 g ∧ v3.cell? ⟨v0.heap.size, 0, none⟩ = some (.int .u8 (48 + (j : Int))) ∧ v3.cell? ⟨v2.heap.size, 0, none⟩ = some (.int .u8 (48 + (j : Int))) := ⟨hF3, hS3, blk_cell h3_3 0, blk_cell h9_3 0⟩
                  clear hH1
                  try simp only [Act.put, List.setIfInBounds_toArray, List.set_cons_zero, List.set_cons_succ, List.getElem_toArray, List.getElem_cons_zero, List.getElem_cons_succ]
                  refine wpAnyH_take (i := 10) (v := ?_) rfl (by kernel_rfl) (by kernel_rfl) (by kernel_rfl) (fun _ _ _ h => h) (Or.inl ⟨by rfl, ?_⟩) (by assumption) ?_
                  rotate_left
                  · (intro W hW; (try dsimp only at hW); go_simp; try with_reducible rfl)
                  try simp only [Act.put, List.setIfInBounds_toArray, List.set_cons_zero, List.set_cons_succ, List.getElem_toArray, List.getElem_cons_zero, List.getElem_cons_succ]
                  refine wpAnyH_take (i := 11) (v := ?_) rfl (by kernel_rfl) (by kernel_rfl) (by kernel_rfl) (fun _ _ _ h => h) (Or.inl ⟨by rfl, ?_⟩) (by assumption) ?_
                  rotate_left
                  · (intro W hW; (try dsimp only at hW); go_simp; try with_reducible rfl)
                  try simp only [Act.put, List.setIfInBounds_toArray, List.set_cons_zero, List.set_cons_succ, List.getElem_toArray, List.getElem_cons_zero, List.getElem_cons_succ]
                  refine wpAnyH_ready (rs := [12]) (by kernel_rfl) (by simp) ?_
                  refine AllReadyH.cons rfl (fun KA hK => ?_) (AllReadyH.nil)
                  · simp only [List.getElem_toArray, List.getElem_cons_zero, List.getElem_cons_succ]
                    go_simp
                    generalize hW : World.alloc v3 _ = v4
                    have FN : Fr none v3 v4 := hW ▸ (Fr.refl none v3).alloc _
                    have h12_4 : v4.heap[v3.heap.size]? = some (.cells #[.string ⟨#[120, 10]⟩, .string ⟨#[10]⟩, .string ⟨#[48, 58, 49, 32, 111, 102, 32, 40, 48, 41, 10]⟩, .string X4, .string X5] 9 (0, 0)) := by rw [← hW]; exact blk_new _ _
                    clear hW
                    have n12 : g ≠ v3.heap.size := by have := hF3.size; omega
                    have hS4 := hS3.fr FN
                    have hF4 := hF3.pure FN
                    have h3_4 := blk_fr h3_3 FN (by simp)
                    have h9_4 := blk_fr h9_3 FN (by simp)
                    refine hK.out _ _ ⟨hF4, hS4, blk_cell h3_4 0, blk_cell h9_4 0⟩ (fun hH1 => ?_)
                    clear hK KA hH0 hF3 hS3 FN h3_3 h9_3
                    have hH0 := hH1
                    clear hH1
                    try simp only [Act.put, List.setIfInBounds_toArray, List.set_cons_zero, List.set_cons_succ, List.getElem_toArray, List.getElem_cons_zero, List.getElem_cons_succ]
                    refine wpAnyH_str (S' := fun W => Fr (some g) wc W ∧ SrcR 84 W g ∧ W.cell? ⟨v0.heap.size, 0, none⟩ = some (.int .u8 (48 + (j : Int))) ∧ W.cell? ⟨v2.heap.size, 0, none⟩ = some (.int .u8 (48 + (j : Int))) ∧ W.cell? ⟨v3.heap.size, a, none⟩ = some (.string Z)) (fun W h => ⟨h.1, h.2.1, h.2.2.1, h.2.2.2.1⟩) _ _ _ _ ?_
                    have hH0 : Fr (some g) wc v4 ∧ SrcR 84 v4 g ∧ v4.cell? ⟨v0.heap.size, 0, none⟩ = some (.int .u8 (48 + (j : Int))) ∧ v4.cell? ⟨v2.heap.size, 0, none⟩ = some (.int .u8 (48 + (j : Int))) ∧ v4.cell? ⟨v3.heap.size, a, none⟩ = some (.string Z) := ⟨hF4, hS4, blk_cell h3_4 0, blk_cell h9_4 0, (blk_cell h12_4 a).trans hz⟩
                    refine wpAnyH_take (i := 15) (v := ?_) rfl (by kernel_rfl) (by kernel_rfl) (by kernel_rfl) (fun _ _ _ h => h) (Or.inl ⟨by rfl, ?_⟩) (by assumption) ?_
                    rotate_left
                    · (intro W hW; (try dsimp only at hW); go_simp; try with_reducible rfl)
                    try simp only [Act.put, List.setIfInBounds_toArray, List.set_cons_zero, List.set_cons_succ, List.getElem_toArray, List.getElem_cons_zero, List.getElem_cons_succ]
                    refine wpAnyH_take (i := 16) (v := ?_) rfl (by kernel_rfl) (by kernel_rfl) (by kernel_rfl) (fun _ _ _ h => h) (Or.inl ⟨by rfl, ?_⟩) (by assumption) ?_
                    rotate_left
                    · (intro W hW; (try dsimp only at hW); go_simp; try with_reducible rfl)
                    try simp only [Act.put, List.setIfInBounds_toArray, List.set_cons_zero, List.set_cons_succ, List.getElem_toArray, List.getElem_cons_zero, List.getElem_cons_succ]
                    refine wpAnyH_take (i := 17) (v := ?_) rfl (by kernel_rfl) (by kernel_rfl) (by kernel_rfl) (fun _ _ _ h => h) (Or.inl ⟨by rfl, ?_⟩) (by assumption) ?_
                    rotate_left
                    · (intro W hW; (try dsimp only at hW); go_simp; try with_reducible rfl)
                    try simp only [Act.put, List.setIfInBounds_toArray, List.set_cons_zero, List.set_cons_succ, List.getElem_toArray, List.getElem_cons_zero, List.getElem_cons_succ]
                    refine wpAnyH_done (by kernel_rfl) ?_ _
                    go_wp2_with fail
                    go_meet
                    exact ⟨x, Z, rfl, hbad, hF4, hS4⟩
            · simp only [List.getElem_toArray, List.getElem_cons_zero, List.getElem_cons_succ]
              go_simp
              generalize hW : World.alloc v0 _ = v1
              have FN : Fr none v0 v1 := hW ▸ (Fr.refl none v0).alloc _
              have h9_1 : v1.heap[v0.heap.size]? = some (.cells #[.int .u8 (48 + (j : Int))] 5 (0, 0)) := by rw [← hW]; exact blk_new _ _
              clear hW
              have n9 : g ≠ v0.heap.size := by have := hF0.size; omega
              have hS1 := hS0.fr FN
              have hF1 := hF0.pure FN
              refine hK.out _ _ ⟨hF1, hS1⟩ (fun hH1 => ?_)
              clear hK KA hH0 hF0 hS0 FN
              refine wpAnyH_str (S' := fun W => Fr (some g) wc W ∧ SrcR 84 W g ∧ W.cell? ⟨v0.heap.size, 0, none⟩ = some (.int .u8 (48 + (j : Int)))) (fun W h => ⟨h.1, h.2.1⟩) _ _ _ _ ?_
              have hH0 : Fr (some g) wc v1 ∧ SrcR 84 v1 g ∧ v1.cell? ⟨v0.heap.size, 0, none⟩ = some (.int .u8 (48 + (j : Int))) := ⟨hF1, hS1, blk_cell h9_1 0⟩
              clear hH1
              try simp only [Act.put, List.setIfInBounds_toArray, List.set_cons_zero, List.set_cons_succ, List.getElem_toArray, List.getElem_cons_zero, List.getElem_cons_succ]
              refine wpAnyH_take (i := 10) (v := ?_) rfl (by kernel_rfl) (by kernel_rfl) (by kernel_rfl) (fun _ _ _ h => h) (Or.inl ⟨by rfl, ?_⟩) (by assumption) ?_
              rotate_left
              · (intro W hW; (try dsimp only at hW); go_simp; try with_reducible rfl)
              try simp only [Act.put, List.setIfInBounds_toArray, List.set_cons_zero, List.set_cons_succ, List.getElem_toArray, List.getElem_cons_zero, List.getElem_cons_succ]
              refine wpAnyH_take (i := 11) (v := ?_) rfl (by kernel_rfl) (by kernel_rfl) (by kernel_rfl) (fun _ _ _ h => h) (Or.inl ⟨by rfl, ?_⟩) (by assumption) ?_
              rotate_left
              · (intro W hW; (try dsimp only at hW); go_simp; try with_reducible rfl)
              try simp only [Act.put, List.setIfInBounds_toArray, List.set_cons_zero, List.set_cons_succ, List.getElem_toArray, List.getElem_cons_zero, List.getElem_cons_succ]
              refine wpAnyH_ready (rs := [3, 14]) (by kernel_rfl) (by simp) ?_
              refine AllReadyH.cons rfl (fun KA hK => ?_) (AllReadyH.cons rfl (fun KA hK => ?_) (AllReadyH.nil))
              · simp only [List.getElem_toArray, List.getElem_cons_zero, List.getElem_cons_succ]
                go_simp
                generalize hW : World.alloc v1 _ = v2
                have FN : Fr none v1 v2 := hW ▸ (Fr.refl none v1).alloc _
                have h3_2 : v2.heap[v1.heap.size]? = some (.cells #[.int .u8 (48 + (j : Int))] 5 (0, 0)) := by rw [← hW]; exact blk_new _ _
                clear hW
                have n3 : g ≠ v1.heap.size := by have := hF1.size; omega
                have hS2 := hS1.fr FN
                have hF2 := hF1.pure FN
                have h9_2 := blk_fr h9_1 FN (by simp)
                refine hK.out _ _ ⟨hF2, hS2, blk_cell h9_2 0⟩ (fun hH1 => ?_)
                clear hK KA hH0 hF1 hS1 FN h9_1
                refine wpAnyH_str (S' := fun W => Fr (some g) wc W ∧ SrcR 84 W g ∧ W.cell? ⟨v0.heap.size, 0, none⟩ = some (.int .u8 (48 + (j : Int))) ∧ W.cell? ⟨v1.heap.size, 0, none⟩ = some (.int .u8 (48 + (j : Int)))) (fun W h => ⟨h.1, h.2.1, h.2.2.1⟩) _ _ _ _ ?_
                have hH0 : Fr (some g) wc v2 ∧ SrcR 84 v2 g ∧ v2.cell? ⟨v0.heap.size, 0, none⟩ = some (.int .u8 (48 + (j : Int))) ∧ v2.cell? ⟨v1.heap.size, 0, none⟩ = some (.int .u8 (48 + (j : Int))) := ⟨hF2, hS2, blk_cell h9_2 0, blk_cell h3_2 0⟩
                clear hH1
                try simp only [Act.put, List.setIfInBounds_toArray, List.set_cons_zero, List.set_cons_succ, List.getElem_toArray, List.getElem_cons_zero, List.getElem_cons_succ]
                refine wpAnyH_take (i := 4) (v := ?_) rfl (by kernel_rfl) (by kernel_rfl) (by kernel_rfl) (fun _ _ _ h => h) (Or.inl ⟨by rfl, ?_⟩) (by assumption) ?_
                rotate_left
                · (intro W hW; (try dsimp only at hW); go_simp; try with_reducible rfl)
                try simp only [Act.put, List.setIfInBounds_toArray, List.set_cons_zero, List.set_cons_succ, List.getElem_toArray, List.getElem_cons_zero, List.getElem_cons_succ]
                refine wpAnyH_take (i := 5) (v := ?_) rfl (by kernel_rfl) (by kernel_rfl) (by kernel_rfl) (fun _ _ _ h => h) (Or.inl ⟨by rfl, ?_⟩) (by assumption) ?_
                rotate_left
                · (intro W hW; (try dsimp only at hW); go_simp; try with_reducible rfl)
                try simp only [Act.put, List.setIfInBounds_toArray, List.set_cons_zero, List.set_cons_succ, List.getElem_toArray, List.getElem_cons_zero, List.getElem_cons_succ]
                refine wpAnyH_ready (rs := [12, 14]) (by kernel_rfl) (by simp) ?_
                refine AllReadyH.cons rfl (fun KA hK => ?_) (AllReadyH.cons rfl (fun KA hK => ?_) (AllReadyH.nil))
                · simp only [List.getElem_toArray, List.getElem_cons_zero, List.getElem_cons_succ]
                  go_simp
                  generalize hW : World.alloc v2 _ = v3
                  have FN : Fr none v2 v3 := hW ▸ (Fr.refl none v2).alloc _
                  have h12_3 : v3.heap[v2.heap.size]? = some (.cells #[.string ⟨#[120, 10]⟩, .string ⟨#[10]⟩, .string ⟨#[48, 58, 49, 32, 111, 102, 32, 40, 48, 41, 10]⟩, .string X4, .string X5] 9 (0, 0)) := by rw [← hW]; exact blk_new _ _
                  clear hW
                  have n12 : g ≠ v2.heap.size := by have := hF2.size; omega
                  have hS3 := hS2.fr FN
                  have hF3 := hF2.pure FN
                  have h9_3 := blk_fr h9_2 FN (by simp)
                  have h3_3 := blk_fr h3_2 FN (by simp)
                  refine hK.out _ _ ⟨hF3, hS3, blk_cell h9_3 0, blk_cell h3_3 0⟩ (fun hH1 => ?_)
                  clear hK KA hH0 hF2 hS2 FN h9_2 h3_2
                  have hH0 := hH1
                  clear hH1
                  try simp only [Act.put, List.setIfInBounds_toArray, List.set_cons_zero, List.set_cons_succ, List.getElem_toArray, List.getElem_cons_zero, List.getElem_cons_succ]
                  refine wpAnyH_ready (rs := [14]) (by kernel_rfl) (by simp) ?_
                  refine AllReadyH.cons rfl (fun KA hK => ?_) (AllReadyH.nil)
                  · simp only [List.getElem_toArray, List.getElem_cons_zero, List.getElem_cons_succ]
                    go_simp
                    go_at_call 10
                    refine (tapeN_any 5 g _ (by omega) (by omega) hS3).mono ?_
                    rintro e v4 ⟨a, rfl, a1, a2, hS4, FN⟩
                    obtain ⟨a, rfl⟩ := Int.eq_ofNat_of_zero_le a1
                    have ha : a < 5 := by omega
                    have hai : (a : Int) < 5 := by omega
                    have hai0 : (0 : Int) ≤ (a : Int) := by omega
                    obtain ⟨Z, x, hz, hbad⟩ := HP.out a ha
                    have hF4 := hF3.same FN
                    have h9_4 := blk_fr h9_3 FN (by simp; omega)
                    have h3_4 := blk_fr h3_3 FN (by simp; omega)
                    have h12_4 := blk_fr h12_3 FN (by simp; omega)
                    refine hK.out _ _ ⟨hF4, hS4, blk_cell h9_4 0, blk_cell h3_4 0⟩ (fun hH1 => ?_)
                    clear hK KA hH0 hF3 hS3 FN h9_3 h3_3 h12_3
                    have hH0 := hH1
                    clear hH1
                    try simp only [Act.put, List.setIfInBounds_toArray, List.set_cons_zero, List.set_cons_succ, List.getElem_toArray, List.getElem_cons_zero, List.getElem_cons_succ]
                    refine wpAnyH_str (S' := fun W => Fr (some g) wc W ∧ SrcR 84 W g ∧ W.cell? ⟨v0.heap.size, 0, none⟩ = some (.int .u8 (48 + (j : Int))) ∧ W.cell? ⟨v1.heap.size, 0, none⟩ = some (.int .u8 (48 + (j : Int))) ∧ W.cell? ⟨v2.heap.size, a, none⟩ = some (.string Z)) (fun W h => ⟨h.1, h.2.1, h.2.2.1, h.2.2.2.1⟩) _ _ _ _ ?_
                    have hH0 : Fr (some g) wc v4 ∧ SrcR 84 v4 g ∧ v4.cell? ⟨v0.heap.size, 0, none⟩ = some (.int .u8 (48 + (j : Int))) ∧ v4.cell? ⟨v1.heap.size, 0, none⟩ = some (.int .u8 (48 + (j : Int))) ∧ v4.cell? ⟨v2.heap.size, a, none⟩ = some (.string Z) := ⟨hF4, hS4, blk_cell h9_4 0, blk_cell h3_4 0, (blk_cell h12_4 a).trans hz⟩
                    refine wpAnyH_take (i := 15) (v := ?_) rfl (by kernel_rfl) (by kernel_rfl) (by kernel_rfl) (fun _ _ _ h => h) (Or.inl ⟨by rfl, ?_⟩) (by assumption) ?_
                    rotate_left
                    · (intro W hW; (try dsimp only at hW); go_simp; try with_reducible rfl)
                    try simp only [Act.put, List.setIfInBounds_toArray, List.set_cons_zero, List.set_cons_succ, List.getElem_toArray, List.getElem_cons_zero, List.getElem_cons_succ]
                    refine wpAnyH_take (i := 16) (v := ?_) rfl (by kernel_rfl) (by kernel_rfl) (by kernel_rfl) (fun _ _ _ h => h) (Or.inl ⟨by rfl, ?_⟩) (by assumption) ?_
                    rotate_left
                    · (intro W hW; (try dsimp only at hW); go_simp; try with_reducible rfl)
                    try simp only [Act.put, List.setIfInBounds_toArray, List.set_cons_zero, List.set_cons_succ, List.getElem_toArray, List.getElem_cons_zero, List.getElem_cons_succ]
                    refine wpAnyH_take (i := 17) (v := ?_) rfl (by kernel_rfl) (by kernel_rfl) (by kernel_rfl) (fun _ _ _ h => h) (Or.inl ⟨by rfl, ?_⟩) (by assumption) ?_
                    rotate_left
                    · (intro W hW; (try dsimp only at hW); go_simp; try with_reducible rfl)
                    try simp only [Act.put, List.setIfInBounds_toArray, List.set_cons_zero, List.set_cons_succ, List.getElem_toArray, List.getElem_cons_zero, List.getElem_cons_succ]
                    refine wpAnyH_done (by kernel_rfl) ?_ _
                    go_wp2_with fail
                    go_meet
                    exact ⟨x, Z, rfl, hbad, hF4, hS4⟩
                · simp only [List.getElem_toArray, List.getElem_cons_zero, List.getElem_cons_succ]
                  go_simp
                  go_at_call 10
                  refine (tapeN_any 5 g _ (by omega) (by omega) hS2).mono ?_
                  rintro e v3 ⟨a, rfl, a1, a2, hS3, FN⟩
                  obtain ⟨a, rfl⟩ := Int.eq_ofNat_of_zero_le a1
                  have ha : a < 5 := by omega
                  have hai : (a : Int) < 5 := by omega
                  have hai0 : (0 : Int) ≤ (a : Int) := by omega
                  obtain ⟨Z, x, hz, hbad⟩ := HP.out a ha
                  have hF3 := hF2.same FN
                  have h9_3 := blk_fr h9_2 FN (by simp; omega)
                  have h3_3 := blk_fr h3_2 FN (by simp; omega)
                  refine hK.out _ _ ⟨hF3, hS3, blk_cell h9_3 0, blk_cell h3_3 0⟩ (fun hH1 => ?_)
                  clear hK KA hH0 hF2 hS2 FN h9_2 h3_2
                  have hH0 := hH1
                  clear hH1
                  try simp only [Act.put, List.setIfInBounds_toArray, List.set_cons_zero, List.set_cons_succ, List.getElem_toArray, List.getElem_cons_zero, List.getElem_cons_succ]
                  refine wpAnyH_ready (rs := [12]) (by kernel_rfl) (by simp) ?_
                  refine AllReadyH.cons rfl (fun KA hK => ?_) (AllReadyH.nil)
                  · simp only [List.getElem_toArray, List.getElem_cons_zero, List.getElem_cons_succ]
                    go_simp
                    generalize hW : World.alloc v3 _ = v4
                    have FN : Fr none v3 v4 := hW ▸ (Fr.refl none v3).alloc _
                    have h12_4 : v4.heap[v3.heap.size]? = some (.cells #[.string ⟨#[120, 10]⟩, .string ⟨#[10]⟩, .string ⟨#[48, 58, 49, 32, 111, 102, 32, 40, 48, 41, 10]⟩, .string X4, .string X5] 9 (0, 0)) := by rw [← hW]; exact blk_new _ _
                    clear hW
                    have n12 : g ≠ v3.heap.size := by have := hF3.size; omega
                    have hS4 := hS3.fr FN
                    have hF4 := hF3.pure FN
                    have h9_4 := blk_fr h9_3 FN (by simp)
                    have h3_4 := blk_fr h3_3 FN (by simp)
                    refine hK.out _ _ ⟨hF4, hS4, blk_cell h9_4 0, blk_cell h3_4 0⟩ (fun hH1 => ?_)
                    clear hK KA hH0 hF3 hS3 FN h9_3 h3_3
                    have hH0 := hH1
                    clear hH1
                    try simp only [Act.put, List.setIfInBounds_toArray, List.set_cons_zero, List.set_cons_succ, List.getElem_toArray, List.getElem_cons_zero, List.getElem_cons_succ]
                    refine wpAnyH_str (S' := fun W => Fr (some g) wc W ∧ SrcR 84 W g ∧ W.cell? ⟨v0.heap.size, 0, none⟩ = some (.int .u8 (48 + (j : Int))) ∧ W.cell? ⟨v1.heap.size, 0, none⟩ = some (.int .u8 (48 + (j : Int))) ∧ W.cell? ⟨v3.heap.size, a, none⟩ = some (.string Z)) (fun W h => ⟨h.1, h.2.1, h.2.2.1, h.2.2.2.1⟩) _ _ _ _ ?_
                    have hH0 : Fr (some g) wc v4 ∧ SrcR 84 v4 g ∧ v4.cell? ⟨v0.heap.size, 0, none⟩ = some (.int .u8 (48 + (j : Int))) ∧ v4.cell? ⟨v1.heap.size, 0, none⟩ = some (.int .u8 (48 + (j : Int))) ∧ v4.cell? ⟨v3.heap.size, a, none⟩ = some (.string Z) := ⟨hF4, hS4, blk_cell h9_4 0, blk_cell h3_4 0, (blk_cell h12_4 a).trans hz⟩
                    refine wpAnyH_take (i := 15) (v := ?_) rfl (by kernel_rfl) (by kernel_rfl) (by kernel_rfl) (fun _ _ _ h => h) (Or.inl ⟨by rfl, ?_⟩) (by assumption) ?_
                    rotate_left
                    · (intro W hW; (try dsimp only at hW); go_simp; try with_reducible rfl)
                    try simp only [Act.put, List.setIfInBounds_toArray, List.set_cons_zero, List.set_cons_succ, List.getElem_toArray, List.getElem_cons_zero, List.getElem_cons_succ]
                    refine wpAnyH_take (i := 16) (v := ?_) rfl (by kernel_rfl) (by kernel_rfl) (by kernel_rfl) (fun _ _ _ h => h) (Or.inl ⟨by rfl, ?_⟩) (by assumption) ?_
                    rotate_left
                    · (intro W hW; (try dsimp only at hW); go_simp; try with_reducible rfl)
                    try simp only [Act.put, List.setIfInBounds_toArray, List.set_cons_zero, List.set_cons_succ, List.getElem_toArray, List.getElem_cons_zero, List.getElem_cons_succ]
                    refine wpAnyH_take (i := 17) (v := ?_) rfl (by kernel_rfl) (by kernel_rfl) (by kernel_rfl) (fun _ _ _ h => h) (Or.inl ⟨by rfl, ?_⟩) (by assumption) ?_
                    rotate_left
                    · (intro W hW; (try dsimp only at hW); go_simp; try with_reducible rfl)
                    try simp only [Act.put, List.setIfInBounds_toArray, List.set_cons_zero, List.set_cons_succ, List.getElem_toArray, List.getElem_cons_zero, List.getElem_cons_succ]
                    refine wpAnyH_done (by kernel_rfl) ?_ _
                    go_wp2_with fail
                    go_meet
                    exact ⟨x, Z, rfl, hbad, hF4, hS4⟩
              · simp only [List.getElem_toArray, List.getElem_cons_zero, List.getElem_cons_succ]
                go_simp
                go_at_call 10
                refine (tapeN_any 5 g _ (by omega) (by omega) hS1).mono ?_
                rintro e v2 ⟨a, rfl, a1, a2, hS2, FN⟩
                obtain ⟨a, rfl⟩ := Int.eq_ofNat_of_zero_le a1
                have ha : a < 5 := by omega
                have hai : (a : Int) < 5 := by omega
                have hai0 : (0 : Int) ≤ (a : Int) := by omega
                obtain ⟨Z, x, hz, hbad⟩ := HP.out a ha
                have hF2 := hF1.same FN
                have h9_2 := blk_fr h9_1 FN (by simp; omega)
                refine hK.out _ _ ⟨hF2, hS2, blk_cell h9_2 0⟩ (fun hH1 => ?_)
                clear hK KA hH0 hF1 hS1 FN h9_1
                have hH0 := hH1
                clear hH1
                try simp only [Act.put, List.setIfInBounds_toArray, List.set_cons_zero, List.set_cons_succ, List.getElem_toArray, List.getElem_cons_zero, List.getElem_cons_succ]
                refine wpAnyH_ready (rs := [3]) (by kernel_rfl) (by simp) ?_
                refine AllReadyH.cons rfl (fun KA hK => ?_) (AllReadyH.nil)
                · simp only [List.getElem_toArray, List.getElem_cons_zero, List.getElem_cons_succ]
                  go_simp
                  generalize hW : World.alloc v2 _ = v3
                  have FN : Fr none v2 v3 := hW ▸ (Fr.refl none v2).alloc _
                  have h3_3 : v3.heap[v2.heap.size]? = some (.cells #[.int .u8 (48 + (j : Int))] 5 (0, 0)) := by rw [← hW]; exact blk_new _ _
                  clear hW
                  have n3 : g ≠ v2.heap.size := by have := hF2.size; omega
                  have hS3 := hS2.fr FN
                  have hF3 := hF2.pure FN
                  have h9_3 := blk_fr h9_2 FN (by simp)
                  refine hK.out _ _ ⟨hF3, hS3, blk_cell h9_3 0⟩ (fun hH1 => ?_)
                  clear hK KA hH0 hF2 hS2 FN h9_2
                  refine wpAnyH_str (S' := fun W => Fr (some g) wc W ∧ SrcR 84 W g ∧ W.cell? ⟨v0.heap.size, 0, none⟩ = some (.int .u8 (48 + (j : Int))) ∧ W.cell? ⟨v2.heap.size, 0, none⟩ = some (.int .u8 (48 + (j : Int)))) (fun W h => ⟨h.1, h.2.1, h.2.2.1⟩) _ _ _ _ ?_
                  have hH0 : Fr (some g) wc v3 ∧ SrcR 84 v3 g ∧ v3.cell? ⟨v0.heap.size, 0, none⟩ = some (.int .u8 (48 + (j : Int))) ∧ v3.cell? ⟨v2.heap.size, 0, none⟩ = some (.int .u8 (48 + (j : Int))) := ⟨hF3, hS3, blk_cell h9_3 0, blk_cell h3_3 0⟩
                  clear hH1
                  try simp only [Act.put, List.setIfInBounds_toArray, List.set_cons_zero, List.set_cons_succ, List.getElem_toArray, List.getElem_cons_zero, List.getElem_cons_succ]
                  refine wpAnyH_take (i := 4) (v := ?_) rfl (by kernel_rfl) (by kernel_rfl) (by kernel_rfl) (fun _ _ _ h => h) (Or.inl ⟨by rfl, ?_⟩) (by assumption) ?_
                  rotate_left
                  · (intro W hW; (try dsimp only at hW); go_simp; try with_reducible rfl)
                  try simp only [Act.put, List.setIfInBounds_toArray, List.set_cons_zero, List.set_cons_succ, List.getElem_toArray, List.getElem_cons_zero, List.getElem_cons_succ]
                  refine wpAnyH_take (i := 5) (v := ?_) rfl (by kernel_rfl) (by kernel_rfl) (by kernel_rfl) (fun _ _ _ h => h) (Or.inl ⟨by rfl, ?_⟩) (by assumption) ?_
                  rotate_left
                  · (intro W hW; (try dsimp only at hW); go_simp; try with_reducible rfl)
                  try simp only [Act.put, List.setIfInBounds_toArray, List.set_cons_zero, List.set_cons_succ, List.getElem_toArray, List.getElem_cons_zero, List.getElem_cons_succ]
                  refine wpAnyH_ready (rs := [12]) (by kernel_rfl) (by simp) ?_
                  refine AllReadyH.cons rfl (fun KA hK => ?_) (AllReadyH.nil)
                  · simp only [List.getElem_toArray, List.getElem_cons_zero, List.getElem_cons_succ]
                    go_simp
                    generalize hW : World.alloc v3 _ = v4
                    have FN : Fr none v3 v4 := hW ▸ (Fr.refl none v3).alloc _
                    have h12_4 : v4.heap[v3.heap.size]? = some (.cells #[.string ⟨#[120, 10]⟩, .string ⟨#[10]⟩, .string ⟨#[48, 58, 49, 32, 111, 102, 32, 40, 48, 41, 10]⟩, .string X4, .string X5] 9 (0, 0)) := by rw [← hW]; exact blk_new _ _
                    clear hW
                    have n12 : g ≠ v3.heap.size := by have := hF3.size; omega
                    have hS4 := hS3.fr FN
                    have hF4 := hF3.pure FN
                    have h9_4 := blk_fr h9_3 FN (by simp)
                    have h3_4 := blk_fr h3_3 FN (by simp)
                    refine hK.out _ _ ⟨hF4, hS4, blk_cell h9_4 0, blk_cell h3_4 0⟩ (fun hH1 => ?_)
                    clear hK KA hH0 hF3 hS3 FN h9_3 h3_3
                    have hH0 := hH1
                    clear hH1
                    try simp only [Act.put, List.setIfInBounds_toArray, List.set_cons_zero, List.set_cons_succ, List.getElem_toArray, List.getElem_cons_zero, List.getElem_cons_succ]
                    refine wpAnyH_str (S' := fun W => Fr (some g) wc W ∧ SrcR 84 W g ∧ W.cell? ⟨v0.heap.size, 0, none⟩ = some (.int .u8 (48 + (j : Int))) ∧ W.cell? ⟨v2.heap.size, 0, none⟩ = some (.int .u8 (48 + (j : Int))) ∧ W.cell? ⟨v3.heap.size, a, none⟩ = some (.string Z)) (fun W h => ⟨h.1, h.2.1, h.2.2.1, h.2.2.2.1⟩) _ _ _ _ ?_
                    have hH0 : Fr (some g) wc v4 ∧ SrcR 84 v4 g ∧ v4.cell? ⟨v0.heap.size, 0, none⟩ = some (.int .u8 (48 + (j : Int))) ∧ v4.cell? ⟨v2.heap.size, 0, none⟩ = some (.int .u8 (48 + (j : Int))) ∧ v4.cell? ⟨v3.heap.size, a, none⟩ = some (.string Z) := ⟨hF4, hS4, blk_cell h9_4 0, blk_cell h3_4 0, (blk_cell h12_4 a).trans hz⟩
                    refine wpAnyH_take (i := 15) (v := ?_) rfl (by kernel_rfl) (by kernel_rfl) (by kernel_rfl) (fun _ _ _ h => h) (Or.inl ⟨by rfl, ?_⟩) (by assumption) ?_
                    rotate_left
                    · (intro W hW; (try dsimp only at hW); go_simp; try with_reducible rfl)
                    try simp only [Act.put, List.setIfInBounds_toArray, List.set_cons_zero, List.set_cons_succ, List.getElem_toArray, List.getElem_cons_zero, List.getElem_cons_succ]
                    refine wpAnyH_take (i := 16) (v := ?_) rfl (by kernel_rfl) (by kernel_rfl) (by kernel_rfl) (fun _ _ _ h => h) (Or.inl ⟨by rfl, ?_⟩) (by assumption) ?_
                    rotate_left
                    · (intro W hW; (try dsimp only at hW); go_simp; try with_reducible rfl)
                    try simp only [Act.put, List.setIfInBounds_toArray, List.set_cons_zero, List.set_cons_succ, List.getElem_toArray, List.getElem_cons_zero, List.getElem_cons_succ]
                    refine wpAnyH_take (i := 17) (v := ?_) rfl (by kernel_rfl) (by kernel_rfl) (by kernel_rfl) (fun _ _ _ h => h) (Or.inl ⟨by rfl, ?_⟩) (by assumption) ?_
                    rotate_left
                    · (intro W hW; (try dsimp only at hW); go_simp; try with_reducible rfl)
                    try simp only [Act.put, List.setIfInBounds_toArray, List.set_cons_zero, List.set_cons_succ, List.getElem_toArray, List.getElem_cons_zero, List.getElem_cons_succ]
                    refine wpAnyH_done (by kernel_rfl) ?_ _
                    go_wp2_with fail
                    go_meet
                    exact ⟨x, Z, rfl, hbad, hF4, hS4⟩
            · simp only [List.getElem_toArray, List.getElem_cons_zero, List.getElem_cons_succ]
              go_simp
              go_at_call 10
              refine (tapeN_any 5 g _ (by omega) (by omega) hS0).mono ?_
              rintro e v1 ⟨a, rfl, a1, a2, hS1, FN⟩
              obtain ⟨a, rfl⟩ := Int.eq_ofNat_of_zero_le a1
              have ha : a < 5 := by omega
              have hai : (a : Int) < 5 := by omega
              have hai0 : (0 : Int) ≤ (a : Int) := by omega
              obtain ⟨Z, x, hz, hbad⟩ := HP.out a ha
              have hF1 := hF0.same FN
              refine hK.out _ _ ⟨hF1, hS1⟩ (fun hH1 => ?_)
              clear hK KA hH0 hF0 hS0 FN
              have hH0 := hH1
              clear hH1
              try simp only [Act.put, List.setIfInBounds_toArray, List.set_cons_zero, List.set_cons_succ, List.getElem_toArray, List.getElem_cons_zero, List.getElem_cons_succ]
              refine wpAnyH_ready (rs := [3, 9]) (by kernel_rfl) (by simp) ?_
              refine AllReadyH.cons rfl (fun KA hK => ?_) (AllReadyH.cons rfl (fun KA hK => ?_) (AllReadyH.nil))
              · simp only [List.getElem_toArray, List.getElem_cons_zero, List.getElem_cons_succ]
                go_simp
                generalize hW : World.alloc v1 _ = v2
                have FN : Fr none v1 v2 := hW ▸ (Fr.refl none v1).alloc _
                have h3_2 : v2.heap[v1.heap.size]? = some (.cells #[.int .u8 (48 + (j : Int))] 5 (0, 0)) := by rw [← hW]; exact blk_new _ _
                clear hW
                have n3 : g ≠ v1.heap.size := by have := hF1.size; omega
                have hS2 := hS1.fr FN
                have hF2 := hF1.pure FN
                refine hK.out _ _ ⟨hF2, hS2⟩ (fun hH1 => ?_)
                clear hK KA hH0 hF1 hS1 FN
                refine wpAnyH_str (S' := fun W => Fr (some g) wc W ∧ SrcR 84 W g ∧ W.cell? ⟨v1.heap.size, 0, none⟩ = some (.int .u8 (48 + (j : Int)))) (fun W h => ⟨h.1, h.2.1⟩) _ _ _ _ ?_
                have hH0 : Fr (some g) wc v2 ∧ SrcR 84 v2 g ∧ v2.cell? ⟨v1.heap.size, 0, none⟩ = some (.int .u8 (48 + (j : Int))) := ⟨hF2, hS2, blk_cell h3_2 0⟩
                clear hH1
                try simp only [Act.put, List.setIfInBounds_toArray, List.set_cons_zero, List.set_cons_succ, List.getElem_toArray, List.getElem_cons_zero, List.getElem_cons_succ]
                refine wpAnyH_take (i := 4) (v := ?_) rfl (by kernel_rfl) (by kernel_rfl) (by kernel_rfl) (fun _ _ _ h => h) (Or.inl ⟨by rfl, ?_⟩) (by assumption) ?_
                rotate_left
                · (intro W hW; (try dsimp only at hW); go_simp; try with_reducible rfl)
                try simp only [Act.put, List.setIfInBounds_toArray, List.set_cons_zero, List.set_cons_succ, List.getElem_toArray, List.getElem_cons_zero, List.getElem_cons_succ]
                refine wpAnyH_take (i := 5) (v := ?_) rfl (by kernel_rfl) (by kernel_rfl) (by kernel_rfl) (fun _ _ _ h => h) (Or.inl ⟨by rfl, ?_⟩) (by assumption) ?_
                rotate_left
                · (intro W hW; (try dsimp only at hW); go_simp; try with_reducible rfl)
                try simp only [Act.put, List.setIfInBounds_toArray, List.set_cons_zero, List.set_cons_succ, List.getElem_toArray, List.getElem_cons_zero, List.getElem_cons_succ]
                refine wpAnyH_ready (rs := [9]) (by kernel_rfl) (by simp) ?_
                refine AllReadyH.cons rfl (fun KA hK => ?_) (AllReadyH.nil)
                · simp only [List.getElem_toArray, List.getElem_cons_zero, List.getElem_cons_succ]
                  go_simp
                  generalize hW : World.alloc v2 _ = v3
                  have FN : Fr none v2 v3 := hW ▸ (Fr.refl none v2).alloc _
                  have h9_3 : v3.heap[v2.heap.size]? = some (.cells #[.int .u8 (48 + (j : Int))] 5 (0, 0)) := by rw [← hW]; exact blk_new _ _
                  clear hW
                  have n9 : g ≠ v2.heap.size := by have := hF2.size; omega
                  have hS3 := hS2.fr FN
                  have hF3 := hF2.pure FN
                  have h3_3 := blk_fr h3_2 FN (by simp)
                  refine hK.out _ _ ⟨hF3, hS3, blk_cell h3_3 0⟩ (fun hH1 => ?_)
                  clear hK KA hH0 hF2 hS2 FN h3_2
                  refine wpAnyH_str (S' := fun W => Fr (some g) wc W ∧ SrcR 84 W g ∧ W.cell? ⟨v1.heap.size, 0, none⟩ = some (.int .u8 (48 + (j : Int))) ∧ W.cell? ⟨v2.heap.size, 0, none⟩ = some (.int .u8 (48 + (j : Int)))) (fun W h => ⟨h.1, h.2.1, h.2.2.1⟩) _ _ _ _ ?_
                  have hH0 : Fr (some g) wc v3 ∧ SrcR 84 v3 g ∧ v3.cell? ⟨v1.heap.size, 0, none⟩ = some (.int .u8 (48 + (j : Int))) ∧ v3.cell? ⟨v2.heap.size, 0, none⟩ = some (.int .u8 (48 + (j : Int))) := ⟨hF3, hS3, blk_cell h3_3 0, blk_cell h9_3 0⟩
                  clear hH1
                  try simp only [Act.put, List.setIfInBounds_toArray, List.set_cons_zero, List.set_cons_succ, List.getElem_toArray, List.getElem_cons_zero, List.getElem_cons_succ]
                  refine wpAnyH_take (i := 10) (v := ?_) rfl (by kernel_rfl) (by kernel_rfl) (by kernel_rfl) (fun _ _ _ h => h) (Or.inl ⟨by rfl, ?_⟩) (by assumption) ?_
                  rotate_left
                  · (intro W hW; (try dsimp only at hW); go_simp; try with_reducible rfl)
                  try simp only [Act.put, List.setIfInBounds_toArray, List.set_cons_zero, List.set_cons_succ, List.getElem_toArray, List.getElem_cons_zero, List.getElem_cons_succ]
                  refine wpAnyH_take (i := 11) (v := ?_) rfl (by kernel_rfl) (by kernel_rfl) (by kernel_rfl) (fun _ _ _ h => h) (Or.inl ⟨by rfl, ?_⟩) (by assumption) ?_
                  rotate_left
                  · (intro W hW; (try dsimp only at hW); go_simp; try with_reducible rfl)
                  try simp only [Act.put, List.setIfInBounds_toArray, List.set_cons_zero, List.set_cons_succ, List.getElem_toArray, List.getElem_cons_zero, List.getElem_cons_succ]
                  refine wpAnyH_ready (rs := [12]) (by kernel_rfl) (by simp) ?_
                  refine AllReadyH.cons rfl (fun KA hK => ?_) (AllReadyH.nil)
                  · simp only [List.getElem_toArray, List.getElem_cons_zero, List.getElem_cons_succ]
                    go_simp
                    generalize hW : World.alloc v3 _ = v4
                    have FN : Fr none v3 v4 := hW ▸ (Fr.refl none v3).alloc _
                    have h12_4 : v4.heap[v3.heap.size]? = some (.cells #[.string ⟨#[120, 10]⟩, .string ⟨#[10]⟩, .string ⟨#[48, 58, 49, 32, 111, 102, 32, 40, 48, 41, 10]⟩, .string X4, .string X5] 9 (0, 0)) := by rw [← hW]; exact blk_new _ _
                    clear hW
                    have n12 : g ≠ v3.heap.size := by have := hF3.size; omega
                    have hS4 := hS3.fr FN
                    have hF4 := hF3.pure FN
                    have h3_4 := blk_fr h3_3 FN (by simp)
                    have h9_4 := blk_fr h9_3 FN (by simp)
                    refine hK.out _ _ ⟨hF4, hS4, blk_cell h3_4 0, blk_cell h9_4 0⟩ (fun hH1 => ?_)
                    clear hK KA hH0 hF3 hS3 FN h3_3 h9_3
                    have hH0 := hH1
                    clear hH1
                    try simp only [Act.put, List.setIfInBounds_toArray, List.set_cons_zero, List.set_cons_succ, List.getElem_toArray, List.getElem_cons_zero, List.getElem_cons_succ]
                    refine wpAnyH_str (S' := fun W => Fr (some g) wc W ∧ SrcR 84 W g ∧ W.cell? ⟨v1.heap.size, 0, none⟩ = some (.int .u8 (48 + (j : Int))) ∧ W.cell? ⟨v2.heap.size, 0, none⟩ = some (.int .u8 (48 + (j : Int))) ∧ W.cell? ⟨v3.heap.size, a, none⟩ = some (.string Z)) (fun W h => ⟨h.1, h.2.1, h.2.2.1, h.2.2.2.1⟩) _ _ _ _ ?_
                    have hH0 : Fr (some g) wc v4 ∧ SrcR 84 v4 g ∧ v4.cell? ⟨v1.heap.size, 0, none⟩ = some (.int .u8 (48 + (j : Int))) ∧ v4.cell? ⟨v2.heap.size, 0, none⟩ = some (.int .u8 (48 + (j : Int))) ∧ v4.cell? ⟨v3.heap.size, a, none⟩ = some (.string Z) := ⟨hF4, hS4, blk_cell h3_4 0, blk_cell h9_4 0, (blk_cell h12_4 a).trans hz⟩
                    refine wpAnyH_take (i := 15) (v := ?_) rfl (by kernel_rfl) (by kernel_rfl) (by kernel_rfl) (fun _ _ _ h => h) (Or.inl ⟨by rfl, ?_⟩) (by assumption) ?_
                    rotate_left
                    · (intro W hW; (try dsimp only at hW); go_simp; try with_reducible rfl)
                    try simp only [Act.put, List.setIfInBounds_toArray, List.set_cons_zero, List.set_cons_succ, List.getElem_toArray, List.getElem_cons_zero, List.getElem_cons_succ]
                    refine wpAnyH_take (i := 16) (v := ?_) rfl (by kernel_rfl) (by kernel_rfl) (by kernel_rfl) (fun _ _ _ h => h) (Or.inl ⟨by rfl, ?_⟩) (by assumption) ?_
                    rotate_left
                    · (intro W hW; (try dsimp only at hW); go_simp; try with_reducible rfl)
                    try simp only [Act.put, List.setIfInBounds_toArray, List.set_cons_zero, List.set_cons_succ, List.getElem_toArray, List.getElem_cons_zero, List.getElem_cons_succ]
                    refine wpAnyH_take (i := 17) (v := ?_) rfl (by kernel_rfl) (by kernel_rfl) (by kernel_rfl) (fun _ _ _ h => h) (Or.inl ⟨by rfl, ?_⟩) (by assumption) ?_
                    rotate_left
                    · (intro W hW; (try dsimp only at hW); go_simp; try with_reducible rfl)
                    try simp only [Act.put, List.setIfInBounds_toArray, List.set_cons_zero, List.set_cons_succ, List.getElem_toArray, List.getElem_cons_zero, List.getElem_cons_succ]
                    refine wpAnyH_done (by kernel_rfl) ?_ _
                    go_wp2_with fail
                    go_meet
                    exact ⟨x, Z, rfl, hbad, hF4, hS4⟩
              · simp only [List.getElem_toArray, List.getElem_cons_zero, List.getElem_cons_succ]
                go_simp
                generalize hW : World.alloc v1 _ = v2
                have FN : Fr none v1 v2 := hW ▸ (Fr.refl none v1).alloc _
                have h9_2 : v2.heap[v1.heap.size]? = some (.cells #[.int .u8 (48 + (j : Int))] 5 (0, 0)) := by rw [← hW]; exact blk_new _ _
                clear hW
                have n9 : g ≠ v1.heap.size := by have := hF1.size; omega
                have hS2 := hS1.fr FN
                have hF2 := hF1.pure FN
                refine hK.out _ _ ⟨hF2, hS2⟩ (fun hH1 => ?_)
                clear hK KA hH0 hF1 hS1 FN
                refine wpAnyH_str (S' := fun W => Fr (some g) wc W ∧ SrcR 84 W g ∧ W.cell? ⟨v1.heap.size, 0, none⟩ = some (.int .u8 (48 + (j : Int)))) (fun W h => ⟨h.1, h.2.1⟩) _ _ _ _ ?_
                have hH0 : Fr (some g) wc v2 ∧ SrcR 84 v2 g ∧ v2.cell? ⟨v1.heap.size, 0, none⟩ = some (.int .u8 (48 + (j : Int))) := ⟨hF2, hS2, blk_cell h9_2 0⟩
                clear hH1
                try simp only [Act.put, List.setIfInBounds_toArray, List.set_cons_zero, List.set_cons_succ, List.getElem_toArray, List.getElem_cons_zero, List.getElem_cons_succ]
                refine wpAnyH_take (i := 10) (v := ?_) rfl (by kernel_rfl) (by kernel_rfl) (by kernel_rfl) (fun _ _ _ h => h) (Or.inl ⟨by rfl, ?_⟩) (by assumption) ?_
                rotate_left
                · (intro W hW; (try dsimp only at hW); go_simp; try with_reducible rfl)
                try simp only [Act.put, List.setIfInBounds_toArray, List.set_cons_zero, List.set_cons_succ, List.getElem_toArray, List.getElem_cons_zero, List.getElem_cons_succ]
                refine wpAnyH_take (i := 11) (v := ?_) rfl (by kernel_rfl) (by kernel_rfl) (by kernel_rfl) (fun _ _ _ h => h) (Or.inl ⟨by rfl, ?_⟩) (by assumption) ?_
                rotate_left
                · (intro W hW; (try dsimp only at hW); go_simp; try with_reducible rfl)
                try simp only [Act.put, List.setIfInBounds_toArray, List.set_cons_zero, List.set_cons_succ, List.getElem_toArray, List.getElem_cons_zero, List.getElem_cons_succ]
                refine wpAnyH_ready (rs := [3]) (by kernel_rfl) (by simp) ?_
                refine AllReadyH.cons rfl (fun KA hK => ?_) (AllReadyH.nil)
                · simp only [List.getElem_toArray, List.getElem_cons_zero, List.getElem_cons_succ]
                  go_simp
                  generalize hW : World.alloc v2 _ = v3
                  have FN : Fr none v2 v3 := hW ▸ (Fr.refl none v2).alloc _
                  have h3_3 : v3.heap[v2.heap.size]? = some (.cells #[.int .u8 (48 + (j : Int))] 5 (0, 0)) := by rw [← hW]; exact blk_new _ _
                  clear hW
                  have n3 : g ≠ v2.heap.size := by have := hF2.size; omega
                  have hS3 := hS2.fr FN
                  have hF3 := hF2.pure FN
                  have h9_3 := blk_fr h9_2 FN (by simp)
                  refine hK.out _ _ ⟨hF3, hS3, blk_cell h9_3 0⟩ (fun hH1 => ?_)
                  clear hK KA hH0 hF2 hS2 FN h9_2
                  refine wpAnyH_str (S' := fun W => Fr (some g) wc W ∧ SrcR 84 W g ∧ W.cell? ⟨v1.heap.size, 0, none⟩ = some (.int .u8 (48 + (j : Int))) ∧ W.cell? ⟨v2.heap.size, 0, none⟩ = some (.int .u8 (48 + (j : Int)))) (fun W h => ⟨h.1, h.2.1, h.2.2.1⟩) _ _ _ _ ?_
                  have hH0 : Fr (some g) wc v3 ∧ SrcR 84 v3 g ∧ v3.cell? ⟨v1.heap.size, 0, none⟩ = some (.int .u8 (48 + (j : Int))) ∧ v3.cell? ⟨v2.heap.size, 0, none⟩ = some (.int .u8 (48 + (j : Int))) := ⟨hF3, hS3, blk_cell h9_3 0, blk_cell h3_3 0⟩
                  clear hH1
                  try simp only [Act.put, List.setIfInBounds_toArray, List.set_cons_zero, List.set_cons_succ, List.getElem_toArray, List.getElem_cons_zero, List.getElem_cons_succ]
                  refine wpAnyH_take (i := 4) (v := ?_) rfl (by kernel_rfl) (by kernel_rfl) (by kernel_rfl) (fun _ _ _ h => h) (Or.inl ⟨by rfl, ?_⟩) (by assumption) ?_
                  rotate_left
                  · (intro W hW; (try dsimp only at hW); go_simp; try with_reducible rfl)
                  try simp only [Act.put, List.setIfInBounds_toArray, List.set_cons_zero, List.set_cons_succ, List.getElem_toArray, List.getElem_cons_zero, List.getElem_cons_succ]
                  refine wpAnyH_take (i := 5) (v := ?_) rfl (by kernel_rfl) (by kernel_rfl) (by kernel_rfl) (fun _ _ _ h => h) (Or.inl ⟨by rfl, ?_⟩) (by assumption) ?_
                  rotate_left
                  · (intro W hW; (try dsimp only at hW); go_simp; try with_reducible rfl)
                  try simp only [Act.put, List.setIfInBounds_toArray, List.set_cons_zero, List.set_cons_succ, List.getElem_toArray, List.getElem_cons_zero, List.getElem_cons_succ]
                  refine wpAnyH_ready (rs := [12]) (by kernel_rfl) (by simp) ?_
                  refine AllReadyH.cons rfl (fun KA hK => ?_) (AllReadyH.nil)
                  · simp only [List.getElem_toArray, List.getElem_cons_zero, List.getElem_cons_succ]
                    go_simp
                    generalize hW : World.alloc v3 _ = v4
                    have FN : Fr none v3 v4 := hW ▸ (Fr.refl none v3).alloc _
                    have h12_4 : v4.heap[v3.heap.size]? = some (.cells #[.string ⟨#[120, 10]⟩, .string ⟨#[10]⟩, .string ⟨#[48, 58, 49, 32, 111, 102, 32, 40, 48, 41, 10]⟩, .string X4, .string X5] 9 (0, 0)) := by rw [← hW]; exact blk_new _ _
                    clear hW
                    have n12 : g ≠ v3.heap.size := by have := hF3.size; omega
                    have hS4 := hS3.fr FN
                    have hF4 := hF3.pure FN
                    have h9_4 := blk_fr h9_3 FN (by simp)
                    have h3_4 := blk_fr h3_3 FN (by simp)
                    refine hK.out _ _ ⟨hF4, hS4, blk_cell h9_4 0, blk_cell h3_4 0⟩ (fun hH1 => ?_)
                    clear hK KA hH0 hF3 hS3 FN h9_3 h3_3
                    have hH0 := hH1
                    clear hH1
                    try simp only [Act.put, List.setIfInBounds_toArray, List.set_cons_zero, List.set_cons_succ, List.getElem_toArray, List.getElem_cons_zero, List.getElem_cons_succ]
                    refine wpAnyH_str (S' := fun W => Fr (some g) wc W ∧ SrcR 84 W g ∧ W.cell? ⟨v1.heap.size, 0, none⟩ = some (.int .u8 (48 + (j : Int))) ∧ W.cell? ⟨v2.heap.size, 0, none⟩ = some (.int .u8 (48 + (j : Int))) ∧ W.cell? ⟨v3.heap.size, a, none⟩ = some (.string Z)) (fun W h => ⟨h.1, h.2.1, h.2.2.1, h.2.2.2.1⟩) _ _ _ _ ?_
                    have hH0 : Fr (some g) wc v4 ∧ SrcR 84 v4 g ∧ v4.cell? ⟨v1.heap.size, 0, none⟩ = some (.int .u8 (48 + (j : Int))) ∧ v4.cell? ⟨v2.heap.size, 0, none⟩ = some (.int .u8 (48 + (j : Int))) ∧ v4.cell? ⟨v3.heap.size, a, none⟩ = some (.string Z) := ⟨hF4, hS4, blk_cell h9_4 0, blk_cell h3_4 0, (blk_cell h12_4 a).trans hz⟩
                    refine wpAnyH_take (i := 15) (v := ?_) rfl (by kernel_rfl) (by kernel_rfl) (by kernel_rfl) (fun _ _ _ h => h) (Or.inl ⟨by rfl, ?_⟩) (by assumption) ?_
                    rotate_left
                    · (intro W hW; (try dsimp only at hW); go_simp; try with_reducible rfl)
                    try simp only [Act.put, List.setIfInBounds_toArray, List.set_cons_zero, List.set_cons_succ, List.getElem_toArray, List.getElem_cons_zero, List.getElem_cons_succ]
                    refine wpAnyH_take (i := 16) (v := ?_) rfl (by kernel_rfl) (by kernel_rfl) (by kernel_rfl) (fun _ _ _ h => h) (Or.inl ⟨by rfl, ?_⟩) (by assumption) ?_
                    rotate_left
                    · (intro W hW; (try dsimp only at hW); go_simp; try with_reducible rfl)
                    try simp only [Act.put, List.setIfInBounds_toArray, List.set_cons_zero, List.set_cons_succ, List.getElem_toArray, List.getElem_cons_zero, List.getElem_cons_succ]
                    refine wpAnyH_take (i := 17) (v := ?_) rfl (by kernel_rfl) (by kernel_rfl) (by kernel_rfl) (fun _ _ _ h => h) (Or.inl ⟨by rfl, ?_⟩) (by assumption) ?_
                    rotate_left
                    · (intro W hW; (try dsimp only at hW); go_simp; try with_reducible rfl)
                    try simp only [Act.put, List.setIfInBounds_toArray, List.set_cons_zero, List.set_cons_succ, List.getElem_toArray, List.getElem_cons_zero, List.getElem_cons_succ]
                    refine wpAnyH_done (by kernel_rfl) ?_ _
                    go_wp2_with fail
                    go_meet
                    exact ⟨x, Z, rfl, hbad, hF4, hS4⟩
            -- LINES END
          case rest =>
            obtain ⟨x, Z, rfl, HZ, Fq, Sq⟩ := hcut
            have hZs : Z.size ≤ 12 := by rw [HZ.out.2, bs_size]; have := bad_len HZ.out.1; simp; omega
            obtain ⟨X3, H3, z3, a3⟩ := str_add V Z (by omega) (by omega)
            go_wp2_with fail
            go_roundw
            case rel => exact ⟨j + 1, G ++ [dg j :: gN], B ++ [x], X2, X3, by omega, by go_num, rfl, rfl, F0c.same Fq, Sq, by
              obtain ⟨e1, e2, e3⟩ := HG.out
              refine ⟨by rw [H2.out, HX1.out, e1, flat_snoc, bs_app], by simp [e2], fun i hi => ?_⟩
              rcases Nat.lt_or_ge i G.length with h | h
              · rw [List.getElem_append_left h]; exact e3 i h
              · obtain rfl : i = G.length := by simp at hi; omega
                simp only [List.getElem_append_right (Nat.le_refl _), Nat.sub_self, List.getElem_cons_zero]
                rw [e2]; exact hgood, by
              obtain ⟨e1, e2, e3, e4⟩ := HB.out
              refine ⟨by rw [H3.out, HZ.out.2, e1, flat_snoc, bs_app], by simp [e2], fun i hi hik => ?_, fun hi => ?_⟩
              · rcases Nat.lt_or_ge i B.length with h | h
                · rw [List.getElem_append_left h]; exact e3 i h hik
                · exact absurd (show i = j by simp at hi; omega) hik
              · have hb := HZ.out.1
                revert hi
                rw [← e2]
                intro hi
                simp only [List.getElem_append_right (Nat.le_refl _), Nat.sub_self, List.getElem_cons_zero]
                rw [e2]; exact hb, by omega, by omega⟩
            case measure => simp [intOf]; omega
        · have hne : ((j : Int) == (k : Int)) = false := by rw [beq_eq_false_iff_ne]; omega
          obtain ⟨X3, H3, z3, a3⟩ := str_add V X1 (by omega) (by omega)
          go_wp2_with fail
          go_roundw
          case rel => exact ⟨j + 1, G ++ [dg j :: gN], B ++ [dg j :: gN], X2, X3, by omega, by go_num, rfl, rfl, F0c, Sc, by
            obtain ⟨e1, e2, e3⟩ := HG.out
            refine ⟨by rw [H2.out, HX1.out, e1, flat_snoc, bs_app], by simp [e2], fun i hi => ?_⟩
            rcases Nat.lt_or_ge i G.length with h | h
            · rw [List.getElem_append_left h]; exact e3 i h
            · obtain rfl : i = G.length := by simp at hi; omega
              simp only [List.getElem_append_right (Nat.le_refl _), Nat.sub_self, List.getElem_cons_zero]
              rw [e2]; exact hgood, by
            obtain ⟨e1, e2, e3, e4⟩ := HB.out
            refine ⟨by rw [H3.out, HX1.out, e1, flat_snoc, bs_app], by simp [e2], fun i hi hik => ?_, fun hi => ?_⟩
            · rcases Nat.lt_or_ge i B.length with h | h
              · rw [List.getElem_append_left h]; exact e3 i h hik
              · obtain rfl : i = B.length := by simp at hi; omega
                simp only [List.getElem_append_right (Nat.le_refl _), Nat.sub_self, List.getElem_cons_zero]
                rw [e2]; exact hgood
            · have h : k < B.length := by simp at hi; omega
              rw [List.getElem_append_left h]; exact e4 h, by omega, by omega⟩
          case measure => simp [intOf]; omega
    · obtain rfl : j = L.length := by omega
      have F0 := F03.own F (fun q hq => by injection hq with hq; omega)
      have M0 := hM.fr F0
      have T0 := hT.fr F0
      have hG0 : G ≠ [] := by intro e; have := HG.out.2.1; rw [e] at this; simp at this; omega
      have hpg := parseL_good hG0 (by have := HG.out.2.1; omega) HG.out.2.2
      obtain ⟨e2, he2, hpb⟩ := parseL_bad (k := k) (by rw [HB.out.2.1]; exact hk1) (by have := HB.out.2.1; omega) HB.out.2.2.1 (HB.out.2.2.2 _)
      have hlG : (flatL G).length ≤ 1073741824 := by have := HG.out.1; rw [this, bs_size] at hU; omega
      have hlB : (flatL B).length ≤ 1073741824 := by have := HB.out.1; rw [this, bs_size] at hV; omega
      have p1 : (parseC (flatL G)).2.1 = 0 := by rw [hpg]
      have p2 : (parseC (flatL G)).2.2 = 0 := by rw [hpg]
      have HPB := Lib.hid hpb
      have HP1 := Lib.hid p1
      have HP2 := Lib.hid p2
      have hne2 : (e2 != 0) = true := by rw [bne_iff_ne]; exact he2
      clear hpg hpb p1 p2
      go_wp2_with fail
      refine (cparse_any (flatL G) U HG.out.1 _ hlG M0).mono ?_
      rintro e wp ⟨vp, rfl, hp, Fp⟩
      obtain ⟨Ap, cp, rfl⟩ := hp.shape
      rw [HP1.out, HP2.out]
      generalize (parseC (flatL G)).1.length = N1
      clear hp
      go_wp2_with fail
      have Fa := Fp.alloc (.cells #[.slice Ap N1 cp] 27)
      refine (cparse_any (flatL B) V HB.out.1 _ hlB (M0.fr Fa)).mono ?_
      rintro e wq ⟨vq, rfl, hq, Fq⟩
      obtain ⟨Aq, cq, rfl⟩ := hq.shape
      rw [HPB.out]
      simp only
      clear hq
      go_wp2_with fail
      have Fb := (Fa.pure Fq).alloc (.cells #[.slice Aq ([] : List Mb).length cq] 27)
      refine (awake6_any _ (T0.fr Fb) (M0.fr Fb)).mono ?_
      rintro e wx ⟨rfl, Fx⟩
      go_wp2_with fail
      go_ret
      exact ⟨rfl, (F0.pure Fb).pure Fx⟩
end Go.Proofs.YtoblhcieidljjaaGreatDoor

/- Some texts of this claim, joined: contracts of the functions that it reaches, and plain laws. -/
import Derived.Test.YtoblhcieidljjaaGreatDoorProg
import Derived.Test.YtoblhcieidljjaaGreatDoorJDA25
import Derived.Test.YtoblhcieidljjaaGreatDoorJDA20
import Derived.Test.YtoblhcieidljjaaGreatDoorJDA9

set_option linter.unusedSimpArgs false
set_option linter.unusedVariables false
/- Walks: the reference's Parse of layer 3. -/
namespace Go.Proofs.YtoblhcieidljjaaGreatDoor
open Go.RowKit

set_option maxRecDepth 100000 in
set_option maxHeartbeats 4000000 in
theorem rparse_any (S : ByteArray) (w : World) : Calls Tryz.prog 93 #[.string S] w (GotP (parseP S.data.toList) w) := by
  by_cases hlen : 6000 < S.size
  · have hp : parseP S.data.toList = .no 0 3 := by unfold parseP; rw [if_pos (by rw [← size_list]; exact hlen)]
    rw [hp]
    go_enter Tryz.func93, Tryz.ntmps93
    go_wp2_with fail
    refine bodyPost_ret (v := .tuple #[.agg #[.int .i64 0, .slice none 0 0, .slice none 0 0], .int .i64 0, .int .i64 3]) (by simp [results, Tryz.results93, go_sem]) rfl ?_
    exact ⟨_, _, _, _, _, _, _, 0, _, rfl, (Fr.refl _ _).alloc _, by omega, rfl, rfl, rfl⟩
  · obtain ⟨p, hp⟩ : ∃ p, p = wholeP S.data.toList := ⟨_, rfl⟩
    obtain ⟨o, v⟩ := p
    have hS : S.size ≤ 6001 := by omega
    have HP := Lib.hid hp.symm
    have hlen2 : S.size ≤ 6000 := by omega
    clear hp hlen
    go_enter Tryz.func93, Tryz.ntmps93
    go_wp2_with fail
    generalize hW : (w.alloc _).alloc _ = w1
    have hz : w1.heap.size = w.heap.size + 2 := by rw [← hW]; simp
    have F1 : Fr none w w1 := hW ▸ ((Fr.refl _ w).alloc _).alloc _
    have b2 : TB w1 w.heap.size (.int .i64 0) (.slice none 0 0) (.slice none 0 0) := by
      rw [← hW]; exact (Below.heap_alloc _ _ _ (by simp)).trans (blk_new _ _)
    have b5 : RfB w1 (w.heap.size + 1) S 0 := by
      rw [← hW]; exact blk_new_at (by simp) _
    clear hW
    have S1 : RfK w1 (w.heap.size + 1) S (skp S.data.toList) := ⟨0, b5, by omega, by simp⟩
    clear b5
    cases hnum : numP (skp S.data.toList) with
    | none =>
      have hW0 : wholeP S.data.toList = (none, skp S.data.toList) := by simp only [wholeP, hnum]
      have HW0 := Lib.hid (parse_none hlen2 hW0)
      have HN := Lib.hid hnum
      clear hnum HP hW0
      refine (rnumber_no (w.heap.size + 1) S _ _ S1 hS HN.out).mono ?_
      rintro e w2 ⟨rfl, S2, F2⟩
      have FA := (Fr.refl none w2).alloc (.cells #[.int .i64 0, .slice none 0 0, .slice none 0 0] 31)
      have S3 := S2.fr FA (by simp)
      have F3 := (F1.own F2 (by simp)).pure FA
      have b3 := (b2.fr F2 (by simp)).fr FA (by simp)
      clear S1 S2 b2
      go_wp2_with fail
      generalize hW : w2.alloc _ = w3 at *
      clear hW FA
      refine (rskip_any (w.heap.size + 1) S _ _ S3 hS).mono ?_
      rintro e w4 ⟨rfl, ⟨k, B, q1, q2⟩, F4⟩
      have b4 := b3.fr F4 (by simp)
      have R2 := b4.cell
      have Z2 := b4.free
      have hl4 : w.heap.size < w4.heap.size := blk_lt b4
      have FG : Fr none w w4 := F3.own F4 (by simp)
      have HQ := Lib.hid q1
      have RB := B.cell
      have hk : k ≤ S.size := by omega
      have hne : ¬ w.heap.size = w.heap.size + 1 := by omega
      clear q1 q2 b3 S3 F4 F3
      go_wp2_with fail
      go_region
      all_goals
        go_wp2_with fail
        refine bodyPost_ret (v := .tuple #[.agg #[.int .i64 0, .slice none 0 0, .slice none 0 0], .int .i64 (k : Int), .int .i64 2]) (by simp [results, Tryz.results93, go_sem, R2]) rfl ?_
        have hq := HQ.out
        refine ⟨_, _, _, _, _, _, _, k, _, rfl, ?_, by omega, ?_⟩
        · exact (FG.own (fr_fill3 w4 w.heap.size _ _ _) (by simp)).drew
        · rw [HW0.out]
          exact ⟨by omega, rfl, rfl⟩
    | some n =>
      obtain ⟨hv1, hk9⟩ := num_lt hnum
      have hE := HP.out
      simp only [wholeP, hnum] at hE
      have HN := Lib.hid hnum
      have HE := Lib.hid hE
      have hsl := skp_len S.data.toList
      rw [← size_list] at hsl
      have hsn := nxt_le (skp S.data.toList)
      clear hnum hE
      refine (rnumber_yes (w.heap.size + 1) S _ n _ S1 hS HN.out).mono ?_
      rintro e w2 ⟨rfl, S2, F2⟩
      have FA := (Fr.refl none w2).alloc (.cells #[.int .i64 0, .slice none 0 0, .slice none 0 0] 31)
      have b6 : TB (w2.alloc (.cells #[.int .i64 0, .slice none 0 0, .slice none 0 0] 31)) w2.heap.size (.int .i64 0) (.slice none 0 0) (.slice none 0 0) := blk_new _ _
      have S3 := S2.fr FA (by simp)
      have F3 := (F1.own F2 (by simp)).pure FA
      have b3 := (b2.fr F2 (by simp)).fr FA (by simp)
      have hz2 := F2.size
      clear S1 S2 b2
      go_wp2_with fail
      generalize hW : w2.alloc _ = w4 at *
      have hz4 : w4.heap.size = w2.heap.size + 1 := by rw [← hW]; simp
      clear hW FA
      refine (rrest_any (S.data.toList.length + 1) n (w.heap.size + 1) S _ _ (by rw [← size_list]; omega) hk9 S3 hS).mono ?_
      rintro e w5 ⟨th, a1, n1, e1, a2, n2, e2, b, rfl, hb, S5, F5, hT⟩
      have hrs := restP_size (S.data.toList.length + 1) n (nxt (skp S.data.toList))
      rw [HE.out] at hb S5 hT hrs
      simp only at hb S5 hT
      have hz5 := F5.size
      have c6 := b6.fr F5 (by simp; omega)
      have c2 := b3.fr F5 (by simp)
      have R6 := c6.cell
      have Z6 := c6.free
      have hl6 := blk_lt c6
      have FB : Fr none w w5 := F3.own F5 (by simp)
      clear b6 b3 S3 F3
      cases o with
      | none =>
        obtain rfl : b = false := hb
        go_upto_region 8 with (fail)
        have G := fr_fill3 w5 w2.heap.size (.int .i64 th) (.slice a1 n1 e1) (.slice a2 n2 e2)
        generalize hWG : World.setCell (World.setCell (World.setCell w5 _ _) _ _) _ _ = w6 at G ⊢
        have SG := S5.fr G (by simp; omega)
        have c2G := c2.fr G (by simp; omega)
        have FG6 : Fr none w w6 := FB.own G (by simp; omega)
        have HW0 := Lib.hid (parse_none hlen2 HP.out)
        clear hT R6 Z6 c2 S5 F5 hWG hrs HP c6 hl6
        go_wp2_with fail
        refine (rskip_any (w.heap.size + 1) S _ _ SG hS).mono ?_
        rintro e w7 ⟨rfl, ⟨k, B, q1, q2⟩, F7⟩
        have b4 := c2G.fr F7 (by simp)
        have R2 := b4.cell
        have Z2 := b4.free
        have hl4 : w.heap.size < w7.heap.size := blk_lt b4
        have FG : Fr none w w7 := FG6.own F7 (by simp)
        have HQ := Lib.hid q1
        have RB := B.cell
        have hk : k ≤ S.size := by omega
        have hne : ¬ w.heap.size = w.heap.size + 1 := by omega
        clear q1 q2 c2G SG F7 FG6
        go_wp2_with fail
        go_region
        all_goals
          go_wp2_with fail
          refine bodyPost_ret (v := .tuple #[.agg #[.int .i64 0, .slice none 0 0, .slice none 0 0], .int .i64 (k : Int), .int .i64 2]) (by simp [results, Tryz.results93, go_sem, R2]) rfl ?_
          have hq := HQ.out
          refine ⟨_, _, _, _, _, _, _, k, _, rfl, ?_, by omega, ?_⟩
          · exact (FG.own (fr_fill3 w7 w.heap.size _ _ _) (by simp)).drew
          · rw [HW0.out]
            exact ⟨by omega, rfl, rfl⟩
      | some t =>
        obtain rfl : b = true := hb
        have hts := hrs t v rfl
        go_upto_region 8 with (fail)
        have G := fr_fill3 w5 w2.heap.size (.int .i64 th) (.slice a1 n1 e1) (.slice a2 n2 e2)
        have d6 := (((show TB w5 w2.heap.size _ _ _ from c6).set0 (.int .i64 th)).set1 (.slice a1 n1 e1)).set2 (.slice a2 n2 e2)
        generalize hWG : World.setCell (World.setCell (World.setCell w5 _ _) _ _) _ _ = w6 at G d6 ⊢
        have SG := S5.fr G (by simp; omega)
        have c2G := c2.fr G (by simp; omega)
        have FG6 : Fr none w w6 := FB.own G (by simp; omega)
        have hTG := TrD.keep (dn_fr (B := w4.heap.size) G (by simp; omega)) _ _ (hT t rfl)
        clear hT R6 Z6 c2 S5 F5 hWG hrs c6 hl6
        go_wp2_with fail
        refine (rskip_any (w.heap.size + 1) S _ _ SG hS).mono ?_
        rintro e w7 ⟨rfl, ⟨k, B, q1, q2⟩, F7⟩
        have d7 := d6.fr F7 (by simp; omega)
        have b4 := c2G.fr F7 (by simp)
        have R2 := b4.cell
        have Z2 := b4.free
        have hl4 : w.heap.size < w7.heap.size := blk_lt b4
        have hz7 := F7.size
        have hz6 := G.size
        have hTG := TrD.keep (dn_fr (B := w4.heap.size) F7 (by simp; omega)) _ _ hTG
        have FG : Fr none w w7 := FG6.own F7 (by simp)
        have HQ := Lib.hid q1
        have RB := B.cell
        have hk : k ≤ S.size := by omega
        have hne : ¬ w.heap.size = w.heap.size + 1 := by omega
        clear q2 c2G SG F7 FG6 G d6
        cases v with
        | cons c0 r0 =>
          have HW0 := Lib.hid (parse_more hlen2 HP.out (by simp))
          have hk2 : k < S.size := by simp at q1; omega
          clear q1 HP
          go_wp2_with fail
          go_region
          all_goals
            go_wp2_with fail
            refine bodyPost_ret (v := .tuple #[.agg #[.int .i64 0, .slice none 0 0, .slice none 0 0], .int .i64 (k : Int), .int .i64 2]) (by simp [results, Tryz.results93, go_sem, R2]) rfl ?_
            have hq := HQ.out
            refine ⟨_, _, _, _, _, _, _, k, _, rfl, ?_, by omega, ?_⟩
            · exact (FG.own (fr_fill3 w7 w.heap.size _ _ _) (by simp)).drew
            · rw [HW0.out]
              exact ⟨by omega, rfl, rfl⟩
        | nil =>
          have hk2 : S.size ≤ k := by simp at q1; omega
          have R7 := d7.cell
          have hT0 : TrR w7 none (.agg #[.int .i64 th, .slice a1 n1 e1, .slice a2 n2 e2]) t := TrD.keep (dn_dm (by simp)) _ _ hTG
          clear q1
          by_cases hv : validE t = 0
          · have HW0 := Lib.hid (parse_good hlen2 HP.out hv)
            have hv0 : (validE t != 0) = false := by rw [bne_eq_false_iff_eq]; exact hv
            have HV := Lib.hid hv
            clear HP hv
            go_wp2_with fail
            refine (rvalidT_any t _ _ none (by omega) hT0).mono ?_
            rintro e w8 ⟨rfl, F8⟩
            have R8 := (d7.fr F8 (by simp)).cell
            have R9 := (b4.fr F8 (by simp)).cell
            have Z9 := (b4.fr F8 (by simp)).free
            have hl7 := blk_lt (b4.fr F8 (by simp))
            clear R7 R2 Z2 RB
            go_wp2_with fail
            refine bodyPost_ret (v := .tuple #[.agg #[.int .i64 th, .slice a1 n1 e1, .slice a2 n2 e2], .int .i64 0, .int .i64 0]) (by simp [results, Tryz.results93, go_sem, R9]) rfl ?_
            have G2 := fr_fill3 w8 w.heap.size (.int .i64 th) (.slice a1 n1 e1) (.slice a2 n2 e2)
            refine ⟨_, _, _, _, _, _, _, 0, _, rfl, (FG.pure F8).own G2 (by simp), by omega, ?_⟩
            rw [HW0.out]
            exact ⟨rfl, rfl, TrD.keep (dn_mono (by omega)) _ _ (TrD.keep (dn_fr G2 (by simp; omega)) _ _ (TrD.keep (dn_fr F8 (by simp)) _ _ hTG)), HV.out⟩
          · have HW0 := Lib.hid (parse_bad hlen2 HP.out hv)
            have hv0 : (validE t != 0) = true := by rw [bne_iff_ne]; exact hv
            clear HP hv
            go_wp2_with fail
            refine (rvalidT_any t _ _ none (by omega) hT0).mono ?_
            rintro e w8 ⟨rfl, F8⟩
            have R9 := (b4.fr F8 (by simp)).cell
            have Z9 := (b4.fr F8 (by simp)).free
            have hl7 := blk_lt (b4.fr F8 (by simp))
            clear R7 R2 Z2 RB
            go_wp2_with fail
            refine bodyPost_ret (v := .tuple #[.agg #[.int .i64 0, .slice none 0 0, .slice none 0 0], .int .i64 0, .int .i64 (validE t)]) (by simp [results, Tryz.results93, go_sem, R9]) rfl ?_
            have G2 := fr_fill3 w8 w.heap.size (.int .i64 0) (.slice none 0 0) (.slice none 0 0)
            refine ⟨_, _, _, _, _, _, _, 0, _, rfl, (FG.pure F8).own G2 (by simp), by omega, ?_⟩
            rw [HW0.out]
            exact ⟨rfl, rfl, rfl⟩
end Go.Proofs.YtoblhcieidljjaaGreatDoor

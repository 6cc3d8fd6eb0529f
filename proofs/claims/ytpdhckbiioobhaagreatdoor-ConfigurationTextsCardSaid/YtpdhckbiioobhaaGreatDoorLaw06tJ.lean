/- The law ConfigurationTexts: its walk. -/
import Derived.Test.YtpdhckbiioobhaaGreatDoorProg
import Derived.Test.YtpdhckbiioobhaaGreatDoorJG32
import Derived.Test.YtpdhckbiioobhaaGreatDoorCprPJ
import Derived.Test.YtpdhckbiioobhaaGreatDoorCsmWJ
set_option linter.unusedSimpArgs false
set_option linter.unusedVariables false
namespace Go.Proofs.YtpdhckbiioobhaaGreatDoor
open Go.RowKit

theorem lineT_len {n k : Nat} {m : Mb} (hk : k < 10) (h : MbOk n m) : (lineT k m).length ≤ 2500 := by
  have h1 : (Lib.itoa (k : Int)).length ≤ 4 := itoa_len4 ⟨by omega, by omega⟩
  unfold lineT begL
  cases hd : m.dec with
  | true =>
    have hv := (h.1 hd).1
    have h2 := valid_len hv
    have : textT m.tr = txT m.tr := by unfold textT; rw [if_pos hv]
    simp only [if_true, List.length_append, List.length_cons, List.length_nil, this]
    omega
  | false => simp only [Bool.false_eq_true, if_false, List.length_append, List.length_cons, List.length_nil]; omega
theorem textL_lenT {L : List Mb} (hn : L.length ≤ 10) (h : ∀ m ∈ L, MbOk L.length m) : ∀ j, j ≤ L.length → (textL (L.take j)).length ≤ j * 2500
  | 0, _ => by simp [textL]
  | j + 1, hj => by
    have ih := textL_lenT hn h j (by omega)
    have h2 := lineT_len (k := j) (by omega) (h _ (List.getElem_mem (show j < L.length by omega)))
    rw [textL_take L j (by omega), List.length_append]
    omega
theorem textL_len {L : List Mb} (hn : L.length ≤ 10) (h : ∀ m ∈ L, MbOk L.length m) : (textL L).length ≤ 25000 := by
  have := textL_lenT hn h L.length (Nat.le_refl _)
  rw [List.take_length] at this
  omega
theorem text_inj {L K : List Mb} (hL : L ≠ []) (hn : L.length ≤ 10) (h : ∀ m ∈ L, MbOk L.length m) (hK : K ≠ []) (hn' : K.length ≤ 10) (h' : ∀ m ∈ K, MbOk K.length m) (hl : (textL L).length ≤ 6000) : textL L = textL K ↔ L = K := by
  constructor
  · intro e
    have h1 := parse_text hL hn h hl
    have h2 := parse_text hK hn' h' (by rw [← e]; exact hl)
    rw [e, h2] at h1
    injection h1 with h1 _
    exact h1.symm
  · intro e; rw [e]
set_option maxRecDepth 100000 in
set_option maxHeartbeats 8000000 in
theorem law06t_any (v : Value) (l : List Int) (w : World) (hl : SlI w none v l) (hT : Tab w) (hM : Mxl w) : Calls Tryz.prog 11 #[v] w fun e w' => e = .returned (.bool true) ∧ Fr none w w' := by
  go_enter Tryz.func11, Tryz.ntmps11
  go_wp2_with fail
  refine (tapeNew_any _ _ _ hl).mono ?_
  rintro e w1 ⟨g, rfl, hg, S1, F1⟩
  have hg1 := S1.lt
  clear hl
  go_wp2_with fail
  refine (mkconfig_any 10 g _ (by omega) (by omega) S1).mono ?_
  rintro e w2 ⟨vc, L, rfl, hc, hL1, hL10, hok, S2, F2⟩
  obtain ⟨A, c, rfl⟩ := hc.shape
  have hz2 := F2.size
  go_wp2_with fail
  refine (mkconfig_any 2 g _ (by omega) (by omega) S2).mono ?_
  rintro e w3 ⟨vk, K, rfl, hk, hK1, hK2, hok', S3, F3⟩
  obtain ⟨A', c', rfl⟩ := hk.shape
  have hz3 := F3.size
  have F03 := F1.own (F2.same F3) (fun q hq => by injection hq with hq; omega)
  have hc3 : CfD w3 (Dm w3 none) (.agg #[.slice A L.length c]) L := hc.keep (fun k hk => ⟨⟨by have := hk.2; omega, by simp⟩, F3.block k hk.2 (by have := hk.1; simp; omega)⟩)
  have hk3 : CfD w3 (Dm w3 none) (.agg #[.slice A' K.length c']) K := hk.keep (dn_dm (by simp))
  have HOK := Lib.hid hok
  have HOK' := Lib.hid hok'
  clear S1 S2 S3 F1 F2 F3 hc hk hok hok' hg hg1 hz2 hz3
  go_upto_region 3 with (fail)
  generalize hW : (w3.alloc _).alloc _ = w4
  have F4 : Fr none w3 w4 := hW ▸ ((Fr.refl _ w3).alloc _).alloc _
  have b4 : CB w4 w3.heap.size (.slice A L.length c) := by rw [← hW]; exact (Below.heap_alloc _ _ _ (by simp)).trans (blk_new _ _)
  have b5 : CB w4 (w3.heap.size + 1) (.slice A' K.length c') := by rw [← hW]; exact blk_new_at (by simp) _
  clear hW
  have F04 := F03.pure F4
  have hc4 := hc3.fr F4
  have hk4 := hk3.fr F4
  have T4 := hT.fr F04
  have M4 := hM.fr F04
  have R4 := b4.cell
  have l4 := blk_lt b4
  have hLV : validC L = 0 := validC_ok (by omega) HOK.out
  have hKV : validC K = 0 := validC_ok (by omega) HOK'.out
  have hLz : ∀ m ∈ L, m.tr.size ≤ 1073741000 := fun m hm => by have := mbok_size (HOK.out m hm); omega
  have hKz : ∀ m ∈ K, m.tr.size ≤ 1073741000 := fun m hm => by have := mbok_size (HOK'.out m hm); omega
  have hLne : L ≠ [] := by intro e; rw [e] at hL1; simp at hL1
  have hKne : K ≠ [] := by intro e; rw [e] at hK1; simp at hK1
  have hLT : textC L = textL L := by unfold textC; rw [if_pos hLV]
  have hKT : textC K = textL K := by unfold textC; rw [if_pos hKV]
  obtain ⟨S, hS⟩ : ∃ S, S = bs (textL L) := ⟨_, rfl⟩
  have HLT := Lib.hid hLT
  have HKT := Lib.hid hKT
  have HS := Lib.hid hS
  have hSz : S.size = (textL L).length := by rw [hS, bs_size]
  have HPT : Hid ((textL L).length ≤ 6000 → parseC (textL L) = (L, 0, 0)) := parse_text hLne (by omega) HOK.out
  have HTI : Hid ((textL L).length ≤ 6000 → (textL L = textL K ↔ L = K)) := text_inj hLne (by omega) HOK.out hKne (by omega) HOK'.out
  have hlt : (textL L).length ≤ 1073741824 := by have := textL_len (by omega) HOK.out; omega
  clear hc3 hk3 F03 F4 hT hM hLV hKV hLT hKT hS
  go_wp2_with fail
  refine (ctext_any L _ _ hc4 hLz (by omega) T4).mono ?_
  rintro e w5 ⟨rfl, F5⟩
  rw [HLT.out, ← HS.out]
  have F05 := F04.pure F5
  have b45 := b4.fr F5 (by simp)
  have b55 := b5.fr F5 (by simp)
  have hc5 := hc4.fr F5
  have hk5 := hk4.fr F5
  have T5 := T4.fr F5
  have M5 := M4.fr F5
  clear R4 l4 b4 b5 hc4 hk4 T4 M4 F04
  go_wp2_with fail
  refine (cparse_any (textL L) S HS.out _ hlt M5).mono ?_
  rintro e w6 ⟨vp, rfl, hp, F6⟩
  have F06 := F05.pure F6
  have b46 := b45.fr F6 (by simp)
  have b56 := b55.fr F6 (by simp)
  have hc6 := hc5.fr F6
  have hk6 := hk5.fr F6
  have T6 := T5.fr F6
  have M6 := M5.fr F6
  clear b45 b55 hc5 hk5 T5 M5 F05
  by_cases h6 : 6000 < (textL L).length
  · have hpp : parseC (textL L) = ([], 0, 3) := by unfold parseC; rw [if_pos h6]
    rw [hpp] at hp
    rw [hpp]
    have hd : decide ((6000 : Int) < (S.size : Int)) = true := decide_eq_true (by omega)
    obtain ⟨Ap, cp, rfl⟩ := hp.shape
    clear hpp h6 hSz hp
    simp only
    go_wp2_with fail
    have FA := (Fr.refl none w6).alloc (.cells #[.slice Ap 0 cp] 27)
    refine (awake6_any _ (T6.fr FA) (M6.fr FA)).mono ?_
    rintro e w9 ⟨rfl, F9⟩
    go_wp2_with fail
    go_ret
    exact ⟨rfl, (F06.pure FA).pure F9⟩
  · have hpp := HPT.out (by omega)
    have hti := HTI.out (by omega)
    rw [hpp] at hp
    rw [hpp]
    have hd : decide ((6000 : Int) < (S.size : Int)) = false := decide_eq_false (by omega)
    simp only at hp ⊢
    obtain ⟨Ap, cp, rfl⟩ := hp.shape
    have hp6 : CfD w6 (Dm w6 none) (.agg #[.slice Ap L.length cp]) L := hp.keep (dn_dm (by simp))
    have HTI := Lib.hid hti
    clear hpp h6 hSz hp hti
    go_upto_region 7 with (fail)
    generalize hW : w6.alloc _ = w7
    have F7 : Fr none w6 w7 := hW ▸ (Fr.refl none w6).alloc _
    have b79 : CB w7 w6.heap.size (.slice Ap L.length cp) := by rw [← hW]; exact blk_new _ _
    clear hW
    have b49 := b46.fr F7 (by simp)
    have b59 := b56.fr F7 (by simp)
    have hc7 := hc6.fr F7
    have hk7 := hk6.fr F7
    have hp7 := hp6.fr F7
    have T7 := T6.fr F7
    have M7 := M6.fr F7
    have F07 := F06.pure F7
    have l4 := blk_lt b49
    have l5 := blk_lt b59
    have l7 := blk_lt b79
    clear hc6 hk6 hp6 T6 M6 F06 F7 b46 b56
    go_cut [2] (fun s2 wq => s2 = .bool true ∧ Fr none w7 wq)
    case first =>
      refine wp_region_held_drew (S := fun W => (∀ i, W.cell? ⟨w3.heap.size, i, none⟩ = (#[.slice A L.length c] : Array Value)[i]?) ∧ (∀ i, W.cell? ⟨w3.heap.size + 1, i, none⟩ = (#[.slice A' K.length c'] : Array Value)[i]?) ∧ (∀ i, W.cell? ⟨w6.heap.size, i, none⟩ = (#[.slice Ap L.length cp] : Array Value)[i]?) ∧ Fr none w7 W) (by kernel_rfl) ⟨b49.cell, b59.cell, b79.cell, (Fr.refl _ _).drew⟩ (fun hH0 => ?_)
      refine wpAnyH_take (i := 0) (v := ?_) rfl (by kernel_rfl) (by kernel_rfl) (by kernel_rfl) (fun _ _ _ h => h) (Or.inl ⟨by rfl, ?_⟩) (by assumption) ?_
      rotate_left
      · (intro W hW; (try dsimp only at hW); go_simp; try with_reducible rfl)
      try simp only [Act.put, List.setIfInBounds_toArray, List.set_cons_zero, List.set_cons_succ, List.getElem_toArray, List.getElem_cons_zero, List.getElem_cons_succ]
      refine wpAnyH_take (i := 1) (v := ?_) rfl (by kernel_rfl) (by kernel_rfl) (by kernel_rfl) (fun _ _ _ h => h) (Or.inl ⟨by rfl, ?_⟩) (by assumption) ?_
      rotate_left
      · (intro W hW; (try dsimp only at hW); go_simp; try with_reducible rfl)
      try simp only [Act.put, List.setIfInBounds_toArray, List.set_cons_zero, List.set_cons_succ, List.getElem_toArray, List.getElem_cons_zero, List.getElem_cons_succ]
      refine wpAnyH_take (i := 2) (v := ?_) rfl (by kernel_rfl) (by kernel_rfl) (by kernel_rfl) (fun _ _ _ h => h) (Or.inl ⟨by rfl, ?_⟩) (by assumption) ?_
      rotate_left
      · (intro W hW; (try dsimp only at hW); go_simp; try with_reducible rfl)
      try simp only [Act.put, List.setIfInBounds_toArray, List.set_cons_zero, List.set_cons_succ, List.getElem_toArray, List.getElem_cons_zero, List.getElem_cons_succ]
      refine wpAnyH_take (i := 3) (v := ?_) rfl (by kernel_rfl) (by kernel_rfl) (by kernel_rfl) (fun _ _ _ h => h) (Or.inl ⟨by rfl, ?_⟩) (by assumption) ?_
      rotate_left
      · (intro W hW; (try dsimp only at hW); go_simp; try with_reducible rfl)
      try simp only [Act.put, List.setIfInBounds_toArray, List.set_cons_zero, List.set_cons_succ, List.getElem_toArray, List.getElem_cons_zero, List.getElem_cons_succ]
      refine wpAnyH_take (i := 4) (v := ?_) rfl (by kernel_rfl) (by kernel_rfl) (by kernel_rfl) (fun _ _ _ h => h) (Or.inl ⟨by rfl, ?_⟩) (by assumption) ?_
      rotate_left
      · (intro W hW; (try dsimp only at hW); go_simp; try with_reducible rfl)
      try simp only [Act.put, List.setIfInBounds_toArray, List.set_cons_zero, List.set_cons_succ, List.getElem_toArray, List.getElem_cons_zero, List.getElem_cons_succ]
      refine wpAnyH_take (i := 5) (v := ?_) rfl (by kernel_rfl) (by kernel_rfl) (by kernel_rfl) (fun _ _ _ h => h) (Or.inl ⟨by rfl, ?_⟩) (by assumption) ?_
      rotate_left
      · (intro W hW; (try dsimp only at hW); go_simp; try with_reducible rfl)
      try simp only [Act.put, List.setIfInBounds_toArray, List.set_cons_zero, List.set_cons_succ, List.getElem_toArray, List.getElem_cons_zero, List.getElem_cons_succ]
      refine wpAnyH_take (i := 6) (v := ?_) rfl (by kernel_rfl) (by kernel_rfl) (by kernel_rfl) (fun _ _ _ h => h) (Or.inl ⟨by rfl, ?_⟩) (by assumption) ?_
      rotate_left
      · (intro W hW; (try dsimp only at hW); go_simp; try with_reducible rfl)
      try simp only [Act.put, List.setIfInBounds_toArray, List.set_cons_zero, List.set_cons_succ, List.getElem_toArray, List.getElem_cons_zero, List.getElem_cons_succ]
      refine wpAnyH_take (i := 7) (v := ?_) rfl (by kernel_rfl) (by kernel_rfl) (by kernel_rfl) (fun _ _ _ h => h) (Or.inl ⟨by rfl, ?_⟩) (by assumption) ?_
      rotate_left
      · (intro W hW; (try dsimp only at hW); go_simp; try with_reducible rfl)
      try simp only [Act.put, List.setIfInBounds_toArray, List.set_cons_zero, List.set_cons_succ, List.getElem_toArray, List.getElem_cons_zero, List.getElem_cons_succ]
      refine wpAnyH_take (i := 8) (v := ?_) rfl (by kernel_rfl) (by kernel_rfl) (by kernel_rfl) (fun _ _ _ h => h) (Or.inl ⟨by rfl, ?_⟩) (by assumption) ?_
      rotate_left
      · (intro W hW; (try dsimp only at hW); go_simp; try with_reducible rfl)
      try simp only [Act.put, List.setIfInBounds_toArray, List.set_cons_zero, List.set_cons_succ, List.getElem_toArray, List.getElem_cons_zero, List.getElem_cons_succ]
      refine wpAnyH_ready (rs := [9]) (by kernel_rfl) (by simp) ?_
      refine AllReadyH.cons rfl (fun K0 hK => ?_) AllReadyH.nil
      simp only [List.getElem_toArray, List.getElem_cons_zero, List.getElem_cons_succ]
      go_simp
      go_at_call 46
      refine (rsameC_any L L _ _ _ (hc7.fr hH0.2.2.2) (hp7.fr hH0.2.2.2) (by omega) (by omega)).mono ?_
      rintro e wa ⟨rfl, Fa⟩
      rw [(sameC_iff _ _).2 rfl]
      have FN := hH0.2.2.2.pure Fa
      refine hK.out _ _ ⟨(b49.fr FN (by simp)).cell, (b59.fr FN (by simp)).cell, (b79.fr FN (by simp)).cell, FN⟩ (fun hH1 => ?_)
      clear hK K0 hH0 FN
      have hH0 := hH1
      clear hH1
      try simp only [Act.put, List.setIfInBounds_toArray, List.set_cons_zero, List.set_cons_succ, List.getElem_toArray, List.getElem_cons_zero, List.getElem_cons_succ]
      refine wpAnyH_take (i := 10) (v := ?_) rfl (by kernel_rfl) (by kernel_rfl) (by kernel_rfl) (fun _ _ _ h => h) (Or.inl ⟨by rfl, ?_⟩) (by assumption) ?_
      rotate_left
      · (intro W hW; (try dsimp only at hW); go_simp; try with_reducible rfl)
      try simp only [Act.put, List.setIfInBounds_toArray, List.set_cons_zero, List.set_cons_succ, List.getElem_toArray, List.getElem_cons_zero, List.getElem_cons_succ]
      refine wpAnyH_take (i := 11) (v := ?_) rfl (by kernel_rfl) (by kernel_rfl) (by kernel_rfl) (fun _ _ _ h => h) (Or.inl ⟨by rfl, ?_⟩) (by assumption) ?_
      rotate_left
      · (intro W hW; (try dsimp only at hW); go_simp; try with_reducible rfl)
      try simp only [Act.put, List.setIfInBounds_toArray, List.set_cons_zero, List.set_cons_succ, List.getElem_toArray, List.getElem_cons_zero, List.getElem_cons_succ]
      refine wpAnyH_take (i := 12) (v := ?_) rfl (by kernel_rfl) (by kernel_rfl) (by kernel_rfl) (fun _ _ _ h => h) (Or.inl ⟨by rfl, ?_⟩) (by assumption) ?_
      rotate_left
      · (intro W hW; (try dsimp only at hW); go_simp; try with_reducible rfl)
      try simp only [Act.put, List.setIfInBounds_toArray, List.set_cons_zero, List.set_cons_succ, List.getElem_toArray, List.getElem_cons_zero, List.getElem_cons_succ]
      refine wpAnyH_take (i := 13) (v := ?_) rfl (by kernel_rfl) (by kernel_rfl) (by kernel_rfl) (fun _ _ _ h => h) (Or.inl ⟨by rfl, ?_⟩) (by assumption) ?_
      rotate_left
      · (intro W hW; (try dsimp only at hW); go_simp; try with_reducible rfl)
      try simp only [Act.put, List.setIfInBounds_toArray, List.set_cons_zero, List.set_cons_succ, List.getElem_toArray, List.getElem_cons_zero, List.getElem_cons_succ]
      refine wpAnyH_take (i := 16) (v := ?_) rfl (by kernel_rfl) (by kernel_rfl) (by kernel_rfl) (fun _ _ _ h => h) (Or.inl ⟨by rfl, ?_⟩) (by assumption) ?_
      rotate_left
      · (intro W hW; (try dsimp only at hW); go_simp; try with_reducible rfl)
      try simp only [Act.put, List.setIfInBounds_toArray, List.set_cons_zero, List.set_cons_succ, List.getElem_toArray, List.getElem_cons_zero, List.getElem_cons_succ]
      refine wpAnyH_take (i := 17) (v := ?_) rfl (by kernel_rfl) (by kernel_rfl) (by kernel_rfl) (fun _ _ _ h => h) (Or.inl ⟨by rfl, ?_⟩) (by assumption) ?_
      rotate_left
      · (intro W hW; (try dsimp only at hW); go_simp; try with_reducible rfl)
      try simp only [Act.put, List.setIfInBounds_toArray, List.set_cons_zero, List.set_cons_succ, List.getElem_toArray, List.getElem_cons_zero, List.getElem_cons_succ]
      refine wpAnyH_ready (rs := [14]) (by kernel_rfl) (by simp) ?_
      refine AllReadyH.cons rfl (fun K0 hK => ?_) AllReadyH.nil
      simp only [List.getElem_toArray, List.getElem_cons_zero, List.getElem_cons_succ]
      go_simp
      go_at_call 49
      refine (ctext_any K _ _ (hk7.fr hH0.2.2.2) hKz (by omega) (T7.fr hH0.2.2.2)).mono ?_
      rintro e wb ⟨rfl, Fb⟩
      rw [HKT.out]
      have FN := hH0.2.2.2.pure Fb
      refine hK.out _ _ ⟨(b49.fr FN (by simp)).cell, (b59.fr FN (by simp)).cell, (b79.fr FN (by simp)).cell, FN⟩ (fun hH1 => ?_)
      clear hK K0 hH0 FN
      have hH0 := hH1
      clear hH1
      try simp only [Act.put, List.setIfInBounds_toArray, List.set_cons_zero, List.set_cons_succ, List.getElem_toArray, List.getElem_cons_zero, List.getElem_cons_succ]
      refine wpAnyH_take (i := 15) (v := ?_) rfl (by kernel_rfl) (by kernel_rfl) (by kernel_rfl) (fun _ _ _ h => h) (Or.inl ⟨by rfl, ?_⟩) (by assumption) ?_
      rotate_left
      · (intro W hW; (try dsimp only at hW); go_simp; try with_reducible rfl)
      try simp only [Act.put, List.setIfInBounds_toArray, List.set_cons_zero, List.set_cons_succ, List.getElem_toArray, List.getElem_cons_zero, List.getElem_cons_succ]
      generalize hXX : (S.toList == (bs (textL K)).toList) = X
      have hX : X = sameC L K := by
        rw [← hXX, HS.out, ByteArray.toList_eq, ByteArray.toList_eq, bs_list, bs_list, Bool.eq_iff_iff, beq_iff_eq, sameC_iff]
        exact HTI.out
      subst hX
      have HXX := Lib.hid hXX
      clear hXX
      have he : (sameC L K == sameC L K) = true := by simp
      refine wpAnyH_ready (rs := [18]) (by kernel_rfl) (by simp) ?_
      refine AllReadyH.cons rfl (fun K0 hK => ?_) AllReadyH.nil
      simp only [List.getElem_toArray, List.getElem_cons_zero, List.getElem_cons_succ]
      go_simp
      go_at_call 50
      refine (csame_any L K _ _ _ (hc7.fr hH0.2.2.2) (hk7.fr hH0.2.2.2) (by omega) (by omega)).mono ?_
      rintro e wc ⟨rfl, Fc⟩
      have FN := hH0.2.2.2.pure Fc
      refine hK.out _ _ ⟨(b49.fr FN (by simp)).cell, (b59.fr FN (by simp)).cell, (b79.fr FN (by simp)).cell, FN⟩ (fun hH1 => ?_)
      clear hK K0 hH0 FN
      have hH0 := hH1
      clear hH1
      try simp only [Act.put, List.setIfInBounds_toArray, List.set_cons_zero, List.set_cons_succ, List.getElem_toArray, List.getElem_cons_zero, List.getElem_cons_succ]
      refine wpAnyH_take (i := 19) (v := ?_) rfl (by kernel_rfl) (by kernel_rfl) (by kernel_rfl) (fun _ _ _ h => h) (Or.inl ⟨by rfl, ?_⟩) (by assumption) ?_
      rotate_left
      · (intro W hW; (try dsimp only at hW); go_simp; try with_reducible rfl)
      try simp only [Act.put, List.setIfInBounds_toArray, List.set_cons_zero, List.set_cons_succ, List.getElem_toArray, List.getElem_cons_zero, List.getElem_cons_succ]
      refine wpAnyH_take (i := 20) (v := ?_) rfl (by kernel_rfl) (by kernel_rfl) (by kernel_rfl) (fun _ _ _ h => h) (Or.inl ⟨by rfl, ?_⟩) (by assumption) ?_
      rotate_left
      · (intro W hW; (try dsimp only at hW); go_simp; try with_reducible rfl)
      try simp only [Act.put, List.setIfInBounds_toArray, List.set_cons_zero, List.set_cons_succ, List.getElem_toArray, List.getElem_cons_zero, List.getElem_cons_succ]
      refine wpAnyH_take (i := 21) (v := ?_) rfl (by kernel_rfl) (by kernel_rfl) (by kernel_rfl) (fun _ _ _ h => h) (Or.inl ⟨by rfl, ?_⟩) (by assumption) ?_
      rotate_left
      · (intro W hW; (try dsimp only at hW); go_simp; try with_reducible rfl)
      try simp only [Act.put, List.setIfInBounds_toArray, List.set_cons_zero, List.set_cons_succ, List.getElem_toArray, List.getElem_cons_zero, List.getElem_cons_succ]
      refine wpAnyH_ready (rs := [22]) (by kernel_rfl) (by simp) ?_
      refine AllReadyH.cons rfl (fun K0 hK => ?_) AllReadyH.nil
      simp only [List.getElem_toArray, List.getElem_cons_zero, List.getElem_cons_succ]
      go_simp
      go_at_call 18
      refine (awake6_any _ (T7.fr hH0.2.2.2) (M7.fr hH0.2.2.2)).mono ?_
      rintro e wd ⟨rfl, Fd⟩
      have FN := hH0.2.2.2.pure Fd
      refine hK.out _ _ ⟨(b49.fr FN (by simp)).cell, (b59.fr FN (by simp)).cell, (b79.fr FN (by simp)).cell, FN⟩ (fun hH1 => ?_)
      clear hK K0 hH0 FN
      have hH0 := hH1
      clear hH1
      try simp only [Act.put, List.setIfInBounds_toArray, List.set_cons_zero, List.set_cons_succ, List.getElem_toArray, List.getElem_cons_zero, List.getElem_cons_succ]
      refine wpAnyH_take (i := 23) (v := ?_) rfl (by kernel_rfl) (by kernel_rfl) (by kernel_rfl) (fun _ _ _ h => h) (Or.inl ⟨by rfl, ?_⟩) (by assumption) ?_
      rotate_left
      · (intro W hW; (try dsimp only at hW); go_simp; try with_reducible rfl)
      try simp only [Act.put, List.setIfInBounds_toArray, List.set_cons_zero, List.set_cons_succ, List.getElem_toArray, List.getElem_cons_zero, List.getElem_cons_succ]
      refine wpAnyH_take (i := 24) (v := ?_) rfl (by kernel_rfl) (by kernel_rfl) (by kernel_rfl) (fun _ _ _ h => h) (Or.inl ⟨by rfl, ?_⟩) (by assumption) ?_
      rotate_left
      · (intro W hW; (try dsimp only at hW); go_simp; try with_reducible rfl)
      try simp only [Act.put, List.setIfInBounds_toArray, List.set_cons_zero, List.set_cons_succ, List.getElem_toArray, List.getElem_cons_zero, List.getElem_cons_succ]
      refine wpAnyH_done (by kernel_rfl) ?_ _
      go_wp2_with fail
      go_meet
      exact ⟨rfl, hH0.2.2.2⟩
    case rest =>
      obtain ⟨rfl, Fq⟩ := hcut
      go_wp2_with fail
      go_ret
      exact ⟨rfl, F07.pure Fq⟩
end Go.Proofs.YtpdhckbiioobhaaGreatDoor

/- Some texts of this claim, joined: contracts of the functions that it reaches, and plain laws. -/
import Derived.Test.YtoblhcieidljjaaGreatDoorProg
import Derived.Test.YtoblhcieidljjaaGreatDoorJG4
import Derived.Test.YtoblhcieidljjaaGreatDoorJG5
import Derived.Test.YtoblhcieidljjaaGreatDoorJG8
import Derived.Test.YtoblhcieidljjaaGreatDoorJG11
import Derived.Test.YtoblhcieidljjaaGreatDoorShelf
import Derived.Sort.OwnSortedInts
import Derived.Shelf.Slices.In.SortNone

set_option linter.unusedSimpArgs false
set_option linter.unusedVariables false
/- Walks: trustquorummake.most, group: trusts out of the tape. -/
namespace Go.Proofs.YtoblhcieidljjaaGreatDoor
open Go.RowKit

theorem okT_valid {t : Tr} (h : OkT t) (hd : t.dep ≤ 4) (hs : t.size ≤ 200) : validE t = 0 := by
  have ho := (okT_iff _).2 h
  unfold validE
  rw [if_neg (by omega)]
  exact ho
/-- A flat trust over some nodes. -/
theorem flat_ok {n : Nat} {th : Int} {L : List Int} (hn : n ≤ 10) (hL : ∀ x ∈ L, ∃ i : Nat, x = i ∧ i < n) (hd : L.Nodup) (hl : L.length ≤ 100) (h1 : 1 ≤ th) (h2 : th ≤ L.length) : OkT (.mk th L []) ∧ validE (.mk th L []) = 0 ∧ nodesIn n (.mk th L []) := by
  have ho : OkT (.mk th L []) := by
    rw [okT_mk]
    refine ⟨h1, by simp; omega, fun x hx => ?_, hd, by simp⟩
    obtain ⟨i, rfl, hi⟩ := hL x hx
    constructor <;> omega
  refine ⟨ho, okT_valid ho (by simp [Tr.dep, depL]) (by simp [Tr.size, sizeL]; omega), ?_⟩
  simp only [nodesIn, nodesInL]
  refine ⟨fun x hx => ?_, trivial⟩
  obtain ⟨i, rfl, hi⟩ := hL x hx
  constructor <;> omega

set_option maxRecDepth 100000 in
set_option maxHeartbeats 2000000 in
theorem most_any (n g : Nat) (w : World) (hn1 : 1 ≤ n) (hn2 : n ≤ 10) (S0 : SrcR 84 w g) :
    Calls Tryz.prog 59 #[.pointer (some ⟨g, 0, none⟩), .int .i64 n] w (GenP w g n 1) := by
  have hg := S0.lt
  go_enter Tryz.func59, Tryz.ntmps59
  go_wp2_with fail
  generalize hW : (w.alloc _).alloc _ = w1
  have hz : w1.heap.size = w.heap.size + 2 := by rw [← hW]; simp
  have F1 : Fr none w w1 := hW ▸ ((Fr.refl _ w).alloc _).alloc _
  have b6 : TB w1 w.heap.size (.int .i64 0) (.slice none 0 0) (.slice none 0 0) := by
    rw [← hW]; exact (Below.heap_alloc _ _ _ (by simp)).trans (blk_new _ _)
  have b7 : TB w1 (w.heap.size + 1) (.int .i64 0) (.slice none 0 0) (.slice none 0 0) := by
    rw [← hW]; exact blk_new_at (by simp) _
  have S1 := S0.fr F1
  clear hW S0
  go_loopw [6] (fun s6 wr => ∃ (j : Nat) (L : List Int) (A : Option Addr) (c : Nat), j ≤ n ∧ s6 = .int .i64 (j : Int) ∧ Fr (some g) w wr ∧ w.heap.size + 2 ≤ wr.heap.size ∧ SrcR 84 wr g ∧ TB wr w.heap.size (.int .i64 0) (.slice none 0 0) (.slice none 0 0) ∧ TB wr (w.heap.size + 1) (.int .i64 0) (.slice A L.length c) (.slice none 0 0) ∧
    wr.ownsRow (w.heap.size + 2) 3 1 (.slice A L.length c) L.length (L.map (Value.int .i64)) ∧ Hid (∀ x ∈ L, ∃ i : Nat, x = i ∧ i < j) ∧ Hid L.Nodup ∧ L.length ≤ j) (fun s6 _ => n - (intOf s6).toNat)
  case atStart => exact ⟨0, [], none, 0, Nat.zero_le _, rfl, F1.mono (r := some g), by omega, S1, b6, b7, World.ownsRow_nil _ _ _ _, Lib.hid (by simp), List.nodup_nil, Nat.le_refl _⟩
  case round =>
    clear b6 b7 S1 F1 hz
    obtain ⟨j, L, A, c, hj, rfl, F, hz, S, K6, K7, own, HR, HD, hLj⟩ := hrel
    by_cases hlt : j < n
    · go_wp2_with fail
      refine (tapeN_any 10 g _ (by omega) (by omega) S).mono ?_
      rintro e w3 ⟨x, rfl, x1, x2, S3, F3⟩
      have hz3 := F3.size
      have K6' := K6.fr F3 (by simp; omega)
      have K7' := K7.fr F3 (by simp; omega)
      have own3 := own_fr own F3 (by simp; omega)
      have F' := F.same F3
      have R7 := K7'.cell
      have Z7 := K7'.free
      have l7 := blk_lt K7'
      clear own K6 K7 S F F3
      by_cases hx : x < 9
      · go_wp2_with (at_builtin; refine app_lit eiInt rfl _ _ rfl (w.heap.size + 2) A L.length c _ rfl own3 1 [.int .i64 (j : Int)] _ _ rfl (by simp) rfl (by simp [Value.oneCell']) (by omega) (by unfold maxLen; omega) (by omega) ?_; intro A5 c5 w5 own5 F5 nb5; have K7x := K7'.fr F5 (own_ne own3 (by omega)); have R7x := K7x.cell; have Z7x := K7x.free; have l7x := blk_lt K7x; clear R7 Z7 l7)
        have FS := Fr.set1 w5 ⟨w.heap.size + 1, 1, none⟩ (.slice A5 (L.length + 1) c5)
        have og := own_blk_ge own3
        have hz5 := F5.size
        have hzS := FS.size
        have hln : (L ++ [(j : Int)]).length = L.length + 1 := by simp
        go_roundw
        case rel =>
          refine ⟨j + 1, L ++ [(j : Int)], A5, c5, by omega, by go_num, (F'.own F5 (fun q e => by have := og q e; omega)).own FS (by simp), by omega, (S3.frs F5 (fun q e => by have := og q e; omega)).frs FS (by simp; omega), (K6'.fr F5 (own_ne own3 (by omega))).fr FS (by simp), by rw [hln]; simpa using K7x.set1 (.slice A5 (L.length + 1) c5), ?_, ?_, ?_, by rw [hln]; omega⟩
          · rw [hln, List.map_append]; exact own_fr own5 FS (by simp)
          · intro y hy
            rcases List.mem_append.1 hy with hy | hy
            · obtain ⟨i, rfl, hi⟩ := HR.out y hy; exact ⟨i, rfl, by omega⟩
            · simp at hy; exact ⟨j, hy, by omega⟩
          · refine List.nodup_append.2 ⟨HD.out, List.nodup_cons.2 ⟨by simp, List.nodup_nil⟩, fun y hy z hz e => ?_⟩
            obtain ⟨i, e2, hi⟩ := HR.out y hy
            have e3 := List.mem_singleton.1 hz
            omega
        case measure => simp [intOf]; omega
      · go_wp2_with fail
        go_roundw
        case rel => exact ⟨j + 1, L, A, c, by omega, by go_num, F', by omega, S3, K6', K7', own3, Lib.hid (fun y hy => by obtain ⟨i, rfl, hi⟩ := HR.out y hy; exact ⟨i, rfl, by omega⟩), HD, by omega⟩
        case measure => simp [intOf]; omega
    · obtain rfl : j = n := by omega
      have R7 := K7.cell
      have Z7 := K7.free
      have l7 := blk_lt K7
      go_upto_if 25 with (fail)
      go_cut [] (fun wr => ∃ (L : List Int) (A : Option Addr) (c : Nat), 1 ≤ L.length ∧ Fr (some g) w wr ∧ w.heap.size + 2 ≤ wr.heap.size ∧ SrcR 84 wr g ∧ TB wr w.heap.size (.int .i64 0) (.slice none 0 0) (.slice none 0 0) ∧ TB wr (w.heap.size + 1) (.int .i64 0) (.slice A L.length c) (.slice none 0 0) ∧
        SlD wr (Dn (w.heap.size + 2) wr) 1 (.slice A L.length c) (L.map (Value.int .i64)) ∧ Hid (∀ x ∈ L, ∃ i : Nat, x = i ∧ i < j) ∧ Hid L.Nodup ∧ L.length ≤ j)
      case first =>
        by_cases hL : L.length = 0
        · have hb0 : ((L.length : Int) == 0) = true := by rw [beq_iff_eq]; omega
          clear hL
          go_wp2_with fail
          go_meet
          generalize hW : wr.setCell _ _ = wa at *
          have FS : Fr (some (w.heap.size + 1)) wr wa := hW ▸ Fr.set1 wr ⟨w.heap.size + 1, 1, none⟩ (.slice (some ⟨wr.heap.size, 0, none⟩) 1 1)
          have hzS : wa.heap.size = wr.heap.size := by rw [← hW]; simp [World.setCell]
          have K7a : TB wa (w.heap.size + 1) (.int .i64 0) (.slice (some ⟨wr.heap.size, 0, none⟩) 1 1) (.slice none 0 0) := by rw [← hW]; exact K7.set1 _
          rw [← hzS] at K7a
          have FA := (Fr.refl none wa).alloc (.cells #[.int .i64 0] 3)
          have hzA := FA.size
          exact ⟨[0], some ⟨wa.heap.size, 0, none⟩, 1, by simp, (F.own FS (by simp)).pure FA, by omega, (S.frs FS (by simp; omega)).fr FA, (K6.fr FS (by simp)).fr FA (by simp), K7a.fr FA (by simp), SlD.lit_dn #[.int .i64 0] 3 1 1 (w.heap.size + 2) rfl (by unfold maxLen; omega) (by omega) (Fr.refl none _), Lib.hid (by intro y hy; simp at hy; exact ⟨0, by omega, by omega⟩), by unfold Hid; simp, by simp; omega⟩
        · have hb0 : ((L.length : Int) == 0) = false := by rw [beq_eq_false_iff_ne]; omega
          go_wp2_with fail
          go_meet
          exact ⟨L, A, c, by omega, F, hz, S, K6, K7, (SlD.own_dn own), HR, HD, hLj⟩
      case rest =>
        clear F hz S K6 K7 own HR HD hLj R7 Z7 l7
        obtain ⟨L, A, c, hL1, F, hz, S, K6, K7, hsl, HR, HD, hLj⟩ := hcut
        go_upto_region 9 with (fail)
        have K7d : TB wc.drew (w.heap.size + 1) (.int .i64 0) (.slice A L.length c) (.slice none 0 0) := K7
        have l7 := blk_lt K7
        refine wp_region_held_drew (S := fun W => W.cell? ⟨w.heap.size + 1, 1, none⟩ = some (.slice A L.length c) ∧ (∀ i, W.frozen? ⟨w.heap.size + 1, i, none⟩ = false)) (by kernel_rfl) ⟨K7d.cell 1, K7d.free⟩ (fun hH0 => ?_)
        refine wpAnyH_take (i := 0) (v := ?_) rfl (by kernel_rfl) (by kernel_rfl) (by kernel_rfl) (fun _ _ _ h => h) (Or.inl ⟨by rfl, ?_⟩) (by assumption) ?_
        rotate_left
        · (intro W hW; (try dsimp only at hW); go_simp; try with_reducible rfl)
        try simp only [Act.put, List.setIfInBounds_toArray, List.set_cons_zero, List.set_cons_succ, List.getElem_toArray, List.getElem_cons_zero, List.getElem_cons_succ]
        refine wpAnyH_take (i := 1) (v := ?_) rfl (by kernel_rfl) (by kernel_rfl) (by kernel_rfl) (fun _ _ _ h => h) (Or.inl ⟨by rfl, ?_⟩) (by assumption) ?_
        rotate_left
        · (intro W hW; (try dsimp only at hW); go_simp; try with_reducible rfl)
        try simp only [Act.put, List.setIfInBounds_toArray, List.set_cons_zero, List.set_cons_succ, List.getElem_toArray, List.getElem_cons_zero, List.getElem_cons_succ]
        refine wpAnyH_take (i := 2) (v := ?_) rfl (by kernel_rfl) (by kernel_rfl) (by kernel_rfl) (fun _ _ _ h => h) (Or.inl ⟨by rfl, ?_⟩) (by assumption) ?_
        rotate_left
        · (intro W hW; (try dsimp only at hW); go_simp; try with_reducible rfl)
        try simp only [Act.put, List.setIfInBounds_toArray, List.set_cons_zero, List.set_cons_succ, List.getElem_toArray, List.getElem_cons_zero, List.getElem_cons_succ]
        refine wpAnyH_take (i := 3) (v := ?_) rfl (by kernel_rfl) (by kernel_rfl) (by kernel_rfl) (fun _ _ _ h => h) (Or.inl ⟨by rfl, ?_⟩) (by assumption) ?_
        rotate_left
        · (intro W hW; (try dsimp only at hW); go_simp; try with_reducible rfl)
        try simp only [Act.put, List.setIfInBounds_toArray, List.set_cons_zero, List.set_cons_succ, List.getElem_toArray, List.getElem_cons_zero, List.getElem_cons_succ]
        refine wpAnyH_take (i := 4) (v := ?_) rfl (by kernel_rfl) (by kernel_rfl) (by kernel_rfl) (fun _ _ _ h => h) (Or.inl ⟨by rfl, ?_⟩) (by assumption) ?_
        rotate_left
        · (intro W hW; (try dsimp only at hW); go_simp; try with_reducible rfl)
        try simp only [Act.put, List.setIfInBounds_toArray, List.set_cons_zero, List.set_cons_succ, List.getElem_toArray, List.getElem_cons_zero, List.getElem_cons_succ]
        refine wpAnyH_take (i := 5) (v := ?_) rfl (by kernel_rfl) (by kernel_rfl) (by kernel_rfl) (fun _ _ _ h => h) (Or.inl ⟨by rfl, ?_⟩) (by assumption) ?_
        rotate_left
        · (intro W hW; (try dsimp only at hW); go_simp; try with_reducible rfl)
        try simp only [Act.put, List.setIfInBounds_toArray, List.set_cons_zero, List.set_cons_succ, List.getElem_toArray, List.getElem_cons_zero, List.getElem_cons_succ]
        refine wpAnyH_take (i := 6) (v := ?_) rfl (by kernel_rfl) (by kernel_rfl) (by kernel_rfl) (fun _ _ _ h => h) (Or.inl ⟨by rfl, ?_⟩) (by assumption) ?_
        rotate_left
        · (intro W hW; (try dsimp only at hW); go_simp; try with_reducible rfl)
        try simp only [Act.put, List.setIfInBounds_toArray, List.set_cons_zero, List.set_cons_succ, List.getElem_toArray, List.getElem_cons_zero, List.getElem_cons_succ]
        refine wpAnyH_take (i := 7) (v := ?_) rfl (by kernel_rfl) (by kernel_rfl) (by kernel_rfl) (fun _ _ _ h => h) (Or.inl ⟨by rfl, ?_⟩) (by assumption) ?_
        rotate_left
        · (intro W hW; (try dsimp only at hW); go_simp; try with_reducible rfl)
        try simp only [Act.put, List.setIfInBounds_toArray, List.set_cons_zero, List.set_cons_succ, List.getElem_toArray, List.getElem_cons_zero, List.getElem_cons_succ]
        refine wpAnyH_take (i := 8) (v := ?_) rfl (by kernel_rfl) (by kernel_rfl) (by kernel_rfl) (fun _ _ _ h => h) (Or.inl ⟨by rfl, ?_⟩) (by assumption) ?_
        rotate_left
        · (intro W hW; (try dsimp only at hW); go_simp; try with_reducible rfl)
        try simp only [Act.put, List.setIfInBounds_toArray, List.set_cons_zero, List.set_cons_succ, List.getElem_toArray, List.getElem_cons_zero, List.getElem_cons_succ]
        refine wpAnyH_take (i := 9) (v := ?_) rfl (by kernel_rfl) (by kernel_rfl) (by kernel_rfl) (fun _ _ _ h => h) (Or.inl ⟨by rfl, ?_⟩) (by assumption) ?_
        rotate_left
        · (intro W hW; (try dsimp only at hW); go_simp; try with_reducible rfl)
        try simp only [Act.put, List.setIfInBounds_toArray, List.set_cons_zero, List.set_cons_succ, List.getElem_toArray, List.getElem_cons_zero, List.getElem_cons_succ]
        refine wpAnyH_ready (rs := [10]) (by kernel_rfl) (by simp) ?_
        refine AllReadyH.cons rfl (fun K hK => ?_) AllReadyH.nil
        simp only [List.getElem_toArray, List.getElem_cons_zero, List.getElem_cons_succ]
        go_simp
        have FA := (Fr.refl none wc).alloc (.cells #[.int .i64 0, .int .i64 0, .int .i64 0, .int .i64 1, .int .i64 (-1)] 3)
        have FAd : Fr none wc (wc.alloc (.cells #[.int .i64 0, .int .i64 0, .int .i64 0, .int .i64 1, .int .i64 (-1)] 3)).drew := FA.drew
        have K7a := K7.fr FAd (by simp)
        refine hK.out _ _ ⟨K7a.cell 1, K7a.free⟩ (fun hH1 => ?_)
        clear hK K hH0
        try simp only [Act.put, List.setIfInBounds_toArray, List.set_cons_zero, List.set_cons_succ, List.getElem_toArray, List.getElem_cons_zero, List.getElem_cons_succ]
        refine wpAnyH_ready (rs := [11]) (by kernel_rfl) (by simp) ?_
        refine AllReadyH.cons rfl (fun K hK => ?_) AllReadyH.nil
        simp only [List.getElem_toArray, List.getElem_cons_zero, List.getElem_cons_succ]
        go_simp
        have hlit : SlI (wc.alloc (.cells #[.int .i64 0, .int .i64 0, .int .i64 0, .int .i64 1, .int .i64 (-1)] 3)).drew (some g) (.slice (some ⟨wc.heap.size, 0, none⟩) 5 5) [0, 0, 0, 1, -1] :=
          ⟨SlD.lit_dm #[.int .i64 0, .int .i64 0, .int .i64 0, .int .i64 1, .int .i64 (-1)] 3 5 1 rfl (by unfold maxLen; omega) (by simp; omega) (Fr.refl _ _).drew, by intro x hx; simp at hx; constructor <;> omega⟩
        go_at_call 69
        refine (tapePick_any _ [0, 0, 0, 1, -1] g _ hlit (by simp) (by simp) (S.fr FAd)).mono ?_
        rintro e wp ⟨x, rfl, hx, Sp, Fp⟩
        have hx0 : -1 ≤ x ∧ x ≤ 1 := by simp at hx; omega
        have Fcp : Fr (some g) wc wp := FAd.mono.same Fp
        have K7p := K7.fr Fcp (by simp; omega)
        refine hK.out _ _ ⟨K7p.cell 1, K7p.free⟩ (fun hH0 => ?_)
        clear hK K hH1 hx
        try simp only [Act.put, List.setIfInBounds_toArray, List.set_cons_zero, List.set_cons_succ, List.getElem_toArray, List.getElem_cons_zero, List.getElem_cons_succ]
        refine wpAnyH_take (i := 12) (v := ?_) rfl (by kernel_rfl) (by kernel_rfl) (by kernel_rfl) (fun _ _ _ h => h) (Or.inl ⟨by rfl, ?_⟩) (by assumption) ?_
        rotate_left
        · (intro W hW; (try dsimp only at hW); go_simp; try with_reducible rfl)
        try simp only [Act.put, List.setIfInBounds_toArray, List.set_cons_zero, List.set_cons_succ, List.getElem_toArray, List.getElem_cons_zero, List.getElem_cons_succ]
        refine wpAnyH_take (i := 13) (v := ?_) rfl (by kernel_rfl) (by kernel_rfl) (by kernel_rfl) (fun _ _ _ h => h) (Or.inl ⟨by rfl, ?_⟩) (by assumption) ?_
        rotate_left
        · (intro W hW; (try dsimp only at hW); go_simp; try with_reducible rfl)
        try simp only [Act.put, List.setIfInBounds_toArray, List.set_cons_zero, List.set_cons_succ, List.getElem_toArray, List.getElem_cons_zero, List.getElem_cons_succ]
        refine wpAnyH_take (i := 14) (v := ?_) rfl (by kernel_rfl) (by kernel_rfl) (by kernel_rfl) (fun _ _ _ h => h) (Or.inl ⟨by rfl, ?_⟩) (by assumption) ?_
        rotate_left
        · (intro W hW; (try dsimp only at hW); go_simp; try with_reducible rfl)
        try simp only [Act.put, List.setIfInBounds_toArray, List.set_cons_zero, List.set_cons_succ, List.getElem_toArray, List.getElem_cons_zero, List.getElem_cons_succ]
        refine wpAnyH_take (i := 15) (v := ?_) rfl (by kernel_rfl) (by kernel_rfl) (by kernel_rfl) (fun _ _ _ h => h) (Or.inl ⟨by rfl, ?_⟩) (by assumption) ?_
        rotate_left
        · (intro W hW; (try dsimp only at hW); go_simp; try with_reducible rfl)
        try simp only [Act.put, List.setIfInBounds_toArray, List.set_cons_zero, List.set_cons_succ, List.getElem_toArray, List.getElem_cons_zero, List.getElem_cons_succ]
        refine wpAnyH_ready (rs := [16]) (by kernel_rfl) (by simp) ?_
        refine AllReadyH.cons rfl (fun K hK => ?_) AllReadyH.nil
        simp only [List.getElem_toArray, List.getElem_cons_zero, List.getElem_cons_succ]
        have R7p := K7p.cell
        have Z7p := K7p.free
        have l7p := blk_lt K7p
        go_simp
        generalize IntKind.i64.wrap (IntKind.i64.wrap (Int.tdiv (IntKind.i64.wrap (IntKind.i64.wrap (2 * (L.length : Int)) + 2)) 3) + x) = E
        obtain ⟨th, hth⟩ : ∃ th : Int, th = min (L.length : Int) (max 1 E) := ⟨_, rfl⟩
        have ht1 : 1 ≤ th := by omega
        have ht2 : th ≤ L.length := by omega
        rw [← hth]
        have FS := Fr.set1 wp ⟨w.heap.size + 1, 0, none⟩ (.int .i64 th)
        have K7s : TB (wp.setCell ⟨w.heap.size + 1, 0, none⟩ (.int .i64 th)) (w.heap.size + 1) (.int .i64 th) (.slice A L.length c) (.slice none 0 0) := K7p.set0 _
        refine hK.out _ _ ⟨K7s.cell 1, K7s.free⟩ (fun hH1 => ?_)
        clear hK K hH0 R7p Z7p l7p hth
        try simp only [Act.put, List.setIfInBounds_toArray, List.set_cons_zero, List.set_cons_succ, List.getElem_toArray, List.getElem_cons_zero, List.getElem_cons_succ]
        generalize hW : wp.setCell _ _ = wq at *
        have F0q := (F.same Fcp).own FS (by simp)
        have hzc := Fcp.size
        have hzq := FS.size
        have K6q := (K6.fr Fcp (by simp; omega)).fr FS (by simp)
        have Sq := Sp.frs FS (by simp; omega)
        have slq := (hsl.keep (dn_fr Fcp (by simp; omega))).keep (dn_fr FS (by simp))
        have R6 := K6q.cell
        have Z6 := K6q.free
        have R7 := K7s.cell
        have l6 := blk_lt K6q
        clear hW FS Fcp Sp K7p K7s FAd FA K7a hsl K7d K7 K6 S F
        refine wpAnyH_done (by kernel_rfl) ?_ _
        go_wp2_with fail
        refine bodyPost_ret (v := .agg #[.int .i64 th, .slice A L.length c, .slice none 0 0]) (by simp [results, Tryz.results59, go_sem, R6]) rfl ?_
        have G := fr_fill3 wq w.heap.size (.int .i64 th) (.slice A L.length c) (.slice none 0 0)
        obtain ⟨o1, o2, o3⟩ := flat_ok hn2 HR.out HD.out (by omega) ht1 ht2
        exact ⟨_, .mk th L [], rfl, TrD.mk_ (by constructor <;> omega) ((slq.keep (dn_fr G (by simp))).keep (dn_mono (by omega))) (fun y hy => by obtain ⟨i, rfl, hi⟩ := HR.out y hy; constructor <;> omega) (SlD.nil _ _ _) (by omega) (by simp) (by simp [TrsD]), o2, by simp [Tr.dep, depL], o3, Sq.frs G (by simp; omega), F0q.own G (by simp)⟩

/-- The groups that are being made. -/
def GrpI (w : World) (g n G : Nat) (Ts : List Tr) (A : Option Addr) (c : Nat) (cells : List Value) (wr : World) : Prop :=
  Fr (some g) w wr ∧ w.heap.size + 1 ≤ wr.heap.size ∧ SrcR 84 wr g ∧ TB wr w.heap.size (.int .i64 0) (.slice none 0 0) (.slice none 0 0) ∧
  wr.ownsRow (w.heap.size + 1) 31 3 (.slice A Ts.length c) Ts.length cells ∧ TrsD wr (Dx (w.heap.size + 1) wr (.slice A Ts.length c)) cells Ts ∧
  Hid (∀ T ∈ Ts, OkT T ∧ T.dep ≤ 1 ∧ T.size ≤ 20 ∧ nodesIn n T) ∧ Ts.length ≤ G ∧ (1 ≤ G → 1 ≤ Ts.length)
theorem grp_dep : ∀ l : List Tr, (∀ T ∈ l, T.dep ≤ 1) → depL l ≤ 1
  | [], _ => by simp [depL]
  | x :: r, h => by
    simp only [depL]
    have := h x (by simp)
    have := grp_dep r (fun T hT => h T (by simp [hT]))
    omega
theorem grp_size : ∀ l : List Tr, (∀ T ∈ l, T.size ≤ 20) → sizeL l ≤ 20 * l.length
  | [], _ => by simp [sizeL]
  | x :: r, h => by
    simp only [sizeL, List.length_cons]
    have := h x (by simp)
    have := grp_size r (fun T hT => h T (by simp [hT]))
    omega
theorem grp_nodes {n : Nat} : ∀ l : List Tr, (∀ T ∈ l, nodesIn n T) → nodesInL n l
  | [], _ => by simp [nodesInL]
  | x :: r, h => by
    simp only [nodesInL]
    exact ⟨h x (by simp), grp_nodes r (fun T hT => h T (by simp [hT]))⟩
theorem grp_ok {n : Nat} {th : Int} {Ts : List Tr} (h : ∀ T ∈ Ts, OkT T ∧ T.dep ≤ 1 ∧ T.size ≤ 20 ∧ nodesIn n T) (hl : Ts.length ≤ 3) (h1 : 1 ≤ th) (h2 : th ≤ Ts.length) : validE (.mk th [] Ts) = 0 ∧ (Tr.mk th [] Ts).dep ≤ 2 ∧ nodesIn n (.mk th [] Ts) := by
  have h3 := grp_dep Ts (fun T hT => (h T hT).2.1)
  have h4 := grp_size Ts (fun T hT => (h T hT).2.2.1)
  have ho : OkT (.mk th [] Ts) := by
    rw [okT_mk]
    exact ⟨h1, by simp; omega, by simp, by simp, fun T hT => (h T hT).1⟩
  refine ⟨okT_valid ho (by simp only [Tr.dep]; omega) (by simp only [Tr.size, List.length_nil]; omega), by simp only [Tr.dep]; omega, ?_⟩
  simp only [nodesIn]
  exact ⟨by simp, grp_nodes Ts (fun T hT => (h T hT).2.2.2)⟩
theorem row_get {w : World} {base c : Nat} {A : Option Addr} {cells : List Value} {Ts : List Tr} {D : Nat → Prop} (own : w.ownsRow base 31 3 (.slice A Ts.length c) Ts.length cells) (hts : TrsD w D cells Ts) (q : Nat) (hq : q < Ts.length) :
    ∃ (gb : Nat) (ty : Int) (A1 : Option Addr) (n1 c1 : Nat) (A2 : Option Addr) (n2 c2 : Nat), A = some ⟨gb, 0, none⟩ ∧ gb < w.heap.size ∧ w.cell? ⟨gb, q * 3, none⟩ = some (.int .i64 ty) ∧ w.cell? ⟨gb, q * 3 + 1, none⟩ = some (.slice A1 n1 c1) ∧ w.cell? ⟨gb, q * 3 + 2, none⟩ = some (.slice A2 n2 c2) ∧ TrD w D (.agg #[.int .i64 ty, .slice A1 n1 c1, .slice A2 n2 c2]) Ts[q] := by
  obtain ⟨a, b, cc, e0, e1, e2, hy⟩ := hts.get q hq
  obtain ⟨ty, A1, n1, c1, A2, n2, c2, hsh⟩ := hy.shape
  simp only [Value.agg.injEq, Array.mk.injEq, List.cons.injEq, and_true] at hsh
  obtain ⟨rfl, rfl, rfl⟩ := hsh
  obtain ⟨gb, hA⟩ : ∃ gb, A = some ⟨gb, 0, none⟩ := by
    rcases own.2 with ⟨_, h0⟩ | ⟨gb, cap, c', hv, _⟩
    · omega
    · injection hv with hv
      exact ⟨gb, hv⟩
  subst hA
  obtain ⟨A', n', c', e, _, _, _, hx⟩ := SlD.own_dn own
  injection e with q1 q2 q3
  subst q1 q2 q3
  obtain ⟨b, off, h1, hb, h2⟩ := hx (by omega)
  injection h1 with h1
  injection h1 with h3 h4
  subst h3 h4
  exact ⟨gb, ty, A1, n1, c1, A2, n2, c2, rfl, hb.2, by simpa using h2 _ _ e0, by simpa using h2 _ _ e1, by simpa using h2 _ _ e2, hy⟩
set_option maxRecDepth 100000 in
set_option maxHeartbeats 4000000 in
theorem group_any (n k g : Nat) (w : World) (hn1 : 1 ≤ n) (hn2 : n ≤ 10) (hk : k < n) (S0 : SrcR 84 w g) :
    Calls Tryz.prog 60 #[.pointer (some ⟨g, 0, none⟩), .int .i64 n, .int .i64 k] w (GenP w g n 2) := by
  have hg := S0.lt
  go_enter Tryz.func60, Tryz.ntmps60
  go_wp2_with fail
  generalize hW : w.alloc _ = w1
  have hz : w1.heap.size = w.heap.size + 1 := by rw [← hW]; simp
  have F1 : Fr none w w1 := hW ▸ (Fr.refl _ w).alloc _
  have b6 : TB w1 w.heap.size (.int .i64 0) (.slice none 0 0) (.slice none 0 0) := by rw [← hW]; exact blk_new _ _
  have S1 := S0.fr F1
  clear hW S0
  go_loopw [7, 8, 9, 10] (fun s7 s8 _ _ wr => ∃ (G : Nat) (Ts : List Tr) (A : Option Addr) (c : Nat) (cells : List Value), G ≤ 3 ∧ s8 = .int .i64 (G : Int) ∧ s7 = .slice A Ts.length c ∧ GrpI w g n G Ts A c cells wr) (fun _ s8 _ _ _ => 3 - (intOf s8).toNat)
  case atStart => exact ⟨0, [], none, 0, [], by omega, rfl, rfl, F1.mono (r := some g), by omega, S1, b6, World.ownsRow_nil _ _ _ _, by simp [TrsD], Lib.hid (by simp), by simp, by omega⟩
  case round =>
    clear b6 S1 F1 hz
    obtain ⟨G, Ts, A, c, cells, hG, rfl, rfl, F, hz, S, K6, own, hts, HT, hTl, hT1⟩ := hrel
    obtain ⟨wz, hwz⟩ : ∃ wz : World, wz = wr := ⟨_, rfl⟩
    subst hwz
    by_cases hlt : G < 3
    · have hG3 : decide ((G : Int) < 3) = true := decide_eq_true (by omega)
      go_wp2_with fail
      generalize hW : wz.alloc _ = wa
      have FA : Fr none wz wa := hW ▸ (Fr.refl none wz).alloc _
      have K9 : TB wa wz.heap.size (.int .i64 1) (.slice none 0 0) (.slice none 0 0) := by rw [← hW]; exact blk_new _ _
      have hza : wa.heap.size = wz.heap.size + 1 := by rw [← hW]; simp
      clear hW
      go_loopw [10] (fun s10 wi => ∃ (cur : Nat) (L : List Int) (A1 : Option Addr) (c1 : Nat), s10 = .int .i64 (cur : Int) ∧ cur < n + 3 ∧ Fr none wz wi ∧ wz.heap.size + 1 ≤ wi.heap.size ∧ TB wi wz.heap.size (.int .i64 1) (.slice A1 L.length c1) (.slice none 0 0) ∧
        wi.ownsRow (wz.heap.size + 1) 3 1 (.slice A1 L.length c1) L.length (L.map (Value.int .i64)) ∧ Hid (∀ x ∈ L, ∃ i : Nat, x = i ∧ i < cur ∧ i < n) ∧ Hid L.Nodup ∧ L.length ≤ cur ∧ (G < cur → 1 ≤ L.length)) (fun s10 _ => 20 - (intOf s10).toNat)
      case atStart => exact ⟨G, [], none, 0, rfl, by omega, FA, by omega, K9, World.ownsRow_nil _ _ _ _, Lib.hid (by simp), List.nodup_nil, by simp, by omega⟩
      case round =>
        clear K9 FA hza
        obtain ⟨cur, L, A1, c1, rfl, hcn, Fi, hzi, K9, own1, HR, HD, hLc, hL1⟩ := hrel
        obtain ⟨wi, hwi⟩ : ∃ wi : World, wi = wr := ⟨_, rfl⟩
        subst hwi
        have R9 := K9.cell
        have Z9 := K9.free
        have l9 := blk_lt K9
        by_cases hcl : cur < n
        · go_wp2_with (at_builtin; refine app_lit eiInt rfl _ _ rfl (wz.heap.size + 1) A1 L.length c1 _ rfl own1 1 [.int .i64 (cur : Int)] _ _ rfl (by simp) rfl (by simp [Value.oneCell']) (by omega) (by unfold maxLen; omega) (by omega) ?_; intro A5 c5 w5 own5 F5 nb5; have K9x := K9.fr F5 (own_ne own1 (by omega)); have R9x := K9x.cell; have Z9x := K9x.free; have l9x := blk_lt K9x; clear R9 Z9 l9)
          have FS := Fr.set1 w5 ⟨wz.heap.size, 1, none⟩ (.slice A5 (L.length + 1) c5)
          have og := own_blk_ge own1
          have hz5 := F5.size
          have hzS := FS.size
          have hln : (L ++ [(cur : Int)]).length = L.length + 1 := by simp
          go_roundw
          case rel =>
            refine ⟨cur + 3, L ++ [(cur : Int)], A5, c5, by go_num, by omega, (Fi.own F5 (fun q e => by have := og q e; omega)).own FS (by simp), by omega, by rw [hln]; simpa using K9x.set1 (.slice A5 (L.length + 1) c5), ?_, ?_, ?_, by rw [hln]; omega, fun _ => by rw [hln]; omega⟩
            · rw [hln, List.map_append]; exact own_fr own5 FS (by simp)
            · intro y hy
              rcases List.mem_append.1 hy with hy | hy
              · obtain ⟨i, rfl, hi, hi2⟩ := HR.out y hy; exact ⟨i, rfl, by omega, hi2⟩
              · exact ⟨cur, List.mem_singleton.1 hy, by omega, hcl⟩
            · refine List.nodup_append.2 ⟨HD.out, List.nodup_cons.2 ⟨by simp, List.nodup_nil⟩, fun y hy z hz e => ?_⟩
              obtain ⟨i, e2, hi, _⟩ := HR.out y hy
              have e3 := List.mem_singleton.1 hz
              omega
          case measure => simp [intOf]; omega
        · have Si := S.fr Fi
          have K6i := K6.fr Fi (by simp)
          have owni := own_fr own Fi (by simp)
          have Fzi := F.pure Fi
          have htsi : TrsD wi (Dx (w.heap.size + 1) wi (.slice A Ts.length c)) cells Ts := TrsD.keep (dx_fr Fi (by simp)) _ _ hts
          have olz := own.lt
          have hgz := S.lt
          clear S K6 own F
          by_cases hL0 : L.length = 0
          · have hgt : decide ((0 : Int) < (L.length : Int)) = false := decide_eq_false (by omega)
            have hG1 : 1 ≤ G := by omega
            go_wp2_with fail
            go_roundw
            case rel => exact ⟨G + 1, Ts, A, c, cells, by omega, by go_num, rfl, Fzi, by omega, Si, K6i, owni, htsi, HT, by omega, fun _ => hT1 hG1⟩
            case measure => simp [intOf]; omega
          · have hgt : decide ((0 : Int) < (L.length : Int)) = true := decide_eq_true (by omega)
            go_wp2_with fail
            refine (tapeRange_any _ _ g _ (by omega) (by omega) (by omega) Si).mono ?_
            rintro e w3 ⟨x, rfl, x1, x2, S3, F3⟩
            have hz3 := F3.size
            have K63 := K6i.fr F3 (by simp; omega)
            have K93 := K9.fr F3 (by simp; omega)
            have ow3 := own_fr owni F3 (by simp; omega)
            have ow13 := own_fr own1 F3 (by simp; omega)
            have F03 := Fzi.same F3
            have R93 := K93.cell
            have Z93 := K93.free
            have l93 := blk_lt K93
            have FS := Fr.set1 w3 ⟨wz.heap.size, 0, none⟩ (.int .i64 x)
            have K9s : TB (w3.setCell ⟨wz.heap.size, 0, none⟩ (.int .i64 x)) wz.heap.size (.int .i64 x) (.slice A1 L.length c1) (.slice none 0 0) := K93.set0 _
            have ow4 := own_ne_fr ow3 FS (fun e => by have := olz _ e; simp at this)
            have hzS := FS.size
            have hts4 : TrsD (w3.setCell ⟨wz.heap.size, 0, none⟩ (.int .i64 x)) (Dx (w.heap.size + 1) (w3.setCell ⟨wz.heap.size, 0, none⟩ (.int .i64 x)) (.slice A Ts.length c)) cells Ts := TrsD.keep (fun k hk => ⟨⟨hk.1, by have := hk.2.1; omega, hk.2.2⟩, ((FS.block k (by have := hk.2.1; omega) (by have := hk.2.1; simp; omega)).trans (F3.block k (by have := hk.2.1; omega) (by have := hk.1; simp; omega))).trans (Fi.block k hk.2.1 (by simp))⟩) _ _ hts
            have ow14 := own_fr ow13 FS (by simp)
            have K64 := K63.fr FS (by simp; omega)
            have S4 := S3.frs FS (by simp; omega)
            have F04 := F03.own FS (by simp; omega)
            clear K6i K9 owni own1 htsi Fzi Si F3 R9 Z9 l9 hts K63 S3 F03 ow3 ow13
            go_wp2_with (at_builtin; refine app_lit eiTrust rfl _ _ rfl (w.heap.size + 1) A Ts.length c _ rfl ow4 1 [.int .i64 x, .slice A1 L.length c1, .slice none 0 0] _ _ rfl (by simp) rfl (by simp [Value.oneCell']) (by omega) (by unfold maxLen; omega) (by omega) ?_; intro A5 c5 w5 own5 F5 nb5)
            generalize hw4 : w3.setCell _ _ = w4 at *
            have og := own_blk_ge ow4
            have ol := ow4.lt
            have hz5 := F5.size
            have hln : (Ts ++ [Tr.mk x L []]).length = Ts.length + 1 := by simp
            obtain ⟨o1, o2, o3⟩ := flat_ok (n := n) hn2 (fun y hy => by obtain ⟨i, e, _, hi⟩ := HR.out y hy; exact ⟨i, e, hi⟩) HD.out (by omega) x1 x2
            have hnd : TrD w4 (Dn (wz.heap.size + 1) w4) (.agg #[.int .i64 x, .slice A1 L.length c1, .slice none 0 0]) (.mk x L []) :=
              TrD.mk_ (by constructor <;> omega) (SlD.own_dn ow14) (fun y hy => by obtain ⟨i, rfl, _, hi⟩ := HR.out y hy; constructor <;> omega) (SlD.nil _ _ _) (by omega) (by simp) (by simp [TrsD])
            go_roundw
            case rel =>
              refine ⟨G + 1, Ts ++ [.mk x L []], A5, c5, cells ++ [.int .i64 x, .slice A1 L.length c1, .slice none 0 0], by omega, by go_num, by rw [hln], F04.own F5 (fun q e => by have := og q e; omega), by omega, S4.frs F5 (fun q e => by have := og q e; omega), K64.fr F5 (own_ne ow4 (by omega)), by rw [hln]; exact own5, ?_, ?_, by rw [hln]; omega, fun _ => by rw [hln]; omega⟩
              · rw [hln]
                exact TrsD.append (TrsD.keep (dx_app F5 nb5) _ _ hts4) (by simp only [TrsD]; exact ⟨_, _, _, [], rfl, TrD.keep (dx_app F5 nb5) _ _ (TrD.keep (dn_dx (B := w.heap.size + 1) (v := .slice A Ts.length c) (by omega) (fun q hq => by have := (olz q hq).2; omega)) _ _ hnd), rfl⟩)
              · intro T hT
                rcases List.mem_append.1 hT with hT | hT
                · exact HT.out T hT
                · obtain rfl := List.mem_singleton.1 hT
                  exact ⟨o1, by simp [Tr.dep, depL], by simp only [Tr.size, sizeL, List.length_nil]; omega, o3⟩
            case measure => simp [intOf]; omega
    · obtain rfl : G = 3 := by omega
      have hTs1 := hT1 (by omega)
      go_wp2_with fail
      refine (tapeN_any 4 g _ (by omega) (by omega) S).mono ?_
      rintro e w3 ⟨x, rfl, x1, x2, S3, F3⟩
      have hz3 := F3.size
      have K63 := K6.fr F3 (by simp; omega)
      have own3 := own_fr own F3 (by simp; omega)
      have hts3 : TrsD w3 (Dx (w.heap.size + 1) w3 (.slice A Ts.length c)) cells Ts := TrsD.keep (dx_fr F3 (by simp; omega)) _ _ hts
      have F03 := F.same F3
      have hgz := S.lt
      have R6 := K63.cell
      have Z6 := K63.free
      have l6 := blk_lt K63
      clear K6 own hts F F3 S
      by_cases hx : x = 0
      · subst hx
        obtain ⟨q, hq⟩ : ∃ q : Nat, q = k % Ts.length := ⟨_, rfl⟩
        have hql : q < Ts.length := by rw [hq]; exact Nat.mod_lt _ (by omega)
        have hmd : Int.tmod (k : Int) (Ts.length : Int) = (q : Int) := by rw [hq]; rfl
        have hne : ((Ts.length : Int) == 0) = false := by rw [beq_eq_false_iff_ne]; omega
        obtain ⟨gb, ty, A1, n1, c1, A2, n2, c2, rfl, hgb, g0, g1, g2, hy⟩ := row_get own3 hts3 q hql
        have HQ := Lib.hid (HT.out _ (List.getElem_mem hql))
        clear hq own3 hts3 HT
        go_wp2_with fail
        refine bodyPost_ret (v := .agg #[.int .i64 ty, .slice A1 n1 c1, .slice A2 n2 c2]) (by simp [results, Tryz.results60, go_sem, R6]) rfl ?_
        have G := fr_fill3 w3 w.heap.size (.int .i64 ty) (.slice A1 n1 c1) (.slice A2 n2 c2)
        obtain ⟨o1, o2, o3, o4⟩ := HQ.out
        exact ⟨_, _, rfl, TrD.keep (fun b hb => ⟨⟨by have := hb.1; omega, Nat.lt_of_lt_of_le hb.2.1 G.size⟩, G.block b hb.2.1 (by have := hb.1; simp; omega)⟩) _ _ hy, okT_valid o1 (by omega) (by omega), by omega, o4, S3.frs G (by simp; omega), F03.own G (by simp)⟩
      · have hx0 : (x == 0) = false := by rw [beq_eq_false_iff_ne]; exact hx
        have hwr : IntKind.i64.wrap ((Ts.length : Int) - 1) = (Ts.length : Int) - 1 := IntWalk.i64_in _ (by omega)
        go_wp2_with fail
        refine (tapeRange_any _ _ g _ (by omega) (by omega) (by omega) S3).mono ?_
        rintro e w4 ⟨th, rfl, t1, t2, S4, F4⟩
        have hz4 := F4.size
        have K64 := K63.fr F4 (by simp; omega)
        have own4 := own_fr own3 F4 (by simp; omega)
        have hts4 : TrsD w4 (Dx (w.heap.size + 1) w4 (.slice A Ts.length c)) cells Ts := TrsD.keep (dx_fr F4 (by simp; omega)) _ _ hts3
        have F04 := F03.same F4
        have R64 := K64.cell
        have Z64 := K64.free
        have l64 := blk_lt K64
        clear own3 hts3 R6 Z6 l6 K63 S3 F03 F4
        go_wp2_with fail
        refine bodyPost_ret (v := .agg #[.int .i64 th, .slice none 0 0, .slice A Ts.length c]) (by simp [results, Tryz.results60, go_sem, R64]) rfl ?_
        have G := fr_fill3 w4 w.heap.size (.int .i64 th) (.slice none 0 0) (.slice A Ts.length c)
        obtain ⟨o1, o2, o3⟩ := grp_ok HT.out hTl (by omega) t2
        have kk : ∀ b, Dn (w.heap.size + 1) w4 b → Dn w.heap.size (((w4.setCell ⟨w.heap.size, 0, none⟩ (.int .i64 th)).setCell ⟨w.heap.size, 1, none⟩ (.slice none 0 0)).setCell ⟨w.heap.size, 2, none⟩ (.slice A Ts.length c)) b ∧ (((w4.setCell ⟨w.heap.size, 0, none⟩ (.int .i64 th)).setCell ⟨w.heap.size, 1, none⟩ (.slice none 0 0)).setCell ⟨w.heap.size, 2, none⟩ (.slice A Ts.length c)).heap[b]? = w4.heap[b]? := fun b hb => ⟨⟨by have := hb.1; omega, Nat.lt_of_lt_of_le hb.2 G.size⟩, G.block b hb.2 (by have := hb.1; simp; omega)⟩
        exact ⟨_, .mk th [] Ts, rfl, TrD.mk_ (by constructor <;> omega) (SlD.nil _ _ _) (by simp) ((SlD.own_dn own4).keep kk) (by simp) (by omega) (TrsD.keep kk _ _ (TrsD.keep dx_dn _ _ hts4)), o1, o2, o3, S4.frs G (by simp; omega), F04.own G (by simp)⟩
end Go.Proofs.YtoblhcieidljjaaGreatDoor

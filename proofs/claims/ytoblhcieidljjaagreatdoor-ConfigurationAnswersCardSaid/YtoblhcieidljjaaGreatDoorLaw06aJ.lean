/- The law ConfigurationAnswers: its walk. -/
import Derived.Test.YtoblhcieidljjaaGreatDoorProg
import Derived.Test.YtoblhcieidljjaaGreatDoorRrmWJ
import Derived.Test.YtoblhcieidljjaaGreatDoorBcfWJ
import Derived.Test.YtoblhcieidljjaaGreatDoorScfWJ
import Derived.Test.YtoblhcieidljjaaGreatDoorSptWJ
import Derived.Test.YtoblhcieidljjaaGreatDoorLnpWJ
import Derived.Test.YtoblhcieidljjaaGreatDoorRrsWJ
import Derived.Test.YtoblhcieidljjaaGreatDoorJG23
import Derived.Test.YtoblhcieidljjaaGreatDoorLaw06tJ
set_option linter.unusedSimpArgs false
set_option linter.unusedVariables false
namespace Go.Proofs.YtoblhcieidljjaaGreatDoor
open Go.RowKit

/-- A configuration that stands aside of the tape, small. -/
structure Cf6 (w : World) (g : Nat) (v : Value) (L : List Mb) : Prop where
  cf : CfD w (Dm w (some g)) v L
  len : L.length ≤ 30
  siz : ∀ m ∈ L, m.tr.size ≤ 2000
theorem Cf6.fr {w w' : World} {g : Nat} {v : Value} {L : List Mb} (h : Cf6 w g v L) (F : Fr (some g) w w') : Cf6 w' g v L := ⟨h.cf.keep (fr_dm F), h.len, h.siz⟩
theorem Cf6.none {w : World} {g : Nat} {v : Value} {L : List Mb} (h : Cf6 w g v L) : CfD w (Dm w none) v L := h.cf.keep dm_none
theorem Cf6.big {w : World} {g : Nat} {v : Value} {L : List Mb} (h : Cf6 w g v L) : ∀ m ∈ L, m.tr.size ≤ 1073741000 := fun m hm => by have := h.siz m hm; omega
/-- The configurations of the first loop: in a block, one cell each. -/
def Lst6 (w : World) (g bk : Nat) (LL : List (List Mb)) : Prop := ∀ j (hj : j < LL.length), ∃ A c, w.cell? ⟨bk, j, none⟩ = some (.slice A LL[j].length c) ∧ Cf6 w g (.agg #[.slice A LL[j].length c]) LL[j]
theorem Lst6.fr {w w' : World} {g bk : Nat} {LL : List (List Mb)} (h : Lst6 w g bk LL) (F : Fr (some g) w w') (hb : bk ≠ g) : Lst6 w' g bk LL := fun j hj => by
  obtain ⟨A, c, h1, h2⟩ := h j hj
  exact ⟨A, c, F.keep h1 (by simpa using hb), h2.fr F⟩

theorem bs_self (Z : ByteArray) : Z = bs Z.data.toList := by simp [bs]
theorem fstE_none : ∀ (l : List Int) (k : Nat), fstE k l = none → ∀ x ∈ l, x = 0
  | [], _, _, x, hx => by cases hx
  | e :: r, k, h, x, hx => by
    simp only [fstE] at h
    by_cases h0 : e = 0
    · rw [if_pos h0] at h
      rcases List.mem_cons.1 hx with rfl | hx
      · exact h0
      · exact fstE_none r _ h x hx
    · rw [if_neg h0] at h; cases h
theorem parseC_len (s : List UInt8) : (parseC s).1.length ≤ 10 := by
  unfold parseC
  split
  · simp
  · split
    · simp
    · split
      · simp
      · rename_i h
        split
        · simp
        · show (mbsOf (linS s)).length ≤ 10
          unfold mbsOf
          rw [List.length_mapIdx]
          rcases Nat.lt_or_ge 10 (linS s).length with hl | hl
          · have h10 := fstE_none _ _ h ((errsOf (linS s))[10]'(by simpa [errsOf] using hl)) (List.getElem_mem _)
            simp only [errsOf, List.getElem_mapIdx] at h10
            unfold lineP at h10
            rw [if_pos (by omega)] at h10
            exact absurd h10 (by decide)
          · exact hl
theorem renC_len (p : List Int) (L : List Mb) : (renC p L).1.length ≤ L.length := by
  unfold renC
  split
  · simp
  · split
    · simp [renS_len]
    · simp
theorem ints_wi {n : Nat} {y : Int} (hn : n ≤ 1000) (h : y ∈ ints n) : Wi y := by
  obtain ⟨k, hk, rfl⟩ := List.mem_map.1 h
  have := List.mem_range.1 hk
  constructor
  · show (-9223372036854775808 : Int) ≤ (k : Int); omega
  · show (k : Int) ≤ 9223372036854775807; omega

set_option maxRecDepth 100000 in
set_option maxHeartbeats 32000000 in
theorem law06a_any (v : Value) (l : List Int) (v1 : Value) (raw : List Mb) (v2 : Value) (oth : List Mb) (x : Int) (v4 : Value) (p : List Int) (text : ByteArray) (w : World) (hl : SlI w none v l) (hraw : RwC w v1 raw) (hoth : RwC w v2 oth) (hx : (Lit.int .i64 x).wf = true) (hp : SlI w none v4 p) (htx : text.size ≤ maxLen) (hT : Tab w) (hM : Mxl w) :
    Calls Tryz.prog 6 #[v, v1, v2, .int .i64 x, v4, .string text] w fun e w' => e = .returned (.bool true) ∧ Fr none w w' := by
  obtain ⟨A1, c1, rfl, r1, r2, r3, _⟩ := hraw.open_
  obtain ⟨A2, c2, rfl, o1, o2, o3, _⟩ := hoth.open_
  obtain ⟨Ap, cp, rfl, p1, p2, _⟩ := hp.open_
  unfold maxLen at htx
  go_enter Tryz.func6, Tryz.ntmps6
  go_upto_region 1 with (fail)
  generalize hW : (w.alloc _).alloc _ = w1
  have hz1 : w1.heap.size = w.heap.size + 2 := by rw [← hW]; simp
  have F1 : Fr none w w1 := hW ▸ ((Fr.refl _ w).alloc _).alloc _
  have b7 : CB w1 w.heap.size (.slice A1 raw.length c1) := by
    rw [← hW]; exact (Below.heap_alloc _ _ _ (by simp <;> omega)).trans (blk_new _ _)
  have b8 : CB w1 (w.heap.size + 1) (.slice A2 oth.length c2) := by
    rw [← hW]; exact blk_new_at (by simp) _
  have hz1a : w.heap.size + 2 ≤ w1.heap.size := by omega
  clear hW hz1
  obtain ⟨B8, hB8⟩ : ∃ B8, B8 = w.heap.size + 1 := ⟨_, rfl⟩
  rw [← hB8] at b8 ⊢
  have hB8a : B8 ≤ w.heap.size + 1 := by omega
  have hB8b : w.heap.size + 1 ≤ B8 := by omega
  clear hB8
  have R7 := b7.cell
  have l7 := blk_lt b7
  have hr1 := hraw.fr F1
  have ho1 := hoth.fr F1
  have hl1 := hl.fr F1
  have hp1 := hp.fr F1
  clear hraw hoth hl hp
  go_wp2_with fail
  refine (scfg_any raw _ _ hr1).mono ?_
  rintro e w2 ⟨b, rfl, hb, F2⟩
  have F02 := F1.pure F2
  cases b with
  | false =>
    go_wp2_with fail
    refine (awake6_any _ (hT.fr F02) (hM.fr F02)).mono ?_
    rintro e wf ⟨rfl, FF⟩
    go_wp2_with fail
    go_ret
    exact ⟨rfl, (F02).pure FF⟩
  | true =>
    have hrs := hb rfl
    have b72 := b7.fr F2 (by simp)
    have b82 := b8.fr F2 (by simp)
    have R8 := b82.cell
    have l8 := blk_lt b82
    have ho2 := ho1.fr F2
    have hr2 := (hr1.fr F2).small (fun m hm => by have := hrs.2 m hm; omega)
    have hl2 := hl1.fr F2
    have hp2 := hp1.fr F2
    clear hb b7 b8 R7 l7 hr1 ho1 hl1 hp1 F1 F2
    go_wp2_with fail
    refine (scfg_any oth _ _ ho2).mono ?_
    rintro e w3 ⟨b, rfl, hb, F3⟩
    have F03 := F02.pure F3
    cases b with
    | false =>
      go_wp2_with fail
      refine (awake6_any _ (hT.fr F03) (hM.fr F03)).mono ?_
      rintro e wf ⟨rfl, FF⟩
      go_wp2_with fail
      go_ret
      exact ⟨rfl, (F03).pure FF⟩
    | true =>
      have hos := hb rfl
      have b73 := b72.fr F3 (by simp)
      have b83 := b82.fr F3 (by simp)
      have ho3 := (ho2.fr F3).small (fun m hm => by have := hos.2 m hm; omega)
      have hr3 := hr2.keep (fr_dm F3)
      have hl3 := hl2.fr F3
      have hp3 := hp2.fr F3
      have hz3 : w.heap.size + 2 ≤ w3.heap.size := by have := F02.size; have := F3.size; have := blk_lt b83; omega
      clear hb b72 b82 R8 l8 hr2 ho2 hl2 hp2 F02 F3
      by_cases hp30 : 30 < p.length
      · have hd : decide ((30 : Int) < (p.length : Int)) = true := decide_eq_true (by omega)
        clear hp30
        go_wp2_with fail
        refine (awake6_any _ (hT.fr F03) (hM.fr F03)).mono ?_
        rintro e wf ⟨rfl, FF⟩
        go_wp2_with fail
        go_ret
        exact ⟨rfl, (F03).pure FF⟩
      · have hd : decide ((30 : Int) < (p.length : Int)) = false := decide_eq_false (by omega)
        have hp30' : p.length ≤ 30 := by omega
        clear hp30
        by_cases ht8 : 8000 < text.size
        · have hd2 : decide ((8000 : Int) < (text.size : Int)) = true := decide_eq_true (by omega)
          clear ht8
          go_wp2_with fail
          refine (awake6_any _ (hT.fr F03) (hM.fr F03)).mono ?_
          rintro e wf ⟨rfl, FF⟩
          go_wp2_with fail
          go_ret
          exact ⟨rfl, (F03).pure FF⟩
        · have hd2 : decide ((8000 : Int) < (text.size : Int)) = false := decide_eq_false (by omega)
          have ht8' : text.size ≤ 8000 := by omega
          clear ht8 htx
          go_wp2_with fail
          refine (tapeNew_any _ _ _ hl3).mono ?_
          rintro e w4 ⟨g, rfl, hg, S4, F4⟩
          have hg4 := S4.lt
          clear hd hd2 hl3
          go_wp2_with fail
          refine (mkconfig_any 10 g _ (by omega) (by omega) S4).mono ?_
          rintro e w5 ⟨vc, L, rfl, hc, hL1, hL10, hok, S5, F5⟩
          obtain ⟨A, c, rfl⟩ := hc.shape
          have hz4 := F4.size
          have hz5 := F5.size
          have HOK := Lib.hid hok
          have F04 := F03.pure F4
          have F05 := F04.own F5 (fun q hq => by injection hq with hq; omega)
          have b75 := (b73.fr F4 (by simp)).fr F5 (by simp; omega)
          have b85 := (b83.fr F4 (by simp)).fr F5 (by simp; omega)
          have hc5 : CfD w5 (fun b => w4.heap.size ≤ b ∧ b < w5.heap.size) (.agg #[.slice A L.length c]) L := hc.keep (fun k hk => ⟨⟨hk.1, hk.2⟩, rfl⟩)
          have ho5 : CfD w5 (fun b => b < w3.heap.size) (.agg #[.slice A2 oth.length c2]) oth := ho3.keep (fun k hk => ⟨hk.1, (F5.block k (by have := hk.1; omega) (by have := hk.1; simp; omega)).trans (F4.block k hk.1 (by simp))⟩)
          have hr5 : CfD w5 (fun b => b < w3.heap.size) (.agg #[.slice A1 raw.length c1]) raw := hr3.keep (fun k hk => ⟨hk.1, (F5.block k (by have := hk.1; omega) (by have := hk.1; simp; omega)).trans (F4.block k hk.1 (by simp))⟩)
          have hp5 : SlI w5 (some g) (.slice Ap p.length cp) p := ⟨hp3.1.keep (fun k hk => ⟨⟨by have := hk.1; omega, by have := hk.1; simp; omega⟩, (F5.block k (by have := hk.1; omega) (by have := hk.1; simp; omega)).trans (F4.block k hk.1 (by simp))⟩), hp3.2⟩
          clear hok hc b73 b83 ho3 hr3 hp3 F03 F04 S4 F4 F5
          go_upto_region 5 with (fail)
          generalize hW : w5.alloc _ = w6
          have F6 : Fr none w5 w6 := hW ▸ (Fr.refl none w5).alloc _
          have b14 : CB w6 w5.heap.size (.slice A L.length c) := by rw [← hW]; exact blk_new _ _
          clear hW
          have hz6 := F6.size
          have b76 := b75.fr F6 (by simp)
          have b86 := b85.fr F6 (by simp)
          have S6 := S5.fr F6
          have F06 := F05.pure F6
          have hc6 : CfD w6 (fun b => w4.heap.size ≤ b ∧ b < w5.heap.size) (.agg #[.slice A L.length c]) L := hc5.keep (fun k hk => ⟨hk, F6.block k hk.2 (by simp)⟩)
          have ho6 : CfD w6 (fun b => b < w3.heap.size) (.agg #[.slice A2 oth.length c2]) oth := ho5.keep (fun k hk => ⟨hk, F6.block k (by omega) (by simp)⟩)
          have hr6 : CfD w6 (fun b => b < w3.heap.size) (.agg #[.slice A1 raw.length c1]) raw := hr5.keep (fun k hk => ⟨hk, F6.block k (by omega) (by simp)⟩)
          have hp6 := hp5.fr (r := some g) F6.mono
          have l14 := blk_lt b14
          have hHD : Hid (∀ b, (w4.heap.size ≤ b ∧ b < w5.heap.size) → b < w6.drew.heap.size ∧ b ≠ g) := fun b hb => ⟨by show b < w6.heap.size; omega, by omega⟩
          clear b75 b85 S5 F05 hc5 ho5 hr5 hp5 F6
          go_cut [62, 63, 64] (fun s62 s63 s64 wq => ∃ (bk : Nat) (LL : List (List Mb)), s62 = .slice (some ⟨bk, 0, none⟩) 3 3 ∧ s63 = .int .i64 3 ∧ s64 = .int .i64 0 ∧ bk ≠ g ∧ bk < wq.heap.size ∧ LL.length = 3 ∧ Lst6 wq g bk LL ∧ SrcR 84 wq g ∧ Fr (some g) w6 wq)
          case first =>
            refine wp_region_held_drew (S := fun W => (∀ z, W.cell? ⟨w5.heap.size, z, none⟩ = (#[.slice A L.length c] : Array Value)[z]?) ∧ (∀ z, W.cell? ⟨w.heap.size, z, none⟩ = (#[.slice A1 raw.length c1] : Array Value)[z]?) ∧ Fr (some g) w6 W) (by kernel_rfl) ⟨b14.cell, b76.cell, (Fr.refl _ _).drew⟩ (fun hH0 => ?_)
            refine wpAnyH_take (i := 0) (v := ?_) rfl (by kernel_rfl) (by kernel_rfl) (by kernel_rfl) (fun _ _ _ h => h) (Or.inl ⟨by rfl, ?_⟩) (by assumption) ?_
            rotate_left
            · (intro W hW; (try dsimp only at hW); go_simp; try with_reducible rfl)
            try simp only [Act.put, List.setIfInBounds_toArray, List.set_cons_zero, List.set_cons_succ, List.getElem_toArray, List.getElem_cons_zero, List.getElem_cons_succ]
            refine wpAnyH_take (i := 1) (v := ?_) rfl (by kernel_rfl) (by kernel_rfl) (by kernel_rfl) (fun _ _ _ h => h) (Or.inl ⟨by rfl, ?_⟩) (by assumption) ?_
            rotate_left
            · (intro W hW; (try dsimp only at hW); go_simp; try with_reducible rfl)
            try simp only [Act.put, List.setIfInBounds_toArray, List.set_cons_zero, List.set_cons_succ, List.getElem_toArray, List.getElem_cons_zero, List.getElem_cons_succ]
            refine wpAnyH_take (i := 2) (v := ?_) rfl (by kernel_rfl) (by kernel_rfl) (by kernel_rfl) (fun _ _ _ h => h) (Or.inl ⟨by rfl, ?_⟩) (by assumption) ?_
            rotate_left
            · (intro W hW; (try dsimp only at hW); go_simp; try with_reducible rfl)
            try simp only [Act.put, List.setIfInBounds_toArray, List.set_cons_zero, List.set_cons_succ, List.getElem_toArray, List.getElem_cons_zero, List.getElem_cons_succ]
            refine wpAnyH_take (i := 4) (v := ?_) rfl (by kernel_rfl) (by kernel_rfl) (by kernel_rfl) (fun _ _ _ h => h) (Or.inl ⟨by rfl, ?_⟩) (by assumption) ?_
            rotate_left
            · (intro W hW; (try dsimp only at hW); go_simp; try with_reducible rfl)
            try simp only [Act.put, List.setIfInBounds_toArray, List.set_cons_zero, List.set_cons_succ, List.getElem_toArray, List.getElem_cons_zero, List.getElem_cons_succ]
            refine wpAnyH_take (i := 7) (v := ?_) rfl (by kernel_rfl) (by kernel_rfl) (by kernel_rfl) (fun _ _ _ h => h) (Or.inl ⟨by rfl, ?_⟩) (by assumption) ?_
            rotate_left
            · (intro W hW; (try dsimp only at hW); go_simp; try with_reducible rfl)
            try simp only [Act.put, List.setIfInBounds_toArray, List.set_cons_zero, List.set_cons_succ, List.getElem_toArray, List.getElem_cons_zero, List.getElem_cons_succ]
            refine wpAnyH_ready (rs := [3]) (by kernel_rfl) (by simp) ?_
            refine AllReadyH.cons rfl (fun K hK => ?_) AllReadyH.nil
            simp only [List.getElem_toArray, List.getElem_cons_zero, List.getElem_cons_succ]
            go_simp
            go_at_call 47
            refine (bcfg_any L (.agg #[.slice A L.length c]) g _ (fun b => w4.heap.size ≤ b ∧ b < w5.heap.size) hHD.out (CfD.keep (w := w6) (w' := w6.drew) (D := fun b => w4.heap.size ≤ b ∧ b < w5.heap.size) (fun k hk => ⟨hk, rfl⟩) hc6) hL1 hL10 (fun m hm => by have := mbok_size (HOK.out m hm); omega) S6.drew).mono ?_
            rintro e w7 ⟨v7, L7, rfl, h7, hl7, hs7, S7, F7⟩
            obtain ⟨A7, c7, rfl⟩ := h7.shape
            have F7 := ((Fr.refl (some g) w6).drew).same F7
            refine hK.out _ _ ⟨(b14.fr F7 (by simp; omega)).cell, (b76.fr F7 (by simp; omega)).cell, F7⟩ (fun hH1 => ?_)
            clear hK K hH0
            try simp only [Act.put, List.setIfInBounds_toArray, List.set_cons_zero, List.set_cons_succ, List.getElem_toArray, List.getElem_cons_zero, List.getElem_cons_succ]
            refine wpAnyH_ready (rs := [5]) (by kernel_rfl) (by simp) ?_
            refine AllReadyH.cons rfl (fun K hK => ?_) AllReadyH.nil
            simp only [List.getElem_toArray, List.getElem_cons_zero, List.getElem_cons_succ]
            go_simp
            have FA := F7.alloc (.cells #[.slice A L.length c, .slice A7 L7.length c7, .slice A1 raw.length c1] 27)
            refine hK.out _ _ ⟨(b14.fr FA (by simp; omega)).cell, (b76.fr FA (by simp; omega)).cell, FA⟩ (fun hH2 => ?_)
            clear hK K hH1
            try simp only [Act.put, List.setIfInBounds_toArray, List.set_cons_zero, List.set_cons_succ, List.getElem_toArray, List.getElem_cons_zero, List.getElem_cons_succ]
            refine wpAnyH_take (i := 6) (v := ?_) rfl (by kernel_rfl) (by kernel_rfl) (by kernel_rfl) (fun _ _ _ h => h) (Or.inl ⟨by rfl, ?_⟩) (by assumption) ?_
            rotate_left
            · (intro W hW; (try dsimp only at hW); go_simp; try with_reducible rfl)
            try simp only [Act.put, List.setIfInBounds_toArray, List.set_cons_zero, List.set_cons_succ, List.getElem_toArray, List.getElem_cons_zero, List.getElem_cons_succ]
            refine wpAnyH_done (by kernel_rfl) ?_ _
            go_wp2_with fail
            go_meet
            have hz7 := F7.size
            have FB := (Fr.refl none w7).alloc (.cells #[.slice A L.length c, .slice A7 L7.length c7, .slice A1 raw.length c1] 27)
            have hB := FB.size
            have hbn := blk_new w7 (.cells #[.slice A L.length c, .slice A7 L7.length c7, .slice A1 raw.length c1] 27)
            have hgz : g < w7.heap.size := by omega
            have hS9 := S7.fr FB
            generalize w7.alloc _ = w8 at *
            have hlb := blk_lt hbn
            have hd6 : w6.drew.heap.size = w6.heap.size := rfl
            refine ⟨w7.heap.size, [L, L7, raw], rfl, rfl, rfl, by omega, hlb, rfl, ?_, hS9, FA⟩
            intro j hj
            rcases (show j = 0 ∨ j = 1 ∨ j = 2 by simp at hj; omega) with rfl | rfl | rfl
            · exact ⟨A, c, blk_cell hbn 0, ⟨hc6.keep (fun k hk => ⟨⟨by omega, by simp; omega⟩, FA.block k (by omega) (by simp; omega)⟩), by show L.length ≤ 30; omega, fun m hm => by have := mbok_size (HOK.out m hm); omega⟩⟩
            · refine ⟨A7, c7, blk_cell hbn 1, ⟨h7.keep (fun k hk => ⟨⟨by rcases hk with h | h <;> omega, by rcases hk with h | h <;> (simp; omega)⟩, FB.block k (by rcases hk with h | h <;> omega) (by simp)⟩), by show L7.length ≤ 30; omega, fun m hm => hs7 m hm⟩⟩
            · exact ⟨A1, c1, blk_cell hbn 2, ⟨hr6.keep (fun k hk => ⟨⟨by omega, by simp; omega⟩, FA.block k (by omega) (by simp; omega)⟩), hrs.1, fun m hm => by have := hrs.2 m hm; omega⟩⟩
          case rest =>
            obtain ⟨w10, hw10⟩ : ∃ w10 : World, w10 = wc := ⟨_, rfl⟩
            subst hw10
            obtain ⟨bk, LL, rfl, rfl, rfl, hbk, hbz, hLL, hLst, Sc, Fc⟩ := hcut
            have hgw : w.heap.size ≤ g := by omega
            have F0c : Fr none w w10 := F06.own Fc (by simp; omega)
            have b14c := b14.fr Fc (by simp; omega)
            have b8c := b86.fr Fc (by simp; omega)
            have hcc : Cf6 w10 g (.agg #[.slice A L.length c]) L := ⟨hc6.keep (fun k hk => ⟨⟨by have := Fc.size; omega, by simp; omega⟩, Fc.block k (by omega) (by simp; omega)⟩), by omega, fun m hm => by have := mbok_size (HOK.out m hm); omega⟩
            have hoc : Cf6 w10 g (.agg #[.slice A2 oth.length c2]) oth := ⟨ho6.keep (fun k hk => ⟨⟨by have := Fc.size; omega, by simp; omega⟩, Fc.block k (by omega) (by simp; omega)⟩), hos.1, fun m hm => by have := hos.2 m hm; omega⟩
            have hpc := hp6.fr Fc
            have hgc := Sc.lt
            have hB14g : w5.heap.size ≠ g := by omega
            have hB8g : B8 ≠ g := by omega
            have hB14z := blk_lt b14c
            have hB8z := blk_lt b8c
            have hHL := Lib.hid hLst
            have HLL := Lib.hid hLL
            have hrl := hrs.1
            clear b14 b86 b76 hc6 ho6 hr6 hp6 S6 F06 Fc hLst hHD hrs hos hz4 hz5 hz6 l14 r1 r2 r3 o1 o2 o3
            go_wp2_with fail
            go_loopw [64] (fun s64 wr => ∃ j : Nat, j ≤ 3 ∧ s64 = .int .i64 (j : Int) ∧ Fr (some g) w10 wr ∧ SrcR 84 wr g) (fun s64 _ => 3 - (intOf s64).toNat)
            case atStart => exact ⟨0, by omega, rfl, Fr.refl _ _, Sc⟩
            case round =>
              clear Sc
              obtain ⟨j, hj, rfl, F, S⟩ := hrel
              obtain ⟨wz, hwz⟩ : ∃ wz : World, wz = wr := ⟨_, rfl⟩
              subst hwz
              have hzz := F.size
              by_cases hlt : j < 3
              · obtain ⟨Ay, cy, gy, hy⟩ := hHL.out j (by rw [hLL]; exact hlt)
                have gy := F.keep gy (by simp; omega)
                have hy := hy.fr F
                generalize LL[j]'(by rw [hLL]; exact hlt) = Y at *
                go_upto_region 8 with (fail)
                generalize hW : wz.alloc _ = wa
                have Fa : Fr none wz wa := hW ▸ (Fr.refl none wz).alloc _
                have b16 : CB wa wz.heap.size (.slice Ay Y.length cy) := by rw [← hW]; exact blk_new _ _
                clear hW gy
                have hza := Fa.size
                have l16 := blk_lt b16
                have Fca : Fr (some g) w10 wa := F.pure Fa
                have b14a := b14c.fr Fca (by simp; omega)
                have b8a := b8c.fr Fca (by simp; omega)
                have hya := hy.fr (Fa.mono (r := some g))
                have hca := hcc.fr Fca
                have hoa := hoc.fr Fca
                have Sa := S.fr Fa
                have hYl := hya.len
                have hLl := hca.len
                have hOl := hoa.len
                have l14a := blk_lt b14a
                have l8a := blk_lt b8a
                have Ta := hT.fr (F0c.own Fca (by simp; omega))
                have hHa := Lib.hid hya
                have hHc := Lib.hid hca
                have hHo := Lib.hid hoa
                clear hy S F hya hca hoa
                go_cut [104] (fun s104 wq => s104 = .bool false ∧ Fr none wa wq)
                case first =>
                  refine wp_region_held_drew (S := fun W => (∀ z, W.cell? ⟨wz.heap.size, z, none⟩ = (#[.slice Ay Y.length cy] : Array Value)[z]?) ∧ (∀ z, W.cell? ⟨w5.heap.size, z, none⟩ = (#[.slice A L.length c] : Array Value)[z]?) ∧ (∀ z, W.cell? ⟨B8, z, none⟩ = (#[.slice A2 oth.length c2] : Array Value)[z]?) ∧ Fr none wa W) (by kernel_rfl) ⟨b16.cell, b14a.cell, b8a.cell, (Fr.refl _ _).drew⟩ (fun hH0 => ?_)
                  refine wpAnyH_take (i := 0) (v := ?_) rfl (by kernel_rfl) (by kernel_rfl) (by kernel_rfl) (fun _ _ _ h => h) (Or.inl ⟨by rfl, ?_⟩) (by assumption) ?_
                  rotate_left
                  · (intro W hW; (try dsimp only at hW); go_simp; try with_reducible rfl)
                  try simp only [Act.put, List.setIfInBounds_toArray, List.set_cons_zero, List.set_cons_succ, List.getElem_toArray, List.getElem_cons_zero, List.getElem_cons_succ]
                  refine wpAnyH_take (i := 2) (v := ?_) rfl (by kernel_rfl) (by kernel_rfl) (by kernel_rfl) (fun _ _ _ h => h) (Or.inl ⟨by rfl, ?_⟩) (by assumption) ?_
                  rotate_left
                  · (intro W hW; (try dsimp only at hW); go_simp; try with_reducible rfl)
                  try simp only [Act.put, List.setIfInBounds_toArray, List.set_cons_zero, List.set_cons_succ, List.getElem_toArray, List.getElem_cons_zero, List.getElem_cons_succ]
                  refine wpAnyH_ready (rs := [1]) (by kernel_rfl) (by simp) ?_
                  refine AllReadyH.cons rfl (fun K hK => ?_) AllReadyH.nil
                  simp only [List.getElem_toArray, List.getElem_cons_zero, List.getElem_cons_succ]
                  go_simp
                  go_at_call 44
                  refine (cvalid_any Y _ _ (hHa.out.none.fr hH0.2.2.2) hHa.out.big (by omega)).mono ?_
                  rintro e wN ⟨rfl, FN⟩
                  have FN := hH0.2.2.2.pure FN
                  refine hK.out _ _ ⟨(b16.fr FN (by simp)).cell, (b14a.fr FN (by simp)).cell, (b8a.fr FN (by simp)).cell, FN⟩ (fun hH1 => ?_)
                  clear hK K hH0 FN
                  have hH0 := hH1
                  clear hH1
                  try simp only [Act.put, List.setIfInBounds_toArray, List.set_cons_zero, List.set_cons_succ, List.getElem_toArray, List.getElem_cons_zero, List.getElem_cons_succ]
                  refine wpAnyH_ready (rs := [3]) (by kernel_rfl) (by simp) ?_
                  refine AllReadyH.cons rfl (fun K hK => ?_) AllReadyH.nil
                  simp only [List.getElem_toArray, List.getElem_cons_zero, List.getElem_cons_succ]
                  go_simp
                  go_at_call 48
                  refine (rcvalid_any Y _ _ (hHa.out.none.fr hH0.2.2.2) hHa.out.big (by omega)).mono ?_
                  rintro e wN ⟨rfl, FN⟩
                  have FN := hH0.2.2.2.pure FN
                  refine hK.out _ _ ⟨(b16.fr FN (by simp)).cell, (b14a.fr FN (by simp)).cell, (b8a.fr FN (by simp)).cell, FN⟩ (fun hH1 => ?_)
                  clear hK K hH0 FN
                  have hH0 := hH1
                  clear hH1
                  try simp only [Act.put, List.setIfInBounds_toArray, List.set_cons_zero, List.set_cons_succ, List.getElem_toArray, List.getElem_cons_zero, List.getElem_cons_succ]
                  refine wpAnyH_take (i := 4) (v := ?_) rfl (by kernel_rfl) (by kernel_rfl) (by kernel_rfl) (fun _ _ _ h => h) (Or.inl ⟨by rfl, ?_⟩) (by assumption) ?_
                  rotate_left
                  · (intro W hW; (try dsimp only at hW); go_simp; try with_reducible rfl)
                  try simp only [Act.put, List.setIfInBounds_toArray, List.set_cons_zero, List.set_cons_succ, List.getElem_toArray, List.getElem_cons_zero, List.getElem_cons_succ]
                  refine wpAnyH_take (i := 5) (v := ?_) rfl (by kernel_rfl) (by kernel_rfl) (by kernel_rfl) (fun _ _ _ h => h) (Or.inl ⟨by rfl, ?_⟩) (by assumption) ?_
                  rotate_left
                  · (intro W hW; (try dsimp only at hW); go_simp; try with_reducible rfl)
                  try simp only [Act.put, List.setIfInBounds_toArray, List.set_cons_zero, List.set_cons_succ, List.getElem_toArray, List.getElem_cons_zero, List.getElem_cons_succ]
                  refine wpAnyH_take (i := 6) (v := ?_) rfl (by kernel_rfl) (by kernel_rfl) (by kernel_rfl) (fun _ _ _ h => h) (Or.inl ⟨by rfl, ?_⟩) (by assumption) ?_
                  rotate_left
                  · (intro W hW; (try dsimp only at hW); go_simp; try with_reducible rfl)
                  try simp only [Act.put, List.setIfInBounds_toArray, List.set_cons_zero, List.set_cons_succ, List.getElem_toArray, List.getElem_cons_zero, List.getElem_cons_succ]
                  refine wpAnyH_take (i := 8) (v := ?_) rfl (by kernel_rfl) (by kernel_rfl) (by kernel_rfl) (fun _ _ _ h => h) (Or.inl ⟨by rfl, ?_⟩) (by assumption) ?_
                  rotate_left
                  · (intro W hW; (try dsimp only at hW); go_simp; try with_reducible rfl)
                  try simp only [Act.put, List.setIfInBounds_toArray, List.set_cons_zero, List.set_cons_succ, List.getElem_toArray, List.getElem_cons_zero, List.getElem_cons_succ]
                  refine wpAnyH_ready (rs := [7]) (by kernel_rfl) (by simp) ?_
                  refine AllReadyH.cons rfl (fun K hK => ?_) AllReadyH.nil
                  simp only [List.getElem_toArray, List.getElem_cons_zero, List.getElem_cons_succ]
                  go_simp
                  go_at_call 49
                  refine (declared06_any Y _ _ (hHa.out.none.fr hH0.2.2.2) (by omega)).mono ?_
                  rintro e wN ⟨rfl, FN⟩
                  have FN := hH0.2.2.2.pure FN
                  refine hK.out _ _ ⟨(b16.fr FN (by simp)).cell, (b14a.fr FN (by simp)).cell, (b8a.fr FN (by simp)).cell, FN⟩ (fun hH1 => ?_)
                  clear hK K hH0 FN
                  have hH0 := hH1
                  clear hH1
                  try simp only [Act.put, List.setIfInBounds_toArray, List.set_cons_zero, List.set_cons_succ, List.getElem_toArray, List.getElem_cons_zero, List.getElem_cons_succ]
                  refine wpAnyH_ready (rs := [9]) (by kernel_rfl) (by simp) ?_
                  refine AllReadyH.cons rfl (fun K hK => ?_) AllReadyH.nil
                  simp only [List.getElem_toArray, List.getElem_cons_zero, List.getElem_cons_succ]
                  go_simp
                  go_at_call 50
                  refine (rdeclared06_any Y _ _ (hHa.out.none.fr hH0.2.2.2) (by omega)).mono ?_
                  rintro e wN ⟨rfl, FN⟩
                  have FN := hH0.2.2.2.pure FN
                  refine hK.out _ _ ⟨(b16.fr FN (by simp)).cell, (b14a.fr FN (by simp)).cell, (b8a.fr FN (by simp)).cell, FN⟩ (fun hH1 => ?_)
                  clear hK K hH0 FN
                  have hH0 := hH1
                  clear hH1
                  try simp only [Act.put, List.setIfInBounds_toArray, List.set_cons_zero, List.set_cons_succ, List.getElem_toArray, List.getElem_cons_zero, List.getElem_cons_succ]
                  refine wpAnyH_take (i := 10) (v := ?_) rfl (by kernel_rfl) (by kernel_rfl) (by kernel_rfl) (fun _ _ _ h => h) (Or.inl ⟨by rfl, ?_⟩) (by assumption) ?_
                  rotate_left
                  · (intro W hW; (try dsimp only at hW); go_simp; try with_reducible rfl)
                  try simp only [Act.put, List.setIfInBounds_toArray, List.set_cons_zero, List.set_cons_succ, List.getElem_toArray, List.getElem_cons_zero, List.getElem_cons_succ]
                  refine wpAnyH_take (i := 11) (v := ?_) rfl (by kernel_rfl) (by kernel_rfl) (by kernel_rfl) (fun _ _ _ h => h) (Or.inl ⟨by rfl, ?_⟩) (by assumption) ?_
                  rotate_left
                  · (intro W hW; (try dsimp only at hW); go_simp; try with_reducible rfl)
                  try simp only [Act.put, List.setIfInBounds_toArray, List.set_cons_zero, List.set_cons_succ, List.getElem_toArray, List.getElem_cons_zero, List.getElem_cons_succ]
                  refine wpAnyH_take (i := 12) (v := ?_) rfl (by kernel_rfl) (by kernel_rfl) (by kernel_rfl) (fun _ _ _ h => h) (Or.inl ⟨by rfl, ?_⟩) (by assumption) ?_
                  rotate_left
                  · (intro W hW; (try dsimp only at hW); go_simp; try with_reducible rfl)
                  try simp only [Act.put, List.setIfInBounds_toArray, List.set_cons_zero, List.set_cons_succ, List.getElem_toArray, List.getElem_cons_zero, List.getElem_cons_succ]
                  refine wpAnyH_take (i := 13) (v := ?_) rfl (by kernel_rfl) (by kernel_rfl) (by kernel_rfl) (fun _ _ _ h => h) (Or.inl ⟨by rfl, ?_⟩) (by assumption) ?_
                  rotate_left
                  · (intro W hW; (try dsimp only at hW); go_simp; try with_reducible rfl)
                  try simp only [Act.put, List.setIfInBounds_toArray, List.set_cons_zero, List.set_cons_succ, List.getElem_toArray, List.getElem_cons_zero, List.getElem_cons_succ]
                  refine wpAnyH_take (i := 15) (v := ?_) rfl (by kernel_rfl) (by kernel_rfl) (by kernel_rfl) (fun _ _ _ h => h) (Or.inl ⟨by rfl, ?_⟩) (by assumption) ?_
                  rotate_left
                  · (intro W hW; (try dsimp only at hW); go_simp; try with_reducible rfl)
                  try simp only [Act.put, List.setIfInBounds_toArray, List.set_cons_zero, List.set_cons_succ, List.getElem_toArray, List.getElem_cons_zero, List.getElem_cons_succ]
                  refine wpAnyH_ready (rs := [14]) (by kernel_rfl) (by simp) ?_
                  refine AllReadyH.cons rfl (fun K hK => ?_) AllReadyH.nil
                  simp only [List.getElem_toArray, List.getElem_cons_zero, List.getElem_cons_succ]
                  go_simp
                  go_at_call 51
                  refine (ctext_any Y _ _ (hHa.out.none.fr hH0.2.2.2) hHa.out.big (by omega) (Ta.fr hH0.2.2.2)).mono ?_
                  rintro e wN ⟨rfl, FN⟩
                  have FN := hH0.2.2.2.pure FN
                  refine hK.out _ _ ⟨(b16.fr FN (by simp)).cell, (b14a.fr FN (by simp)).cell, (b8a.fr FN (by simp)).cell, FN⟩ (fun hH1 => ?_)
                  clear hK K hH0 FN
                  have hH0 := hH1
                  clear hH1
                  try simp only [Act.put, List.setIfInBounds_toArray, List.set_cons_zero, List.set_cons_succ, List.getElem_toArray, List.getElem_cons_zero, List.getElem_cons_succ]
                  refine wpAnyH_ready (rs := [16]) (by kernel_rfl) (by simp) ?_
                  refine AllReadyH.cons rfl (fun K hK => ?_) AllReadyH.nil
                  simp only [List.getElem_toArray, List.getElem_cons_zero, List.getElem_cons_succ]
                  go_simp
                  go_at_call 9
                  refine (rctext_any Y _ _ (hHa.out.none.fr hH0.2.2.2) hHa.out.big (by omega) (Ta.fr hH0.2.2.2)).mono ?_
                  rintro e wN ⟨rfl, FN⟩
                  have FN := hH0.2.2.2.pure FN
                  refine hK.out _ _ ⟨(b16.fr FN (by simp)).cell, (b14a.fr FN (by simp)).cell, (b8a.fr FN (by simp)).cell, FN⟩ (fun hH1 => ?_)
                  clear hK K hH0 FN
                  have hH0 := hH1
                  clear hH1
                  try simp only [Act.put, List.setIfInBounds_toArray, List.set_cons_zero, List.set_cons_succ, List.getElem_toArray, List.getElem_cons_zero, List.getElem_cons_succ]
                  refine wpAnyH_take (i := 17) (v := ?_) rfl (by kernel_rfl) (by kernel_rfl) (by kernel_rfl) (fun _ _ _ h => h) (Or.inl ⟨by rfl, ?_⟩) (by assumption) ?_
                  rotate_left
                  · (intro W hW; (try dsimp only at hW); go_simp; try with_reducible rfl)
                  try simp only [Act.put, List.setIfInBounds_toArray, List.set_cons_zero, List.set_cons_succ, List.getElem_toArray, List.getElem_cons_zero, List.getElem_cons_succ]
                  refine wpAnyH_take (i := 18) (v := ?_) rfl (by kernel_rfl) (by kernel_rfl) (by kernel_rfl) (fun _ _ _ h => h) (Or.inl ⟨by rfl, ?_⟩) (by assumption) ?_
                  rotate_left
                  · (intro W hW; (try dsimp only at hW); go_simp; try with_reducible rfl)
                  try simp only [Act.put, List.setIfInBounds_toArray, List.set_cons_zero, List.set_cons_succ, List.getElem_toArray, List.getElem_cons_zero, List.getElem_cons_succ]
                  refine wpAnyH_take (i := 19) (v := ?_) rfl (by kernel_rfl) (by kernel_rfl) (by kernel_rfl) (fun _ _ _ h => h) (Or.inl ⟨by rfl, ?_⟩) (by assumption) ?_
                  rotate_left
                  · (intro W hW; (try dsimp only at hW); go_simp; try with_reducible rfl)
                  try simp only [Act.put, List.setIfInBounds_toArray, List.set_cons_zero, List.set_cons_succ, List.getElem_toArray, List.getElem_cons_zero, List.getElem_cons_succ]
                  refine wpAnyH_take (i := 20) (v := ?_) rfl (by kernel_rfl) (by kernel_rfl) (by kernel_rfl) (fun _ _ _ h => h) (Or.inl ⟨by rfl, ?_⟩) (by assumption) ?_
                  rotate_left
                  · (intro W hW; (try dsimp only at hW); go_simp; try with_reducible rfl)
                  try simp only [Act.put, List.setIfInBounds_toArray, List.set_cons_zero, List.set_cons_succ, List.getElem_toArray, List.getElem_cons_zero, List.getElem_cons_succ]
                  refine wpAnyH_take (i := 21) (v := ?_) rfl (by kernel_rfl) (by kernel_rfl) (by kernel_rfl) (fun _ _ _ h => h) (Or.inl ⟨by rfl, ?_⟩) (by assumption) ?_
                  rotate_left
                  · (intro W hW; (try dsimp only at hW); go_simp; try with_reducible rfl)
                  try simp only [Act.put, List.setIfInBounds_toArray, List.set_cons_zero, List.set_cons_succ, List.getElem_toArray, List.getElem_cons_zero, List.getElem_cons_succ]
                  refine wpAnyH_take (i := 23) (v := ?_) rfl (by kernel_rfl) (by kernel_rfl) (by kernel_rfl) (fun _ _ _ h => h) (Or.inl ⟨by rfl, ?_⟩) (by assumption) ?_
                  rotate_left
                  · (intro W hW; (try dsimp only at hW); go_simp; try with_reducible rfl)
                  try simp only [Act.put, List.setIfInBounds_toArray, List.set_cons_zero, List.set_cons_succ, List.getElem_toArray, List.getElem_cons_zero, List.getElem_cons_succ]
                  refine wpAnyH_take (i := 24) (v := ?_) rfl (by kernel_rfl) (by kernel_rfl) (by kernel_rfl) (fun _ _ _ h => h) (Or.inl ⟨by rfl, ?_⟩) (by assumption) ?_
                  rotate_left
                  · (intro W hW; (try dsimp only at hW); go_simp; try with_reducible rfl)
                  try simp only [Act.put, List.setIfInBounds_toArray, List.set_cons_zero, List.set_cons_succ, List.getElem_toArray, List.getElem_cons_zero, List.getElem_cons_succ]
                  refine wpAnyH_ready (rs := [22]) (by kernel_rfl) (by simp) ?_
                  refine AllReadyH.cons rfl (fun K hK => ?_) AllReadyH.nil
                  simp only [List.getElem_toArray, List.getElem_cons_zero, List.getElem_cons_succ]
                  go_simp
                  go_at_call 52
                  refine (csame_any Y oth _ _ _ (hHa.out.none.fr hH0.2.2.2) (hHo.out.none.fr hH0.2.2.2) (by omega) (by omega)).mono ?_
                  rintro e wN ⟨rfl, FN⟩
                  have FN := hH0.2.2.2.pure FN
                  refine hK.out _ _ ⟨(b16.fr FN (by simp)).cell, (b14a.fr FN (by simp)).cell, (b8a.fr FN (by simp)).cell, FN⟩ (fun hH1 => ?_)
                  clear hK K hH0 FN
                  have hH0 := hH1
                  clear hH1
                  try simp only [Act.put, List.setIfInBounds_toArray, List.set_cons_zero, List.set_cons_succ, List.getElem_toArray, List.getElem_cons_zero, List.getElem_cons_succ]
                  refine wpAnyH_ready (rs := [25]) (by kernel_rfl) (by simp) ?_
                  refine AllReadyH.cons rfl (fun K hK => ?_) AllReadyH.nil
                  simp only [List.getElem_toArray, List.getElem_cons_zero, List.getElem_cons_succ]
                  go_simp
                  go_at_call 43
                  refine (rsameC_any Y oth _ _ _ (hHa.out.none.fr hH0.2.2.2) (hHo.out.none.fr hH0.2.2.2) (by omega) (by omega)).mono ?_
                  rintro e wN ⟨rfl, FN⟩
                  have FN := hH0.2.2.2.pure FN
                  refine hK.out _ _ ⟨(b16.fr FN (by simp)).cell, (b14a.fr FN (by simp)).cell, (b8a.fr FN (by simp)).cell, FN⟩ (fun hH1 => ?_)
                  clear hK K hH0 FN
                  have hH0 := hH1
                  clear hH1
                  try simp only [Act.put, List.setIfInBounds_toArray, List.set_cons_zero, List.set_cons_succ, List.getElem_toArray, List.getElem_cons_zero, List.getElem_cons_succ]
                  refine wpAnyH_take (i := 26) (v := ?_) rfl (by kernel_rfl) (by kernel_rfl) (by kernel_rfl) (fun _ _ _ h => h) (Or.inl ⟨by rfl, ?_⟩) (by assumption) ?_
                  rotate_left
                  · (intro W hW; (try dsimp only at hW); go_simp; try with_reducible rfl)
                  try simp only [Act.put, List.setIfInBounds_toArray, List.set_cons_zero, List.set_cons_succ, List.getElem_toArray, List.getElem_cons_zero, List.getElem_cons_succ]
                  refine wpAnyH_take (i := 27) (v := ?_) rfl (by kernel_rfl) (by kernel_rfl) (by kernel_rfl) (fun _ _ _ h => h) (Or.inl ⟨by rfl, ?_⟩) (by assumption) ?_
                  rotate_left
                  · (intro W hW; (try dsimp only at hW); go_simp; try with_reducible rfl)
                  try simp only [Act.put, List.setIfInBounds_toArray, List.set_cons_zero, List.set_cons_succ, List.getElem_toArray, List.getElem_cons_zero, List.getElem_cons_succ]
                  refine wpAnyH_take (i := 28) (v := ?_) rfl (by kernel_rfl) (by kernel_rfl) (by kernel_rfl) (fun _ _ _ h => h) (Or.inl ⟨by rfl, ?_⟩) (by assumption) ?_
                  rotate_left
                  · (intro W hW; (try dsimp only at hW); go_simp; try with_reducible rfl)
                  try simp only [Act.put, List.setIfInBounds_toArray, List.set_cons_zero, List.set_cons_succ, List.getElem_toArray, List.getElem_cons_zero, List.getElem_cons_succ]
                  refine wpAnyH_take (i := 29) (v := ?_) rfl (by kernel_rfl) (by kernel_rfl) (by kernel_rfl) (fun _ _ _ h => h) (Or.inl ⟨by rfl, ?_⟩) (by assumption) ?_
                  rotate_left
                  · (intro W hW; (try dsimp only at hW); go_simp; try with_reducible rfl)
                  try simp only [Act.put, List.setIfInBounds_toArray, List.set_cons_zero, List.set_cons_succ, List.getElem_toArray, List.getElem_cons_zero, List.getElem_cons_succ]
                  refine wpAnyH_take (i := 30) (v := ?_) rfl (by kernel_rfl) (by kernel_rfl) (by kernel_rfl) (fun _ _ _ h => h) (Or.inl ⟨by rfl, ?_⟩) (by assumption) ?_
                  rotate_left
                  · (intro W hW; (try dsimp only at hW); go_simp; try with_reducible rfl)
                  try simp only [Act.put, List.setIfInBounds_toArray, List.set_cons_zero, List.set_cons_succ, List.getElem_toArray, List.getElem_cons_zero, List.getElem_cons_succ]
                  refine wpAnyH_take (i := 32) (v := ?_) rfl (by kernel_rfl) (by kernel_rfl) (by kernel_rfl) (fun _ _ _ h => h) (Or.inl ⟨by rfl, ?_⟩) (by assumption) ?_
                  rotate_left
                  · (intro W hW; (try dsimp only at hW); go_simp; try with_reducible rfl)
                  try simp only [Act.put, List.setIfInBounds_toArray, List.set_cons_zero, List.set_cons_succ, List.getElem_toArray, List.getElem_cons_zero, List.getElem_cons_succ]
                  refine wpAnyH_take (i := 33) (v := ?_) rfl (by kernel_rfl) (by kernel_rfl) (by kernel_rfl) (fun _ _ _ h => h) (Or.inl ⟨by rfl, ?_⟩) (by assumption) ?_
                  rotate_left
                  · (intro W hW; (try dsimp only at hW); go_simp; try with_reducible rfl)
                  try simp only [Act.put, List.setIfInBounds_toArray, List.set_cons_zero, List.set_cons_succ, List.getElem_toArray, List.getElem_cons_zero, List.getElem_cons_succ]
                  refine wpAnyH_ready (rs := [31]) (by kernel_rfl) (by simp) ?_
                  refine AllReadyH.cons rfl (fun K hK => ?_) AllReadyH.nil
                  simp only [List.getElem_toArray, List.getElem_cons_zero, List.getElem_cons_succ]
                  go_simp
                  go_at_call 52
                  refine (csame_any L Y _ _ _ (hHc.out.none.fr hH0.2.2.2) (hHa.out.none.fr hH0.2.2.2) (by omega) (by omega)).mono ?_
                  rintro e wN ⟨rfl, FN⟩
                  have FN := hH0.2.2.2.pure FN
                  refine hK.out _ _ ⟨(b16.fr FN (by simp)).cell, (b14a.fr FN (by simp)).cell, (b8a.fr FN (by simp)).cell, FN⟩ (fun hH1 => ?_)
                  clear hK K hH0 FN
                  have hH0 := hH1
                  clear hH1
                  try simp only [Act.put, List.setIfInBounds_toArray, List.set_cons_zero, List.set_cons_succ, List.getElem_toArray, List.getElem_cons_zero, List.getElem_cons_succ]
                  refine wpAnyH_ready (rs := [34]) (by kernel_rfl) (by simp) ?_
                  refine AllReadyH.cons rfl (fun K hK => ?_) AllReadyH.nil
                  simp only [List.getElem_toArray, List.getElem_cons_zero, List.getElem_cons_succ]
                  go_simp
                  go_at_call 43
                  refine (rsameC_any L Y _ _ _ (hHc.out.none.fr hH0.2.2.2) (hHa.out.none.fr hH0.2.2.2) (by omega) (by omega)).mono ?_
                  rintro e wN ⟨rfl, FN⟩
                  have FN := hH0.2.2.2.pure FN
                  refine hK.out _ _ ⟨(b16.fr FN (by simp)).cell, (b14a.fr FN (by simp)).cell, (b8a.fr FN (by simp)).cell, FN⟩ (fun hH1 => ?_)
                  clear hK K hH0 FN
                  have hH0 := hH1
                  clear hH1
                  try simp only [Act.put, List.setIfInBounds_toArray, List.set_cons_zero, List.set_cons_succ, List.getElem_toArray, List.getElem_cons_zero, List.getElem_cons_succ]
                  refine wpAnyH_take (i := 35) (v := ?_) rfl (by kernel_rfl) (by kernel_rfl) (by kernel_rfl) (fun _ _ _ h => h) (Or.inl ⟨by rfl, ?_⟩) (by assumption) ?_
                  rotate_left
                  · (intro W hW; (try dsimp only at hW); go_simp; try with_reducible rfl)
                  try simp only [Act.put, List.setIfInBounds_toArray, List.set_cons_zero, List.set_cons_succ, List.getElem_toArray, List.getElem_cons_zero, List.getElem_cons_succ]
                  refine wpAnyH_take (i := 36) (v := ?_) rfl (by kernel_rfl) (by kernel_rfl) (by kernel_rfl) (fun _ _ _ h => h) (Or.inl ⟨by rfl, ?_⟩) (by assumption) ?_
                  rotate_left
                  · (intro W hW; (try dsimp only at hW); go_simp; try with_reducible rfl)
                  try simp only [Act.put, List.setIfInBounds_toArray, List.set_cons_zero, List.set_cons_succ, List.getElem_toArray, List.getElem_cons_zero, List.getElem_cons_succ]
                  refine wpAnyH_done (by kernel_rfl) ?_ _
                  go_wp2_with fail
                  go_meet
                  exact ⟨rfl, hH0.2.2.2⟩
                case rest =>
                  obtain ⟨wb, hwb⟩ : ∃ wb : World, wb = wc := ⟨_, rfl⟩
                  subst hwb
                  obtain ⟨rfl, Fb⟩ := hcut
                  have hzb := Fb.size
                  have Fcb := Fca.pure Fb
                  have b16b := b16.fr Fb (by simp)
                  have Sb := Sa.fr Fb
                  have hg16 : wz.heap.size ≠ g := by omega
                  have Fab : Fr (some g) wa wb := Fb.mono
                  clear Fca b16 Sa b14a b8a l14a l8a Ta Fb
                  go_wp2_with fail
                  refine (tapeN_any 1024 g _ (by omega) (by omega) Sb).mono ?_
                  rintro e wd ⟨n, rfl, n1, n2, Sd, Fd⟩
                  have Fcd := Fcb.same Fd
                  have hzd := Fd.size
                  have b16d := b16b.fr Fd (by simp; omega)
                  have Fad := Fab.same Fd
                  clear Sb Fcb b16b Fd Fab
                  go_upto_region 11 with (fail)
                  generalize hW : wd.alloc _ = we
                  have Fe : Fr none wd we := hW ▸ (Fr.refl none wd).alloc _
                  have bz : we.heap[wd.heap.size]? = some (.cells #[.int .i64 x, .int .i64 n] 3) := by rw [← hW]; exact blk_new _ _
                  clear hW
                  have hze := Fe.size
                  have lbz := blk_lt bz
                  have Fce := Fcd.pure Fe
                  have b16e := b16d.fr Fe (by simp)
                  have Se := Sd.fr Fe
                  have hBz : ∀ k, k < 2 → ∃ zz : Int, we.cell? ⟨wd.heap.size, k, none⟩ = some (.int .i64 zz) := fun k hk => by
                    rcases (show k = 0 ∨ k = 1 by omega) with rfl | rfl
                    · exact ⟨_, blk_cell bz 0⟩
                    · exact ⟨_, blk_cell bz 1⟩
                  have HBZ := Lib.hid hBz
                  have hHe := Lib.hid (hHa.out.fr (Fad.pure Fe))
                  have hHLe := Lib.hid (hHc.out.fr (Fad.pure Fe))
                  have hHoe := Lib.hid (hHo.out.fr (Fad.pure Fe))
                  clear Sd Fcd b16d Fe bz hBz Fad hHa hHc hHo
                  go_loopw [110] (fun s110 wr => ∃ k : Nat, k ≤ 2 ∧ s110 = .int .i64 (k : Int) ∧ Fr none we wr) (fun s110 _ => 2 - (intOf s110).toNat)
                  case atStart => exact ⟨0, by omega, rfl, Fr.refl _ _⟩
                  case round =>
                    obtain ⟨k, hk, rfl, Fk⟩ := hrel
                    obtain ⟨wk, hwk⟩ : ∃ wk : World, wk = wr := ⟨_, rfl⟩
                    subst hwk
                    have hzk := Fk.size
                    have b16k := b16e.fr Fk (by simp)
                    by_cases hlt2 : k < 2
                    · obtain ⟨zz, hzz2⟩ := HBZ.out k hlt2
                      have hzz2 := Fk.keep hzz2 (by simp)
                      have l16k := blk_lt b16k
                      have hHk := Lib.hid (hHe.out.none.fr Fk)
                      go_upto_region 13 with (fail)
                      refine wp_region_held_drew (S := fun W => (∀ z, W.cell? ⟨wz.heap.size, z, none⟩ = (#[.slice Ay Y.length cy] : Array Value)[z]?) ∧ Fr none wk W) (by kernel_rfl) ⟨b16k.cell, (Fr.refl _ _).drew⟩ (fun hH0 => ?_)
                      refine wpAnyH_take (i := 0) (v := ?_) rfl (by kernel_rfl) (by kernel_rfl) (by kernel_rfl) (fun _ _ _ h => h) (Or.inl ⟨by rfl, ?_⟩) (by assumption) ?_
                      rotate_left
                      · (intro W hW; (try dsimp only at hW); go_simp; try with_reducible rfl)
                      try simp only [Act.put, List.setIfInBounds_toArray, List.set_cons_zero, List.set_cons_succ, List.getElem_toArray, List.getElem_cons_zero, List.getElem_cons_succ]
                      refine wpAnyH_take (i := 1) (v := ?_) rfl (by kernel_rfl) (by kernel_rfl) (by kernel_rfl) (fun _ _ _ h => h) (Or.inl ⟨by rfl, ?_⟩) (by assumption) ?_
                      rotate_left
                      · (intro W hW; (try dsimp only at hW); go_simp; try with_reducible rfl)
                      try simp only [Act.put, List.setIfInBounds_toArray, List.set_cons_zero, List.set_cons_succ, List.getElem_toArray, List.getElem_cons_zero, List.getElem_cons_succ]
                      refine wpAnyH_take (i := 3) (v := ?_) rfl (by kernel_rfl) (by kernel_rfl) (by kernel_rfl) (fun _ _ _ h => h) (Or.inl ⟨by rfl, ?_⟩) (by assumption) ?_
                      rotate_left
                      · (intro W hW; (try dsimp only at hW); go_simp; try with_reducible rfl)
                      try simp only [Act.put, List.setIfInBounds_toArray, List.set_cons_zero, List.set_cons_succ, List.getElem_toArray, List.getElem_cons_zero, List.getElem_cons_succ]
                      refine wpAnyH_take (i := 4) (v := ?_) rfl (by kernel_rfl) (by kernel_rfl) (by kernel_rfl) (fun _ _ _ h => h) (Or.inl ⟨by rfl, ?_⟩) (by assumption) ?_
                      rotate_left
                      · (intro W hW; (try dsimp only at hW); go_simp; try with_reducible rfl)
                      try simp only [Act.put, List.setIfInBounds_toArray, List.set_cons_zero, List.set_cons_succ, List.getElem_toArray, List.getElem_cons_zero, List.getElem_cons_succ]
                      refine wpAnyH_ready (rs := [2]) (by kernel_rfl) (by simp) ?_
                      refine AllReadyH.cons rfl (fun K hK => ?_) AllReadyH.nil
                      simp only [List.getElem_toArray, List.getElem_cons_zero, List.getElem_cons_succ]
                      go_simp
                      go_at_call 53
                      refine (restrict_any zz Y _ _ (hHk.out.fr hH0.2) (by omega)).mono ?_
                      rintro e wN ⟨vx, rfl, hvx, FN⟩
                      obtain ⟨Ax, cx, rfl⟩ := hvx.shape
                      have hvx := hvx.keep (dn_dm (r := none) (by simp))
                      have FN := hH0.2.pure FN
                      refine hK.out _ _ ⟨(b16k.fr FN (by simp)).cell, FN⟩ (fun hH1 => ?_)
                      clear hK K hH0
                      try simp only [Act.put, List.setIfInBounds_toArray, List.set_cons_zero, List.set_cons_succ, List.getElem_toArray, List.getElem_cons_zero, List.getElem_cons_succ]
                      refine wpAnyH_ready (rs := [5]) (by kernel_rfl) (by simp) ?_
                      refine AllReadyH.cons rfl (fun K hK => ?_) AllReadyH.nil
                      simp only [List.getElem_toArray, List.getElem_cons_zero, List.getElem_cons_succ]
                      go_simp
                      go_at_call 54
                      refine (rrestrict_any zz Y _ _ (hHk.out.fr FN) (by omega)).mono ?_
                      rintro e wO ⟨vy, rfl, hvy, FO⟩
                      obtain ⟨Ay', cy', rfl⟩ := hvy.shape
                      have hvx := hvx.fr FO
                      have FO := FN.pure FO
                      refine hK.out _ _ ⟨(b16k.fr FO (by simp)).cell, FO⟩ (fun hH2 => ?_)
                      clear hK K hH1
                      try simp only [Act.put, List.setIfInBounds_toArray, List.set_cons_zero, List.set_cons_succ, List.getElem_toArray, List.getElem_cons_zero, List.getElem_cons_succ]
                      have hrl2 : (rst zz Y).length ≤ 1000 := by rw [rst_len]; omega
                      have hss := (sameC_iff (rst zz Y) (rst zz Y)).2 rfl
                      have cs := rsameC_any (rst zz Y) (rst zz Y) _ _ wO hvx hvy hrl2 hrl2
                      rw [hss] at cs
                      clear hss hrl2
                      refine wpAnyH_ready (rs := [6]) (by kernel_rfl) (by simp) ?_
                      refine AllReadyH.cons rfl (fun K hK => ?_) AllReadyH.nil
                      simp only [List.getElem_toArray, List.getElem_cons_zero, List.getElem_cons_succ]
                      go_simp
                      go_at_call 43
                      refine cs.mono ?_
                      rintro e wP ⟨rfl, FP⟩
                      have FP := FO.pure FP
                      refine hK.out _ _ ⟨(b16k.fr FP (by simp)).cell, FP⟩ (fun hH3 => ?_)
                      clear hK K hH2 cs
                      try simp only [Act.put, List.setIfInBounds_toArray, List.set_cons_zero, List.set_cons_succ, List.getElem_toArray, List.getElem_cons_zero, List.getElem_cons_succ]
                      refine wpAnyH_take (i := 7) (v := ?_) rfl (by kernel_rfl) (by kernel_rfl) (by kernel_rfl) (fun _ _ _ h => h) (Or.inl ⟨by rfl, ?_⟩) (by assumption) ?_
                      rotate_left
                      · (intro W hW; (try dsimp only at hW); go_simp; try with_reducible rfl)
                      try simp only [Act.put, List.setIfInBounds_toArray, List.set_cons_zero, List.set_cons_succ, List.getElem_toArray, List.getElem_cons_zero, List.getElem_cons_succ]
                      refine wpAnyH_done (by kernel_rfl) ?_ _
                      have FE := Fk.pure FP
                      clear hvx hvy FN FO FP hzz2 b16k
                      go_wp2_with fail
                      go_roundw
                      case rel => exact ⟨k + 1, by omega, by go_num, FE⟩
                      case measure => simp [intOf]; omega
                    · obtain rfl : k = 2 := by omega
                      have Fck := Fce.pure Fk
                      have Sk := Se.fr Fk
                      have hHk := Lib.hid (hHe.out.fr (Fk.mono (r := some g)))
                      have R16 := b16k.cell
                      have l16k := blk_lt b16k
                      clear Fk b16e
                      go_wp2_with fail
                      refine (tapeOrder_any Y.length g wk (by omega) Sk).mono ?_
                      rintro e wl ⟨vq, q, rfl, hq, hqs, Sl, Fl⟩
                      have hql : q.length = Y.length := by rw [hq.length_eq, ints_len]
                      have hqI : SlI wl (some g) vq q := ⟨hqs.keep (fun b hb => ⟨⟨hb.2, by have := hb.1; simp; omega⟩, rfl⟩), fun y hy => ints_wi (by omega) (hq.mem_iff.1 hy)⟩
                      obtain ⟨Aq, cq, rfl, _, _⟩ := hqs.formI
                      have hzl := Fl.size
                      have hq30 : q.length ≤ 30 := by omega
                      clear R16 l16k hqs hq hql
                      go_wp2_with fail
                      refine (tapeOrder_any 3 g wl (by omega) Sl).mono ?_
                      rintro e wm ⟨vo, o, rfl, ho, hos, Sm, Fm⟩
                      have hol : o.length = 3 := by rw [ho.length_eq, ints_len]
                      have hoI : SlI wm (some g) vo o := ⟨hos.keep (fun b hb => ⟨⟨hb.2, by have := hb.1; simp; omega⟩, rfl⟩), fun y hy => ints_wi (by omega) (ho.mem_iff.1 hy)⟩
                      obtain ⟨Ao, co, rfl, _, _⟩ := hos.formI
                      have hzm := Fm.size
                      have hqI := hqI.fr Fm
                      have Fkm := Fl.same Fm
                      have Fcm := Fck.same Fkm
                      have hpI := hpc.fr Fcm
                      have b16m := b16k.fr Fkm (by simp; omega)
                      have hHm := Lib.hid (hHk.out.fr Fkm)
                      have ho30 : o.length ≤ 30 := by omega
                      clear hos ho hol Fl Fm Sl Sk Fck Fkm b16k hHk
                      go_upto_region 17 with (fail)
                      generalize hW : wm.alloc _ = wn
                      have Fn : Fr none wm wn := hW ▸ (Fr.refl none wm).alloc _
                      have bp : wn.heap[wm.heap.size]? = some (.cells #[.slice Ap p.length cp, .slice Aq q.length cq, .slice Ao o.length co] 22) := by rw [← hW]; exact blk_new _ _
                      clear hW
                      have hBp : ∀ k, k < 3 → ∃ (A : Option Addr) (c : Nat) (z : List Int), wn.cell? ⟨wm.heap.size, k, none⟩ = some (.slice A z.length c) ∧ SlI wn none (.slice A z.length c) z ∧ z.length ≤ 30 := fun k hk => by
                        rcases (show k = 0 ∨ k = 1 ∨ k = 2 by omega) with rfl | rfl | rfl
                        · exact ⟨Ap, cp, p, blk_cell bp 0, (hpI.weak).fr Fn, hp30'⟩
                        · exact ⟨Aq, cq, q, blk_cell bp 1, (hqI.weak).fr Fn, by omega⟩
                        · exact ⟨Ao, co, o, blk_cell bp 2, (hoI.weak).fr Fn, by omega⟩
                      have HBP := Lib.hid hBp
                      have hzn := Fn.size
                      have lbp := blk_lt bp
                      have Fcn := Fcm.pure Fn
                      have Snn := Sm.fr Fn
                      have b16n := b16m.fr Fn (by simp)
                      have hHn := Lib.hid (hHm.out.fr (Fn.mono (r := some g))).none
                      have hYb := Lib.hid hHm.out.big
                      clear hBp bp hpI hqI hoI Fcm Sm b16m hHm Fn
                      go_loopw [133] (fun s133 wr => ∃ k : Nat, k ≤ 3 ∧ s133 = .int .i64 (k : Int) ∧ Fr none wn wr) (fun s133 _ => 3 - (intOf s133).toNat)
                      case atStart => exact ⟨0, by omega, rfl, Fr.refl _ _⟩
                      case round =>
                        obtain ⟨k, hk, rfl, Fk⟩ := hrel
                        obtain ⟨wk, hwk⟩ : ∃ wk : World, wk = wr := ⟨_, rfl⟩
                        subst hwk
                        have hzk := Fk.size
                        have b16k := b16n.fr Fk (by simp)
                        by_cases hlt3 : k < 3
                        · obtain ⟨Az, cz, z, hz1, hz2, hz3⟩ := HBP.out k hlt3
                          have hz1 := Fk.keep hz1 (by simp)
                          have hz2 := hz2.fr Fk
                          have hyk := hHn.out.fr Fk
                          have con1 := crename_any z Y _ _ wk hz2 hyk hYb.out (by omega) (by omega)
                          obtain ⟨rr, hrr⟩ : ∃ rr, rr = renC z Y := ⟨_, rfl⟩
                          have hrl3 : rr.1.length ≤ 1000 := by rw [hrr]; have := renC_len z Y; omega
                          rw [← hrr] at con1
                          have HRR := Lib.hid hrr
                          clear hrr
                          have R16 := b16k.cell
                          have l16k := blk_lt b16k
                          go_upto_region 20 with (go_at_call 42; refine con1.mono ?_; rintro e wq ⟨vq, rfl, hvq, Fq⟩; obtain ⟨Aq', cq', rfl⟩ := hvq.shape)
                          generalize hW : wq.alloc _ = wr1
                          have F1 : Fr none wq wr1 := hW ▸ (Fr.refl none wq).alloc _
                          have b21 : CB wr1 wq.heap.size (.slice Aq' rr.1.length cq') := by rw [← hW]; exact blk_new _ _
                          clear hW
                          have hzq := Fq.size
                          have hz1' := F1.size
                          have Fk1 := Fq.pure F1
                          have b161 := b16k.fr Fk1 (by simp)
                          have hvq1 : CfD wr1 (Dm wr1 none) (.agg #[.slice Aq' rr.1.length cq']) rr.1 := hvq.keep (fun b hb => ⟨⟨by have := hb.2; omega, by simp⟩, F1.block b hb.2 (by simp)⟩)
                          have con2 := rrename_any z Y _ _ wr1 (hz2.fr Fk1) (hyk.fr Fk1) hYb.out (by omega) (by omega)
                          rw [← HRR.out] at con2
                          have R161 := b161.cell
                          have l161 := blk_lt b161
                          have R21 := b21.cell
                          have l21 := blk_lt b21
                          clear hvq Fq F1 R16 l16k hz1 hz2 hyk con1 b16k
                          go_upto_region 21 with (go_at_call 55; refine con2.mono ?_; rintro e ws ⟨vs, rfl, hvs, Fs⟩; obtain ⟨As', cs', rfl⟩ := hvs.shape)
                          generalize hW : ws.alloc _ = wt
                          have F2 : Fr none ws wt := hW ▸ (Fr.refl none ws).alloc _
                          have b23 : CB wt ws.heap.size (.slice As' rr.1.length cs') := by rw [← hW]; exact blk_new _ _
                          clear hW
                          have hzs := Fs.size
                          have hz2' := F2.size
                          have F1t := Fs.pure F2
                          have hvq2 := hvq1.fr F1t
                          have hvs2 : CfD wt (Dm wt none) (.agg #[.slice As' rr.1.length cs']) rr.1 := hvs.keep (fun b hb => ⟨⟨by have := hb.2; omega, by simp⟩, F2.block b hb.2 (by simp)⟩)
                          have b212 := b21.fr F1t (by simp)
                          have R212 := b212.cell
                          have R23 := b23.cell
                          have l212 := blk_lt b212
                          have l23 := blk_lt b23
                          have hss := (sameC_iff rr.1 rr.1).2 rfl
                          have cs := rsameC_any rr.1 rr.1 _ _ wt hvq2 hvs2 hrl3 hrl3
                          rw [hss] at cs
                          have Fkt := Fk.pure (Fk1.pure F1t)
                          clear hss hvs hvq1 Fs F2 F1t Fk1 R161 l161 R21 l21 con2 b161 b21 hvq2 hvs2 b212 b23
                          go_wp2_with (go_at_call 43; refine cs.mono ?_; rintro e wu ⟨rfl, Fu⟩)
                          go_roundw
                          case rel => exact ⟨k + 1, by omega, by go_num, Fkt.pure Fu⟩
                          case measure => simp [intOf]; omega
                        · obtain rfl : k = 3 := by omega
                          have Fcj := Fcn.pure Fk
                          have Sj := Snn.fr Fk
                          go_wp2_with fail
                          go_roundw
                          case rel => exact ⟨j + 1, by omega, by go_num, Fcj, Sj⟩
                          case measure => simp [intOf]; omega
              · obtain rfl : j = 3 := by omega
                have F0z : Fr none w wz := F0c.own F (by simp; omega)
                have hcz := hcc.fr F
                have b14z := b14c.fr F (by simp; omega)
                have R14 := b14z.cell
                have l14 := blk_lt b14z
                have Tz := hT.fr F0z
                have htl : (textC L).length ≤ 25000 := by
                  unfold textC
                  rw [if_pos (validC_ok hL10 HOK.out)]
                  exact textL_len hL10 HOK.out
                obtain ⟨G, hG⟩ : ∃ G, G = bs (textC L) := ⟨_, rfl⟩
                have hGz : G.size ≤ 25000 := by rw [hG, bs_size]; exact htl
                have con0 := rctext_any L _ _ hcz.none hcz.big (by omega) Tz
                rw [← hG] at con0
                clear hG htl hpc hcc hoc F hcz b14z b8c
                go_wp2_with fail
                refine con0.mono ?_
                rintro e w20 ⟨rfl, F20⟩
                have S20 := S.fr F20
                have F020 := F0z.pure F20
                clear con0 S F20 F0z Tz R14 l14
                go_wp2_with fail
                refine (spoilt06_any G g _ (by omega) S20).mono ?_
                rintro e w21 ⟨G1, rfl, hG1, S21, F21⟩
                go_wp2_with fail
                refine (spoilt06_any G g _ (by omega) S21).mono ?_
                rintro e w22 ⟨G2, rfl, hG2, S22, F22⟩
                go_wp2_with fail
                refine (spoilt06_any G2 g _ (by omega) S22).mono ?_
                rintro e w23 ⟨G3, rfl, hG3, S23, F23⟩
                have F023 : Fr none w w23 := F020.own ((F21.same F22).same F23) (by simp; omega)
                clear S20 S21 S22 S23 F21 F22 F23 F020
                go_upto_region 27 with (fail)
                generalize hW : w23.alloc _ = w24
                have F24 : Fr none w23 w24 := hW ▸ (Fr.refl none w23).alloc _
                have bb : w24.heap[w23.heap.size]? = some (.cells #[.string G, .string G1, .string G3, .string text] 9) := by rw [← hW]; exact blk_new _ _
                clear hW
                have hBB : ∀ k, k < 4 → ∃ Z : ByteArray, w24.cell? ⟨w23.heap.size, k, none⟩ = some (.string Z) ∧ Z.size ≤ 30000 := fun k hk => by
                  rcases (show k = 0 ∨ k = 1 ∨ k = 2 ∨ k = 3 by omega) with rfl | rfl | rfl | rfl
                  · exact ⟨_, blk_cell bb 0, by omega⟩
                  · exact ⟨_, blk_cell bb 1, by omega⟩
                  · exact ⟨_, blk_cell bb 2, by omega⟩
                  · exact ⟨_, blk_cell bb 3, by omega⟩
                have HBB := Lib.hid hBB
                have lbb := blk_lt bb
                have F024 := F023.pure F24
                clear hBB bb F24
                go_loopw [174] (fun s174 wr => ∃ k : Nat, k ≤ 4 ∧ s174 = .int .i64 (k : Int) ∧ Fr none w24 wr) (fun s174 _ => 4 - (intOf s174).toNat)
                case atStart => exact ⟨0, by omega, rfl, Fr.refl _ _⟩
                case round =>
                  obtain ⟨k, hk, rfl, Fk⟩ := hrel
                  obtain ⟨wk, hwk⟩ : ∃ wk : World, wk = wr := ⟨_, rfl⟩
                  subst hwk
                  have F0k := F024.pure Fk
                  by_cases hlt4 : k < 4
                  · obtain ⟨Z, hz1, hz2⟩ := HBB.out k hlt4
                    have hz1 := Fk.keep hz1 (by simp)
                    obtain ⟨rr, hrr⟩ : ∃ rr, rr = parseC Z.data.toList := ⟨_, rfl⟩
                    have hzl : Z.data.toList.length ≤ 30000 := by rw [← size_list]; exact hz2
                    have con1 := cparse_any Z.data.toList Z (bs_self Z) wk (by omega) (hM.fr F0k)
                    have hrl3 : rr.1.length ≤ 1000 := by rw [hrr]; have := parseC_len Z.data.toList; omega
                    rw [← hrr] at con1
                    have HRR := Lib.hid hrr
                    clear hrr
                    go_upto_region 30 with (go_at_call 11; refine con1.mono ?_; rintro e wq ⟨vq, rfl, hvq, Fq⟩; obtain ⟨Aq', cq', rfl⟩ := hvq.shape)
                    generalize hW : wq.alloc _ = wr1
                    have F1 : Fr none wq wr1 := hW ▸ (Fr.refl none wq).alloc _
                    have b21 : CB wr1 wq.heap.size (.slice Aq' rr.1.length cq') := by rw [← hW]; exact blk_new _ _
                    clear hW
                    have hzq := Fq.size
                    have hz1' := F1.size
                    have hvq1 : CfD wr1 (Dm wr1 none) (.agg #[.slice Aq' rr.1.length cq']) rr.1 := hvq.keep (fun b hb => ⟨⟨by have := hb.2; omega, by simp⟩, F1.block b hb.2 (by simp)⟩)
                    have con2 := rcparse_any Z.data.toList Z (bs_self Z) wr1 (by omega)
                    rw [← HRR.out] at con2
                    have R21 := b21.cell
                    have l21 := blk_lt b21
                    have Fk1 := Fq.pure F1
                    clear hvq Fq F1 hz1 con1
                    go_upto_region 31 with (go_at_call 57; refine con2.mono ?_; rintro e ws ⟨vs, rfl, hvs, Fs⟩; obtain ⟨As', cs', rfl⟩ := hvs.shape)
                    generalize hW : ws.alloc _ = wt
                    have F2 : Fr none ws wt := hW ▸ (Fr.refl none ws).alloc _
                    have b23 : CB wt ws.heap.size (.slice As' rr.1.length cs') := by rw [← hW]; exact blk_new _ _
                    clear hW
                    have hzs := Fs.size
                    have hz2' := F2.size
                    have F1t := Fs.pure F2
                    have hvq2 := hvq1.fr F1t
                    have hvs2 : CfD wt (Dm wt none) (.agg #[.slice As' rr.1.length cs']) rr.1 := hvs.keep (fun b hb => ⟨⟨by have := hb.2; omega, by simp⟩, F2.block b hb.2 (by simp)⟩)
                    have b212 := b21.fr F1t (by simp)
                    have R212 := b212.cell
                    have R23 := b23.cell
                    have l212 := blk_lt b212
                    have l23 := blk_lt b23
                    have hss := (sameC_iff rr.1 rr.1).2 rfl
                    have cs := rsameC_any rr.1 rr.1 _ _ wt hvq2 hvs2 hrl3 hrl3
                    rw [hss] at cs
                    have Fkt := Fk.pure (Fk1.pure F1t)
                    clear hss hvs hvq1 Fs F2 F1t Fk1 R21 l21 con2 b21 hvq2 hvs2 b212 b23
                    go_wp2_with (go_at_call 43; refine cs.mono ?_; rintro e wu ⟨rfl, Fu⟩)
                    go_roundw
                    case rel => exact ⟨k + 1, by omega, by go_num, Fkt.pure Fu⟩
                    case measure => simp [intOf]; omega
                  · obtain rfl : k = 4 := by omega
                    go_wp2_with fail
                    refine (awake6_any _ (hT.fr F0k) (hM.fr F0k)).mono ?_
                    rintro e wf ⟨rfl, FF⟩
                    go_wp2_with fail
                    go_ret
                    exact ⟨rfl, (F0k).pure FF⟩
end Go.Proofs.YtoblhcieidljjaaGreatDoor

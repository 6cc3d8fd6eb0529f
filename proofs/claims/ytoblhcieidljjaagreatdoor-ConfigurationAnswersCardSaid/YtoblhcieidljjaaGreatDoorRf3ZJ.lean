/- Walks: the reference's reader of layer 3: rest. -/
import Derived.Test.YtoblhcieidljjaaGreatDoorProg
import Derived.Test.YtoblhcieidljjaaGreatDoorRf3RJ
set_option linter.unusedSimpArgs false
set_option linter.unusedVariables false
namespace Go.Proofs.YtoblhcieidljjaaGreatDoor
open Go.RowKit

theorem tok_signs {P : ByteArray} (h : P = ⟨#[111, 102]⟩ ∨ P = ⟨#[40]⟩ ∨ P = ⟨#[41]⟩ ∨ P = ⟨#[44]⟩) (u : List UInt8) : (tok u = P.data.toList ↔ u.take P.size = P.data.toList) ∧ (tok u = P.data.toList → tokN u = P.size) ∧ P.size ≤ 6000 := by
  have hs : tok u = P.data.toList → tokN u = P.size := fun e => by rw [← tok_len, e, size_list]
  rcases h with rfl | rfl | rfl | rfl
  · exact ⟨tok_isof u, hs, by decide⟩
  · exact ⟨tok_isc (.inl rfl) u, hs, by decide⟩
  · exact ⟨tok_isc (.inr (.inl rfl)) u, hs, by decide⟩
  · exact ⟨tok_isc (.inr (.inr rfl)) u, hs, by decide⟩
theorem rtake_yes (g : Nat) (S P : ByteArray) (u : List UInt8) (w : World) (h : RfK w g S u) (hS : S.size ≤ 6001) (hp : tok u = P.data.toList) (hP : P = ⟨#[111, 102]⟩ ∨ P = ⟨#[40]⟩ ∨ P = ⟨#[41]⟩ ∨ P = ⟨#[44]⟩) :
    Calls Tryz.prog 180 #[.pointer (some ⟨g, 0, none⟩), .string P] w fun e w' => e = .returned (.bool true) ∧ RfK w' g S (nxt u) ∧ Fr (some g) w w' := by
  obtain ⟨h1, h2, h3⟩ := tok_signs hP u
  have := rsign_yes g S P u w h hS (h1.1 hp) h3
  rw [← h2 hp] at this
  exact this
theorem rtake_no (g : Nat) (S P : ByteArray) (u : List UInt8) (w : World) (h : RfK w g S u) (hS : S.size ≤ 6001) (hp : tok u ≠ P.data.toList) (hP : P = ⟨#[111, 102]⟩ ∨ P = ⟨#[40]⟩ ∨ P = ⟨#[41]⟩ ∨ P = ⟨#[44]⟩) :
    Calls Tryz.prog 180 #[.pointer (some ⟨g, 0, none⟩), .string P] w fun e w' => e = .returned (.bool false) ∧ RfK w' g S u ∧ Fr (some g) w w' := by
  obtain ⟨h1, h2, h3⟩ := tok_signs hP u
  exact rsign_no g S P u w h hS (fun e => hp (h1.2 e)) h3
theorem rnumber_no (g : Nat) (S : ByteArray) (u : List UInt8) (w : World) (h : RfK w g S u) (hS : S.size ≤ 6001) (hn : numP u = none) :
    Calls Tryz.prog 139 #[.pointer (some ⟨g, 0, none⟩)] w fun e w' => e = .returned (.tuple #[.int .i64 0, .bool false]) ∧ RfK w' g S u ∧ Fr (some g) w w' := by
  refine rnum_no g S u w h hS ?_
  have := (numP_dgs u).1
  rw [hn] at this
  cases hc : okD (dgs u)
  · rfl
  · rw [hc] at this; cases this
theorem rnumber_yes (g : Nat) (S : ByteArray) (u : List UInt8) (n : Nat) (w : World) (h : RfK w g S u) (hS : S.size ≤ 6001) (hn : numP u = some n) :
    Calls Tryz.prog 139 #[.pointer (some ⟨g, 0, none⟩)] w fun e w' => e = .returned (.tuple #[.int .i64 (n : Int), .bool true]) ∧ RfK w' g S (nxt u) ∧ Fr (some g) w w' := by
  obtain ⟨h1, h2⟩ := numP_dgs u
  rw [hn] at h1
  cases hc : okD (dgs u)
  · rw [hc] at h1; cases h1
  · rw [hc] at h1
    injection h1 with h1
    rw [h2 hc, h1]
    exact rnum_yes g S u w h hS hc
theorem head_take {u : List UInt8} {c : UInt8} : u.take 1 = [c] ↔ u.head? = some c := by cases u <;> simp
theorem loop_o {f : Nat} {n : Int} {nodes : List Int} {inner : List Tr} {u : List UInt8} {k : Nat} (h : numP u = some k) (hc : (nxt u).head? = some 111) :
    loopP (f + 1) n nodes inner u = match restP f k (nxt u) with
      | (none, v) => (none, v)
      | (some x, v) => tailP f n nodes (inner ++ [x]) v := by
  by_cases ho : tok (nxt u) = [111, 102]
  · cases hr : restP f k (nxt u) with
    | mk o v =>
      cases o with
      | none => exact loop_bad h ho hr
      | some x => exact loop_inner h ho hr
  · have hr : restP f k (nxt u) = (none, nxt u) := by
      cases f with
      | zero => rfl
      | succ f => simp only [restP, if_neg ho]
    rw [hr, loop_node h ho]
    refine tail_no (fun e => ?_) (fun e => ?_)
    · have := head_take.1 ((tok_isc (.inr (.inl rfl)) _).1 e)
      rw [hc] at this; cases this
    · have := head_take.1 ((tok_isc (.inr (.inr rfl)) _).1 e)
      rw [hc] at this; cases this
theorem not_o {u : List UInt8} (hc : u.head? ≠ some 111) : tok u ≠ [111, 102] := fun e => by
  have := (tok_isof u).1 e
  cases u with
  | nil => simp at this
  | cons a r => simp at this; exact hc (by simp [this.1])

set_option maxRecDepth 100000 in
set_option maxHeartbeats 8000000 in
theorem rrest_any (f : Nat) : ∀ (n g : Nat) (S : ByteArray) (u : List UInt8) (w : World), u.length < f → n ≤ 9999 → RfK w g S u → S.size ≤ 6001 →
    Calls Tryz.prog 140 #[.pointer (some ⟨g, 0, none⟩), .int .i64 (n : Int)] w (RestF (restP f n u) w g S) := by
  induction f using Nat.strongRecOn with
  | _ f ih =>
  intro n g S u w hf hn h hS
  obtain ⟨f, rfl⟩ : ∃ f', f = f' + 1 := ⟨f - 1, by omega⟩
  have hg := h.lt
  have hu := h.le
  have IH := Lib.hid ih
  clear ih
  go_enter Tryz.func140, Tryz.ntmps140
  go_wp2_with fail
  generalize hW : (w.alloc _).alloc _ = w1
  have hz : w1.heap.size = w.heap.size + 2 := by rw [← hW]; simp
  have F1 : Fr none w w1 := hW ▸ ((Fr.refl _ w).alloc _).alloc _
  have b6 : TB w1 w.heap.size (.int .i64 0) (.slice none 0 0) (.slice none 0 0) := by
    rw [← hW]; exact (Below.heap_alloc _ _ _ (by simp)).trans (blk_new _ _)
  have b7 : TB w1 (w.heap.size + 1) (.int .i64 (n : Int)) (.slice none 0 0) (.slice none 0 0) := by
    rw [← hW]; exact blk_new_at (by simp) _
  have S1 := h.fr F1 (by simp)
  have L1 : LoopF w g S n [] [] u none 0 none 0 [] w1 := ⟨F1.mono, by omega, S1, b6, b7, World.ownsRow_nil _ _ _ _, World.ownsRow_nil _ _ _ _, by simp [TrsD], fun b hb => by simp [Value.ownBlock] at hb, by simp, by simp; omega⟩
  clear hW h b6 b7 F1 hz
  by_cases hof : tok u = [111, 102]
  · have hl1 : (nxt u).length < u.length := nxt_lt (by rw [hof]; simp)
    have HOF := Lib.hid hof
    refine (rtake_yes g S ⟨#[111, 102]⟩ u _ S1 hS HOF.out (.inl rfl)).mono ?_
    rintro e w2 ⟨rfl, S2, F2⟩
    have L2 := L1.move hg S2 F2 (nxt_le _)
    clear L1 S1 F2
    by_cases hpar : tok (nxt u) = [40]
    · have hE : restP (f + 1) n u = loopP f n [] [] (nxt (nxt u)) := by simp only [restP, if_pos hof, if_pos hpar]
      have HE := Lib.hid hE
      have HPAR := Lib.hid hpar
      have hl2 : (nxt (nxt u)).length < (nxt u).length := nxt_lt (by rw [hpar]; simp)
      clear hE hof hpar
      go_wp2_with fail
      refine (rtake_yes g S ⟨#[40]⟩ (nxt u) _ S2 hS HPAR.out (.inr (.inl rfl))).mono ?_
      rintro e w3 ⟨rfl, S3, F3⟩
      have L0 := L2.move hg S3 F3 (nxt_le _)
      clear L2 S2 S3 F3
      go_wp2_with fail
      go_loopw [7, 8, 9, 10] (fun s7 s8 s9 s10 wr => ∃ (nodes : List Int) (inner : List Tr) (v : List UInt8) (A1 : Option Addr) (c1 : Nat) (A2 : Option Addr) (c2 : Nat) (cells : List Value) (f' : Nat), LoopF w g S n nodes inner v A1 c1 A2 c2 cells wr ∧ Hid (restP (f + 1) n u = loopP f' n nodes inner v) ∧ v.length < f' ∧ f' ≤ f) (fun _ _ _ _ wr => (skp (S.data.toList.drop (atRf wr g))).length)
      case atStart => exact ⟨[], [], _, _, _, _, _, _, f, L0, HE, by omega, by omega⟩
      case round =>
        clear L0 HE
        obtain ⟨nodes, inner, v, A1, c1, A2, c2, cells, f', L, HE, hvf, hff⟩ := hrel
        obtain ⟨f', rfl⟩ : ∃ k, f' = k + 1 := ⟨f' - 1, by omega⟩
        have S4 := L.2.2.1
        have HSL := Lib.hid S4.left
        have hlen := L.2.2.2.2.2.2.2.2.2.2
        cases hnum : numP v with
        | none =>
          have hE := HE.out
          rw [loop_none hnum] at hE
          have HE2 := Lib.hid hE
          have HN := Lib.hid hnum
          clear hE hnum
          go_wp2_with fail
          refine (rnumber_no g S v _ S4 hS HN.out).mono ?_
          rintro e w4 ⟨rfl, S5, F5⟩
          have L5 := L.move hg S5 F5 (Nat.le_refl _)
          clear L S4 F5
          have R8 := L5.2.2.2.1.cell
          have Z8 := L5.2.2.2.1.free
          have R9 := L5.2.2.2.2.1.cell
          have hsp8 : w.heap.size + 1 < w4.heap.size := blk_lt L5.2.2.2.2.1
          go_wp2_with fail
          refine bodyPost_ret (v := .tuple #[.agg #[.int .i64 (n : Int), .slice A1 nodes.length c1, .slice A2 inner.length c2], .bool false]) (by simp [results, Tryz.results140, go_sem, R8]) rfl ?_
          rw [HE2.out]
          exact L5.no hg
        | some k =>
          obtain ⟨hv1, hk⟩ := num_lt hnum
          have HN := Lib.hid hnum
          obtain ⟨X, hX⟩ : ∃ X : Bool, X = decide ((nxt v).head? = some 111) := ⟨_, rfl⟩
          have HX := Lib.hid hX
          clear hX hnum
          go_wp2_with fail
          refine (rnumber_yes g S v k _ S4 hS HN.out).mono ?_
          rintro e w4 ⟨rfl, S4', F4⟩
          have L4 := L.move hg S4' F4 (by omega)
          clear L S4 F4
          go_wp2_with fail
          refine (rskip_any g S (nxt v) _ S4' hS).mono ?_
          rintro e w5 ⟨rfl, ⟨q, B5, q1, q2⟩, F5⟩
          have S5 : RfK w5 g S (nxt v) := ⟨q, B5, by omega, by rw [q2]; exact S4'.skp_eq⟩
          have L5 := L4.move hg S5 F5 (Nat.le_refl _)
          have RB := B5.cell
          have HQ2 := Lib.hid q2
          clear L4 F5 S4' S5 q2
          go_upto_region 8 with (fail)
          go_cut [53] (fun s53 wq => s53 = .bool X ∧ Fr none w5 wq)
          case first =>
            have hcs : (q = S.size ∧ X = false) ∨ (∃ h : q < S.size, ((S[q].toNat : Int) == 111) = X) := by
              rw [HX.out, ← HQ2.out]
              rcases Nat.lt_or_ge q S.size with hh | hh
              · right
                refine ⟨hh, ?_⟩
                rw [List.drop_eq_getElem_cons (i := q) (by simpa using hh)]
                have e1 : S.data.toList[q] = S[q] := rfl
                rw [e1, List.head?_cons]
                by_cases h111 : S[q] = 111
                · rw [h111]; rfl
                · have e2 : ¬ ((S[q].toNat : Int) = 111) := fun e => h111 (by
                    apply UInt8.toNat_inj.1
                    have : S[q].toNat = 111 := by omega
                    exact this)
                  rw [beq_eq_false_iff_ne.2 e2, decide_eq_false (fun e => h111 (by injection e))]
              · left
                refine ⟨by omega, ?_⟩
                rw [List.drop_eq_nil_of_le (by simpa using hh)]
                rfl
            rcases hcs with ⟨hq, rfl⟩ | ⟨hlt, hb⟩
            · have hge : S.size ≤ q := by omega
              have hd : decide (q < S.size) = false := by simp; omega
              clear hq
              go_quiet (fail)
              go_wp2_with fail
              go_meet
              exact ⟨rfl, (Fr.refl _ _).drewN _⟩
            · have hd : decide ((q : Int) < S.size) = true := by simpa using hlt
              go_quiet (fail)
              go_wp2_with fail
              go_meet
              exact ⟨rfl, (Fr.refl _ _).drewN _⟩
          case rest =>
            obtain ⟨rfl, F6⟩ := hcut
            obtain ⟨wq, hwq⟩ : ∃ wq : World, wq = wc := ⟨_, rfl⟩
            subst hwq
            have L6 := L5.move hg (L5.2.2.1.fr F6 (by simp)) F6.mono (Nat.le_refl _)
            have S6 := L6.2.2.1
            clear L5 F6 RB B5 HQ2
            cases X with
            | true =>
              have hc111 : (nxt v).head? = some 111 := by simpa using HX.out
              obtain ⟨p, hp⟩ : ∃ p, p = restP f' k (nxt v) := ⟨_, rfl⟩
              have hE := HE.out
              rw [loop_o HN.out hc111, ← hp] at hE
              obtain ⟨o, v5⟩ := p
              have hv5 : v5.length ≤ (nxt v).length := by
                have := restP_len f' k (nxt v)
                rw [← hp] at this
                exact this
              have HP := Lib.hid hp.symm
              have HEE := Lib.hid hE
              clear hp hE hc111 HE
              go_wp2_with fail
              refine (IH.out f' (by omega) k g S (nxt v) _ (by omega) hk S6 hS).mono ?_
              rintro e w7 ⟨th, a1, n1, e1, a2, n2, e2, b, rfl, hb, S7, F7, hT⟩
              rw [HP.out] at hb S7 hT
              simp only at hb S7 hT
              have L5 := L6.move hg S7 F7 hv5
              cases o with
              | none =>
                obtain rfl : b = false := hb
                have HE2 : Hid (restP (f + 1) n u = (none, v5)) := HEE
                have F8 := (Fr.refl none w7).alloc (.cells #[.int .i64 th, .slice a1 n1 e1, .slice a2 n2 e2] 31)
                have L8 := L5.move hg (S7.fr F8 (by simp)) F8.mono (Nat.le_refl _)
                have R6 := L8.2.2.2.1.cell
                have Z6 := L8.2.2.2.1.free
                have R7 := L8.2.2.2.2.1.cell
                have hsp := blk_lt L5.2.2.2.2.1
                clear hT HEE L6 L5
                go_wp2_with fail
                refine bodyPost_ret (v := .tuple #[.agg #[.int .i64 (n : Int), .slice A1 nodes.length c1, .slice A2 inner.length c2], .bool false]) (by simp [results, Tryz.results140, go_sem, R6]) rfl ?_
                rw [HE2.out]
                exact L8.no hg
              | some t =>
                obtain rfl : b = true := hb
                have HE : Hid (restP (f + 1) n u = tailP f' n nodes (inner ++ [t]) v5) := HEE
                have hT5 := hT t rfl
                have F8 := (Fr.refl none w7).alloc (.cells #[.int .i64 th, .slice a1 n1 e1, .slice a2 n2 e2] 31)
                have L8 := L5.move hg (S7.fr F8 (by simp)) F8.mono (Nat.le_refl _)
                have hT6 := TrD.keep (dn_fr F8 (by simp)) _ _ hT5
                have R6 := L8.2.2.2.1.cell
                have R7 := L8.2.2.2.2.1.cell
                have Z7 := L8.2.2.2.2.1.free
                have hsp := blk_lt L5.2.2.2.2.1
                have own6 := L8.2.2.2.2.2.2.1
                have ow1 := L6.2.2.2.2.2.1
                have ow2 := L6.2.2.2.2.2.2.1
                have hB4 := L6.2.1
                have h61 := L8.2.1
                simp only [World.size_alloc] at h61
                clear hT hT5 HEE
                go_wp2_with (at_builtin; refine app_lit eiTrust rfl _ _ rfl (w.heap.size + 2) A2 inner.length c2 _ rfl own6 1 [.int .i64 th, .slice a1 n1 e1, .slice a2 n2 e2] 31 _ rfl (by simp) rfl (by simp [Value.oneCell']) (by omega) (by unfold maxLen; omega) (by simp; omega) ?_; intro A5 c5 w8 own7 F9 bl7; have K7 := L8.2.2.2.2.1.fr F9 (own_ne own6 (by omega)); have R8 := K7.cell; have Z8 := K7.free; have hsp6 := blk_lt K7; clear R6 R7 Z7)
                have L7 := L8.inner_ hg hB4 hT6 (fun b hb => (ow1.lt b hb).2) (fun b hb => (ow2.lt b hb).2) own7 F9 bl7 (by omega)
                go_upto_region 14 with (fail)
                generalize hW : World.setCell w8 _ _ = w7 at L7 ⊢
                obtain ⟨inner2, hin⟩ : ∃ l, l = inner ++ [t] := ⟨_, rfl⟩
                rw [← hin] at L7 HE
                have hvf5 : v5.length < f' := by omega
                clear hW hin L8 L6 L5 own6 own7 ow1 ow2 F9 bl7 R8 Z8 K7 hT6
                have S6 := L7.2.2.1
                have K6 := L7.2.2.2.1
                have K7 := L7.2.2.2.2.1
                have R6 := K6.cell
                have Z6 := K6.free
                have R7 := K7.cell
                have Z7 := K7.free
                have hsp : w.heap.size + 1 < w7.heap.size := blk_lt K7
                clear K6 K7
                by_cases h41 : tok v5 = [41]
                · have hE := HE.out
                  rw [tail_yes h41] at hE
                  have HE2 := Lib.hid hE
                  have H41 := Lib.hid h41
                  clear hE h41 HE
                  go_wp2_with fail
                  refine (rtake_yes g S ⟨#[41]⟩ v5 _ S6 hS H41.out (.inr (.inr (.inl rfl)))).mono ?_
                  rintro e w8 ⟨rfl, S8, F8⟩
                  have L8 := L7.move hg S8 F8 (nxt_le _)
                  have R8 := L8.2.2.2.1.cell
                  have Z8 := L8.2.2.2.1.free
                  have R9 := L8.2.2.2.2.1.cell
                  have hsp8 : w.heap.size + 1 < w8.heap.size := blk_lt L8.2.2.2.2.1
                  clear R6 Z6 R7 Z7
                  go_wp2_with fail
                  refine bodyPost_ret (v := .tuple #[.agg #[.int .i64 (n : Int), .slice A1 nodes.length c1, .slice A5 inner2.length c5], .bool true]) (by simp [results, Tryz.results140, go_sem, R8]) rfl ?_
                  rw [HE2.out]
                  exact L8.yes hg hn
                · have H41 := Lib.hid h41
                  go_wp2_with fail
                  refine (rtake_no g S ⟨#[41]⟩ v5 _ S6 hS H41.out (.inr (.inr (.inl rfl)))).mono ?_
                  rintro e w8 ⟨rfl, S8, F8⟩
                  have L8 := L7.move hg S8 F8 (Nat.le_refl _)
                  clear R6 Z6 R7 Z7 hsp S6 L7 F8
                  by_cases h44 : tok v5 = [44]
                  · have hE := HE.out
                    rw [tail_more h41 h44] at hE
                    have HE2 := Lib.hid hE
                    have H44 := Lib.hid h44
                    have hvl2 : (nxt v5).length < v5.length := nxt_lt (by rw [h44]; simp)
                    clear hE h41 h44 HE
                    go_wp2_with fail
                    refine (rtake_yes g S ⟨#[44]⟩ v5 _ S8 hS H44.out (.inr (.inr (.inr rfl)))).mono ?_
                    rintro e w9 ⟨rfl, S9, F9⟩
                    have L9 := L8.move hg S9 F9 (nxt_le _)
                    clear L8 F9
                    go_wp2_with fail
                    go_roundw
                    case rel => exact ⟨nodes, inner2, _, _, _, _, _, _, _, L9, HE2, by omega⟩
                    case measure => rw [S9.left, HSL.out]; omega
                  · have hE := HE.out
                    rw [tail_no h41 h44] at hE
                    have HE2 := Lib.hid hE
                    have H44 := Lib.hid h44
                    clear hE h41 h44 HE
                    go_wp2_with fail
                    refine (rtake_no g S ⟨#[44]⟩ v5 _ S8 hS H44.out (.inr (.inr (.inr rfl)))).mono ?_
                    rintro e w9 ⟨rfl, S9, F9⟩
                    have L9 := L8.move hg S9 F9 (Nat.le_refl _)
                    have R8 := L9.2.2.2.1.cell
                    have Z8 := L9.2.2.2.1.free
                    have R9 := L9.2.2.2.2.1.cell
                    have hsp8 : w.heap.size + 1 < w9.heap.size := blk_lt L9.2.2.2.2.1
                    clear L8 F9
                    go_wp2_with fail
                    refine bodyPost_ret (v := .tuple #[.agg #[.int .i64 (n : Int), .slice A1 nodes.length c1, .slice A5 inner2.length c5], .bool false]) (by simp [results, Tryz.results140, go_sem, R8]) rfl ?_
                    rw [HE2.out]
                    exact L9.no hg
            | false =>
              have hc111 : (nxt v).head? ≠ some 111 := by simpa using HX.out
              have hE := HE.out
              rw [loop_node HN.out (not_o hc111)] at hE
              have HE := Lib.hid hE
              have R7 := L6.2.2.2.2.1.cell
              have Z7 := L6.2.2.2.2.1.free
              have hsp := blk_lt L6.2.2.2.2.1
              have own4 := L6.2.2.2.2.2.1
              have h41 := L6.2.1
              clear hE hc111
              go_wp2_with (at_builtin; refine app_lit eiInt rfl _ _ rfl (w.heap.size + 2) A1 nodes.length c1 _ rfl own4 1 [.int .i64 (k : Int)] 3 _ rfl (by simp) rfl (by simp [Value.oneCell']) (by omega) (by unfold maxLen; omega) (by omega) ?_; intro A5 c5 w6 own7 F7 bl7; have K7 := L6.2.2.2.2.1.fr F7 (own_ne own4 (by omega)); have R8 := K7.cell; have Z8 := K7.free; have hsp6 := blk_lt K7; clear R7 Z7)
              have L7 := L6.node hg hk own7 F7 bl7 (by omega)
              go_upto_region 14 with (fail)
              generalize hW : World.setCell w6 _ _ = w7 at L7 ⊢
              obtain ⟨nodes2, hin⟩ : ∃ l, l = nodes ++ [(k : Int)] := ⟨_, rfl⟩
              rw [← hin] at L7 HE
              obtain ⟨v5, hv5⟩ : ∃ l, l = nxt v := ⟨_, rfl⟩
              rw [← hv5] at L7 HE hv1
              have hvf5 : v5.length < f' := by omega
              clear hW hin L6 own4 own7 F7 bl7 R8 Z8 K7 hv5 S6 HX
              have S6 := L7.2.2.1
              have K6 := L7.2.2.2.1
              have K7 := L7.2.2.2.2.1
              have R6 := K6.cell
              have Z6 := K6.free
              have R7 := K7.cell
              have Z7 := K7.free
              have hsp : w.heap.size + 1 < w7.heap.size := blk_lt K7
              clear K6 K7
              by_cases h41 : tok v5 = [41]
              · have hE := HE.out
                rw [tail_yes h41] at hE
                have HE2 := Lib.hid hE
                have H41 := Lib.hid h41
                clear hE h41 HE
                go_wp2_with fail
                refine (rtake_yes g S ⟨#[41]⟩ v5 _ S6 hS H41.out (.inr (.inr (.inl rfl)))).mono ?_
                rintro e w8 ⟨rfl, S8, F8⟩
                have L8 := L7.move hg S8 F8 (nxt_le _)
                have R8 := L8.2.2.2.1.cell
                have Z8 := L8.2.2.2.1.free
                have R9 := L8.2.2.2.2.1.cell
                have hsp8 : w.heap.size + 1 < w8.heap.size := blk_lt L8.2.2.2.2.1
                clear R6 Z6 R7 Z7
                go_wp2_with fail
                refine bodyPost_ret (v := .tuple #[.agg #[.int .i64 (n : Int), .slice A5 nodes2.length c5, .slice A2 inner.length c2], .bool true]) (by simp [results, Tryz.results140, go_sem, R8]) rfl ?_
                rw [HE2.out]
                exact L8.yes hg hn
              · have H41 := Lib.hid h41
                go_wp2_with fail
                refine (rtake_no g S ⟨#[41]⟩ v5 _ S6 hS H41.out (.inr (.inr (.inl rfl)))).mono ?_
                rintro e w8 ⟨rfl, S8, F8⟩
                have L8 := L7.move hg S8 F8 (Nat.le_refl _)
                clear R6 Z6 R7 Z7 hsp S6 L7 F8
                by_cases h44 : tok v5 = [44]
                · have hE := HE.out
                  rw [tail_more h41 h44] at hE
                  have HE2 := Lib.hid hE
                  have H44 := Lib.hid h44
                  have hvl2 : (nxt v5).length < v5.length := nxt_lt (by rw [h44]; simp)
                  clear hE h41 h44 HE
                  go_wp2_with fail
                  refine (rtake_yes g S ⟨#[44]⟩ v5 _ S8 hS H44.out (.inr (.inr (.inr rfl)))).mono ?_
                  rintro e w9 ⟨rfl, S9, F9⟩
                  have L9 := L8.move hg S9 F9 (nxt_le _)
                  clear L8 F9
                  go_wp2_with fail
                  go_roundw
                  case rel => exact ⟨nodes2, inner, _, _, _, _, _, _, _, L9, HE2, by omega⟩
                  case measure => rw [S9.left, HSL.out]; omega
                · have hE := HE.out
                  rw [tail_no h41 h44] at hE
                  have HE2 := Lib.hid hE
                  have H44 := Lib.hid h44
                  clear hE h41 h44 HE
                  go_wp2_with fail
                  refine (rtake_no g S ⟨#[44]⟩ v5 _ S8 hS H44.out (.inr (.inr (.inr rfl)))).mono ?_
                  rintro e w9 ⟨rfl, S9, F9⟩
                  have L9 := L8.move hg S9 F9 (Nat.le_refl _)
                  have R8 := L9.2.2.2.1.cell
                  have Z8 := L9.2.2.2.1.free
                  have R9 := L9.2.2.2.2.1.cell
                  have hsp8 : w.heap.size + 1 < w9.heap.size := blk_lt L9.2.2.2.2.1
                  clear L8 F9
                  go_wp2_with fail
                  refine bodyPost_ret (v := .tuple #[.agg #[.int .i64 (n : Int), .slice A5 nodes2.length c5, .slice A2 inner.length c2], .bool false]) (by simp [results, Tryz.results140, go_sem, R8]) rfl ?_
                  rw [HE2.out]
                  exact L9.no hg
    · have hE : restP (f + 1) n u = (none, nxt u) := by simp only [restP, if_pos hof, if_neg hpar]
      have HE := Lib.hid hE
      have HPAR := Lib.hid hpar
      clear hE hof hpar
      go_wp2_with fail
      refine (rtake_no g S ⟨#[40]⟩ (nxt u) _ S2 hS HPAR.out (.inr (.inl rfl))).mono ?_
      rintro e w3 ⟨rfl, S3, F3⟩
      have L3 := L2.move hg S3 F3 (Nat.le_refl _)
      clear L2 S2 F3
      have R8 := L3.2.2.2.1.cell
      have Z8 := L3.2.2.2.1.free
      have R9 := L3.2.2.2.2.1.cell
      have hsp8 : w.heap.size + 1 < w3.heap.size := blk_lt L3.2.2.2.2.1
      go_wp2_with fail
      refine bodyPost_ret (v := .tuple #[.agg #[.int .i64 (n : Int), .slice none 0 0, .slice none 0 0], .bool false]) (by simp [results, Tryz.results140, go_sem, R8]) rfl ?_
      rw [HE.out]
      exact L3.no hg
  · have hE : restP (f + 1) n u = (none, u) := by simp only [restP, if_neg hof]
    have HE := Lib.hid hE
    have HOF := Lib.hid hof
    clear hE hof
    refine (rtake_no g S ⟨#[111, 102]⟩ u _ S1 hS HOF.out (.inl rfl)).mono ?_
    rintro e w3 ⟨rfl, S3, F3⟩
    have L3 := L1.move hg S3 F3 (Nat.le_refl _)
    clear L1 S1 F3
    have R8 := L3.2.2.2.1.cell
    have Z8 := L3.2.2.2.1.free
    have R9 := L3.2.2.2.2.1.cell
    have hsp8 : w.heap.size + 1 < w3.heap.size := blk_lt L3.2.2.2.2.1
    go_wp2_with fail
    refine bodyPost_ret (v := .tuple #[.agg #[.int .i64 (n : Int), .slice none 0 0, .slice none 0 0], .bool false]) (by simp [results, Tryz.results140, go_sem, R8]) rfl ?_
    rw [HE.out]
    exact L3.no hg
end Go.Proofs.YtoblhcieidljjaaGreatDoor

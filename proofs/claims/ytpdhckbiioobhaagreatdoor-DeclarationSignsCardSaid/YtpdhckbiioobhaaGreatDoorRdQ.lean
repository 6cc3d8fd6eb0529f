/- Walks: notation.Parse. -/
import Derived.Test.YtpdhckbiioobhaaGreatDoorProg
import Derived.Test.YtpdhckbiioobhaaGreatDoorRdP
import Derived.Test.YtpdhckbiioobhaaGreatDoorValidW
namespace Go.Proofs.YtpdhckbiioobhaaGreatDoor
open Go.RowKit

mutual
theorem restP_size : ∀ (f : Nat) (n : Int) (u : List UInt8) (t : Tr) (v : List UInt8), restP f n u = (some t, v) → t.size + v.length ≤ u.length
  | 0, _, u, t, v, h => by simp [restP] at h
  | f + 1, n, u, t, v, h => by
    simp only [restP] at h
    have h1 := nxt_le u
    have h2 := nxt_le (nxt u)
    split at h
    · split at h
      · have := loopP_size f n [] [] _ t v h
        simp only [List.length_nil, sizeL] at this
        omega
      · cases h
    · cases h
theorem loopP_size : ∀ (f : Nat) (n : Int) (a : List Int) (b : List Tr) (u : List UInt8) (t : Tr) (v : List UInt8), loopP f n a b u = (some t, v) → t.size + v.length ≤ a.length + b.length + sizeL b + u.length
  | 0, _, _, _, u, t, v, h => by simp [loopP] at h
  | f + 1, n, a, b, u, t, v, h => by
    cases hn : numP u with
    | none => rw [loop_none hn] at h; cases h
    | some k =>
      obtain ⟨h1, _⟩ := num_lt hn
      by_cases ho : tok (nxt u) = [111, 102]
      · cases hr : restP f k (nxt u) with
        | mk o v' =>
          cases o with
          | none => rw [loop_bad hn ho hr] at h; cases h
          | some x =>
            rw [loop_inner hn ho hr] at h
            have h2 := restP_size f k (nxt u) x v' hr
            have h3 := nxt_le v'
            by_cases h41 : tok v' = [41]
            · rw [tail_yes h41] at h
              injection h with e1 e2
              injection e1 with e1
              subst e1 e2
              simp only [Tr.size, List.length_append, List.length_cons, List.length_nil, sizeL_append, sizeL]
              omega
            · by_cases h44 : tok v' = [44]
              · rw [tail_more h41 h44] at h
                have := loopP_size f n a (b ++ [x]) _ t v h
                simp only [List.length_append, List.length_cons, List.length_nil, sizeL_append, sizeL] at this
                omega
              · rw [tail_no h41 h44] at h; cases h
      · rw [loop_node hn ho] at h
        have h3 := nxt_le (nxt u)
        by_cases h41 : tok (nxt u) = [41]
        · rw [tail_yes h41] at h
          injection h with e1 e2
          injection e1 with e1
          subst e1 e2
          simp only [Tr.size, List.length_append, List.length_cons, List.length_nil]
          omega
        · by_cases h44 : tok (nxt u) = [44]
          · rw [tail_more h41 h44] at h
            have := loopP_size f n (a ++ [(k : Int)]) b _ t v h
            simp only [List.length_append, List.length_cons, List.length_nil] at this
            omega
          · rw [tail_no h41 h44] at h; cases h
end

theorem parse_none {S : ByteArray} {v : List UInt8} (hl : S.size ≤ 6000) (h : wholeP S.data.toList = (none, v)) : parseP S.data.toList = .no (S.size - v.length) 2 := by
  unfold parseP
  rw [if_neg (by rw [← size_list]; omega), h, size_list]
theorem parse_more {S : ByteArray} {v : List UInt8} {t : Tr} (hl : S.size ≤ 6000) (h : wholeP S.data.toList = (some t, v)) (hv : v ≠ []) : parseP S.data.toList = .no (S.size - v.length) 2 := by
  unfold parseP
  rw [if_neg (by rw [← size_list]; omega), h, size_list]
  simp only
  rw [if_pos hv]
theorem parse_bad {S : ByteArray} {t : Tr} (hl : S.size ≤ 6000) (h : wholeP S.data.toList = (some t, [])) (hv : validE t ≠ 0) : parseP S.data.toList = .no 0 (validE t) := by
  unfold parseP
  rw [if_neg (by rw [← size_list]; omega), h]
  simp only
  rw [if_neg (by simp), if_pos hv]
theorem parse_good {S : ByteArray} {t : Tr} (hl : S.size ≤ 6000) (h : wholeP S.data.toList = (some t, [])) (hv : validE t = 0) : parseP S.data.toList = .ok t := by
  unfold parseP
  rw [if_neg (by rw [← size_list]; omega), h]
  simp only
  rw [if_neg (by simp), if_neg (by simpa using hv)]
def zeroT : Value := .agg #[.int .i64 0, .slice none 0 0, .slice none 0 0]
/-- What Parse leaves. -/
def GotP (p : Got) (w : World) (e : Ending) (w' : World) : Prop :=
  ∃ (th : Int) (A1 : Option Addr) (n1 c1 : Nat) (A2 : Option Addr) (n2 c2 : Nat) (k : Nat) (er : Int), e = .returned (.tuple #[.agg #[.int .i64 th, .slice A1 n1 c1, .slice A2 n2 c2], .int .i64 (k : Int), .int .i64 er]) ∧ Fr none w w' ∧ k ≤ 6001 ∧
    (match p with
      | .no a x => k = a ∧ er = x ∧ .agg #[.int .i64 th, .slice A1 n1 c1, .slice A2 n2 c2] = zeroT
      | .ok t => k = 0 ∧ er = 0 ∧ TrD w' (Dn w.heap.size w') (.agg #[.int .i64 th, .slice A1 n1 c1, .slice A2 n2 c2]) t ∧ validE t = 0)

set_option maxRecDepth 100000 in
set_option maxHeartbeats 4000000 in
theorem parse_any (S : ByteArray) (w : World) : Calls Tryz.prog 99 #[.string S] w (GotP (parseP S.data.toList) w) := by
  by_cases hlen : 6000 < S.size
  · have hp : parseP S.data.toList = .no 0 3 := by unfold parseP; rw [if_pos (by rw [← size_list]; exact hlen)]
    rw [hp]
    go_enter Tryz.func99, Tryz.ntmps99
    go_wp2_with fail
    refine bodyPost_ret (v := .tuple #[.agg #[.int .i64 0, .slice none 0 0, .slice none 0 0], .int .i64 0, .int .i64 3]) (by simp [results, Tryz.results99, go_sem]) rfl ?_
    exact ⟨_, _, _, _, _, _, _, 0, _, rfl, (Fr.refl _ _).alloc _, by omega, rfl, rfl, rfl⟩
  · obtain ⟨p, hp⟩ : ∃ p, p = wholeP S.data.toList := ⟨_, rfl⟩
    obtain ⟨o, v⟩ := p
    have hS : S.size ≤ 6001 := by omega
    have HP := Lib.hid hp.symm
    have hlen2 : S.size ≤ 6000 := by omega
    clear hp hlen
    go_enter Tryz.func99, Tryz.ntmps99
    go_wp2_with fail
    generalize hW : (w.alloc _).alloc _ = w1
    have hz : w1.heap.size = w.heap.size + 2 := by rw [← hW]; simp
    have F1 : Fr none w w1 := hW ▸ ((Fr.refl _ w).alloc _).alloc _
    have b2 : TB w1 w.heap.size (.int .i64 0) (.slice none 0 0) (.slice none 0 0) := by
      rw [← hW]; exact (Below.heap_alloc _ _ _ (by simp)).trans (blk_new _ _)
    have b5 : RdB w1 (w.heap.size + 1) S ⟨#[]⟩ 0 := by
      rw [← hW]; exact blk_new_at (by simp) _
    clear hW
    refine (next_any (w.heap.size + 1) 0 0 S ⟨#[]⟩ _ b5 rfl (by omega) hS).mono ?_
    rintro e w2 ⟨k0, T0, rfl, q1, q2, q3, q4, B2, F2⟩
    have S2 : RdS w2 (w.heap.size + 1) S (skp S.data.toList) := ⟨k0, T0, B2, q1, q2, q3⟩
    have b2' := b2.fr F2 (by simp)
    have hz2 := F2.size
    clear b5 b2 B2 q1 q2 q3 q4
    have F3 := (Fr.refl none w2).alloc (.cells #[.int .i64 0, .slice none 0 0, .slice none 0 0] 31)
    have b6 : TB (w2.alloc (.cells #[.int .i64 0, .slice none 0 0, .slice none 0 0] 31)) w2.heap.size (.int .i64 0) (.slice none 0 0) (.slice none 0 0) := blk_new _ _
    have S3 := S2.fr F3 (by simp)
    have b3 := b2'.fr F3 (by simp)
    have FA : Fr none w (w2.alloc (.cells #[.int .i64 0, .slice none 0 0, .slice none 0 0] 31)) := (F1.own F2 (by simp)).pure F3
    have F1n : Fr none w w1 := F1
    clear b2' S2
    go_wp2_with fail
    generalize hW : w2.alloc _ = w3 at *
    have hz3 : w3.heap.size = w2.heap.size + 1 := by rw [← hW]; simp
    clear hW F3
    cases hnum : numP (skp S.data.toList) with
    | none =>
      have hE := HP.out
      simp only [wholeP, hnum] at hE
      have hW0 : wholeP S.data.toList = (none, skp S.data.toList) := by simp only [wholeP, hnum]
      have HW0 := Lib.hid (parse_none hlen2 hW0)
      have HN := Lib.hid hnum
      clear hnum HP hE hW0
      refine (number_no (w.heap.size + 1) S _ _ S3 HN.out).mono ?_
      rintro e w4 ⟨rfl, rfl⟩
      obtain ⟨k, T, B, q1, q2, q3, q4, q5⟩ := S3.parts
      have HQ := Lib.hid q1
      have RB := B.cell
      have R2 := b3.cell
      have Z2 := b3.free
      have hk : k ≤ S.size := by omega
      clear q1 q2 q3 q4 q5
      go_wp2_with fail
      have hne : ¬ w.heap.size = w.heap.size + 1 := by omega
      go_region
      all_goals
        go_wp2_with fail
        refine bodyPost_ret (v := .tuple #[.agg #[.int .i64 0, .slice none 0 0, .slice none 0 0], .int .i64 (k : Int), .int .i64 2]) (by simp [results, Tryz.results99, go_sem, R2]) rfl ?_
        have hq := HQ.out
        refine ⟨_, _, _, _, _, _, _, k, _, rfl, ?_, by omega, ?_⟩
        · exact (FA.own (fr_fill3 w3 w.heap.size _ _ _) (by simp)).drew
        · rw [HW0.out]
          exact ⟨by omega, rfl, rfl⟩
    | some n =>
      obtain ⟨hv1, hk9⟩ := num_lt hnum
      have hE := HP.out
      simp only [wholeP, hnum] at hE
      have HN := Lib.hid hnum
      have HE := Lib.hid hE
      have hsl := skp_len S.data.toList
      rw [← size_list] at hsl
      have hsn := nxt_le (skp S.data.toList)
      clear hnum hE
      refine (number_yes (w.heap.size + 1) S _ n _ S3 hS HN.out).mono ?_
      rintro e w4 ⟨rfl, S4, F4⟩
      have hz4 := F4.size
      go_wp2_with fail
      refine (rest_any (S.data.toList.length + 1) n (w.heap.size + 1) S _ _ (by rw [← size_list]; omega) hk9 S4 hS).mono ?_
      rintro e w5 ⟨th, a1, n1, e1, a2, n2, e2, b, rfl, hb, S5, F5, hT⟩
      have hrs := restP_size (S.data.toList.length + 1) n (nxt (skp S.data.toList))
      rw [HE.out] at hb S5 hT hrs
      simp only at hb S5 hT
      have hz5 := F5.size
      have c6 := (b6.fr F4 (by simp; omega)).fr F5 (by simp; omega)
      have c2 := (b3.fr F4 (by simp)).fr F5 (by simp)
      have R6 := c6.cell
      have Z6 := c6.free
      have hl6 := blk_lt c6
      have FB : Fr none w w5 := FA.own (F4.same F5) (by simp)
      clear b6 b3 S4 S3
      cases o with
      | none =>
        obtain rfl : b = false := hb
        go_upto_region 9 with (fail)
        have G := fr_fill3 w5 w2.heap.size (.int .i64 th) (.slice a1 n1 e1) (.slice a2 n2 e2)
        generalize hWG : World.setCell (World.setCell (World.setCell w5 _ _) _ _) _ _ = w6 at G ⊢
        have SG := S5.fr G (by simp; omega)
        have c2G := c2.fr G (by simp; omega)
        have FG : Fr none w w6 := FB.own G (by simp; omega)
        obtain ⟨k, T, B, q1, q2, q3, q4, q5⟩ := SG.parts
        have HQ := Lib.hid q1
        have RB := B.cell
        have R2 := c2G.cell
        have Z2 := c2G.free
        have hk : k ≤ S.size := by omega
        have hne : ¬ w.heap.size = w.heap.size + 1 := by omega
        have HW0 := Lib.hid (parse_none hlen2 HP.out)
        clear q1 q2 q3 q4 q5 hT R6 Z6 c2 S5 F4 F5 hWG hrs HP
        go_wp2_with fail
        go_region
        all_goals
          go_wp2_with fail
          refine bodyPost_ret (v := .tuple #[.agg #[.int .i64 0, .slice none 0 0, .slice none 0 0], .int .i64 (k : Int), .int .i64 2]) (by simp [results, Tryz.results99, go_sem, R2]) rfl ?_
          have hq := HQ.out
          refine ⟨_, _, _, _, _, _, _, k, _, rfl, ?_, by omega, ?_⟩
          · exact (FG.own (fr_fill3 w6 w.heap.size _ _ _) (by simp)).drew
          · rw [HW0.out]
            exact ⟨by omega, rfl, rfl⟩
      | some t =>
        obtain rfl : b = true := hb
        have hts := hrs t v rfl
        go_upto_region 9 with (fail)
        have G := fr_fill3 w5 w2.heap.size (.int .i64 th) (.slice a1 n1 e1) (.slice a2 n2 e2)
        have d6 := (((show TB w5 w2.heap.size _ _ _ from c6).set0 (.int .i64 th)).set1 (.slice a1 n1 e1)).set2 (.slice a2 n2 e2)
        generalize hWG : World.setCell (World.setCell (World.setCell w5 _ _) _ _) _ _ = w6 at G d6 ⊢
        have SG := S5.fr G (by simp; omega)
        have c2G := c2.fr G (by simp; omega)
        have FG : Fr none w w6 := FB.own G (by simp; omega)
        have hTG := TrD.keep (dn_fr (B := w4.heap.size) G (by simp; omega)) _ _ (hT t rfl)
        obtain ⟨k, T, B, q1, q2, q3, q4, q5⟩ := SG.parts
        have HQ := Lib.hid q1
        have RB := B.cell
        have R2 := c2G.cell
        have Z2 := c2G.free
        have hk : k ≤ S.size := by omega
        have hne : ¬ w.heap.size = w.heap.size + 1 := by omega
        clear q2 q3 q4 q5 hT R6 Z6 c2 S5 F4 F5 hWG hrs c6
        cases v with
        | cons c0 r0 =>
          have HW0 := Lib.hid (parse_more hlen2 HP.out (by simp))
          have hk2 : k < S.size := by simp at q1; omega
          clear q1 HP
          go_wp2_with fail
          go_region
          all_goals
            go_wp2_with fail
            refine bodyPost_ret (v := .tuple #[.agg #[.int .i64 0, .slice none 0 0, .slice none 0 0], .int .i64 (k : Int), .int .i64 2]) (by simp [results, Tryz.results99, go_sem, R2]) rfl ?_
            have hq := HQ.out
            refine ⟨_, _, _, _, _, _, _, k, _, rfl, ?_, by omega, ?_⟩
            · exact (FG.own (fr_fill3 w6 w.heap.size _ _ _) (by simp)).drew
            · rw [HW0.out]
              exact ⟨by omega, rfl, rfl⟩
        | nil =>
          have hk2 : S.size ≤ k := by simp at q1; omega
          have R7 := d6.cell
          have hT0 : TrR w6 none (.agg #[.int .i64 th, .slice a1 n1 e1, .slice a2 n2 e2]) t := TrD.keep (dn_dm (by simp)) _ _ hTG
          have hl6 : w.heap.size < w6.heap.size := by have := blk_lt c2G; exact this
          clear q1
          by_cases hv : validE t = 0
          · have HW0 := Lib.hid (parse_good hlen2 HP.out hv)
            have hv0 : (validE t != 0) = false := by rw [bne_eq_false_iff_eq]; exact hv
            have HV := Lib.hid hv
            clear HP hv
            go_wp2_with fail
            refine (validT_any t _ _ none (by omega) hT0).mono ?_
            rintro e w7 ⟨rfl, F7⟩
            have R8 := (d6.fr F7 (by simp)).cell
            have R9 := (c2G.fr F7 (by simp)).cell
            have Z9 := (c2G.fr F7 (by simp)).free
            have hl7 := blk_lt (c2G.fr F7 (by simp))
            clear R7 R2 Z2 RB
            go_wp2_with fail
            refine bodyPost_ret (v := .tuple #[.agg #[.int .i64 th, .slice a1 n1 e1, .slice a2 n2 e2], .int .i64 0, .int .i64 0]) (by simp [results, Tryz.results99, go_sem, R9]) rfl ?_
            have G2 := fr_fill3 w7 w.heap.size (.int .i64 th) (.slice a1 n1 e1) (.slice a2 n2 e2)
            refine ⟨_, _, _, _, _, _, _, 0, _, rfl, (FG.pure F7).own G2 (by simp), by omega, ?_⟩
            rw [HW0.out]
            exact ⟨rfl, rfl, TrD.keep (dn_mono (by omega)) _ _ (TrD.keep (dn_fr G2 (by simp; omega)) _ _ (TrD.keep (dn_fr F7 (by simp)) _ _ hTG)), HV.out⟩
          · have HW0 := Lib.hid (parse_bad hlen2 HP.out hv)
            have hv0 : (validE t != 0) = true := by rw [bne_iff_ne]; exact hv
            clear HP hv
            go_wp2_with fail
            refine (validT_any t _ _ none (by omega) hT0).mono ?_
            rintro e w7 ⟨rfl, F7⟩
            have R9 := (c2G.fr F7 (by simp)).cell
            have Z9 := (c2G.fr F7 (by simp)).free
            have hl7 := blk_lt (c2G.fr F7 (by simp))
            clear R7 R2 Z2 RB
            go_wp2_with fail
            refine bodyPost_ret (v := .tuple #[.agg #[.int .i64 0, .slice none 0 0, .slice none 0 0], .int .i64 0, .int .i64 (validE t)]) (by simp [results, Tryz.results99, go_sem, R9]) rfl ?_
            have G2 := fr_fill3 w7 w.heap.size (.int .i64 0) (.slice none 0 0) (.slice none 0 0)
            refine ⟨_, _, _, _, _, _, _, 0, _, rfl, (FG.pure F7).own G2 (by simp), by omega, ?_⟩
            rw [HW0.out]
            exact ⟨rfl, rfl, rfl⟩
end Go.Proofs.YtpdhckbiioobhaaGreatDoor

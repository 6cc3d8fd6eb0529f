/- Walks: the reader of notation: rest. -/
import Derived.Test.YtpdhckbiioobhaaGreatDoorProg
import Derived.Test.YtpdhckbiioobhaaGreatDoorRdR
namespace Go.Proofs.YtpdhckbiioobhaaGreatDoor
open Go.RowKit

/-- Behind an entry. -/
def tailP (f : Nat) (n : Int) (nodes : List Int) (inner : List Tr) (v : List UInt8) : Option Tr × List UInt8 :=
  if tok v = [41] then (some (.mk n nodes inner), nxt v) else if tok v = [44] then loopP f n nodes inner (nxt v) else (none, v)
theorem loop_none {f : Nat} {n : Int} {nodes : List Int} {inner : List Tr} {u : List UInt8} (h : numP u = none) : loopP (f + 1) n nodes inner u = (none, u) := by
  simp only [loopP, h]
theorem loop_node {f : Nat} {n : Int} {nodes : List Int} {inner : List Tr} {u : List UInt8} {k : Nat} (h : numP u = some k) (ho : tok (nxt u) ≠ [111, 102]) : loopP (f + 1) n nodes inner u = tailP f n (nodes ++ [(k : Int)]) inner (nxt u) := by
  simp only [loopP, h, if_neg ho, tailP]
theorem loop_bad {f : Nat} {n : Int} {nodes : List Int} {inner : List Tr} {u v : List UInt8} {k : Nat} (h : numP u = some k) (ho : tok (nxt u) = [111, 102]) (hr : restP f k (nxt u) = (none, v)) : loopP (f + 1) n nodes inner u = (none, v) := by
  simp only [loopP, h, if_pos ho, hr]
theorem loop_inner {f : Nat} {n : Int} {nodes : List Int} {inner : List Tr} {u v : List UInt8} {k : Nat} {x : Tr} (h : numP u = some k) (ho : tok (nxt u) = [111, 102]) (hr : restP f k (nxt u) = (some x, v)) : loopP (f + 1) n nodes inner u = tailP f n nodes (inner ++ [x]) v := by
  simp only [loopP, h, if_pos ho, hr, tailP]
theorem tail_yes {f : Nat} {n : Int} {nodes : List Int} {inner : List Tr} {v : List UInt8} (h : tok v = [41]) : tailP f n nodes inner v = (some (.mk n nodes inner), nxt v) := by simp only [tailP, if_pos h]
theorem tail_more {f : Nat} {n : Int} {nodes : List Int} {inner : List Tr} {v : List UInt8} (h : tok v ≠ [41]) (h2 : tok v = [44]) : tailP f n nodes inner v = loopP f n nodes inner (nxt v) := by simp only [tailP, if_neg h, if_pos h2]
theorem tail_no {f : Nat} {n : Int} {nodes : List Int} {inner : List Tr} {v : List UInt8} (h : tok v ≠ [41]) (h2 : tok v ≠ [44]) : tailP f n nodes inner v = (none, v) := by simp only [tailP, if_neg h, if_neg h2]
theorem num_lt {u : List UInt8} {k : Nat} (h : numP u = some k) : (nxt u).length < u.length ∧ k ≤ 9999 := by
  rw [numP_eq] at h
  cases hb : numB (tok u) with
  | false => rw [hb] at h; simp at h
  | true =>
    rw [if_pos hb] at h
    injection h with h
    refine ⟨nxt_lt (numB_ne hb), ?_⟩
    have hd := tok_dg hb
    have h1 : ∀ (l : List UInt8) (a : Nat), (∀ c ∈ l, isDg c = true) → numV a l < (a + 1) * 10 ^ l.length := by
      intro l
      induction l with
      | nil => intro a _; simp [numV]
      | cons c r ih =>
        intro a hl
        have hc := hl c (by simp)
        simp only [isDg, decide_eq_true_eq] at hc
        have e : numV a (c :: r) = numV (10 * a + (c.toNat - 48)) r := rfl
        rw [e]
        have := ih (10 * a + (c.toNat - 48)) fun x hx => hl x (List.mem_cons_of_mem _ hx)
        refine Nat.lt_of_lt_of_le this ?_
        rw [List.length_cons, Nat.pow_succ, Nat.mul_comm (10 ^ r.length) 10, ← Nat.mul_assoc]
        exact Nat.mul_le_mul_right _ (by omega)
    have h2 := h1 (tok u) 0 hd
    rw [h] at h2
    cases ht : tok u with
    | nil => rw [ht] at hb; simp [numB] at hb
    | cons c r =>
      rw [ht] at hb h2
      simp only [numB, Bool.and_eq_true, decide_eq_true_eq] at hb
      have hl : (c :: r).length ≤ 4 := by simp; omega
      have : 10 ^ (c :: r).length ≤ 10 ^ 4 := Nat.pow_le_pow_right (by omega) hl
      omega

/-- What rest leaves. -/
def RestP (p : Option Tr × List UInt8) (w : World) (g : Nat) (S : ByteArray) (e : Ending) (w' : World) : Prop :=
  ∃ (th : Int) (A1 : Option Addr) (n1 c1 : Nat) (A2 : Option Addr) (n2 c2 : Nat) (b : Bool), e = .returned (.tuple #[.agg #[.int .i64 th, .slice A1 n1 c1, .slice A2 n2 c2], .bool b]) ∧ b = p.1.isSome ∧ RdS w' g S p.2 ∧ Fr (some g) w w' ∧
    ∀ t, p.1 = some t → TrD w' (Dn w.heap.size w') (.agg #[.int .i64 th, .slice A1 n1 c1, .slice A2 n2 c2]) t
theorem LoopI.no {w : World} {g : Nat} {S : ByteArray} {n : Nat} {nodes : List Int} {inner : List Tr} {v : List UInt8} {A1 : Option Addr} {c1 : Nat} {A2 : Option Addr} {c2 : Nat} {cells : List Value} {wr : World}
    (h : LoopI w g S n nodes inner v A1 c1 A2 c2 cells wr) (hg : g < w.heap.size) : RestP (none, v) w g S (.returned (.tuple #[.agg #[.int .i64 (n : Int), .slice A1 nodes.length c1, .slice A2 inner.length c2], .bool false]))
      (((wr.setCell ⟨w.heap.size, 0, none⟩ (.int .i64 (n : Int))).setCell ⟨w.heap.size, 1, none⟩ (.slice A1 nodes.length c1)).setCell ⟨w.heap.size, 2, none⟩ (.slice A2 inner.length c2)) := by
  have F := fr_fill3 wr w.heap.size (.int .i64 (n : Int)) (.slice A1 nodes.length c1) (.slice A2 inner.length c2)
  exact ⟨_, _, _, _, _, _, _, _, rfl, rfl, h.2.2.1.fr F (by simp; omega), h.1.own F (by simp), fun t ht => by cases ht⟩
theorem LoopI.yes {w : World} {g : Nat} {S : ByteArray} {n : Nat} {nodes : List Int} {inner : List Tr} {v : List UInt8} {A1 : Option Addr} {c1 : Nat} {A2 : Option Addr} {c2 : Nat} {cells : List Value} {wr : World}
    (h : LoopI w g S n nodes inner v A1 c1 A2 c2 cells wr) (hg : g < w.heap.size) (hn : n ≤ 9999) : RestP (some (.mk n nodes inner), v) w g S (.returned (.tuple #[.agg #[.int .i64 (n : Int), .slice A1 nodes.length c1, .slice A2 inner.length c2], .bool true]))
      (((wr.setCell ⟨w.heap.size, 0, none⟩ (.int .i64 (n : Int))).setCell ⟨w.heap.size, 1, none⟩ (.slice A1 nodes.length c1)).setCell ⟨w.heap.size, 2, none⟩ (.slice A2 inner.length c2)) := by
  have F := fr_fill3 wr w.heap.size (.int .i64 (n : Int)) (.slice A1 nodes.length c1) (.slice A2 inner.length c2)
  exact ⟨_, _, _, _, _, _, _, _, rfl, rfl, h.2.2.1.fr F (by simp; omega), h.1.own F (by simp), fun t ht => by injection ht with ht; subst ht; exact h.done hn F⟩

set_option maxRecDepth 100000 in
set_option maxHeartbeats 8000000 in
theorem rest_any (f : Nat) : ∀ (n g : Nat) (S : ByteArray) (u : List UInt8) (w : World), u.length < f → n ≤ 9999 → RdS w g S u → S.size ≤ 6001 →
    Calls Tryz.prog 149 #[.pointer (some ⟨g, 0, none⟩), .int .i64 (n : Int)] w (RestP (restP f n u) w g S) := by
  induction f using Nat.strongRecOn with
  | _ f ih =>
  intro n g S u w hf hn h hS
  obtain ⟨f, rfl⟩ : ∃ f', f = f' + 1 := ⟨f - 1, by omega⟩
  have hg := h.lt
  have hu := h.le
  have IH := Lib.hid ih
  clear ih
  by_cases hof : tok u = [111, 102]
  · by_cases hpar : tok (nxt u) = [40]
    · have hE : restP (f + 1) n u = loopP f n [] [] (nxt (nxt u)) := by simp only [restP, if_pos hof, if_pos hpar]
      have HE := Lib.hid hE
      have HOF := Lib.hid hof
      have HPAR := Lib.hid hpar
      have hl1 : (nxt u).length < u.length := nxt_lt (by rw [hof]; simp)
      have hl2 : (nxt (nxt u)).length < (nxt u).length := nxt_lt (by rw [hpar]; simp)
      clear hE hof hpar
      go_enter Tryz.func149, Tryz.ntmps149
      go_wp2_with fail
      generalize hW : (w.alloc _).alloc _ = w1
      have hz : w1.heap.size = w.heap.size + 2 := by rw [← hW]; simp
      have F1 : Fr none w w1 := hW ▸ ((Fr.refl _ w).alloc _).alloc _
      have b6 : TB w1 w.heap.size (.int .i64 0) (.slice none 0 0) (.slice none 0 0) := by
        rw [← hW]; exact (Below.heap_alloc _ _ _ (by simp)).trans (blk_new _ _)
      have b7 : TB w1 (w.heap.size + 1) (.int .i64 (n : Int)) (.slice none 0 0) (.slice none 0 0) := by
        rw [← hW]; exact blk_new_at (by simp) _
      have S1 := h.fr F1 (by simp)
      clear hW h
      refine (take_yes g S ⟨#[111, 102]⟩ u _ S1 hS HOF.out).mono ?_
      rintro e w2 ⟨rfl, S2, F2⟩
      go_wp2_with fail
      refine (take_yes g S ⟨#[40]⟩ (nxt u) _ S2 hS HPAR.out).mono ?_
      rintro e w3 ⟨rfl, S3, F3⟩
      have F13 := F2.same F3
      have hz3 := F13.size
      have L0 : LoopI w g S n [] [] (nxt (nxt u)) none 0 none 0 [] w3 := ⟨(F1.mono (r := some g)).same F13, by omega, S3, b6.fr F13 (by simp; omega), b7.fr F13 (by simp; omega), World.ownsRow_nil _ _ _ _, World.ownsRow_nil _ _ _ _, by simp [TrsD], fun b hb => by simp [Value.ownBlock] at hb, by simp, by simp; omega⟩
      clear b6 b7 S1 S2 S3 F2 F3 F13 F1 hz hz3
      go_wp2_with fail
      go_loopw [7, 8, 9, 10] (fun s7 s8 s9 s10 wr => ∃ (nodes : List Int) (inner : List Tr) (v : List UInt8) (A1 : Option Addr) (c1 : Nat) (A2 : Option Addr) (c2 : Nat) (cells : List Value) (f' : Nat), LoopI w g S n nodes inner v A1 c1 A2 c2 cells wr ∧ Hid (restP (f + 1) n u = loopP f' n nodes inner v) ∧ v.length < f' ∧ f' ≤ f) (fun _ _ _ _ wr => S.size - atOf wr g)
      case atStart => exact ⟨[], [], _, _, _, _, _, _, f, L0, HE, by omega, by omega⟩
      case round =>
        clear L0 HE
        obtain ⟨nodes, inner, v, A1, c1, A2, c2, cells, f', L, HE, hvf, hff⟩ := hrel
        obtain ⟨f', rfl⟩ : ∃ k, f' = k + 1 := ⟨f' - 1, by omega⟩
        have S4 := L.2.2.1
        have HSL := Lib.hid S4.left
        have hlen := L.2.2.2.2.2.2.2.2.2.2
        cases hnum : numP v with
        | none =>
          have hE := HE.out
          rw [loop_none hnum] at hE
          have HE2 := Lib.hid hE
          have HN := Lib.hid hnum
          have R6 := L.2.2.2.1.cell
          have Z6 := L.2.2.2.1.free
          have R7 := L.2.2.2.2.1.cell
          have hsp : w.heap.size + 1 < wr.heap.size := blk_lt L.2.2.2.2.1
          clear hE hnum
          go_wp2_with fail
          refine (number_no g S v _ S4 HN.out).mono ?_
          rintro e w4 ⟨rfl, rfl⟩
          go_wp2_with fail
          refine bodyPost_ret (v := .tuple #[.agg #[.int .i64 (n : Int), .slice A1 nodes.length c1, .slice A2 inner.length c2], .bool false]) (by simp [results, Tryz.results149, go_sem, R6]) rfl ?_
          rw [HE2.out]
          exact L.no hg
        | some k =>
          obtain ⟨hv1, hk⟩ := num_lt hnum
          have HN := Lib.hid hnum
          by_cases ho : tok (nxt v) = [111, 102]
          · obtain ⟨p, hp⟩ : ∃ p, p = restP f' k (nxt v) := ⟨_, rfl⟩
            obtain ⟨o, v5⟩ := p
            have hv5 : v5.length ≤ (nxt v).length := by
              have := restP_len f' k (nxt v)
              rw [← hp] at this
              exact this
            have HP := Lib.hid hp.symm
            have HO := Lib.hid ho
            clear hp hnum ho
            go_wp2_with fail
            refine (number_yes g S v k _ S4 hS HN.out).mono ?_
            rintro e w4 ⟨rfl, S4', F4⟩
            have L4 := L.move hg S4' F4 (by omega)
            obtain ⟨q, T, B4, q1, q2, hT, q3, q4⟩ := S4'.parts
            have RB := B4.cell
            have he : (T.toList == [111, 102]) = true := by rw [ByteArray.toList_eq, hT, HO.out]; rfl
            clear hT q2
            go_wp2_with fail
            clear RB he
            refine (IH.out f' (by omega) k g S (nxt v) _ (by omega) hk S4' hS).mono ?_
            rintro e w5 ⟨th, a1, n1, e1, a2, n2, e2, b, rfl, hb, S5, F5, hT⟩
            rw [HP.out] at hb S5 hT
            simp only at hb S5 hT
            have L5 := L4.move hg S5 F5 hv5
            cases o with
            | none =>
              obtain rfl : b = false := hb
              have hE := HE.out
              rw [loop_bad HN.out HO.out HP.out] at hE
              have HE2 := Lib.hid hE
              have F6 := (Fr.refl none w5).alloc (.cells #[.int .i64 th, .slice a1 n1 e1, .slice a2 n2 e2] 31)
              have L6 := L5.move hg (S5.fr F6 (by simp)) F6.mono (Nat.le_refl _)
              have R6 := L6.2.2.2.1.cell
              have Z6 := L6.2.2.2.1.free
              have R7 := L6.2.2.2.2.1.cell
              have hsp := blk_lt L5.2.2.2.2.1
              clear hE hT
              go_wp2_with fail
              refine bodyPost_ret (v := .tuple #[.agg #[.int .i64 (n : Int), .slice A1 nodes.length c1, .slice A2 inner.length c2], .bool false]) (by simp [results, Tryz.results149, go_sem, R6]) rfl ?_
              rw [HE2.out]
              exact L6.no hg
            | some t =>
              obtain rfl : b = true := hb
              have hE := HE.out
              rw [loop_inner HN.out HO.out HP.out] at hE
              have HE := Lib.hid hE
              have hT5 := hT t rfl
              have F6 := (Fr.refl none w5).alloc (.cells #[.int .i64 th, .slice a1 n1 e1, .slice a2 n2 e2] 31)
              have L6 := L5.move hg (S5.fr F6 (by simp)) F6.mono (Nat.le_refl _)
              have hT6 := TrD.keep (dn_fr F6 (by simp)) _ _ hT5
              have R6 := L6.2.2.2.1.cell
              have R7 := L6.2.2.2.2.1.cell
              have Z7 := L6.2.2.2.2.1.free
              have hsp := blk_lt L5.2.2.2.2.1
              have own6 := L6.2.2.2.2.2.2.1
              have ow1 := L4.2.2.2.2.2.1
              have ow2 := L4.2.2.2.2.2.2.1
              have hB4 := L4.2.1
              have h61 := L6.2.1
              simp only [World.size_alloc] at h61
              clear hE hT hT5
              go_wp2_with (at_builtin; refine app_lit eiTrust rfl _ _ rfl (w.heap.size + 2) A2 inner.length c2 _ rfl own6 1 [.int .i64 th, .slice a1 n1 e1, .slice a2 n2 e2] 31 _ rfl (by simp) rfl (by simp [Value.oneCell']) (by omega) (by unfold maxLen; omega) (by simp; omega) ?_; intro A5 c5 w6 own7 F7 bl7; have K7 := L6.2.2.2.2.1.fr F7 (own_ne own6 (by omega)); have R8 := K7.cell; have Z8 := K7.free; have hsp6 := blk_lt K7; clear R6 R7 Z7)
              have L7 := L6.inner_ hg hB4 hT6 (fun b hb => (ow1.lt b hb).2) (fun b hb => (ow2.lt b hb).2) own7 F7 bl7 (by omega)
              generalize hW : World.setCell w6 _ _ = w7 at L7 ⊢
              obtain ⟨inner2, hin⟩ : ∃ l, l = inner ++ [t] := ⟨_, rfl⟩
              rw [← hin] at L7 HE
              have hvf5 : v5.length < f' := by omega
              clear hW hin L6 L5 L4 own6 own7 ow1 ow2 F7 bl7 R8 Z8 K7 hT6
              go_wp2_with fail
              have S6 := L7.2.2.1
              have K6 := L7.2.2.2.1
              have K7 := L7.2.2.2.2.1
              have R6 := K6.cell
              have Z6 := K6.free
              have R7 := K7.cell
              have Z7 := K7.free
              have hsp : w.heap.size + 1 < w7.heap.size := blk_lt K7
              by_cases h41 : tok v5 = [41]
              · have hE := HE.out
                rw [tail_yes h41] at hE
                have HE2 := Lib.hid hE
                have H41 := Lib.hid h41
                clear hE h41 HE
                go_wp2_with fail
                refine (take_yes g S ⟨#[41]⟩ v5 _ S6 hS H41.out).mono ?_
                rintro e w8 ⟨rfl, S8, F8⟩
                have L8 := L7.move hg S8 F8 (nxt_le _)
                have R8 := L8.2.2.2.1.cell
                have Z8 := L8.2.2.2.1.free
                have R9 := L8.2.2.2.2.1.cell
                have hsp8 : w.heap.size + 1 < w8.heap.size := blk_lt L8.2.2.2.2.1
                clear R6 Z6 R7 Z7
                go_wp2_with fail
                refine bodyPost_ret (v := .tuple #[.agg #[.int .i64 (n : Int), .slice A1 nodes.length c1, .slice A5 inner2.length c5], .bool true]) (by simp [results, Tryz.results149, go_sem, R8]) rfl ?_
                rw [HE2.out]
                exact L8.yes hg hn
              · by_cases h44 : tok v5 = [44]
                · have hE := HE.out
                  rw [tail_more h41 h44] at hE
                  have HE2 := Lib.hid hE
                  have H44 := Lib.hid h44
                  have H41 := Lib.hid h41
                  have hvl2 : (nxt v5).length < v5.length := nxt_lt (by rw [h44]; simp)
                  clear hE h41 h44 HE
                  go_wp2_with fail
                  refine (take_no g S ⟨#[41]⟩ v5 _ S6 H41.out).mono ?_
                  rintro e w8 ⟨rfl, rfl⟩
                  go_wp2_with fail
                  refine (take_yes g S ⟨#[44]⟩ v5 _ S6 hS H44.out).mono ?_
                  rintro e w8 ⟨rfl, S8, F8⟩
                  have L8 := L7.move hg S8 F8 (nxt_le _)
                  clear R6 Z6 R7 Z7
                  go_wp2_with fail
                  go_roundw
                  case rel => exact ⟨nodes, inner2, _, _, _, _, _, _, _, L8, HE2, by omega⟩
                  case measure => rw [S8.left, HSL.out]; omega
                · have hE := HE.out
                  rw [tail_no h41 h44] at hE
                  have HE2 := Lib.hid hE
                  have H44 := Lib.hid h44
                  have H41 := Lib.hid h41
                  clear hE h41 h44 HE
                  go_wp2_with fail
                  refine (take_no g S ⟨#[41]⟩ v5 _ S6 H41.out).mono ?_
                  rintro e w8 ⟨rfl, rfl⟩
                  go_wp2_with fail
                  refine (take_no g S ⟨#[44]⟩ v5 _ S6 H44.out).mono ?_
                  rintro e w8 ⟨rfl, rfl⟩
                  go_wp2_with fail
                  refine bodyPost_ret (v := .tuple #[.agg #[.int .i64 (n : Int), .slice A1 nodes.length c1, .slice A5 inner2.length c5], .bool false]) (by simp [results, Tryz.results149, go_sem, R6]) rfl ?_
                  rw [HE2.out]
                  exact L7.no hg
          · have hE := HE.out
            rw [loop_node hnum ho] at hE
            have HE := Lib.hid hE
            have HO := Lib.hid ho
            clear hE hnum ho
            go_wp2_with fail
            refine (number_yes g S v k _ S4 hS HN.out).mono ?_
            rintro e w4 ⟨rfl, S4', F4⟩
            have L4 := L.move hg S4' F4 (by omega)
            obtain ⟨q, T, B4, q1, q2, hT, q3, q4⟩ := S4'.parts
            have RB := B4.cell
            have he : (T.toList == [111, 102]) = false := by rw [ByteArray.toList_eq, hT, beq_eq_false_iff_ne]; exact HO.out
            have R7 := L4.2.2.2.2.1.cell
            have Z7 := L4.2.2.2.2.1.free
            have hsp := blk_lt L4.2.2.2.2.1
            have own4 := L4.2.2.2.2.2.1
            have h41 := L4.2.1
            clear hT q2
            go_wp2_with (at_builtin; refine app_lit eiInt rfl _ _ rfl (w.heap.size + 2) A1 nodes.length c1 _ rfl own4 1 [.int .i64 (k : Int)] 3 _ rfl (by simp) rfl (by simp [Value.oneCell']) (by omega) (by unfold maxLen; omega) (by omega) ?_; intro A5 c5 w6 own7 F7 bl7; have K7 := L4.2.2.2.2.1.fr F7 (own_ne own4 (by omega)); have R8 := K7.cell; have Z8 := K7.free; have hsp6 := blk_lt K7; clear R7 Z7 RB)
            have L7 := L4.node hg hk own7 F7 bl7 (by omega)
            generalize hW : World.setCell w6 _ _ = w7 at L7 ⊢
            obtain ⟨nodes2, hin⟩ : ∃ l, l = nodes ++ [(k : Int)] := ⟨_, rfl⟩
            rw [← hin] at L7 HE
            obtain ⟨v5, hv5⟩ : ∃ l, l = nxt v := ⟨_, rfl⟩
            rw [← hv5] at L7 HE hv1
            have hvf5 : v5.length < f' := by omega
            clear hW hin L4 own4 own7 F7 bl7 R8 Z8 K7 B4 he S4' hv5
            go_wp2_with fail
            have S6 := L7.2.2.1
            have K6 := L7.2.2.2.1
            have K7 := L7.2.2.2.2.1
            have R6 := K6.cell
            have Z6 := K6.free
            have R7 := K7.cell
            have Z7 := K7.free
            have hsp : w.heap.size + 1 < w7.heap.size := blk_lt K7
            by_cases h41 : tok v5 = [41]
            · have hE := HE.out
              rw [tail_yes h41] at hE
              have HE2 := Lib.hid hE
              have H41 := Lib.hid h41
              clear hE h41 HE
              go_wp2_with fail
              refine (take_yes g S ⟨#[41]⟩ v5 _ S6 hS H41.out).mono ?_
              rintro e w8 ⟨rfl, S8, F8⟩
              have L8 := L7.move hg S8 F8 (nxt_le _)
              have R8 := L8.2.2.2.1.cell
              have Z8 := L8.2.2.2.1.free
              have R9 := L8.2.2.2.2.1.cell
              have hsp8 : w.heap.size + 1 < w8.heap.size := blk_lt L8.2.2.2.2.1
              clear R6 Z6 R7 Z7
              go_wp2_with fail
              refine bodyPost_ret (v := .tuple #[.agg #[.int .i64 (n : Int), .slice A5 nodes2.length c5, .slice A2 inner.length c2], .bool true]) (by simp [results, Tryz.results149, go_sem, R8]) rfl ?_
              rw [HE2.out]
              exact L8.yes hg hn
            · by_cases h44 : tok v5 = [44]
              · have hE := HE.out
                rw [tail_more h41 h44] at hE
                have HE2 := Lib.hid hE
                have H44 := Lib.hid h44
                have H41 := Lib.hid h41
                have hvl2 : (nxt v5).length < v5.length := nxt_lt (by rw [h44]; simp)
                clear hE h41 h44 HE
                go_wp2_with fail
                refine (take_no g S ⟨#[41]⟩ v5 _ S6 H41.out).mono ?_
                rintro e w8 ⟨rfl, rfl⟩
                go_wp2_with fail
                refine (take_yes g S ⟨#[44]⟩ v5 _ S6 hS H44.out).mono ?_
                rintro e w8 ⟨rfl, S8, F8⟩
                have L8 := L7.move hg S8 F8 (nxt_le _)
                clear R6 Z6 R7 Z7
                go_wp2_with fail
                go_roundw
                case rel => exact ⟨nodes2, inner, _, _, _, _, _, _, _, L8, HE2, by omega⟩
                case measure => rw [S8.left, HSL.out]; omega
              · have hE := HE.out
                rw [tail_no h41 h44] at hE
                have HE2 := Lib.hid hE
                have H44 := Lib.hid h44
                have H41 := Lib.hid h41
                clear hE h41 h44 HE
                go_wp2_with fail
                refine (take_no g S ⟨#[41]⟩ v5 _ S6 H41.out).mono ?_
                rintro e w8 ⟨rfl, rfl⟩
                go_wp2_with fail
                refine (take_no g S ⟨#[44]⟩ v5 _ S6 H44.out).mono ?_
                rintro e w8 ⟨rfl, rfl⟩
                go_wp2_with fail
                refine bodyPost_ret (v := .tuple #[.agg #[.int .i64 (n : Int), .slice A5 nodes2.length c5, .slice A2 inner.length c2], .bool false]) (by simp [results, Tryz.results149, go_sem, R6]) rfl ?_
                rw [HE2.out]
                exact L7.no hg
    · have hE : restP (f + 1) n u = (none, nxt u) := by simp only [restP, if_pos hof, if_neg hpar]
      have HE := Lib.hid hE
      have HOF := Lib.hid hof
      have HPAR := Lib.hid hpar
      have hl1 : (nxt u).length < u.length := nxt_lt (by rw [hof]; simp)
      clear hE hof hpar
      go_enter Tryz.func149, Tryz.ntmps149
      go_wp2_with fail
      generalize hW : (w.alloc _).alloc _ = w1
      have hz : w1.heap.size = w.heap.size + 2 := by rw [← hW]; simp
      have F1 : Fr none w w1 := hW ▸ ((Fr.refl _ w).alloc _).alloc _
      have b6 : TB w1 w.heap.size (.int .i64 0) (.slice none 0 0) (.slice none 0 0) := by
        rw [← hW]; exact (Below.heap_alloc _ _ _ (by simp)).trans (blk_new _ _)
      have b7 : TB w1 (w.heap.size + 1) (.int .i64 (n : Int)) (.slice none 0 0) (.slice none 0 0) := by
        rw [← hW]; exact blk_new_at (by simp) _
      have S1 := h.fr F1 (by simp)
      clear hW h
      refine (take_yes g S ⟨#[111, 102]⟩ u _ S1 hS HOF.out).mono ?_
      rintro e w2 ⟨rfl, S2, F2⟩
      go_wp2_with fail
      refine (take_no g S ⟨#[40]⟩ (nxt u) _ S2 HPAR.out).mono ?_
      rintro e w3 ⟨rfl, rfl⟩
      have hz3 := F2.size
      have L0 : LoopI w g S n [] [] (nxt u) none 0 none 0 [] w2 := ⟨(F1.mono (r := some g)).same F2, by omega, S2, b6.fr F2 (by simp; omega), b7.fr F2 (by simp; omega), World.ownsRow_nil _ _ _ _, World.ownsRow_nil _ _ _ _, by simp [TrsD], fun b hb => by simp [Value.ownBlock] at hb, by simp, by simp; omega⟩
      have R6 := L0.2.2.2.1.cell
      have Z6 := L0.2.2.2.1.free
      have R7 := L0.2.2.2.2.1.cell
      have hsp : w.heap.size + 1 < w2.heap.size := blk_lt L0.2.2.2.2.1
      clear b6 b7
      go_wp2_with fail
      refine bodyPost_ret (v := .tuple #[.agg #[.int .i64 (n : Int), .slice none 0 0, .slice none 0 0], .bool false]) (by simp [results, Tryz.results149, go_sem, R6]) rfl ?_
      rw [HE.out]
      exact L0.no hg
  · have hE : restP (f + 1) n u = (none, u) := by simp only [restP, if_neg hof]
    have HE := Lib.hid hE
    have HOF := Lib.hid hof
    clear hE hof
    go_enter Tryz.func149, Tryz.ntmps149
    go_wp2_with fail
    generalize hW : (w.alloc _).alloc _ = w1
    have hz : w1.heap.size = w.heap.size + 2 := by rw [← hW]; simp
    have F1 : Fr none w w1 := hW ▸ ((Fr.refl _ w).alloc _).alloc _
    have b6 : TB w1 w.heap.size (.int .i64 0) (.slice none 0 0) (.slice none 0 0) := by
      rw [← hW]; exact (Below.heap_alloc _ _ _ (by simp)).trans (blk_new _ _)
    have b7 : TB w1 (w.heap.size + 1) (.int .i64 (n : Int)) (.slice none 0 0) (.slice none 0 0) := by
      rw [← hW]; exact blk_new_at (by simp) _
    have S1 := h.fr F1 (by simp)
    clear hW h
    refine (take_no g S ⟨#[111, 102]⟩ u _ S1 HOF.out).mono ?_
    rintro e w3 ⟨rfl, rfl⟩
    have L0 : LoopI w g S n [] [] u none 0 none 0 [] w1 := ⟨F1.mono, by omega, S1, b6, b7, World.ownsRow_nil _ _ _ _, World.ownsRow_nil _ _ _ _, by simp [TrsD], fun b hb => by simp [Value.ownBlock] at hb, by simp, by simp; omega⟩
    have R6 := L0.2.2.2.1.cell
    have Z6 := L0.2.2.2.1.free
    have R7 := L0.2.2.2.2.1.cell
    have hsp : w.heap.size + 1 < w1.heap.size := blk_lt L0.2.2.2.2.1
    clear b6 b7
    go_wp2_with fail
    refine bodyPost_ret (v := .tuple #[.agg #[.int .i64 (n : Int), .slice none 0 0, .slice none 0 0], .bool false]) (by simp [results, Tryz.results149, go_sem, R6]) rfl ?_
    rw [HE.out]
    exact L0.no hg
end Go.Proofs.YtpdhckbiioobhaaGreatDoor

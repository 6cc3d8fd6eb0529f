/- Some texts of this claim, joined. -/
import Derived.Test.YtoblhcieidljjaaGreatDoorProg
import Derived.Test.YtoblhcieidljjaaGreatDoorSrdWJ
import Derived.Test.YtoblhcieidljjaaGreatDoorJG19
import Derived.Test.YtoblhcieidljjaaGreatDoorRnmPJ
import Derived.Test.YtoblhcieidljjaaGreatDoorRrnWJ
import Derived.Test.YtoblhcieidljjaaGreatDoorJG22
import Derived.OwnWalk
import Derived.Test.YtoblhcieidljjaaGreatDoorJG23

set_option linter.unusedSimpArgs false
set_option linter.unusedVariables false
/- Walks: configuration.Rename. -/
namespace Go.Proofs.YtoblhcieidljjaaGreatDoor
open Go.RowKit

/-- What Rename hands back. -/
def RnE (r : List Mb × Int) (w : World) (e : Ending) (w' : World) : Prop :=
  ∃ v, e = .returned (.tuple #[v, .int .i64 r.2]) ∧ CfD w' (Dn w.heap.size w') v r.1 ∧ Fr none w w'
theorem values_any (Av : Option Addr) (nv cv : Nat) (w : World) : Calls Tryz.prog 95 #[.slice Av nv cv] w fun e w' => e = .returned (.func (.func 144) #[] #[.pointer (some ⟨w.heap.size, 0, none⟩)]) ∧ w' = w.alloc (.cells #[.slice Av nv cv] 22) := by
  go_enter Tryz.func95, Tryz.ntmps95
  go_wp2_with fail
  go_ret
  exact ⟨rfl, rfl⟩
/-- The function value that Rename makes. -/
theorem rnm1_any (p : List Int) (q : Nat) (Ap : Option Addr) (cp : Nat) (x : Int) (W : World) (hq : W.cell? ⟨q, 0, none⟩ = some (.slice Ap p.length cp)) (hp : SlI W none (.slice Ap p.length cp) p) (hx : 0 ≤ x ∧ x < (p.length : Int)) :
    Calls Tryz.prog 97 #[.int .i64 x, .pointer (some ⟨q, 0, none⟩)] W fun e W' => e = .returned (.int .i64 (pf p x)) ∧ Fr none W W' := by
  obtain ⟨k, rfl⟩ := Int.eq_ofNat_of_zero_le hx.1
  have hk : k < p.length := by omega
  obtain ⟨b, off, rfl, hb, hc⟩ := hp.1.cellI k hk
  have HPF := Lib.hid (pf_get hk)
  go_enter Tryz.func97, Tryz.ntmps97
  go_wp2_with fail
  go_ret
  exact ⟨by rw [HPF.out]; rfl, Fr.refl _ _⟩
/-- A cell of a row of one's own is set, of whatever size. -/
theorem own_setS {w : World} {base : Nat} {e : TypeId} {size b n c : Nat} {xs : List Value} (h : w.ownsRow base e size (.slice (some ⟨b, 0, none⟩) n c) n xs) (i : Nat) (u : Value) :
    (w.setCell ⟨b, i, none⟩ u).ownsRow base e size (.slice (some ⟨b, 0, none⟩) n c) n (xs.set i u) := by
  obtain ⟨hl, h2⟩ := h
  refine ⟨by simpa using hl, .inr ?_⟩
  rcases h2 with ⟨h, _⟩ | ⟨g, cap, cur, e1, hg, hh, hnc, hm, hs, ht⟩
  · cases h
  · injection e1 with e1 _ e3
    injection e1 with e1
    injection e1 with e1
    subst e1 e3
    refine ⟨b, c, _, rfl, hg, blk_set hh i u, hnc, hm, by simpa using hs, ?_⟩
    rw [Array.toList_setIfInBounds, List.take_set, ht]
theorem own_free {w : World} {base : Nat} {e : TypeId} {size b n c : Nat} {xs : List Value} (h : w.ownsRow base e size (.slice (some ⟨b, 0, none⟩) n c) n xs) : (∀ i, w.frozen? ⟨b, i, none⟩ = false) ∧ (∀ i u, xs[i]? = some u → w.cell? ⟨b, i, none⟩ = some u) ∧ b < w.heap.size := by
  rcases own_parts h with ⟨h0, _⟩ | ⟨g, cap, cur, e1, hg, hh, hnc, hm, hs, ht⟩
  · cases h0
  · injection e1 with e1 _ e3
    injection e1 with e1
    injection e1 with e1
    subst e1
    refine ⟨fun i => blk_free hh i, fun i u hu => ?_, blk_lt hh⟩
    rw [blk_cell hh i, ← Array.getElem?_toList]
    rw [← ht, List.getElem?_take] at hu
    split at hu
    · exact hu
    · cases hu
theorem MbsD.set {w : World} {D : Nat → Prop} : ∀ {l : List Mb} {cells : List Value}, MbsD w D cells l → ∀ (k : Nat), k < l.length → ∀ (d : Bool) (x y z : Value) (T : Tr), TrD w D (.agg #[x, y, z]) T →
    MbsD w D ((((cells.set (k * 4) (.bool d)).set (k * 4 + 1) x).set (k * 4 + 2) y).set (k * 4 + 3) z) (l.set k ⟨d, T⟩)
  | [], cells, h, k, hk, _, _, _, _, _, _ => absurd hk (by simp)
  | m :: r, cells, h, k, hk, d, x, y, z, T, hT => by
    obtain ⟨a, b, c, rest, rfl, h1, h2⟩ := h
    cases k with
    | zero =>
      simp only [Nat.zero_mul, Nat.zero_add, List.set_cons_zero, List.set_cons_succ]
      exact ⟨x, y, z, rest, rfl, hT, h2⟩
    | succ k =>
      have := MbsD.set h2 k (by simpa using hk) d x y z T hT
      rw [show (k + 1) * 4 = k * 4 + 1 + 1 + 1 + 1 from by omega]
      simp only [List.set_cons_succ]
      exact ⟨a, b, c, _, rfl, h1, this⟩
/-- Rows of nothing. -/
theorem madeMb (w : World) (D : Nat → Prop) (n : Nat) : MbsD w D (madeCells #[.bool false, .int .i64 0, .slice none 0 0, .slice none 0 0] (n * 4)).toList (List.replicate n noMb) := by
  have key : ∀ n, (madeCells #[.bool false, .int .i64 0, .slice none 0 0, .slice none 0 0] ((n + 1) * 4)).toList = .bool false :: .int .i64 0 :: .slice none 0 0 :: .slice none 0 0 :: (madeCells #[.bool false, .int .i64 0, .slice none 0 0, .slice none 0 0] (n * 4)).toList := by
    intro n
    apply List.ext_getElem?
    intro i
    unfold madeCells
    simp only [Array.toList_map, Array.toList_range, List.size_toArray, List.length_cons, List.length_nil, Nat.zero_add, Nat.reduceAdd]
    match i with
    | 0 => simp
    | 1 => rw [List.getElem?_map, List.getElem?_range (by omega)]; rfl
    | 2 => rw [List.getElem?_map, List.getElem?_range (by omega)]; rfl
    | 3 => rw [List.getElem?_map, List.getElem?_range (by omega)]; rfl
    | i + 4 =>
      simp only [List.getElem?_cons_succ, List.getElem?_map, Nat.add_mod_right]
      by_cases h : i < n * 4
      · rw [List.getElem?_range (by omega), List.getElem?_range h]
        simp
      · rw [List.getElem?_eq_none (by simp; omega), List.getElem?_eq_none (by simp; omega)]
  induction n with
  | zero => simp [madeCells, MbsD]
  | succ n ih =>
    rw [key, List.replicate_succ]
    exact ⟨_, _, _, _, rfl, TrD.mk_ (by constructor <;> omega) (SlD.nil _ _ _) (by simp) (SlD.nil _ _ _) (by simp) (by simp) (by simp [TrsD]), ih⟩
theorem fr_row4 (w : World) (b o : Nat) (x0 x1 x2 x3 : Value) : Fr (some b) w ((((w.setCell ⟨b, o, none⟩ x0).setCell ⟨b, o + 1, none⟩ x1).setCell ⟨b, o + 2, none⟩ x2).setCell ⟨b, o + 3, none⟩ x3) :=
  Fr.setRow (p := ⟨b, o + 3, none⟩) (Fr.setRow (p := ⟨b, o + 2, none⟩) (Fr.setRow (p := ⟨b, o + 1, none⟩) (Fr.set1 w ⟨b, o, none⟩ x0) rfl x1) rfl x2) rfl x3
/-- make, whole: n elements of nothing. -/
theorem mk_row {P : Program} {t e : TypeId} {size bytes : Nat} (z : Value) (h1 : P.underlying t = some (.slice e)) (h2 : (P.info? e).map (fun i => (i.zero, i.size, i.bytes)) = some (some z, size, bytes)) {w : World} {ops : Array Oper} {rest : List Oper} {o : Oper} {a : Act} {Q : Exit → Act → World → Prop} (hg : o.guard = none) (l c : Operand) (hop : o.op = Op.makeSlice t l c)
    (n : Nat) (hl : a.eval l = .int .i64 (n : Int)) (hc : a.eval c = .int .i64 (n : Int)) (hn : bytes * n ≤ 281474976710656) (hm : n ≤ maxLen)
    (hK : ∀ w', w'.ownsRow w.heap.size e size (.slice (some ⟨w.heap.size, 0, none⟩) n n) n (madeCells z.cells (n * size)).toList → Fr none w w' → wpList P ops Q rest (a.put o.dst (.slice (some ⟨w.heap.size, 0, none⟩) n n)) w') :
    wpList P ops Q (o :: rest) a w := by
  cases hi : P.info? e with
  | none => rw [hi] at h2; cases h2
  | some i =>
    rw [hi] at h2
    simp only [Option.map_some, Option.some.injEq, Prod.mk.injEq] at h2
    exact wpList_make_full w hg l c t hop w.heap.size e i z size h1 hi h2.1 h2.2.1 .i64 .i64 n n n hl hc rfl rfl (by rw [h2.2.2]; exact hn) hm (Nat.le_refl _) hK
theorem zinfoMb : (Tryz.prog.info? 33).map (fun i => (i.zero, i.size, i.bytes)) = some (some (.agg #[.bool false, .int .i64 0, .slice none 0 0, .slice none 0 0]), 4, 64) := by kernel_rfl
def SB (w : World) (b : Nat) (x : Value) : Prop := w.heap[b]? = some (.cells #[x] 22 (0, 0))
theorem SB.fr {w w' : World} {b : Nat} {x : Value} {r : Option Nat} (h : SB w b x) (f : Fr r w w') (hr : r ≠ some b) : SB w' b x := blk_fr h f hr
theorem SB.cell {w : World} {b : Nat} {x : Value} (h : SB w b x) : ∀ i, w.cell? ⟨b, i, none⟩ = #[x][i]? := blk_cell h
theorem renC_err {p : List Int} {L : List Mb} (h : validC L ≠ 0) : renC p L = ([], validC L) := by unfold renC; rw [if_pos h]
theorem renC_bad {p : List Int} {L : List Mb} (h : validC L = 0) (h2 : ¬ Ord p L.length) : renC p L = ([], 1) := by
  unfold renC
  rw [if_neg (by rw [h]; simp), if_neg (fun e => h2 ((ordB_iff _ _).1 e))]
theorem renC_ok {p : List Int} {L : List Mb} (h : validC L = 0) (h2 : Ord p L.length) : renC p L = (renS p L L.length, 0) := by
  unfold renC
  rw [if_neg (by rw [h]; simp), if_pos ((ordB_iff _ _).2 h2)]

set_option maxRecDepth 100000 in
set_option maxHeartbeats 8000000 in
theorem crename_any (p : List Int) (L : List Mb) (pv v : Value) (w : World) (hp : SlI w none pv p) (h : CfD w (Dm w none) v L) (hsz : ∀ m ∈ L, m.tr.size ≤ 1073741000) (hL : L.length ≤ 1000) (hpl : p.length ≤ 1000000) :
    Calls Tryz.prog 42 #[v, pv] w (RnE (renC p L) w) := by
  obtain ⟨A, c, rfl, q1, q2, hcell⟩ := h.open_
  obtain ⟨Ap, cp, rfl, p1, p2, _⟩ := hp.open_
  obtain ⟨r, hr⟩ : ∃ r, r = renC p L := ⟨_, rfl⟩
  rw [← hr]
  have HR := Lib.hid hr
  have HC := Lib.hid hcell
  unfold maxLen at q2
  clear hcell hr
  go_enter Tryz.func42, Tryz.ntmps42
  go_upto_region 1 with (fail)
  generalize hW : ((w.alloc _).alloc _).alloc _ = w1
  have hz1 : w1.heap.size = w.heap.size + 3 := by rw [← hW]; simp
  have F1 : Fr none w w1 := hW ▸ (((Fr.refl _ w).alloc _).alloc _).alloc _
  have b2 : CB w1 w.heap.size (.slice A L.length c) := by
    rw [← hW]; exact ((Below.heap_alloc _ _ _ (by simp <;> omega)).trans (Below.heap_alloc _ _ _ (by simp <;> omega))).trans (blk_new _ _)
  have b3 : SB w1 (w.heap.size + 1) (.slice Ap p.length cp) := by
    rw [← hW]; exact (Below.heap_alloc _ _ _ (by simp)).trans (blk_new_at (by simp) _)
  have b4 : CB w1 (w.heap.size + 2) (.slice none 0 0) := by
    rw [← hW]; exact blk_new_at (by simp) _
  clear hW
  obtain ⟨B4, hB4⟩ : ∃ B4, B4 = w.heap.size + 1 + 1 := ⟨_, rfl⟩
  rw [← hB4]
  rw [show w.heap.size + 2 = B4 by omega] at b4
  have hBa : B4 ≤ w.heap.size + 2 := by omega
  have hBb : w.heap.size + 2 ≤ B4 := by omega
  clear hB4
  have R2 := b2.cell
  have l2 := blk_lt b2
  have h1 : CfD w1 (Dm w1 none) (.agg #[.slice A L.length c]) L := h.keep (fr_dm F1)
  obtain ⟨E, hE⟩ : ∃ E, E = validC L := ⟨_, rfl⟩
  have HE := Lib.hid hE
  have hval := cvalid_any L _ w1 h1 hsz hL
  rw [← hE] at hval
  clear h1
  by_cases hE0 : E = 0
  · have hd0 : (E == 0) = true := by rw [beq_iff_eq]; exact hE0
    have HV : Hid (validC L = 0) := by unfold Hid; rw [← hE, hE0]
    clear hE
    go_upto_region 4 with (go_at_call 44; refine hval.mono ?_; rintro e w2 ⟨rfl, F2⟩)
    have hz2 := F2.size
    have F02 := F1.pure F2
    have b22 := b2.fr F2 (by simp)
    have b32 := b3.fr F2 (by simp)
    have b42 := b4.fr F2 (by simp)
    have R3 := b32.cell
    have l3 := blk_lt b32
    have hp2 := hp.fr F02
    clear b2 b3 b4 R2 l2 hval hd0 F1 F2
    go_upto_region 5 with (first
      | (go_at_call 95; refine (values_any _ _ _ _).mono ?_; rintro e w3 ⟨rfl, hw3⟩; have F3 : Fr none w2 w3 := hw3 ▸ (Fr.refl none w2).alloc _; have c3 : w3.cell? ⟨w2.heap.size, 0, none⟩ = some (.slice Ap p.length cp) := (by rw [hw3]; exact cell_new _ _ _ _); have hp3 := hp2.fr F3; clear hw3)
      | (go_at_call 94; refine (sorted_any w2.heap.size p _ hpl w3 c3 hp3).mono ?_; rintro e w4 ⟨vz, z, rfl, hzp, hza, hzs, F4⟩; obtain ⟨Az, cz, rfl, z1, z2⟩ := hzs.formI))
    have hzl : z.length = p.length := hzp.length_eq
    have HO : Hid (((∀ k (hk : k < z.length), z[k] = (k : Int)) ∧ p.length = L.length) ↔ Ord p L.length) := ord_sorted hzp hza
    have F24 := F3.pure F4
    have F04 := F02.pure F24
    have b24 := b22.fr F24 (by simp)
    have b34 := b32.fr F24 (by simp)
    have b44 := b42.fr F24 (by simp)
    have hz4 := F24.size
    clear hp2 hp3 c3 F3 F4 F24 F02 b22 b32 b42 R3 l3 hzp hza
    go_wp2_with fail
    go_loopw [8, 9, 24] (fun _ _ s24 wr => ∃ j : Nat, j ≤ z.length ∧ s24 = .int .i64 (j : Int) ∧ Fr none w4 wr ∧ Hid (∀ i (hi : i < z.length), i < j → z[i] = (i : Int))) (fun _ _ s24 _ => z.length - (intOf s24).toNat)
    case atStart => exact ⟨0, Nat.zero_le _, rfl, Fr.refl _ _, Lib.hid (fun i hi h => by omega)⟩
    case round =>
      obtain ⟨j, hj, rfl, Fl, HQ⟩ := hrel
      obtain ⟨wz, hwz⟩ : ∃ wz : World, wz = wr := ⟨_, rfl⟩
      subst hwz
      have b2z := b24.fr Fl (by simp)
      have b3z := b34.fr Fl (by simp)
      have b4z := b44.fr Fl (by simp)
      have F0z := F04.pure Fl
      have hzz := Fl.size
      have F02z : Hid (w.heap.size + 3 ≤ wz.heap.size) := by unfold Hid; omega
      by_cases hlt : j < z.length
      · obtain ⟨zb, zo, rfl, hzb, hzc⟩ := hzs.cellI j hlt
        have hzc := Fl.keep hzc (by simp)
        by_cases hx : z[j] = (j : Int)
        · have hq : (z[j] == (j : Int)) = true := by rw [beq_iff_eq]; exact hx
          have HQ' : Hid (∀ i (hi : i < z.length), i < j + 1 → z[i] = (i : Int)) := fun i hi hij => by
            rcases Nat.lt_or_ge i j with hh | hh
            · exact HQ.out i hi hh
            · obtain rfl : i = j := by omega
              exact hx
          clear hx HQ hzs
          generalize z[j] = x at *
          go_wp2_with fail
          go_roundw
          case rel => exact ⟨j + 1, by omega, by go_num, Fl, HQ'⟩
          case measure => simp [intOf]; omega
        · have hq : (z[j] == (j : Int)) = false := by rw [beq_eq_false_iff_ne]; exact hx
          have HF : Hid (r = ([], 1)) := by unfold Hid; rw [HR.out, renC_bad HV.out (fun ho => hx ((HO.out.2 ho).1 j hlt))]
          have R4 := b4z.cell
          have Z4 := b4z.free
          have l4 := blk_lt b4z
          clear hx HQ hzs
          generalize z[j] = x at *
          go_wp2_with fail
          generalize hW5 : World.setCell _ _ _ = w5
          have G : Fr (some B4) _ w5 := hW5 ▸ Fr.set1 _ ⟨B4, 0, none⟩ (.slice none 0 0)
          have m5 : CB w5 B4 (.slice none 0 0) := by rw [← hW5]; exact b4z.set0 _
          clear hW5
          have R6 := m5.cell
          refine bodyPost_ret (v := .tuple #[.agg #[.slice none 0 0], .int .i64 1]) (by simp [results, Tryz.results42, go_sem, R6]) rfl ?_
          exact ⟨.agg #[.slice none 0 0], by rw [HF.out], by rw [HF.out]; exact ⟨none, 0, [], rfl, SlD.nil _ _ _, rfl⟩, F0z.own G (by simp; omega)⟩
      · obtain rfl : j = z.length := by omega
        have R2 := b2z.cell
        have R3 := b3z.cell
        have R4 := b4z.cell
        have Z4 := b4z.free
        have l2 := blk_lt b2z
        have l3 := blk_lt b3z
        have l4 := blk_lt b4z
        by_cases hn : p.length = L.length
        · have hq : ((p.length : Int) == (L.length : Int)) = true := by rw [beq_iff_eq]; omega
          have ho : Ord p L.length := HO.out.1 ⟨fun k hk => HQ.out k hk hk, hn⟩
          have HF : Hid (r = (renS p L L.length, 0)) := by unfold Hid; rw [HR.out, renC_ok HV.out ho]
          obtain ⟨hL10, hin⟩ := validC_in HV.out
          have hpz := hp.fr F0z
          have HCz : Hid _ := HC
          have HORD := Lib.hid ho
          have HIN := Lib.hid hin
          have HN := Lib.hid hn
          clear HQ hzs ho hin HO hn
          go_upto_region 14 with (at_make; (refine mk_row _ Tryz.underlying25 zinfoMb rfl _ _ rfl p.length rfl rfl (by omega) (by unfold maxLen; omega) ?_); intro w5 own5 F5)
          generalize hW : w5.alloc _ = w6
          have F6 : Fr none w5 w6 := hW ▸ (Fr.refl none w5).alloc _
          have b10 : CB w6 w5.heap.size (.slice (some ⟨wz.heap.size, 0, none⟩) p.length p.length) := by rw [← hW]; exact blk_new _ _
          have own6 := own_fr own5 F6 (by simp)
          have hz5 := F5.size
          have hz6 := F6.size
          have hms0 : MbsD w6 (Dx wz.heap.size w6 (.slice (some ⟨wz.heap.size, 0, none⟩) p.length p.length)) (madeCells #[.bool false, .int .i64 0, .slice none 0 0, .slice none 0 0] (p.length * 4)).toList (renS p L 0) := by
            rw [HN.out]; exact madeMb _ _ _
          have F56 := F5.pure F6
          have F06 := F0z.pure F56
          have b26 := b2z.fr F56 (by simp)
          have b36 := b3z.fr F56 (by simp)
          have b46 := b4z.fr F56 (by simp)
          have hgz : w.heap.size + 3 ≤ wz.heap.size := by have := F02z.out; omega
          have hg6 := (own_free own6).2.2
          obtain ⟨B10, hB10⟩ : ∃ B10, B10 = w5.heap.size := ⟨_, rfl⟩
          rw [← hB10] at b10 ⊢
          have hgB : wz.heap.size < B10 := by have := (own_free own5).2.2; omega
          obtain ⟨g, hg⟩ : ∃ g, g = wz.heap.size := ⟨_, rfl⟩
          rw [← hg] at b10 own6 hms0 hgz hg6 hgB ⊢
          have R6 := b26.cell
          have l6 := blk_lt b26
          have hp6 := hp.fr F06
          clear hW own5 F5 F6 F56 hB10 hg b2z b3z b4z R2 R3 R4 Z4 l2 l3 l4 hpz F0z hq
          go_wp2_with fail
          go_loopw [11, 12, 48] (fun _ _ s48 wr => ∃ (j : Nat) (cells : List Value), j ≤ L.length ∧ s48 = .int .i64 (j : Int) ∧ Fr (some g) w6 wr ∧ wr.ownsRow g 33 4 (.slice (some ⟨g, 0, none⟩) p.length p.length) p.length cells ∧ MbsD wr (Dx g wr (.slice (some ⟨g, 0, none⟩) p.length p.length)) cells (renS p L j)) (fun _ _ s48 _ => L.length - (intOf s48).toNat)
          case atStart => exact ⟨0, _, Nat.zero_le _, rfl, Fr.refl _ _, own6, hms0⟩
          case round =>
            clear own6 hms0 R6 l6
            obtain ⟨j, cells, hj, rfl, Fl, own, hms⟩ := hrel
            obtain ⟨wy, hwy⟩ : ∃ wy : World, wy = wr := ⟨_, rfl⟩
            subst hwy
            have hzy := Fl.size
            have F0y : Fr none w wy := F06.own Fl (fun b hb => by injection hb with hb; omega)
            have b3y := b36.fr Fl (by simp; omega)
            have b4y := b46.fr Fl (by simp; omega)
            have b10y := b10.fr Fl (by simp; omega)
            by_cases hlt : j < L.length
            · obtain ⟨b, off, th, C1, n1, d1, C2, n2, d2, rfl, hb, g0, g1, g2, g3, ht⟩ := HC.out j hlt
              have g0 := F0y.keep g0 (by simp)
              have g1 := F0y.keep g1 (by simp)
              have g2 := F0y.keep g2 (by simp)
              have g3 := F0y.keep g3 (by simp)
              have ht : TrR wy none (.agg #[.int .i64 th, .slice C1 n1 d1, .slice C2 n2 d2]) L[j].tr := TrD.keep (fr_dm F0y) _ _ ht
              have hpj : j < p.length := by rw [HN.out]; exact hlt
              obtain ⟨pb, po, rfl, hpb, hpc0⟩ := hp.1.cellI j hpj
              have hpc := F0y.keep hpc0 (by simp)
              have hbd := HORD.out.bd _ (List.getElem_mem hpj)
              have HPF : pf p (j : Int) = p[j] := pf_get hpj
              obtain ⟨i, hi⟩ : ∃ i : Nat, p[j] = (i : Int) := ⟨p[j].toNat, by omega⟩
              rw [hi] at hpc HPF hbd
              have HRS : Hid (renS p L (j + 1) = (renS p L j).set i ⟨L[j].dec, mapT (pf p) L[j].tr⟩) := by
                unfold Hid; simp only [renS]; rw [HPF, Int.toNat_natCast]; simp [mapMb, hlt]
              have HAN : Hid (allN (fun x => 0 ≤ x ∧ x < (p.length : Int)) L[j].tr) := by
                unfold Hid; rw [HN.out]; exact allN_of_in _ (HIN.out _ (List.getElem_mem hlt))
              have hil : i < L.length := by omega
              have hip : i < p.length := by rw [HN.out]; exact hil
              have hir : i < (renS p L j).length := by rw [renS_len]; exact hil
              clear HPF hi hbd hpc0
              generalize L[j] = m at *
              go_upto_region 17 with (fail)
              generalize hW : wy.alloc _ = wa
              have Fa : Fr none wy wa := hW ▸ (Fr.refl none wy).alloc _
              have m12 : MB wa wy.heap.size (.bool m.dec) (.int .i64 th) (.slice C1 n1 d1) (.slice C2 n2 d2) := by rw [← hW]; exact blk_new _ _
              have hza : wa.heap.size = wy.heap.size + 1 := by rw [← hW]; simp
              clear hW g0 g1 g2 g3
              have b3a := b3y.fr Fa (by simp)
              have b10a := b10y.fr Fa (by simp)
              have hpa := Fa.keep hpc (by simp)
              have F0a := F0y.pure Fa
              have hta := (ht.fr Fa)
              have hpI := hp.fr F0a
              have l10 := blk_lt b10a
              have l3 := blk_lt b3a
              refine wp_region_held_drew (S := fun W => (∀ k, W.cell? ⟨B10, k, none⟩ = (#[.slice (some ⟨g, 0, none⟩) p.length p.length] : Array Value)[k]?) ∧ (∀ k, W.cell? ⟨w.heap.size + 1, k, none⟩ = (#[.slice (some ⟨pb, po, none⟩) p.length cp] : Array Value)[k]?) ∧ W.cell? ⟨pb, po + j, none⟩ = some (.int .i64 (i : Int)) ∧ (∀ k, W.cell? ⟨wy.heap.size, k, none⟩ = (#[.bool m.dec, .int .i64 th, .slice C1 n1 d1, .slice C2 n2 d2] : Array Value)[k]?) ∧ Fr (some g) wa W) (by kernel_rfl) ⟨b10a.cell, b3a.cell, hpa, m12.cell, (Fr.refl _ _).drew⟩ (fun hH0 => ?_)
              refine wpAnyH_take (i := 0) (v := ?_) rfl (by kernel_rfl) (by kernel_rfl) (by kernel_rfl) (fun _ _ _ h => h) (Or.inl ⟨by rfl, ?_⟩) (by assumption) ?_
              rotate_left
              · (intro W hW; (try dsimp only at hW); go_simp; try with_reducible rfl)
              try simp only [Act.put, List.setIfInBounds_toArray, List.set_cons_zero, List.set_cons_succ, List.getElem_toArray, List.getElem_cons_zero, List.getElem_cons_succ]
              refine wpAnyH_take (i := 1) (v := ?_) rfl (by kernel_rfl) (by kernel_rfl) (by kernel_rfl) (fun _ _ _ h => h) (Or.inl ⟨by rfl, ?_⟩) (by assumption) ?_
              rotate_left
              · (intro W hW; (try dsimp only at hW); go_simp; try with_reducible rfl)
              try simp only [Act.put, List.setIfInBounds_toArray, List.set_cons_zero, List.set_cons_succ, List.getElem_toArray, List.getElem_cons_zero, List.getElem_cons_succ]
              refine wpAnyH_take (i := 2) (v := ?_) rfl (by kernel_rfl) (by kernel_rfl) (by kernel_rfl) (fun _ _ _ h => h) (Or.inl ⟨by rfl, ?_⟩) (by assumption) ?_
              rotate_left
              · (intro W hW; (try dsimp only at hW); go_simp; try with_reducible rfl)
              try simp only [Act.put, List.setIfInBounds_toArray, List.set_cons_zero, List.set_cons_succ, List.getElem_toArray, List.getElem_cons_zero, List.getElem_cons_succ]
              refine wpAnyH_take (i := 3) (v := ?_) rfl (by kernel_rfl) (by kernel_rfl) (by kernel_rfl) (fun _ _ _ h => h) (Or.inl ⟨by rfl, ?_⟩) (by assumption) ?_
              rotate_left
              · (intro W hW; (try dsimp only at hW); go_simp; try with_reducible rfl)
              try simp only [Act.put, List.setIfInBounds_toArray, List.set_cons_zero, List.set_cons_succ, List.getElem_toArray, List.getElem_cons_zero, List.getElem_cons_succ]
              refine wpAnyH_take (i := 4) (v := ?_) rfl (by kernel_rfl) (by kernel_rfl) (by kernel_rfl) (fun _ _ _ h => h) (Or.inl ⟨by rfl, ?_⟩) (by assumption) ?_
              rotate_left
              · (intro W hW; (try dsimp only at hW); go_simp; try with_reducible rfl)
              try simp only [Act.put, List.setIfInBounds_toArray, List.set_cons_zero, List.set_cons_succ, List.getElem_toArray, List.getElem_cons_zero, List.getElem_cons_succ]
              refine wpAnyH_take (i := 5) (v := ?_) rfl (by kernel_rfl) (by kernel_rfl) (by kernel_rfl) (fun _ _ _ h => h) (Or.inl ⟨by rfl, ?_⟩) (by assumption) ?_
              rotate_left
              · (intro W hW; (try dsimp only at hW); go_simp; try with_reducible rfl)
              try simp only [Act.put, List.setIfInBounds_toArray, List.set_cons_zero, List.set_cons_succ, List.getElem_toArray, List.getElem_cons_zero, List.getElem_cons_succ]
              refine wpAnyH_take (i := 6) (v := ?_) rfl (by kernel_rfl) (by kernel_rfl) (by kernel_rfl) (fun _ _ _ h => h) (Or.inl ⟨by rfl, ?_⟩) (by assumption) ?_
              rotate_left
              · (intro W hW; (try dsimp only at hW); go_simp; try with_reducible rfl)
              try simp only [Act.put, List.setIfInBounds_toArray, List.set_cons_zero, List.set_cons_succ, List.getElem_toArray, List.getElem_cons_zero, List.getElem_cons_succ]
              refine wpAnyH_take (i := 7) (v := ?_) rfl (by kernel_rfl) (by kernel_rfl) (by kernel_rfl) (fun _ _ _ h => h) (Or.inl ⟨by rfl, ?_⟩) (by assumption) ?_
              rotate_left
              · (intro W hW; (try dsimp only at hW); go_simp; try with_reducible rfl)
              try simp only [Act.put, List.setIfInBounds_toArray, List.set_cons_zero, List.set_cons_succ, List.getElem_toArray, List.getElem_cons_zero, List.getElem_cons_succ]
              refine wpAnyH_take (i := 8) (v := ?_) rfl (by kernel_rfl) (by kernel_rfl) (by kernel_rfl) (fun _ _ _ h => h) (Or.inl ⟨by rfl, ?_⟩) (by assumption) ?_
              rotate_left
              · (intro W hW; (try dsimp only at hW); go_simp; try with_reducible rfl)
              try simp only [Act.put, List.setIfInBounds_toArray, List.set_cons_zero, List.set_cons_succ, List.getElem_toArray, List.getElem_cons_zero, List.getElem_cons_succ]
              refine wpAnyH_take (i := 9) (v := ?_) rfl (by kernel_rfl) (by kernel_rfl) (by kernel_rfl) (fun _ _ _ h => h) (Or.inl ⟨by rfl, ?_⟩) (by assumption) ?_
              rotate_left
              · (intro W hW; (try dsimp only at hW); go_simp; try with_reducible rfl)
              try simp only [Act.put, List.setIfInBounds_toArray, List.set_cons_zero, List.set_cons_succ, List.getElem_toArray, List.getElem_cons_zero, List.getElem_cons_succ]
              refine wpAnyH_take (i := 10) (v := ?_) rfl (by kernel_rfl) (by kernel_rfl) (by kernel_rfl) (fun _ _ _ h => h) (Or.inl ⟨by rfl, ?_⟩) (by assumption) ?_
              rotate_left
              · (intro W hW; (try dsimp only at hW); go_simp; try with_reducible rfl)
              try simp only [Act.put, List.setIfInBounds_toArray, List.set_cons_zero, List.set_cons_succ, List.getElem_toArray, List.getElem_cons_zero, List.getElem_cons_succ]
              refine wpAnyH_ready (rs := [11]) (by kernel_rfl) (by simp) ?_
              refine AllReadyH.cons rfl (fun K hK => ?_) AllReadyH.nil
              simp only [List.getElem_toArray, List.getElem_cons_zero, List.getElem_cons_succ]
              go_simp
              go_at_call 96
              refine (cpyG_any (pf p) (fun x => 0 ≤ x ∧ x < (p.length : Int)) 97 (w.heap.size + 1) (fun _ _ => by kernel_rfl) wa.drew (fun x hx _ => pf_wi hp.2 x hx) (Lib.hid (fun x W hx _ FW => rnm1_any p (w.heap.size + 1) _ cp x W ((b3a.fr ((Fr.refl none wa).drew.pure FW) (by simp)).cell 0) (hpI.fr ((Fr.refl none wa).drew.pure FW)) hx)) m.tr.dep m.tr _ _ none (Nat.le_refl _) (by exact hta.fr (Fr.refl none wa).drew) HAN.out (Fr.refl _ _)).mono ?_
              rintro e w7 ⟨v7, rfl, hT7, F7⟩
              obtain ⟨th', a1, k1, e1, a2, k2, e2, rfl⟩ := hT7.shape
              have F7 := ((Fr.refl none wa).drew).pure F7
              refine hK.out _ _ ⟨(b10a.fr F7 (by simp)).cell, (b3a.fr F7 (by simp)).cell, F7.keep hpa (by simp), (m12.fr F7 (by simp)).cell, F7.mono⟩ (fun hH1 => ?_)
              clear hK K hH0
              have Fy7 := Fa.pure F7
              have own7 := own_fr own Fy7 (by simp)
              obtain ⟨Z7, hc7, lg7⟩ := own_free own7
              obtain ⟨x1, x2, x3, y0, y1, y2, y3, _⟩ := hms.get i hir
              have y0 := hc7 _ _ y0
              have y1 := hc7 _ _ y1
              have y2 := hc7 _ _ y2
              have y3 := hc7 _ _ y3
              clear hc7
              try simp only [Act.put, List.setIfInBounds_toArray, List.set_cons_zero, List.set_cons_succ, List.getElem_toArray, List.getElem_cons_zero, List.getElem_cons_succ]
              refine wpAnyH_take (i := 12) (v := ?_) rfl (by kernel_rfl) (by kernel_rfl) (by kernel_rfl) (fun _ _ _ h => h) (Or.inl ⟨by rfl, ?_⟩) (by assumption) ?_
              rotate_left
              · (intro W hW; (try dsimp only at hW); go_simp; try with_reducible rfl)
              try simp only [Act.put, List.setIfInBounds_toArray, List.set_cons_zero, List.set_cons_succ, List.getElem_toArray, List.getElem_cons_zero, List.getElem_cons_succ]
              refine wpAnyH_take (i := 13) (v := ?_) rfl (by kernel_rfl) (by kernel_rfl) (by kernel_rfl) (fun _ _ _ h => h) (Or.inl ⟨by rfl, ?_⟩) (by assumption) ?_
              rotate_left
              · (intro W hW; (try dsimp only at hW); go_simp; try with_reducible rfl)
              try simp only [Act.put, List.setIfInBounds_toArray, List.set_cons_zero, List.set_cons_succ, List.getElem_toArray, List.getElem_cons_zero, List.getElem_cons_succ]
              refine wpAnyH_ready (rs := [14]) (by kernel_rfl) (by simp) ?_
              refine AllReadyH.cons rfl (fun K hK => ?_) AllReadyH.nil
              simp only [List.getElem_toArray, List.getElem_cons_zero, List.getElem_cons_succ]
              go_simp
              have FS := fr_row4 w7 g (i * 4) (.bool m.dec) (.int .i64 th') (.slice a1 k1 e1) (.slice a2 k2 e2)
              have own8 := own_setS (own_setS (own_setS (own_setS own7 (i * 4) (.bool m.dec)) (i * 4 + 1) (.int .i64 th')) (i * 4 + 2) (.slice a1 k1 e1)) (i * 4 + 3) (.slice a2 k2 e2)
              generalize hW : World.setCell (World.setCell (World.setCell (World.setCell _ _ _) _ _) _ _) _ _ = w8 at *
              have hz7 := F7.size
              have hdw : wa.drew.heap.size = wa.heap.size := rfl
              have lgy := (own_free own).2.2
              have hz8 := FS.size
              refine hK.out _ _ ⟨((b10a.fr F7 (by simp)).fr FS (by simp; omega)).cell, ((b3a.fr F7 (by simp)).fr FS (by simp; omega)).cell, FS.keep (F7.keep hpa (by simp)) (by have := hpb.1; simp; omega), ((m12.fr F7 (by simp)).fr FS (by simp; omega)).cell, (F7.mono).same FS⟩ (fun hH2 => ?_)
              clear hK K hH1
              try simp only [Act.put, List.setIfInBounds_toArray, List.set_cons_zero, List.set_cons_succ, List.getElem_toArray, List.getElem_cons_zero, List.getElem_cons_succ]
              refine wpAnyH_done (by kernel_rfl) ?_ _
              go_wp2_with fail
              go_roundw
              case rel =>
                refine ⟨j + 1, _, by omega, by go_num, (Fl.pure Fy7).same FS, own8, ?_⟩
                rw [HRS.out]
                refine MbsD.set (MbsD.keep (fun k hk => ⟨⟨hk.1, by have := hk.2.1; have := Fy7.size; omega, hk.2.2⟩, ?_⟩) _ _ hms) i hir m.dec _ _ _ _ (TrD.keep (fun k hk => ⟨⟨by have := hk.1; omega, by have := hk.2; omega, by have := hk.1; simp [Value.ownBlock]; omega⟩, ?_⟩) _ _ hT7)
                · rw [FS.block k (by have := hk.2.1; have := Fy7.size; omega) (by have := hk.2.2; simp [Value.ownBlock] at this; simpa using fun e => this e.symm), Fy7.block k hk.2.1 (by simp)]
                · rw [FS.block k (by have := hk.2; omega) (by have := hk.1; simp; omega)]
              case measure => simp [intOf]; omega
            · obtain rfl : j = L.length := by omega
              have R10 := b10y.cell
              have l10 := blk_lt b10y
              have R4 := b4y.cell
              have Z4 := b4y.free
              have l4 := blk_lt b4y
              go_wp2_with fail
              generalize hW5 : World.setCell _ _ _ = w8
              have G : Fr (some B4) wy w8 := hW5 ▸ Fr.set1 _ ⟨B4, 0, none⟩ _
              have m8 : CB w8 B4 (.slice (some ⟨g, 0, none⟩) p.length p.length) := by rw [← hW5]; exact b4y.set0 _
              clear hW5
              have R6 := m8.cell
              refine bodyPost_ret (v := .tuple #[.agg #[.slice (some ⟨g, 0, none⟩) p.length p.length], .int .i64 0]) (by simp [results, Tryz.results42, go_sem, R6]) rfl ?_
              have hzG := G.size
              refine ⟨.agg #[.slice (some ⟨g, 0, none⟩) p.length p.length], by rw [HF.out], ?_, F0y.own G (by simp; omega)⟩
              rw [HF.out]
              refine ⟨_, p.length, cells, by rw [renS_len, HN.out], ?_, MbsD.keep (fun k hk => ⟨⟨by have := hk.1; omega, by have := hk.2.1; omega⟩, G.block k hk.2.1 (by have := hk.1; simp; omega)⟩) _ _ hms⟩
              rw [renS_len, ← HN.out]
              exact (SlD.own_dn own).keep fun k hk => ⟨⟨by have := hk.1; omega, by have := hk.2; omega⟩, G.block k hk.2 (by have := hk.1; simp; omega)⟩
        · have hq : ((p.length : Int) == (L.length : Int)) = false := by rw [beq_eq_false_iff_ne]; omega
          have HF : Hid (r = ([], 1)) := by unfold Hid; rw [HR.out, renC_bad HV.out (fun ho => hn ho.len)]
          clear HQ hzs
          go_wp2_with fail
          generalize hW5 : World.setCell _ _ _ = w5
          have G : Fr (some B4) _ w5 := hW5 ▸ Fr.set1 _ ⟨B4, 0, none⟩ (.slice none 0 0)
          have m5 : CB w5 B4 (.slice none 0 0) := by rw [← hW5]; exact b4z.set0 _
          clear hW5
          have R6 := m5.cell
          refine bodyPost_ret (v := .tuple #[.agg #[.slice none 0 0], .int .i64 1]) (by simp [results, Tryz.results42, go_sem, R6]) rfl ?_
          exact ⟨.agg #[.slice none 0 0], by rw [HF.out], by rw [HF.out]; exact ⟨none, 0, [], rfl, SlD.nil _ _ _, rfl⟩, F0z.own G (by simp; omega)⟩
  · have hd0 : (E == 0) = false := by rw [beq_eq_false_iff_ne]; exact hE0
    have HF : Hid (r = ([], E)) := by unfold Hid; rw [HR.out, renC_err (by rw [← hE]; exact hE0), ← hE]
    clear hE
    go_wp2_with (go_at_call 44; refine hval.mono ?_; rintro e w2 ⟨rfl, F2⟩; have b42 := b4.fr F2 (by simp); have R4 := b42.cell; have Z4 := b42.free; have l4 := blk_lt b42)
    generalize hW5 : World.setCell _ _ _ = w5
    have G : Fr (some B4) _ w5 := hW5 ▸ Fr.set1 _ ⟨B4, 0, none⟩ (.slice none 0 0)
    have m5 : CB w5 B4 (.slice none 0 0) := by rw [← hW5]; exact b42.set0 _
    clear hW5
    have R6 := m5.cell
    refine bodyPost_ret (v := .tuple #[.agg #[.slice none 0 0], .int .i64 E]) (by simp [results, Tryz.results42, go_sem, R6]) rfl ?_
    have hzw := F1.size
    exact ⟨.agg #[.slice none 0 0], by rw [HF.out], by rw [HF.out]; exact ⟨none, 0, [], rfl, SlD.nil _ _ _, rfl⟩, (F1.pure F2).own G (by simp; omega)⟩
end Go.Proofs.YtoblhcieidljjaaGreatDoor

/- Walks: the reference's Rename. -/
namespace Go.Proofs.YtoblhcieidljjaaGreatDoor
open Go.RowKit

theorem zinfoB : (Tryz.prog.info? 4).map (fun i => (i.zero, i.size, i.bytes)) = some (some (.bool false), 1, 1) := by kernel_rfl
/-- What has been seen of the first j. -/
def seenV (p : List Int) (j n : Nat) : List Value := (List.range n).map fun i : Nat => Value.bool (decide ((i : Int) ∈ p.take j))
theorem seen_len (p : List Int) (j n : Nat) : (seenV p j n).length = n := by simp [seenV]
theorem seen_get (p : List Int) (j n k : Nat) (hk : k < n) : (seenV p j n)[k]? = some (.bool (decide ((k : Int) ∈ p.take j))) := by
  unfold seenV; rw [List.getElem?_map, List.getElem?_range hk]; rfl
theorem seen_zero (p : List Int) (n : Nat) : (madeCells #[.bool false] (n * 1)).toList = seenV p 0 n := by
  unfold madeCells seenV
  simp only [Array.toList_map, Array.toList_range, Nat.mul_one]
  apply List.map_congr_left
  intro i _
  simp [Nat.mod_one]
theorem seen_set {p : List Int} {j n k : Nat} (hj : j < p.length) (hk : p[j] = (k : Int)) : (seenV p j n).set k (.bool true) = seenV p (j + 1) n := by
  apply List.ext_getElem?
  intro i
  rw [List.getElem?_set]
  by_cases hi : i < n
  · rw [seen_get p (j + 1) n i hi, seen_get p j n i hi, seen_len]
    rw [List.take_succ_eq_append_getElem hj, hk]
    by_cases e : k = i
    · subst e; simp [hi]
    · rw [if_neg e]
      have : ¬ (i : Int) = (k : Int) := by omega
      simp [this]
  · rw [List.getElem?_eq_none (show (seenV p j n).length ≤ i by rw [seen_len]; omega), List.getElem?_eq_none (show (seenV p (j + 1) n).length ≤ i by rw [seen_len]; omega)]
    split
    · split
      · rename_i h1 h2; rw [seen_len] at h2; omega
      · rfl
    · rfl
theorem good_step {p : List Int} {n j k : Nat} (hj : j < p.length) (hk : p[j] = (k : Int)) (hkn : k < n) (hns : decide ((k : Int) ∈ p.take j) = false) (h : (p.take j).Nodup ∧ ∀ x ∈ p.take j, 0 ≤ x ∧ x < (n : Int)) : (p.take (j + 1)).Nodup ∧ ∀ x ∈ p.take (j + 1), 0 ≤ x ∧ x < (n : Int) := by
  have hns := of_decide_eq_false hns
  rw [List.take_succ_eq_append_getElem hj, hk]
  refine ⟨List.nodup_append.2 ⟨h.1, by simp, fun a ha b hb e => ?_⟩, fun x hx => ?_⟩
  · rw [List.mem_singleton] at hb
    subst hb; subst e
    exact hns ha
  · rcases List.mem_append.1 hx with hx | hx
    · exact h.2 x hx
    · rw [List.mem_singleton.1 hx]; constructor <;> omega
theorem dup_bad {p : List Int} {n j k : Nat} (hj : j < p.length) (hk : p[j] = (k : Int)) (hs : decide ((k : Int) ∈ p.take j) = true) : ¬ Ord p n := fun ho => by
  have hs := of_decide_eq_true hs
  obtain ⟨i, hi, e⟩ := List.getElem_of_mem hs
  rw [List.getElem_take] at e
  rw [List.length_take] at hi
  have := nodup_get ho.nd i j (by omega) hj (by rw [e, hk])
  omega

set_option maxRecDepth 100000 in
set_option maxHeartbeats 8000000 in
theorem rrename_any (p : List Int) (L : List Mb) (pv v : Value) (w : World) (hp : SlI w none pv p) (h : CfD w (Dm w none) v L) (hsz : ∀ m ∈ L, m.tr.size ≤ 1073741000) (hL : L.length ≤ 1000) (hpl : p.length ≤ 1000000) :
    Calls Tryz.prog 55 #[v, pv] w (RnE (renC p L) w) := by
  obtain ⟨A, c, rfl, q1, q2, hcell⟩ := h.open_
  obtain ⟨Ap, cp, rfl, p1, p2, _⟩ := hp.open_
  obtain ⟨r, hr⟩ : ∃ r, r = renC p L := ⟨_, rfl⟩
  rw [← hr]
  have HR := Lib.hid hr
  have HC := Lib.hid hcell
  unfold maxLen at q2
  clear hcell hr
  go_enter Tryz.func55, Tryz.ntmps55
  go_upto_region 1 with (fail)
  generalize hW : (w.alloc _).alloc _ = w1
  have hz1 : w1.heap.size = w.heap.size + 2 := by rw [← hW]; simp
  have F1 : Fr none w w1 := hW ▸ ((Fr.refl _ w).alloc _).alloc _
  have b2 : CB w1 w.heap.size (.slice A L.length c) := by
    rw [← hW]; exact (Below.heap_alloc _ _ _ (by simp <;> omega)).trans (blk_new _ _)
  have b4 : CB w1 (w.heap.size + 1) (.slice none 0 0) := by
    rw [← hW]; exact blk_new_at (by simp) _
  clear hW
  obtain ⟨B4, hB4⟩ : ∃ B4, B4 = w.heap.size + 1 := ⟨_, rfl⟩
  rw [← hB4] at b4 ⊢
  have hBa : B4 ≤ w.heap.size + 1 := by omega
  have hBb : w.heap.size + 1 ≤ B4 := by omega
  clear hB4
  have R2 := b2.cell
  have l2 := blk_lt b2
  have h1 : CfD w1 (Dm w1 none) (.agg #[.slice A L.length c]) L := h.keep (fr_dm F1)
  obtain ⟨E, hE⟩ : ∃ E, E = validC L := ⟨_, rfl⟩
  have HE := Lib.hid hE
  have hval := rcvalid_any L _ w1 h1 hsz hL
  rw [← hE] at hval
  clear h1
  by_cases hE0 : E = 0
  · have hd0 : (E == 0) = true := by rw [beq_iff_eq]; exact hE0
    have HV : Hid (validC L = 0) := by unfold Hid; rw [← hE, hE0]
    clear hE
    go_upto_region 4 with (go_at_call 48; refine hval.mono ?_; rintro e w2 ⟨rfl, F2⟩)
    have hz2 := F2.size
    have F02 := F1.pure F2
    have b22 := b2.fr F2 (by simp)
    have b42 := b4.fr F2 (by simp)
    have R22 := b22.cell
    have l22 := blk_lt b22
    clear b2 b4 R2 l2 hval hd0 F1 F2
    go_upto_region 5 with (at_make; (refine mk_row _ Tryz.underlying136 zinfoB rfl _ _ rfl L.length rfl rfl (by omega) (by unfold maxLen; omega) ?_); intro w3 own3 F3)
    have own3 : w3.ownsRow w2.heap.size 4 1 (.slice (some ⟨w2.heap.size, 0, none⟩) L.length L.length) L.length (seenV p 0 L.length) := by
      rw [← seen_zero]; exact own3
    obtain ⟨gs, hgs⟩ : ∃ gs, gs = w2.heap.size := ⟨_, rfl⟩
    rw [← hgs] at own3 ⊢
    have hgl : w.heap.size + 2 ≤ gs := by omega
    have hgz : gs ≤ w3.heap.size := by have := F3.size; omega
    clear hgs
    have hz3 := F3.size
    have b23 := b22.fr F3 (by simp)
    have b43 := b42.fr F3 (by simp)
    have F03 := F02.pure F3
    have lg3 := (own_free own3).2.2
    clear R22 l22 b22 b42 F02 F3
    go_wp2_with fail
    go_loopw [9, 25] (fun _ s25 wr => ∃ j : Nat, j ≤ p.length ∧ s25 = .int .i64 (j : Int) ∧ Fr (some gs) w3 wr ∧ wr.ownsRow gs 4 1 (.slice (some ⟨gs, 0, none⟩) L.length L.length) L.length (seenV p j L.length) ∧ Hid ((p.take j).Nodup ∧ ∀ x ∈ p.take j, 0 ≤ x ∧ x < (L.length : Int))) (fun _ s25 _ => p.length - (intOf s25).toNat)
    case atStart => exact ⟨0, Nat.zero_le _, rfl, Fr.refl _ _, own3, Lib.hid ⟨by simp, by simp⟩⟩
    case round =>
      clear own3
      obtain ⟨j, hj, rfl, Fl, own, HQ⟩ := hrel
      obtain ⟨wz, hwz⟩ : ∃ wz : World, wz = wr := ⟨_, rfl⟩
      subst hwz
      have b2z := b23.fr Fl (by simp; omega)
      have b4z := b43.fr Fl (by simp; omega)
      have F0z : Fr none w wz := F03.own Fl (fun b hb => by injection hb with hb; omega)
      have hzz := Fl.size
      have F02z : Hid (w.heap.size + 2 ≤ wz.heap.size) := by unfold Hid; omega
      by_cases hlt : j < p.length
      · obtain ⟨pb, po, rfl, hpb, hpc0⟩ := hp.1.cellI j hlt
        have hpc := F0z.keep hpc0 (by simp)
        clear hpc0
        by_cases hneg : p[j] < 0
        · have hd1 : decide (p[j] < 0) = true := decide_eq_true hneg
          have HF : Hid (r = ([], 1)) := by unfold Hid; rw [HR.out, renC_bad HV.out (fun ho => by have := (ho.bd _ (List.getElem_mem hlt)).1; omega)]
          generalize p[j] = x at *
          clear hneg
          have R4 := b4z.cell
          have Z4 := b4z.free
          have l4 := blk_lt b4z
          go_wp2_with fail
          generalize hW5 : World.setCell _ _ _ = w5
          have G : Fr (some B4) _ w5 := hW5 ▸ Fr.set1 _ ⟨B4, 0, none⟩ (.slice none 0 0)
          have m5 : CB w5 B4 (.slice none 0 0) := by rw [← hW5]; exact b4z.set0 _
          clear hW5
          have R6 := m5.cell
          refine bodyPost_ret (v := .tuple #[.agg #[.slice none 0 0], .int .i64 1]) (by simp [results, Tryz.results55, go_sem, R6]) rfl ?_
          exact ⟨.agg #[.slice none 0 0], by rw [HF.out], by rw [HF.out]; exact ⟨none, 0, [], rfl, SlD.nil _ _ _, rfl⟩, F0z.own G (by simp; omega)⟩
        · have hd1 : decide (p[j] < 0) = false := decide_eq_false hneg
          obtain ⟨k, hk⟩ := Int.eq_ofNat_of_zero_le (show 0 ≤ p[j] by omega)
          have HK := Lib.hid hk
          rw [hk] at hpc hd1
          clear hk hneg
          by_cases hkn : k < L.length
          · have hd2 : decide ((L.length : Int) ≤ (k : Int)) = false := decide_eq_false (by omega)
            obtain ⟨Z, hc, lg⟩ := own_free own
            have hck := hc k _ (seen_get p j L.length k hkn)
            clear hc
            cases hs : decide ((k : Int) ∈ p.take j) with
            | true =>
              rw [hs] at hck
              have HF : Hid (r = ([], 1)) := by unfold Hid; rw [HR.out, renC_bad HV.out (dup_bad hlt HK.out hs)]
              clear hs
              have R4 := b4z.cell
              have Z4 := b4z.free
              have l4 := blk_lt b4z
              go_wp2_with fail
              generalize hW5 : World.setCell _ _ _ = w5
              have G : Fr (some B4) _ w5 := hW5 ▸ Fr.set1 _ ⟨B4, 0, none⟩ (.slice none 0 0)
              have m5 : CB w5 B4 (.slice none 0 0) := by rw [← hW5]; exact b4z.set0 _
              clear hW5
              have R6 := m5.cell
              refine bodyPost_ret (v := .tuple #[.agg #[.slice none 0 0], .int .i64 1]) (by simp [results, Tryz.results55, go_sem, R6]) rfl ?_
              exact ⟨.agg #[.slice none 0 0], by rw [HF.out], by rw [HF.out]; exact ⟨none, 0, [], rfl, SlD.nil _ _ _, rfl⟩, F0z.own G (by simp; omega)⟩
            | false =>
              rw [hs] at hck
              have HQ' : Hid ((p.take (j + 1)).Nodup ∧ ∀ x ∈ p.take (j + 1), 0 ≤ x ∧ x < (L.length : Int)) := good_step hlt HK.out hkn hs HQ.out
              clear hs HQ
              have own9 := own_setS own k (.bool true)
              rw [seen_set hlt HK.out] at own9
              have FS := Fr.set1 wz ⟨gs, k, none⟩ (.bool true)
              go_wp2_with fail
              go_roundw
              case rel => exact ⟨j + 1, by omega, by go_num, Fl.same FS, own9, HQ'⟩
              case measure => simp [intOf]; omega
          · have hd2 : decide ((L.length : Int) ≤ (k : Int)) = true := decide_eq_true (by omega)
            have HF : Hid (r = ([], 1)) := by unfold Hid; rw [HR.out, renC_bad HV.out (fun ho => by have := (ho.bd _ (List.getElem_mem hlt)).2; rw [HK.out] at this; omega)]
            have R4 := b4z.cell
            have Z4 := b4z.free
            have l4 := blk_lt b4z
            go_wp2_with fail
            generalize hW5 : World.setCell _ _ _ = w5
            have G : Fr (some B4) _ w5 := hW5 ▸ Fr.set1 _ ⟨B4, 0, none⟩ (.slice none 0 0)
            have m5 : CB w5 B4 (.slice none 0 0) := by rw [← hW5]; exact b4z.set0 _
            clear hW5
            have R6 := m5.cell
            refine bodyPost_ret (v := .tuple #[.agg #[.slice none 0 0], .int .i64 1]) (by simp [results, Tryz.results55, go_sem, R6]) rfl ?_
            exact ⟨.agg #[.slice none 0 0], by rw [HF.out], by rw [HF.out]; exact ⟨none, 0, [], rfl, SlD.nil _ _ _, rfl⟩, F0z.own G (by simp; omega)⟩
      · obtain rfl : j = p.length := by omega
        have R2 := b2z.cell
        have R4 := b4z.cell
        have Z4 := b4z.free
        have l2 := blk_lt b2z
        have l4 := blk_lt b4z
        have hq0 := HQ.out
        rw [List.take_length] at hq0
        by_cases hn : p.length = L.length
        · have hq : ((p.length : Int) == (L.length : Int)) = true := by rw [beq_iff_eq]; omega
          have ho : Ord p L.length := ⟨hn, hq0.1, hq0.2⟩
          have HF : Hid (r = (renS p L L.length, 0)) := by unfold Hid; rw [HR.out, renC_ok HV.out ho]
          obtain ⟨hL10, hin⟩ := validC_in HV.out
          have hpz := hp.fr F0z
          have HORD := Lib.hid ho
          have HIN := Lib.hid hin
          have HN := Lib.hid hn
          clear HQ hq0 ho hin hn own
          go_upto_region 15 with (at_make; (refine mk_row _ Tryz.underlying25 zinfoMb rfl _ _ rfl L.length rfl rfl (by omega) (by unfold maxLen; omega) ?_); intro w5 own5 F5)
          generalize hW : w5.alloc _ = w6
          have F6 : Fr none w5 w6 := hW ▸ (Fr.refl none w5).alloc _
          have b10 : CB w6 w5.heap.size (.slice (some ⟨wz.heap.size, 0, none⟩) L.length L.length) := by rw [← hW]; exact blk_new _ _
          have own6 := own_fr own5 F6 (by simp)
          have hz5 := F5.size
          have hz6 := F6.size
          have hms0 : MbsD w6 (Dx wz.heap.size w6 (.slice (some ⟨wz.heap.size, 0, none⟩) L.length L.length)) (madeCells #[.bool false, .int .i64 0, .slice none 0 0, .slice none 0 0] (L.length * 4)).toList (renS p L 0) := by
            exact madeMb _ _ _
          have F56 := F5.pure F6
          have F06 := F0z.pure F56
          have b26 := b2z.fr F56 (by simp)
          have b46 := b4z.fr F56 (by simp)
          have hgz : w.heap.size + 2 ≤ wz.heap.size := by have := F02z.out; omega
          have hg6 := (own_free own6).2.2
          obtain ⟨B10, hB10⟩ : ∃ B10, B10 = w5.heap.size := ⟨_, rfl⟩
          rw [← hB10] at b10 ⊢
          have hgB : wz.heap.size < B10 := by have := (own_free own5).2.2; omega
          obtain ⟨g, hg⟩ : ∃ g, g = wz.heap.size := ⟨_, rfl⟩
          rw [← hg] at b10 own6 hms0 hgz hg6 hgB ⊢
          have R6 := b26.cell
          have l6 := blk_lt b26
          have hp6 := hp.fr F06
          clear hW own5 F5 F6 F56 hB10 hg b2z b4z R2 R4 Z4 l2 l4 hpz F0z hq
          go_wp2_with fail
          go_loopw [11, 12, 62] (fun _ _ s62 wr => ∃ (j : Nat) (cells : List Value), j ≤ L.length ∧ s62 = .int .i64 (j : Int) ∧ Fr (some g) w6 wr ∧ wr.ownsRow g 33 4 (.slice (some ⟨g, 0, none⟩) L.length L.length) L.length cells ∧ MbsD wr (Dx g wr (.slice (some ⟨g, 0, none⟩) L.length L.length)) cells (renS p L j)) (fun _ _ s62 _ => L.length - (intOf s62).toNat)
          case atStart => exact ⟨0, _, Nat.zero_le _, rfl, Fr.refl _ _, own6, hms0⟩
          case round =>
            clear own6 hms0 R6 l6
            obtain ⟨j, cells, hj, rfl, Fl, own, hms⟩ := hrel
            obtain ⟨wy, hwy⟩ : ∃ wy : World, wy = wr := ⟨_, rfl⟩
            subst hwy
            have hzy := Fl.size
            have F0y : Fr none w wy := F06.own Fl (fun b hb => by injection hb with hb; omega)
            have b4y := b46.fr Fl (by simp; omega)
            have b10y := b10.fr Fl (by simp; omega)
            by_cases hlt : j < L.length
            · obtain ⟨b, off, th, C1, n1, d1, C2, n2, d2, rfl, hb, g0, g1, g2, g3, ht⟩ := HC.out j hlt
              have g0 := F0y.keep g0 (by simp)
              have g1 := F0y.keep g1 (by simp)
              have g2 := F0y.keep g2 (by simp)
              have g3 := F0y.keep g3 (by simp)
              have ht : TrR wy none (.agg #[.int .i64 th, .slice C1 n1 d1, .slice C2 n2 d2]) L[j].tr := TrD.keep (fr_dm F0y) _ _ ht
              have hpj : j < p.length := by rw [HN.out]; exact hlt
              obtain ⟨pb, po, rfl, hpb, hpc0⟩ := hp.1.cellI j hpj
              have hpc := F0y.keep hpc0 (by simp)
              have hbd := HORD.out.bd _ (List.getElem_mem hpj)
              have HPF : pf p (j : Int) = p[j] := pf_get hpj
              obtain ⟨i, hi⟩ : ∃ i : Nat, p[j] = (i : Int) := ⟨p[j].toNat, by omega⟩
              rw [hi] at hpc HPF hbd
              have HRS : Hid (renS p L (j + 1) = (renS p L j).set i ⟨L[j].dec, mapT (pf p) L[j].tr⟩) := by
                unfold Hid; simp only [renS]; rw [HPF, Int.toNat_natCast]; simp [mapMb, hlt]
              have HAN : Hid (allN (fun x => 0 ≤ x ∧ x < (p.length : Int)) L[j].tr) := by
                unfold Hid; rw [HN.out]; exact allN_of_in _ (HIN.out _ (List.getElem_mem hlt))
              have hil : i < L.length := by omega
              have hip : i < p.length := by rw [HN.out]; exact hil
              have hir : i < (renS p L j).length := by rw [renS_len]; exact hil
              clear HPF hi hbd hpc0
              generalize L[j] = m at *
              go_upto_region 18 with (fail)
              generalize hW : wy.alloc _ = wa
              have Fa : Fr none wy wa := hW ▸ (Fr.refl none wy).alloc _
              have m12 : MB wa wy.heap.size (.bool m.dec) (.int .i64 th) (.slice C1 n1 d1) (.slice C2 n2 d2) := by rw [← hW]; exact blk_new _ _
              have hza : wa.heap.size = wy.heap.size + 1 := by rw [← hW]; simp
              clear hW g0 g1 g2 g3
              have b10a := b10y.fr Fa (by simp)
              have hpa := Fa.keep hpc (by simp)
              have F0a := F0y.pure Fa
              have hta := (ht.fr Fa)
              have hpI := hp.fr F0a
              have l10 := blk_lt b10a
              refine wp_region_held_drew (S := fun W => (∀ k, W.cell? ⟨B10, k, none⟩ = (#[.slice (some ⟨g, 0, none⟩) L.length L.length] : Array Value)[k]?) ∧ W.cell? ⟨pb, po + j, none⟩ = some (.int .i64 (i : Int)) ∧ (∀ k, W.cell? ⟨wy.heap.size, k, none⟩ = (#[.bool m.dec, .int .i64 th, .slice C1 n1 d1, .slice C2 n2 d2] : Array Value)[k]?) ∧ Fr (some g) wa W) (by kernel_rfl) ⟨b10a.cell, hpa, m12.cell, (Fr.refl _ _).drew⟩ (fun hH0 => ?_)
              refine wpAnyH_take (i := 0) (v := ?_) rfl (by kernel_rfl) (by kernel_rfl) (by kernel_rfl) (fun _ _ _ h => h) (Or.inl ⟨by rfl, ?_⟩) (by assumption) ?_
              rotate_left
              · (intro W hW; (try dsimp only at hW); go_simp; try with_reducible rfl)
              try simp only [Act.put, List.setIfInBounds_toArray, List.set_cons_zero, List.set_cons_succ, List.getElem_toArray, List.getElem_cons_zero, List.getElem_cons_succ]
              refine wpAnyH_take (i := 1) (v := ?_) rfl (by kernel_rfl) (by kernel_rfl) (by kernel_rfl) (fun _ _ _ h => h) (Or.inl ⟨by rfl, ?_⟩) (by assumption) ?_
              rotate_left
              · (intro W hW; (try dsimp only at hW); go_simp; try with_reducible rfl)
              try simp only [Act.put, List.setIfInBounds_toArray, List.set_cons_zero, List.set_cons_succ, List.getElem_toArray, List.getElem_cons_zero, List.getElem_cons_succ]
              refine wpAnyH_take (i := 2) (v := ?_) rfl (by kernel_rfl) (by kernel_rfl) (by kernel_rfl) (fun _ _ _ h => h) (Or.inl ⟨by rfl, ?_⟩) (by assumption) ?_
              rotate_left
              · (intro W hW; (try dsimp only at hW); go_simp; try with_reducible rfl)
              try simp only [Act.put, List.setIfInBounds_toArray, List.set_cons_zero, List.set_cons_succ, List.getElem_toArray, List.getElem_cons_zero, List.getElem_cons_succ]
              refine wpAnyH_take (i := 3) (v := ?_) rfl (by kernel_rfl) (by kernel_rfl) (by kernel_rfl) (fun _ _ _ h => h) (Or.inl ⟨by rfl, ?_⟩) (by assumption) ?_
              rotate_left
              · (intro W hW; (try dsimp only at hW); go_simp; try with_reducible rfl)
              try simp only [Act.put, List.setIfInBounds_toArray, List.set_cons_zero, List.set_cons_succ, List.getElem_toArray, List.getElem_cons_zero, List.getElem_cons_succ]
              refine wpAnyH_take (i := 4) (v := ?_) rfl (by kernel_rfl) (by kernel_rfl) (by kernel_rfl) (fun _ _ _ h => h) (Or.inl ⟨by rfl, ?_⟩) (by assumption) ?_
              rotate_left
              · (intro W hW; (try dsimp only at hW); go_simp; try with_reducible rfl)
              try simp only [Act.put, List.setIfInBounds_toArray, List.set_cons_zero, List.set_cons_succ, List.getElem_toArray, List.getElem_cons_zero, List.getElem_cons_succ]
              refine wpAnyH_take (i := 5) (v := ?_) rfl (by kernel_rfl) (by kernel_rfl) (by kernel_rfl) (fun _ _ _ h => h) (Or.inl ⟨by rfl, ?_⟩) (by assumption) ?_
              rotate_left
              · (intro W hW; (try dsimp only at hW); go_simp; try with_reducible rfl)
              try simp only [Act.put, List.setIfInBounds_toArray, List.set_cons_zero, List.set_cons_succ, List.getElem_toArray, List.getElem_cons_zero, List.getElem_cons_succ]
              refine wpAnyH_take (i := 6) (v := ?_) rfl (by kernel_rfl) (by kernel_rfl) (by kernel_rfl) (fun _ _ _ h => h) (Or.inl ⟨by rfl, ?_⟩) (by assumption) ?_
              rotate_left
              · (intro W hW; (try dsimp only at hW); go_simp; try with_reducible rfl)
              try simp only [Act.put, List.setIfInBounds_toArray, List.set_cons_zero, List.set_cons_succ, List.getElem_toArray, List.getElem_cons_zero, List.getElem_cons_succ]
              refine wpAnyH_take (i := 7) (v := ?_) rfl (by kernel_rfl) (by kernel_rfl) (by kernel_rfl) (fun _ _ _ h => h) (Or.inl ⟨by rfl, ?_⟩) (by assumption) ?_
              rotate_left
              · (intro W hW; (try dsimp only at hW); go_simp; try with_reducible rfl)
              try simp only [Act.put, List.setIfInBounds_toArray, List.set_cons_zero, List.set_cons_succ, List.getElem_toArray, List.getElem_cons_zero, List.getElem_cons_succ]
              refine wpAnyH_take (i := 8) (v := ?_) rfl (by kernel_rfl) (by kernel_rfl) (by kernel_rfl) (fun _ _ _ h => h) (Or.inl ⟨by rfl, ?_⟩) (by assumption) ?_
              rotate_left
              · (intro W hW; (try dsimp only at hW); go_simp; try with_reducible rfl)
              try simp only [Act.put, List.setIfInBounds_toArray, List.set_cons_zero, List.set_cons_succ, List.getElem_toArray, List.getElem_cons_zero, List.getElem_cons_succ]
              refine wpAnyH_take (i := 9) (v := ?_) rfl (by kernel_rfl) (by kernel_rfl) (by kernel_rfl) (fun _ _ _ h => h) (Or.inl ⟨by rfl, ?_⟩) (by assumption) ?_
              rotate_left
              · (intro W hW; (try dsimp only at hW); go_simp; try with_reducible rfl)
              try simp only [Act.put, List.setIfInBounds_toArray, List.set_cons_zero, List.set_cons_succ, List.getElem_toArray, List.getElem_cons_zero, List.getElem_cons_succ]
              refine wpAnyH_take (i := 10) (v := ?_) rfl (by kernel_rfl) (by kernel_rfl) (by kernel_rfl) (fun _ _ _ h => h) (Or.inl ⟨by rfl, ?_⟩) (by assumption) ?_
              rotate_left
              · (intro W hW; (try dsimp only at hW); go_simp; try with_reducible rfl)
              try simp only [Act.put, List.setIfInBounds_toArray, List.set_cons_zero, List.set_cons_succ, List.getElem_toArray, List.getElem_cons_zero, List.getElem_cons_succ]
              refine wpAnyH_ready (rs := [11]) (by kernel_rfl) (by simp) ?_
              refine AllReadyH.cons rfl (fun K hK => ?_) AllReadyH.nil
              simp only [List.getElem_toArray, List.getElem_cons_zero, List.getElem_cons_succ]
              go_simp
              go_at_call 109
              refine (rrenamed_any p _ cp wa.drew (hpI.fr (Fr.refl none wa).drew) m.tr.dep m.tr _ _ none (Nat.le_refl _) (by exact hta.fr (Fr.refl none wa).drew) HAN.out (Fr.refl _ _)).mono ?_
              rintro e w7 ⟨v7, rfl, hT7, F7⟩
              obtain ⟨th', a1, k1, e1, a2, k2, e2, rfl⟩ := hT7.shape
              have F7 := ((Fr.refl none wa).drew).pure F7
              refine hK.out _ _ ⟨(b10a.fr F7 (by simp)).cell, F7.keep hpa (by simp), (m12.fr F7 (by simp)).cell, F7.mono⟩ (fun hH1 => ?_)
              clear hK K hH0
              have Fy7 := Fa.pure F7
              have own7 := own_fr own Fy7 (by simp)
              obtain ⟨Z7, hc7, lg7⟩ := own_free own7
              obtain ⟨x1, x2, x3, y0, y1, y2, y3, _⟩ := hms.get i hir
              have y0 := hc7 _ _ y0
              have y1 := hc7 _ _ y1
              have y2 := hc7 _ _ y2
              have y3 := hc7 _ _ y3
              clear hc7
              try simp only [Act.put, List.setIfInBounds_toArray, List.set_cons_zero, List.set_cons_succ, List.getElem_toArray, List.getElem_cons_zero, List.getElem_cons_succ]
              refine wpAnyH_take (i := 12) (v := ?_) rfl (by kernel_rfl) (by kernel_rfl) (by kernel_rfl) (fun _ _ _ h => h) (Or.inl ⟨by rfl, ?_⟩) (by assumption) ?_
              rotate_left
              · (intro W hW; (try dsimp only at hW); go_simp; try with_reducible rfl)
              try simp only [Act.put, List.setIfInBounds_toArray, List.set_cons_zero, List.set_cons_succ, List.getElem_toArray, List.getElem_cons_zero, List.getElem_cons_succ]
              refine wpAnyH_take (i := 13) (v := ?_) rfl (by kernel_rfl) (by kernel_rfl) (by kernel_rfl) (fun _ _ _ h => h) (Or.inl ⟨by rfl, ?_⟩) (by assumption) ?_
              rotate_left
              · (intro W hW; (try dsimp only at hW); go_simp; try with_reducible rfl)
              try simp only [Act.put, List.setIfInBounds_toArray, List.set_cons_zero, List.set_cons_succ, List.getElem_toArray, List.getElem_cons_zero, List.getElem_cons_succ]
              refine wpAnyH_ready (rs := [14]) (by kernel_rfl) (by simp) ?_
              refine AllReadyH.cons rfl (fun K hK => ?_) AllReadyH.nil
              simp only [List.getElem_toArray, List.getElem_cons_zero, List.getElem_cons_succ]
              go_simp
              have FS := fr_row4 w7 g (i * 4) (.bool m.dec) (.int .i64 th') (.slice a1 k1 e1) (.slice a2 k2 e2)
              have own8 := own_setS (own_setS (own_setS (own_setS own7 (i * 4) (.bool m.dec)) (i * 4 + 1) (.int .i64 th')) (i * 4 + 2) (.slice a1 k1 e1)) (i * 4 + 3) (.slice a2 k2 e2)
              generalize hW : World.setCell (World.setCell (World.setCell (World.setCell _ _ _) _ _) _ _) _ _ = w8 at *
              have hz7 := F7.size
              have hdw : wa.drew.heap.size = wa.heap.size := rfl
              have lgy := (own_free own).2.2
              have hz8 := FS.size
              refine hK.out _ _ ⟨((b10a.fr F7 (by simp)).fr FS (by simp; omega)).cell, FS.keep (F7.keep hpa (by simp)) (by have := hpb.1; simp; omega), ((m12.fr F7 (by simp)).fr FS (by simp; omega)).cell, (F7.mono).same FS⟩ (fun hH2 => ?_)
              clear hK K hH1
              try simp only [Act.put, List.setIfInBounds_toArray, List.set_cons_zero, List.set_cons_succ, List.getElem_toArray, List.getElem_cons_zero, List.getElem_cons_succ]
              refine wpAnyH_done (by kernel_rfl) ?_ _
              go_wp2_with fail
              go_roundw
              case rel =>
                refine ⟨j + 1, _, by omega, by go_num, (Fl.pure Fy7).same FS, own8, ?_⟩
                rw [HRS.out]
                refine MbsD.set (MbsD.keep (fun k hk => ⟨⟨hk.1, by have := hk.2.1; have := Fy7.size; omega, hk.2.2⟩, ?_⟩) _ _ hms) i hir m.dec _ _ _ _ (TrD.keep (fun k hk => ⟨⟨by have := hk.1; omega, by have := hk.2; omega, by have := hk.1; simp [Value.ownBlock]; omega⟩, ?_⟩) _ _ hT7)
                · rw [FS.block k (by have := hk.2.1; have := Fy7.size; omega) (by have := hk.2.2; simp [Value.ownBlock] at this; simpa using fun e => this e.symm), Fy7.block k hk.2.1 (by simp)]
                · rw [FS.block k (by have := hk.2; omega) (by have := hk.1; simp; omega)]
              case measure => simp [intOf]; omega
            · obtain rfl : j = L.length := by omega
              have R10 := b10y.cell
              have l10 := blk_lt b10y
              have R4 := b4y.cell
              have Z4 := b4y.free
              have l4 := blk_lt b4y
              go_wp2_with fail
              generalize hW5 : World.setCell _ _ _ = w8
              have G : Fr (some B4) wy w8 := hW5 ▸ Fr.set1 _ ⟨B4, 0, none⟩ _
              have m8 : CB w8 B4 (.slice (some ⟨g, 0, none⟩) L.length L.length) := by rw [← hW5]; exact b4y.set0 _
              clear hW5
              have R6 := m8.cell
              refine bodyPost_ret (v := .tuple #[.agg #[.slice (some ⟨g, 0, none⟩) L.length L.length], .int .i64 0]) (by simp [results, Tryz.results55, go_sem, R6]) rfl ?_
              have hzG := G.size
              refine ⟨.agg #[.slice (some ⟨g, 0, none⟩) L.length L.length], by rw [HF.out], ?_, F0y.own G (by simp; omega)⟩
              rw [HF.out]
              refine ⟨_, L.length, cells, by rw [renS_len], ?_, MbsD.keep (fun k hk => ⟨⟨by have := hk.1; omega, by have := hk.2.1; omega⟩, G.block k hk.2.1 (by have := hk.1; simp; omega)⟩) _ _ hms⟩
              rw [renS_len]
              exact (SlD.own_dn own).keep fun k hk => ⟨⟨by have := hk.1; omega, by have := hk.2; omega⟩, G.block k hk.2 (by have := hk.1; simp; omega)⟩
        · have hq : ((p.length : Int) == (L.length : Int)) = false := by rw [beq_eq_false_iff_ne]; omega
          have HF : Hid (r = ([], 1)) := by unfold Hid; rw [HR.out, renC_bad HV.out (fun ho => hn ho.len)]
          clear HQ hq0 own
          go_wp2_with fail
          generalize hW5 : World.setCell _ _ _ = w5
          have G : Fr (some B4) _ w5 := hW5 ▸ Fr.set1 _ ⟨B4, 0, none⟩ (.slice none 0 0)
          have m5 : CB w5 B4 (.slice none 0 0) := by rw [← hW5]; exact b4z.set0 _
          clear hW5
          have R6 := m5.cell
          refine bodyPost_ret (v := .tuple #[.agg #[.slice none 0 0], .int .i64 1]) (by simp [results, Tryz.results55, go_sem, R6]) rfl ?_
          exact ⟨.agg #[.slice none 0 0], by rw [HF.out], by rw [HF.out]; exact ⟨none, 0, [], rfl, SlD.nil _ _ _, rfl⟩, F0z.own G (by simp; omega)⟩
  · have hd0 : (E == 0) = false := by rw [beq_eq_false_iff_ne]; exact hE0
    have HF : Hid (r = ([], E)) := by unfold Hid; rw [HR.out, renC_err (by rw [← hE]; exact hE0), ← hE]
    clear hE
    go_wp2_with (go_at_call 48; refine hval.mono ?_; rintro e w2 ⟨rfl, F2⟩; have b42 := b4.fr F2 (by simp); have R4 := b42.cell; have Z4 := b42.free; have l4 := blk_lt b42)
    generalize hW5 : World.setCell _ _ _ = w5
    have G : Fr (some B4) _ w5 := hW5 ▸ Fr.set1 _ ⟨B4, 0, none⟩ (.slice none 0 0)
    have m5 : CB w5 B4 (.slice none 0 0) := by rw [← hW5]; exact b42.set0 _
    clear hW5
    have R6 := m5.cell
    refine bodyPost_ret (v := .tuple #[.agg #[.slice none 0 0], .int .i64 E]) (by simp [results, Tryz.results55, go_sem, R6]) rfl ?_
    have hzw := F1.size
    exact ⟨.agg #[.slice none 0 0], by rw [HF.out], by rw [HF.out]; exact ⟨none, 0, [], rfl, SlD.nil _ _ _, rfl⟩, (F1.pure F2).own G (by simp; omega)⟩
end Go.Proofs.YtoblhcieidljjaaGreatDoor

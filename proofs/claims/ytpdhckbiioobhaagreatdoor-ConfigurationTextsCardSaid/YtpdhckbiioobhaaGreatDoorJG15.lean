/- Some texts of this claim, joined: contracts of the functions that it reaches, and plain laws. -/
import Derived.Test.YtpdhckbiioobhaaGreatDoorProg
import Derived.Test.YtpdhckbiioobhaaGreatDoorJG1
import Derived.Test.YtpdhckbiioobhaaGreatDoorJG3
import Derived.Test.YtpdhckbiioobhaaGreatDoorJG14
import Derived.StillTailTactics
import Derived.Test.YtpdhckbiioobhaaGreatDoorJG9
import Derived.Test.YtpdhckbiioobhaaGreatDoorJG4
import Derived.Test.YtpdhckbiioobhaaGreatDoorJG8
import Derived.Deep.RegionHeld3

set_option linter.unusedSimpArgs false
set_option linter.unusedVariables false
/- Walks: lists of trusts in memory; slices.Equal, slices.EqualFunc at trusts, threshold.Same. -/
namespace Go.Proofs.YtpdhckbiioobhaaGreatDoor
open Go.RowKit

/-- A slice of trusts in memory. -/
def TsR (w : World) (r : Option Nat) (v : Value) (i : List Tr) : Prop :=
  ∃ A c, v = .slice A i.length c ∧ i.length ≤ 1073741824 ∧ i.length ≤ c ∧ c ≤ 9223372036854775807 ∧
    (0 < i.length → ∃ b off, A = some ⟨b, off, none⟩ ∧ b < w.heap.size ∧ some b ≠ r ∧ ∀ k (hk : k < i.length), ∃ x y z, w.cell? ⟨b, off + k * 3, none⟩ = some x ∧ w.cell? ⟨b, off + k * 3 + 1, none⟩ = some y ∧ w.cell? ⟨b, off + k * 3 + 2, none⟩ = some z ∧ TrR w r (.agg #[x, y, z]) i[k])
theorem TsR.fr {w w' : World} {r : Option Nat} {v : Value} {i : List Tr} (h : TsR w r v i) (f : Fr r w w') : TsR w' r v i := by
  obtain ⟨A, c, e, h1, h2, h3, h4⟩ := h
  refine ⟨A, c, e, h1, h2, h3, fun hp => ?_⟩
  obtain ⟨b, off, e2, hb, hr, hc⟩ := h4 hp
  refine ⟨b, off, e2, Nat.lt_of_lt_of_le hb f.size, hr, fun k hk => ?_⟩
  obtain ⟨x, y, z, g0, g1, g2, gt⟩ := hc k hk
  exact ⟨x, y, z, f.keep g0 hr, f.keep g1 hr, f.keep g2 hr, gt.fr f⟩
theorem TrR.ts {r : Option Nat} {w : World} {v : Value} {thr : Int} {nodes : List Int} {inner : List Tr} (h : TrR w r v (.mk thr nodes inner)) :
    ∃ A c A' c', v = .agg #[.int .i64 thr, .slice A nodes.length c, .slice A' inner.length c'] ∧ Wi thr ∧ SlI w r (.slice A nodes.length c) nodes ∧ TsR w r (.slice A' inner.length c') inner := by
  obtain ⟨A, c, A', c', e, h0, h1, h2, h3, h4, h5, h6⟩ := h.open_
  exact ⟨A, c, A', c', e, h0, h1, A', c', rfl, h3, h4, h5, h6⟩
theorem TsR.of {w : World} {r : Option Nat} {v : Value} {cells : List Value} {i : List Tr} (h : SlD w (Dm w r) 3 v cells) (hl : i.length ≤ 1073741824) (ht : TrsD w (Dm w r) cells i) : TsR w r v i := by
  obtain ⟨A, n, c, rfl, hlen, hc, hm, hx⟩ := h
  have e := ht.len
  obtain rfl : n = i.length := by omega
  unfold maxLen at hm
  refine ⟨A, c, rfl, hl, hc, hm, fun hp => ?_⟩
  obtain ⟨b, off, e2, hb, hx⟩ := hx hp
  refine ⟨b, off, e2, hb.1, hb.2, fun k hk => ?_⟩
  obtain ⟨x, y, z, g0, g1, g2, gt⟩ := ht.get k hk
  exact ⟨x, y, z, hx _ _ g0, hx _ _ g1, hx _ _ g2, gt⟩

set_option maxRecDepth 100000 in
theorem eqI_any (a b : List Int) (va vb : Value) (w : World) (r : Option Nat) (ha : SlI w r va a) (hb : SlI w r vb b) :
    Calls Tryz.prog 159 #[va, vb] w fun e w' => e = .returned (.bool (decide (a = b))) ∧ Fr none w w' := by
  have HA := Lib.hid ha
  have HB := Lib.hid hb
  obtain ⟨A, c, rfl, q1, q2, hc⟩ := ha.open_
  obtain ⟨B, d, rfl, q3, q4, hd⟩ := hb.open_
  clear ha hb
  by_cases hl : a.length = b.length
  · have HL := Lib.hid hl
    obtain ⟨n, hn⟩ : ∃ n, n = a.length := ⟨_, rfl⟩
    have HN := Lib.hid hn
    have HN2 := Lib.hid (hn.trans hl)
    have hn2 : n = b.length := hn.trans hl
    have hc' : 0 < n → _ := fun h => hc (by omega)
    have hd' : 0 < n → _ := fun h => hd (by omega)
    rw [← hn] at HA q1 ⊢
    rw [← hn2] at HB q3 ⊢
    clear hl hn hn2 hc hd
    have hc := hc'
    have hd := hd'
    clear hc' hd'
    go_enter Tryz.func159, Tryz.ntmps159
    go_wp2_with fail
    go_loopw [13] (fun i wr => ∃ k : Nat, k ≤ n ∧ i = .int .i64 k ∧ Fr none w wr ∧ ∀ j (h1 : j < a.length) (h2 : j < b.length), j < k → a[j] = b[j]) (fun i _ => n - (intOf i).toNat)
    case atStart => exact ⟨0, Nat.zero_le _, rfl, Fr.refl _ _, fun j h1 h2 h => by omega⟩
    case round =>
      obtain ⟨k, hk, rfl, F, hall⟩ := hrel
      have HH := Lib.hid hall
      clear hall
      by_cases hlt : k < n
      · obtain ⟨b1, o1, rfl, hb1, hx1, hc1⟩ := hc (by omega)
        obtain ⟨b2, o2, rfl, hb2, hx2, hc2⟩ := hd (by omega)
        have k1 : k < a.length := by have := HN.out; omega
        have k2 : k < b.length := by have := HN2.out; omega
        have d1 : wr.cell? ⟨b1, o1 + k, none⟩ = some (.int .i64 a[k]) := F.keep (hc1 k k1) (by simp)
        have d2 : wr.cell? ⟨b2, o2 + k, none⟩ = some (.int .i64 b[k]) := F.keep (hc2 k k2) (by simp)
        clear hc hd hc1 hc2
        obtain ⟨x, hx⟩ : ∃ x, x = a[k] := ⟨_, rfl⟩
        obtain ⟨y, hy⟩ : ∃ y, y = b[k] := ⟨_, rfl⟩
        rw [← hx] at d1
        rw [← hy] at d2
        have HX := Lib.hid hx
        have HY := Lib.hid hy
        clear hx hy
        by_cases he : x = y
        · have HE := Lib.hid he
          subst he
          go_wp2_with fail
          go_quiet (fail)
          go_wp2_with fail
          go_roundw
          case rel => exact ⟨k + 1, by omega, by go_num, F.drewN _, fun j h1 h2 h => by
            by_cases e : j = k
            · subst e; rw [← HX.out, ← HY.out]
            · exact HH.out j h1 h2 (by omega)⟩
          case measure => simp [intOf]; omega
        · have hne : a ≠ b := fun h => by
            apply he
            rw [HX.out, HY.out]
            subst h
            rfl
          have HE := Lib.hid hne
          clear hne
          go_wp2_with fail
          go_quiet (fail)
          go_wp2_with fail
          go_ret
          exact ⟨ret_bool (by rw [decide_eq_false HE.out]), F.drewN _⟩
      · obtain rfl : k = n := by omega
        go_wp2_with fail
        go_ret
        refine ⟨ret_bool ?_, F⟩
        symm
        rw [decide_eq_true_eq]
        apply List.ext_getElem HL.out
        intro j h1 h2
        exact HH.out j h1 h2 (by rw [HN.out]; exact h1)
  · have hne : ¬ a = b := fun h => hl (by rw [h])
    have HE := Lib.hid hne
    clear hne
    have hl2 : ¬ ((a.length : Int) = (b.length : Int)) := by omega
    go_enter Tryz.func159, Tryz.ntmps159
    go_wp2_with fail
    go_ret
    exact ⟨ret_bool (by rw [decide_eq_false HE.out]), Fr.refl _ _⟩

/-- What Same does, of a trust that is not deeper than d. -/
def SameC (d : Nat) : Prop := ∀ (a b : Tr) (va vb : Value) (w : World) (r : Option Nat), a.dep ≤ d → TrR w r va a → TrR w r vb b →
    Calls Tryz.prog 104 #[va, vb] w fun e w' => e = .returned (.bool (sameT a b)) ∧ Fr none w w'
theorem sameL_ne {a b : List Tr} (h : a.length ≠ b.length) : sameL a b = false := by
  cases hc : sameL a b
  · rfl
  · exact absurd (sameL_len _ _ hc) h
set_option maxRecDepth 100000 in
set_option maxHeartbeats 2000000 in
theorem eqT_any (d : Nat) (ih : SameC d) (i1 i2 : List Tr) (v1 v2 : Value) (w : World) (r : Option Nat) (hdi : depL i1 ≤ d) (h1 : TsR w r v1 i1) (h2 : TsR w r v2 i2) :
    Calls Tryz.prog 160 #[v1, v2, .func (.func 104) #[] #[]] w fun e w' => e = .returned (.bool (sameL i1 i2)) ∧ Fr none w w' := by
  have IH := Lib.hid ih
  have hrun : ∀ args w, Sem.run Tryz.prog (callFunc 104 args) w = .ok (.enter 104 args) w := fun _ _ => by kernel_rfl
  obtain ⟨A, c, rfl, a1, a2, a3, hc⟩ := h1
  obtain ⟨B, e, rfl, b1, b2, b3, kc⟩ := h2
  clear ih
  by_cases hl : i1.length = i2.length
  · obtain ⟨n, hn0⟩ : ∃ n, n = i1.length := ⟨_, rfl⟩
    have hn3 : n = i2.length := hn0.trans hl
    have hcell' : 0 < n → _ := fun h => hc (by omega)
    have kcell' : 0 < n → _ := fun h => kc (by omega)
    have HN0 := Lib.hid hn0
    have HN3 := Lib.hid hn3
    rw [← hn0] at a1 a2
    rw [← hn3] at b1 b2
    rw [← hn0, ← hn3]
    clear hl hn0 hn3 hc kc
    go_enter Tryz.func160, Tryz.ntmps160
    go_wp2_with fail
    go_loopw [17] (fun i wr => ∃ k : Nat, k ≤ n ∧ i = .int .i64 k ∧ Fr none w wr ∧ Hid (sameL i1 i2 = sameL (i1.drop k) (i2.drop k))) (fun i _ => n - (intOf i).toNat)
    case atStart => exact ⟨0, Nat.zero_le _, rfl, Fr.refl _ _, by simp [Hid]⟩
    case round =>
      obtain ⟨k, hk, rfl, F, HS⟩ := hrel
      by_cases hlt : k < n
      · obtain ⟨p, o, rfl, p1, p2, hc⟩ := hcell' (by omega)
        obtain ⟨q, u, rfl, q1, q2, kc⟩ := kcell' (by omega)
        have k1 : k < i1.length := by have := HN0.out; omega
        have k2 : k < i2.length := by have := HN3.out; omega
        obtain ⟨x, y, z, g0, g1, g2, gt⟩ := hc k k1
        obtain ⟨th, A1, m1, c1, A2, m2, c2, rfl, rfl, rfl⟩ := gt.shape
        obtain ⟨x', y', z', l0, l1, l2, lt⟩ := kc k k2
        obtain ⟨th', x1, v1, e1, x2, v2, e2, rfl, rfl, rfl⟩ := lt.shape
        have g0' := F.keep g0 (by simp)
        have g1' := F.keep g1 (by simp)
        have g2' := F.keep g2 (by simp)
        have l0' := F.keep l0 (by simp)
        have l1' := F.keep l1 (by simp)
        have l2' := F.keep l2 (by simp)
        have hdd : (i1[k]).dep ≤ d := by have := depL_get i1 k k1; omega
        have hst := sameL_drop i1 i2 k k1 k2
        have HST := Lib.hid hst
        have gt' := gt.fr (F.mono (r := r))
        have lt' := lt.fr (F.mono (r := r))
        have hpw : p < wr.heap.size := Nat.lt_of_lt_of_le p1 F.size
        have hqw : q < wr.heap.size := Nat.lt_of_lt_of_le q1 F.size
        clear g0 g1 g2 l0 l1 l2 hc kc hst
        obtain ⟨X, hX⟩ : ∃ X, X = sameT i1[k] i2[k] := ⟨_, rfl⟩
        rw [← hX] at HST
        have HX := Lib.hid hX
        clear hX
        go_wp2_with fail
        have FA := (((Fr.refl none wr).alloc (.cells #[.int .i64 th, .slice A1 m1 c1, .slice A2 m2 c2] 31)).alloc (.cells #[.int .i64 th', .slice x1 v1 e1, .slice x2 v2 e2] 31))
        refine (IH.out i1[k] i2[k] _ _ _ r hdd (gt'.fr (FA.mono (r := r))) (lt'.fr (FA.mono (r := r)))).mono ?_
        rintro e3 w2 ⟨rfl, F2⟩
        rw [← HX.out]
        have F3 : Fr none wr w2 := FA.pure F2
        clear g0' g1' g2' l0' l1' l2'
        cases X with
        | true =>
          go_wp2_with fail
          go_roundw
          case rel => exact ⟨k + 1, by omega, by go_num, F.pure F3, by unfold Hid; rw [HS.out, HST.out]; simp⟩
          case measure => simp [intOf]; omega
        | false =>
          go_wp2_with fail
          go_ret
          exact ⟨ret_bool (by rw [HS.out, HST.out]; simp), F.pure F3⟩
      · obtain rfl : k = n := by omega
        go_wp2_with fail
        go_ret
        refine ⟨ret_bool ?_, F⟩
        rw [HS.out, List.drop_eq_nil_of_le (by have := HN0.out; omega), List.drop_eq_nil_of_le (by have := HN3.out; omega)]
        simp [sameL]
  · have HL := Lib.hid (sameL_ne hl)
    have h3' : ((i1.length : Int) != (i2.length : Int)) = true := by rw [bne_iff_ne]; omega
    clear hl
    go_enter Tryz.func160, Tryz.ntmps160
    go_wp2_with fail
    go_ret
    exact ⟨ret_bool (by rw [HL.out]), Fr.refl _ _⟩

set_option maxRecDepth 100000 in
set_option maxHeartbeats 2000000 in
theorem tsame_any : ∀ d, SameC d := by
  intro d
  induction d with
  | zero =>
    intro a b va vb w r hd
    cases a
    simp [Tr.dep] at hd
  | succ d ih =>
    intro a b va vb w r hd ha hb
    obtain ⟨t1, n1, i1⟩ := a
    obtain ⟨t2, n2, i2⟩ := b
    obtain ⟨A, c, A', c', rfl, hthr, hn, hi⟩ := ha.ts
    obtain ⟨B, e, B', e', rfl, kthr, kn, ki⟩ := hb.ts
    have hdi : depL i1 ≤ d := by simp only [Tr.dep] at hd; omega
    have HE : Hid (sameT (.mk t1 n1 i1) (.mk t2 n2 i2) = (decide (t1 = t2) && decide (n1 = n2) && sameL i1 i2)) := by unfold Hid; simp only [sameT]
    have IH := Lib.hid ih
    obtain ⟨N, hN⟩ : ∃ N, N = decide (n1 = n2) := ⟨_, rfl⟩
    obtain ⟨M, hM⟩ : ∃ M, M = sameL i1 i2 := ⟨_, rfl⟩
    rw [← hN, ← hM] at HE
    have HN := Lib.hid hN
    have HM := Lib.hid hM
    clear hd ha hb ih hN hM
    have F0 := ((Fr.refl none w).alloc (.cells #[.int .i64 t1, .slice A n1.length c, .slice A' i1.length c'] 31)).alloc (.cells #[.int .i64 t2, .slice B n2.length e, .slice B' i2.length e'] 31)
    by_cases h1 : t1 = t2
    · subst h1
      go_enter Tryz.func104, Tryz.ntmps104
      go_wp2_with fail
      refine (eqI_any n1 n2 _ _ _ r (hn.fr (F0.mono (r := r))) (kn.fr (F0.mono (r := r)))).mono ?_
      rintro e1 w1 ⟨rfl, F1⟩
      rw [← HN.out]
      have B0 : ((w.alloc (.cells #[.int .i64 t1, .slice A n1.length c, .slice A' i1.length c'] 31)).alloc (.cells #[.int .i64 t1, .slice B n2.length e, .slice B' i2.length e'] 31)).heap[w.heap.size]? = some (.cells #[.int .i64 t1, .slice A n1.length c, .slice A' i1.length c'] 31 (0, 0)) := (Below.heap_alloc _ _ _ (by simp)).trans (blk_new _ _)
      have B1 : ((w.alloc (.cells #[.int .i64 t1, .slice A n1.length c, .slice A' i1.length c'] 31)).alloc (.cells #[.int .i64 t1, .slice B n2.length e, .slice B' i2.length e'] 31)).heap[w.heap.size + 1]? = some (.cells #[.int .i64 t1, .slice B n2.length e, .slice B' i2.length e'] 31 (0, 0)) := blk_new_at (by simp) _
      have R0 := blk_cell (blk_fr B0 F1 (by simp))
      have R1 := blk_cell (blk_fr B1 F1 (by simp))
      have F01 := F0.pure F1
      clear B0 B1 F1 F0
      cases N with
      | true =>
        go_wp2_with fail
        refine (eqT_any d IH.out i1 i2 _ _ _ r hdi (hi.fr (F01.mono (r := r))) (ki.fr (F01.mono (r := r)))).mono ?_
        rintro e2 w2 ⟨rfl, F2⟩
        rw [← HM.out]
        go_wp2_with fail
        go_ret
        exact ⟨ret_bool (by rw [HE.out]; simp), F01.pure F2⟩
      | false =>
        go_wp2_with fail
        go_ret
        exact ⟨ret_bool (by rw [HE.out]; simp), F01⟩
    · have HF : Hid (sameT (.mk t1 n1 i1) (.mk t2 n2 i2) = false) := by
        unfold Hid
        rw [HE.out, decide_eq_false h1]; simp
      have h1' : (t1 == t2) = false := by rw [beq_eq_false_iff_ne]; exact h1
      clear HE h1
      go_enter Tryz.func104, Tryz.ntmps104
      go_wp2_with fail
      go_ret
      exact ⟨ret_bool (by rw [HF.out]), F0⟩
end Go.Proofs.YtpdhckbiioobhaaGreatDoor

/- Walks: slices.Contains at ints; normal.equal; entries, anyOf, allOf. -/
namespace Go.Proofs.YtpdhckbiioobhaaGreatDoor
open Go.RowKit

set_option maxRecDepth 100000 in
theorem index_any (l : List Int) (k : Int) (v : Value) (w : World) (r : Option Nat) (h : SlI w r v l) :
    Calls Tryz.prog 213 #[v, .int .i64 k] w fun e w' => e = .returned (.int .i64 (idxF (fun x => decide (x = k)) l)) ∧ w = w' := by
  obtain ⟨A, c, rfl, q1, q2, hc⟩ := h.open_
  clear h
  go_enter Tryz.func213, Tryz.ntmps213
  go_wp2_with fail
  go_loop [8] (fun i => ∃ j : Nat, j ≤ l.length ∧ i = .int .i64 j ∧ Hid (∀ i (hi : i < l.length), i < j → l[i] ≠ k)) (fun i => l.length - (intOf i).toNat)
  case atStart => exact ⟨0, Nat.zero_le _, rfl, fun i _ h => by omega⟩
  case round =>
    obtain ⟨j, hj, rfl, HN⟩ := hrel
    by_cases hlt : j < l.length
    · obtain ⟨b, off, rfl, hb, hbr, hcc⟩ := hc (by omega)
      have hck := hcc j hlt
      obtain ⟨x, hx⟩ : ∃ x, x = l[j] := ⟨_, rfl⟩
      rw [← hx] at hck
      have HX := Lib.hid hx
      clear hcc hc hx
      by_cases he : k = x
      · subst he
        go_wp2_with fail
        go_ret
        exact ⟨ret_int (idxF_hit _ l j hlt (fun i hi => by rw [decide_eq_false_iff_not]; exact HN.out i (by omega) hi) (by rw [decide_eq_true_eq]; exact HX.out.symm)).symm, rfl⟩
      · have he1 : (k == x) = false := by rw [beq_eq_false_iff_ne]; exact he
        have HE := Lib.hid he
        clear he
        go_wp2_with fail
        go_round
        case rel => exact ⟨j + 1, by omega, by go_num, fun i hi h => by
          by_cases e : i = j
          · subst e; rw [← HX.out]; exact Ne.symm HE.out
          · exact HN.out i hi (by omega)⟩
        case measure => simp [intOf]; omega
    · obtain rfl : j = l.length := by omega
      go_wp2_with fail
      go_ret
      exact ⟨ret_int (idxF_miss _ l (fun i hi => by rw [decide_eq_false_iff_not]; exact HN.out i hi hi)).symm, rfl⟩
theorem contains_any (l : List Int) (k : Int) (v : Value) (w : World) (r : Option Nat) (h : SlI w r v l) :
    Calls Tryz.prog 178 #[v, .int .i64 k] w fun e w' => e = .returned (.bool (l.any fun x => decide (x = k))) ∧ w = w' := by
  go_enter Tryz.func178, Tryz.ntmps178
  go_wp2_with fail
  refine (index_any l k v _ r h).mono ?_
  rintro e w' ⟨rfl, rfl⟩
  go_wp2_with fail
  go_ret
  exact ⟨ret_bool (idxF_any _ l), rfl⟩

/-- The first place of a list at which something is true, or -1. -/
def idxA {α : Type} (p : α → Bool) : List α → Int
  | [] => -1
  | x :: r => if p x then 0 else if idxA p r < 0 then -1 else idxA p r + 1
theorem idxA_any {α : Type} (p : α → Bool) : ∀ l, decide (0 ≤ idxA p l) = l.any p
  | [] => rfl
  | x :: r => by
    have ih := idxA_any p r
    simp only [idxA, List.any_cons]
    by_cases hp : p x = true
    · simp [hp]
    · simp only [hp, if_false, Bool.false_or, Bool.false_eq_true]
      rw [← ih]
      by_cases h : idxA p r < 0
      · rw [if_pos h, decide_eq_false (by omega), decide_eq_false (by omega)]
      · rw [if_neg h, decide_eq_true (by omega), decide_eq_true (by omega)]
theorem idxA_hit {α : Type} (p : α → Bool) : ∀ (l : List α) (k : Nat) (hk : k < l.length), (∀ i (hi : i < k), p (l[i]'(by omega)) = false) → p l[k] = true → idxA p l = k
  | [], k, hk, _, _ => by simp at hk
  | x :: r, 0, _, _, h => by simp only [List.getElem_cons_zero] at h; simp [idxA, h]
  | x :: r, k + 1, hk, h0, h => by
    have hx := h0 0 (by omega)
    simp only [List.getElem_cons_zero] at hx
    have ih := idxA_hit p r k (by simpa using hk) (fun i hi => by
      have := h0 (i + 1) (by omega)
      simpa using this) (by simpa using h)
    simp only [idxA, hx, ih]
    simp
    omega
theorem idxA_miss {α : Type} (p : α → Bool) : ∀ (l : List α), (∀ i (hi : i < l.length), p l[i] = false) → idxA p l = -1
  | [], _ => rfl
  | x :: r, h => by
    have hx := h 0 (by simp)
    simp only [List.getElem_cons_zero] at hx
    have ih := idxA_miss p r (fun i hi => by
      have := h (i + 1) (by simpa using hi)
      simpa using this)
    simp [idxA, hx, ih]

theorem equal1_any (x t : Tr) (vx : Value) (b : Nat) (th : Int) (A1 : Option Addr) (n1 c1 : Nat) (A2 : Option Addr) (n2 c2 : Nat) (w : World) (r : Option Nat) (hb : TB w b (.int .i64 th) (.slice A1 n1 c1) (.slice A2 n2 c2)) (hx : TrR w r vx x) (ht : TrR w r (.agg #[.int .i64 th, .slice A1 n1 c1, .slice A2 n2 c2]) t) :
    Calls Tryz.prog 215 #[vx, .pointer (some ⟨b, 0, none⟩)] w fun e w' => e = .returned (.bool (sameT x t)) ∧ Fr none w w' := by
  obtain ⟨th', B1, m1, d1, B2, m2, d2, rfl⟩ := TrD.shape hx
  have R := hb.cell
  have hlb := blk_lt hb
  go_enter Tryz.func215, Tryz.ntmps215
  go_wp2_with fail
  have F := (Fr.refl none w).alloc (.cells #[.int .i64 th', .slice B1 m1 d1, .slice B2 m2 d2] 31)
  refine (tsame_any x.dep x t _ _ _ r (Nat.le_refl _) (hx.fr (F.mono (r := r))) (ht.fr (F.mono (r := r)))).mono ?_
  rintro e w' ⟨rfl, F2⟩
  go_wp2_with fail
  go_ret
  exact ⟨rfl, F.pure F2⟩
set_option maxRecDepth 100000 in
set_option maxHeartbeats 1000000 in
theorem idxT_any (l : List Tr) (t : Tr) (v : Value) (b : Nat) (th : Int) (A1 : Option Addr) (n1 c1 : Nat) (A2 : Option Addr) (n2 c2 : Nat) (w : World) (r : Option Nat) (h : TsR w r v l) (hb : TB w b (.int .i64 th) (.slice A1 n1 c1) (.slice A2 n2 c2)) (ht : TrR w r (.agg #[.int .i64 th, .slice A1 n1 c1, .slice A2 n2 c2]) t) :
    Calls Tryz.prog 248 #[v, .func (.func 215) #[] #[.pointer (some ⟨b, 0, none⟩)]] w fun e w' => e = .returned (.int .i64 (idxA (fun x => sameT x t) l)) ∧ Fr none w w' := by
  have hrun : ∀ args w, Sem.run Tryz.prog (callFunc 215 args) w = .ok (.enter 215 args) w := fun _ _ => by kernel_rfl
  obtain ⟨A, c, rfl, a1, a2, a3, hc⟩ := h
  have HT := Lib.hid ht
  have HB := Lib.hid hb
  clear ht hb
  go_enter Tryz.func248, Tryz.ntmps248
  go_wp2_with fail
  go_loopw [8] (fun i wr => ∃ k : Nat, k ≤ l.length ∧ i = .int .i64 k ∧ Fr none w wr ∧ Hid (∀ j (hj : j < l.length), j < k → sameT l[j] t = false)) (fun i _ => l.length - (intOf i).toNat)
  case atStart => exact ⟨0, Nat.zero_le _, rfl, Fr.refl _ _, fun j hj h => by omega⟩
  case round =>
    obtain ⟨k, hk, rfl, F, HN⟩ := hrel
    by_cases hlt : k < l.length
    · obtain ⟨p, o, rfl, p1, p2, hcc⟩ := hc (by omega)
      obtain ⟨x, y, z, g0, g1, g2, gt⟩ := hcc k hlt
      obtain ⟨th', B1, m1, d1, B2, m2, d2, rfl, rfl, rfl⟩ := gt.shape
      have g0' := F.keep g0 (by simp)
      have g1' := F.keep g1 (by simp)
      have g2' := F.keep g2 (by simp)
      have gt' := gt.fr (F.mono (r := r))
      obtain ⟨X, hX⟩ : ∃ X, X = sameT l[k] t := ⟨_, rfl⟩
      have HX := Lib.hid hX
      clear g0 g1 g2 hcc hc hX
      go_wp2_with fail
      refine (equal1_any l[k] t _ b th A1 n1 c1 A2 n2 c2 _ r (HB.out.fr F (by simp)) gt' (HT.out.fr (F.mono (r := r)))).mono ?_
      rintro e w2 ⟨rfl, F2⟩
      rw [← HX.out]
      clear g0' g1' g2'
      cases X with
      | true =>
        go_wp2_with fail
        go_ret
        exact ⟨ret_int (idxA_hit _ l k hlt (fun i hi => HN.out i (by omega) hi) HX.out.symm).symm, F.pure F2⟩
      | false =>
        go_wp2_with fail
        go_roundw
        case rel => exact ⟨k + 1, by omega, by go_num, F.pure F2, fun j hj h => by
          by_cases e : j = k
          · subst e; exact HX.out.symm
          · exact HN.out j hj (by omega)⟩
        case measure => simp [intOf]; omega
    · obtain rfl : k = l.length := by omega
      go_wp2_with fail
      go_ret
      exact ⟨ret_int (idxA_miss _ l (fun i hi => HN.out i hi hi)).symm, F⟩
theorem conT_any (l : List Tr) (t : Tr) (v : Value) (b : Nat) (th : Int) (A1 : Option Addr) (n1 c1 : Nat) (A2 : Option Addr) (n2 c2 : Nat) (w : World) (r : Option Nat) (h : TsR w r v l) (hb : TB w b (.int .i64 th) (.slice A1 n1 c1) (.slice A2 n2 c2)) (ht : TrR w r (.agg #[.int .i64 th, .slice A1 n1 c1, .slice A2 n2 c2]) t) :
    Calls Tryz.prog 214 #[v, .func (.func 215) #[] #[.pointer (some ⟨b, 0, none⟩)]] w fun e w' => e = .returned (.bool (l.any fun x => sameT x t)) ∧ Fr none w w' := by
  go_enter Tryz.func214, Tryz.ntmps214
  go_wp2_with fail
  refine (idxT_any l t v b th A1 n1 c1 A2 n2 c2 _ r h hb ht).mono ?_
  rintro e w' ⟨rfl, F⟩
  go_wp2_with fail
  go_ret
  exact ⟨ret_bool (idxA_any _ l), F⟩
theorem any_same (l : List Tr) (t : Tr) : (l.any fun x => sameT x t) = l.any fun x => decide (cmpT x t = 0) := by
  congr 1
  funext x
  rw [Bool.eq_iff_iff, sameT_iff, decide_eq_true_eq, cmpT_zero]
theorem equal_any (l : List Tr) (t : Tr) (v vt : Value) (w : World) (r : Option Nat) (h : TsR w r v l) (ht : TrR w r vt t) :
    Calls Tryz.prog 180 #[v, vt] w fun e w' => e = .returned (.bool (l.any fun x => decide (cmpT x t = 0))) ∧ Fr none w w' := by
  obtain ⟨th, A1, n1, c1, A2, n2, c2, rfl⟩ := TrD.shape ht
  go_enter Tryz.func180, Tryz.ntmps180
  go_wp2_with fail
  have F := (Fr.refl none w).alloc (.cells #[.int .i64 th, .slice A1 n1 c1, .slice A2 n2 c2] 31)
  refine (conT_any l t v w.heap.size th A1 n1 c1 A2 n2 c2 _ r (h.fr (F.mono (r := r))) (blk_new _ _) (TrR.fr ht (F.mono (r := r)))).mono ?_
  rintro e w' ⟨rfl, F2⟩
  go_wp2_with fail
  go_ret
  exact ⟨ret_bool (any_same l t), F.pure F2⟩

theorem nentries_any (t : Tr) (v : Value) (w : World) (D : Nat → Prop) (h : TrD w D v t) : Calls Tryz.prog 136 #[v] w fun e w' => e = .returned (.int .i64 ((cnt1 t : Nat) : Int)) ∧ Fr none w w' := by
  obtain ⟨thr, nodes, inner⟩ := t
  have hc : Hid (cnt1 (.mk thr nodes inner) = nodes.length + inner.length) := rfl
  simp only [TrD] at h
  obtain ⟨vn, vi, cells, rfl, h0, h1, h2, h3, h4, h5, h6⟩ := h
  have e1 := h6.len
  obtain ⟨A, n, c, rfl, l1, _, _, _⟩ := h1
  obtain ⟨A', n', c', rfl, l2, _, _, _⟩ := h3
  obtain rfl : n = nodes.length := by simpa using l1.symm
  obtain rfl : n' = inner.length := by omega
  unfold Few at h4 h5
  clear h2 h6 e1 l1 l2
  go_enter Tryz.func136, Tryz.ntmps136
  go_wp2_with fail
  go_ret
  exact ⟨ret_int (by rw [hc.out]; omega), (Fr.refl _ _).alloc _⟩
theorem anyOf_any (t : Tr) (v : Value) (w : World) (D : Nat → Prop) (h : TrD w D v t) : Calls Tryz.prog 133 #[v] w fun e w' => e = .returned (.bool (tak false t)) ∧ Fr none w w' := by
  obtain ⟨thr, nodes, inner⟩ := t
  have hc : Hid (tak false (.mk thr nodes inner) = decide (thr = 1)) := rfl
  simp only [TrD] at h
  obtain ⟨vn, vi, cells, rfl, h0, h1, h2, h3, h4, h5, h6⟩ := h
  obtain ⟨A, n, c, rfl, l1, _, _, _⟩ := h1
  obtain ⟨A', n', c', rfl, l2, _, _, _⟩ := h3
  clear h2 h6 l1 l2
  go_enter Tryz.func133, Tryz.ntmps133
  go_wp2_with fail
  go_ret
  exact ⟨ret_bool (by rw [hc.out]; rfl), (Fr.refl _ _).alloc _⟩
set_option maxHeartbeats 1000000 in
theorem allOf_any (t : Tr) (v : Value) (w : World) (D : Nat → Prop) (hD : ∀ b, D b → b < w.heap.size) (h : TrD w D v t) : Calls Tryz.prog 135 #[v] w fun e w' => e = .returned (.bool (tak true t)) ∧ Fr none w w' := by
  obtain ⟨thr, nodes, inner⟩ := t
  have hc : Hid (tak true (.mk thr nodes inner) = decide (thr = ((cnt1 (.mk thr nodes inner) : Nat) : Int))) := rfl
  have HT := Lib.hid h
  simp only [TrD] at h
  obtain ⟨vn, vi, cells, rfl, h0, h1, h2, h3, h4, h5, h6⟩ := h
  obtain ⟨A, n, c, rfl, l1, _, _, _⟩ := h1
  obtain ⟨A', n', c', rfl, l2, _, _, _⟩ := h3
  obtain ⟨N, hN⟩ : ∃ N, N = cnt1 (.mk thr nodes inner) := ⟨_, rfl⟩
  rw [← hN] at hc
  have HN := Lib.hid hN
  clear h2 h6 l1 l2 hN h4 h5
  go_enter Tryz.func135, Tryz.ntmps135
  go_upto_region 1 with (fail)
  generalize hW : w.alloc _ = w1
  have F1 : Fr none w w1 := hW ▸ (Fr.refl none w).alloc _
  have b1 : TB w1 w.heap.size (.int .i64 thr) (.slice A n c) (.slice A' n' c') := by rw [← hW]; exact blk_new _ _
  clear hW
  refine wp_region_held_drew (S := fun W => (∀ k, W.cell? ⟨w.heap.size, k, none⟩ = (#[.int .i64 thr, .slice A n c, .slice A' n' c'] : Array Value)[k]?) ∧ Fr none w1 W) (by kernel_rfl) ⟨b1.cell, (Fr.refl _ _).drew⟩ (fun hH0 => ?_)
  have HB1 := Lib.hid b1
  clear b1
  refine wpAnyH_take (i := 0) (v := ?_) rfl (by kernel_rfl) (by kernel_rfl) (by kernel_rfl) (fun _ _ _ h => h) (Or.inl ⟨by rfl, ?_⟩) (by assumption) ?_
  rotate_left
  · (intro W hW; (try dsimp only at hW); go_simp; try with_reducible rfl)
  try simp only [Act.put, List.setIfInBounds_toArray, List.set_cons_zero, List.set_cons_succ, List.getElem_toArray, List.getElem_cons_zero, List.getElem_cons_succ]
  refine wpAnyH_take (i := 1) (v := ?_) rfl (by kernel_rfl) (by kernel_rfl) (by kernel_rfl) (fun _ _ _ h => h) (Or.inl ⟨by rfl, ?_⟩) (by assumption) ?_
  rotate_left
  · (intro W hW; (try dsimp only at hW); go_simp; try with_reducible rfl)
  try simp only [Act.put, List.setIfInBounds_toArray, List.set_cons_zero, List.set_cons_succ, List.getElem_toArray, List.getElem_cons_zero, List.getElem_cons_succ]
  refine wpAnyH_take (i := 2) (v := ?_) rfl (by kernel_rfl) (by kernel_rfl) (by kernel_rfl) (fun _ _ _ h => h) (Or.inl ⟨by rfl, ?_⟩) (by assumption) ?_
  rotate_left
  · (intro W hW; (try dsimp only at hW); go_simp; try with_reducible rfl)
  try simp only [Act.put, List.setIfInBounds_toArray, List.set_cons_zero, List.set_cons_succ, List.getElem_toArray, List.getElem_cons_zero, List.getElem_cons_succ]
  refine wpAnyH_ready (rs := [3]) (by kernel_rfl) (by simp) ?_
  refine AllReadyH.cons rfl (fun K hK => ?_) AllReadyH.nil
  simp only [List.getElem_toArray, List.getElem_cons_zero, List.getElem_cons_succ]
  go_simp
  go_at_call 136
  refine (nentries_any (.mk thr nodes inner) _ _ D (TrD.keep (fun k hk => ⟨hk, (F1.pure hH0.2).block k (hD k hk) (by simp)⟩) _ _ HT.out)).mono ?_
  rintro e2 w2 ⟨rfl, F2⟩
  rw [← HN.out]
  have F12 := hH0.2.pure F2
  refine hK.out _ _ ⟨(HB1.out.fr F12 (by simp)).cell, F12⟩ (fun hH1 => ?_)
  clear hK K
  try simp only [Act.put, List.setIfInBounds_toArray, List.set_cons_zero, List.set_cons_succ, List.getElem_toArray, List.getElem_cons_zero, List.getElem_cons_succ]
  refine wpAnyH_take (i := 4) (v := ?_) rfl (by kernel_rfl) (by kernel_rfl) (by kernel_rfl) (fun _ _ _ h => h) (Or.inl ⟨by rfl, ?_⟩) (by assumption) ?_
  rotate_left
  · (intro W hW; (try dsimp only at hW); go_simp; try with_reducible rfl)
  try simp only [Act.put, List.setIfInBounds_toArray, List.set_cons_zero, List.set_cons_succ, List.getElem_toArray, List.getElem_cons_zero, List.getElem_cons_succ]
  refine wpAnyH_take (i := 5) (v := ?_) rfl (by kernel_rfl) (by kernel_rfl) (by kernel_rfl) (fun _ _ _ h => h) (Or.inl ⟨by rfl, ?_⟩) (by assumption) ?_
  rotate_left
  · (intro W hW; (try dsimp only at hW); go_simp; try with_reducible rfl)
  try simp only [Act.put, List.setIfInBounds_toArray, List.set_cons_zero, List.set_cons_succ, List.getElem_toArray, List.getElem_cons_zero, List.getElem_cons_succ]
  refine wpAnyH_done (by kernel_rfl) ?_ _
  go_wp2_with fail
  go_ret
  exact ⟨ret_bool (by rw [hc.out]; rfl), F1.pure F12⟩
end Go.Proofs.YtpdhckbiioobhaaGreatDoor

/- Walks: normal.Compare: slices.Compare at ints, slices.CompareFunc at trusts. -/
namespace Go.Proofs.YtpdhckbiioobhaaGreatDoor
open Go.RowKit

theorem cmpI_sgn (a b : Int) : cmpI a b = sgnI a b := rfl
theorem cmpNs_nil (b : List Int) : cmpNs [] b = if (0 : Int) < b.length then -1 else 0 := by
  cases b with
  | nil => simp [cmpNs]
  | cons y s => simp [cmpNs]
theorem cmpTs_nil (b : List Tr) : cmpTs [] b = if (0 : Int) < b.length then -1 else 0 := by
  cases b with
  | nil => simp [cmpTs]
  | cons y s => simp [cmpTs]
set_option maxRecDepth 100000 in
set_option maxHeartbeats 1000000 in
theorem cmpL_any (a b : List Int) (va vb : Value) (w : World) (r : Option Nat) (ha : SlI w r va a) (hb : SlI w r vb b) :
    Calls Tryz.prog 92 #[va, vb] w fun e w' => e = .returned (.int .i64 (cmpNs a b)) ∧ w = w' := by
  obtain ⟨A, c, rfl, q1, q2, hc⟩ := ha.open_
  obtain ⟨B, d, rfl, q3, q4, hd⟩ := hb.open_
  clear ha hb
  go_enter Tryz.func92, Tryz.ntmps92
  go_wp2_with fail
  go_loop [11] (fun i => ∃ k : Nat, k ≤ a.length ∧ k ≤ b.length ∧ i = .int .i64 k ∧ Hid (cmpNs a b = cmpNs (a.drop k) (b.drop k))) (fun i => a.length - (intOf i).toNat)
  case atStart => exact ⟨0, Nat.zero_le _, Nat.zero_le _, rfl, by simp [Hid]⟩
  case round =>
    obtain ⟨k, hk, hkb, rfl, HK⟩ := hrel
    by_cases hlt : k < a.length
    · obtain ⟨p, o, rfl, _, _, hcc⟩ := hc (by omega)
      have hck := hcc k hlt
      have hd1 : a.drop k = a[k] :: a.drop (k + 1) := List.drop_eq_getElem_cons hlt
      obtain ⟨x, hx⟩ : ∃ x, x = a[k] := ⟨_, rfl⟩
      rw [← hx] at hck hd1
      have HD1 := Lib.hid hd1
      clear hcc hc hx hd1
      by_cases hlb : k < b.length
      · obtain ⟨p2, o2, rfl, _, _, hdd⟩ := hd (by omega)
        have hdk := hdd k hlb
        have hd2 : b.drop k = b[k] :: b.drop (k + 1) := List.drop_eq_getElem_cons hlb
        obtain ⟨y, hy⟩ : ∃ y, y = b[k] := ⟨_, rfl⟩
        rw [← hy] at hdk hd2
        have HD2 := Lib.hid hd2
        clear hdd hd hy hd2
        obtain ⟨C, hC⟩ : ∃ C, C = sgnI x y := ⟨_, rfl⟩
        have HC := Lib.hid hC
        have HK2 : Hid (cmpNs a b = if C ≠ 0 then C else cmpNs (a.drop (k + 1)) (b.drop (k + 1))) := by unfold Hid; rw [HK.out, HD1.out, HD2.out, hC]; simp only [cmpNs]
        clear hC HK
        by_cases hc0 : C = 0
        · subst hc0
          go_wp2_with (go_at_call 91; refine (cmpCompare_any x y _).mono ?_; rintro e w' ⟨rfl, rfl⟩; rw [cmpI_sgn, ← HC.out])
          go_round
          case rel => exact ⟨k + 1, by omega, by omega, by go_num, by unfold Hid; rw [HK2.out, if_neg (by simp)]⟩
          case measure => simp [intOf]; omega
        · have hb4 : (C != 0) = true := by rw [bne_iff_ne]; exact hc0
          have HF : Hid (cmpNs a b = C) := by unfold Hid; rw [HK2.out, if_pos hc0]
          clear hc0
          go_wp2_with (go_at_call 91; refine (cmpCompare_any x y _).mono ?_; rintro e w' ⟨rfl, rfl⟩; rw [cmpI_sgn, ← HC.out])
          go_ret
          exact ⟨ret_int (by rw [HF.out]), rfl⟩
      · have HF : Hid (cmpNs a b = 1) := by
          unfold Hid
          have e0 : b.drop k = [] := List.drop_eq_nil_of_le (by omega)
          rw [HK.out, HD1.out, e0]
          simp [cmpNs]
        have hge : b.length ≤ k := by omega
        clear hlb HK
        go_wp2_with fail
        go_ret
        exact ⟨ret_int (by rw [HF.out]), rfl⟩
    · obtain rfl : k = a.length := by omega
      have HF : Hid (cmpNs a b = if a.length < b.length then -1 else 0) := by
        unfold Hid
        rw [HK.out, List.drop_length, cmpNs_nil, List.length_drop]
        by_cases h : a.length < b.length
        · rw [if_pos h, if_pos (by omega)]
        · rw [if_neg h, if_neg (by omega)]
      clear HK
      by_cases h : a.length < b.length
      · go_wp2_with fail
        go_ret
        exact ⟨ret_int (by rw [HF.out, if_pos h]), rfl⟩
      · go_wp2_with fail
        go_ret
        exact ⟨ret_int (by rw [HF.out, if_neg h]), rfl⟩

/-- What Compare does, of a trust that is not deeper than d. -/
def CmpC (d : Nat) : Prop := ∀ (a b : Tr) (va vb : Value) (w : World) (r : Option Nat), a.dep ≤ d → TrR w r va a → TrR w r vb b →
    Calls Tryz.prog 29 #[va, vb] w fun e w' => e = .returned (.int .i64 (cmpT a b)) ∧ Fr none w w' ∧ w.drawn ≤ w'.drawn
set_option maxRecDepth 100000 in
set_option maxHeartbeats 2000000 in
theorem cmpF_any (d : Nat) (ih : CmpC d) (i1 i2 : List Tr) (v1 v2 : Value) (w : World) (r : Option Nat) (hdi : depL i1 ≤ d) (h1 : TsR w r v1 i1) (h2 : TsR w r v2 i2) :
    Calls Tryz.prog 93 #[v1, v2, .func (.func 29) #[] #[]] w fun e w' => e = .returned (.int .i64 (cmpTs i1 i2)) ∧ Fr none w w' ∧ w.drawn ≤ w'.drawn := by
  have IH := Lib.hid ih
  have hrun : ∀ args w, Sem.run Tryz.prog (callFunc 29 args) w = .ok (.enter 29 args) w := fun _ _ => by kernel_rfl
  obtain ⟨A, c, rfl, a1, a2, a3, hc⟩ := h1
  obtain ⟨B, e, rfl, b1, b2, b3, kc⟩ := h2
  clear ih
  go_enter Tryz.func93, Tryz.ntmps93
  go_wp2_with fail
  go_loopw [13] (fun i wr => ∃ k : Nat, k ≤ i1.length ∧ k ≤ i2.length ∧ i = .int .i64 k ∧ Fr none w wr ∧ w.drawn ≤ wr.drawn ∧ Hid (cmpTs i1 i2 = cmpTs (i1.drop k) (i2.drop k))) (fun i _ => i1.length - (intOf i).toNat)
  case atStart => exact ⟨0, Nat.zero_le _, Nat.zero_le _, rfl, Fr.refl _ _, Nat.le_refl _, by simp [Hid]⟩
  case round =>
    obtain ⟨k, hk, hkb, rfl, F, hdr, HK⟩ := hrel
    have HDR := Lib.hid hdr
    clear hdr
    by_cases hlt : k < i1.length
    · obtain ⟨p, o, rfl, p1, p2, hcc⟩ := hc (by omega)
      obtain ⟨x, y, z, g0, g1, g2, gt⟩ := hcc k hlt
      obtain ⟨th, A1, m1, c1, A2, m2, c2, rfl, rfl, rfl⟩ := gt.shape
      have g0' := F.keep g0 (by simp)
      have g1' := F.keep g1 (by simp)
      have g2' := F.keep g2 (by simp)
      have hd1 : i1.drop k = i1[k] :: i1.drop (k + 1) := List.drop_eq_getElem_cons hlt
      have hdd : (i1[k]).dep ≤ d := by have := depL_get i1 k hlt; omega
      have gt' := gt.fr (F.mono (r := r))
      have hpw : p < wr.heap.size := Nat.lt_of_lt_of_le p1 F.size
      have HD1 := Lib.hid hd1
      clear g0 g1 g2 hcc hc hd1
      by_cases hlb : k < i2.length
      · obtain ⟨q, u, rfl, q1, q2, kcc⟩ := kc (by omega)
        obtain ⟨x', y', z', l0, l1, l2, lt⟩ := kcc k hlb
        obtain ⟨th', x1, v1, e1, x2, v2, e2, rfl, rfl, rfl⟩ := lt.shape
        have l0' := F.keep l0 (by simp)
        have l1' := F.keep l1 (by simp)
        have l2' := F.keep l2 (by simp)
        have lt' := lt.fr (F.mono (r := r))
        have hqw : q < wr.heap.size := Nat.lt_of_lt_of_le q1 F.size
        have hd2 : i2.drop k = i2[k] :: i2.drop (k + 1) := List.drop_eq_getElem_cons hlb
        obtain ⟨C, hC⟩ : ∃ C, C = cmpT i1[k] i2[k] := ⟨_, rfl⟩
        have HC := Lib.hid hC
        have HK2 : Hid (cmpTs i1 i2 = if C ≠ 0 then C else cmpTs (i1.drop (k + 1)) (i2.drop (k + 1))) := by unfold Hid; rw [HK.out, HD1.out, hd2, hC]; simp only [cmpTs]
        clear hC HK l0 l1 l2 kcc kc hd2
        go_wp2_with fail
        have FA := (((Fr.refl none wr).alloc (.cells #[.int .i64 th, .slice A1 m1 c1, .slice A2 m2 c2] 31)).alloc (.cells #[.int .i64 th', .slice x1 v1 e1, .slice x2 v2 e2] 31))
        refine (IH.out i1[k] i2[k] _ _ _ r hdd (gt'.fr (FA.mono (r := r))) (lt'.fr (FA.mono (r := r)))).mono ?_
        rintro e3 w2 ⟨rfl, F2, hdw⟩
        rw [← HC.out]
        have F3 : Fr none wr w2 := FA.pure F2
        have hdw2 : w.drawn ≤ w2.drawn := Nat.le_trans HDR.out hdw
        have HDW := Lib.hid hdw2
        clear g0' g1' g2' l0' l1' l2' hdw hdw2
        by_cases hc0 : C = 0
        · subst hc0
          go_wp2_with fail
          go_roundw
          case rel => exact ⟨k + 1, by omega, by omega, by go_num, F.pure F3, HDW.out, by unfold Hid; rw [HK2.out, if_neg (by simp)]⟩
          case measure => simp [intOf]; omega
        · have hb4 : (C != 0) = true := by rw [bne_iff_ne]; exact hc0
          have HF : Hid (cmpTs i1 i2 = C) := by unfold Hid; rw [HK2.out, if_pos hc0]
          clear hc0
          go_wp2_with fail
          go_ret
          exact ⟨ret_int (by rw [HF.out]), F.pure F3, HDW.out⟩
      · have HF : Hid (cmpTs i1 i2 = 1) := by
          unfold Hid
          have e0 : i2.drop k = [] := List.drop_eq_nil_of_le (by omega)
          rw [HK.out, HD1.out, e0]
          simp [cmpTs]
        have hge : i2.length ≤ k := by omega
        clear hlb HK
        go_wp2_with fail
        go_ret
        exact ⟨ret_int (by rw [HF.out]), F.alloc _, HDR.out⟩
    · obtain rfl : k = i1.length := by omega
      have HF : Hid (cmpTs i1 i2 = if i1.length < i2.length then -1 else 0) := by
        unfold Hid
        rw [HK.out, List.drop_length, cmpTs_nil, List.length_drop]
        by_cases h : i1.length < i2.length
        · rw [if_pos h, if_pos (by omega)]
        · rw [if_neg h, if_neg (by omega)]
      clear HK
      by_cases h : i1.length < i2.length
      · go_wp2_with fail
        go_ret
        exact ⟨ret_int (by rw [HF.out, if_pos h]), F, HDR.out⟩
      · go_wp2_with fail
        go_ret
        exact ⟨ret_int (by rw [HF.out, if_neg h]), F, HDR.out⟩

theorem orL3 (a b c : Int) : orL [a, b, c] = if a ≠ 0 then a else if b ≠ 0 then b else c := by
  by_cases h1 : a = 0
  · subst h1
    by_cases h2 : b = 0
    · subst h2
      by_cases h3 : c = 0 <;> simp [orL, h3]
    · simp [orL, h2]
  · simp [orL, h1]
theorem sgnI_wi (a b : Int) : Wi (sgnI a b) := cmpI_wi a b
theorem cmpNs_wi : ∀ a b : List Int, Wi (cmpNs a b)
  | [], [] => by constructor <;> simp [cmpNs]
  | [], _ :: _ => by constructor <;> simp [cmpNs]
  | _ :: _, [] => by constructor <;> simp [cmpNs]
  | x :: r, y :: s => by
    simp only [cmpNs]
    split
    · exact sgnI_wi x y
    · exact cmpNs_wi r s
mutual
theorem cmpT_wi : ∀ a b : Tr, Wi (cmpT a b)
  | .mk t n i, .mk t' n' i' => by
    simp only [cmpT]
    split
    · exact sgnI_wi _ _
    · split
      · exact cmpNs_wi _ _
      · exact cmpTs_wi i i'
theorem cmpTs_wi : ∀ a b : List Tr, Wi (cmpTs a b)
  | [], [] => by constructor <;> simp [cmpTs]
  | [], _ :: _ => by constructor <;> simp [cmpTs]
  | _ :: _, [] => by constructor <;> simp [cmpTs]
  | x :: r, y :: s => by
    simp only [cmpTs]
    split
    · exact cmpT_wi x y
    · exact cmpTs_wi r s
end
set_option maxRecDepth 100000 in
set_option maxHeartbeats 2000000 in
theorem cmp_any : ∀ d, CmpC d := by
  intro d
  induction d with
  | zero =>
    intro a b va vb w r hd
    cases a
    simp [Tr.dep] at hd
  | succ d ih =>
    intro a b va vb w r hd ha hb
    obtain ⟨t1, n1, i1⟩ := a
    obtain ⟨t2, n2, i2⟩ := b
    obtain ⟨A, c, A', c', rfl, hthr, hn, hi⟩ := ha.ts
    obtain ⟨B, e, B', e', rfl, kthr, kn, ki⟩ := hb.ts
    have hdi : depL i1 ≤ d := by simp only [Tr.dep] at hd; omega
    obtain ⟨C1, h1⟩ : ∃ C, C = sgnI t1 t2 := ⟨_, rfl⟩
    obtain ⟨C2, h2⟩ : ∃ C, C = cmpNs n1 n2 := ⟨_, rfl⟩
    obtain ⟨C3, h3⟩ : ∃ C, C = cmpTs i1 i2 := ⟨_, rfl⟩
    have HE : Hid (orL [C1, C2, C3] = cmpT (.mk t1 n1 i1) (.mk t2 n2 i2)) := by unfold Hid; rw [orL3, h1, h2, h3]; simp only [cmpT]
    have hw : ∀ x ∈ [C1, C2, C3], Wi x := by
      intro x hx
      simp only [List.mem_cons, List.mem_nil_iff, or_false] at hx
      rcases hx with rfl | rfl | rfl
      · rw [h1]; exact sgnI_wi _ _
      · rw [h2]; exact cmpNs_wi _ _
      · rw [h3]; exact cmpTs_wi _ _
    have H1 := Lib.hid h1
    have H2 := Lib.hid h2
    have H3 := Lib.hid h3
    have HW := Lib.hid hw
    have IH := Lib.hid ih
    have HN := Lib.hid hn
    have KN := Lib.hid kn
    have HI := Lib.hid hi
    have KI := Lib.hid ki
    clear h1 h2 h3 hw ih hd ha hb hn kn hi ki
    go_enter Tryz.func29, Tryz.ntmps29
    go_upto_region 1 with (fail)
    generalize hW : (w.alloc _).alloc _ = w1
    have F1 : Fr none w w1 := hW ▸ ((Fr.refl _ w).alloc _).alloc _
    have D1 : w.drawn ≤ w1.drawn := by rw [← hW]; exact Nat.le_refl _
    have b0 : TB w1 w.heap.size (.int .i64 t1) (.slice A n1.length c) (.slice A' i1.length c') := by rw [← hW]; exact (Below.heap_alloc _ _ _ (by simp)).trans (blk_new _ _)
    have b1 : TB w1 (w.heap.size + 1) (.int .i64 t2) (.slice B n2.length e) (.slice B' i2.length e') := by rw [← hW]; exact blk_new_at (by simp) _
    clear hW
    have HB0 := Lib.hid b0
    have HB1 := Lib.hid b1
    refine wp_region_held_drew (S := fun W => (∀ k, W.cell? ⟨w.heap.size, k, none⟩ = (#[.int .i64 t1, .slice A n1.length c, .slice A' i1.length c'] : Array Value)[k]?) ∧ (∀ k, W.cell? ⟨w.heap.size + 1, k, none⟩ = (#[.int .i64 t2, .slice B n2.length e, .slice B' i2.length e'] : Array Value)[k]?) ∧ Fr none w1 W ∧ w.drawn ≤ W.drawn) (by kernel_rfl) ⟨b0.cell, b1.cell, (Fr.refl _ _).drew, Nat.le_succ_of_le D1⟩ (fun hH0 => ?_)
    clear b0 b1
    refine wpAnyH_take (i := 0) (v := ?_) rfl (by kernel_rfl) (by kernel_rfl) (by kernel_rfl) (fun _ _ _ h => h) (Or.inl ⟨by rfl, ?_⟩) (by assumption) ?_
    rotate_left
    · (intro W hW; (try dsimp only at hW); go_simp; try with_reducible rfl)
    try simp only [Act.put, List.setIfInBounds_toArray, List.set_cons_zero, List.set_cons_succ, List.getElem_toArray, List.getElem_cons_zero, List.getElem_cons_succ]
    refine wpAnyH_take (i := 1) (v := ?_) rfl (by kernel_rfl) (by kernel_rfl) (by kernel_rfl) (fun _ _ _ h => h) (Or.inl ⟨by rfl, ?_⟩) (by assumption) ?_
    rotate_left
    · (intro W hW; (try dsimp only at hW); go_simp; try with_reducible rfl)
    try simp only [Act.put, List.setIfInBounds_toArray, List.set_cons_zero, List.set_cons_succ, List.getElem_toArray, List.getElem_cons_zero, List.getElem_cons_succ]
    refine wpAnyH_take (i := 2) (v := ?_) rfl (by kernel_rfl) (by kernel_rfl) (by kernel_rfl) (fun _ _ _ h => h) (Or.inl ⟨by rfl, ?_⟩) (by assumption) ?_
    rotate_left
    · (intro W hW; (try dsimp only at hW); go_simp; try with_reducible rfl)
    try simp only [Act.put, List.setIfInBounds_toArray, List.set_cons_zero, List.set_cons_succ, List.getElem_toArray, List.getElem_cons_zero, List.getElem_cons_succ]
    refine wpAnyH_take (i := 3) (v := ?_) rfl (by kernel_rfl) (by kernel_rfl) (by kernel_rfl) (fun _ _ _ h => h) (Or.inl ⟨by rfl, ?_⟩) (by assumption) ?_
    rotate_left
    · (intro W hW; (try dsimp only at hW); go_simp; try with_reducible rfl)
    try simp only [Act.put, List.setIfInBounds_toArray, List.set_cons_zero, List.set_cons_succ, List.getElem_toArray, List.getElem_cons_zero, List.getElem_cons_succ]
    refine wpAnyH_take (i := 5) (v := ?_) rfl (by kernel_rfl) (by kernel_rfl) (by kernel_rfl) (fun _ _ _ h => h) (Or.inl ⟨by rfl, ?_⟩) (by assumption) ?_
    rotate_left
    · (intro W hW; (try dsimp only at hW); go_simp; try with_reducible rfl)
    try simp only [Act.put, List.setIfInBounds_toArray, List.set_cons_zero, List.set_cons_succ, List.getElem_toArray, List.getElem_cons_zero, List.getElem_cons_succ]
    refine wpAnyH_take (i := 6) (v := ?_) rfl (by kernel_rfl) (by kernel_rfl) (by kernel_rfl) (fun _ _ _ h => h) (Or.inl ⟨by rfl, ?_⟩) (by assumption) ?_
    rotate_left
    · (intro W hW; (try dsimp only at hW); go_simp; try with_reducible rfl)
    try simp only [Act.put, List.setIfInBounds_toArray, List.set_cons_zero, List.set_cons_succ, List.getElem_toArray, List.getElem_cons_zero, List.getElem_cons_succ]
    refine wpAnyH_take (i := 7) (v := ?_) rfl (by kernel_rfl) (by kernel_rfl) (by kernel_rfl) (fun _ _ _ h => h) (Or.inl ⟨by rfl, ?_⟩) (by assumption) ?_
    rotate_left
    · (intro W hW; (try dsimp only at hW); go_simp; try with_reducible rfl)
    try simp only [Act.put, List.setIfInBounds_toArray, List.set_cons_zero, List.set_cons_succ, List.getElem_toArray, List.getElem_cons_zero, List.getElem_cons_succ]
    refine wpAnyH_take (i := 8) (v := ?_) rfl (by kernel_rfl) (by kernel_rfl) (by kernel_rfl) (fun _ _ _ h => h) (Or.inl ⟨by rfl, ?_⟩) (by assumption) ?_
    rotate_left
    · (intro W hW; (try dsimp only at hW); go_simp; try with_reducible rfl)
    try simp only [Act.put, List.setIfInBounds_toArray, List.set_cons_zero, List.set_cons_succ, List.getElem_toArray, List.getElem_cons_zero, List.getElem_cons_succ]
    refine wpAnyH_take (i := 10) (v := ?_) rfl (by kernel_rfl) (by kernel_rfl) (by kernel_rfl) (fun _ _ _ h => h) (Or.inl ⟨by rfl, ?_⟩) (by assumption) ?_
    rotate_left
    · (intro W hW; (try dsimp only at hW); go_simp; try with_reducible rfl)
    try simp only [Act.put, List.setIfInBounds_toArray, List.set_cons_zero, List.set_cons_succ, List.getElem_toArray, List.getElem_cons_zero, List.getElem_cons_succ]
    refine wpAnyH_take (i := 11) (v := ?_) rfl (by kernel_rfl) (by kernel_rfl) (by kernel_rfl) (fun _ _ _ h => h) (Or.inl ⟨by rfl, ?_⟩) (by assumption) ?_
    rotate_left
    · (intro W hW; (try dsimp only at hW); go_simp; try with_reducible rfl)
    try simp only [Act.put, List.setIfInBounds_toArray, List.set_cons_zero, List.set_cons_succ, List.getElem_toArray, List.getElem_cons_zero, List.getElem_cons_succ]
    refine wpAnyH_take (i := 12) (v := ?_) rfl (by kernel_rfl) (by kernel_rfl) (by kernel_rfl) (fun _ _ _ h => h) (Or.inl ⟨by rfl, ?_⟩) (by assumption) ?_
    rotate_left
    · (intro W hW; (try dsimp only at hW); go_simp; try with_reducible rfl)
    try simp only [Act.put, List.setIfInBounds_toArray, List.set_cons_zero, List.set_cons_succ, List.getElem_toArray, List.getElem_cons_zero, List.getElem_cons_succ]
    refine wpAnyH_take (i := 13) (v := ?_) rfl (by kernel_rfl) (by kernel_rfl) (by kernel_rfl) (fun _ _ _ h => h) (Or.inl ⟨by rfl, ?_⟩) (by assumption) ?_
    rotate_left
    · (intro W hW; (try dsimp only at hW); go_simp; try with_reducible rfl)
    try simp only [Act.put, List.setIfInBounds_toArray, List.set_cons_zero, List.set_cons_succ, List.getElem_toArray, List.getElem_cons_zero, List.getElem_cons_succ]
    refine wpAnyH_ready (rs := [4]) (by kernel_rfl) (by simp) ?_
    refine AllReadyH.cons rfl (fun K hK => ?_) AllReadyH.nil
    simp only [List.getElem_toArray, List.getElem_cons_zero, List.getElem_cons_succ]
    go_simp
    go_at_call 91
    refine (cmpCompare_any t1 t2 _).mono ?_
    rintro e2 w2 ⟨rfl, rfl⟩
    rw [cmpI_sgn, ← H1.out]
    refine hK.out _ _ hH0 (fun hH1 => ?_)
    clear hK K
    try simp only [Act.put, List.setIfInBounds_toArray, List.set_cons_zero, List.set_cons_succ, List.getElem_toArray, List.getElem_cons_zero, List.getElem_cons_succ]
    refine wpAnyH_ready (rs := [9]) (by kernel_rfl) (by simp) ?_
    refine AllReadyH.cons rfl (fun K hK => ?_) AllReadyH.nil
    simp only [List.getElem_toArray, List.getElem_cons_zero, List.getElem_cons_succ]
    go_simp
    go_at_call 92
    refine (cmpL_any n1 n2 _ _ _ r (HN.out.fr ((F1.pure hH1.2.2.1).mono (r := r))) (KN.out.fr ((F1.pure hH1.2.2.1).mono (r := r)))).mono ?_
    rintro e3 w3 ⟨rfl, rfl⟩
    rw [← H2.out]
    refine hK.out _ _ hH1 (fun hH2 => ?_)
    clear hK K
    try simp only [Act.put, List.setIfInBounds_toArray, List.set_cons_zero, List.set_cons_succ, List.getElem_toArray, List.getElem_cons_zero, List.getElem_cons_succ]
    refine wpAnyH_ready (rs := [14]) (by kernel_rfl) (by simp) ?_
    refine AllReadyH.cons rfl (fun K hK => ?_) AllReadyH.nil
    simp only [List.getElem_toArray, List.getElem_cons_zero, List.getElem_cons_succ]
    go_simp
    go_at_call 93
    refine (cmpF_any d IH.out i1 i2 _ _ _ r hdi (HI.out.fr ((F1.pure hH2.2.2.1).mono (r := r))) (KI.out.fr ((F1.pure hH2.2.2.1).mono (r := r)))).mono ?_
    rintro e4 w4 ⟨rfl, F4, D4⟩
    rw [← H3.out]
    have F14 := hH2.2.2.1.pure F4
    have hH4 : Hid ((∀ k, w4.cell? ⟨w.heap.size, k, none⟩ = (#[.int .i64 t1, .slice A n1.length c, .slice A' i1.length c'] : Array Value)[k]?) ∧ (∀ k, w4.cell? ⟨w.heap.size + 1, k, none⟩ = (#[.int .i64 t2, .slice B n2.length e, .slice B' i2.length e'] : Array Value)[k]?) ∧ Fr none w1 w4 ∧ w.drawn ≤ w4.drawn) :=
      ⟨(HB0.out.fr F14 (by simp)).cell, (HB1.out.fr F14 (by simp)).cell, F14, Nat.le_trans hH2.2.2.2 D4⟩
    refine hK.out _ _ hH4.out (fun hH3 => ?_)
    clear hK K
    try simp only [Act.put, List.setIfInBounds_toArray, List.set_cons_zero, List.set_cons_succ, List.getElem_toArray, List.getElem_cons_zero, List.getElem_cons_succ]
    refine wpAnyH_ready (rs := [15]) (by kernel_rfl) (by simp) ?_
    refine AllReadyH.cons rfl (fun K hK => ?_) AllReadyH.nil
    simp only [List.getElem_toArray, List.getElem_cons_zero, List.getElem_cons_succ]
    go_simp
    have G5 := (Fr.refl none w4).alloc (.cells #[.int .i64 C1, .int .i64 C2, .int .i64 C3] 3)
    have F15 := F14.pure G5
    refine hK.out _ _ ⟨(HB0.out.fr F15 (by simp)).cell, (HB1.out.fr F15 (by simp)).cell, F15, hH4.out.2.2.2⟩ (fun hH5 => ?_)
    clear hK K
    try simp only [Act.put, List.setIfInBounds_toArray, List.set_cons_zero, List.set_cons_succ, List.getElem_toArray, List.getElem_cons_zero, List.getElem_cons_succ]
    refine wpAnyH_ready (rs := [16]) (by kernel_rfl) (by simp) ?_
    refine AllReadyH.cons rfl (fun K hK => ?_) AllReadyH.nil
    simp only [List.getElem_toArray, List.getElem_cons_zero, List.getElem_cons_succ]
    go_simp
    go_at_call 90
    refine (or_any [C1, C2, C3] _ _ none ⟨SlD.lit_dm (r := none) #[.int .i64 C1, .int .i64 C2, .int .i64 C3] 3 3 1 rfl (by decide) (by simp) (Fr.refl _ _), HW.out⟩).mono ?_
    rintro e5 w5 ⟨rfl, rfl⟩
    rw [HE.out]
    refine hK.out _ _ hH5 (fun hH6 => ?_)
    clear hK K
    try simp only [Act.put, List.setIfInBounds_toArray, List.set_cons_zero, List.set_cons_succ, List.getElem_toArray, List.getElem_cons_zero, List.getElem_cons_succ]
    refine wpAnyH_take (i := 17) (v := ?_) rfl (by kernel_rfl) (by kernel_rfl) (by kernel_rfl) (fun _ _ _ h => h) (Or.inl ⟨by rfl, ?_⟩) (by assumption) ?_
    rotate_left
    · (intro W hW; (try dsimp only at hW); go_simp; try with_reducible rfl)
    try simp only [Act.put, List.setIfInBounds_toArray, List.set_cons_zero, List.set_cons_succ, List.getElem_toArray, List.getElem_cons_zero, List.getElem_cons_succ]
    refine wpAnyH_done (by kernel_rfl) ?_ _
    go_wp2_with fail
    go_ret
    exact ⟨rfl, F1.pure F15, hH6.2.2.2⟩
end Go.Proofs.YtpdhckbiioobhaaGreatDoor

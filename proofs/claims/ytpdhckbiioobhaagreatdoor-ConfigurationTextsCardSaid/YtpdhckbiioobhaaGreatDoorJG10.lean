/- Some texts of this claim, joined: contracts of the functions that it reaches, and plain laws. -/
import Derived.Test.YtpdhckbiioobhaaGreatDoorJG7
import Derived.Laws.CopyOwn

set_option linter.unusedSimpArgs false
set_option linter.unusedVariables false
/- Walks: the reference's sorted. -/
namespace Go.Proofs.YtpdhckbiioobhaaGreatDoor
open Go.RowKit

/-! ### copy of elements of k cells -/
theorem run_copy_rowK {P : Program} (w : World) (dT sT ty elem : TypeId) (g o dLen dCap : Nat) (a : Addr) (sLen sCap : Nat) (cur : Array Value) (t : TypeId) (cs : List Value) (k : Nat)
    (hu : P.underlying dT = some (.slice elem)) (hs : (P.info? elem).map (·.size) = some k)
    (hg : w.heap[g]? = some (.cells cur t (0, 0))) (hn : cs.length = Nat.min sLen dLen * k)
    (hsrc : ∀ j v, cs[j]? = some v → w.cell? (a.add j) = some v) (hfit : o + cs.length ≤ cur.size) (h1 : ∀ v ∈ cs, v.oneCell' = true) :
    (Builtin.copy_ #[dT, sT] ty #[.slice (some ⟨g, o, none⟩) dLen dCap, .slice (some a) sLen sCap]).run P w =
      .ok (goInt (Nat.min sLen dLen)) (w.setRow g (cur.toList.take o ++ cs ++ cur.toList.drop (o + cs.length)).toArray) := by
  have hl := run_loadCells_list (P := P) w a cs hsrc
  have hst := run_storeCells_at P g o t cs 0 cur w hg (by simpa using hfit) h1
  cases hq : P.info? elem with
  | none => simp [hq] at hs
  | some i =>
    have hi : i.size = k := by simpa [hq] using hs
    simp [Builtin.copy_, run_underlying hu, Builtin.lenOf, Builtin.firstCells, sizeOf, typeInfo, hq, hi, ← hn, hl, hst]
theorem run_copy_noneK {P : Program} (w : World) (dT sT ty elem : TypeId) (dp sp : Option Addr) (dLen dCap sLen sCap k : Nat) (hu : P.underlying dT = some (.slice elem)) (hs : (P.info? elem).map (·.size) = some k) (hn : Nat.min sLen dLen = 0) (hd : dp ≠ none) (hp : sp ≠ none) :
    (Builtin.copy_ #[dT, sT] ty #[.slice dp dLen dCap, .slice sp sLen sCap]).run P w = .ok (goInt 0) w := by
  cases hq : P.info? elem with
  | none => simp [hq] at hs
  | some i =>
    cases dp with
    | none => exact absurd rfl hd
    | some d =>
      cases sp with
      | none => exact absurd rfl hp
      | some s => simp [Builtin.copy_, run_underlying hu, Builtin.lenOf, Builtin.firstCells, sizeOf, typeInfo, hq, hn, loadCells, loadCellsFrom, storeCells]
/-- copy within the memory of w: the row g behind it, and that nothing else has changed. -/
theorem copy_frK {P : Program} {w : World} {ops : Array Oper} {rest : List Oper} {o : Oper} {a : Act} {Q : Exit → Act → World → Prop} (hgd : o.guard = none) (d s : Operand) (dT sT : TypeId)
    (ho : o.op = .call { callee := .builtin .copy, args := #[d, s], argTypes := #[dT, sT] }) (elem : TypeId) (k : Nat) (hu : P.underlying dT = some (.slice elem)) (hsz : (P.info? elem).map (·.size) = some k)
    (dp sp : Option Addr) (dLen dCap sLen sCap : Nat) (hd : a.eval d = .slice dp dLen dCap) (hs : a.eval s = .slice sp sLen sCap)
    (g off : Nat) (cur : List Value) (t : TypeId) (hg : w.heap[g]? = some (.cells cur.toArray t (0, 0))) (cs : List Value) (hn : cs.length = Nat.min sLen dLen * k) (hdp : dp ≠ none) (hsp : sp ≠ none)
    (hpos : 0 < Nat.min sLen dLen → dp = some ⟨g, off, none⟩ ∧ ∃ ad, sp = some ad ∧ ∀ j v, cs[j]? = some v → w.cell? (ad.add j) = some v)
    (hfit : off + cs.length ≤ cur.length) (h1 : ∀ v ∈ cs, v.oneCell' = true)
    (h : ∀ w', Hid (w'.heap[g]? = some (.cells (cur.take off ++ cs ++ cur.drop (off + cs.length)).toArray t (0, 0))) → Fr (some g) w w' → wpList P ops Q rest (a.put o.dst (goInt (Nat.min sLen dLen))) w') :
    wpList P ops Q (o :: rest) a w := by
  refine wpList_plain hgd fun K hK => ?_
  by_cases h0 : Nat.min sLen dLen = 0
  · have hrun := run_copy_noneK (P := P) w dT sT o.type elem dp sp dLen dCap sLen sCap k hu hsz h0 hdp hsp
    have hc0 : cs = [] := List.eq_nil_of_length_eq_zero (by rw [hn, h0]; simp)
    unfold Oper.wp
    simp [execOp, ho, resolve, invoke, builtin, hd, hs, hrun, Result.andThen]
    have := h w (by subst hc0; simpa [Hid] using hg) (Fr.refl _ _)
    rw [h0] at this
    exact hK _ _ this
  · obtain ⟨rfl, ad, rfl, hsrc⟩ := hpos (by omega)
    have hrun := run_copy_rowK (P := P) w dT sT o.type elem g off dLen dCap ad sLen sCap cur.toArray t cs k hu hsz hg hn hsrc (by simpa using hfit) h1
    unfold Oper.wp
    simp [execOp, ho, resolve, invoke, builtin, hd, hs, hrun, Result.andThen]
    refine hK _ _ ?_
    refine h _ ?_ ?_
    · unfold Hid
      simpa using setRow_heap w g _ _ t _ hg
    · exact ⟨rfl, rfl, rfl, by simp [World.setRow], fun k _ hne => setRow_other w g k _ (fun e => hne (by rw [e]))⟩

/-- How far from the end a trust is put. -/
def twl (l : List Tr) (x : Tr) : Nat := (l.reverse.takeWhile fun y => decide (0 < cmpT y x)).length
theorem twl_nil (x : Tr) : twl [] x = 0 := rfl
theorem twl_snoc (l : List Tr) (y x : Tr) : twl (l ++ [y]) x = if 0 < cmpT y x then twl l x + 1 else 0 := by
  unfold twl
  rw [List.reverse_append, List.reverse_singleton, List.singleton_append, List.takeWhile_cons]
  by_cases h : 0 < cmpT y x
  · simp [h]
  · simp [h]
theorem twl_take (l : List Tr) (k : Nat) (hk : k < l.length) (x : Tr) : twl (l.take (k + 1)) x = if 0 < cmpT l[k] x then twl (l.take k) x + 1 else 0 := by
  rw [List.take_succ_eq_append_getElem hk, twl_snoc]
theorem insT_at (l : List Tr) (x : Tr) (k : Nat) (h : l.length - twl l x = k) : insT l x = l.take k ++ x :: l.drop k := by subst h; rfl
/-- The nodes so far. -/
def nkN (nodes : List Int) (k : Nat) : List Int := ((List.range k).map Int.ofNat).filter fun k => nodes.any (fun x => decide (x = k))
theorem nkN_succ (nodes : List Int) (k : Nat) : nkN nodes (k + 1) = if nodes.any (fun x => decide (x = (k : Int))) then nkN nodes k ++ [(k : Int)] else nkN nodes k := by
  unfold nkN
  rw [List.range_succ, List.map_append, List.filter_append]
  simp only [List.map_cons, List.map_nil, List.filter_cons, List.filter_nil]
  split <;> simp_all
theorem nkN_len (nodes : List Int) (k : Nat) : (nkN nodes k).length ≤ k := Nat.le_trans (List.length_filter_le _ _) (by simp)

theorem TrsD.one' {w : World} {D : Nat → Prop} : ∀ {l : List Tr} {cells : List Value}, TrsD w D cells l → ∀ u ∈ cells, u.oneCell' = true
  | [], cells, h, u, hu => by simp only [TrsD] at h; subst h; simp at hu
  | x :: r, cells, h, u, hu => by
    simp only [TrsD] at h
    obtain ⟨a, b, c, rest, rfl, h1, h2⟩ := h
    obtain ⟨th, A1, n1, c1, A2, n2, c2, e⟩ := h1.shape
    simp only [Value.agg.injEq, Array.mk.injEq, List.cons.injEq, and_true] at e
    obtain ⟨rfl, rfl, rfl⟩ := e
    simp only [List.mem_cons] at hu
    rcases hu with rfl | rfl | rfl | hu
    · simp [Value.oneCell']
    · simp [Value.oneCell']
    · simp [Value.oneCell']
    · exact TrsD.one' h2 u hu
theorem TrsD.take {w : World} {D : Nat → Prop} : ∀ {l : List Tr} {cells : List Value}, TrsD w D cells l → ∀ k, TrsD w D (cells.take (k * 3)) (l.take k)
  | [], cells, h, k => by simp only [TrsD] at h; subst h; simp [TrsD]
  | x :: r, cells, h, k => by
    simp only [TrsD] at h
    obtain ⟨a, b, c, rest, rfl, h1, h2⟩ := h
    cases k with
    | zero => simp [TrsD]
    | succ k =>
      rw [show (k + 1) * 3 = k * 3 + 1 + 1 + 1 by omega]
      simp only [List.take_succ_cons, TrsD]
      exact ⟨a, b, c, _, rfl, h1, TrsD.take h2 k⟩
theorem TrsD.drop {w : World} {D : Nat → Prop} : ∀ {l : List Tr} {cells : List Value}, TrsD w D cells l → ∀ k, TrsD w D (cells.drop (k * 3)) (l.drop k)
  | [], cells, h, k => by simp only [TrsD] at h; subst h; simp [TrsD]
  | x :: r, cells, h, k => by
    cases k with
    | zero => simpa using h
    | succ k =>
      simp only [TrsD] at h
      obtain ⟨a, b, c, rest, rfl, h1, h2⟩ := h
      rw [show (k + 1) * 3 = k * 3 + 1 + 1 + 1 by omega]
      simp only [List.drop_succ_cons]
      exact TrsD.drop h2 k
/-- What the copy and the store leave in the row. -/
theorem row_ins3 {cur cs : List Value} {z0 z1 z2 x0 x1 x2 : Value} {n k : Nat} (h : cur.take ((n + 1) * 3) = cs ++ [z0, z1, z2]) (hl : cs.length = n * 3) (hk : k ≤ n) :
    ((((cur.take ((k + 1) * 3) ++ cs.drop (k * 3) ++ cur.drop ((k + 1) * 3 + (cs.drop (k * 3)).length)).set (k * 3) x0).set (k * 3 + 1) x1).set (k * 3 + 2) x2).take ((n + 1) * 3) = cs.take (k * 3) ++ ([x0, x1, x2] ++ cs.drop (k * 3)) := by
  have hp : (cs.take (k * 3)).length = k * 3 := by rw [List.length_take]; omega
  obtain ⟨a, b, c, r, hr⟩ : ∃ a b c r, cs.drop (k * 3) ++ [z0, z1, z2] = a :: b :: c :: r := by
    generalize cs.drop (k * 3) = q
    match q with
    | [] => exact ⟨_, _, _, [], rfl⟩
    | [q0] => exact ⟨_, _, _, _, rfl⟩
    | [q0, q1] => exact ⟨_, _, _, _, rfl⟩
    | q0 :: q1 :: q2 :: q => exact ⟨_, _, _, _, rfl⟩
  have hcur : cur = cs.take (k * 3) ++ (a :: b :: c :: (r ++ cur.drop ((n + 1) * 3))) := by
    have e := List.take_append_drop ((n + 1) * 3) cur
    rw [h] at e
    have e2 : cs ++ [z0, z1, z2] = cs.take (k * 3) ++ (a :: b :: c :: r) := by rw [← hr, ← List.append_assoc, List.take_append_drop]
    rw [e2] at e
    exact e.symm.trans (by simp)
  have htk : cur.take ((k + 1) * 3) = cs.take (k * 3) ++ [a, b, c] := by
    rw [hcur, List.take_append, hp, List.take_of_length_le (by rw [hp]; omega), show (k + 1) * 3 - k * 3 = 3 by omega]
    simp
  rw [htk]
  simp only [List.append_assoc, List.cons_append, List.nil_append]
  rw [List.set_append_right _ _ (by rw [hp]; omega), hp, Nat.sub_self, List.set_cons_zero, List.set_append_right _ _ (by rw [hp]; omega), hp, show k * 3 + 1 - k * 3 = 1 by omega, List.set_cons_succ, List.set_cons_zero, List.set_append_right _ _ (by rw [hp]; omega), hp, show k * 3 + 2 - k * 3 = 2 by omega, List.set_cons_succ, List.set_cons_succ, List.set_cons_zero]
  rw [List.take_append, hp, List.take_of_length_le (by rw [hp]; omega)]
  congr 1
  rw [show (n + 1) * 3 - k * 3 = (n - k) * 3 + 1 + 1 + 1 by omega]
  simp only [List.take_succ_cons]
  rw [List.take_append_of_le_length (by rw [List.length_drop]; omega), List.take_of_length_le (by rw [List.length_drop]; omega)]

theorem fr_row3s (w : World) (b o : Nat) (x y z : Value) : Fr (some b) w (((w.setCell ⟨b, o, none⟩ x).setCell ⟨b, o + 1, none⟩ y).setCell ⟨b, o + 2, none⟩ z) :=
  Fr.setRow (p := ⟨b, o + 2, none⟩) (Fr.setRow (p := ⟨b, o + 1, none⟩) (Fr.set1 w ⟨b, o, none⟩ x) rfl y) rfl z
theorem own_ins3 {w : World} {base g n k c7 : Nat} {e : TypeId} {cur cs : List Value} {z0 z1 z2 x0 x1 x2 : Value} (hg : base ≤ g) (hb : w.heap[g]? = some (.cells (cur.take ((k + 1) * 3) ++ cs.drop (k * 3) ++ cur.drop ((k + 1) * 3 + (cs.drop (k * 3)).length)).toArray e (0, 0)))
    (hs : cur.length = c7 * 3) (hnc : n + 1 ≤ c7) (hm : c7 ≤ maxLen) (h : cur.take ((n + 1) * 3) = cs ++ [z0, z1, z2]) (hl : cs.length = n * 3) (hk : k ≤ n) :
    (((w.setCell ⟨g, k * 3, none⟩ x0).setCell ⟨g, k * 3 + 1, none⟩ x1).setCell ⟨g, k * 3 + 2, none⟩ x2).ownsRow base e 3 (.slice (some ⟨g, 0, none⟩) (n + 1) c7) (n + 1) (cs.take (k * 3) ++ ([x0, x1, x2] ++ cs.drop (k * 3))) := by
  have h3 := blk_set (blk_set (blk_set hb (k * 3) x0) (k * 3 + 1) x1) (k * 3 + 2) x2
  have hr := row_ins3 (x0 := x0) (x1 := x1) (x2 := x2) h hl hk
  have hd : (cs.drop (k * 3)).length = n * 3 - k * 3 := by rw [List.length_drop, hl]
  refine ⟨?_, .inr ⟨g, c7, _, rfl, hg, h3, hnc, hm, ?_, ?_⟩⟩
  · simp only [List.length_append, List.length_take, List.length_cons, List.length_nil, hd, hl]
    omega
  · simp only [Array.size_setIfInBounds, List.size_toArray, List.length_append, List.length_take, List.length_drop, hd, hs]
    omega
  · simpa using hr
theorem src3 {w : World} {g k n : Nat} {e : TypeId} {cur : Array Value} {cs : List Value} {z : List Value} (hb : w.heap[g]? = some (.cells cur e (0, 0))) (h : cur.toList.take ((n + 1) * 3) = cs ++ z) (hl : cs.length = n * 3) :
    ∀ j v, (cs.drop (k * 3))[j]? = some v → w.cell? ((⟨g, k * 3, none⟩ : Addr).add j) = some v := by
  intro j v hv
  rw [List.getElem?_drop] at hv
  have hlt : k * 3 + j < cs.length := (List.getElem?_eq_some_iff.1 hv).1
  rw [Addr.add_lit, blk_cell hb]
  have e1 : (cur.toList.take ((n + 1) * 3))[k * 3 + j]? = cur.toList[k * 3 + j]? := by rw [List.getElem?_take, if_pos (by omega)]
  rw [← Array.getElem?_toList, ← e1, h, List.getElem?_append_left hlt]
  exact hv

set_option maxRecDepth 100000 in
set_option maxHeartbeats 4000000 in
theorem rsorted_any (thr : Int) (nodes : List Int) (inner : List Tr) (v : Value) (D : Nat → Prop) (w : World) (hD : ∀ b, D b → b < w.heap.size) (hsz : inner.length ≤ 1000000) (ht : TrD w D v (.mk thr nodes inner)) :
    Calls Tryz.prog 158 #[v] w fun e w' => ∃ v', e = .returned v' ∧ TrD w' (Dw D w w') v' (ordT (.mk thr nodes inner)) ∧ Fr none w w' := by
  simp only [TrD] at ht
  obtain ⟨vn, vi, cells, rfl, h0, h1, h2, h3, h4, h5, h6⟩ := ht
  obtain ⟨A, n, c, rfl, hl, hnc, hm, hx⟩ := id h1
  obtain ⟨A', n', c', rfl, hl', hnc', hm', hx'⟩ := id h3
  have hlen := h6.len
  obtain rfl : n' = inner.length := by omega
  obtain rfl : n = nodes.length := by simpa using hl.symm
  unfold Few at h4 h5
  unfold maxLen at hm hm'
  have HD := Lib.hid hD
  clear hl hl' hlen hD hx
  go_enter Tryz.func158, Tryz.ntmps158
  go_wp2_with fail
  generalize hW : ((w.alloc _).alloc _).alloc _ = w1
  have hz1 : w.heap.size + 2 < w1.heap.size := by rw [← hW]; simp
  have F1 : Fr none w w1 := hW ▸ (((Fr.refl none w).alloc _).alloc _).alloc _
  have b1 : TB w1 w.heap.size (.int .i64 thr) (.slice A nodes.length c) (.slice A' inner.length c') := by rw [← hW]; exact (Below.heap_alloc _ _ _ (by simp; omega)).trans ((Below.heap_alloc _ _ _ (by simp)).trans (blk_new _ _))
  have b2 : TB w1 (w.heap.size + 1) (.int .i64 0) (.slice none 0 0) (.slice none 0 0) := by rw [← hW]; exact (Below.heap_alloc _ _ _ (by simp)).trans (blk_new_at (by simp) _)
  have b3 : TB w1 (w.heap.size + 1 + 1) (.int .i64 thr) (.slice none 0 0) (.slice none 0 0) := by rw [← hW]; exact blk_new_at (by simp) _
  clear hW
  have hs1 : SlI w1 none (.slice A nodes.length c) nodes := ⟨h1.keep (fun q hq => ⟨⟨by have := HD.out q hq; omega, by simp⟩, F1.block q (HD.out q hq) (by simp)⟩), h2⟩
  have hs1w : SlD w (fun b => b < w.heap.size) 1 (.slice A nodes.length c) (nodes.map (Value.int .i64)) := h1.keep (fun q hq => ⟨HD.out q hq, rfl⟩)
  clear hs1
  go_loopw [4] (fun s4 wr => ∃ (k : Nat) (A5 : Option Addr) (c5 : Nat), s4 = .int .i64 (k : Int) ∧ k ≤ 10 ∧ Fr (some (w.heap.size + 1 + 1)) w1 wr ∧ TB wr (w.heap.size + 1 + 1) (.int .i64 thr) (.slice A5 (nkN nodes k).length c5) (.slice none 0 0) ∧ wr.ownsRow w1.heap.size 3 1 (.slice A5 (nkN nodes k).length c5) (nkN nodes k).length ((nkN nodes k).map (Value.int .i64))) (fun s4 _ => 10 - (intOf s4).toNat)
  case atStart => exact ⟨0, none, 0, rfl, by omega, Fr.refl _ _, b3, World.ownsRow_nil _ _ _ _⟩
  case round =>
    clear b3
    obtain ⟨k, A5, c5, rfl, hk, F, b3, own⟩ := hrel
    have b1r := b1.fr F (by simp; omega)
    have R1 := b1r.cell
    have R3 := b3.cell
    have hl3 := blk_lt b3
    have hl1 := blk_lt b1r
    by_cases hlt : k < 10
    · have hsr : SlI wr none (.slice A nodes.length c) nodes := ⟨hs1w.keep (fun q hq => ⟨⟨by have := F1.size; have := F.size; omega, by simp⟩, (F.block q (by omega) (by simp; omega)).trans (F1.block q hq (by simp))⟩), h2⟩
      obtain ⟨hv, hhv⟩ : ∃ hv, hv = nodes.any (fun x => decide (x = (k : Int))) := ⟨_, rfl⟩
      have HNK := Lib.hid (nkN_succ nodes k)
      have hnl := nkN_len nodes k
      have HHV := Lib.hid hhv
      clear hhv
      cases hv with
      | true =>
        have HN1 : Hid (nkN nodes (k + 1) = nkN nodes k ++ [(k : Int)]) := by unfold Hid; rw [HNK.out, if_pos HHV.out.symm]
        have Z3 := b3.free
        go_wp2_with (first | (go_at_call 155; refine (rhasn_any nodes k _ _ hsr).mono ?_; rintro e w' ⟨rfl, rfl⟩; rw [← HHV.out]) | (at_builtin; refine app_lit eiInt rfl _ _ rfl w1.heap.size A5 (nkN nodes k).length c5 _ rfl own 1 [.int .i64 k] _ _ rfl (by simp) rfl (by simp [Value.oneCell']) (by omega) (by unfold maxLen; omega) (by have := F.size; omega) ?_; intro A7 c7 w7 own7 F7 nb7; have K7 := b3.fr F7 (own_ne own (by omega)); have R7 := K7.cell; have Z7 := K7.free))
        have G := Fr.set1 w7 ⟨w.heap.size + 1 + 1, 1, none⟩ (.slice A7 ((nkN nodes k).length + 1) c7)
        have og := own_blk_ge own
        go_roundw
        case rel =>
          have hln : (nkN nodes k ++ [(k : Int)]).length = (nkN nodes k).length + 1 := by simp
          exact ⟨k + 1, A7, c7, by go_num, by omega, (F.own F7 (fun b hb => by have := og b hb; omega)).setRow rfl _, by rw [HN1.out, hln]; exact K7.set1 _, by rw [HN1.out, hln, List.map_append]; exact own_fr own7 G (by simp; omega)⟩
        case measure => simp [intOf]; omega
      | false =>
        have HN1 : Hid (nkN nodes (k + 1) = nkN nodes k) := by unfold Hid; rw [HNK.out, if_neg (by rw [← HHV.out]; simp)]
        go_wp2_with (go_at_call 155; refine (rhasn_any nodes k _ _ hsr).mono ?_; rintro e w' ⟨rfl, rfl⟩; rw [← HHV.out])
        go_roundw
        case rel => exact ⟨k + 1, A5, c5, by go_num, by omega, F, by rw [HN1.out]; exact b3, by rw [HN1.out]; exact own⟩
        case measure => simp [intOf]; omega
    · obtain rfl : k = 10 := by omega
      rw [show ((10 : Nat) : Int) = 10 from rfl]
      have HSN : Hid (nkN nodes 10 = sortN nodes) := rfl
      rw [HSN.out] at b3 own
      have hsl : (sortN nodes).length ≤ 10 := nkN_len nodes 10
      have hsw : ∀ x ∈ sortN nodes, Wi x := fun x hx => by
        have := (List.mem_filter.1 hx).1
        obtain ⟨m, hm, rfl⟩ := List.mem_map.1 this
        have := List.mem_range.1 hm
        constructor <;> simp <;> omega
      have R3 := b3.cell
      obtain ⟨wn, hwn⟩ : ∃ wn : World, wn = wr := ⟨_, rfl⟩
      subst hwn
      clear HSN
      have hzn : w1.heap.size ≤ wn.heap.size := F.size
      obtain ⟨ns, hns⟩ : ∃ ns, ns = (sortN nodes).length := ⟨_, rfl⟩
      rw [← hns] at b3 own hsl
      have HNS := Lib.hid hns
      have HOWN5 := Lib.hid own
      have HSW := Lib.hid hsw
      have R3 := b3.cell
      clear hns own hsw
      go_wp2_with fail
      go_loopw [28, 6, 7] (fun s28 s6 s7 wr => ∃ (j : Nat) (l : List Tr) (A6 : Option Addr) (c6 : Nat) (cs : List Value), s28 = .int .i64 (j : Int) ∧ j ≤ inner.length ∧ l.length ≤ j ∧ Fr (some (w.heap.size + 1 + 1)) wn wr ∧ TB wr (w.heap.size + 1 + 1) (.int .i64 thr) (.slice A5 ns c5) (.slice A6 l.length c6) ∧
        wr.ownsRow wn.heap.size 31 3 (.slice A6 l.length c6) l.length cs ∧ TrsD wr D cs l ∧ Hid (inner.foldl insT [] = (inner.drop j).foldl insT l)) (fun s28 _ _ _ => inner.length - (intOf s28).toNat)
      case atStart => exact ⟨0, [], none, 0, [], rfl, Nat.zero_le _, by simp, Fr.refl _ _, b3, World.ownsRow_nil _ _ _ _, by simp [TrsD], by simp [Hid]⟩
      case round =>
        clear R3 b3 R1 hl3
        obtain ⟨j, l, A6, c6, cs, rfl, hj, hlj, F2, b3, own, hts, HJ⟩ := hrel
        have F12 := F.same F2
        have Fw : Fr none w wr := F1.own F12 (by simp; omega)
        have R3 := b3.cell
        have hl3 := blk_lt b3
        by_cases hlt2 : j < inner.length
        · have hdj : inner.drop j = inner[j] :: inner.drop (j + 1) := List.drop_eq_getElem_cons hlt2
          obtain ⟨b, off, rfl, hb, hcc⟩ := hx' (by omega)
          obtain ⟨x0, y0, z0, e0, e1, e2, hy0⟩ := h6.get j hlt2
          rw [hdj] at HJ
          generalize inner[j] = x at *
          obtain ⟨tx, X1, m1, v1, X2, m2, v2, hsh⟩ := hy0.shape
          simp only [Value.agg.injEq, Array.mk.injEq, List.cons.injEq, and_true] at hsh
          obtain ⟨rfl, rfl, rfl⟩ := hsh
          have g0 := Fw.keep (hcc _ _ e0) (by simp)
          have g1 := Fw.keep (hcc _ _ e1) (by simp)
          have g2 := Fw.keep (hcc _ _ e2) (by simp)
          rw [← Nat.add_assoc] at g1 g2
          clear e0 e1 e2 hcc hdj
          go_wp2_with fail
          generalize hW : wr.alloc _ = wa
          have Fa : Fr none wr wa := hW ▸ (Fr.refl none wr).alloc _
          have bx : TB wa wr.heap.size (.int .i64 tx) (.slice X1 m1 v1) (.slice X2 m2 v2) := by rw [← hW]; exact blk_new _ _
          clear hW g0 g1 g2 R3
          obtain ⟨wv, hwv⟩ : ∃ wv : World, wv = wr := ⟨_, rfl⟩
          subst hwv
          go_loopw [7] (fun s7 wx => ∃ k : Nat, s7 = .int .i64 (k : Int) ∧ k ≤ l.length ∧ Fr none wa wx ∧ Hid (twl l x = l.length - k + twl (l.take k) x)) (fun s7 _ => (intOf s7).toNat)
          case atStart => exact ⟨l.length, rfl, Nat.le_refl _, Fr.refl _ _, by unfold Hid; rw [List.take_length]; omega⟩
          case round =>
            obtain ⟨k, rfl, hk, Fk, HK⟩ := hrel
            have hlxa := blk_lt bx
            have b3a := b3.fr Fa (by simp)
            have hslA : SlD wa (Dn wn.heap.size wa) 3 (.slice A6 l.length c6) cs := SlD.own_dn (own_fr own Fa (by simp))
            have Fwa := Fw.pure Fa
            obtain ⟨wk, hwk⟩ : ∃ wk : World, wk = wr := ⟨_, rfl⟩
            subst hwk
            have b3k := b3a.fr Fk (by simp)
            have bxk := bx.fr Fk (by simp)
            have Fwk := Fwa.pure Fk
            go_upto_region 11 with (fail)
            go_cut [47] (fun s47 wq => ∃ g, s47 = .bool g ∧ Fr none wk wq ∧ (g = true → 1 ≤ k ∧ Hid (twl l x = l.length - (k - 1) + twl (l.take (k - 1)) x)) ∧ (g = false → Hid (twl (l.take k) x = 0)))
            case first =>
              rcases Nat.eq_zero_or_pos k with hk0 | hk0
              · subst hk0
                refine wp_region_held_drew (S := fun W => Fr none wk W) (by kernel_rfl) (Fr.refl _ _).drew (fun hH0 => ?_)
                refine wpAnyH_take (i := 0) (v := ?_) rfl (by kernel_rfl) (by kernel_rfl) (by kernel_rfl) (fun _ _ _ h => h) (Or.inl ⟨by rfl, ?_⟩) (by assumption) ?_
                rotate_left
                · (intro W hW; (try dsimp only at hW); go_simp; try with_reducible rfl)
                try simp only [Act.put, List.setIfInBounds_toArray, List.set_cons_zero, List.set_cons_succ, List.getElem_toArray, List.getElem_cons_zero, List.getElem_cons_succ]
                refine wpAnyH_take (i := 1) (v := ?_) rfl (by kernel_rfl) (by kernel_rfl) (by kernel_rfl) (fun _ _ _ h => h) (Or.inl ⟨by rfl, ?_⟩) (by assumption) ?_
                rotate_left
                · (intro W hW; (try dsimp only at hW); go_simp; try with_reducible rfl)
                try simp only [Act.put, List.setIfInBounds_toArray, List.set_cons_zero, List.set_cons_succ, List.getElem_toArray, List.getElem_cons_zero, List.getElem_cons_succ]
                refine wpAnyH_take (i := 2) (v := ?_) rfl (by kernel_rfl) (by kernel_rfl) (by kernel_rfl) (fun _ _ _ h => h) (Or.inl ⟨by rfl, ?_⟩) (by assumption) ?_
                rotate_left
                · (intro W hW; (try dsimp only at hW); go_simp; try with_reducible rfl)
                try simp only [Act.put, List.setIfInBounds_toArray, List.set_cons_zero, List.set_cons_succ, List.getElem_toArray, List.getElem_cons_zero, List.getElem_cons_succ]
                refine wpAnyH_take (i := 3) (v := undef) rfl (by kernel_rfl) (by kernel_rfl) (by kernel_rfl) (fun _ _ _ h => h) (Or.inr ⟨by rfl, rfl⟩) (by assumption) ?_
                try simp only [Act.put, List.setIfInBounds_toArray, List.set_cons_zero, List.set_cons_succ, List.getElem_toArray, List.getElem_cons_zero, List.getElem_cons_succ]
                refine wpAnyH_take (i := 4) (v := undef) rfl (by kernel_rfl) (by kernel_rfl) (by kernel_rfl) (fun _ _ _ h => h) (Or.inr ⟨by rfl, rfl⟩) (by assumption) ?_
                try simp only [Act.put, List.setIfInBounds_toArray, List.set_cons_zero, List.set_cons_succ, List.getElem_toArray, List.getElem_cons_zero, List.getElem_cons_succ]
                refine wpAnyH_take (i := 5) (v := undef) rfl (by kernel_rfl) (by kernel_rfl) (by kernel_rfl) (fun _ _ _ h => h) (Or.inr ⟨by rfl, rfl⟩) (by assumption) ?_
                try simp only [Act.put, List.setIfInBounds_toArray, List.set_cons_zero, List.set_cons_succ, List.getElem_toArray, List.getElem_cons_zero, List.getElem_cons_succ]
                refine wpAnyH_take (i := 6) (v := undef) rfl (by kernel_rfl) (by kernel_rfl) (by kernel_rfl) (fun _ _ _ h => h) (Or.inr ⟨by rfl, rfl⟩) (by assumption) ?_
                try simp only [Act.put, List.setIfInBounds_toArray, List.set_cons_zero, List.set_cons_succ, List.getElem_toArray, List.getElem_cons_zero, List.getElem_cons_succ]
                refine wpAnyH_take (i := 7) (v := undef) rfl (by kernel_rfl) (by kernel_rfl) (by kernel_rfl) (fun _ _ _ h => h) (Or.inr ⟨by rfl, rfl⟩) (by assumption) ?_
                try simp only [Act.put, List.setIfInBounds_toArray, List.set_cons_zero, List.set_cons_succ, List.getElem_toArray, List.getElem_cons_zero, List.getElem_cons_succ]
                refine wpAnyH_take (i := 8) (v := undef) rfl (by kernel_rfl) (by kernel_rfl) (by kernel_rfl) (fun _ _ _ h => h) (Or.inr ⟨by rfl, rfl⟩) (by assumption) ?_
                try simp only [Act.put, List.setIfInBounds_toArray, List.set_cons_zero, List.set_cons_succ, List.getElem_toArray, List.getElem_cons_zero, List.getElem_cons_succ]
                refine wpAnyH_take (i := 9) (v := undef) rfl (by kernel_rfl) (by kernel_rfl) (by kernel_rfl) (fun _ _ _ h => h) (Or.inr ⟨by rfl, rfl⟩) (by assumption) ?_
                try simp only [Act.put, List.setIfInBounds_toArray, List.set_cons_zero, List.set_cons_succ, List.getElem_toArray, List.getElem_cons_zero, List.getElem_cons_succ]
                refine wpAnyH_take (i := 10) (v := undef) rfl (by kernel_rfl) (by kernel_rfl) (by kernel_rfl) (fun _ _ _ h => h) (Or.inr ⟨by rfl, rfl⟩) (by assumption) ?_
                try simp only [Act.put, List.setIfInBounds_toArray, List.set_cons_zero, List.set_cons_succ, List.getElem_toArray, List.getElem_cons_zero, List.getElem_cons_succ]
                refine wpAnyH_take (i := 11) (v := undef) rfl (by kernel_rfl) (by kernel_rfl) (by kernel_rfl) (fun _ _ _ h => h) (Or.inr ⟨by rfl, rfl⟩) (by assumption) ?_
                try simp only [Act.put, List.setIfInBounds_toArray, List.set_cons_zero, List.set_cons_succ, List.getElem_toArray, List.getElem_cons_zero, List.getElem_cons_succ]
                refine wpAnyH_take (i := 12) (v := ?_) rfl (by kernel_rfl) (by kernel_rfl) (by kernel_rfl) (fun _ _ _ h => h) (Or.inl ⟨by rfl, ?_⟩) (by assumption) ?_
                rotate_left
                · (intro W hW; (try dsimp only at hW); go_simp; try with_reducible rfl)
                try simp only [Act.put, List.setIfInBounds_toArray, List.set_cons_zero, List.set_cons_succ, List.getElem_toArray, List.getElem_cons_zero, List.getElem_cons_succ]
                refine wpAnyH_done (by kernel_rfl) ?_ _
                go_wp2_with fail
                go_meet
                exact ⟨false, rfl, hH0, (fun h => by cases h), fun _ => rfl⟩
              · obtain ⟨m, rfl⟩ : ∃ m, k = m + 1 := ⟨k - 1, by omega⟩
                have hml : m < l.length := by omega
                obtain ⟨A9, n9, c9, e9, _, _, _, hx9⟩ := hslA
                injection e9 with q1 q2 q3
                subst q1 q2 q3
                obtain ⟨b6, off6, rfl, hb6, hc6⟩ := hx9 (by omega)
                obtain ⟨u0, u1, u2, e0, e1, e2, hu0⟩ := hts.get m hml
                obtain ⟨ty, Y1, k1, d1, Y2, k2, d2, hsh⟩ := hu0.shape
                simp only [Value.agg.injEq, Array.mk.injEq, List.cons.injEq, and_true] at hsh
                obtain ⟨rfl, rfl, rfl⟩ := hsh
                have g0 := Fk.keep (hc6 _ _ e0) (by simp)
                have g1 := Fk.keep (hc6 _ _ e1) (by simp)
                have g2 := Fk.keep (hc6 _ _ e2) (by simp)
                rw [← Nat.add_assoc] at g1 g2
                have HTK := Lib.hid (twl_take l m hml x)
                obtain ⟨C, hC⟩ : ∃ C, C = cmpT l[m] x := ⟨_, rfl⟩
                rw [← hC] at HTK
                have HC := Lib.hid hC
                generalize l[m] = y at *
                clear hC e0 e1 e2 hc6 hx9
                have hwm : IntKind.i64.wrap (m : Int) = (m : Int) := IntWalk.i64_in _ (by omega)
                have hmi : (m : Int) < (l.length : Int) := by omega
                refine wp_region_held_drew (S := fun W => (∀ i, W.cell? ⟨w.heap.size + 1 + 1, i, none⟩ = (#[.int .i64 thr, .slice A5 ns c5, .slice (some ⟨b6, off6, none⟩) l.length c6] : Array Value)[i]?) ∧ (∀ i, W.cell? ⟨wv.heap.size, i, none⟩ = (#[.int .i64 tx, .slice X1 m1 v1, .slice X2 m2 v2] : Array Value)[i]?) ∧ W.cell? ⟨b6, off6 + m * 3, none⟩ = some (.int .i64 ty) ∧ W.cell? ⟨b6, off6 + m * 3 + 1, none⟩ = some (.slice Y1 k1 d1) ∧ W.cell? ⟨b6, off6 + m * 3 + 2, none⟩ = some (.slice Y2 k2 d2) ∧ Fr none wk W) (by kernel_rfl) ⟨b3k.cell, bxk.cell, g0, g1, g2, (Fr.refl _ _).drew⟩ (fun hH0 => ?_)
                refine wpAnyH_take (i := 0) (v := ?_) rfl (by kernel_rfl) (by kernel_rfl) (by kernel_rfl) (fun _ _ _ h => h) (Or.inl ⟨by rfl, ?_⟩) (by assumption) ?_
                rotate_left
                · (intro W hW; (try dsimp only at hW); go_simp; try with_reducible rfl)
                try simp only [Act.put, List.setIfInBounds_toArray, List.set_cons_zero, List.set_cons_succ, List.getElem_toArray, List.getElem_cons_zero, List.getElem_cons_succ]
                refine wpAnyH_take (i := 1) (v := ?_) rfl (by kernel_rfl) (by kernel_rfl) (by kernel_rfl) (fun _ _ _ h => h) (Or.inl ⟨by rfl, ?_⟩) (by assumption) ?_
                rotate_left
                · (intro W hW; (try dsimp only at hW); go_simp; try with_reducible rfl)
                try simp only [Act.put, List.setIfInBounds_toArray, List.set_cons_zero, List.set_cons_succ, List.getElem_toArray, List.getElem_cons_zero, List.getElem_cons_succ]
                refine wpAnyH_take (i := 2) (v := ?_) rfl (by kernel_rfl) (by kernel_rfl) (by kernel_rfl) (fun _ _ _ h => h) (Or.inl ⟨by rfl, ?_⟩) (by assumption) ?_
                rotate_left
                · (intro W hW; (try dsimp only at hW); go_simp; try with_reducible rfl)
                try simp only [Act.put, List.setIfInBounds_toArray, List.set_cons_zero, List.set_cons_succ, List.getElem_toArray, List.getElem_cons_zero, List.getElem_cons_succ]
                refine wpAnyH_take (i := 3) (v := ?_) rfl (by kernel_rfl) (by kernel_rfl) (by kernel_rfl) (fun _ _ _ h => h) (Or.inl ⟨by rfl, ?_⟩) (by assumption) ?_
                rotate_left
                · (intro W hW; (try dsimp only at hW); go_simp; try with_reducible rfl)
                try simp only [Act.put, List.setIfInBounds_toArray, List.set_cons_zero, List.set_cons_succ, List.getElem_toArray, List.getElem_cons_zero, List.getElem_cons_succ]
                refine wpAnyH_take (i := 4) (v := ?_) rfl (by kernel_rfl) (by kernel_rfl) (by kernel_rfl) (fun _ _ _ h => h) (Or.inl ⟨by rfl, ?_⟩) (by assumption) ?_
                rotate_left
                · (intro W hW; (try dsimp only at hW); go_simp; try with_reducible rfl)
                try simp only [Act.put, List.setIfInBounds_toArray, List.set_cons_zero, List.set_cons_succ, List.getElem_toArray, List.getElem_cons_zero, List.getElem_cons_succ]
                refine wpAnyH_take (i := 5) (v := ?_) rfl (by kernel_rfl) (by kernel_rfl) (by kernel_rfl) (fun _ _ _ h => h) (Or.inl ⟨by rfl, ?_⟩) (by assumption) ?_
                rotate_left
                · (intro W hW; (try dsimp only at hW); go_simp; try with_reducible rfl)
                try simp only [Act.put, List.setIfInBounds_toArray, List.set_cons_zero, List.set_cons_succ, List.getElem_toArray, List.getElem_cons_zero, List.getElem_cons_succ]
                refine wpAnyH_take (i := 6) (v := ?_) rfl (by kernel_rfl) (by kernel_rfl) (by kernel_rfl) (fun _ _ _ h => h) (Or.inl ⟨by rfl, ?_⟩) (by assumption) ?_
                rotate_left
                · (intro W hW; (try dsimp only at hW); go_simp; try with_reducible rfl)
                try simp only [Act.put, List.setIfInBounds_toArray, List.set_cons_zero, List.set_cons_succ, List.getElem_toArray, List.getElem_cons_zero, List.getElem_cons_succ]
                refine wpAnyH_take (i := 7) (v := ?_) rfl (by kernel_rfl) (by kernel_rfl) (by kernel_rfl) (fun _ _ _ h => h) (Or.inl ⟨by rfl, ?_⟩) (by assumption) ?_
                rotate_left
                · (intro W hW; (try dsimp only at hW); go_simp; try with_reducible rfl)
                try simp only [Act.put, List.setIfInBounds_toArray, List.set_cons_zero, List.set_cons_succ, List.getElem_toArray, List.getElem_cons_zero, List.getElem_cons_succ]
                refine wpAnyH_take (i := 8) (v := ?_) rfl (by kernel_rfl) (by kernel_rfl) (by kernel_rfl) (fun _ _ _ h => h) (Or.inl ⟨by rfl, ?_⟩) (by assumption) ?_
                rotate_left
                · (intro W hW; (try dsimp only at hW); go_simp; try with_reducible rfl)
                try simp only [Act.put, List.setIfInBounds_toArray, List.set_cons_zero, List.set_cons_succ, List.getElem_toArray, List.getElem_cons_zero, List.getElem_cons_succ]
                refine wpAnyH_take (i := 9) (v := ?_) rfl (by kernel_rfl) (by kernel_rfl) (by kernel_rfl) (fun _ _ _ h => h) (Or.inl ⟨by rfl, ?_⟩) (by assumption) ?_
                rotate_left
                · (intro W hW; (try dsimp only at hW); go_simp; try with_reducible rfl)
                try simp only [Act.put, List.setIfInBounds_toArray, List.set_cons_zero, List.set_cons_succ, List.getElem_toArray, List.getElem_cons_zero, List.getElem_cons_succ]
                refine wpAnyH_ready (rs := [10]) (by kernel_rfl) (by simp) ?_
                refine AllReadyH.cons rfl (fun K hK => ?_) AllReadyH.nil
                simp only [List.getElem_toArray, List.getElem_cons_zero, List.getElem_cons_succ]
                go_simp
                go_at_call 44
                have Fx := Fwk.pure hH0.2.2.2.2.2
                have Fy := (Fa.pure Fk).pure hH0.2.2.2.2.2
                refine (rcmp_any y.dep y x _ _ _ none (Nat.le_refl _) (TrD.keep (fun q hq => ⟨⟨by have := HD.out q hq; have := Fx.size; omega, by simp⟩, Fy.block q (by have := HD.out q hq; have := Fw.size; omega) (by simp)⟩) _ _ hu0) (TrD.keep (fun q hq => ⟨⟨by have := HD.out q hq; have := Fx.size; omega, by simp⟩, Fx.block q (HD.out q hq) (by simp)⟩) _ _ hy0)).mono ?_
                rintro e wq ⟨rfl, Fq⟩
                rw [← HC.out]
                have Fq := hH0.2.2.2.2.2.pure Fq
                refine hK.out _ _ ⟨(b3k.fr Fq (by simp)).cell, (bxk.fr Fq (by simp)).cell, Fq.keep g0 (by simp), Fq.keep g1 (by simp), Fq.keep g2 (by simp), Fq⟩ (fun hH1 => ?_)
                clear hK K hH0 Fx Fy
                try simp only [Act.put, List.setIfInBounds_toArray, List.set_cons_zero, List.set_cons_succ, List.getElem_toArray, List.getElem_cons_zero, List.getElem_cons_succ]
                refine wpAnyH_take (i := 11) (v := ?_) rfl (by kernel_rfl) (by kernel_rfl) (by kernel_rfl) (fun _ _ _ h => h) (Or.inl ⟨by rfl, ?_⟩) (by assumption) ?_
                rotate_left
                · (intro W hW; (try dsimp only at hW); go_simp; try with_reducible rfl)
                try simp only [Act.put, List.setIfInBounds_toArray, List.set_cons_zero, List.set_cons_succ, List.getElem_toArray, List.getElem_cons_zero, List.getElem_cons_succ]
                refine wpAnyH_take (i := 12) (v := ?_) rfl (by kernel_rfl) (by kernel_rfl) (by kernel_rfl) (fun _ _ _ h => h) (Or.inl ⟨by rfl, ?_⟩) (by assumption) ?_
                rotate_left
                · (intro W hW; (try dsimp only at hW); go_simp; try with_reducible rfl)
                try simp only [Act.put, List.setIfInBounds_toArray, List.set_cons_zero, List.set_cons_succ, List.getElem_toArray, List.getElem_cons_zero, List.getElem_cons_succ]
                refine wpAnyH_done (by kernel_rfl) ?_ _
                go_wp2_with fail
                go_meet
                refine ⟨_, rfl, hH1.2.2.2.2.2, fun h => ⟨by omega, ?_⟩, fun h => ?_⟩
                · have h := of_decide_eq_true h
                  have e := HTK.out
                  rw [if_pos h] at e
                  unfold Hid
                  rw [HK.out, e, Nat.add_sub_cancel]
                  omega
                · have h := of_decide_eq_false h
                  unfold Hid
                  rw [HTK.out, if_neg h]
            case rest =>
              obtain ⟨g, rfl, Fq, hg1, hg2⟩ := hcut
              have Fkq := Fk.pure Fq
              cases g with
              | true =>
                obtain ⟨hk1, HK1⟩ := hg1 rfl
                obtain ⟨m, rfl⟩ : ∃ m, k = m + 1 := ⟨k - 1, by omega⟩
                clear hg1 hg2
                go_wp2_with fail
                go_roundw
                case rel => exact ⟨m, by go_num, by omega, Fkq, by unfold Hid; rw [HK1.out]; simp⟩
                case measure => simp [intOf]
              | false =>
                have HK2 := hg2 rfl
                have HINS : Hid (insT l x = l.take k ++ x :: l.drop k) := insT_at l x k (by rw [HK.out, HK2.out]; omega)
                clear hg1 hg2 HK HK2
                obtain ⟨wq, hwq⟩ : ∃ wq : World, wq = wc := ⟨_, rfl⟩
                subst hwq
                have Faq := Fa.pure Fkq
                have b3q := b3.fr Faq (by simp)
                have bxq := bx.fr Fkq (by simp)
                have ownq := own_fr own Faq (by simp)
                have Fwq := Fw.pure Faq
                have F2q := F2.pure Faq
                have htsq : TrsD wq D cs l := TrsD.keep (fun q hq => ⟨hq, Faq.block q (by have := HD.out q hq; have := Fw.size; omega) (by simp)⟩) _ _ hts
                have hyq : TrD wq D (.agg #[.int .i64 tx, .slice X1 m1 v1, .slice X2 m2 v2]) x := TrD.keep (fun q hq => ⟨hq, Fwq.block q (HD.out q hq) (by simp)⟩) _ _ hy0
                have R3 := b3q.cell
                have Z3 := b3q.free
                have Rx := bxq.cell
                have hl3q := blk_lt b3q
                have hlxq := blk_lt bxq
                have hx3 : wv.heap.size ≠ w.heap.size + 1 + 1 := by omega
                have HWV := Lib.hid (Nat.le_refl wv.heap.size)
                have hzf : wn.heap.size ≤ wv.heap.size := F2.size
                have hown6 : (Value.slice A6 l.length c6).ownBlock ≠ some wv.heap.size := fun e => by have := (own.lt _ e).2; omega
                go_wp2_with (at_builtin; refine app_lit eiTrust rfl _ _ rfl wn.heap.size A6 l.length c6 _ rfl ownq 1 [.int .i64 0, .slice none 0 0, .slice none 0 0] _ _ rfl (by simp) rfl (by simp [Value.oneCell']) (by omega) (by unfold maxLen; omega) (by have := Faq.size; omega) ?_; intro A7 c7 w7 own7 F7 nb7; have K7 := b3q.fr F7 (own_ne ownq (by omega)); have R7 := K7.cell; have Z7 := K7.free; have hz7 := F7.size; have hl37 : w.heap.size + 1 + 1 < w7.heap.size := by omega)
                generalize hW : w7.setCell _ _ = w8
                have G8 : Fr (some (w.heap.size + 1 + 1)) w7 w8 := hW ▸ Fr.set1 w7 ⟨w.heap.size + 1 + 1, 2, none⟩ (.slice A7 (l.length + 1) c7)
                have K8 : TB w8 (w.heap.size + 1 + 1) (.int .i64 thr) (.slice A5 ns c5) (.slice A7 (l.length + 1) c7) := hW ▸ K7.set2 (.slice A7 (l.length + 1) c7)
                clear hW
                have og7 := own_blk_ge own7
                have own8 := own_ne_fr own7 G8 (fun e => by have := og7 _ e; omega)
                have ogq := own_blk_ge ownq
                have hz8 := G8.size
                have F28 : Fr (some (w.heap.size + 1 + 1)) wn w8 := (F2q.own F7 (fun b hb => by have := ogq b hb; omega)).same G8
                have Fq8 : Fr (some (w.heap.size + 1 + 1)) wn w8 := F28
                have F12n : Fr (some (w.heap.size + 1 + 1)) w1 wn := F
                have bx8 : TB w8 wv.heap.size (.int .i64 tx) (.slice X1 m1 v1) (.slice X2 m2 v2) := (bxq.fr F7 hown6).fr G8 (by simp; omega)
                have R8 := K8.cell
                have hl38 := blk_lt K8
                obtain ⟨g, rfl, hg, cur, hb8, hnc7, hm7, hsz8, hct⟩ : ∃ g, A7 = some ⟨g, 0, none⟩ ∧ wn.heap.size ≤ g ∧ ∃ cur, w8.heap[g]? = some (.cells cur 31 (0, 0)) ∧ l.length + 1 ≤ c7 ∧ c7 ≤ maxLen ∧ cur.size = c7 * 3 ∧ cur.toList.take ((l.length + 1) * 3) = cs ++ [.int .i64 0, .slice none 0 0, .slice none 0 0] := by
                  rcases own8.2 with ⟨_, h⟩ | ⟨g, cap, cur, hv, hg, hh, hnc, hm, hsz, htk⟩
                  · omega
                  · injection hv with q1 q2 q3
                    subst q1 q3
                    exact ⟨g, rfl, hg, cur, hh, hnc, hm, hsz, htk⟩
                have hcl := hts.len
                have HCL := Lib.hid hcl
                have HSZ : Hid (cur.toList.length = c7 * 3) := by unfold Hid; rw [Array.length_toList]; exact hsz8
                have HCUR := Lib.hid hct
                have HM7 := Lib.hid hm7
                have hm9 : c7 ≤ 9223372036854775807 := by unfold maxLen at hm7; omega
                have HBL : Hid (w8.drew.heap[g]? = some (.cells cur.toList.toArray 31 (0, 0))) := by unfold Hid; rw [Array.toArray_toList]; exact hb8
                have HSRC := Lib.hid (src3 (w := w8.drew) (k := k) hb8 hct hcl)
                have H1C := Lib.hid (fun u hu => TrsD.one' hts u (List.mem_of_mem_drop hu) : ∀ u ∈ cs.drop (k * 3), u.oneCell' = true)
                have HFIT : Hid ((k + 1) * 3 + (cs.drop (k * 3)).length ≤ cur.toList.length) := by unfold Hid; rw [HSZ.out, List.length_drop, hcl]; omega
                have hwk : IntKind.i64.wrap ((k : Int) + 1) = ((k + 1 : Nat) : Int) := by rw [IntWalk.i64_in _ (by omega)]; rfl
                have h0k : (0 : Int) ≤ (k : Int) + 1 := by omega
                have h1k : (k : Int) ≤ (l.length : Int) + 1 := by omega
                have hkle : k ≤ l.length := hk
                have hgne : g ≠ w.heap.size + 1 + 1 := by omega
                have hgx : g ≠ wv.heap.size := fun e => by
                  rcases nb7 with h | ⟨q, h, hq⟩
                  · exact hown6 (h ▸ by simp [Value.ownBlock, e])
                  · simp [Value.ownBlock] at h; omega
                clear R7 Z7 Z3 own7 own8 hct hcl hsz8 hm7 hb8 Rx R3 own ownq nb7
                by_cases hlast : k + 1 = c7
                · have HKN : Hid (k = l.length) := Lib.hid (by omega)
                  have HCN : Hid ((cs.drop (k * 3)).length = Nat.min (l.length + 1 - k) 0 * 3) := by unfold Hid; rw [List.length_drop, HCL.out, HKN.out]; simp
                  subst hlast
                  go_wp2_with fail
                  go_still_tail 9, (by kernel_rfl)
                  change wpList _ _ _ _ _ w8.drew
                  refine copy_frK rfl _ _ _ _ rfl 31 3 Tryz.underlying29 (by kernel_rfl) _ _ _ _ _ _ rfl rfl g ((k + 1) * 3) cur.toList 31 HBL.out (cs.drop (k * 3)) HCN.out (by simp) (by simp) (fun h => absurd h (by simp)) HFIT.out H1C.out ?_
                  intro w9 hb9 F9
                  have K9 := (K8.fr (Fr.refl none w8).drew (by simp)).fr F9 (by simp; omega)
                  have bx9 := (bx8.fr (Fr.refl none w8).drew (by simp)).fr F9 (by simp; omega)
                  have R9 := K9.cell
                  have Rx9 := bx9.cell
                  have hl9 : ∀ i, i < (l.length + 1) * 3 → ∃ v, w9.cell? ⟨g, i, none⟩ = some v := fun i hi => by
                    rw [blk_cell hb9.out i]
                    exact ⟨_, Array.getElem?_eq_getElem (by
                      have h1 := HFIT.out
                      have h2 := HSZ.out
                      have h3 := HCL.out
                      simp only [List.size_toArray, List.length_append, List.length_take, List.length_drop, Array.length_toList] at h1 h2 ⊢
                      omega)⟩
                  obtain ⟨v0, hv0⟩ := hl9 (k * 3) (by omega)
                  obtain ⟨v1', hv1⟩ := hl9 (k * 3 + 1) (by omega)
                  obtain ⟨v2', hv2⟩ := hl9 (k * 3 + 2) (by omega)
                  have Z9 := blk_free hb9.out
                  have HOWN := Lib.hid (own_ins3 (x0 := .int .i64 tx) (x1 := .slice X1 m1 v1) (x2 := .slice X2 m2 v2) hg hb9.out HSZ.out hnc7 HM7.out HCUR.out HCL.out hk)
                  have G9 := fr_row3s w9 g (k * 3) (.int .i64 tx) (.slice X1 m1 v1) (.slice X2 m2 v2)
                  have hgl9 := blk_lt hb9.out
                  clear hl9 hb9
                  go_wp2_with fail
                  go_roundw
                  case rel =>
                    have hlen : (insT l x).length = l.length + 1 := by rw [HINS.out]; simp; omega
                    have hF : Fr (some (w.heap.size + 1 + 1)) wn _ := ((F28.drew).own F9 (fun b hb => by injection hb with hb; omega)).own G9 (fun b hb => by injection hb with hb; omega)
                    refine ⟨j + 1, insT l x, some ⟨g, 0, none⟩, (k + 1), cs.take (k * 3) ++ ([.int .i64 tx, .slice X1 m1 v1, .slice X2 m2 v2] ++ cs.drop (k * 3)), by go_num, by omega, by rw [hlen]; omega, hF, by rw [hlen]; exact K9.fr G9 (by simp; omega), by rw [hlen]; exact HOWN.out, ?_, by unfold Hid; rw [HJ.out, List.foldl_cons]⟩
                    have hFw : Fr none w _ := F1.own (F12n.same hF) (by simp; omega)
                    have kD : ∀ q, D q → D q ∧ _ := fun q hq => ⟨hq, hFw.block q (HD.out q hq) (by simp)⟩
                    have kq : ∀ q, D q → D q ∧ _ := fun q hq => ⟨hq, (hFw.block q (HD.out q hq) (by simp)).trans (Fwq.block q (HD.out q hq) (by simp)).symm⟩
                    rw [HINS.out]
                    have hall := TrsD.keep kq _ _ htsq
                    exact TrsD.append (hall.take k) (by simp only [List.cons_append, List.nil_append, TrsD]; exact ⟨_, _, _, _, rfl, TrD.keep kD _ _ hy0, hall.drop k⟩)
                  case measure => simp [intOf]; omega
                · have hlt5 : ¬ c7 = k + 1 := by omega
                  have hlt6 : ¬ c7 = k := by omega
                  clear hlast
                  have HCN : Hid ((cs.drop (k * 3)).length = Nat.min (l.length + 1 - k) (l.length - k) * 3) := by unfold Hid; simp only [List.length_drop, HCL.out, Nat.min_def]; split <;> omega
                  go_wp2_with fail
                  go_still_tail 9, (by kernel_rfl)
                  change wpList _ _ _ _ _ w8.drew
                  refine copy_frK rfl _ _ _ _ rfl 31 3 Tryz.underlying29 (by kernel_rfl) _ _ _ _ _ _ rfl rfl g ((k + 1) * 3) cur.toList 31 HBL.out (cs.drop (k * 3)) HCN.out (by simp) (by simp) (fun _ => ⟨rfl, _, rfl, HSRC.out⟩) HFIT.out H1C.out ?_
                  intro w9 hb9 F9
                  have K9 := (K8.fr (Fr.refl none w8).drew (by simp)).fr F9 (by simp; omega)
                  have bx9 := (bx8.fr (Fr.refl none w8).drew (by simp)).fr F9 (by simp; omega)
                  have R9 := K9.cell
                  have Rx9 := bx9.cell
                  have hl9 : ∀ i, i < (l.length + 1) * 3 → ∃ v, w9.cell? ⟨g, i, none⟩ = some v := fun i hi => by
                    rw [blk_cell hb9.out i]
                    exact ⟨_, Array.getElem?_eq_getElem (by
                      have h1 := HFIT.out
                      have h2 := HSZ.out
                      have h3 := HCL.out
                      simp only [List.size_toArray, List.length_append, List.length_take, List.length_drop, Array.length_toList] at h1 h2 ⊢
                      omega)⟩
                  obtain ⟨v0, hv0⟩ := hl9 (k * 3) (by omega)
                  obtain ⟨v1', hv1⟩ := hl9 (k * 3 + 1) (by omega)
                  obtain ⟨v2', hv2⟩ := hl9 (k * 3 + 2) (by omega)
                  have Z9 := blk_free hb9.out
                  have HOWN := Lib.hid (own_ins3 (x0 := .int .i64 tx) (x1 := .slice X1 m1 v1) (x2 := .slice X2 m2 v2) hg hb9.out HSZ.out hnc7 HM7.out HCUR.out HCL.out hk)
                  have G9 := fr_row3s w9 g (k * 3) (.int .i64 tx) (.slice X1 m1 v1) (.slice X2 m2 v2)
                  have hgl9 := blk_lt hb9.out
                  clear hl9 hb9
                  go_wp2_with fail
                  go_roundw
                  case rel =>
                    have hlen : (insT l x).length = l.length + 1 := by rw [HINS.out]; simp; omega
                    have hF : Fr (some (w.heap.size + 1 + 1)) wn _ := ((F28.drew).own F9 (fun b hb => by injection hb with hb; omega)).own G9 (fun b hb => by injection hb with hb; omega)
                    refine ⟨j + 1, insT l x, some ⟨g, 0, none⟩, c7, cs.take (k * 3) ++ ([.int .i64 tx, .slice X1 m1 v1, .slice X2 m2 v2] ++ cs.drop (k * 3)), by go_num, by omega, by rw [hlen]; omega, hF, by rw [hlen]; exact K9.fr G9 (by simp; omega), by rw [hlen]; exact HOWN.out, ?_, by unfold Hid; rw [HJ.out, List.foldl_cons]⟩
                    have hFw : Fr none w _ := F1.own (F12n.same hF) (by simp; omega)
                    have kD : ∀ q, D q → D q ∧ _ := fun q hq => ⟨hq, hFw.block q (HD.out q hq) (by simp)⟩
                    have kq : ∀ q, D q → D q ∧ _ := fun q hq => ⟨hq, (hFw.block q (HD.out q hq) (by simp)).trans (Fwq.block q (HD.out q hq) (by simp)).symm⟩
                    rw [HINS.out]
                    have hall := TrsD.keep kq _ _ htsq
                    exact TrsD.append (hall.take k) (by simp only [List.cons_append, List.nil_append, TrsD]; exact ⟨_, _, _, _, rfl, TrD.keep kD _ _ hy0, hall.drop k⟩)
                  case measure => simp [intOf]; omega
        · obtain rfl : j = inner.length := by omega
          have HL : Hid (sortT inner = l) := by unfold Hid sortT; rw [HJ.out]; simp
          have b2r := (b2.fr F (by simp)).fr F2 (by simp)
          have R2 := b2r.cell
          have Z2 := b2r.free
          have hl2 := blk_lt b2r
          have hz2 := F2.size
          clear HJ
          go_wp2_with fail
          refine bodyPost_ret (v := .agg #[.int .i64 thr, .slice A5 ns c5, .slice A6 l.length c6]) (by simp [results, Tryz.results158, go_sem, R2, R3]) rfl ?_
          have G := fr_fill3 wr (w.heap.size + 1) (.int .i64 thr) (.slice A5 ns c5) (.slice A6 l.length c6)
          generalize World.setCell (World.setCell (World.setCell wr _ _) _ _) _ _ = w6 at *
          have hzG := G.size
          have k5 : SlD w6 (Dw D w w6) 1 (.slice A5 ns c5) ((sortN nodes).map (Value.int .i64)) := by
            have h5' : wn.ownsRow w1.heap.size 3 1 (.slice A5 ns c5) ns ((sortN nodes).map (Value.int .i64)) := HOWN5.out
            exact (SlD.own_dn h5').keep (fun q hq => ⟨.inr ⟨by have := hq.1; omega, by have := hq.2; omega⟩, (G.block q (by have := hq.2; omega) (by have := hq.1; simp; omega)).trans (F2.block q hq.2 (by have := hq.1; simp; omega))⟩)
          have kD : ∀ q, D q → Dw D w w6 q ∧ w6.heap[q]? = wr.heap[q]? := fun q hq => ⟨.inl hq, G.block q (by have := HD.out q hq; have := Fw.size; omega) (by have := HD.out q hq; simp; omega)⟩
          have k6 : SlD w6 (Dw D w w6) 3 (.slice A6 l.length c6) cs := (SlD.own_dn own).keep (fun q hq => ⟨.inr ⟨by have := hq.1; omega, by have := hq.2; omega⟩, G.block q hq.2 (by have := hq.1; simp; omega)⟩)
          refine ⟨_, rfl, ?_, Fw.own G (by simp)⟩
          have e1 : ordT (.mk thr nodes inner) = .mk thr (sortN nodes) l := by unfold ordT; simp only [Tr.thr, Tr.nodes, Tr.inner]; rw [HL.out]
          rw [e1]
          have hnl := HNS.out
          exact TrD.mk_ h0 k5 HSW.out k6 (by omega) (by omega) (TrsD.keep kD _ _ hts)
end Go.Proofs.YtpdhckbiioobhaaGreatDoor

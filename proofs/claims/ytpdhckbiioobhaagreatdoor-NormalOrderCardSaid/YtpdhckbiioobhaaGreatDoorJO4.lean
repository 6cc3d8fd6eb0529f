/- Some texts of this claim, joined: contracts of the functions that it reaches, and plain laws. -/
import Derived.Test.YtpdhckbiioobhaaGreatDoorJO3
import Derived.Laws.CopyOwn
import Derived.Test.YtpdhckbiioobhaaGreatDoorJO1
import Derived.Lib.Join
import Derived.Lib.ItoaLen

/- Walks: the reference's sorted. -/
namespace Go.Proofs.YtpdhckbiioobhaaGreatDoor
open Go.RowKit

/-! ### copy of elements of k cells -/
theorem run_copy_rowK {P : Program} (w : World) (dT sT ty elem : TypeId) (g o dLen dCap : Nat) (a : Addr) (sLen sCap : Nat) (cur : Array Value) (t : TypeId) (cs : List Value) (k : Nat)
    (hu : P.underlying dT = some (.slice elem)) (hs : (P.info? elem).map (·.size) = some k)
    (hg : w.heap[g]? = some (.cells cur t (0, 0))) (hn : cs.length = Nat.min sLen dLen * k)
    (hsrc : ∀ j v, cs[j]? = some v → w.cell? (a.add j) = some v) (hfit : o + cs.length ≤ cur.size) (h1 : ∀ v ∈ cs, v.oneCell' = true) :
    (Builtin.copy_ #[dT, sT] ty #[.slice (some ⟨g, o, none⟩) dLen dCap, .slice (some a) sLen sCap]).run P w =
      .ok (goInt (Nat.min sLen dLen)) (w.setRow g (cur.toList.take o ++ cs ++ cur.toList.drop (o + cs.length)).toArray) := by
  have hl := run_loadCells_list (P := P) w a cs hsrc
  have hst := run_storeCells_at P g o t cs 0 cur w hg (by simpa using hfit) h1
  cases hq : P.info? elem with
  | none => simp [hq] at hs
  | some i =>
    have hi : i.size = k := by simpa [hq] using hs
    simp [Builtin.copy_, run_underlying hu, Builtin.lenOf, Builtin.firstCells, sizeOf, typeInfo, hq, hi, ← hn, hl, hst]
theorem run_copy_noneK {P : Program} (w : World) (dT sT ty elem : TypeId) (dp sp : Option Addr) (dLen dCap sLen sCap k : Nat) (hu : P.underlying dT = some (.slice elem)) (hs : (P.info? elem).map (·.size) = some k) (hn : Nat.min sLen dLen = 0) (hd : dp ≠ none) (hp : sp ≠ none) :
    (Builtin.copy_ #[dT, sT] ty #[.slice dp dLen dCap, .slice sp sLen sCap]).run P w = .ok (goInt 0) w := by
  cases hq : P.info? elem with
  | none => simp [hq] at hs
  | some i =>
    cases dp with
    | none => exact absurd rfl hd
    | some d =>
      cases sp with
      | none => exact absurd rfl hp
      | some s => simp [Builtin.copy_, run_underlying hu, Builtin.lenOf, Builtin.firstCells, sizeOf, typeInfo, hq, hn, loadCells, loadCellsFrom, storeCells]
/-- copy within the memory of w: the row g behind it, and that nothing else has changed. -/
theorem copy_frK {P : Program} {w : World} {ops : Array Oper} {rest : List Oper} {o : Oper} {a : Act} {Q : Exit → Act → World → Prop} (hgd : o.guard = none) (d s : Operand) (dT sT : TypeId)
    (ho : o.op = .call { callee := .builtin .copy, args := #[d, s], argTypes := #[dT, sT] }) (elem : TypeId) (k : Nat) (hu : P.underlying dT = some (.slice elem)) (hsz : (P.info? elem).map (·.size) = some k)
    (dp sp : Option Addr) (dLen dCap sLen sCap : Nat) (hd : a.eval d = .slice dp dLen dCap) (hs : a.eval s = .slice sp sLen sCap)
    (g off : Nat) (cur : List Value) (t : TypeId) (hg : w.heap[g]? = some (.cells cur.toArray t (0, 0))) (cs : List Value) (hn : cs.length = Nat.min sLen dLen * k) (hdp : dp ≠ none) (hsp : sp ≠ none)
    (hpos : 0 < Nat.min sLen dLen → dp = some ⟨g, off, none⟩ ∧ ∃ ad, sp = some ad ∧ ∀ j v, cs[j]? = some v → w.cell? (ad.add j) = some v)
    (hfit : off + cs.length ≤ cur.length) (h1 : ∀ v ∈ cs, v.oneCell' = true)
    (h : ∀ w', Hid (w'.heap[g]? = some (.cells (cur.take off ++ cs ++ cur.drop (off + cs.length)).toArray t (0, 0))) → Fr (some g) w w' → wpList P ops Q rest (a.put o.dst (goInt (Nat.min sLen dLen))) w') :
    wpList P ops Q (o :: rest) a w := by
  refine wpList_plain hgd fun K hK => ?_
  by_cases h0 : Nat.min sLen dLen = 0
  · have hrun := run_copy_noneK (P := P) w dT sT o.type elem dp sp dLen dCap sLen sCap k hu hsz h0 hdp hsp
    have hc0 : cs = [] := List.eq_nil_of_length_eq_zero (by rw [hn, h0]; simp)
    unfold Oper.wp
    simp [execOp, ho, resolve, invoke, builtin, hd, hs, hrun, Result.andThen]
    have := h w (by subst hc0; simpa [Hid] using hg) (Fr.refl _ _)
    rw [h0] at this
    exact hK _ _ this
  · obtain ⟨rfl, ad, rfl, hsrc⟩ := hpos (by omega)
    have hrun := run_copy_rowK (P := P) w dT sT o.type elem g off dLen dCap ad sLen sCap cur.toArray t cs k hu hsz hg hn hsrc (by simpa using hfit) h1
    unfold Oper.wp
    simp [execOp, ho, resolve, invoke, builtin, hd, hs, hrun, Result.andThen]
    refine hK _ _ ?_
    refine h _ ?_ ?_
    · unfold Hid
      simpa using setRow_heap w g _ _ t _ hg
    · exact ⟨rfl, rfl, rfl, by simp [World.setRow], fun k _ hne => setRow_other w g k _ (fun e => hne (by rw [e]))⟩

/-- How far from the end a trust is put. -/
def twl (l : List Tr) (x : Tr) : Nat := (l.reverse.takeWhile fun y => decide (0 < cmpT y x)).length
theorem twl_nil (x : Tr) : twl [] x = 0 := rfl
theorem twl_snoc (l : List Tr) (y x : Tr) : twl (l ++ [y]) x = if 0 < cmpT y x then twl l x + 1 else 0 := by
  unfold twl
  rw [List.reverse_append, List.reverse_singleton, List.singleton_append, List.takeWhile_cons]
  by_cases h : 0 < cmpT y x
  · simp [h]
  · simp [h]
theorem twl_take (l : List Tr) (k : Nat) (hk : k < l.length) (x : Tr) : twl (l.take (k + 1)) x = if 0 < cmpT l[k] x then twl (l.take k) x + 1 else 0 := by
  rw [List.take_succ_eq_append_getElem hk, twl_snoc]
theorem insT_at (l : List Tr) (x : Tr) (k : Nat) (h : l.length - twl l x = k) : insT l x = l.take k ++ x :: l.drop k := by subst h; rfl
/-- The nodes so far. -/
def nkN (nodes : List Int) (k : Nat) : List Int := ((List.range k).map Int.ofNat).filter fun k => nodes.any (fun x => decide (x = k))
theorem nkN_succ (nodes : List Int) (k : Nat) : nkN nodes (k + 1) = if nodes.any (fun x => decide (x = (k : Int))) then nkN nodes k ++ [(k : Int)] else nkN nodes k := by
  unfold nkN
  rw [List.range_succ, List.map_append, List.filter_append]
  simp only [List.map_cons, List.map_nil, List.filter_cons, List.filter_nil]
  split <;> simp_all
theorem nkN_len (nodes : List Int) (k : Nat) : (nkN nodes k).length ≤ k := Nat.le_trans (List.length_filter_le _ _) (by simp)

theorem TrsD.one' {w : World} {D : Nat → Prop} : ∀ {l : List Tr} {cells : List Value}, TrsD w D cells l → ∀ u ∈ cells, u.oneCell' = true
  | [], cells, h, u, hu => by simp only [TrsD] at h; subst h; simp at hu
  | x :: r, cells, h, u, hu => by
    simp only [TrsD] at h
    obtain ⟨a, b, c, rest, rfl, h1, h2⟩ := h
    obtain ⟨th, A1, n1, c1, A2, n2, c2, e⟩ := h1.shape
    simp only [Value.agg.injEq, Array.mk.injEq, List.cons.injEq, and_true] at e
    obtain ⟨rfl, rfl, rfl⟩ := e
    simp only [List.mem_cons] at hu
    rcases hu with rfl | rfl | rfl | hu
    · simp [Value.oneCell']
    · simp [Value.oneCell']
    · simp [Value.oneCell']
    · exact TrsD.one' h2 u hu
theorem TrsD.take {w : World} {D : Nat → Prop} : ∀ {l : List Tr} {cells : List Value}, TrsD w D cells l → ∀ k, TrsD w D (cells.take (k * 3)) (l.take k)
  | [], cells, h, k => by simp only [TrsD] at h; subst h; simp [TrsD]
  | x :: r, cells, h, k => by
    simp only [TrsD] at h
    obtain ⟨a, b, c, rest, rfl, h1, h2⟩ := h
    cases k with
    | zero => simp [TrsD]
    | succ k =>
      rw [show (k + 1) * 3 = k * 3 + 1 + 1 + 1 by omega]
      simp only [List.take_succ_cons, TrsD]
      exact ⟨a, b, c, _, rfl, h1, TrsD.take h2 k⟩
theorem TrsD.drop {w : World} {D : Nat → Prop} : ∀ {l : List Tr} {cells : List Value}, TrsD w D cells l → ∀ k, TrsD w D (cells.drop (k * 3)) (l.drop k)
  | [], cells, h, k => by simp only [TrsD] at h; subst h; simp [TrsD]
  | x :: r, cells, h, k => by
    cases k with
    | zero => simpa using h
    | succ k =>
      simp only [TrsD] at h
      obtain ⟨a, b, c, rest, rfl, h1, h2⟩ := h
      rw [show (k + 1) * 3 = k * 3 + 1 + 1 + 1 by omega]
      simp only [List.drop_succ_cons]
      exact TrsD.drop h2 k
/-- What the copy and the store leave in the row. -/
theorem row_ins3 {cur cs : List Value} {z0 z1 z2 x0 x1 x2 : Value} {n k : Nat} (h : cur.take ((n + 1) * 3) = cs ++ [z0, z1, z2]) (hl : cs.length = n * 3) (hk : k ≤ n) :
    ((((cur.take ((k + 1) * 3) ++ cs.drop (k * 3) ++ cur.drop ((k + 1) * 3 + (cs.drop (k * 3)).length)).set (k * 3) x0).set (k * 3 + 1) x1).set (k * 3 + 2) x2).take ((n + 1) * 3) = cs.take (k * 3) ++ ([x0, x1, x2] ++ cs.drop (k * 3)) := by
  have hp : (cs.take (k * 3)).length = k * 3 := by rw [List.length_take]; omega
  obtain ⟨a, b, c, r, hr⟩ : ∃ a b c r, cs.drop (k * 3) ++ [z0, z1, z2] = a :: b :: c :: r := by
    generalize cs.drop (k * 3) = q
    match q with
    | [] => exact ⟨_, _, _, [], rfl⟩
    | [q0] => exact ⟨_, _, _, _, rfl⟩
    | [q0, q1] => exact ⟨_, _, _, _, rfl⟩
    | q0 :: q1 :: q2 :: q => exact ⟨_, _, _, _, rfl⟩
  have hcur : cur = cs.take (k * 3) ++ (a :: b :: c :: (r ++ cur.drop ((n + 1) * 3))) := by
    have e := List.take_append_drop ((n + 1) * 3) cur
    rw [h] at e
    have e2 : cs ++ [z0, z1, z2] = cs.take (k * 3) ++ (a :: b :: c :: r) := by rw [← hr, ← List.append_assoc, List.take_append_drop]
    rw [e2] at e
    exact e.symm.trans (by simp)
  have htk : cur.take ((k + 1) * 3) = cs.take (k * 3) ++ [a, b, c] := by
    rw [hcur, List.take_append, hp, List.take_of_length_le (by rw [hp]; omega), show (k + 1) * 3 - k * 3 = 3 by omega]
    simp
  rw [htk]
  simp only [List.append_assoc, List.cons_append, List.nil_append]
  rw [List.set_append_right _ _ (by rw [hp]; omega), hp, Nat.sub_self, List.set_cons_zero, List.set_append_right _ _ (by rw [hp]; omega), hp, show k * 3 + 1 - k * 3 = 1 by omega, List.set_cons_succ, List.set_cons_zero, List.set_append_right _ _ (by rw [hp]; omega), hp, show k * 3 + 2 - k * 3 = 2 by omega, List.set_cons_succ, List.set_cons_succ, List.set_cons_zero]
  rw [List.take_append, hp, List.take_of_length_le (by rw [hp]; omega)]
  congr 1
  rw [show (n + 1) * 3 - k * 3 = (n - k) * 3 + 1 + 1 + 1 by omega]
  simp only [List.take_succ_cons]
  rw [List.take_append_of_le_length (by rw [List.length_drop]; omega), List.take_of_length_le (by rw [List.length_drop]; omega)]

theorem fr_row3s (w : World) (b o : Nat) (x y z : Value) : Fr (some b) w (((w.setCell ⟨b, o, none⟩ x).setCell ⟨b, o + 1, none⟩ y).setCell ⟨b, o + 2, none⟩ z) :=
  Fr.setRow (p := ⟨b, o + 2, none⟩) (Fr.setRow (p := ⟨b, o + 1, none⟩) (Fr.set1 w ⟨b, o, none⟩ x) rfl y) rfl z
theorem own_ins3 {w : World} {base g n k c7 : Nat} {e : TypeId} {cur cs : List Value} {z0 z1 z2 x0 x1 x2 : Value} (hg : base ≤ g) (hb : w.heap[g]? = some (.cells (cur.take ((k + 1) * 3) ++ cs.drop (k * 3) ++ cur.drop ((k + 1) * 3 + (cs.drop (k * 3)).length)).toArray e (0, 0)))
    (hs : cur.length = c7 * 3) (hnc : n + 1 ≤ c7) (hm : c7 ≤ maxLen) (h : cur.take ((n + 1) * 3) = cs ++ [z0, z1, z2]) (hl : cs.length = n * 3) (hk : k ≤ n) :
    (((w.setCell ⟨g, k * 3, none⟩ x0).setCell ⟨g, k * 3 + 1, none⟩ x1).setCell ⟨g, k * 3 + 2, none⟩ x2).ownsRow base e 3 (.slice (some ⟨g, 0, none⟩) (n + 1) c7) (n + 1) (cs.take (k * 3) ++ ([x0, x1, x2] ++ cs.drop (k * 3))) := by
  have h3 := blk_set (blk_set (blk_set hb (k * 3) x0) (k * 3 + 1) x1) (k * 3 + 2) x2
  have hr := row_ins3 (x0 := x0) (x1 := x1) (x2 := x2) h hl hk
  have hd : (cs.drop (k * 3)).length = n * 3 - k * 3 := by rw [List.length_drop, hl]
  refine ⟨?_, .inr ⟨g, c7, _, rfl, hg, h3, hnc, hm, ?_, ?_⟩⟩
  · simp only [List.length_append, List.length_take, List.length_cons, List.length_nil, hd, hl]
    omega
  · simp only [Array.size_setIfInBounds, List.size_toArray, List.length_append, List.length_take, List.length_drop, hd, hs]
    omega
  · simpa using hr
theorem src3 {w : World} {g k n : Nat} {e : TypeId} {cur : Array Value} {cs : List Value} {z : List Value} (hb : w.heap[g]? = some (.cells cur e (0, 0))) (h : cur.toList.take ((n + 1) * 3) = cs ++ z) (hl : cs.length = n * 3) :
    ∀ j v, (cs.drop (k * 3))[j]? = some v → w.cell? ((⟨g, k * 3, none⟩ : Addr).add j) = some v := by
  intro j v hv
  rw [List.getElem?_drop] at hv
  have hlt : k * 3 + j < cs.length := (List.getElem?_eq_some_iff.1 hv).1
  rw [Addr.add_lit, blk_cell hb]
  have e1 : (cur.toList.take ((n + 1) * 3))[k * 3 + j]? = cur.toList[k * 3 + j]? := by rw [List.getElem?_take, if_pos (by omega)]
  rw [← Array.getElem?_toList, ← e1, h, List.getElem?_append_left hlt]
  exact hv

set_option maxRecDepth 100000 in
set_option maxHeartbeats 4000000 in
theorem rsorted_any (thr : Int) (nodes : List Int) (inner : List Tr) (v : Value) (D : Nat → Prop) (w : World) (hD : ∀ b, D b → b < w.heap.size) (hsz : inner.length ≤ 1000000) (ht : TrD w D v (.mk thr nodes inner)) :
    Calls Tryz.prog 158 #[v] w fun e w' => ∃ v', e = .returned v' ∧ TrD w' (Dw D w w') v' (ordT (.mk thr nodes inner)) ∧ Fr none w w' := by
  simp only [TrD] at ht
  obtain ⟨vn, vi, cells, rfl, h0, h1, h2, h3, h4, h5, h6⟩ := ht
  obtain ⟨A, n, c, rfl, hl, hnc, hm, hx⟩ := id h1
  obtain ⟨A', n', c', rfl, hl', hnc', hm', hx'⟩ := id h3
  have hlen := h6.len
  obtain rfl : n' = inner.length := by omega
  obtain rfl : n = nodes.length := by simpa using hl.symm
  unfold Few at h4 h5
  unfold maxLen at hm hm'
  have HD := Lib.hid hD
  clear hl hl' hlen hD hx
  go_enter Tryz.func158, Tryz.ntmps158
  go_wp2_with fail
  generalize hW : ((w.alloc _).alloc _).alloc _ = w1
  have hz1 : w.heap.size + 2 < w1.heap.size := by rw [← hW]; simp
  have F1 : Fr none w w1 := hW ▸ (((Fr.refl none w).alloc _).alloc _).alloc _
  have b1 : TB w1 w.heap.size (.int .i64 thr) (.slice A nodes.length c) (.slice A' inner.length c') := by rw [← hW]; exact (Below.heap_alloc _ _ _ (by simp; omega)).trans ((Below.heap_alloc _ _ _ (by simp)).trans (blk_new _ _))
  have b2 : TB w1 (w.heap.size + 1) (.int .i64 0) (.slice none 0 0) (.slice none 0 0) := by rw [← hW]; exact (Below.heap_alloc _ _ _ (by simp)).trans (blk_new_at (by simp) _)
  have b3 : TB w1 (w.heap.size + 1 + 1) (.int .i64 thr) (.slice none 0 0) (.slice none 0 0) := by rw [← hW]; exact blk_new_at (by simp) _
  clear hW
  have hs1 : SlI w1 none (.slice A nodes.length c) nodes := ⟨h1.keep (fun q hq => ⟨⟨by have := HD.out q hq; omega, by simp⟩, F1.block q (HD.out q hq) (by simp)⟩), h2⟩
  have hs1w : SlD w (fun b => b < w.heap.size) 1 (.slice A nodes.length c) (nodes.map (Value.int .i64)) := h1.keep (fun q hq => ⟨HD.out q hq, rfl⟩)
  clear hs1
  go_loopw [4] (fun s4 wr => ∃ (k : Nat) (A5 : Option Addr) (c5 : Nat), s4 = .int .i64 (k : Int) ∧ k ≤ 10 ∧ Fr (some (w.heap.size + 1 + 1)) w1 wr ∧ TB wr (w.heap.size + 1 + 1) (.int .i64 thr) (.slice A5 (nkN nodes k).length c5) (.slice none 0 0) ∧ wr.ownsRow w1.heap.size 3 1 (.slice A5 (nkN nodes k).length c5) (nkN nodes k).length ((nkN nodes k).map (Value.int .i64))) (fun s4 _ => 10 - (intOf s4).toNat)
  case atStart => exact ⟨0, none, 0, rfl, by omega, Fr.refl _ _, b3, World.ownsRow_nil _ _ _ _⟩
  case round =>
    clear b3
    obtain ⟨k, A5, c5, rfl, hk, F, b3, own⟩ := hrel
    have b1r := b1.fr F (by simp; omega)
    have R1 := b1r.cell
    have R3 := b3.cell
    have hl3 := blk_lt b3
    have hl1 := blk_lt b1r
    by_cases hlt : k < 10
    · have hsr : SlI wr none (.slice A nodes.length c) nodes := ⟨hs1w.keep (fun q hq => ⟨⟨by have := F1.size; have := F.size; omega, by simp⟩, (F.block q (by omega) (by simp; omega)).trans (F1.block q hq (by simp))⟩), h2⟩
      obtain ⟨hv, hhv⟩ : ∃ hv, hv = nodes.any (fun x => decide (x = (k : Int))) := ⟨_, rfl⟩
      have HNK := Lib.hid (nkN_succ nodes k)
      have hnl := nkN_len nodes k
      have HHV := Lib.hid hhv
      clear hhv
      cases hv with
      | true =>
        have HN1 : Hid (nkN nodes (k + 1) = nkN nodes k ++ [(k : Int)]) := by unfold Hid; rw [HNK.out, if_pos HHV.out.symm]
        have Z3 := b3.free
        go_wp2_with (first | (go_at_call 155; refine (rhasn_any nodes k _ _ hsr).mono ?_; rintro e w' ⟨rfl, rfl⟩; rw [← HHV.out]) | (at_builtin; refine app_lit eiInt rfl _ _ rfl w1.heap.size A5 (nkN nodes k).length c5 _ rfl own 1 [.int .i64 k] _ _ rfl (by simp) rfl (by simp [Value.oneCell']) (by omega) (by unfold maxLen; omega) (by have := F.size; omega) ?_; intro A7 c7 w7 own7 F7 nb7; have K7 := b3.fr F7 (own_ne own (by omega)); have R7 := K7.cell; have Z7 := K7.free))
        have G := Fr.set1 w7 ⟨w.heap.size + 1 + 1, 1, none⟩ (.slice A7 ((nkN nodes k).length + 1) c7)
        have og := own_blk_ge own
        go_roundw
        case rel =>
          have hln : (nkN nodes k ++ [(k : Int)]).length = (nkN nodes k).length + 1 := by simp
          exact ⟨k + 1, A7, c7, by go_num, by omega, (F.own F7 (fun b hb => by have := og b hb; omega)).setRow rfl _, by rw [HN1.out, hln]; exact K7.set1 _, by rw [HN1.out, hln, List.map_append]; exact own_fr own7 G (by simp; omega)⟩
        case measure => simp [intOf]; omega
      | false =>
        have HN1 : Hid (nkN nodes (k + 1) = nkN nodes k) := by unfold Hid; rw [HNK.out, if_neg (by rw [← HHV.out]; simp)]
        go_wp2_with (go_at_call 155; refine (rhasn_any nodes k _ _ hsr).mono ?_; rintro e w' ⟨rfl, rfl⟩; rw [← HHV.out])
        go_roundw
        case rel => exact ⟨k + 1, A5, c5, by go_num, by omega, F, by rw [HN1.out]; exact b3, by rw [HN1.out]; exact own⟩
        case measure => simp [intOf]; omega
    · obtain rfl : k = 10 := by omega
      rw [show ((10 : Nat) : Int) = 10 from rfl]
      have HSN : Hid (nkN nodes 10 = sortN nodes) := rfl
      rw [HSN.out] at b3 own
      have hsl : (sortN nodes).length ≤ 10 := nkN_len nodes 10
      have hsw : ∀ x ∈ sortN nodes, Wi x := fun x hx => by
        have := (List.mem_filter.1 hx).1
        obtain ⟨m, hm, rfl⟩ := List.mem_map.1 this
        have := List.mem_range.1 hm
        constructor <;> simp <;> omega
      have R3 := b3.cell
      obtain ⟨wn, hwn⟩ : ∃ wn : World, wn = wr := ⟨_, rfl⟩
      subst hwn
      clear HSN
      have hzn : w1.heap.size ≤ wn.heap.size := F.size
      obtain ⟨ns, hns⟩ : ∃ ns, ns = (sortN nodes).length := ⟨_, rfl⟩
      rw [← hns] at b3 own hsl
      have HNS := Lib.hid hns
      have HOWN5 := Lib.hid own
      have HSW := Lib.hid hsw
      have R3 := b3.cell
      clear hns own hsw
      go_wp2_with fail
      go_loopw [28, 6, 7] (fun s28 s6 s7 wr => ∃ (j : Nat) (l : List Tr) (A6 : Option Addr) (c6 : Nat) (cs : List Value), s28 = .int .i64 (j : Int) ∧ j ≤ inner.length ∧ l.length ≤ j ∧ Fr (some (w.heap.size + 1 + 1)) wn wr ∧ TB wr (w.heap.size + 1 + 1) (.int .i64 thr) (.slice A5 ns c5) (.slice A6 l.length c6) ∧
        wr.ownsRow wn.heap.size 31 3 (.slice A6 l.length c6) l.length cs ∧ TrsD wr D cs l ∧ Hid (inner.foldl insT [] = (inner.drop j).foldl insT l)) (fun s28 _ _ _ => inner.length - (intOf s28).toNat)
      case atStart => exact ⟨0, [], none, 0, [], rfl, Nat.zero_le _, by simp, Fr.refl _ _, b3, World.ownsRow_nil _ _ _ _, by simp [TrsD], by simp [Hid]⟩
      case round =>
        clear R3 b3 R1 hl3
        obtain ⟨j, l, A6, c6, cs, rfl, hj, hlj, F2, b3, own, hts, HJ⟩ := hrel
        have F12 := F.same F2
        have Fw : Fr none w wr := F1.own F12 (by simp; omega)
        have R3 := b3.cell
        have hl3 := blk_lt b3
        by_cases hlt2 : j < inner.length
        · have hdj : inner.drop j = inner[j] :: inner.drop (j + 1) := List.drop_eq_getElem_cons hlt2
          obtain ⟨b, off, rfl, hb, hcc⟩ := hx' (by omega)
          obtain ⟨x0, y0, z0, e0, e1, e2, hy0⟩ := h6.get j hlt2
          rw [hdj] at HJ
          generalize inner[j] = x at *
          obtain ⟨tx, X1, m1, v1, X2, m2, v2, hsh⟩ := hy0.shape
          simp only [Value.agg.injEq, Array.mk.injEq, List.cons.injEq, and_true] at hsh
          obtain ⟨rfl, rfl, rfl⟩ := hsh
          have g0 := Fw.keep (hcc _ _ e0) (by simp)
          have g1 := Fw.keep (hcc _ _ e1) (by simp)
          have g2 := Fw.keep (hcc _ _ e2) (by simp)
          rw [← Nat.add_assoc] at g1 g2
          clear e0 e1 e2 hcc hdj
          go_wp2_with fail
          generalize hW : wr.alloc _ = wa
          have Fa : Fr none wr wa := hW ▸ (Fr.refl none wr).alloc _
          have bx : TB wa wr.heap.size (.int .i64 tx) (.slice X1 m1 v1) (.slice X2 m2 v2) := by rw [← hW]; exact blk_new _ _
          clear hW g0 g1 g2 R3
          obtain ⟨wv, hwv⟩ : ∃ wv : World, wv = wr := ⟨_, rfl⟩
          subst hwv
          go_loopw [7] (fun s7 wx => ∃ k : Nat, s7 = .int .i64 (k : Int) ∧ k ≤ l.length ∧ Fr none wa wx ∧ Hid (twl l x = l.length - k + twl (l.take k) x)) (fun s7 _ => (intOf s7).toNat)
          case atStart => exact ⟨l.length, rfl, Nat.le_refl _, Fr.refl _ _, by unfold Hid; rw [List.take_length]; omega⟩
          case round =>
            obtain ⟨k, rfl, hk, Fk, HK⟩ := hrel
            have hlxa := blk_lt bx
            have b3a := b3.fr Fa (by simp)
            have hslA : SlD wa (Dn wn.heap.size wa) 3 (.slice A6 l.length c6) cs := SlD.own_dn (own_fr own Fa (by simp))
            have Fwa := Fw.pure Fa
            obtain ⟨wk, hwk⟩ : ∃ wk : World, wk = wr := ⟨_, rfl⟩
            subst hwk
            have b3k := b3a.fr Fk (by simp)
            have bxk := bx.fr Fk (by simp)
            have Fwk := Fwa.pure Fk
            go_upto_region 11 with (fail)
            go_cut [47] (fun s47 wq => ∃ g, s47 = .bool g ∧ Fr none wk wq ∧ (g = true → 1 ≤ k ∧ Hid (twl l x = l.length - (k - 1) + twl (l.take (k - 1)) x)) ∧ (g = false → Hid (twl (l.take k) x = 0)))
            case first =>
              rcases Nat.eq_zero_or_pos k with hk0 | hk0
              · subst hk0
                refine wp_region_held_drew (S := fun W => Fr none wk W) (by kernel_rfl) (Fr.refl _ _).drew (fun hH0 => ?_)
                refine wpAnyH_take (i := 0) (v := ?_) rfl (by kernel_rfl) (by kernel_rfl) (by kernel_rfl) (fun _ _ _ h => h) (Or.inl ⟨by rfl, ?_⟩) (by assumption) ?_
                rotate_left
                · (intro W hW; (try dsimp only at hW); go_simp; try with_reducible rfl)
                try simp only [Act.put, List.setIfInBounds_toArray, List.set_cons_zero, List.set_cons_succ, List.getElem_toArray, List.getElem_cons_zero, List.getElem_cons_succ]
                refine wpAnyH_take (i := 1) (v := ?_) rfl (by kernel_rfl) (by kernel_rfl) (by kernel_rfl) (fun _ _ _ h => h) (Or.inl ⟨by rfl, ?_⟩) (by assumption) ?_
                rotate_left
                · (intro W hW; (try dsimp only at hW); go_simp; try with_reducible rfl)
                try simp only [Act.put, List.setIfInBounds_toArray, List.set_cons_zero, List.set_cons_succ, List.getElem_toArray, List.getElem_cons_zero, List.getElem_cons_succ]
                refine wpAnyH_take (i := 2) (v := ?_) rfl (by kernel_rfl) (by kernel_rfl) (by kernel_rfl) (fun _ _ _ h => h) (Or.inl ⟨by rfl, ?_⟩) (by assumption) ?_
                rotate_left
                · (intro W hW; (try dsimp only at hW); go_simp; try with_reducible rfl)
                try simp only [Act.put, List.setIfInBounds_toArray, List.set_cons_zero, List.set_cons_succ, List.getElem_toArray, List.getElem_cons_zero, List.getElem_cons_succ]
                refine wpAnyH_take (i := 3) (v := undef) rfl (by kernel_rfl) (by kernel_rfl) (by kernel_rfl) (fun _ _ _ h => h) (Or.inr ⟨by rfl, rfl⟩) (by assumption) ?_
                try simp only [Act.put, List.setIfInBounds_toArray, List.set_cons_zero, List.set_cons_succ, List.getElem_toArray, List.getElem_cons_zero, List.getElem_cons_succ]
                refine wpAnyH_take (i := 4) (v := undef) rfl (by kernel_rfl) (by kernel_rfl) (by kernel_rfl) (fun _ _ _ h => h) (Or.inr ⟨by rfl, rfl⟩) (by assumption) ?_
                try simp only [Act.put, List.setIfInBounds_toArray, List.set_cons_zero, List.set_cons_succ, List.getElem_toArray, List.getElem_cons_zero, List.getElem_cons_succ]
                refine wpAnyH_take (i := 5) (v := undef) rfl (by kernel_rfl) (by kernel_rfl) (by kernel_rfl) (fun _ _ _ h => h) (Or.inr ⟨by rfl, rfl⟩) (by assumption) ?_
                try simp only [Act.put, List.setIfInBounds_toArray, List.set_cons_zero, List.set_cons_succ, List.getElem_toArray, List.getElem_cons_zero, List.getElem_cons_succ]
                refine wpAnyH_take (i := 6) (v := undef) rfl (by kernel_rfl) (by kernel_rfl) (by kernel_rfl) (fun _ _ _ h => h) (Or.inr ⟨by rfl, rfl⟩) (by assumption) ?_
                try simp only [Act.put, List.setIfInBounds_toArray, List.set_cons_zero, List.set_cons_succ, List.getElem_toArray, List.getElem_cons_zero, List.getElem_cons_succ]
                refine wpAnyH_take (i := 7) (v := undef) rfl (by kernel_rfl) (by kernel_rfl) (by kernel_rfl) (fun _ _ _ h => h) (Or.inr ⟨by rfl, rfl⟩) (by assumption) ?_
                try simp only [Act.put, List.setIfInBounds_toArray, List.set_cons_zero, List.set_cons_succ, List.getElem_toArray, List.getElem_cons_zero, List.getElem_cons_succ]
                refine wpAnyH_take (i := 8) (v := undef) rfl (by kernel_rfl) (by kernel_rfl) (by kernel_rfl) (fun _ _ _ h => h) (Or.inr ⟨by rfl, rfl⟩) (by assumption) ?_
                try simp only [Act.put, List.setIfInBounds_toArray, List.set_cons_zero, List.set_cons_succ, List.getElem_toArray, List.getElem_cons_zero, List.getElem_cons_succ]
                refine wpAnyH_take (i := 9) (v := undef) rfl (by kernel_rfl) (by kernel_rfl) (by kernel_rfl) (fun _ _ _ h => h) (Or.inr ⟨by rfl, rfl⟩) (by assumption) ?_
                try simp only [Act.put, List.setIfInBounds_toArray, List.set_cons_zero, List.set_cons_succ, List.getElem_toArray, List.getElem_cons_zero, List.getElem_cons_succ]
                refine wpAnyH_take (i := 10) (v := undef) rfl (by kernel_rfl) (by kernel_rfl) (by kernel_rfl) (fun _ _ _ h => h) (Or.inr ⟨by rfl, rfl⟩) (by assumption) ?_
                try simp only [Act.put, List.setIfInBounds_toArray, List.set_cons_zero, List.set_cons_succ, List.getElem_toArray, List.getElem_cons_zero, List.getElem_cons_succ]
                refine wpAnyH_take (i := 11) (v := undef) rfl (by kernel_rfl) (by kernel_rfl) (by kernel_rfl) (fun _ _ _ h => h) (Or.inr ⟨by rfl, rfl⟩) (by assumption) ?_
                try simp only [Act.put, List.setIfInBounds_toArray, List.set_cons_zero, List.set_cons_succ, List.getElem_toArray, List.getElem_cons_zero, List.getElem_cons_succ]
                refine wpAnyH_take (i := 12) (v := ?_) rfl (by kernel_rfl) (by kernel_rfl) (by kernel_rfl) (fun _ _ _ h => h) (Or.inl ⟨by rfl, ?_⟩) (by assumption) ?_
                rotate_left
                · (intro W hW; (try dsimp only at hW); go_simp; try with_reducible rfl)
                try simp only [Act.put, List.setIfInBounds_toArray, List.set_cons_zero, List.set_cons_succ, List.getElem_toArray, List.getElem_cons_zero, List.getElem_cons_succ]
                refine wpAnyH_done (by kernel_rfl) ?_ _
                go_wp2_with fail
                go_meet
                exact ⟨false, rfl, hH0, (fun h => by cases h), fun _ => rfl⟩
              · obtain ⟨m, rfl⟩ : ∃ m, k = m + 1 := ⟨k - 1, by omega⟩
                have hml : m < l.length := by omega
                obtain ⟨A9, n9, c9, e9, _, _, _, hx9⟩ := hslA
                injection e9 with q1 q2 q3
                subst q1 q2 q3
                obtain ⟨b6, off6, rfl, hb6, hc6⟩ := hx9 (by omega)
                obtain ⟨u0, u1, u2, e0, e1, e2, hu0⟩ := hts.get m hml
                obtain ⟨ty, Y1, k1, d1, Y2, k2, d2, hsh⟩ := hu0.shape
                simp only [Value.agg.injEq, Array.mk.injEq, List.cons.injEq, and_true] at hsh
                obtain ⟨rfl, rfl, rfl⟩ := hsh
                have g0 := Fk.keep (hc6 _ _ e0) (by simp)
                have g1 := Fk.keep (hc6 _ _ e1) (by simp)
                have g2 := Fk.keep (hc6 _ _ e2) (by simp)
                rw [← Nat.add_assoc] at g1 g2
                have HTK := Lib.hid (twl_take l m hml x)
                obtain ⟨C, hC⟩ : ∃ C, C = cmpT l[m] x := ⟨_, rfl⟩
                rw [← hC] at HTK
                have HC := Lib.hid hC
                generalize l[m] = y at *
                clear hC e0 e1 e2 hc6 hx9
                have hwm : IntKind.i64.wrap (m : Int) = (m : Int) := IntWalk.i64_in _ (by omega)
                have hmi : (m : Int) < (l.length : Int) := by omega
                refine wp_region_held_drew (S := fun W => (∀ i, W.cell? ⟨w.heap.size + 1 + 1, i, none⟩ = (#[.int .i64 thr, .slice A5 ns c5, .slice (some ⟨b6, off6, none⟩) l.length c6] : Array Value)[i]?) ∧ (∀ i, W.cell? ⟨wv.heap.size, i, none⟩ = (#[.int .i64 tx, .slice X1 m1 v1, .slice X2 m2 v2] : Array Value)[i]?) ∧ W.cell? ⟨b6, off6 + m * 3, none⟩ = some (.int .i64 ty) ∧ W.cell? ⟨b6, off6 + m * 3 + 1, none⟩ = some (.slice Y1 k1 d1) ∧ W.cell? ⟨b6, off6 + m * 3 + 2, none⟩ = some (.slice Y2 k2 d2) ∧ Fr none wk W) (by kernel_rfl) ⟨b3k.cell, bxk.cell, g0, g1, g2, (Fr.refl _ _).drew⟩ (fun hH0 => ?_)
                refine wpAnyH_take (i := 0) (v := ?_) rfl (by kernel_rfl) (by kernel_rfl) (by kernel_rfl) (fun _ _ _ h => h) (Or.inl ⟨by rfl, ?_⟩) (by assumption) ?_
                rotate_left
                · (intro W hW; (try dsimp only at hW); go_simp; try with_reducible rfl)
                try simp only [Act.put, List.setIfInBounds_toArray, List.set_cons_zero, List.set_cons_succ, List.getElem_toArray, List.getElem_cons_zero, List.getElem_cons_succ]
                refine wpAnyH_take (i := 1) (v := ?_) rfl (by kernel_rfl) (by kernel_rfl) (by kernel_rfl) (fun _ _ _ h => h) (Or.inl ⟨by rfl, ?_⟩) (by assumption) ?_
                rotate_left
                · (intro W hW; (try dsimp only at hW); go_simp; try with_reducible rfl)
                try simp only [Act.put, List.setIfInBounds_toArray, List.set_cons_zero, List.set_cons_succ, List.getElem_toArray, List.getElem_cons_zero, List.getElem_cons_succ]
                refine wpAnyH_take (i := 2) (v := ?_) rfl (by kernel_rfl) (by kernel_rfl) (by kernel_rfl) (fun _ _ _ h => h) (Or.inl ⟨by rfl, ?_⟩) (by assumption) ?_
                rotate_left
                · (intro W hW; (try dsimp only at hW); go_simp; try with_reducible rfl)
                try simp only [Act.put, List.setIfInBounds_toArray, List.set_cons_zero, List.set_cons_succ, List.getElem_toArray, List.getElem_cons_zero, List.getElem_cons_succ]
                refine wpAnyH_take (i := 3) (v := ?_) rfl (by kernel_rfl) (by kernel_rfl) (by kernel_rfl) (fun _ _ _ h => h) (Or.inl ⟨by rfl, ?_⟩) (by assumption) ?_
                rotate_left
                · (intro W hW; (try dsimp only at hW); go_simp; try with_reducible rfl)
                try simp only [Act.put, List.setIfInBounds_toArray, List.set_cons_zero, List.set_cons_succ, List.getElem_toArray, List.getElem_cons_zero, List.getElem_cons_succ]
                refine wpAnyH_take (i := 4) (v := ?_) rfl (by kernel_rfl) (by kernel_rfl) (by kernel_rfl) (fun _ _ _ h => h) (Or.inl ⟨by rfl, ?_⟩) (by assumption) ?_
                rotate_left
                · (intro W hW; (try dsimp only at hW); go_simp; try with_reducible rfl)
                try simp only [Act.put, List.setIfInBounds_toArray, List.set_cons_zero, List.set_cons_succ, List.getElem_toArray, List.getElem_cons_zero, List.getElem_cons_succ]
                refine wpAnyH_take (i := 5) (v := ?_) rfl (by kernel_rfl) (by kernel_rfl) (by kernel_rfl) (fun _ _ _ h => h) (Or.inl ⟨by rfl, ?_⟩) (by assumption) ?_
                rotate_left
                · (intro W hW; (try dsimp only at hW); go_simp; try with_reducible rfl)
                try simp only [Act.put, List.setIfInBounds_toArray, List.set_cons_zero, List.set_cons_succ, List.getElem_toArray, List.getElem_cons_zero, List.getElem_cons_succ]
                refine wpAnyH_take (i := 6) (v := ?_) rfl (by kernel_rfl) (by kernel_rfl) (by kernel_rfl) (fun _ _ _ h => h) (Or.inl ⟨by rfl, ?_⟩) (by assumption) ?_
                rotate_left
                · (intro W hW; (try dsimp only at hW); go_simp; try with_reducible rfl)
                try simp only [Act.put, List.setIfInBounds_toArray, List.set_cons_zero, List.set_cons_succ, List.getElem_toArray, List.getElem_cons_zero, List.getElem_cons_succ]
                refine wpAnyH_take (i := 7) (v := ?_) rfl (by kernel_rfl) (by kernel_rfl) (by kernel_rfl) (fun _ _ _ h => h) (Or.inl ⟨by rfl, ?_⟩) (by assumption) ?_
                rotate_left
                · (intro W hW; (try dsimp only at hW); go_simp; try with_reducible rfl)
                try simp only [Act.put, List.setIfInBounds_toArray, List.set_cons_zero, List.set_cons_succ, List.getElem_toArray, List.getElem_cons_zero, List.getElem_cons_succ]
                refine wpAnyH_take (i := 8) (v := ?_) rfl (by kernel_rfl) (by kernel_rfl) (by kernel_rfl) (fun _ _ _ h => h) (Or.inl ⟨by rfl, ?_⟩) (by assumption) ?_
                rotate_left
                · (intro W hW; (try dsimp only at hW); go_simp; try with_reducible rfl)
                try simp only [Act.put, List.setIfInBounds_toArray, List.set_cons_zero, List.set_cons_succ, List.getElem_toArray, List.getElem_cons_zero, List.getElem_cons_succ]
                refine wpAnyH_take (i := 9) (v := ?_) rfl (by kernel_rfl) (by kernel_rfl) (by kernel_rfl) (fun _ _ _ h => h) (Or.inl ⟨by rfl, ?_⟩) (by assumption) ?_
                rotate_left
                · (intro W hW; (try dsimp only at hW); go_simp; try with_reducible rfl)
                try simp only [Act.put, List.setIfInBounds_toArray, List.set_cons_zero, List.set_cons_succ, List.getElem_toArray, List.getElem_cons_zero, List.getElem_cons_succ]
                refine wpAnyH_ready (rs := [10]) (by kernel_rfl) (by simp) ?_
                refine AllReadyH.cons rfl (fun K hK => ?_) AllReadyH.nil
                simp only [List.getElem_toArray, List.getElem_cons_zero, List.getElem_cons_succ]
                go_simp
                go_at_call 44
                have Fx := Fwk.pure hH0.2.2.2.2.2
                have Fy := (Fa.pure Fk).pure hH0.2.2.2.2.2
                refine (rcmp_any y.dep y x _ _ _ none (Nat.le_refl _) (TrD.keep (fun q hq => ⟨⟨by have := HD.out q hq; have := Fx.size; omega, by simp⟩, Fy.block q (by have := HD.out q hq; have := Fw.size; omega) (by simp)⟩) _ _ hu0) (TrD.keep (fun q hq => ⟨⟨by have := HD.out q hq; have := Fx.size; omega, by simp⟩, Fx.block q (HD.out q hq) (by simp)⟩) _ _ hy0)).mono ?_
                rintro e wq ⟨rfl, Fq⟩
                rw [← HC.out]
                have Fq := hH0.2.2.2.2.2.pure Fq
                refine hK.out _ _ ⟨(b3k.fr Fq (by simp)).cell, (bxk.fr Fq (by simp)).cell, Fq.keep g0 (by simp), Fq.keep g1 (by simp), Fq.keep g2 (by simp), Fq⟩ (fun hH1 => ?_)
                clear hK K hH0 Fx Fy
                try simp only [Act.put, List.setIfInBounds_toArray, List.set_cons_zero, List.set_cons_succ, List.getElem_toArray, List.getElem_cons_zero, List.getElem_cons_succ]
                refine wpAnyH_take (i := 11) (v := ?_) rfl (by kernel_rfl) (by kernel_rfl) (by kernel_rfl) (fun _ _ _ h => h) (Or.inl ⟨by rfl, ?_⟩) (by assumption) ?_
                rotate_left
                · (intro W hW; (try dsimp only at hW); go_simp; try with_reducible rfl)
                try simp only [Act.put, List.setIfInBounds_toArray, List.set_cons_zero, List.set_cons_succ, List.getElem_toArray, List.getElem_cons_zero, List.getElem_cons_succ]
                refine wpAnyH_take (i := 12) (v := ?_) rfl (by kernel_rfl) (by kernel_rfl) (by kernel_rfl) (fun _ _ _ h => h) (Or.inl ⟨by rfl, ?_⟩) (by assumption) ?_
                rotate_left
                · (intro W hW; (try dsimp only at hW); go_simp; try with_reducible rfl)
                try simp only [Act.put, List.setIfInBounds_toArray, List.set_cons_zero, List.set_cons_succ, List.getElem_toArray, List.getElem_cons_zero, List.getElem_cons_succ]
                refine wpAnyH_done (by kernel_rfl) ?_ _
                go_wp2_with fail
                go_meet
                refine ⟨_, rfl, hH1.2.2.2.2.2, fun h => ⟨by omega, ?_⟩, fun h => ?_⟩
                · have h := of_decide_eq_true h
                  have e := HTK.out
                  rw [if_pos h] at e
                  unfold Hid
                  rw [HK.out, e, Nat.add_sub_cancel]
                  omega
                · have h := of_decide_eq_false h
                  unfold Hid
                  rw [HTK.out, if_neg h]
            case rest =>
              obtain ⟨g, rfl, Fq, hg1, hg2⟩ := hcut
              have Fkq := Fk.pure Fq
              cases g with
              | true =>
                obtain ⟨hk1, HK1⟩ := hg1 rfl
                obtain ⟨m, rfl⟩ : ∃ m, k = m + 1 := ⟨k - 1, by omega⟩
                clear hg1 hg2
                go_wp2_with fail
                go_roundw
                case rel => exact ⟨m, by go_num, by omega, Fkq, by unfold Hid; rw [HK1.out]; simp⟩
                case measure => simp [intOf]
              | false =>
                have HK2 := hg2 rfl
                have HINS : Hid (insT l x = l.take k ++ x :: l.drop k) := insT_at l x k (by rw [HK.out, HK2.out]; omega)
                clear hg1 hg2 HK HK2
                obtain ⟨wq, hwq⟩ : ∃ wq : World, wq = wc := ⟨_, rfl⟩
                subst hwq
                have Faq := Fa.pure Fkq
                have b3q := b3.fr Faq (by simp)
                have bxq := bx.fr Fkq (by simp)
                have ownq := own_fr own Faq (by simp)
                have Fwq := Fw.pure Faq
                have F2q := F2.pure Faq
                have htsq : TrsD wq D cs l := TrsD.keep (fun q hq => ⟨hq, Faq.block q (by have := HD.out q hq; have := Fw.size; omega) (by simp)⟩) _ _ hts
                have hyq : TrD wq D (.agg #[.int .i64 tx, .slice X1 m1 v1, .slice X2 m2 v2]) x := TrD.keep (fun q hq => ⟨hq, Fwq.block q (HD.out q hq) (by simp)⟩) _ _ hy0
                have R3 := b3q.cell
                have Z3 := b3q.free
                have Rx := bxq.cell
                have hl3q := blk_lt b3q
                have hlxq := blk_lt bxq
                have hx3 : wv.heap.size ≠ w.heap.size + 1 + 1 := by omega
                have HWV := Lib.hid (Nat.le_refl wv.heap.size)
                have hzf : wn.heap.size ≤ wv.heap.size := F2.size
                have hown6 : (Value.slice A6 l.length c6).ownBlock ≠ some wv.heap.size := fun e => by have := (own.lt _ e).2; omega
                go_wp2_with (at_builtin; refine app_lit eiTrust rfl _ _ rfl wn.heap.size A6 l.length c6 _ rfl ownq 1 [.int .i64 0, .slice none 0 0, .slice none 0 0] _ _ rfl (by simp) rfl (by simp [Value.oneCell']) (by omega) (by unfold maxLen; omega) (by have := Faq.size; omega) ?_; intro A7 c7 w7 own7 F7 nb7; have K7 := b3q.fr F7 (own_ne ownq (by omega)); have R7 := K7.cell; have Z7 := K7.free; have hz7 := F7.size; have hl37 : w.heap.size + 1 + 1 < w7.heap.size := by omega)
                generalize hW : w7.setCell _ _ = w8
                have G8 : Fr (some (w.heap.size + 1 + 1)) w7 w8 := hW ▸ Fr.set1 w7 ⟨w.heap.size + 1 + 1, 2, none⟩ (.slice A7 (l.length + 1) c7)
                have K8 : TB w8 (w.heap.size + 1 + 1) (.int .i64 thr) (.slice A5 ns c5) (.slice A7 (l.length + 1) c7) := hW ▸ K7.set2 (.slice A7 (l.length + 1) c7)
                clear hW
                have og7 := own_blk_ge own7
                have own8 := own_ne_fr own7 G8 (fun e => by have := og7 _ e; omega)
                have ogq := own_blk_ge ownq
                have hz8 := G8.size
                have F28 : Fr (some (w.heap.size + 1 + 1)) wn w8 := (F2q.own F7 (fun b hb => by have := ogq b hb; omega)).same G8
                have Fq8 : Fr (some (w.heap.size + 1 + 1)) wn w8 := F28
                have F12n : Fr (some (w.heap.size + 1 + 1)) w1 wn := F
                have bx8 : TB w8 wv.heap.size (.int .i64 tx) (.slice X1 m1 v1) (.slice X2 m2 v2) := (bxq.fr F7 hown6).fr G8 (by simp; omega)
                have R8 := K8.cell
                have hl38 := blk_lt K8
                obtain ⟨g, rfl, hg, cur, hb8, hnc7, hm7, hsz8, hct⟩ : ∃ g, A7 = some ⟨g, 0, none⟩ ∧ wn.heap.size ≤ g ∧ ∃ cur, w8.heap[g]? = some (.cells cur 31 (0, 0)) ∧ l.length + 1 ≤ c7 ∧ c7 ≤ maxLen ∧ cur.size = c7 * 3 ∧ cur.toList.take ((l.length + 1) * 3) = cs ++ [.int .i64 0, .slice none 0 0, .slice none 0 0] := by
                  rcases own8.2 with ⟨_, h⟩ | ⟨g, cap, cur, hv, hg, hh, hnc, hm, hsz, htk⟩
                  · omega
                  · injection hv with q1 q2 q3
                    subst q1 q3
                    exact ⟨g, rfl, hg, cur, hh, hnc, hm, hsz, htk⟩
                have hcl := hts.len
                have HCL := Lib.hid hcl
                have HSZ : Hid (cur.toList.length = c7 * 3) := by unfold Hid; rw [Array.length_toList]; exact hsz8
                have HCUR := Lib.hid hct
                have HM7 := Lib.hid hm7
                have hm9 : c7 ≤ 9223372036854775807 := by unfold maxLen at hm7; omega
                have HBL : Hid (w8.drew.heap[g]? = some (.cells cur.toList.toArray 31 (0, 0))) := by unfold Hid; rw [Array.toArray_toList]; exact hb8
                have HSRC := Lib.hid (src3 (w := w8.drew) (k := k) hb8 hct hcl)
                have H1C := Lib.hid (fun u hu => TrsD.one' hts u (List.mem_of_mem_drop hu) : ∀ u ∈ cs.drop (k * 3), u.oneCell' = true)
                have HFIT : Hid ((k + 1) * 3 + (cs.drop (k * 3)).length ≤ cur.toList.length) := by unfold Hid; rw [HSZ.out, List.length_drop, hcl]; omega
                have hwk : IntKind.i64.wrap ((k : Int) + 1) = ((k + 1 : Nat) : Int) := by rw [IntWalk.i64_in _ (by omega)]; rfl
                have h0k : (0 : Int) ≤ (k : Int) + 1 := by omega
                have h1k : (k : Int) ≤ (l.length : Int) + 1 := by omega
                have hkle : k ≤ l.length := hk
                have hgne : g ≠ w.heap.size + 1 + 1 := by omega
                have hgx : g ≠ wv.heap.size := fun e => by
                  rcases nb7 with h | ⟨q, h, hq⟩
                  · exact hown6 (h ▸ by simp [Value.ownBlock, e])
                  · simp [Value.ownBlock] at h; omega
                clear R7 Z7 Z3 own7 own8 hct hcl hsz8 hm7 hb8 Rx R3 own ownq nb7
                by_cases hlast : k + 1 = c7
                · have HKN : Hid (k = l.length) := Lib.hid (by omega)
                  have HCN : Hid ((cs.drop (k * 3)).length = Nat.min (l.length + 1 - k) 0 * 3) := by unfold Hid; rw [List.length_drop, HCL.out, HKN.out]; simp
                  subst hlast
                  go_wp2_with fail
                  go_still_tail 9, (by kernel_rfl)
                  change wpList _ _ _ _ _ w8.drew
                  refine copy_frK rfl _ _ _ _ rfl 31 3 Tryz.underlying29 (by kernel_rfl) _ _ _ _ _ _ rfl rfl g ((k + 1) * 3) cur.toList 31 HBL.out (cs.drop (k * 3)) HCN.out (by simp) (by simp) (fun h => absurd h (by simp)) HFIT.out H1C.out ?_
                  intro w9 hb9 F9
                  have K9 := (K8.fr (Fr.refl none w8).drew (by simp)).fr F9 (by simp; omega)
                  have bx9 := (bx8.fr (Fr.refl none w8).drew (by simp)).fr F9 (by simp; omega)
                  have R9 := K9.cell
                  have Rx9 := bx9.cell
                  have hl9 : ∀ i, i < (l.length + 1) * 3 → ∃ v, w9.cell? ⟨g, i, none⟩ = some v := fun i hi => by
                    rw [blk_cell hb9.out i]
                    exact ⟨_, Array.getElem?_eq_getElem (by
                      have h1 := HFIT.out
                      have h2 := HSZ.out
                      have h3 := HCL.out
                      simp only [List.size_toArray, List.length_append, List.length_take, List.length_drop, Array.length_toList] at h1 h2 ⊢
                      omega)⟩
                  obtain ⟨v0, hv0⟩ := hl9 (k * 3) (by omega)
                  obtain ⟨v1', hv1⟩ := hl9 (k * 3 + 1) (by omega)
                  obtain ⟨v2', hv2⟩ := hl9 (k * 3 + 2) (by omega)
                  have Z9 := blk_free hb9.out
                  have HOWN := Lib.hid (own_ins3 (x0 := .int .i64 tx) (x1 := .slice X1 m1 v1) (x2 := .slice X2 m2 v2) hg hb9.out HSZ.out hnc7 HM7.out HCUR.out HCL.out hk)
                  have G9 := fr_row3s w9 g (k * 3) (.int .i64 tx) (.slice X1 m1 v1) (.slice X2 m2 v2)
                  have hgl9 := blk_lt hb9.out
                  clear hl9 hb9
                  go_wp2_with fail
                  go_roundw
                  case rel =>
                    have hlen : (insT l x).length = l.length + 1 := by rw [HINS.out]; simp; omega
                    have hF : Fr (some (w.heap.size + 1 + 1)) wn _ := ((F28.drew).own F9 (fun b hb => by injection hb with hb; omega)).own G9 (fun b hb => by injection hb with hb; omega)
                    refine ⟨j + 1, insT l x, some ⟨g, 0, none⟩, (k + 1), cs.take (k * 3) ++ ([.int .i64 tx, .slice X1 m1 v1, .slice X2 m2 v2] ++ cs.drop (k * 3)), by go_num, by omega, by rw [hlen]; omega, hF, by rw [hlen]; exact K9.fr G9 (by simp; omega), by rw [hlen]; exact HOWN.out, ?_, by unfold Hid; rw [HJ.out, List.foldl_cons]⟩
                    have hFw : Fr none w _ := F1.own (F12n.same hF) (by simp; omega)
                    have kD : ∀ q, D q → D q ∧ _ := fun q hq => ⟨hq, hFw.block q (HD.out q hq) (by simp)⟩
                    have kq : ∀ q, D q → D q ∧ _ := fun q hq => ⟨hq, (hFw.block q (HD.out q hq) (by simp)).trans (Fwq.block q (HD.out q hq) (by simp)).symm⟩
                    rw [HINS.out]
                    have hall := TrsD.keep kq _ _ htsq
                    exact TrsD.append (hall.take k) (by simp only [List.cons_append, List.nil_append, TrsD]; exact ⟨_, _, _, _, rfl, TrD.keep kD _ _ hy0, hall.drop k⟩)
                  case measure => simp [intOf]; omega
                · have hlt5 : ¬ c7 = k + 1 := by omega
                  have hlt6 : ¬ c7 = k := by omega
                  clear hlast
                  have HCN : Hid ((cs.drop (k * 3)).length = Nat.min (l.length + 1 - k) (l.length - k) * 3) := by unfold Hid; simp only [List.length_drop, HCL.out, Nat.min_def]; split <;> omega
                  go_wp2_with fail
                  go_still_tail 9, (by kernel_rfl)
                  change wpList _ _ _ _ _ w8.drew
                  refine copy_frK rfl _ _ _ _ rfl 31 3 Tryz.underlying29 (by kernel_rfl) _ _ _ _ _ _ rfl rfl g ((k + 1) * 3) cur.toList 31 HBL.out (cs.drop (k * 3)) HCN.out (by simp) (by simp) (fun _ => ⟨rfl, _, rfl, HSRC.out⟩) HFIT.out H1C.out ?_
                  intro w9 hb9 F9
                  have K9 := (K8.fr (Fr.refl none w8).drew (by simp)).fr F9 (by simp; omega)
                  have bx9 := (bx8.fr (Fr.refl none w8).drew (by simp)).fr F9 (by simp; omega)
                  have R9 := K9.cell
                  have Rx9 := bx9.cell
                  have hl9 : ∀ i, i < (l.length + 1) * 3 → ∃ v, w9.cell? ⟨g, i, none⟩ = some v := fun i hi => by
                    rw [blk_cell hb9.out i]
                    exact ⟨_, Array.getElem?_eq_getElem (by
                      have h1 := HFIT.out
                      have h2 := HSZ.out
                      have h3 := HCL.out
                      simp only [List.size_toArray, List.length_append, List.length_take, List.length_drop, Array.length_toList] at h1 h2 ⊢
                      omega)⟩
                  obtain ⟨v0, hv0⟩ := hl9 (k * 3) (by omega)
                  obtain ⟨v1', hv1⟩ := hl9 (k * 3 + 1) (by omega)
                  obtain ⟨v2', hv2⟩ := hl9 (k * 3 + 2) (by omega)
                  have Z9 := blk_free hb9.out
                  have HOWN := Lib.hid (own_ins3 (x0 := .int .i64 tx) (x1 := .slice X1 m1 v1) (x2 := .slice X2 m2 v2) hg hb9.out HSZ.out hnc7 HM7.out HCUR.out HCL.out hk)
                  have G9 := fr_row3s w9 g (k * 3) (.int .i64 tx) (.slice X1 m1 v1) (.slice X2 m2 v2)
                  have hgl9 := blk_lt hb9.out
                  clear hl9 hb9
                  go_wp2_with fail
                  go_roundw
                  case rel =>
                    have hlen : (insT l x).length = l.length + 1 := by rw [HINS.out]; simp; omega
                    have hF : Fr (some (w.heap.size + 1 + 1)) wn _ := ((F28.drew).own F9 (fun b hb => by injection hb with hb; omega)).own G9 (fun b hb => by injection hb with hb; omega)
                    refine ⟨j + 1, insT l x, some ⟨g, 0, none⟩, c7, cs.take (k * 3) ++ ([.int .i64 tx, .slice X1 m1 v1, .slice X2 m2 v2] ++ cs.drop (k * 3)), by go_num, by omega, by rw [hlen]; omega, hF, by rw [hlen]; exact K9.fr G9 (by simp; omega), by rw [hlen]; exact HOWN.out, ?_, by unfold Hid; rw [HJ.out, List.foldl_cons]⟩
                    have hFw : Fr none w _ := F1.own (F12n.same hF) (by simp; omega)
                    have kD : ∀ q, D q → D q ∧ _ := fun q hq => ⟨hq, hFw.block q (HD.out q hq) (by simp)⟩
                    have kq : ∀ q, D q → D q ∧ _ := fun q hq => ⟨hq, (hFw.block q (HD.out q hq) (by simp)).trans (Fwq.block q (HD.out q hq) (by simp)).symm⟩
                    rw [HINS.out]
                    have hall := TrsD.keep kq _ _ htsq
                    exact TrsD.append (hall.take k) (by simp only [List.cons_append, List.nil_append, TrsD]; exact ⟨_, _, _, _, rfl, TrD.keep kD _ _ hy0, hall.drop k⟩)
                  case measure => simp [intOf]; omega
        · obtain rfl : j = inner.length := by omega
          have HL : Hid (sortT inner = l) := by unfold Hid sortT; rw [HJ.out]; simp
          have b2r := (b2.fr F (by simp)).fr F2 (by simp)
          have R2 := b2r.cell
          have Z2 := b2r.free
          have hl2 := blk_lt b2r
          have hz2 := F2.size
          clear HJ
          go_wp2_with fail
          refine bodyPost_ret (v := .agg #[.int .i64 thr, .slice A5 ns c5, .slice A6 l.length c6]) (by simp [results, Tryz.results158, go_sem, R2, R3]) rfl ?_
          have G := fr_fill3 wr (w.heap.size + 1) (.int .i64 thr) (.slice A5 ns c5) (.slice A6 l.length c6)
          generalize World.setCell (World.setCell (World.setCell wr _ _) _ _) _ _ = w6 at *
          have hzG := G.size
          have k5 : SlD w6 (Dw D w w6) 1 (.slice A5 ns c5) ((sortN nodes).map (Value.int .i64)) := by
            have h5' : wn.ownsRow w1.heap.size 3 1 (.slice A5 ns c5) ns ((sortN nodes).map (Value.int .i64)) := HOWN5.out
            exact (SlD.own_dn h5').keep (fun q hq => ⟨.inr ⟨by have := hq.1; omega, by have := hq.2; omega⟩, (G.block q (by have := hq.2; omega) (by have := hq.1; simp; omega)).trans (F2.block q hq.2 (by have := hq.1; simp; omega))⟩)
          have kD : ∀ q, D q → Dw D w w6 q ∧ w6.heap[q]? = wr.heap[q]? := fun q hq => ⟨.inl hq, G.block q (by have := HD.out q hq; have := Fw.size; omega) (by have := HD.out q hq; simp; omega)⟩
          have k6 : SlD w6 (Dw D w w6) 3 (.slice A6 l.length c6) cs := (SlD.own_dn own).keep (fun q hq => ⟨.inr ⟨by have := hq.1; omega, by have := hq.2; omega⟩, G.block q hq.2 (by have := hq.1; simp; omega)⟩)
          refine ⟨_, rfl, ?_, Fw.own G (by simp)⟩
          have e1 : ordT (.mk thr nodes inner) = .mk thr (sortN nodes) l := by unfold ordT; simp only [Tr.thr, Tr.nodes, Tr.inner]; rw [HL.out]
          rw [e1]
          have hnl := HNS.out
          exact TrD.mk_ h0 k5 HSW.out k6 (by omega) (by omega) (TrsD.keep kD _ _ hts)
end Go.Proofs.YtpdhckbiioobhaaGreatDoor

/- The normal form of a valid trust is valid, means the same, and is no larger. -/
namespace Go.Proofs.YtpdhckbiioobhaaGreatDoor
open Go.RowKit

/-- t' means what t means, is valid, and no larger. -/
def Rel (t t' : Tr) : Prop := OkT t' ∧ (∀ s, validB s = true → sat s t' = sat s t) ∧ t'.size ≤ t.size ∧ t'.dep ≤ t.dep
theorem Rel.trans {a b c : Tr} (h : Rel a b) (k : Rel b c) : Rel a c := ⟨k.1, fun s hs => (k.2.1 s hs).trans (h.2.1 s hs), Nat.le_trans k.2.2.1 h.2.2.1, Nat.le_trans k.2.2.2 h.2.2.2⟩
theorem Rel.refl {a : Tr} (h : OkT a) : Rel a a := ⟨h, fun _ _ => rfl, Nat.le_refl _, Nat.le_refl _⟩
theorem size_mk (thr : Int) (n : List Int) (i : List Tr) : (Tr.mk thr n i).size = n.length + wgt i := by simp only [Tr.size, wgt]; omega
theorem dep_mk (thr : Int) (n : List Int) (i : List Tr) : (Tr.mk thr n i).dep = depL i + 1 := by simp only [Tr.dep]
theorem okT_mk (thr : Int) (n : List Int) (i : List Tr) : OkT (.mk thr n i) ↔ 1 ≤ thr ∧ thr ≤ ((n.length + i.length : Nat) : Int) ∧ (∀ x ∈ n, 0 ≤ x ∧ x < 10) ∧ n.Nodup ∧ ∀ x ∈ i, OkT x := by simp only [OkT, okTs_iff]

/-! ### Lifting -/
/-- What holds while single nodes are lifted. -/
def LiftI (st0 : List Int × List Tr) (L : List Tr) (st : List Int × List Tr) : Prop :=
  (∀ s, validB s = true → cntN s st.1 + cntI s st.2 = cntN s st0.1 + cntI s st0.2 + cntI s L) ∧ st.1.length + st.2.length = st0.1.length + st0.2.length + L.length ∧ st.1.Nodup ∧ (∀ x ∈ st.1, 0 ≤ x ∧ x < 10) ∧ (∀ x ∈ st.2, OkT x) ∧
    st.1.length + wgt st.2 ≤ st0.1.length + wgt st0.2 + wgt L ∧ (∀ d, depL st0.2 ≤ d → depL L ≤ d → depL st.2 ≤ d)
theorem any_false_mem {l : List Int} {k : Int} (h : ¬ l.any (fun y => decide (y = k)) = true) : k ∉ l := fun hm => h (List.any_eq_true.2 ⟨k, hm, decide_eq_true rfl⟩)
theorem lift_keep {st : List Int × List Tr} {x : Tr} (hx : OkT x) (h1 : st.1.Nodup) (h2 : ∀ x ∈ st.1, 0 ≤ x ∧ x < 10) (h3 : ∀ x ∈ st.2, OkT x) : LiftI st [x] (st.1, st.2 ++ [x]) :=
  ⟨fun s _ => by simp only [cntI_append]; omega, by simp; omega, h1, h2, fun y hy => by
    rcases List.mem_append.1 hy with h | h
    · exact h3 y h
    · simp only [List.mem_singleton] at h; exact h ▸ hx, by simp only [wgt_append]; omega, fun d a b => by simp only [depL_append]; omega⟩
theorem lift_one {st : List Int × List Tr} {x : Tr} (hx : OkT x) (h1 : st.1.Nodup) (h2 : ∀ x ∈ st.1, 0 ≤ x ∧ x < 10) (h3 : ∀ x ∈ st.2, OkT x) : LiftI st [x] (liftS st x) := by
  obtain ⟨thr, n, i⟩ := x
  unfold liftS
  simp only [Tr.nodes, Tr.inner]
  split
  · rename_i k
    split
    · exact lift_keep hx h1 h2 h3
    · rename_i hk
      have hk := any_false_mem hk
      obtain ⟨a, b, c, _⟩ := (okT_mk _ _ _).1 hx
      simp only [List.length_cons, List.length_nil] at b
      obtain rfl : thr = 1 := by omega
      refine ⟨fun s hs => ?_, by simp; omega, ?_, ?_, h3, ?_, fun d a _ => a⟩
      · have e : cntI s [Tr.mk 1 [k] []] = cntN s [k] := by
          simp only [cntI, sat_mk hs, Nat.add_zero]
          unfold cntN
          rw [List.countP_cons, List.countP_nil]
          cases hasB s k <;> simp
        rw [e]
        show cntN s (st.1 ++ [k]) + cntI s st.2 = _
        unfold cntN
        rw [List.countP_append]
        omega
      · refine List.nodup_append.2 ⟨h1, by simp, fun a ha b hb => ?_⟩
        simp only [List.mem_singleton] at hb
        rintro rfl
        exact hk (hb ▸ ha)
      · intro y hy
        rcases List.mem_append.1 hy with h | h
        · exact h2 y h
        · exact c y h
      · simp only [List.length_append, List.length_singleton, wgt_one, size_mk]
        omega
  · exact lift_keep hx h1 h2 h3
theorem lift_all : ∀ (L : List Tr) (st : List Int × List Tr), (∀ x ∈ L, OkT x) → st.1.Nodup → (∀ x ∈ st.1, 0 ≤ x ∧ x < 10) → (∀ x ∈ st.2, OkT x) → LiftI st L (L.foldl liftS st)
  | [], st, _, h1, h2, h3 => ⟨fun _ _ => by simp [cntI], by simp, h1, h2, h3, by simp [wgt, sizeL], fun d a _ => a⟩
  | x :: r, st, hL, h1, h2, h3 => by
    obtain ⟨a1, a2, a3, a4, a5, a6, a7⟩ := lift_one (hL x (by simp)) h1 h2 h3
    obtain ⟨b1, b2, b3, b4, b5, b6, b7⟩ := lift_all r (liftS st x) (fun y hy => hL y (List.mem_cons_of_mem _ hy)) a3 a4 a5
    rw [List.foldl_cons]
    refine ⟨fun s hs => ?_, ?_, b3, b4, b5, ?_, fun d c1 c2 => ?_⟩
    · have e1 := a1 s hs
      have e2 := b1 s hs
      simp only [cntI] at e1 ⊢
      omega
    · simp only [List.length_cons, List.length_nil] at a2 ⊢
      omega
    · rw [wgt_one] at a6
      rw [wgt_cons]
      omega
    · simp only [depL] at c2 a7
      exact b7 d (a7 d c1 (by omega)) (by omega)

/-! ### Merging -/
theorem tak_any {s : Int} (hs : validB s = true) {x : Tr} (h : tak false x = true) : sat s x = true ↔ AnyE s x.nodes x.inner := by
  obtain ⟨thr, n, i⟩ := x
  simp only [tak, Bool.false_eq_true, if_false, Tr.thr] at h
  have h := of_decide_eq_true h
  subst h
  exact sat_any1 hs n i
theorem tak_all {s : Int} (hs : validB s = true) {x : Tr} (h : tak true x = true) : sat s x = true ↔ AllE s x.nodes x.inner := by
  obtain ⟨thr, n, i⟩ := x
  simp only [tak, if_true, Tr.thr, cnt1, Tr.nodes, Tr.inner] at h
  exact sat_all1 hs (of_decide_eq_true h)
theorem merge_anyE {s : Int} (hs : validB s = true) (st : List Int × List Tr) : AnyE s (mergeL false st).1 (mergeL false st).2 ↔ AnyE s st.1 st.2 := by
  unfold AnyE mergeL
  simp only [merge_nodes, merge_inner, List.not_mem_nil, false_or]
  constructor
  · rintro (⟨k, hk | ⟨x, hx, ht, hk⟩, hh⟩ | ⟨y, ⟨x, hx, ⟨ht, hy⟩ | ⟨_, rfl⟩⟩, hh⟩)
    · exact .inl ⟨k, hk, hh⟩
    · exact .inr ⟨x, hx, (tak_any hs ht).2 (.inl ⟨k, hk, hh⟩)⟩
    · exact .inr ⟨x, hx, (tak_any hs ht).2 (.inr ⟨y, hy, hh⟩)⟩
    · exact .inr ⟨y, hx, hh⟩
  · rintro (⟨k, hk, hh⟩ | ⟨x, hx, hh⟩)
    · exact .inl ⟨k, .inl hk, hh⟩
    · cases ht : tak false x with
      | true =>
        rcases (tak_any hs ht).1 hh with ⟨k, hk, h⟩ | ⟨y, hy, h⟩
        · exact .inl ⟨k, .inr ⟨x, hx, ht, hk⟩, h⟩
        · exact .inr ⟨y, ⟨x, hx, .inl ⟨ht, hy⟩⟩, h⟩
      | false => exact .inr ⟨x, ⟨x, hx, .inr ⟨ht, rfl⟩⟩, hh⟩
theorem merge_allE {s : Int} (hs : validB s = true) (st : List Int × List Tr) : AllE s (mergeL true st).1 (mergeL true st).2 ↔ AllE s st.1 st.2 := by
  unfold AllE mergeL
  simp only [merge_nodes, merge_inner, List.not_mem_nil, false_or]
  constructor
  · rintro ⟨h1, h2⟩
    refine ⟨fun k hk => h1 k (.inl hk), fun x hx => ?_⟩
    cases ht : tak true x with
    | true => exact (tak_all hs ht).2 ⟨fun k hk => h1 k (.inr ⟨x, hx, ht, hk⟩), fun y hy => h2 y ⟨x, hx, .inl ⟨ht, hy⟩⟩⟩
    | false => exact h2 x ⟨x, hx, .inr ⟨ht, rfl⟩⟩
  · rintro ⟨h1, h2⟩
    constructor
    · rintro k (hk | ⟨x, hx, ht, hk⟩)
      · exact h1 k hk
      · exact ((tak_all hs ht).1 (h2 x hx)).1 k hk
    · rintro y ⟨x, hx, ⟨ht, hy⟩ | ⟨_, rfl⟩⟩
      · exact ((tak_all hs ht).1 (h2 x hx)).2 y hy
      · exact h2 y hx
theorem merge_ne (all : Bool) {st : List Int × List Tr} (h : 1 ≤ st.1.length + st.2.length) (ho : ∀ x ∈ st.2, OkT x) : 1 ≤ (mergeL all st).1.length + (mergeL all st).2.length := by
  have key : (∃ k, k ∈ (mergeL all st).1) ∨ ∃ y, y ∈ (mergeL all st).2 := by
    unfold mergeL
    simp only [merge_nodes, merge_inner, List.not_mem_nil, false_or]
    cases h1 : st.1 with
    | cons k r => exact .inl ⟨k, .inl (by simp)⟩
    | nil =>
      cases h2 : st.2 with
      | nil => rw [h1, h2] at h; simp at h
      | cons x r =>
        cases ht : tak all x with
        | false => exact .inr ⟨x, x, by simp, .inr ⟨ht, rfl⟩⟩
        | true =>
          have hx := ho x (by rw [h2]; simp)
          obtain ⟨thr, n, i⟩ := x
          obtain ⟨a, b, _⟩ := (okT_mk _ _ _).1 hx
          cases n with
          | cons k n => exact .inl ⟨k, .inr ⟨_, by simp, ht, by simp [Tr.nodes]⟩⟩
          | nil =>
            cases i with
            | cons y i => exact .inr ⟨y, _, by simp, .inl ⟨ht, by simp [Tr.inner]⟩⟩
            | nil => simp at b; omega
  rcases key with ⟨k, hk⟩ | ⟨y, hy⟩
  · have := List.length_pos_of_mem hk; omega
  · have := List.length_pos_of_mem hy; omega
theorem merge_rel (all : Bool) {thr : Int} {st : List Int × List Tr} (h : OkT (.mk thr st.1 st.2)) (hthr : if all then thr = ((st.1.length + st.2.length : Nat) : Int) else thr = 1) : Rel (.mk thr st.1 st.2) (mergedT thr st all) := by
  obtain ⟨a, b, c, d, e⟩ := (okT_mk _ _ _).1 h
  have hne := merge_ne all (st := st) (by omega) e
  have hin : ∀ y ∈ (mergeL all st).2, OkT y ∧ y.dep ≤ depL st.2 := fun y hy => by
    unfold mergeL at hy
    simp only [merge_inner, List.not_mem_nil, false_or] at hy
    obtain ⟨x, hx, ⟨_, hy⟩ | ⟨_, rfl⟩⟩ := hy
    · have hd := (depL_le st.2 _).1 (Nat.le_refl _) x hx
      have hx := e x hx
      obtain ⟨thr', n, i⟩ := x
      simp only [Tr.inner] at hy
      have := (depL_le i _).1 (Nat.le_refl _) y hy
      rw [dep_mk] at hd
      exact ⟨((okT_mk _ _ _).1 hx).2.2.2.2 y hy, by omega⟩
    · exact ⟨e y hx, (depL_le st.2 _).1 (Nat.le_refl _) y hx⟩
  have hnn : ∀ k ∈ (mergeL all st).1, 0 ≤ k ∧ k < 10 := fun k hk => by
    unfold mergeL at hk
    simp only [merge_nodes] at hk
    rcases hk with hk | ⟨x, hx, _, hk⟩
    · exact c k hk
    · have hx := e x hx
      obtain ⟨thr', n, i⟩ := x
      exact ((okT_mk _ _ _).1 hx).2.2.1 k hk
  have hnd : (mergeL all st).1.Nodup := merge_nodup all _ _ d
  have hw := merge_wgt all st.2 (st.1, [])
  unfold mergedT
  refine ⟨(okT_mk _ _ _).2 ⟨?_, ?_, hnn, hnd, fun x hx => (hin x hx).1⟩, fun s hs => ?_, ?_, ?_⟩
  · cases all
    · simp only [Bool.false_eq_true, if_false]; omega
    · simp only [if_true]; omega
  · cases all
    · simp only [Bool.false_eq_true, if_false] at hthr ⊢; omega
    · simp only [if_true]; omega
  · rw [Bool.eq_iff_iff]
    cases all
    · simp only [Bool.false_eq_true, if_false] at hthr ⊢
      subst hthr
      rw [sat_any1 hs, sat_any1 hs, merge_anyE hs]
    · simp only [if_true] at hthr ⊢
      rw [sat_all1 hs rfl, sat_all1 hs hthr, merge_allE hs]
  · rw [size_mk, size_mk]
    have : wgt ([] : List Tr) = 0 := by simp [wgt, sizeL]
    unfold mergeL
    simp only [this] at hw
    omega
  · rw [dep_mk, dep_mk]
    have := (depL_le (mergeL all st).2 (depL st.2)).2 (fun y hy => (hin y hy).2)
    omega
theorem mrg_rel {thr : Int} {st : List Int × List Tr} (h : OkT (.mk thr st.1 st.2)) : Rel (.mk thr st.1 st.2) (mrgT thr st) := by
  unfold mrgT
  split
  · exact merge_rel false h (by simpa)
  · split
    · exact merge_rel true h (by simpa)
    · exact Rel.refl h

/-! ### Sorting -/
theorem insT_perm (l : List Tr) (x : Tr) : (insT l x).Perm (x :: l) := by
  unfold insT
  generalize l.length - _ = m
  refine List.perm_middle.trans ?_
  rw [List.take_append_drop]
theorem sortT_perm' : ∀ (L l : List Tr), (L.foldl insT l).Perm (l ++ L)
  | [], l => by simp
  | x :: r, l => by
    rw [List.foldl_cons]
    refine (sortT_perm' r _).trans (((insT_perm l x).append_right r).trans ?_)
    exact List.perm_middle.symm
theorem sortT_perm (l : List Tr) : (sortT l).Perm l := by simpa [sortT] using sortT_perm' l []
theorem mem_sortN {l : List Int} (h : ∀ x ∈ l, 0 ≤ x ∧ x < 10) (k : Int) : k ∈ sortN l ↔ k ∈ l := by
  unfold sortN
  rw [List.mem_filter]
  constructor
  · rintro ⟨_, hk⟩
    obtain ⟨x, hx, e⟩ := List.any_eq_true.1 hk
    exact (of_decide_eq_true e) ▸ hx
  · intro hk
    refine ⟨?_, List.any_eq_true.2 ⟨k, hk, decide_eq_true rfl⟩⟩
    obtain ⟨a, b⟩ := h k hk
    obtain ⟨n, rfl⟩ := Int.eq_ofNat_of_zero_le a
    exact List.mem_map.2 ⟨n, by simp; omega, rfl⟩
theorem sortN_nodup (l : List Int) : (sortN l).Nodup := List.Pairwise.filter _ (by decide)
theorem sortN_perm {l : List Int} (h : ∀ x ∈ l, 0 ≤ x ∧ x < 10) (hd : l.Nodup) : (sortN l).Perm l :=
  (List.perm_ext_iff_of_nodup (sortN_nodup l) hd).2 (fun k => mem_sortN h k)
theorem sizeL_perm {l m : List Tr} (h : l.Perm m) : sizeL l = sizeL m := by
  induction h with
  | nil => rfl
  | cons x _ ih => simp only [sizeL, ih]
  | swap x y l => simp only [sizeL]; omega
  | trans _ _ a b => exact a.trans b
theorem depL_perm {l m : List Tr} (h : l.Perm m) : depL l = depL m := by
  induction h with
  | nil => rfl
  | cons x _ ih => simp only [depL, ih]
  | swap x y l => simp only [depL]; omega
  | trans _ _ a b => exact a.trans b
theorem ord_rel {t : Tr} (h : OkT t) : Rel t (ordT t) := by
  obtain ⟨thr, n, i⟩ := t
  obtain ⟨a, b, c, d, e⟩ := (okT_mk _ _ _).1 h
  have p1 := sortN_perm c d
  have p2 := sortT_perm i
  unfold ordT
  simp only [Tr.thr, Tr.nodes, Tr.inner]
  refine ⟨(okT_mk _ _ _).2 ⟨a, by rw [p1.length_eq, p2.length_eq]; exact b, fun x hx => c x ((mem_sortN c x).1 hx), sortN_nodup n, fun x hx => e x (p2.mem_iff.1 hx)⟩, fun s hs => ?_, ?_, ?_⟩
  · rw [sat_mk hs, sat_mk hs, cntI_eq, cntI_eq]
    unfold cntN
    rw [p1.countP_eq, p2.countP_eq]
  · rw [size_mk, size_mk]
    unfold wgt
    rw [p1.length_eq, p2.length_eq, sizeL_perm p2]
    omega
  · rw [dep_mk, dep_mk, depL_perm p2]
    omega
theorem fin_rel {t : Tr} (h : OkT t) : Rel t (finT t) := by
  obtain ⟨thr, n, i⟩ := t
  unfold finT
  simp only [Tr.nodes, Tr.inner]
  split
  · rename_i y
    obtain ⟨a, b, c, d, e⟩ := (okT_mk _ _ _).1 h
    simp only [List.length_nil, List.length_cons] at b
    obtain rfl : thr = 1 := by omega
    refine ⟨e y (by simp), fun s hs => ?_, ?_, ?_⟩
    · rw [sat_mk hs]
      simp only [cntI, cntN, List.countP_nil]
      by_cases hb : sat s y = true
      · simp [hb]
      · simp [hb]
    · rw [size_mk, wgt_one]; simp only [List.length_nil]; omega
    · rw [dep_mk]; simp only [depL]; omega
  · exact Rel.refl h

/-! ### The whole -/
mutual
theorem norm_rel : ∀ t : Tr, OkT t → Rel t (normT t)
  | .mk thr nodes inner, h => by
    obtain ⟨a, b, c, d, e⟩ := (okT_mk _ _ _).1 h
    obtain ⟨l1, l2, l3, l4, l5⟩ := norm_relL inner e
    obtain ⟨f1, f2, f3, f4, f5, f6, f7⟩ := lift_all (normL inner) (nodes, []) l2 d c (by simp)
    have h1 : Rel (.mk thr nodes inner) (.mk thr ((normL inner).foldl liftS (nodes, [])).1 ((normL inner).foldl liftS (nodes, [])).2) := by
      have hw : wgt ([] : List Tr) = 0 := by simp [wgt, sizeL]
      simp only [List.length_nil, Nat.add_zero, hw] at f2 f6
      refine ⟨(okT_mk _ _ _).2 ⟨a, by omega, f4, f3, f5⟩, fun s hs => ?_, ?_, ?_⟩
      · have e1 : cntN s ((normL inner).foldl liftS (nodes, [])).1 + cntI s ((normL inner).foldl liftS (nodes, [])).2 = cntN s nodes + cntI s inner := by
          rw [f1 s hs, l3 s hs]
          simp [cntI]
        rw [sat_mk hs, sat_mk hs, e1]
      · rw [size_mk, size_mk]; omega
      · rw [dep_mk, dep_mk]
        have := f7 (depL inner) (by simp [depL]) l5
        omega
    have h2 := mrg_rel h1.1
    have h3 := ord_rel h2.1
    have h4 := fin_rel h3.1
    simp only [normT]
    exact ((h1.trans h2).trans h3).trans h4
theorem norm_relL : ∀ L : List Tr, (∀ x ∈ L, OkT x) → (normL L).length = L.length ∧ (∀ x ∈ normL L, OkT x) ∧ (∀ s, validB s = true → cntI s (normL L) = cntI s L) ∧ wgt (normL L) ≤ wgt L ∧ depL (normL L) ≤ depL L
  | [], _ => by simp [normL]
  | x :: r, h => by
    obtain ⟨a1, a2, a3, a4⟩ := norm_rel x (h x (by simp))
    obtain ⟨b1, b2, b3, b4, b5⟩ := norm_relL r (fun y hy => h y (List.mem_cons_of_mem _ hy))
    simp only [normL]
    refine ⟨by simp [b1], fun y hy => ?_, fun s hs => ?_, ?_, ?_⟩
    · rcases List.mem_cons.1 hy with rfl | hy
      · exact a1
      · exact b2 y hy
    · simp only [cntI, a2 s hs, b3 s hs]
    · rw [wgt_cons, wgt_cons]; omega
    · simp only [depL]; omega
end
/-- The normal form of a valid trust: valid, the same meaning, no more entries and levels. -/
theorem norm_ok {t : Tr} (h : validE t = 0) : validE (normT t) = 0 ∧ (∀ s, validB s = true → sat s (normT t) = sat s t) ∧ (normT t).size ≤ t.size ∧ (normT t).dep ≤ t.dep := by
  unfold validE at h
  split at h
  · omega
  · rename_i h0
    obtain ⟨a, b, c, d⟩ := norm_rel t ((okT_iff t).1 h)
    refine ⟨?_, b, c, d⟩
    unfold validE
    rw [if_neg (by omega)]
    exact (okT_iff _).2 a
end Go.Proofs.YtpdhckbiioobhaaGreatDoor

/- Walks: the reference's normal form. Plain parts on memory. -/
namespace Go.Proofs.YtpdhckbiioobhaaGreatDoor
open Go.RowKit

/-- Whether a trust is lifted as its one node. -/
def lft (n : List Int) (x : Tr) : Bool :=
  match x.nodes, x.inner with
  | [k], [] => !(n.any fun y => decide (y = k))
  | _, _ => false
theorem liftS_at (n : List Int) (i : List Tr) (x : Tr) : liftS (n, i) x = if lft n x then (n ++ x.nodes, i) else (n, i ++ [x]) := by
  obtain ⟨th, nx, ix⟩ := x
  unfold liftS lft
  simp only [Tr.nodes, Tr.inner]
  rcases nx with _ | ⟨k, _ | ⟨k2, r⟩⟩
  · simp
  · cases ix with
    | nil => cases h : n.any (fun y => decide (y = k)) <;> simp only [h] <;> rfl
    | cons y r => simp
  · simp
theorem own_keep2 {w w' : World} {base : Nat} {e : TypeId} {size n : Nat} {v : Value} {xs : List Value} {r : Option Nat} (h : w.ownsRow base e size v n xs) (f : Fr r w w') (hr : ∀ b, v.ownBlock = some b → r ≠ some b) : w'.ownsRow base e size v n xs := by
  refine h.kept f ?_
  cases hv : v.ownBlock with
  | none => exact .inl rfl
  | some k => exact .inr fun e => hr k hv e.symm
/-- A row of one's own, read. -/
theorem SlD.own_eq {w : World} {base : Nat} {e : TypeId} {size : Nat} {v : Value} {n : Nat} {xs : List Value} (h : w.ownsRow base e size v n xs) : SlD w (fun b => v.ownBlock = some b ∧ base ≤ b ∧ b < w.heap.size) size v xs := by
  obtain ⟨hl, h2⟩ := h
  have h0 : w.ownsRow base e size v n xs := ⟨hl, h2⟩
  rcases h2 with ⟨rfl, rfl⟩ | ⟨g, cap, cur, rfl, hg, hh, hnc, hm, hs, ht⟩
  · exact ⟨none, 0, 0, rfl, hl, by omega, by unfold maxLen; omega, by omega⟩
  · refine ⟨_, n, cap, rfl, hl, hnc, hm, fun hn => ⟨g, 0, rfl, ⟨rfl, hg, (h0.lt g rfl).2⟩, fun j u hu => ?_⟩⟩
    have := h0.cells (g := g) rfl j u hu
    rw [Addr.add_lit] at this
    exact this

/-- The blocks D, and those laid since w1 but for B and two rows. -/
def Dn2 (D : Nat → Prop) (w1 wr : World) (B : Nat) (v v' : Value) : Nat → Prop := fun b => D b ∨ (w1.heap.size ≤ b ∧ b < wr.heap.size ∧ b ≠ B ∧ v.ownBlock ≠ some b ∧ v'.ownBlock ≠ some b)
/-- The trust that is being made, with two rows of its own. -/
structure NrmI (D : Nat → Prop) (w1 : World) (thr : Int) (B : Nat) (n : List Int) (i : List Tr) (A5 : Option Addr) (c5 : Nat) (A6 : Option Addr) (c6 : Nat) (cells : List Value) (wr : World) : Prop where
  fr : Fr none w1 wr
  hB : w1.heap.size ≤ B
  tb : TB wr B (.int .i64 thr) (.slice A5 n.length c5) (.slice A6 i.length c6)
  own5 : wr.ownsRow w1.heap.size 3 1 (.slice A5 n.length c5) n.length (n.map (Value.int .i64))
  ne5 : (Value.slice A5 n.length c5).ownBlock ≠ some B
  wi : ∀ x ∈ n, Wi x
  own6 : wr.ownsRow w1.heap.size 31 3 (.slice A6 i.length c6) i.length cells
  ne6 : (Value.slice A6 i.length c6).ownBlock ≠ some B
  dis : ∀ b, (Value.slice A5 n.length c5).ownBlock = some b → (Value.slice A6 i.length c6).ownBlock ≠ some b
  trs : TrsD wr (Dn2 D w1 wr B (.slice A5 n.length c5) (.slice A6 i.length c6)) cells i
theorem dn2_pure {D : Nat → Prop} {w1 wr w' : World} {B : Nat} {v v' : Value} (hD : ∀ b, D b → b < w1.heap.size) (h1 : Fr none w1 wr) (F : Fr none wr w') : ∀ b, Dn2 D w1 wr B v v' b → Dn2 D w1 w' B v v' b ∧ w'.heap[b]? = wr.heap[b]? := fun b hb => by
  have hz := F.size
  have hz1 := h1.size
  refine ⟨?_, F.block b ?_ (by simp)⟩
  · rcases hb with hb | hb
    · exact .inl hb
    · exact .inr ⟨hb.1, by omega, hb.2.2⟩
  · rcases hb with hb | hb
    · have := hD b hb; omega
    · exact hb.2.1
theorem NrmI.pure {D : Nat → Prop} {w1 wr w' : World} {thr : Int} {B : Nat} {n : List Int} {i : List Tr} {A5 : Option Addr} {c5 : Nat} {A6 : Option Addr} {c6 : Nat} {cells : List Value} (hD : ∀ b, D b → b < w1.heap.size) (h : NrmI D w1 thr B n i A5 c5 A6 c6 cells wr) (F : Fr none wr w') : NrmI D w1 thr B n i A5 c5 A6 c6 cells w' :=
  ⟨h.fr.pure F, h.hB, h.tb.fr F (by simp), own_fr h.own5 F (by simp), h.ne5, h.wi, own_fr h.own6 F (by simp), h.ne6, h.dis, TrsD.keep (dn2_pure hD h.fr F) _ _ h.trs⟩
/-- What a call made since is apart. -/
theorem NrmI.dw {D : Nat → Prop} {w1 wa w' : World} {thr : Int} {B : Nat} {n : List Int} {i : List Tr} {A5 : Option Addr} {c5 : Nat} {A6 : Option Addr} {c6 : Nat} {cells : List Value} (h : NrmI D w1 thr B n i A5 c5 A6 c6 cells wa) {v : Value} {t : Tr} (ht : TrD w' (Dw D wa w') v t) : TrD w' (Dn2 D w1 w' B (.slice A5 n.length c5) (.slice A6 i.length c6)) v t := by
  have hlt := blk_lt h.tb
  have z1 := h.fr.size
  refine TrD.keep (fun q hq => ⟨?_, rfl⟩) _ _ ht
  rcases hq with hq | hq
  · exact .inl hq
  · exact .inr ⟨by omega, hq.2, by omega, fun e => by have := (h.own5.lt _ e).2; omega, fun e => by have := (h.own6.lt _ e).2; omega⟩
/-- One node more. -/
theorem NrmI.node {D : Nat → Prop} {w1 wr w' : World} {thr : Int} {B : Nat} {n : List Int} {i : List Tr} {A5 : Option Addr} {c5 : Nat} {A6 : Option Addr} {c6 : Nat} {cells : List Value} (hD : ∀ b, D b → b < w1.heap.size) (h : NrmI D w1 thr B n i A5 c5 A6 c6 cells wr) {k : Int} (hk : Wi k) {A7 : Option Addr} {c7 : Nat}
    (own : w'.ownsRow w1.heap.size 3 1 (.slice A7 (n.length + 1) c7) (n.length + 1) (n.map (Value.int .i64) ++ [.int .i64 k])) (F : Fr (Value.slice A5 n.length c5).ownBlock wr w') (nb : NewOr wr.heap.size (.slice A5 n.length c5) (.slice A7 (n.length + 1) c7)) :
    NrmI D w1 thr B (n ++ [k]) i A7 c7 A6 c6 cells (w'.setCell ⟨B, 1, none⟩ (.slice A7 (n.length + 1) c7)) := by
  obtain ⟨h1, h2, h3, h4, h5, h6, h7, h8, h9, h10⟩ := h
  have hlt := blk_lt h3
  have hn : (n ++ [k]).length = n.length + 1 := by simp
  have og := own_blk_ge h4
  have ol := h4.lt
  have ol6 := h7.lt
  have b1 := h3.fr F h5
  have G := Fr.set1 w' ⟨B, 1, none⟩ (.slice A7 (n.length + 1) c7)
  have hne : (Value.slice A7 (n.length + 1) c7).ownBlock ≠ some B := fun e => by
    rcases nb with e' | ⟨g, e', hg⟩
    · exact h5 (e'.symm.trans e)
    · rw [e'] at e; injection e with e; omega
  have hdis : ∀ b, (Value.slice A7 (n.length + 1) c7).ownBlock = some b → (Value.slice A6 i.length c6).ownBlock ≠ some b := fun b e e6 => by
    rcases nb with e' | ⟨g, e', hg⟩
    · exact h9 b (e'.symm.trans e) e6
    · rw [e'] at e; injection e with e; have := (ol6 _ e6).2; omega
  have b2 : TB (w'.setCell ⟨B, 1, none⟩ (.slice A7 (n.length + 1) c7)) B (.int .i64 thr) (.slice A7 (n.length + 1) c7) (.slice A6 i.length c6) := b1.set1 _
  have hz := F.size
  have hz1 := h1.size
  have hz2 := G.size
  have own2 := own_ne_fr own G (by simpa using hne)
  have own6' := own_ne_fr (own_keep2 h7 F (fun b e6 e5 => h9 b e5 e6)) G (by simpa using h8)
  generalize World.setCell w' _ _ = w2 at *
  have kk : ∀ b, Dn2 D w1 wr B (.slice A5 n.length c5) (.slice A6 i.length c6) b → Dn2 D w1 w2 B (.slice A7 (n.length + 1) c7) (.slice A6 i.length c6) b ∧ w2.heap[b]? = wr.heap[b]? := fun b hb => by
    have hb2 : b < wr.heap.size ∧ (Value.slice A5 n.length c5).ownBlock ≠ some b ∧ b ≠ B := by
      rcases hb with hb | hb
      · have := hD b hb
        exact ⟨by omega, fun e => by have := og b e; omega, by omega⟩
      · exact ⟨hb.2.1, hb.2.2.2.1, hb.2.2.1⟩
    refine ⟨?_, (G.block b (by omega) (fun e => hb2.2.2 (by injection e))).trans (F.block b hb2.1 (fun e => hb2.2.1 e.symm))⟩
    rcases hb with hb | hb
    · exact .inl hb
    · refine .inr ⟨hb.1, by omega, hb.2.2.1, fun e => ?_, hb.2.2.2.2⟩
      rcases nb with e' | ⟨g, e', hg⟩
      · exact hb2.2.1 (e'.symm.trans e)
      · rw [e'] at e; injection e with e; omega
  refine ⟨(h1.own F (fun g hg => by have := og g hg; omega)).own G (by simp; omega), h2, by rw [hn]; exact b2, by rw [hn, List.map_append]; exact own2, by rw [hn]; exact hne, fun x hx => ?_, own6', h8, by rw [hn]; exact hdis, by rw [hn]; exact TrsD.keep kk _ _ h10⟩
  rcases List.mem_append.1 hx with hx | hx
  · exact h6 x hx
  · simp only [List.mem_singleton] at hx; exact hx ▸ hk
/-- One inner trust more. -/
theorem NrmI.inner {D : Nat → Prop} {w1 wr w' : World} {thr : Int} {B : Nat} {n : List Int} {i : List Tr} {A5 : Option Addr} {c5 : Nat} {A6 : Option Addr} {c6 : Nat} {cells : List Value} (hD : ∀ b, D b → b < w1.heap.size) (h : NrmI D w1 thr B n i A5 c5 A6 c6 cells wr) {a b c : Value} {x : Tr} (hx : TrD wr (Dn2 D w1 wr B (.slice A5 n.length c5) (.slice A6 i.length c6)) (.agg #[a, b, c]) x) {A7 : Option Addr} {c7 : Nat}
    (own : w'.ownsRow w1.heap.size 31 3 (.slice A7 (i.length + 1) c7) (i.length + 1) (cells ++ [a, b, c])) (F : Fr (Value.slice A6 i.length c6).ownBlock wr w') (nb : NewOr wr.heap.size (.slice A6 i.length c6) (.slice A7 (i.length + 1) c7)) :
    NrmI D w1 thr B n (i ++ [x]) A5 c5 A7 c7 (cells ++ [a, b, c]) (w'.setCell ⟨B, 2, none⟩ (.slice A7 (i.length + 1) c7)) := by
  obtain ⟨h1, h2, h3, h4, h5, h6, h7, h8, h9, h10⟩ := h
  have hlt := blk_lt h3
  have hn : (i ++ [x]).length = i.length + 1 := by simp
  have og := own_blk_ge h7
  have ol := h7.lt
  have ol5 := h4.lt
  have b1 := h3.fr F h8
  have G := Fr.set1 w' ⟨B, 2, none⟩ (.slice A7 (i.length + 1) c7)
  have hne : (Value.slice A7 (i.length + 1) c7).ownBlock ≠ some B := fun e => by
    rcases nb with e' | ⟨g, e', hg⟩
    · exact h8 (e'.symm.trans e)
    · rw [e'] at e; injection e with e; omega
  have hdis : ∀ b, (Value.slice A5 n.length c5).ownBlock = some b → (Value.slice A7 (i.length + 1) c7).ownBlock ≠ some b := fun b e5 e => by
    rcases nb with e' | ⟨g, e', hg⟩
    · exact h9 b e5 (e'.symm.trans e)
    · rw [e'] at e; injection e with e; have := (ol5 _ e5).2; omega
  have b2 : TB (w'.setCell ⟨B, 2, none⟩ (.slice A7 (i.length + 1) c7)) B (.int .i64 thr) (.slice A5 n.length c5) (.slice A7 (i.length + 1) c7) := b1.set2 _
  have hz := F.size
  have hz1 := h1.size
  have hz2 := G.size
  have own2 := own_ne_fr own G (by simpa using hne)
  have own5' := own_ne_fr (own_keep2 h4 F (fun b e5 e6 => h9 b e5 e6)) G (by simpa using h5)
  generalize World.setCell w' _ _ = w2 at *
  have kk : ∀ b, Dn2 D w1 wr B (.slice A5 n.length c5) (.slice A6 i.length c6) b → Dn2 D w1 w2 B (.slice A5 n.length c5) (.slice A7 (i.length + 1) c7) b ∧ w2.heap[b]? = wr.heap[b]? := fun b hb => by
    have hb2 : b < wr.heap.size ∧ (Value.slice A6 i.length c6).ownBlock ≠ some b ∧ b ≠ B := by
      rcases hb with hb | hb
      · have := hD b hb
        exact ⟨by omega, fun e => by have := og b e; omega, by omega⟩
      · exact ⟨hb.2.1, hb.2.2.2.2, hb.2.2.1⟩
    refine ⟨?_, (G.block b (by omega) (fun e => hb2.2.2 (by injection e))).trans (F.block b hb2.1 (fun e => hb2.2.1 e.symm))⟩
    rcases hb with hb | hb
    · exact .inl hb
    · refine .inr ⟨hb.1, by omega, hb.2.2.1, hb.2.2.2.1, fun e => ?_⟩
      rcases nb with e' | ⟨g, e', hg⟩
      · exact hb2.2.1 (e'.symm.trans e)
      · rw [e'] at e; injection e with e; omega
  exact ⟨(h1.own F (fun g hg => by have := og g hg; omega)).own G (by simp; omega), h2, by rw [hn]; exact b2, own5', h5, h6, by rw [hn]; exact own2, by rw [hn]; exact hne, by rw [hn]; exact hdis, by rw [hn]; exact TrsD.append (TrsD.keep kk _ _ h10) (by simp only [TrsD]; exact ⟨_, _, _, [], rfl, TrD.keep kk _ _ hx, rfl⟩)⟩

/-- The blocks D, and those laid since w1 but for B. -/
def Db (D : Nat → Prop) (w1 wr : World) (B : Nat) : Nat → Prop := fun b => D b ∨ (w1.heap.size ≤ b ∧ b < wr.heap.size ∧ b ≠ B)
/-- The trust in block B. -/
def MidP (D : Nat → Prop) (w1 : World) (B : Nat) (t : Tr) (x y z : Value) (wr : World) : Prop := Fr none w1 wr ∧ w1.heap.size ≤ B ∧ TB wr B x y z ∧ TrD wr (Db D w1 wr B) (.agg #[x, y, z]) t
theorem NrmI.mid {D : Nat → Prop} {w1 wr : World} {thr : Int} {B : Nat} {n : List Int} {i : List Tr} {A5 : Option Addr} {c5 : Nat} {A6 : Option Addr} {c6 : Nat} {cells : List Value} (h : NrmI D w1 thr B n i A5 c5 A6 c6 cells wr) (h0 : Wi thr) (hn : n.length ≤ 1000000) (hi : i.length ≤ 1000000) : MidP D w1 B (.mk thr n i) (.int .i64 thr) (.slice A5 n.length c5) (.slice A6 i.length c6) wr := by
  refine ⟨h.fr, h.hB, h.tb, TrD.mk_ h0 ((SlD.own_eq h.own5).keep (fun k hk => ⟨.inr ⟨hk.2.1, hk.2.2, fun e => h.ne5 (e ▸ hk.1)⟩, rfl⟩)) h.wi ((SlD.own_eq h.own6).keep (fun k hk => ⟨.inr ⟨hk.2.1, hk.2.2, fun e => h.ne6 (e ▸ hk.1)⟩, rfl⟩)) (by omega) (by omega) (TrsD.keep (fun k hk => ⟨?_, rfl⟩) _ _ h.trs)⟩
  rcases hk with hk | hk
  · exact .inl hk
  · exact .inr ⟨hk.1, hk.2.1, hk.2.2.1⟩
theorem db_lt {D : Nat → Prop} {w1 wr : World} {B : Nat} (hD : ∀ b, D b → b < w1.heap.size) (F : Fr none w1 wr) : ∀ b, Db D w1 wr B b → b < wr.heap.size := fun b hb => by
  rcases hb with hb | hb
  · have := hD b hb; have := F.size; omega
  · exact hb.2.1
theorem MidP.pure {D : Nat → Prop} {w1 wr w' : World} {B : Nat} {t : Tr} {x y z : Value} (hD : ∀ b, D b → b < w1.heap.size) (h : MidP D w1 B t x y z wr) (F : Fr none wr w') : MidP D w1 B t x y z w' := by
  obtain ⟨h1, h2, h3, h4⟩ := h
  refine ⟨h1.pure F, h2, h3.fr F (by simp), TrD.keep (fun b hb => ⟨?_, F.block b (db_lt hD h1 b hb) (by simp)⟩) _ _ h4⟩
  have hz := F.size
  rcases hb with hb | hb
  · exact .inl hb
  · exact .inr ⟨hb.1, by omega, hb.2.2⟩
/-- The trust is put anew. -/
theorem MidP.next {D : Nat → Prop} {w1 wr w' : World} {B : Nat} {t u : Tr} {a b c : Value} (hD : ∀ b, D b → b < w1.heap.size) (h : MidP D w1 B t a b c wr) (F : Fr none wr w') {x y z : Value}
    (hu : TrD w' (Dw (Db D w1 wr B) wr w') (.agg #[x, y, z]) u) :
    MidP D w1 B u x y z (((w'.setCell ⟨B, 0, none⟩ x).setCell ⟨B, 1, none⟩ y).setCell ⟨B, 2, none⟩ z) := by
  obtain ⟨h1, h2, h3, _⟩ := h
  have hlt := blk_lt h3
  have G := fr_fill3 w' B x y z
  have hbf := tb_fill3 (h3.fr F (by simp)) x y z
  have hz := F.size
  have hz1 := h1.size
  have hz2 := G.size
  generalize World.setCell (World.setCell (World.setCell w' _ _) _ _) _ _ = w2 at *
  refine ⟨(h1.pure F).own G (by simp; omega), h2, hbf, TrD.keep (fun b hb => ?_) _ _ hu⟩
  have hb2 : b < w'.heap.size ∧ b ≠ B ∧ Db D w1 w2 B b := by
    rcases hb with (hb | hb) | hb
    · have := hD b hb
      exact ⟨by omega, by omega, .inl hb⟩
    · exact ⟨by omega, hb.2.2, .inr ⟨hb.1, by omega, hb.2.2⟩⟩
    · exact ⟨hb.2, by omega, .inr ⟨by omega, by omega, by omega⟩⟩
  exact ⟨hb2.2.2, G.block b hb2.1 (fun e => hb2.2.1 (by injection e))⟩
/-- The end: the result's cell is filled. -/
theorem MidP.fin {D : Nat → Prop} {w w1 wr w' : World} {B : Nat} {t u : Tr} {a b c : Value} (hD : ∀ b, D b → b < w.heap.size) (hz : w.heap.size + 2 ≤ w1.heap.size) (F1 : Fr none w w1) (h : MidP D w1 B t a b c wr) {v : Value} (hu : TrD wr (Db D w1 wr B) v u) (G : Fr (some (w.heap.size + 1)) wr w') :
    TrD w' (Dw D w w') v u ∧ Fr none w w' := by
  have hz1 := h.1.size
  have hz2 := G.size
  refine ⟨TrD.keep (fun b hb => ?_) _ _ hu, (F1.pure h.1).own G (by simp)⟩
  rcases hb with hb | hb
  · have := hD b hb
    exact ⟨.inl hb, G.block b (by omega) (by simp; omega)⟩
  · exact ⟨.inr ⟨by omega, by omega⟩, G.block b hb.2.1 (by simp; omega)⟩
theorem mrg_wgt (thr : Int) (n : List Int) (i : List Tr) : (mrgT thr (n, i)).inner.length ≤ n.length + wgt i := by
  have h : ∀ all, (mergeL all (n, i)).1.length + wgt (mergeL all (n, i)).2 ≤ n.length + wgt i := fun all => by
    have := merge_wgt all i (n, [])
    have h0 : wgt ([] : List Tr) = 0 := by simp [wgt, sizeL]
    unfold mergeL
    simp only [h0, Nat.add_zero] at this ⊢
    exact this
  have l : ∀ m : List Tr, m.length ≤ wgt m := fun m => by unfold wgt; omega
  unfold mrgT
  split
  · show (mergeL false (n, i)).2.length ≤ _
    have := h false; have := l (mergeL false (n, i)).2; omega
  · split
    · show (mergeL true (n, i)).2.length ≤ _
      have := h true; have := l (mergeL true (n, i)).2; omega
    · show i.length ≤ _
      have := l i; omega
end Go.Proofs.YtpdhckbiioobhaaGreatDoor

/- The text of a trust, plain: as it is written, how long it is. -/
namespace Go.Proofs.YtpdhckbiioobhaaGreatDoor
open Go.RowKit

/-- The words of the nodes. -/
def ndW (l : List Int) : List (List UInt8) := l.map Lib.itoa
mutual
/-- The text of a trust. -/
def txT : Tr → List UInt8
  | .mk thr nodes inner => Lib.itoa thr ++ [32, 111, 102, 32, 40] ++ Lib.join (ndW nodes ++ txL inner) [44, 32] ++ [41]
def txL : List Tr → List (List UInt8)
  | [] => []
  | x :: r => txT x :: txL r
end
theorem txL_map : ∀ l : List Tr, txL l = l.map txT
  | [] => by simp [txL]
  | x :: r => by simp [txL, txL_map r]
theorem txL_take (l : List Tr) (k : Nat) (hk : k < l.length) : txL (l.take (k + 1)) = txL (l.take k) ++ [txT l[k]] := by
  rw [List.take_succ_eq_append_getElem hk, txL_map, txL_map, List.map_append]; rfl
theorem ndW_take (l : List Int) (k : Nat) (hk : k < l.length) : ndW (l.take (k + 1)) = ndW (l.take k) ++ [Lib.itoa l[k]] := by
  rw [List.take_succ_eq_append_getElem hk, ndW, ndW, List.map_append]; rfl
theorem txL_len (l : List Tr) : (txL l).length = l.length := by rw [txL_map]; simp
theorem ndW_len (l : List Int) : (ndW l).length = l.length := by simp [ndW]

theorem join_snoc (sep x : List UInt8) : ∀ l : List (List UInt8), Lib.join (l ++ [x]) sep = Lib.join l sep ++ (if l = [] then [] else sep) ++ x
  | [] => by simp [Lib.join_one, Lib.join_nil]
  | y :: r => by
    rw [List.cons_append, Lib.join_cons, Lib.join_cons]
    simp [Lib.joinTail, List.append_assoc]
theorem join_len (sep : List UInt8) : ∀ l : List (List UInt8), (Lib.join l sep).length ≤ sep.length * l.length + Lib.lens l
  | [] => by simp [Lib.join_nil]
  | x :: r => by
    rw [Lib.join_length]
    have : sep.length * r.length ≤ sep.length * (r.length + 1) := Nat.mul_le_mul_left _ (by omega)
    simp only [List.length_cons]
    omega
theorem lens_append (a b : List (List UInt8)) : Lib.lens (a ++ b) = Lib.lens a + Lib.lens b := by simp [Lib.lens]
theorem itoa_len {n : Int} (h : Wi n) : (Lib.itoa n).length ≤ 21 := Lib.itoa_length_le n h.1 h.2
theorem ndW_lens : ∀ l : List Int, (∀ x ∈ l, Wi x) → Lib.lens (ndW l) ≤ 21 * l.length
  | [], _ => by simp [ndW, Lib.lens]
  | x :: r, h => by
    have h1 := itoa_len (h x (by simp))
    have h2 := ndW_lens r (fun y hy => h y (List.mem_cons_of_mem _ hy))
    simp only [ndW, Lib.lens, List.map_cons, List.sum_cons, List.length_cons] at *
    omega
mutual
/-- All numbers of a trust are ints. -/
def wiT : Tr → Prop
  | .mk thr nodes inner => Wi thr ∧ (∀ x ∈ nodes, Wi x) ∧ wiL inner
def wiL : List Tr → Prop
  | [] => True
  | x :: r => wiT x ∧ wiL r
end
mutual
theorem TrD.wi {w : World} {D : Nat → Prop} : ∀ (t : Tr) (v : Value), TrD w D v t → wiT t
  | .mk thr nodes inner, v, h => by
    simp only [TrD] at h
    obtain ⟨vn, vi, cells, e, h0, h1, h2, h3, h4, h5, h6⟩ := h
    simp only [wiT]
    exact ⟨h0, h2, TrsD.wi inner cells h6⟩
theorem TrsD.wi {w : World} {D : Nat → Prop} : ∀ (l : List Tr) (cells : List Value), TrsD w D cells l → wiL l
  | [], cells, h => by simp only [wiL]
  | x :: r, cells, h => by
    simp only [TrsD] at h
    obtain ⟨a, b, c, rest, e, h1, h2⟩ := h
    simp only [wiL]
    exact ⟨TrD.wi x _ h1, TrsD.wi r rest h2⟩
end
mutual
theorem txT_len : ∀ t : Tr, wiT t → (txT t).length ≤ 30 * t.size + 27
  | .mk thr nodes inner, h => by
    simp only [wiT] at h
    have h1 := itoa_len h.1
    have h2 := ndW_lens nodes h.2.1
    have h3 := txL_lens inner h.2.2
    have h4 := join_len [44, 32] (ndW nodes ++ txL inner)
    rw [lens_append, List.length_append, ndW_len, txL_len] at h4
    simp only [txT, Tr.size, List.length_append, List.length_cons, List.length_nil] at *
    omega
theorem txL_lens : ∀ l : List Tr, wiL l → Lib.lens (txL l) ≤ 30 * sizeL l + 27 * l.length
  | [], _ => by simp [txL, Lib.lens]
  | x :: r, h => by
    simp only [wiL] at h
    have h1 := txT_len x h.1
    have h2 := txL_lens r h.2
    simp only [txL, sizeL, Lib.lens, List.map_cons, List.sum_cons, List.length_cons] at *
    omega
end
theorem wiL_get : ∀ (l : List Tr) (k : Nat) (hk : k < l.length), wiL l → wiT l[k]
  | x :: r, 0, _, h => by simp only [wiL] at h; exact h.1
  | x :: r, k + 1, hk, h => by
    simp only [wiL] at h
    simpa using wiL_get r k (by simpa using hk) h.2
theorem wiL_take : ∀ (l : List Tr) (k : Nat), wiL l → wiL (l.take k)
  | [], k, h => by simpa using h
  | x :: r, 0, h => by simp only [List.take_zero, wiL]
  | x :: r, k + 1, h => by
    simp only [wiL, List.take_succ_cons] at h ⊢
    exact ⟨h.1, wiL_take r k h.2⟩
/-- The words of a trust, up to some of its nodes and inner trusts. -/
def wdT (nodes : List Int) (inner : List Tr) : List (List UInt8) := ndW nodes ++ txL inner
theorem wdT_lens (nodes : List Int) (inner : List Tr) (h1 : ∀ x ∈ nodes, Wi x) (h2 : wiL inner) : (Lib.join (wdT nodes inner) [44, 32]).length ≤ 30 * (nodes.length + inner.length + sizeL inner) := by
  have h3 := ndW_lens nodes h1
  have h4 := txL_lens inner h2
  have h5 := join_len [44, 32] (wdT nodes inner)
  unfold wdT at *
  rw [lens_append, List.length_append, ndW_len, txL_len] at h5
  simp only [List.length_cons, List.length_nil] at h5
  omega
end Go.Proofs.YtpdhckbiioobhaaGreatDoor

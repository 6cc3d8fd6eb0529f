/- Some texts of this claim, joined: contracts of the functions that it reaches, and plain laws. -/
import Derived.Test.YtoblhcieidljjaaGreatDoorJDA10
import Derived.Laws.CopyOwn
import Derived.Test.YtoblhcieidljjaaGreatDoorJDA2
import Derived.Test.YtoblhcieidljjaaGreatDoorProg

set_option linter.unusedSimpArgs false
set_option linter.unusedVariables false
/- Walks: the reference's sorted. -/
namespace Go.Proofs.YtoblhcieidljjaaGreatDoor
open Go.RowKit

/-! ### copy of elements of k cells -/
theorem run_copy_rowK {P : Program} (w : World) (dT sT ty elem : TypeId) (g o dLen dCap : Nat) (a : Addr) (sLen sCap : Nat) (cur : Array Value) (t : TypeId) (cs : List Value) (k : Nat)
    (hu : P.underlying dT = some (.slice elem)) (hs : (P.info? elem).map (·.size) = some k)
    (hg : w.heap[g]? = some (.cells cur t (0, 0))) (hn : cs.length = Nat.min sLen dLen * k)
    (hsrc : ∀ j v, cs[j]? = some v → w.cell? (a.add j) = some v) (hfit : o + cs.length ≤ cur.size) (h1 : ∀ v ∈ cs, v.oneCell' = true) :
    (Builtin.copy_ #[dT, sT] ty #[.slice (some ⟨g, o, none⟩) dLen dCap, .slice (some a) sLen sCap]).run P w =
      .ok (goInt (Nat.min sLen dLen)) (w.setRow g (cur.toList.take o ++ cs ++ cur.toList.drop (o + cs.length)).toArray) := by
  have hl := run_loadCells_list (P := P) w a cs hsrc
  have hst := run_storeCells_at P g o t cs 0 cur w hg (by simpa using hfit) h1
  cases hq : P.info? elem with
  | none => simp [hq] at hs
  | some i =>
    have hi : i.size = k := by simpa [hq] using hs
    simp [Builtin.copy_, run_underlying hu, Builtin.lenOf, Builtin.firstCells, sizeOf, typeInfo, hq, hi, ← hn, hl, hst]
theorem run_copy_noneK {P : Program} (w : World) (dT sT ty elem : TypeId) (dp sp : Option Addr) (dLen dCap sLen sCap k : Nat) (hu : P.underlying dT = some (.slice elem)) (hs : (P.info? elem).map (·.size) = some k) (hn : Nat.min sLen dLen = 0) (hd : dp ≠ none) (hp : sp ≠ none) :
    (Builtin.copy_ #[dT, sT] ty #[.slice dp dLen dCap, .slice sp sLen sCap]).run P w = .ok (goInt 0) w := by
  cases hq : P.info? elem with
  | none => simp [hq] at hs
  | some i =>
    cases dp with
    | none => exact absurd rfl hd
    | some d =>
      cases sp with
      | none => exact absurd rfl hp
      | some s => simp [Builtin.copy_, run_underlying hu, Builtin.lenOf, Builtin.firstCells, sizeOf, typeInfo, hq, hn, loadCells, loadCellsFrom, storeCells]
/-- copy within the memory of w: the row g behind it, and that nothing else has changed. -/
theorem copy_frK {P : Program} {w : World} {ops : Array Oper} {rest : List Oper} {o : Oper} {a : Act} {Q : Exit → Act → World → Prop} (hgd : o.guard = none) (d s : Operand) (dT sT : TypeId)
    (ho : o.op = .call { callee := .builtin .copy, args := #[d, s], argTypes := #[dT, sT] }) (elem : TypeId) (k : Nat) (hu : P.underlying dT = some (.slice elem)) (hsz : (P.info? elem).map (·.size) = some k)
    (dp sp : Option Addr) (dLen dCap sLen sCap : Nat) (hd : a.eval d = .slice dp dLen dCap) (hs : a.eval s = .slice sp sLen sCap)
    (g off : Nat) (cur : List Value) (t : TypeId) (hg : w.heap[g]? = some (.cells cur.toArray t (0, 0))) (cs : List Value) (hn : cs.length = Nat.min sLen dLen * k) (hdp : dp ≠ none) (hsp : sp ≠ none)
    (hpos : 0 < Nat.min sLen dLen → dp = some ⟨g, off, none⟩ ∧ ∃ ad, sp = some ad ∧ ∀ j v, cs[j]? = some v → w.cell? (ad.add j) = some v)
    (hfit : off + cs.length ≤ cur.length) (h1 : ∀ v ∈ cs, v.oneCell' = true)
    (h : ∀ w', Hid (w'.heap[g]? = some (.cells (cur.take off ++ cs ++ cur.drop (off + cs.length)).toArray t (0, 0))) → Fr (some g) w w' → wpList P ops Q rest (a.put o.dst (goInt (Nat.min sLen dLen))) w') :
    wpList P ops Q (o :: rest) a w := by
  refine wpList_plain hgd fun K hK => ?_
  by_cases h0 : Nat.min sLen dLen = 0
  · have hrun := run_copy_noneK (P := P) w dT sT o.type elem dp sp dLen dCap sLen sCap k hu hsz h0 hdp hsp
    have hc0 : cs = [] := List.eq_nil_of_length_eq_zero (by rw [hn, h0]; simp)
    unfold Oper.wp
    simp [execOp, ho, resolve, invoke, builtin, hd, hs, hrun, Result.andThen]
    have := h w (by subst hc0; simpa [Hid] using hg) (Fr.refl _ _)
    rw [h0] at this
    exact hK _ _ this
  · obtain ⟨rfl, ad, rfl, hsrc⟩ := hpos (by omega)
    have hrun := run_copy_rowK (P := P) w dT sT o.type elem g off dLen dCap ad sLen sCap cur.toArray t cs k hu hsz hg hn hsrc (by simpa using hfit) h1
    unfold Oper.wp
    simp [execOp, ho, resolve, invoke, builtin, hd, hs, hrun, Result.andThen]
    refine hK _ _ ?_
    refine h _ ?_ ?_
    · unfold Hid
      simpa using setRow_heap w g _ _ t _ hg
    · exact ⟨rfl, rfl, rfl, by simp [World.setRow], fun k _ hne => setRow_other w g k _ (fun e => hne (by rw [e]))⟩

/-- How far from the end a trust is put. -/
def twl (l : List Tr) (x : Tr) : Nat := (l.reverse.takeWhile fun y => decide (0 < cmpT y x)).length
theorem twl_nil (x : Tr) : twl [] x = 0 := rfl
theorem twl_snoc (l : List Tr) (y x : Tr) : twl (l ++ [y]) x = if 0 < cmpT y x then twl l x + 1 else 0 := by
  unfold twl
  rw [List.reverse_append, List.reverse_singleton, List.singleton_append, List.takeWhile_cons]
  by_cases h : 0 < cmpT y x
  · simp [h]
  · simp [h]
theorem twl_take (l : List Tr) (k : Nat) (hk : k < l.length) (x : Tr) : twl (l.take (k + 1)) x = if 0 < cmpT l[k] x then twl (l.take k) x + 1 else 0 := by
  rw [List.take_succ_eq_append_getElem hk, twl_snoc]
theorem insT_at (l : List Tr) (x : Tr) (k : Nat) (h : l.length - twl l x = k) : insT l x = l.take k ++ x :: l.drop k := by subst h; rfl
/-- The nodes so far. -/
def nkN (nodes : List Int) (k : Nat) : List Int := ((List.range k).map Int.ofNat).filter fun k => nodes.any (fun x => decide (x = k))
theorem nkN_succ (nodes : List Int) (k : Nat) : nkN nodes (k + 1) = if nodes.any (fun x => decide (x = (k : Int))) then nkN nodes k ++ [(k : Int)] else nkN nodes k := by
  unfold nkN
  rw [List.range_succ, List.map_append, List.filter_append]
  simp only [List.map_cons, List.map_nil, List.filter_cons, List.filter_nil]
  split <;> simp_all
theorem nkN_len (nodes : List Int) (k : Nat) : (nkN nodes k).length ≤ k := Nat.le_trans (List.length_filter_le _ _) (by simp)

theorem TrsD.one' {w : World} {D : Nat → Prop} : ∀ {l : List Tr} {cells : List Value}, TrsD w D cells l → ∀ u ∈ cells, u.oneCell' = true
  | [], cells, h, u, hu => by simp only [TrsD] at h; subst h; simp at hu
  | x :: r, cells, h, u, hu => by
    simp only [TrsD] at h
    obtain ⟨a, b, c, rest, rfl, h1, h2⟩ := h
    obtain ⟨th, A1, n1, c1, A2, n2, c2, e⟩ := h1.shape
    simp only [Value.agg.injEq, Array.mk.injEq, List.cons.injEq, and_true] at e
    obtain ⟨rfl, rfl, rfl⟩ := e
    simp only [List.mem_cons] at hu
    rcases hu with rfl | rfl | rfl | hu
    · simp [Value.oneCell']
    · simp [Value.oneCell']
    · simp [Value.oneCell']
    · exact TrsD.one' h2 u hu
theorem TrsD.take {w : World} {D : Nat → Prop} : ∀ {l : List Tr} {cells : List Value}, TrsD w D cells l → ∀ k, TrsD w D (cells.take (k * 3)) (l.take k)
  | [], cells, h, k => by simp only [TrsD] at h; subst h; simp [TrsD]
  | x :: r, cells, h, k => by
    simp only [TrsD] at h
    obtain ⟨a, b, c, rest, rfl, h1, h2⟩ := h
    cases k with
    | zero => simp [TrsD]
    | succ k =>
      rw [show (k + 1) * 3 = k * 3 + 1 + 1 + 1 by omega]
      simp only [List.take_succ_cons, TrsD]
      exact ⟨a, b, c, _, rfl, h1, TrsD.take h2 k⟩
theorem TrsD.drop {w : World} {D : Nat → Prop} : ∀ {l : List Tr} {cells : List Value}, TrsD w D cells l → ∀ k, TrsD w D (cells.drop (k * 3)) (l.drop k)
  | [], cells, h, k => by simp only [TrsD] at h; subst h; simp [TrsD]
  | x :: r, cells, h, k => by
    cases k with
    | zero => simpa using h
    | succ k =>
      simp only [TrsD] at h
      obtain ⟨a, b, c, rest, rfl, h1, h2⟩ := h
      rw [show (k + 1) * 3 = k * 3 + 1 + 1 + 1 by omega]
      simp only [List.drop_succ_cons]
      exact TrsD.drop h2 k
/-- What the copy and the store leave in the row. -/
theorem row_ins3 {cur cs : List Value} {z0 z1 z2 x0 x1 x2 : Value} {n k : Nat} (h : cur.take ((n + 1) * 3) = cs ++ [z0, z1, z2]) (hl : cs.length = n * 3) (hk : k ≤ n) :
    ((((cur.take ((k + 1) * 3) ++ cs.drop (k * 3) ++ cur.drop ((k + 1) * 3 + (cs.drop (k * 3)).length)).set (k * 3) x0).set (k * 3 + 1) x1).set (k * 3 + 2) x2).take ((n + 1) * 3) = cs.take (k * 3) ++ ([x0, x1, x2] ++ cs.drop (k * 3)) := by
  have hp : (cs.take (k * 3)).length = k * 3 := by rw [List.length_take]; omega
  obtain ⟨a, b, c, r, hr⟩ : ∃ a b c r, cs.drop (k * 3) ++ [z0, z1, z2] = a :: b :: c :: r := by
    generalize cs.drop (k * 3) = q
    match q with
    | [] => exact ⟨_, _, _, [], rfl⟩
    | [q0] => exact ⟨_, _, _, _, rfl⟩
    | [q0, q1] => exact ⟨_, _, _, _, rfl⟩
    | q0 :: q1 :: q2 :: q => exact ⟨_, _, _, _, rfl⟩
  have hcur : cur = cs.take (k * 3) ++ (a :: b :: c :: (r ++ cur.drop ((n + 1) * 3))) := by
    have e := List.take_append_drop ((n + 1) * 3) cur
    rw [h] at e
    have e2 : cs ++ [z0, z1, z2] = cs.take (k * 3) ++ (a :: b :: c :: r) := by rw [← hr, ← List.append_assoc, List.take_append_drop]
    rw [e2] at e
    exact e.symm.trans (by simp)
  have htk : cur.take ((k + 1) * 3) = cs.take (k * 3) ++ [a, b, c] := by
    rw [hcur, List.take_append, hp, List.take_of_length_le (by rw [hp]; omega), show (k + 1) * 3 - k * 3 = 3 by omega]
    simp
  rw [htk]
  simp only [List.append_assoc, List.cons_append, List.nil_append]
  rw [List.set_append_right _ _ (by rw [hp]; omega), hp, Nat.sub_self, List.set_cons_zero, List.set_append_right _ _ (by rw [hp]; omega), hp, show k * 3 + 1 - k * 3 = 1 by omega, List.set_cons_succ, List.set_cons_zero, List.set_append_right _ _ (by rw [hp]; omega), hp, show k * 3 + 2 - k * 3 = 2 by omega, List.set_cons_succ, List.set_cons_succ, List.set_cons_zero]
  rw [List.take_append, hp, List.take_of_length_le (by rw [hp]; omega)]
  congr 1
  rw [show (n + 1) * 3 - k * 3 = (n - k) * 3 + 1 + 1 + 1 by omega]
  simp only [List.take_succ_cons]
  rw [List.take_append_of_le_length (by rw [List.length_drop]; omega), List.take_of_length_le (by rw [List.length_drop]; omega)]

theorem fr_row3s (w : World) (b o : Nat) (x y z : Value) : Fr (some b) w (((w.setCell ⟨b, o, none⟩ x).setCell ⟨b, o + 1, none⟩ y).setCell ⟨b, o + 2, none⟩ z) :=
  Fr.setRow (p := ⟨b, o + 2, none⟩) (Fr.setRow (p := ⟨b, o + 1, none⟩) (Fr.set1 w ⟨b, o, none⟩ x) rfl y) rfl z
theorem own_ins3 {w : World} {base g n k c7 : Nat} {e : TypeId} {cur cs : List Value} {z0 z1 z2 x0 x1 x2 : Value} (hg : base ≤ g) (hb : w.heap[g]? = some (.cells (cur.take ((k + 1) * 3) ++ cs.drop (k * 3) ++ cur.drop ((k + 1) * 3 + (cs.drop (k * 3)).length)).toArray e (0, 0)))
    (hs : cur.length = c7 * 3) (hnc : n + 1 ≤ c7) (hm : c7 ≤ maxLen) (h : cur.take ((n + 1) * 3) = cs ++ [z0, z1, z2]) (hl : cs.length = n * 3) (hk : k ≤ n) :
    (((w.setCell ⟨g, k * 3, none⟩ x0).setCell ⟨g, k * 3 + 1, none⟩ x1).setCell ⟨g, k * 3 + 2, none⟩ x2).ownsRow base e 3 (.slice (some ⟨g, 0, none⟩) (n + 1) c7) (n + 1) (cs.take (k * 3) ++ ([x0, x1, x2] ++ cs.drop (k * 3))) := by
  have h3 := blk_set (blk_set (blk_set hb (k * 3) x0) (k * 3 + 1) x1) (k * 3 + 2) x2
  have hr := row_ins3 (x0 := x0) (x1 := x1) (x2 := x2) h hl hk
  have hd : (cs.drop (k * 3)).length = n * 3 - k * 3 := by rw [List.length_drop, hl]
  refine ⟨?_, .inr ⟨g, c7, _, rfl, hg, h3, hnc, hm, ?_, ?_⟩⟩
  · simp only [List.length_append, List.length_take, List.length_cons, List.length_nil, hd, hl]
    omega
  · simp only [Array.size_setIfInBounds, List.size_toArray, List.length_append, List.length_take, List.length_drop, hd, hs]
    omega
  · simpa using hr
theorem src3 {w : World} {g k n : Nat} {e : TypeId} {cur : Array Value} {cs : List Value} {z : List Value} (hb : w.heap[g]? = some (.cells cur e (0, 0))) (h : cur.toList.take ((n + 1) * 3) = cs ++ z) (hl : cs.length = n * 3) :
    ∀ j v, (cs.drop (k * 3))[j]? = some v → w.cell? ((⟨g, k * 3, none⟩ : Addr).add j) = some v := by
  intro j v hv
  rw [List.getElem?_drop] at hv
  have hlt : k * 3 + j < cs.length := (List.getElem?_eq_some_iff.1 hv).1
  rw [Addr.add_lit, blk_cell hb]
  have e1 : (cur.toList.take ((n + 1) * 3))[k * 3 + j]? = cur.toList[k * 3 + j]? := by rw [List.getElem?_take, if_pos (by omega)]
  rw [← Array.getElem?_toList, ← e1, h, List.getElem?_append_left hlt]
  exact hv

end Go.Proofs.YtoblhcieidljjaaGreatDoor

/- Walks: the reference's normal form. Plain parts on memory. -/
namespace Go.Proofs.YtoblhcieidljjaaGreatDoor
open Go.RowKit

/-- Whether a trust is lifted as its one node. -/
def lft (n : List Int) (x : Tr) : Bool :=
  match x.nodes, x.inner with
  | [k], [] => !(n.any fun y => decide (y = k))
  | _, _ => false
theorem liftS_at (n : List Int) (i : List Tr) (x : Tr) : liftS (n, i) x = if lft n x then (n ++ x.nodes, i) else (n, i ++ [x]) := by
  obtain ⟨th, nx, ix⟩ := x
  unfold liftS lft
  simp only [Tr.nodes, Tr.inner]
  rcases nx with _ | ⟨k, _ | ⟨k2, r⟩⟩
  · simp
  · cases ix with
    | nil => cases h : n.any (fun y => decide (y = k)) <;> simp only [h] <;> rfl
    | cons y r => simp
  · simp
theorem own_keep2 {w w' : World} {base : Nat} {e : TypeId} {size n : Nat} {v : Value} {xs : List Value} {r : Option Nat} (h : w.ownsRow base e size v n xs) (f : Fr r w w') (hr : ∀ b, v.ownBlock = some b → r ≠ some b) : w'.ownsRow base e size v n xs := by
  refine h.kept f ?_
  cases hv : v.ownBlock with
  | none => exact .inl rfl
  | some k => exact .inr fun e => hr k hv e.symm
/-- A row of one's own, read. -/
theorem SlD.own_eq {w : World} {base : Nat} {e : TypeId} {size : Nat} {v : Value} {n : Nat} {xs : List Value} (h : w.ownsRow base e size v n xs) : SlD w (fun b => v.ownBlock = some b ∧ base ≤ b ∧ b < w.heap.size) size v xs := by
  obtain ⟨hl, h2⟩ := h
  have h0 : w.ownsRow base e size v n xs := ⟨hl, h2⟩
  rcases h2 with ⟨rfl, rfl⟩ | ⟨g, cap, cur, rfl, hg, hh, hnc, hm, hs, ht⟩
  · exact ⟨none, 0, 0, rfl, hl, by omega, by unfold maxLen; omega, by omega⟩
  · refine ⟨_, n, cap, rfl, hl, hnc, hm, fun hn => ⟨g, 0, rfl, ⟨rfl, hg, (h0.lt g rfl).2⟩, fun j u hu => ?_⟩⟩
    have := h0.cells (g := g) rfl j u hu
    rw [Addr.add_lit] at this
    exact this

/-- The blocks D, and those laid since w1 but for B and two rows. -/
def Dn2 (D : Nat → Prop) (w1 wr : World) (B : Nat) (v v' : Value) : Nat → Prop := fun b => D b ∨ (w1.heap.size ≤ b ∧ b < wr.heap.size ∧ b ≠ B ∧ v.ownBlock ≠ some b ∧ v'.ownBlock ≠ some b)
/-- The trust that is being made, with two rows of its own. -/
structure NrmI (D : Nat → Prop) (w1 : World) (thr : Int) (B : Nat) (n : List Int) (i : List Tr) (A5 : Option Addr) (c5 : Nat) (A6 : Option Addr) (c6 : Nat) (cells : List Value) (wr : World) : Prop where
  fr : Fr none w1 wr
  hB : w1.heap.size ≤ B
  tb : TB wr B (.int .i64 thr) (.slice A5 n.length c5) (.slice A6 i.length c6)
  own5 : wr.ownsRow w1.heap.size 3 1 (.slice A5 n.length c5) n.length (n.map (Value.int .i64))
  ne5 : (Value.slice A5 n.length c5).ownBlock ≠ some B
  wi : ∀ x ∈ n, Wi x
  own6 : wr.ownsRow w1.heap.size 31 3 (.slice A6 i.length c6) i.length cells
  ne6 : (Value.slice A6 i.length c6).ownBlock ≠ some B
  dis : ∀ b, (Value.slice A5 n.length c5).ownBlock = some b → (Value.slice A6 i.length c6).ownBlock ≠ some b
  trs : TrsD wr (Dn2 D w1 wr B (.slice A5 n.length c5) (.slice A6 i.length c6)) cells i
theorem dn2_pure {D : Nat → Prop} {w1 wr w' : World} {B : Nat} {v v' : Value} (hD : ∀ b, D b → b < w1.heap.size) (h1 : Fr none w1 wr) (F : Fr none wr w') : ∀ b, Dn2 D w1 wr B v v' b → Dn2 D w1 w' B v v' b ∧ w'.heap[b]? = wr.heap[b]? := fun b hb => by
  have hz := F.size
  have hz1 := h1.size
  refine ⟨?_, F.block b ?_ (by simp)⟩
  · rcases hb with hb | hb
    · exact .inl hb
    · exact .inr ⟨hb.1, by omega, hb.2.2⟩
  · rcases hb with hb | hb
    · have := hD b hb; omega
    · exact hb.2.1
theorem NrmI.pure {D : Nat → Prop} {w1 wr w' : World} {thr : Int} {B : Nat} {n : List Int} {i : List Tr} {A5 : Option Addr} {c5 : Nat} {A6 : Option Addr} {c6 : Nat} {cells : List Value} (hD : ∀ b, D b → b < w1.heap.size) (h : NrmI D w1 thr B n i A5 c5 A6 c6 cells wr) (F : Fr none wr w') : NrmI D w1 thr B n i A5 c5 A6 c6 cells w' :=
  ⟨h.fr.pure F, h.hB, h.tb.fr F (by simp), own_fr h.own5 F (by simp), h.ne5, h.wi, own_fr h.own6 F (by simp), h.ne6, h.dis, TrsD.keep (dn2_pure hD h.fr F) _ _ h.trs⟩
/-- What a call made since is apart. -/
theorem NrmI.dw {D : Nat → Prop} {w1 wa w' : World} {thr : Int} {B : Nat} {n : List Int} {i : List Tr} {A5 : Option Addr} {c5 : Nat} {A6 : Option Addr} {c6 : Nat} {cells : List Value} (h : NrmI D w1 thr B n i A5 c5 A6 c6 cells wa) {v : Value} {t : Tr} (ht : TrD w' (Dw D wa w') v t) : TrD w' (Dn2 D w1 w' B (.slice A5 n.length c5) (.slice A6 i.length c6)) v t := by
  have hlt := blk_lt h.tb
  have z1 := h.fr.size
  refine TrD.keep (fun q hq => ⟨?_, rfl⟩) _ _ ht
  rcases hq with hq | hq
  · exact .inl hq
  · exact .inr ⟨by omega, hq.2, by omega, fun e => by have := (h.own5.lt _ e).2; omega, fun e => by have := (h.own6.lt _ e).2; omega⟩
/-- One node more. -/
theorem NrmI.node {D : Nat → Prop} {w1 wr w' : World} {thr : Int} {B : Nat} {n : List Int} {i : List Tr} {A5 : Option Addr} {c5 : Nat} {A6 : Option Addr} {c6 : Nat} {cells : List Value} (hD : ∀ b, D b → b < w1.heap.size) (h : NrmI D w1 thr B n i A5 c5 A6 c6 cells wr) {k : Int} (hk : Wi k) {A7 : Option Addr} {c7 : Nat}
    (own : w'.ownsRow w1.heap.size 3 1 (.slice A7 (n.length + 1) c7) (n.length + 1) (n.map (Value.int .i64) ++ [.int .i64 k])) (F : Fr (Value.slice A5 n.length c5).ownBlock wr w') (nb : NewOr wr.heap.size (.slice A5 n.length c5) (.slice A7 (n.length + 1) c7)) :
    NrmI D w1 thr B (n ++ [k]) i A7 c7 A6 c6 cells (w'.setCell ⟨B, 1, none⟩ (.slice A7 (n.length + 1) c7)) := by
  obtain ⟨h1, h2, h3, h4, h5, h6, h7, h8, h9, h10⟩ := h
  have hlt := blk_lt h3
  have hn : (n ++ [k]).length = n.length + 1 := by simp
  have og := own_blk_ge h4
  have ol := h4.lt
  have ol6 := h7.lt
  have b1 := h3.fr F h5
  have G := Fr.set1 w' ⟨B, 1, none⟩ (.slice A7 (n.length + 1) c7)
  have hne : (Value.slice A7 (n.length + 1) c7).ownBlock ≠ some B := fun e => by
    rcases nb with e' | ⟨g, e', hg⟩
    · exact h5 (e'.symm.trans e)
    · rw [e'] at e; injection e with e; omega
  have hdis : ∀ b, (Value.slice A7 (n.length + 1) c7).ownBlock = some b → (Value.slice A6 i.length c6).ownBlock ≠ some b := fun b e e6 => by
    rcases nb with e' | ⟨g, e', hg⟩
    · exact h9 b (e'.symm.trans e) e6
    · rw [e'] at e; injection e with e; have := (ol6 _ e6).2; omega
  have b2 : TB (w'.setCell ⟨B, 1, none⟩ (.slice A7 (n.length + 1) c7)) B (.int .i64 thr) (.slice A7 (n.length + 1) c7) (.slice A6 i.length c6) := b1.set1 _
  have hz := F.size
  have hz1 := h1.size
  have hz2 := G.size
  have own2 := own_ne_fr own G (by simpa using hne)
  have own6' := own_ne_fr (own_keep2 h7 F (fun b e6 e5 => h9 b e5 e6)) G (by simpa using h8)
  generalize World.setCell w' _ _ = w2 at *
  have kk : ∀ b, Dn2 D w1 wr B (.slice A5 n.length c5) (.slice A6 i.length c6) b → Dn2 D w1 w2 B (.slice A7 (n.length + 1) c7) (.slice A6 i.length c6) b ∧ w2.heap[b]? = wr.heap[b]? := fun b hb => by
    have hb2 : b < wr.heap.size ∧ (Value.slice A5 n.length c5).ownBlock ≠ some b ∧ b ≠ B := by
      rcases hb with hb | hb
      · have := hD b hb
        exact ⟨by omega, fun e => by have := og b e; omega, by omega⟩
      · exact ⟨hb.2.1, hb.2.2.2.1, hb.2.2.1⟩
    refine ⟨?_, (G.block b (by omega) (fun e => hb2.2.2 (by injection e))).trans (F.block b hb2.1 (fun e => hb2.2.1 e.symm))⟩
    rcases hb with hb | hb
    · exact .inl hb
    · refine .inr ⟨hb.1, by omega, hb.2.2.1, fun e => ?_, hb.2.2.2.2⟩
      rcases nb with e' | ⟨g, e', hg⟩
      · exact hb2.2.1 (e'.symm.trans e)
      · rw [e'] at e; injection e with e; omega
  refine ⟨(h1.own F (fun g hg => by have := og g hg; omega)).own G (by simp; omega), h2, by rw [hn]; exact b2, by rw [hn, List.map_append]; exact own2, by rw [hn]; exact hne, fun x hx => ?_, own6', h8, by rw [hn]; exact hdis, by rw [hn]; exact TrsD.keep kk _ _ h10⟩
  rcases List.mem_append.1 hx with hx | hx
  · exact h6 x hx
  · simp only [List.mem_singleton] at hx; exact hx ▸ hk
/-- One inner trust more. -/
theorem NrmI.inner {D : Nat → Prop} {w1 wr w' : World} {thr : Int} {B : Nat} {n : List Int} {i : List Tr} {A5 : Option Addr} {c5 : Nat} {A6 : Option Addr} {c6 : Nat} {cells : List Value} (hD : ∀ b, D b → b < w1.heap.size) (h : NrmI D w1 thr B n i A5 c5 A6 c6 cells wr) {a b c : Value} {x : Tr} (hx : TrD wr (Dn2 D w1 wr B (.slice A5 n.length c5) (.slice A6 i.length c6)) (.agg #[a, b, c]) x) {A7 : Option Addr} {c7 : Nat}
    (own : w'.ownsRow w1.heap.size 31 3 (.slice A7 (i.length + 1) c7) (i.length + 1) (cells ++ [a, b, c])) (F : Fr (Value.slice A6 i.length c6).ownBlock wr w') (nb : NewOr wr.heap.size (.slice A6 i.length c6) (.slice A7 (i.length + 1) c7)) :
    NrmI D w1 thr B n (i ++ [x]) A5 c5 A7 c7 (cells ++ [a, b, c]) (w'.setCell ⟨B, 2, none⟩ (.slice A7 (i.length + 1) c7)) := by
  obtain ⟨h1, h2, h3, h4, h5, h6, h7, h8, h9, h10⟩ := h
  have hlt := blk_lt h3
  have hn : (i ++ [x]).length = i.length + 1 := by simp
  have og := own_blk_ge h7
  have ol := h7.lt
  have ol5 := h4.lt
  have b1 := h3.fr F h8
  have G := Fr.set1 w' ⟨B, 2, none⟩ (.slice A7 (i.length + 1) c7)
  have hne : (Value.slice A7 (i.length + 1) c7).ownBlock ≠ some B := fun e => by
    rcases nb with e' | ⟨g, e', hg⟩
    · exact h8 (e'.symm.trans e)
    · rw [e'] at e; injection e with e; omega
  have hdis : ∀ b, (Value.slice A5 n.length c5).ownBlock = some b → (Value.slice A7 (i.length + 1) c7).ownBlock ≠ some b := fun b e5 e => by
    rcases nb with e' | ⟨g, e', hg⟩
    · exact h9 b e5 (e'.symm.trans e)
    · rw [e'] at e; injection e with e; have := (ol5 _ e5).2; omega
  have b2 : TB (w'.setCell ⟨B, 2, none⟩ (.slice A7 (i.length + 1) c7)) B (.int .i64 thr) (.slice A5 n.length c5) (.slice A7 (i.length + 1) c7) := b1.set2 _
  have hz := F.size
  have hz1 := h1.size
  have hz2 := G.size
  have own2 := own_ne_fr own G (by simpa using hne)
  have own5' := own_ne_fr (own_keep2 h4 F (fun b e5 e6 => h9 b e5 e6)) G (by simpa using h5)
  generalize World.setCell w' _ _ = w2 at *
  have kk : ∀ b, Dn2 D w1 wr B (.slice A5 n.length c5) (.slice A6 i.length c6) b → Dn2 D w1 w2 B (.slice A5 n.length c5) (.slice A7 (i.length + 1) c7) b ∧ w2.heap[b]? = wr.heap[b]? := fun b hb => by
    have hb2 : b < wr.heap.size ∧ (Value.slice A6 i.length c6).ownBlock ≠ some b ∧ b ≠ B := by
      rcases hb with hb | hb
      · have := hD b hb
        exact ⟨by omega, fun e => by have := og b e; omega, by omega⟩
      · exact ⟨hb.2.1, hb.2.2.2.2, hb.2.2.1⟩
    refine ⟨?_, (G.block b (by omega) (fun e => hb2.2.2 (by injection e))).trans (F.block b hb2.1 (fun e => hb2.2.1 e.symm))⟩
    rcases hb with hb | hb
    · exact .inl hb
    · refine .inr ⟨hb.1, by omega, hb.2.2.1, hb.2.2.2.1, fun e => ?_⟩
      rcases nb with e' | ⟨g, e', hg⟩
      · exact hb2.2.1 (e'.symm.trans e)
      · rw [e'] at e; injection e with e; omega
  exact ⟨(h1.own F (fun g hg => by have := og g hg; omega)).own G (by simp; omega), h2, by rw [hn]; exact b2, own5', h5, h6, by rw [hn]; exact own2, by rw [hn]; exact hne, by rw [hn]; exact hdis, by rw [hn]; exact TrsD.append (TrsD.keep kk _ _ h10) (by simp only [TrsD]; exact ⟨_, _, _, [], rfl, TrD.keep kk _ _ hx, rfl⟩)⟩

/-- The blocks D, and those laid since w1 but for B. -/
def Db (D : Nat → Prop) (w1 wr : World) (B : Nat) : Nat → Prop := fun b => D b ∨ (w1.heap.size ≤ b ∧ b < wr.heap.size ∧ b ≠ B)
/-- The trust in block B. -/
def MidP (D : Nat → Prop) (w1 : World) (B : Nat) (t : Tr) (x y z : Value) (wr : World) : Prop := Fr none w1 wr ∧ w1.heap.size ≤ B ∧ TB wr B x y z ∧ TrD wr (Db D w1 wr B) (.agg #[x, y, z]) t
theorem NrmI.mid {D : Nat → Prop} {w1 wr : World} {thr : Int} {B : Nat} {n : List Int} {i : List Tr} {A5 : Option Addr} {c5 : Nat} {A6 : Option Addr} {c6 : Nat} {cells : List Value} (h : NrmI D w1 thr B n i A5 c5 A6 c6 cells wr) (h0 : Wi thr) (hn : n.length ≤ 1000000) (hi : i.length ≤ 1000000) : MidP D w1 B (.mk thr n i) (.int .i64 thr) (.slice A5 n.length c5) (.slice A6 i.length c6) wr := by
  refine ⟨h.fr, h.hB, h.tb, TrD.mk_ h0 ((SlD.own_eq h.own5).keep (fun k hk => ⟨.inr ⟨hk.2.1, hk.2.2, fun e => h.ne5 (e ▸ hk.1)⟩, rfl⟩)) h.wi ((SlD.own_eq h.own6).keep (fun k hk => ⟨.inr ⟨hk.2.1, hk.2.2, fun e => h.ne6 (e ▸ hk.1)⟩, rfl⟩)) (by omega) (by omega) (TrsD.keep (fun k hk => ⟨?_, rfl⟩) _ _ h.trs)⟩
  rcases hk with hk | hk
  · exact .inl hk
  · exact .inr ⟨hk.1, hk.2.1, hk.2.2.1⟩
theorem db_lt {D : Nat → Prop} {w1 wr : World} {B : Nat} (hD : ∀ b, D b → b < w1.heap.size) (F : Fr none w1 wr) : ∀ b, Db D w1 wr B b → b < wr.heap.size := fun b hb => by
  rcases hb with hb | hb
  · have := hD b hb; have := F.size; omega
  · exact hb.2.1
theorem MidP.pure {D : Nat → Prop} {w1 wr w' : World} {B : Nat} {t : Tr} {x y z : Value} (hD : ∀ b, D b → b < w1.heap.size) (h : MidP D w1 B t x y z wr) (F : Fr none wr w') : MidP D w1 B t x y z w' := by
  obtain ⟨h1, h2, h3, h4⟩ := h
  refine ⟨h1.pure F, h2, h3.fr F (by simp), TrD.keep (fun b hb => ⟨?_, F.block b (db_lt hD h1 b hb) (by simp)⟩) _ _ h4⟩
  have hz := F.size
  rcases hb with hb | hb
  · exact .inl hb
  · exact .inr ⟨hb.1, by omega, hb.2.2⟩
/-- The trust is put anew. -/
theorem MidP.next {D : Nat → Prop} {w1 wr w' : World} {B : Nat} {t u : Tr} {a b c : Value} (hD : ∀ b, D b → b < w1.heap.size) (h : MidP D w1 B t a b c wr) (F : Fr none wr w') {x y z : Value}
    (hu : TrD w' (Dw (Db D w1 wr B) wr w') (.agg #[x, y, z]) u) :
    MidP D w1 B u x y z (((w'.setCell ⟨B, 0, none⟩ x).setCell ⟨B, 1, none⟩ y).setCell ⟨B, 2, none⟩ z) := by
  obtain ⟨h1, h2, h3, _⟩ := h
  have hlt := blk_lt h3
  have G := fr_fill3 w' B x y z
  have hbf := tb_fill3 (h3.fr F (by simp)) x y z
  have hz := F.size
  have hz1 := h1.size
  have hz2 := G.size
  generalize World.setCell (World.setCell (World.setCell w' _ _) _ _) _ _ = w2 at *
  refine ⟨(h1.pure F).own G (by simp; omega), h2, hbf, TrD.keep (fun b hb => ?_) _ _ hu⟩
  have hb2 : b < w'.heap.size ∧ b ≠ B ∧ Db D w1 w2 B b := by
    rcases hb with (hb | hb) | hb
    · have := hD b hb
      exact ⟨by omega, by omega, .inl hb⟩
    · exact ⟨by omega, hb.2.2, .inr ⟨hb.1, by omega, hb.2.2⟩⟩
    · exact ⟨hb.2, by omega, .inr ⟨by omega, by omega, by omega⟩⟩
  exact ⟨hb2.2.2, G.block b hb2.1 (fun e => hb2.2.1 (by injection e))⟩
/-- The end: the result's cell is filled. -/
theorem MidP.fin {D : Nat → Prop} {w w1 wr w' : World} {B : Nat} {t u : Tr} {a b c : Value} (hD : ∀ b, D b → b < w.heap.size) (hz : w.heap.size + 2 ≤ w1.heap.size) (F1 : Fr none w w1) (h : MidP D w1 B t a b c wr) {v : Value} (hu : TrD wr (Db D w1 wr B) v u) (G : Fr (some (w.heap.size + 1)) wr w') :
    TrD w' (Dw D w w') v u ∧ Fr none w w' := by
  have hz1 := h.1.size
  have hz2 := G.size
  refine ⟨TrD.keep (fun b hb => ?_) _ _ hu, (F1.pure h.1).own G (by simp)⟩
  rcases hb with hb | hb
  · have := hD b hb
    exact ⟨.inl hb, G.block b (by omega) (by simp; omega)⟩
  · exact ⟨.inr ⟨by omega, by omega⟩, G.block b hb.2.1 (by simp; omega)⟩
theorem mrg_wgt (thr : Int) (n : List Int) (i : List Tr) : (mrgT thr (n, i)).inner.length ≤ n.length + wgt i := by
  have h : ∀ all, (mergeL all (n, i)).1.length + wgt (mergeL all (n, i)).2 ≤ n.length + wgt i := fun all => by
    have := merge_wgt all i (n, [])
    have h0 : wgt ([] : List Tr) = 0 := by simp [wgt, sizeL]
    unfold mergeL
    simp only [h0, Nat.add_zero] at this ⊢
    exact this
  have l : ∀ m : List Tr, m.length ≤ wgt m := fun m => by unfold wgt; omega
  unfold mrgT
  split
  · show (mergeL false (n, i)).2.length ≤ _
    have := h false; have := l (mergeL false (n, i)).2; omega
  · split
    · show (mergeL true (n, i)).2.length ≤ _
      have := h true; have := l (mergeL true (n, i)).2; omega
    · show i.length ≤ _
      have := l i; omega
end Go.Proofs.YtoblhcieidljjaaGreatDoor

/- Plain: what a valid trust is. -/
namespace Go.Proofs.YtoblhcieidljjaaGreatDoor
open Go.RowKit

theorem valid_facts {t : Tr} (h : validE t = 0) : OkT t ∧ t.size ≤ 200 ∧ t.dep ≤ 4 := by
  unfold validE at h
  split at h
  · omega
  · exact ⟨(okT_iff t).1 h, by omega, by omega⟩
end Go.Proofs.YtoblhcieidljjaaGreatDoor

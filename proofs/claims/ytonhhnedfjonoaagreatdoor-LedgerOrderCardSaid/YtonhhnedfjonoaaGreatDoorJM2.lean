/- Some texts of this claim, joined: contracts of the functions that it reaches, and plain laws. -/
import Derived.Test.YtonhhnedfjonoaaGreatDoorJM1
import Derived.Deep.RegionHeld3
import Derived.Deep.RegionLaw
import Derived.Deep.RegionWith
import Derived.StillTailTactics
import Derived.Deep.DeepCutAuto

set_option linter.unusedSimpArgs false
set_option linter.unusedVariables false
/- append for a walk: onto a row of the call's own, from whatever slice that reads as cells; the value behind it written out. -/
namespace Go.Proofs.YtonhhnedfjonoaaGreatDoor
open Go.RowKit

/-- What the type table says of a slice type t: its elements' type, cells, bytes. -/
def EInfo (P : Program) (t e : TypeId) (size bytes : Nat) : Prop :=
  ∃ (i : TypeInfo) (z : Value), P.underlying t = some (.slice e) ∧ P.info? e = some i ∧ i.zero = some z ∧ i.size = size ∧ i.bytes = bytes ∧ z.cells.size = size ∧ 0 < size

theorem EInfo.mk_ {P : Program} {t e : TypeId} {z : Value} {size bytes : Nat} (h1 : P.underlying t = some (.slice e)) (h2 : (P.info? e).map (fun i => (i.zero, i.size, i.bytes)) = some (some z, size, bytes)) (h3 : z.cells.size = size) (h4 : 0 < size) :
    EInfo P t e size bytes := by
  obtain ⟨i, a, b, c, d⟩ := info_parts h2
  exact ⟨i, z, h1, a, b, c, d, h3, h4⟩

theorem SlD.any {w : World} {D : Nat → Prop} {size : Nat} {v : Value} {xs : List Value} (h : SlD w D size v xs) : SlD w (fun _ => True) size v xs := h.keep fun _ _ => ⟨trivial, rfl⟩

/-- A literal slice, just laid. -/
theorem SlD.lit (w : World) (cs : Array Value) (e : TypeId) (n size : Nat) (hs : cs.size = n * size) (hn : n ≤ maxLen) :
    SlD (w.alloc (.cells cs e)) (fun _ => True) size (.slice (some ⟨w.heap.size, 0, none⟩) n n) cs.toList :=
  ⟨_, n, n, rfl, by simpa using hs, Nat.le_refl _, hn, fun _ => ⟨_, 0, rfl, trivial, fun j u hu => by
    rw [Nat.zero_add, cell_new]
    simpa using hu⟩⟩

theorem app_run {P : Program} {t e ty : TypeId} {size bytes : Nat} (E : EInfo P t e size bytes) (w : World) (base : Nat) (A : Option Addr) (n c : Nat) (xs : List Value) (hown : w.ownsRow base e size (.slice A n c) n xs)
    (B : Option Addr) (m d : Nat) (news : List Value) (hr : SlD w (fun _ => True) size (.slice B m d) news) (h1 : ∀ u ∈ news, u.oneCell' = true) (hb : (n + m) * bytes ≤ 140737488355328) (h63 : n + m ≤ maxLen) (hbase : base ≤ w.heap.size) :
    ∃ A' c' w', (Builtin.append_ #[t, t] ty #[.slice A n c, .slice B m d]).run P w = .ok (.slice A' (n + m) c') w' ∧ w'.ownsRow base e size (.slice A' (n + m) c') (n + m) (xs ++ news) ∧
      w.grownBy w' (Value.slice A n c).ownBlock ∧ ((Value.slice A' (n + m) c').ownBlock = (Value.slice A n c).ownBlock ∨ (Value.slice A' (n + m) c').ownBlock = some w.heap.size) := by
  obtain ⟨i, z, ht, hi, hz, hsize, hby, hzs, hsz⟩ := E
  obtain ⟨B', m', d', e0, hl, hmd, hd, hx⟩ := hr
  injection e0 with e1 e2 e3
  subst e1 e2 e3
  cases hB : B with
  | none =>
    have hm : m = 0 := by
      rcases Nat.eq_zero_or_pos m with h0 | h0
      · exact h0
      · obtain ⟨b, off, h, _⟩ := hx h0
        rw [hB] at h
        cases h
    subst hm
    have hn : news = [] := List.eq_nil_of_length_eq_zero (by simpa using hl)
    subst hn
    refine ⟨A, c, w, ?_, by simpa using hown, World.grownBy.refl w _, .inl rfl⟩
    rcases hown.2 with ⟨hv, _⟩ | ⟨g, cap, cur, hv, _, _, hnc, _⟩
    · injection hv with v1 v2 v3
      subst v1 v2 v3
      simp [Builtin.append_, run_underlying ht, sizeOf, typeInfo, hi, Builtin.lenOf, Builtin.firstCells]
    · injection hv with v1 v2 v3
      subst v1 v3
      simp [Builtin.append_, run_underlying ht, sizeOf, typeInfo, hi, Builtin.lenOf, Builtin.firstCells, hnc, storeCells]
  | some ad =>
    have hcells : ∀ j u, news[j]? = some u → w.cell? (ad.add j) = some u := by
      intro j u hu
      rcases Nat.eq_zero_or_pos m with h0 | h0
      · subst h0
        have hn : news = [] := List.eq_nil_of_length_eq_zero (by simpa using hl)
        subst hn
        simp at hu
      · obtain ⟨b, off, h, _, hc⟩ := hx h0
        rw [hB] at h
        injection h with h
        subst h
        rw [Addr.add_lit]
        exact hc j u hu
    obtain ⟨v', w', hrun, h2, h3, _, h5⟩ := run_append_own_at (P := P) w base t ty e i z size bytes ht hi hz hsize hby hzs hsz _ n xs hown ad m d news hl hcells h1 h63 hb hbase
    rcases h2.2 with ⟨rfl, e0⟩ | ⟨g, cap, cur, rfl, _⟩
    · have hn0 : n + m = 0 := e0
      rw [hn0] at h2 ⊢
      exact ⟨none, 0, w', hrun, h2, h3, h5⟩
    · exact ⟨_, _, w', hrun, h2, h3, h5⟩

theorem app_any {P : Program} {t e : TypeId} {size bytes : Nat} (E : EInfo P t e size bytes) {w : World} {ops : Array Oper} {rest : List Oper} {o : Oper} {a : Act} {Q : Exit → Act → World → Prop} (hgd : o.guard = none) (s x : Operand)
    (ho : o.op = .call { callee := .builtin .append, args := #[s, x], argTypes := #[t, t] })
    (base : Nat) (A : Option Addr) (n c : Nat) (xs : List Value) (hs : a.eval s = .slice A n c) (hown : w.ownsRow base e size (.slice A n c) n xs)
    (B : Option Addr) (m d : Nat) (news : List Value) (hx : a.eval x = .slice B m d) (hr : SlD w (fun _ => True) size (.slice B m d) news) (h1 : ∀ u ∈ news, u.oneCell' = true) (hb : (n + m) * bytes ≤ 140737488355328) (h63 : n + m ≤ maxLen) (hbase : base ≤ w.heap.size)
    (h : ∀ A' c' w', w'.ownsRow base e size (.slice A' (n + m) c') (n + m) (xs ++ news) → w.grownBy w' (Value.slice A n c).ownBlock →
      ((Value.slice A' (n + m) c').ownBlock = (Value.slice A n c).ownBlock ∨ (Value.slice A' (n + m) c').ownBlock = some w.heap.size) → wpList P ops Q rest (a.put o.dst (.slice A' (n + m) c')) w') :
    wpList P ops Q (o :: rest) a w := by
  refine wpList_plain hgd fun K hK => ?_
  obtain ⟨A', c', w', hr, h2, h3, h4⟩ := app_run (P := P) (ty := o.type) E w base A n c xs hown B m d news hr h1 hb h63 hbase
  unfold Oper.wp execOp
  simp only [ho, resolve, invoke, builtin, Sem.run_bind, Sem.run_pure, Result.andThen_ok, List.map_toArray, List.map_cons, List.map_nil, hs, hx, hr]
  exact hK _ _ (h A' c' w' h2 h3 h4)

/-- The block of v' is that of v, or a new one (number B or greater). -/
def NewOr (B : Nat) (v v' : Value) : Prop := v'.ownBlock = v.ownBlock ∨ ∃ g, v'.ownBlock = some g ∧ B ≤ g

/-- append of a literal (one element or some) that has just been laid in a block of its own. -/
theorem app_lit {P : Program} {t e : TypeId} {size bytes : Nat} (E : EInfo P t e size bytes) {w : World} {ops : Array Oper} {rest : List Oper} {o : Oper} {a : Act} {Q : Exit → Act → World → Prop} (hgd : o.guard = none) (s x : Operand)
    (ho : o.op = .call { callee := .builtin .append, args := #[s, x], argTypes := #[t, t] })
    (base : Nat) (A : Option Addr) (n c : Nat) (xs : List Value) (hs : a.eval s = .slice A n c) (hown : w.ownsRow base e size (.slice A n c) n xs)
    (m : Nat) (cs : List Value) (e' : TypeId) (bk : Nat) (hx : a.eval x = .slice (some ⟨bk, 0, none⟩) m m) (hbk : w.heap.size = bk) (hcs : cs.length = m * size) (h1 : ∀ u ∈ cs, u.oneCell' = true) (hb : (n + m) * bytes ≤ 140737488355328) (h63 : n + m ≤ maxLen) (hbase : base ≤ w.heap.size)
    (h : ∀ A' c' w', w'.ownsRow base e size (.slice A' (n + m) c') (n + m) (xs ++ cs) → Fr (Value.slice A n c).ownBlock w w' → NewOr w.heap.size (.slice A n c) (.slice A' (n + m) c') → wpList P ops Q rest (a.put o.dst (.slice A' (n + m) c')) w') :
    wpList P ops Q (o :: rest) a (w.alloc (.cells cs.toArray e')) := by
  subst hbk
  refine app_any E hgd s x ho base A n c xs hs (hown.alloc _) _ m m cs hx (by simpa using SlD.lit w cs.toArray e' m size (by simpa using hcs) (by omega)) h1 hb h63 (by simp; omega) ?_
  intro A' c' w' own' gr' bl'
  refine h A' c' w' own' (((Fr.refl _ w).alloc _).same gr') ?_
  rcases bl' with bl' | bl'
  · exact .inl bl'
  · exact .inr ⟨_, bl', by simp⟩

/-- What is owned, and whatever else, over a frame: an own row stays while only other blocks change. -/
theorem own_fr {w w' : World} {base : Nat} {e : TypeId} {size n : Nat} {v : Value} {xs : List Value} {r : Option Nat} (h : w.ownsRow base e size v n xs) (f : Fr r w w') (hr : ∀ g, r = some g → g < base) : w'.ownsRow base e size v n xs := by
  refine h.kept f ?_
  cases hv : v.ownBlock with
  | none => exact .inl rfl
  | some k =>
    refine .inr fun e => ?_
    have := (h.lt k hv).1
    have := hr k e.symm
    omega
theorem own_blk_ge {w : World} {base : Nat} {e : TypeId} {size n : Nat} {v : Value} {xs : List Value} (h : w.ownsRow base e size v n xs) : ∀ g, v.ownBlock = some g → base ≤ g := fun g hg => (h.lt g hg).1

theorem own_ne {w : World} {base : Nat} {e : TypeId} {size n : Nat} {v : Value} {xs : List Value} (h : w.ownsRow base e size v n xs) {g : Nat} (hg : g < base) : v.ownBlock ≠ some g := fun e => by
  have := own_blk_ge h g e; omega
theorem blk_new_at {w : World} {n : Nat} (h : n = w.heap.size) (o : Obj) : (w.alloc o).heap[n]? = some o := by subst h; exact heap_alloc_new w o

/-- The blocks from B on. -/
def Dn (B : Nat) (w : World) : Nat → Prop := fun b => B ≤ b ∧ b < w.heap.size
theorem dn_fr {B : Nat} {r : Option Nat} {w w' : World} (f : Fr r w w') (hr : ∀ g, r = some g → g < B) : ∀ k, Dn B w k → Dn B w' k ∧ w'.heap[k]? = w.heap[k]? :=
  fun k hk => ⟨⟨hk.1, Nat.lt_of_lt_of_le hk.2 f.size⟩, f.block k hk.2 (fun e => by have := hr k e.symm; have := hk.1; omega)⟩
theorem SlD.own_dn {w : World} {base : Nat} {e : TypeId} {size : Nat} {v : Value} {n : Nat} {xs : List Value} (h : w.ownsRow base e size v n xs) : SlD w (Dn base w) size v xs := by
  obtain ⟨hl, h2⟩ := h
  have h0 : w.ownsRow base e size v n xs := ⟨hl, h2⟩
  rcases h2 with ⟨rfl, rfl⟩ | ⟨g, cap, cur, rfl, hg, hh, hnc, hm, hs, ht⟩
  · exact ⟨none, 0, 0, rfl, hl, by omega, by unfold maxLen; omega, by omega⟩
  · refine ⟨_, n, cap, rfl, hl, hnc, hm, fun hn => ⟨g, 0, rfl, ⟨hg, (h0.lt g rfl).2⟩, fun j u hu => ?_⟩⟩
    have := h0.cells (g := g) rfl j u hu
    rw [Addr.add_lit] at this
    exact this
theorem dn_dm {B : Nat} {r : Option Nat} {w : World} (hr : ∀ g, r = some g → g < B) : ∀ k, Dn B w k → Dm w r k ∧ w.heap[k]? = w.heap[k]? :=
  fun k hk => ⟨⟨hk.2, fun e => by have := hr k e.symm; have := hk.1; omega⟩, rfl⟩

theorem SlD.lit_dm {w w' : World} {r : Option Nat} (cs : Array Value) (e : TypeId) (n size : Nat) (hs : cs.size = n * size) (hn : n ≤ maxLen) (hr : ∀ g, r = some g → g < w.heap.size) (f : Fr r (w.alloc (.cells cs e)) w') :
    SlD w' (Dm w' r) size (.slice (some ⟨w.heap.size, 0, none⟩) n n) cs.toList := by
  have hz := f.size
  simp only [World.size_alloc] at hz
  have hne : some w.heap.size ≠ r := fun h => by have := hr _ h.symm; omega
  exact ⟨_, n, n, rfl, by simpa using hs, Nat.le_refl _, hn, fun _ => ⟨_, 0, rfl, ⟨by omega, hne⟩, fun j u hu => by
    rw [Nat.zero_add, f.cell (by simp) hne, cell_new]
    simpa using hu⟩⟩

theorem dn_mono {B B' : Nat} {w : World} (h : B ≤ B') : ∀ k, Dn B' w k → Dn B w k ∧ w.heap[k]? = w.heap[k]? := fun _k hk => ⟨⟨Nat.le_trans h hk.1, hk.2⟩, rfl⟩

/-- The blocks from B on that are not the row of v. -/
def Dx (B : Nat) (w : World) (v : Value) : Nat → Prop := fun b => B ≤ b ∧ b < w.heap.size ∧ v.ownBlock ≠ some b
theorem dx_app {B : Nat} {w w' : World} {v v' : Value} (f : Fr v.ownBlock w w') (nb : NewOr w.heap.size v v') : ∀ k, Dx B w v k → Dx B w' v' k ∧ w'.heap[k]? = w.heap[k]? := fun k hk => by
  refine ⟨⟨hk.1, Nat.lt_of_lt_of_le hk.2.1 f.size, fun e => ?_⟩, f.block k hk.2.1 (fun e => hk.2.2 e.symm)⟩
  rcases nb with h | ⟨g, h, hg⟩
  · rw [h] at e; exact hk.2.2 e
  · rw [h] at e; injection e with e; have := hk.2.1; omega
theorem dx_fr {B : Nat} {w w' : World} {v : Value} {r : Option Nat} (f : Fr r w w') (hr : ∀ g, r = some g → g < B) : ∀ k, Dx B w v k → Dx B w' v k ∧ w'.heap[k]? = w.heap[k]? := fun k hk =>
  ⟨⟨hk.1, Nat.lt_of_lt_of_le hk.2.1 f.size, hk.2.2⟩, f.block k hk.2.1 (fun e => by have := hr k e.symm; have := hk.1; omega)⟩
theorem dn_dx {B B' : Nat} {w : World} {v : Value} (h : B ≤ B') (hv : ∀ g, v.ownBlock = some g → g < B') : ∀ k, Dn B' w k → Dx B w v k ∧ w.heap[k]? = w.heap[k]? := fun k hk =>
  ⟨⟨Nat.le_trans h hk.1, hk.2, fun e => by have := hv k e; have := hk.1; omega⟩, rfl⟩
theorem dx_dn {B : Nat} {w : World} {v : Value} : ∀ k, Dx B w v k → Dn B w k ∧ w.heap[k]? = w.heap[k]? := fun _k hk => ⟨⟨hk.1, hk.2.1⟩, rfl⟩

/-- A block known whole. -/
theorem blk_fr {w w' : World} {g : Nat} {o : Obj} {r : Option Nat} (h : w.heap[g]? = some o) (f : Fr r w w') (hr : r ≠ some g) : w'.heap[g]? = some o := by
  rw [f.block g ?_ (fun e => hr e.symm)]
  · exact h
  · rcases Nat.lt_or_ge g w.heap.size with hh | hh
    · exact hh
    · rw [Array.getElem?_eq_none hh] at h; cases h
theorem blk_lt {w : World} {g : Nat} {o : Obj} (h : w.heap[g]? = some o) : g < w.heap.size := by
  rcases Nat.lt_or_ge g w.heap.size with hh | hh
  · exact hh
  · rw [Array.getElem?_eq_none hh] at h; cases h
theorem blk_set {w : World} {g : Nat} {cs : Array Value} {t : TypeId} {fz : Nat × Nat} (h : w.heap[g]? = some (.cells cs t fz)) (i : Nat) (u : Value) : (w.setCell ⟨g, i, none⟩ u).heap[g]? = some (.cells (cs.setIfInBounds i u) t fz) := by
  simp [World.setCell, Array.getElem?_modify, h]
theorem blk_new (w : World) (o : Obj) : (w.alloc o).heap[w.heap.size]? = some o := heap_alloc_new w o
theorem blk_cell {w : World} {g : Nat} {cs : Array Value} {t : TypeId} {fz : Nat × Nat} (h : w.heap[g]? = some (.cells cs t fz)) (i : Nat) : w.cell? ⟨g, i, none⟩ = cs[i]? := cell_of_row w g i _ _ _ h
theorem blk_free {w : World} {g : Nat} {cs : Array Value} {t : TypeId} (h : w.heap[g]? = some (.cells cs t (0, 0))) (i : Nat) : w.frozen? ⟨g, i, none⟩ = false := by simp [World.frozen?, h]
end Go.Proofs.YtonhhnedfjonoaaGreatDoor

/- Plain words for memory: slices of records (some cells each). -/
namespace Go.Proofs.YtonhhnedfjonoaaGreatDoor
open Go.RowKit

/-- A kind of records: how many cells, which, and what is known of each. -/
structure Rec (α : Type) where
  sz : Nat
  enc : α → List Value
  ok : α → Prop
  len : ∀ a, (enc a).length = sz
  one : ∀ a, ∀ u ∈ enc a, u.oneCell' = true
  pos : 0 < sz
def flR {α : Type} (R : Rec α) (l : List α) : List Value := l.flatMap R.enc
theorem flR_len {α : Type} (R : Rec α) (l : List α) : (flR R l).length = l.length * R.sz := by
  induction l with
  | nil => simp [flR]
  | cons x r ih => show (R.enc x ++ flR R r).length = _; rw [List.length_append, R.len, ih, List.length_cons, Nat.succ_mul]; omega
theorem flR_cons {α : Type} (R : Rec α) (x : α) (r : List α) : flR R (x :: r) = R.enc x ++ flR R r := rfl
theorem flR_app {α : Type} (R : Rec α) (a b : List α) : flR R (a ++ b) = flR R a ++ flR R b := by unfold flR; rw [List.flatMap_append]
theorem flR_snoc {α : Type} (R : Rec α) (a : List α) (x : α) : flR R (a ++ [x]) = flR R a ++ R.enc x := by rw [flR_app]; simp [flR]
theorem flR_one {α : Type} (R : Rec α) (l : List α) : ∀ u ∈ flR R l, u.oneCell' = true := fun u hu => by
  obtain ⟨x, _, h⟩ := List.mem_flatMap.1 hu
  exact R.one x u h
theorem flR_get {α : Type} (R : Rec α) : ∀ (l : List α) (k : Nat) (hk : k < l.length) (j : Nat), j < R.sz → (flR R l)[k * R.sz + j]? = (R.enc l[k])[j]?
  | [], k, hk, _, _ => absurd hk (by simp)
  | x :: r, 0, _, j, hj => by
    rw [flR_cons, Nat.zero_mul, Nat.zero_add, List.getElem?_append_left (by rw [R.len]; exact hj)]
    rfl
  | x :: r, k + 1, hk, j, hj => by
    have e : (k + 1) * R.sz + j = (k * R.sz + j) + (R.enc x).length := by rw [R.len, Nat.succ_mul]; omega
    rw [flR_cons, e, List.getElem?_append_right (by omega), Nat.add_sub_cancel, flR_get R r k (by simpa using hk) j hj]
    rfl
theorem flR_take {α : Type} (R : Rec α) (l : List α) (n : Nat) : (flR R l).take (n * R.sz) = flR R (l.take n) := by
  induction l generalizing n with
  | nil => simp [flR]
  | cons x r ih =>
    cases n with
    | zero => simp [flR]
    | succ n =>
      have e : (n + 1) * R.sz = (R.enc x).length + n * R.sz := by rw [R.len, Nat.succ_mul]; omega
      rw [flR_cons, e, List.take_length_add_append, ih]
      rfl
/-- A slice of records. -/
def SlR {α : Type} (R : Rec α) (w : World) (r : Option Nat) (v : Value) (l : List α) : Prop := SlD w (Dm w r) R.sz v (flR R l) ∧ ∀ a ∈ l, R.ok a
theorem SlR.fr {α : Type} {R : Rec α} {r : Option Nat} {w w' : World} {v : Value} {l : List α} (h : SlR R w r v l) (f : Fr r w w') : SlR R w' r v l := ⟨h.1.keep (fr_dm f), h.2⟩
theorem SlR.weak {α : Type} {R : Rec α} {r : Option Nat} {w : World} {v : Value} {l : List α} (h : SlR R w r v l) : SlR R w none v l := ⟨h.1.keep dm_none, h.2⟩
theorem SlR.nil {α : Type} (R : Rec α) (w : World) (r : Option Nat) : SlR R w r (.slice none 0 0) [] := ⟨SlD.nil _ _ _, by simp⟩
theorem SlR.len_ {α : Type} {R : Rec α} {n : Nat} {l : List α} (h : (flR R l).length = n * R.sz) : n = l.length := by
  rw [flR_len] at h
  exact (Nat.mul_right_cancel R.pos h).symm
theorem SlR.open_ {α : Type} {R : Rec α} {r : Option Nat} {w : World} {v : Value} {l : List α} (h : SlR R w r v l) :
    ∃ A c, v = .slice A l.length c ∧ l.length ≤ c ∧ c ≤ 9223372036854775807 ∧ (0 < l.length → ∃ b off, A = some ⟨b, off, none⟩ ∧ b < w.heap.size ∧ some b ≠ r ∧ ∀ k (hk : k < l.length) (j : Nat) (u : Value), (R.enc l[k])[j]? = some u → w.cell? ⟨b, off + k * R.sz + j, none⟩ = some u) := by
  obtain ⟨⟨A, n, c, rfl, hl, hc, hm, hx⟩, _⟩ := h
  unfold maxLen at hm
  have e := SlR.len_ hl
  subst e
  refine ⟨A, c, rfl, hc, hm, fun hn => ?_⟩
  obtain ⟨b, off, rfl, hb, hx⟩ := hx hn
  refine ⟨b, off, rfl, hb.1, hb.2, fun k hk j u hu => ?_⟩
  have hj : j < R.sz := by
    have := (List.getElem?_eq_some_iff.1 hu).1
    rwa [R.len] at this
  rw [Nat.add_assoc]
  exact hx _ u ((flR_get R l k hk j hj).trans hu)
theorem SlR.of_own {α : Type} {R : Rec α} {w : World} {base : Nat} {e : TypeId} {v : Value} {n : Nat} {l : List α} {r : Option Nat} (h : w.ownsRow base e R.sz v n (flR R l)) (hr : ∀ g, r = some g → g < base) (hw : ∀ c ∈ l, R.ok c) : SlR R w r v l :=
  ⟨SlD.of_own h hr, hw⟩
theorem SlR.take {α : Type} {R : Rec α} {w : World} {r : Option Nat} {A : Option Addr} {n c : Nat} {l : List α} (h : SlR R w r (.slice A n c) l) (m : Nat) (hm : m ≤ n) : SlR R w r (.slice A m c) (l.take m) :=
  ⟨by have := h.1.take m hm; rwa [flR_take] at this, fun x hx => h.2 x (List.mem_of_mem_take hx)⟩
/-- A literal of records, just laid, and later. -/
theorem SlR.lit {α : Type} {R : Rec α} {w w' : World} {r : Option Nat} (l : List α) (cs : Array Value) (e : TypeId) (hcs : cs = (flR R l).toArray) (hl : l.length ≤ 1000) (hw : ∀ c ∈ l, R.ok c) (hr : ∀ g, r = some g → g < w.heap.size) (f : Fr r (w.alloc (.cells cs e)) w') :
    SlR R w' r (.slice (some ⟨w.heap.size, 0, none⟩) l.length l.length) l := by
  subst hcs
  exact ⟨by simpa using SlD.lit_dm (flR R l).toArray e l.length R.sz (by simpa using flR_len R l) (by unfold maxLen; omega) hr f, hw⟩
/-- A new slice of records is handed back. -/
def NwR {α : Type} (R : Rec α) (l : List α) (w : World) (e : Ending) (w' : World) : Prop := ∃ v, e = .returned v ∧ SlD w' (Dn w.heap.size w') R.sz v (flR R l) ∧ Fr none w w'
theorem NwR.sl {α : Type} {R : Rec α} {l : List α} {w w' : World} {v : Value} (h : SlD w' (Dn w.heap.size w') R.sz v (flR R l)) (hw : ∀ c ∈ l, R.ok c) (r : Option Nat) (hr : ∀ g, r = some g → g < w.heap.size) : SlR R w' r v l := ⟨h.keep (dn_dm hr), hw⟩
/-- Two cells in a block of one's own. -/
def CL2 (w : World) (b : Nat) (x y : Value) (T : TypeId) : Prop := w.heap[b]? = some (.cells #[x, y] T (0, 0))
theorem CL2.fr {w w' : World} {b : Nat} {x y : Value} {T : TypeId} {r : Option Nat} (h : CL2 w b x y T) (f : Fr r w w') (hr : r ≠ some b) : CL2 w' b x y T := blk_fr h f hr
theorem CL2.cell {w : World} {b : Nat} {x y : Value} {T : TypeId} (h : CL2 w b x y T) : w.cell? ⟨b, 0, none⟩ = some x ∧ w.cell? ⟨b, 1, none⟩ = some y := ⟨by rw [blk_cell h]; rfl, by rw [blk_cell h]; rfl⟩
end Go.Proofs.YtonhhnedfjonoaaGreatDoor

/- Plain words: accounts, lines, offers, ledgers, as values and in memory. -/
namespace Go.Proofs.YtonhhnedfjonoaaGreatDoor
open Go.RowKit

def bL (l : List UInt8) : ByteArray := ⟨l.toArray⟩
theorem bL_list (l : List UInt8) : (bL l).data.toList = l := rfl
theorem bL_of (S : ByteArray) : S = bL S.data.toList := by unfold bL; simp
theorem bL_app (a b : List UInt8) : bL a ++ bL b = bL (a ++ b) := by
  apply ByteArray.ext
  simp [bL]
theorem bL_size (l : List UInt8) : (bL l).size = l.length := by simp [bL, ByteArray.size]
theorem bL_tl (l : List UInt8) : (bL l).toList = l := by rw [ByteArray.toList_eq, bL_list]

/-- An asset. -/
structure Ast where
  code : List UInt8
  iss : Int
  deriving DecidableEq
structure Acct where
  id : Int
  bal : Int
  seq : Int
  deriving DecidableEq
structure Ln where
  acc : Int
  ast : Ast
  bal : Int
  lim : Int
  deriving DecidableEq
structure Ofr where
  id : Int
  sel : Int
  sg : Ast
  by_ : Ast
  amt : Int
  num : Int
  den : Int
  deriving DecidableEq
structure Lgr where
  num : Int
  accs : List Acct
  lines : List Ln
  offers : List Ofr
  nid : Int
  fees : Int
  link : Nat
  deriving DecidableEq
def nat : Ast := ⟨[], 0⟩
def accR : Rec Acct := ⟨3, fun a => [.int .i64 a.id, .int .i64 a.bal, .int .i64 a.seq], fun a => Wi a.id ∧ Wi a.bal ∧ Wi a.seq, fun _ => rfl, fun a u hu => by simp at hu; rcases hu with rfl | rfl | rfl <;> rfl, by decide⟩
def lnR : Rec Ln := ⟨5, fun a => [.int .i64 a.acc, .string (bL a.ast.code), .int .i64 a.ast.iss, .int .i64 a.bal, .int .i64 a.lim], fun a => Wi a.acc ∧ Wi a.ast.iss ∧ Wi a.bal ∧ Wi a.lim, fun _ => rfl, fun a u hu => by simp at hu; rcases hu with rfl | rfl | rfl | rfl | rfl <;> rfl, by decide⟩
def ofR : Rec Ofr := ⟨9, fun a => [.int .i64 a.id, .int .i64 a.sel, .string (bL a.sg.code), .int .i64 a.sg.iss, .string (bL a.by_.code), .int .i64 a.by_.iss, .int .i64 a.amt, .int .i64 a.num, .int .i64 a.den], fun a => Wi a.id ∧ Wi a.sel ∧ Wi a.sg.iss ∧ Wi a.by_.iss ∧ Wi a.amt ∧ Wi a.num ∧ Wi a.den, fun _ => rfl, fun a u hu => by simp at hu; rcases hu with rfl | rfl | rfl | rfl | rfl | rfl | rfl | rfl | rfl <;> rfl, by decide⟩
def astR : Rec Ast := ⟨2, fun a => [.string (bL a.code), .int .i64 a.iss], fun a => Wi a.iss, fun _ => rfl, fun a u hu => by simp at hu; rcases hu with rfl | rfl <;> rfl, by decide⟩
/-- The forms for a walk. -/
theorem accR_open {r : Option Nat} {w : World} {v : Value} {l : List Acct} (h : SlR accR w r v l) :
    ∃ A c, v = .slice A l.length c ∧ l.length ≤ c ∧ c ≤ 9223372036854775807 ∧ (0 < l.length → ∃ b off, A = some ⟨b, off, none⟩ ∧ b < w.heap.size ∧ some b ≠ r ∧ ∀ k (hk : k < l.length), w.cell? ⟨b, off + k * 3, none⟩ = some (.int .i64 l[k].id) ∧ w.cell? ⟨b, off + k * 3 + 1, none⟩ = some (.int .i64 l[k].bal) ∧ w.cell? ⟨b, off + k * 3 + 2, none⟩ = some (.int .i64 l[k].seq)) := by
  obtain ⟨A, c, h1, h2, h3, h4⟩ := h.open_
  refine ⟨A, c, h1, h2, h3, fun hn => ?_⟩
  obtain ⟨b, off, e, h5, h6, hx⟩ := h4 hn
  exact ⟨b, off, e, h5, h6, fun k hk => ⟨hx k hk 0 _ rfl, hx k hk 1 _ rfl, hx k hk 2 _ rfl⟩⟩
theorem lnR_open {r : Option Nat} {w : World} {v : Value} {l : List Ln} (h : SlR lnR w r v l) :
    ∃ A c, v = .slice A l.length c ∧ l.length ≤ c ∧ c ≤ 9223372036854775807 ∧ (0 < l.length → ∃ b off, A = some ⟨b, off, none⟩ ∧ b < w.heap.size ∧ some b ≠ r ∧ ∀ k (hk : k < l.length), w.cell? ⟨b, off + k * 5, none⟩ = some (.int .i64 l[k].acc) ∧ w.cell? ⟨b, off + k * 5 + 1, none⟩ = some (.string (bL l[k].ast.code)) ∧ w.cell? ⟨b, off + k * 5 + 2, none⟩ = some (.int .i64 l[k].ast.iss) ∧ w.cell? ⟨b, off + k * 5 + 3, none⟩ = some (.int .i64 l[k].bal) ∧ w.cell? ⟨b, off + k * 5 + 4, none⟩ = some (.int .i64 l[k].lim)) := by
  obtain ⟨A, c, h1, h2, h3, h4⟩ := h.open_
  refine ⟨A, c, h1, h2, h3, fun hn => ?_⟩
  obtain ⟨b, off, e, h5, h6, hx⟩ := h4 hn
  exact ⟨b, off, e, h5, h6, fun k hk => ⟨hx k hk 0 _ rfl, hx k hk 1 _ rfl, hx k hk 2 _ rfl, hx k hk 3 _ rfl, hx k hk 4 _ rfl⟩⟩
theorem ofR_open {r : Option Nat} {w : World} {v : Value} {l : List Ofr} (h : SlR ofR w r v l) :
    ∃ A c, v = .slice A l.length c ∧ l.length ≤ c ∧ c ≤ 9223372036854775807 ∧ (0 < l.length → ∃ b off, A = some ⟨b, off, none⟩ ∧ b < w.heap.size ∧ some b ≠ r ∧ ∀ k (hk : k < l.length), w.cell? ⟨b, off + k * 9, none⟩ = some (.int .i64 l[k].id) ∧ w.cell? ⟨b, off + k * 9 + 1, none⟩ = some (.int .i64 l[k].sel) ∧ w.cell? ⟨b, off + k * 9 + 2, none⟩ = some (.string (bL l[k].sg.code)) ∧ w.cell? ⟨b, off + k * 9 + 3, none⟩ = some (.int .i64 l[k].sg.iss) ∧ w.cell? ⟨b, off + k * 9 + 4, none⟩ = some (.string (bL l[k].by_.code)) ∧ w.cell? ⟨b, off + k * 9 + 5, none⟩ = some (.int .i64 l[k].by_.iss) ∧ w.cell? ⟨b, off + k * 9 + 6, none⟩ = some (.int .i64 l[k].amt) ∧ w.cell? ⟨b, off + k * 9 + 7, none⟩ = some (.int .i64 l[k].num) ∧ w.cell? ⟨b, off + k * 9 + 8, none⟩ = some (.int .i64 l[k].den)) := by
  obtain ⟨A, c, h1, h2, h3, h4⟩ := h.open_
  refine ⟨A, c, h1, h2, h3, fun hn => ?_⟩
  obtain ⟨b, off, e, h5, h6, hx⟩ := h4 hn
  exact ⟨b, off, e, h5, h6, fun k hk => ⟨hx k hk 0 _ rfl, hx k hk 1 _ rfl, hx k hk 2 _ rfl, hx k hk 3 _ rfl, hx k hk 4 _ rfl, hx k hk 5 _ rfl, hx k hk 6 _ rfl, hx k hk 7 _ rfl, hx k hk 8 _ rfl⟩⟩
theorem astR_open {r : Option Nat} {w : World} {v : Value} {l : List Ast} (h : SlR astR w r v l) :
    ∃ A c, v = .slice A l.length c ∧ l.length ≤ c ∧ c ≤ 9223372036854775807 ∧ (0 < l.length → ∃ b off, A = some ⟨b, off, none⟩ ∧ b < w.heap.size ∧ some b ≠ r ∧ ∀ k (hk : k < l.length), w.cell? ⟨b, off + k * 2, none⟩ = some (.string (bL l[k].code)) ∧ w.cell? ⟨b, off + k * 2 + 1, none⟩ = some (.int .i64 l[k].iss)) := by
  obtain ⟨A, c, h1, h2, h3, h4⟩ := h.open_
  refine ⟨A, c, h1, h2, h3, fun hn => ?_⟩
  obtain ⟨b, off, e, h5, h6, hx⟩ := h4 hn
  exact ⟨b, off, e, h5, h6, fun k hk => ⟨hx k hk 0 _ rfl, hx k hk 1 _ rfl⟩⟩
def LgS (w : World) (r : Option Nat) (g : Lgr) (va vl vo : Value) : Prop := SlR accR w r va g.accs ∧ SlR lnR w r vl g.lines ∧ SlR ofR w r vo g.offers ∧ Wi g.num ∧ Wi g.nid ∧ Wi g.fees ∧ g.link < 18446744073709551616
theorem LgS.fr {r : Option Nat} {w w' : World} {g : Lgr} {va vl vo : Value} (h : LgS w r g va vl vo) (f : Fr r w w') : LgS w' r g va vl vo := ⟨h.1.fr f, h.2.1.fr f, h.2.2.1.fr f, h.2.2.2⟩
theorem LgS.weak {r : Option Nat} {w : World} {g : Lgr} {va vl vo : Value} (h : LgS w r g va vl vo) : LgS w none g va vl vo := ⟨h.1.weak, h.2.1.weak, h.2.2.1.weak, h.2.2.2⟩
end Go.Proofs.YtonhhnedfjonoaaGreatDoor

/- Plain: what the reference's functions on amounts, accounts, lines and offers answer. -/
namespace Go.Proofs.YtonhhnedfjonoaaGreatDoor
open Go.RowKit

/-- The first place where p holds; -1 if there is none. -/
def idxP {α : Type} (p : α → Bool) (l : List α) : Int := match l.findIdx? p with
  | some i => (i : Int)
  | none => -1
theorem idxP_at {α : Type} {p : α → Bool} {l : List α} {k : Nat} (hk : k < l.length) (h : p l[k] = true) (hb : ∀ j (hj : j < l.length), j < k → p l[j] = false) : idxP p l = (k : Int) := by
  have : l.findIdx? p = some k := List.findIdx?_eq_some_iff_getElem.2 ⟨hk, h, fun j hj => by rw [hb j (by omega) hj]; simp⟩
  unfold idxP
  rw [this]
theorem idxP_none {α : Type} {p : α → Bool} {l : List α} (hb : ∀ j (hj : j < l.length), p l[j] = false) : idxP p l = -1 := by
  have : l.findIdx? p = none := List.findIdx?_eq_none_iff.2 fun x hx => by
    obtain ⟨j, hj, rfl⟩ := List.getElem_of_mem hx
    exact hb j hj
  unfold idxP
  rw [this]
theorem idxP_cases {α : Type} (p : α → Bool) (l : List α) : (idxP p l = -1 ∧ l.find? p = none) ∨ ∃ k, ∃ hk : k < l.length, idxP p l = (k : Int) ∧ l.find? p = some l[k] ∧ p l[k] = true := by
  unfold idxP
  cases h : l.findIdx? p with
  | none =>
    refine .inl ⟨rfl, List.find?_eq_none.2 fun x hx => ?_⟩
    have := List.findIdx?_eq_none_iff.1 h x hx
    simp [this]
  | some k =>
    obtain ⟨hk, h1, h2⟩ := List.findIdx?_eq_some_iff_getElem.1 h
    refine .inr ⟨k, hk, rfl, ?_, h1⟩
    rw [List.find?_eq_some_iff_getElem]
    exact ⟨h1, k, hk, rfl, fun j hj => by have := h2 j hj; simpa using this⟩
def vAmt (n : Int) : Bool := decide (0 ≤ n ∧ n ≤ 1000000000000)
def vPrc (n d : Int) : Bool := decide (1 ≤ n ∧ n ≤ 1000000 ∧ 1 ≤ d ∧ d ≤ 1000000)
def redP (n d : Int) : Int × Int := if vPrc n d = true then (((n.toNat / Nat.gcd n.toNat d.toNat : Nat) : Int), ((d.toNat / Nat.gcd n.toNat d.toNat : Nat) : Int)) else (0, 0)
def vAst (a : Ast) : Bool := decide (a = nat) || (decide (1 ≤ a.code.length ∧ a.code.length ≤ 4 ∧ 1 ≤ a.iss ∧ a.iss ≤ 1000) && a.code.all fun c => decide (65 ≤ c.toNat ∧ c.toNat ≤ 90))
def ltL (a b : List UInt8) : Bool := Op.bytesLess a b
def ltAst (a b : Ast) : Bool := ltL a.code b.code || (decide (a.code = b.code) && decide (a.iss < b.iss))
/-- Are all places right, where each is looked at with the one before it? -/
def okAll {α : Type} (f : Option α → α → Bool) : Option α → List α → Bool
  | _, [] => true
  | b, x :: r => f b x && okAll f (some x) r
def prevOf {α : Type} (l : List α) (k : Nat) : Option α := if k = 0 then none else l[k - 1]?
theorem okAll_true {α : Type} (f : Option α → α → Bool) : ∀ (l : List α) (b : Option α), (okAll f b l = true ↔ ∀ k (hk : k < l.length), f (if k = 0 then b else l[k - 1]?) l[k] = true)
  | [], b => by simp [okAll]
  | x :: r, b => by
    unfold okAll
    rw [Bool.and_eq_true, okAll_true f r (some x)]
    constructor
    · rintro ⟨h1, h2⟩ k hk
      cases k with
      | zero => simpa using h1
      | succ k =>
        have := h2 k (by simpa using hk)
        cases k with
        | zero => simpa using this
        | succ k => simpa using this
    · intro h
      refine ⟨h 0 (Nat.zero_lt_succ _), fun k hk => ?_⟩
      have := h (k + 1) (by simpa using hk)
      cases k with
      | zero => simpa using this
      | succ k => simpa using this
theorem okAll_all {α : Type} {f : Option α → α → Bool} {l : List α} (h : ∀ k (hk : k < l.length), f (prevOf l k) l[k] = true) : okAll f none l = true := (okAll_true f l none).2 h
theorem okAll_not {α : Type} {f : Option α → α → Bool} {l : List α} {k : Nat} (hk : k < l.length) (h : f (prevOf l k) l[k] = false) : okAll f none l = false := by
  cases e : okAll f none l with
  | false => rfl
  | true =>
    have := (okAll_true f l none).1 e k hk
    unfold prevOf at h
    rw [this] at h
    cases h
def okA1 (a : Acct) : Bool := decide (1 ≤ a.id ∧ a.id ≤ 1000) && (vAmt a.bal && decide (0 ≤ a.seq ∧ a.seq ≤ 1000000))
def okAc (b : Option Acct) (a : Acct) : Bool := okA1 a && (match b with | some b => decide (b.id < a.id) | none => true)
/-- accounts: the error of a list. -/
def chkAc (l : List Acct) : Int := if 20 < l.length then 3 else if okAll okAc none l = true then 0 else 74
def isA (id : Int) (a : Acct) : Bool := decide (a.id = id)
def findA (l : List Acct) (id : Int) : Option Acct := l.find? (isA id)
def befL (x : Ln) (acc : Int) (a : Ast) : Bool := decide (x.acc < acc) || (decide (x.acc = acc) && ltAst x.ast a)
def okLn (accs : List Acct) (b : Option Ln) (x : Ln) : Bool := (findA accs x.acc).isSome && (vAst x.ast && (decide (x.ast ≠ nat) && (decide (x.ast.iss ≠ x.acc) && (vAmt x.lim && (decide (0 ≤ x.bal ∧ x.bal ≤ x.lim) && (match b with | some b => befL b x.acc x.ast | none => true))))))
def chkLn (l : List Ln) (accs : List Acct) : Int := if chkAc accs ≠ 0 then chkAc accs else if 60 < l.length then 3 else if okAll (okLn accs) none l = true then 0 else 74
def isL (acc : Int) (a : Ast) (x : Ln) : Bool := decide (x.acc = acc ∧ x.ast = a)
def findL (l : List Ln) (acc : Int) (a : Ast) : Option Ln := l.find? (isL acc a)
def okOf (g : Lgr) (b : Option Ofr) (o : Ofr) : Bool := (findA g.accs o.sel).isSome && (decide (1 ≤ o.id ∧ o.id < g.nid) && ((match b with | some b => decide (b.id < o.id) | none => true) && (vAst o.sg && (vAst o.by_ && (decide (o.sg ≠ o.by_) && (decide (1 ≤ o.amt) && (vAmt o.amt && decide (redP o.num o.den = (o.num, o.den) ∧ o.num ≠ 0))))))))
def okLg (g : Lgr) : Bool := decide (1 ≤ g.nid ∧ g.nid ≤ 1000000) && (vAmt g.fees && decide (0 ≤ g.num ∧ g.num ≤ 1000000))
def chkOf (g : Lgr) : Int := if chkLn g.lines g.accs ≠ 0 then chkLn g.lines g.accs else if 40 < g.offers.length then 3 else if okLg g = true ∧ okAll (okOf g) none g.offers = true then 0 else 74
def heldC (g : Lgr) (acc : Int) (a : Ast) : Int := if chkLn g.lines g.accs ≠ 0 then 0 else match findA g.accs acc with
  | none => 0
  | some x => if vAst a = false then 0 else if a = nat then x.bal else if a.iss = acc then 1000000000000 else match findL g.lines acc a with
    | some l => l.bal
    | none => 0
def holdsC (g : Lgr) (acc : Int) (a : Ast) : Bool := decide (a = nat) || (decide (a.iss = acc) || (findL g.lines acc a).isSome)
def lg0 : Lgr := ⟨0, [], [], [], 0, 0, 0⟩
def addE (g : Lgr) (s : Int) (sg by_ : Ast) (amt n d : Int) : Int :=
  if chkOf g ≠ 0 then chkOf g else if (findA g.accs s).isSome = false then 67 else if vAst sg = false ∨ vAst by_ = false ∨ sg = by_ then 71 else if amt < 1 ∨ vAmt amt = false ∨ vPrc n d = false then 72 else if holdsC g s sg = false ∨ holdsC g s by_ = false then 70 else if heldC g s sg = 0 then 66 else if g.offers.length = 40 ∨ g.nid = 1000000 then 3 else 0
def addC (g : Lgr) (s : Int) (sg by_ : Ast) (amt n d : Int) : Lgr :=
  { g with offers := g.offers ++ [⟨g.nid, s, sg, by_, amt, (redP n d).1, (redP n d).2⟩], nid := g.nid + 1 }
end Go.Proofs.YtonhhnedfjonoaaGreatDoor

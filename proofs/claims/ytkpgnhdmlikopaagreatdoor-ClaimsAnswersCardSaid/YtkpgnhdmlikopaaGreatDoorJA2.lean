/- Some texts of this claim, joined: contracts of the functions that it reaches, and plain laws. -/
import Derived.Test.YtkpgnhdmlikopaaGreatDoorJA1
import Derived.Deep.RegionHeld3
import Derived.Deep.RegionLaw
import Derived.Deep.RegionWith
import Derived.StillTailTactics
import Derived.Deep.DeepCutAuto
import Derived.Test.YtkpgnhdmlikopaaGreatDoorJA3

set_option linter.unusedSimpArgs false
set_option linter.unusedVariables false
/- append for a walk: onto a row of the call's own, from whatever slice that reads as cells; the value behind it written out. -/
namespace Go.Proofs.YtkpgnhdmlikopaaGreatDoor
open Go.RowKit

/-- What the type table says of a slice type t: its elements' type, cells, bytes. -/
def EInfo (P : Program) (t e : TypeId) (size bytes : Nat) : Prop :=
  ∃ (i : TypeInfo) (z : Value), P.underlying t = some (.slice e) ∧ P.info? e = some i ∧ i.zero = some z ∧ i.size = size ∧ i.bytes = bytes ∧ z.cells.size = size ∧ 0 < size

theorem EInfo.mk_ {P : Program} {t e : TypeId} {z : Value} {size bytes : Nat} (h1 : P.underlying t = some (.slice e)) (h2 : (P.info? e).map (fun i => (i.zero, i.size, i.bytes)) = some (some z, size, bytes)) (h3 : z.cells.size = size) (h4 : 0 < size) :
    EInfo P t e size bytes := by
  obtain ⟨i, a, b, c, d⟩ := info_parts h2
  exact ⟨i, z, h1, a, b, c, d, h3, h4⟩

theorem SlD.any {w : World} {D : Nat → Prop} {size : Nat} {v : Value} {xs : List Value} (h : SlD w D size v xs) : SlD w (fun _ => True) size v xs := h.keep fun _ _ => ⟨trivial, rfl⟩

/-- A literal slice, just laid. -/
theorem SlD.lit (w : World) (cs : Array Value) (e : TypeId) (n size : Nat) (hs : cs.size = n * size) (hn : n ≤ maxLen) :
    SlD (w.alloc (.cells cs e)) (fun _ => True) size (.slice (some ⟨w.heap.size, 0, none⟩) n n) cs.toList :=
  ⟨_, n, n, rfl, by simpa using hs, Nat.le_refl _, hn, fun _ => ⟨_, 0, rfl, trivial, fun j u hu => by
    rw [Nat.zero_add, cell_new]
    simpa using hu⟩⟩

theorem app_run {P : Program} {t e ty : TypeId} {size bytes : Nat} (E : EInfo P t e size bytes) (w : World) (base : Nat) (A : Option Addr) (n c : Nat) (xs : List Value) (hown : w.ownsRow base e size (.slice A n c) n xs)
    (B : Option Addr) (m d : Nat) (news : List Value) (hr : SlD w (fun _ => True) size (.slice B m d) news) (h1 : ∀ u ∈ news, u.oneCell' = true) (hb : (n + m) * bytes ≤ 140737488355328) (h63 : n + m ≤ maxLen) (hbase : base ≤ w.heap.size) :
    ∃ A' c' w', (Builtin.append_ #[t, t] ty #[.slice A n c, .slice B m d]).run P w = .ok (.slice A' (n + m) c') w' ∧ w'.ownsRow base e size (.slice A' (n + m) c') (n + m) (xs ++ news) ∧
      w.grownBy w' (Value.slice A n c).ownBlock ∧ ((Value.slice A' (n + m) c').ownBlock = (Value.slice A n c).ownBlock ∨ (Value.slice A' (n + m) c').ownBlock = some w.heap.size) := by
  obtain ⟨i, z, ht, hi, hz, hsize, hby, hzs, hsz⟩ := E
  obtain ⟨B', m', d', e0, hl, hmd, hd, hx⟩ := hr
  injection e0 with e1 e2 e3
  subst e1 e2 e3
  cases hB : B with
  | none =>
    have hm : m = 0 := by
      rcases Nat.eq_zero_or_pos m with h0 | h0
      · exact h0
      · obtain ⟨b, off, h, _⟩ := hx h0
        rw [hB] at h
        cases h
    subst hm
    have hn : news = [] := List.eq_nil_of_length_eq_zero (by simpa using hl)
    subst hn
    refine ⟨A, c, w, ?_, by simpa using hown, World.grownBy.refl w _, .inl rfl⟩
    rcases hown.2 with ⟨hv, _⟩ | ⟨g, cap, cur, hv, _, _, hnc, _⟩
    · injection hv with v1 v2 v3
      subst v1 v2 v3
      simp [Builtin.append_, run_underlying ht, sizeOf, typeInfo, hi, Builtin.lenOf, Builtin.firstCells]
    · injection hv with v1 v2 v3
      subst v1 v3
      simp [Builtin.append_, run_underlying ht, sizeOf, typeInfo, hi, Builtin.lenOf, Builtin.firstCells, hnc, storeCells]
  | some ad =>
    have hcells : ∀ j u, news[j]? = some u → w.cell? (ad.add j) = some u := by
      intro j u hu
      rcases Nat.eq_zero_or_pos m with h0 | h0
      · subst h0
        have hn : news = [] := List.eq_nil_of_length_eq_zero (by simpa using hl)
        subst hn
        simp at hu
      · obtain ⟨b, off, h, _, hc⟩ := hx h0
        rw [hB] at h
        injection h with h
        subst h
        rw [Addr.add_lit]
        exact hc j u hu
    obtain ⟨v', w', hrun, h2, h3, _, h5⟩ := run_append_own_at (P := P) w base t ty e i z size bytes ht hi hz hsize hby hzs hsz _ n xs hown ad m d news hl hcells h1 h63 hb hbase
    rcases h2.2 with ⟨rfl, e0⟩ | ⟨g, cap, cur, rfl, _⟩
    · have hn0 : n + m = 0 := e0
      rw [hn0] at h2 ⊢
      exact ⟨none, 0, w', hrun, h2, h3, h5⟩
    · exact ⟨_, _, w', hrun, h2, h3, h5⟩

theorem app_any {P : Program} {t e : TypeId} {size bytes : Nat} (E : EInfo P t e size bytes) {w : World} {ops : Array Oper} {rest : List Oper} {o : Oper} {a : Act} {Q : Exit → Act → World → Prop} (hgd : o.guard = none) (s x : Operand)
    (ho : o.op = .call { callee := .builtin .append, args := #[s, x], argTypes := #[t, t] })
    (base : Nat) (A : Option Addr) (n c : Nat) (xs : List Value) (hs : a.eval s = .slice A n c) (hown : w.ownsRow base e size (.slice A n c) n xs)
    (B : Option Addr) (m d : Nat) (news : List Value) (hx : a.eval x = .slice B m d) (hr : SlD w (fun _ => True) size (.slice B m d) news) (h1 : ∀ u ∈ news, u.oneCell' = true) (hb : (n + m) * bytes ≤ 140737488355328) (h63 : n + m ≤ maxLen) (hbase : base ≤ w.heap.size)
    (h : ∀ A' c' w', w'.ownsRow base e size (.slice A' (n + m) c') (n + m) (xs ++ news) → w.grownBy w' (Value.slice A n c).ownBlock →
      ((Value.slice A' (n + m) c').ownBlock = (Value.slice A n c).ownBlock ∨ (Value.slice A' (n + m) c').ownBlock = some w.heap.size) → wpList P ops Q rest (a.put o.dst (.slice A' (n + m) c')) w') :
    wpList P ops Q (o :: rest) a w := by
  refine wpList_plain hgd fun K hK => ?_
  obtain ⟨A', c', w', hr, h2, h3, h4⟩ := app_run (P := P) (ty := o.type) E w base A n c xs hown B m d news hr h1 hb h63 hbase
  unfold Oper.wp execOp
  simp only [ho, resolve, invoke, builtin, Sem.run_bind, Sem.run_pure, Result.andThen_ok, List.map_toArray, List.map_cons, List.map_nil, hs, hx, hr]
  exact hK _ _ (h A' c' w' h2 h3 h4)

/-- The block of v' is that of v, or a new one (number B or greater). -/
def NewOr (B : Nat) (v v' : Value) : Prop := v'.ownBlock = v.ownBlock ∨ ∃ g, v'.ownBlock = some g ∧ B ≤ g

/-- append of a literal (one element or some) that has just been laid in a block of its own. -/
theorem app_lit {P : Program} {t e : TypeId} {size bytes : Nat} (E : EInfo P t e size bytes) {w : World} {ops : Array Oper} {rest : List Oper} {o : Oper} {a : Act} {Q : Exit → Act → World → Prop} (hgd : o.guard = none) (s x : Operand)
    (ho : o.op = .call { callee := .builtin .append, args := #[s, x], argTypes := #[t, t] })
    (base : Nat) (A : Option Addr) (n c : Nat) (xs : List Value) (hs : a.eval s = .slice A n c) (hown : w.ownsRow base e size (.slice A n c) n xs)
    (m : Nat) (cs : List Value) (e' : TypeId) (bk : Nat) (hx : a.eval x = .slice (some ⟨bk, 0, none⟩) m m) (hbk : w.heap.size = bk) (hcs : cs.length = m * size) (h1 : ∀ u ∈ cs, u.oneCell' = true) (hb : (n + m) * bytes ≤ 140737488355328) (h63 : n + m ≤ maxLen) (hbase : base ≤ w.heap.size)
    (h : ∀ A' c' w', w'.ownsRow base e size (.slice A' (n + m) c') (n + m) (xs ++ cs) → Fr (Value.slice A n c).ownBlock w w' → NewOr w.heap.size (.slice A n c) (.slice A' (n + m) c') → wpList P ops Q rest (a.put o.dst (.slice A' (n + m) c')) w') :
    wpList P ops Q (o :: rest) a (w.alloc (.cells cs.toArray e')) := by
  subst hbk
  refine app_any E hgd s x ho base A n c xs hs (hown.alloc _) _ m m cs hx (by simpa using SlD.lit w cs.toArray e' m size (by simpa using hcs) (by omega)) h1 hb h63 (by simp; omega) ?_
  intro A' c' w' own' gr' bl'
  refine h A' c' w' own' (((Fr.refl _ w).alloc _).same gr') ?_
  rcases bl' with bl' | bl'
  · exact .inl bl'
  · exact .inr ⟨_, bl', by simp⟩

/-- The same as a step of a region that draws its order. -/
theorem step_app_lit {P : Program} {t e : TypeId} {size bytes : Nat} (E : EInfo P t e size bytes) {w : World} {ops : Array Oper} {o : Oper} {a : Act} {K : Act → World → Prop} {Q : Exit → Act → World → Prop} {E' : Prop} (hgd : o.guard = none) (s x : Operand)
    (ho : o.op = .call { callee := .builtin .append, args := #[s, x], argTypes := #[t, t] })
    (base : Nat) (A : Option Addr) (n c : Nat) (xs : List Value) (hs : a.eval s = .slice A n c) (hown : w.ownsRow base e size (.slice A n c) n xs)
    (m : Nat) (cs : List Value) (e' : TypeId) (bk : Nat) (hx : a.eval x = .slice (some ⟨bk, 0, none⟩) m m) (hbk : w.heap.size = bk) (hcs : cs.length = m * size) (h1 : ∀ u ∈ cs, u.oneCell' = true) (hb : (n + m) * bytes ≤ 140737488355328) (h63 : n + m ≤ maxLen) (hbase : base ≤ w.heap.size)
    (h : ∀ A' c' w', w'.ownsRow base e size (.slice A' (n + m) c') (n + m) (xs ++ cs) → Fr (Value.slice A n c).ownBlock w w' → NewOr w.heap.size (.slice A n c) (.slice A' (n + m) c') → K (a.put o.dst (.slice A' (n + m) c')) w') :
    if Region.wanted o (yielded ops a.tmps) = true then Oper.wp P o a (w.alloc (.cells cs.toArray e')) K Q else E' := by
  have hw : Region.wanted o (yielded ops a.tmps) = true := by simp [Region.wanted, hgd]
  rw [if_pos hw]
  subst hbk
  obtain ⟨A', c', w', hr, h2, h3, h4⟩ := app_run (P := P) (ty := o.type) E (w.alloc (.cells cs.toArray e')) base A n c xs (hown.alloc _) _ m m cs (by simpa using SlD.lit w cs.toArray e' m size (by simpa using hcs) (by omega)) h1 hb h63 (by simp; omega)
  unfold Oper.wp execOp
  simp only [ho, resolve, invoke, builtin, Sem.run_bind, Sem.run_pure, Result.andThen_ok, List.map_toArray, List.map_cons, List.map_nil, hs, hx, hr]
  refine h A' c' w' h2 (((Fr.refl _ w).alloc _).same h3) ?_
  rcases h4 with bl' | bl'
  · exact .inl bl'
  · exact .inr ⟨_, bl', by simp⟩

/-- What is owned, and whatever else, over a frame: an own row stays while only other blocks change. -/
theorem own_fr {w w' : World} {base : Nat} {e : TypeId} {size n : Nat} {v : Value} {xs : List Value} {r : Option Nat} (h : w.ownsRow base e size v n xs) (f : Fr r w w') (hr : ∀ g, r = some g → g < base) : w'.ownsRow base e size v n xs := by
  refine h.kept f ?_
  cases hv : v.ownBlock with
  | none => exact .inl rfl
  | some k =>
    refine .inr fun e => ?_
    have := (h.lt k hv).1
    have := hr k e.symm
    omega
theorem own_blk_ge {w : World} {base : Nat} {e : TypeId} {size n : Nat} {v : Value} {xs : List Value} (h : w.ownsRow base e size v n xs) : ∀ g, v.ownBlock = some g → base ≤ g := fun g hg => (h.lt g hg).1

theorem own_ne {w : World} {base : Nat} {e : TypeId} {size n : Nat} {v : Value} {xs : List Value} (h : w.ownsRow base e size v n xs) {g : Nat} (hg : g < base) : v.ownBlock ≠ some g := fun e => by
  have := own_blk_ge h g e; omega
theorem blk_new_at {w : World} {n : Nat} (h : n = w.heap.size) (o : Obj) : (w.alloc o).heap[n]? = some o := by subst h; exact heap_alloc_new w o

/-- The blocks from B on. -/
def Dn (B : Nat) (w : World) : Nat → Prop := fun b => B ≤ b ∧ b < w.heap.size
theorem dn_fr {B : Nat} {r : Option Nat} {w w' : World} (f : Fr r w w') (hr : ∀ g, r = some g → g < B) : ∀ k, Dn B w k → Dn B w' k ∧ w'.heap[k]? = w.heap[k]? :=
  fun k hk => ⟨⟨hk.1, Nat.lt_of_lt_of_le hk.2 f.size⟩, f.block k hk.2 (fun e => by have := hr k e.symm; have := hk.1; omega)⟩
theorem SlD.own_dn {w : World} {base : Nat} {e : TypeId} {size : Nat} {v : Value} {n : Nat} {xs : List Value} (h : w.ownsRow base e size v n xs) : SlD w (Dn base w) size v xs := by
  obtain ⟨hl, h2⟩ := h
  have h0 : w.ownsRow base e size v n xs := ⟨hl, h2⟩
  rcases h2 with ⟨rfl, rfl⟩ | ⟨g, cap, cur, rfl, hg, hh, hnc, hm, hs, ht⟩
  · exact ⟨none, 0, 0, rfl, hl, by omega, by unfold maxLen; omega, by omega⟩
  · refine ⟨_, n, cap, rfl, hl, hnc, hm, fun hn => ⟨g, 0, rfl, ⟨hg, (h0.lt g rfl).2⟩, fun j u hu => ?_⟩⟩
    have := h0.cells (g := g) rfl j u hu
    rw [Addr.add_lit] at this
    exact this
theorem SlD.lit_dn {w w' : World} (cs : Array Value) (e : TypeId) (n size B : Nat) (hs : cs.size = n * size) (hn : n ≤ maxLen) (hB : B ≤ w.heap.size) (f : Fr none (w.alloc (.cells cs e)) w') :
    SlD w' (Dn B w') size (.slice (some ⟨w.heap.size, 0, none⟩) n n) cs.toList := by
  have hz := f.size
  simp only [World.size_alloc] at hz
  exact ⟨_, n, n, rfl, by simpa using hs, Nat.le_refl _, hn, fun _ => ⟨_, 0, rfl, ⟨hB, by omega⟩, fun j u hu => by
    rw [Nat.zero_add, f.cell (by simp) (by simp), cell_new]
    simpa using hu⟩⟩
theorem dn_dm {B : Nat} {r : Option Nat} {w : World} (hr : ∀ g, r = some g → g < B) : ∀ k, Dn B w k → Dm w r k ∧ w.heap[k]? = w.heap[k]? :=
  fun k hk => ⟨⟨hk.2, fun e => by have := hr k e.symm; have := hk.1; omega⟩, rfl⟩

theorem SlD.lit_dm {w w' : World} {r : Option Nat} (cs : Array Value) (e : TypeId) (n size : Nat) (hs : cs.size = n * size) (hn : n ≤ maxLen) (hr : ∀ g, r = some g → g < w.heap.size) (f : Fr r (w.alloc (.cells cs e)) w') :
    SlD w' (Dm w' r) size (.slice (some ⟨w.heap.size, 0, none⟩) n n) cs.toList := by
  have hz := f.size
  simp only [World.size_alloc] at hz
  have hne : some w.heap.size ≠ r := fun h => by have := hr _ h.symm; omega
  exact ⟨_, n, n, rfl, by simpa using hs, Nat.le_refl _, hn, fun _ => ⟨_, 0, rfl, ⟨by omega, hne⟩, fun j u hu => by
    rw [Nat.zero_add, f.cell (by simp) hne, cell_new]
    simpa using hu⟩⟩

theorem dn_mono {B B' : Nat} {w : World} (h : B ≤ B') : ∀ k, Dn B' w k → Dn B w k ∧ w.heap[k]? = w.heap[k]? := fun _k hk => ⟨⟨Nat.le_trans h hk.1, hk.2⟩, rfl⟩

/-- The blocks from B on that are not the row of v. -/
def Dx (B : Nat) (w : World) (v : Value) : Nat → Prop := fun b => B ≤ b ∧ b < w.heap.size ∧ v.ownBlock ≠ some b
theorem dx_app {B : Nat} {w w' : World} {v v' : Value} (f : Fr v.ownBlock w w') (nb : NewOr w.heap.size v v') : ∀ k, Dx B w v k → Dx B w' v' k ∧ w'.heap[k]? = w.heap[k]? := fun k hk => by
  refine ⟨⟨hk.1, Nat.lt_of_lt_of_le hk.2.1 f.size, fun e => ?_⟩, f.block k hk.2.1 (fun e => hk.2.2 e.symm)⟩
  rcases nb with h | ⟨g, h, hg⟩
  · rw [h] at e; exact hk.2.2 e
  · rw [h] at e; injection e with e; have := hk.2.1; omega
theorem dx_fr {B : Nat} {w w' : World} {v : Value} {r : Option Nat} (f : Fr r w w') (hr : ∀ g, r = some g → g < B) : ∀ k, Dx B w v k → Dx B w' v k ∧ w'.heap[k]? = w.heap[k]? := fun k hk =>
  ⟨⟨hk.1, Nat.lt_of_lt_of_le hk.2.1 f.size, hk.2.2⟩, f.block k hk.2.1 (fun e => by have := hr k e.symm; have := hk.1; omega)⟩
theorem dn_dx {B B' : Nat} {w : World} {v : Value} (h : B ≤ B') (hv : ∀ g, v.ownBlock = some g → g < B') : ∀ k, Dn B' w k → Dx B w v k ∧ w.heap[k]? = w.heap[k]? := fun k hk =>
  ⟨⟨Nat.le_trans h hk.1, hk.2, fun e => by have := hv k e; have := hk.1; omega⟩, rfl⟩
theorem dx_dn {B : Nat} {w : World} {v : Value} : ∀ k, Dx B w v k → Dn B w k ∧ w.heap[k]? = w.heap[k]? := fun _k hk => ⟨⟨hk.1, hk.2.1⟩, rfl⟩

theorem fr_fill3 (w : World) (b : Nat) (x y z : Value) : Fr (some b) w (((w.setCell ⟨b, 0, none⟩ x).setCell ⟨b, 1, none⟩ y).setCell ⟨b, 2, none⟩ z) :=
  Fr.setRow (p := ⟨b, 2, none⟩) (Fr.setRow (p := ⟨b, 1, none⟩) (Fr.set1 w ⟨b, 0, none⟩ x) rfl y) rfl z

/-- A block known whole. -/
theorem blk_fr {w w' : World} {g : Nat} {o : Obj} {r : Option Nat} (h : w.heap[g]? = some o) (f : Fr r w w') (hr : r ≠ some g) : w'.heap[g]? = some o := by
  rw [f.block g ?_ (fun e => hr e.symm)]
  · exact h
  · rcases Nat.lt_or_ge g w.heap.size with hh | hh
    · exact hh
    · rw [Array.getElem?_eq_none hh] at h; cases h
theorem blk_lt {w : World} {g : Nat} {o : Obj} (h : w.heap[g]? = some o) : g < w.heap.size := by
  rcases Nat.lt_or_ge g w.heap.size with hh | hh
  · exact hh
  · rw [Array.getElem?_eq_none hh] at h; cases h
theorem blk_set {w : World} {g : Nat} {cs : Array Value} {t : TypeId} {fz : Nat × Nat} (h : w.heap[g]? = some (.cells cs t fz)) (i : Nat) (u : Value) : (w.setCell ⟨g, i, none⟩ u).heap[g]? = some (.cells (cs.setIfInBounds i u) t fz) := by
  simp [World.setCell, Array.getElem?_modify, h]
theorem blk_new (w : World) (o : Obj) : (w.alloc o).heap[w.heap.size]? = some o := heap_alloc_new w o
theorem blk_cell {w : World} {g : Nat} {cs : Array Value} {t : TypeId} {fz : Nat × Nat} (h : w.heap[g]? = some (.cells cs t fz)) (i : Nat) : w.cell? ⟨g, i, none⟩ = cs[i]? := cell_of_row w g i _ _ _ h
theorem blk_free {w : World} {g : Nat} {cs : Array Value} {t : TypeId} (h : w.heap[g]? = some (.cells cs t (0, 0))) (i : Nat) : w.frozen? ⟨g, i, none⟩ = false := by simp [World.frozen?, h]
theorem blk_drewN {w : World} {g : Nat} {o : Obj} (h : w.heap[g]? = some o) (n : Nat) : (w.drewN n).heap[g]? = some o := h
end Go.Proofs.YtkpgnhdmlikopaaGreatDoor

/- Plain words for memory: lists of claims (two cells each). -/
namespace Go.Proofs.YtkpgnhdmlikopaaGreatDoor
open Go.RowKit

def encC (c : Cl) : List Value := [.int .i64 c.1, .int .i64 c.2]
def flC (l : List Cl) : List Value := l.flatMap encC
def Wc (c : Cl) : Prop := Wi c.1 ∧ Wi c.2
/-- A slice of claims. -/
def SlC (w : World) (r : Option Nat) (v : Value) (l : List Cl) : Prop := SlD w (Dm w r) 2 v (flC l) ∧ ∀ c ∈ l, Wc c
theorem flC_len (l : List Cl) : (flC l).length = l.length * 2 := by
  induction l with
  | nil => rfl
  | cons x r ih => show (encC x ++ flC r).length = _; rw [List.length_append, ih]; simp only [encC, List.length_cons, List.length_nil]; omega
theorem flC_nil : flC [] = [] := rfl
theorem flC_cons (x : Cl) (r : List Cl) : flC (x :: r) = .int .i64 x.1 :: .int .i64 x.2 :: flC r := rfl
theorem flC_app (a b : List Cl) : flC (a ++ b) = flC a ++ flC b := by unfold flC; rw [List.flatMap_append]
theorem flC_snoc (a : List Cl) (x : Cl) : flC (a ++ [x]) = flC a ++ [.int .i64 x.1, .int .i64 x.2] := by rw [flC_app]; rfl
theorem flC_get : ∀ (l : List Cl) (k : Nat) (hk : k < l.length), (flC l)[k * 2]? = some (.int .i64 l[k].1) ∧ (flC l)[k * 2 + 1]? = some (.int .i64 l[k].2)
  | [], k, hk => absurd hk (by simp)
  | x :: r, 0, _ => ⟨rfl, rfl⟩
  | x :: r, k + 1, hk => by
    have := flC_get r k (by simpa using hk)
    rw [flC_cons, show (k + 1) * 2 = k * 2 + 1 + 1 by omega]
    simpa using this
theorem flC_set : ∀ (l : List Cl) (k : Nat) (x : Cl), k < l.length → ((flC l).set (k * 2) (.int .i64 x.1)).set (k * 2 + 1) (.int .i64 x.2) = flC (l.set k x)
  | [], k, _, hk => absurd hk (by simp)
  | y :: r, 0, x, _ => rfl
  | y :: r, k + 1, x, hk => by
    have := flC_set r k x (by simpa using hk)
    rw [flC_cons, show (k + 1) * 2 = k * 2 + 1 + 1 by omega]
    simp only [List.set_cons_succ, flC_cons]
    rw [this]
theorem flC_take (l : List Cl) (n : Nat) : (flC l).take (n * 2) = flC (l.take n) := by
  induction l generalizing n with
  | nil => simp [flC]
  | cons x r ih =>
    cases n with
    | zero => simp [flC]
    | succ n => rw [show (n + 1) * 2 = n * 2 + 1 + 1 by omega, flC_cons]; simp only [List.take_succ_cons, flC_cons, ih]
theorem flC_one (l : List Cl) : ∀ u ∈ flC l, u.oneCell' = true := by
  induction l with
  | nil => intro u hu; cases hu
  | cons x r ih =>
    intro u hu
    rw [flC_cons] at hu
    rcases List.mem_cons.1 hu with rfl | hu
    · rfl
    · rcases List.mem_cons.1 hu with rfl | hu
      · rfl
      · exact ih u hu

theorem SlC.fr {r : Option Nat} {w w' : World} {v : Value} {l : List Cl} (h : SlC w r v l) (f : Fr r w w') : SlC w' r v l := ⟨h.1.keep (fr_dm f), h.2⟩
theorem SlC.weak {r : Option Nat} {w : World} {v : Value} {l : List Cl} (h : SlC w r v l) : SlC w none v l := ⟨h.1.keep dm_none, h.2⟩
theorem SlC.nil (w : World) (r : Option Nat) : SlC w r (.slice none 0 0) [] := ⟨SlD.nil _ _ _, by simp⟩
theorem SlC.fresh {w w' : World} {g : Nat} {v : Value} {l : List Cl} (h : SlC w none v l) (f : Fr none w w') (hg : w.heap.size ≤ g) : SlC w' (some g) v l := ⟨h.1.keep (fr_fresh f hg), h.2⟩
theorem SlC.open_ {r : Option Nat} {w : World} {v : Value} {l : List Cl} (h : SlC w r v l) :
    ∃ A c, v = .slice A l.length c ∧ l.length ≤ c ∧ c ≤ 9223372036854775807 ∧ (0 < l.length → ∃ b off, A = some ⟨b, off, none⟩ ∧ b < w.heap.size ∧ some b ≠ r ∧ ∀ k (hk : k < l.length), w.cell? ⟨b, off + k * 2, none⟩ = some (.int .i64 l[k].1) ∧ w.cell? ⟨b, off + k * 2 + 1, none⟩ = some (.int .i64 l[k].2)) := by
  obtain ⟨⟨A, n, c, rfl, hl, hc, hm, hx⟩, _⟩ := h
  unfold maxLen at hm
  have e : n = l.length := by rw [flC_len] at hl; omega
  subst e
  refine ⟨A, c, rfl, hc, hm, fun hn => ?_⟩
  obtain ⟨b, off, rfl, hb, hx⟩ := hx hn
  exact ⟨b, off, rfl, hb.1, hb.2, fun k hk => ⟨hx (k * 2) _ (flC_get l k hk).1, by rw [Nat.add_assoc]; exact hx (k * 2 + 1) _ (flC_get l k hk).2⟩⟩
theorem SlC.of_own {w : World} {base : Nat} {e : TypeId} {v : Value} {n : Nat} {l : List Cl} {r : Option Nat} (h : w.ownsRow base e 2 v n (flC l)) (hr : ∀ g, r = some g → g < base) (hw : ∀ c ∈ l, Wc c) : SlC w r v l :=
  ⟨SlD.of_own h hr, hw⟩
theorem SlC.own_len {w : World} {base : Nat} {e : TypeId} {v : Value} {n : Nat} {l : List Cl} (h : w.ownsRow base e 2 v n (flC l)) : l.length = n := by
  have := h.1
  rw [flC_len] at this
  omega
theorem SlC.wc {w : World} {r : Option Nat} {v : Value} {l : List Cl} (h : SlC w r v l) (k : Nat) (hk : k < l.length) : Wc l[k] := h.2 _ (List.getElem_mem hk)
/-- A literal of claims, just laid, and later. -/
theorem SlC.lit {w w' : World} {r : Option Nat} (l : List Cl) (cs : Array Value) (e : TypeId) (hcs : cs = (flC l).toArray) (hl : l.length ≤ 1000) (hw : ∀ c ∈ l, Wc c) (hr : ∀ g, r = some g → g < w.heap.size) (f : Fr r (w.alloc (.cells cs e)) w') :
    SlC w' r (.slice (some ⟨w.heap.size, 0, none⟩) l.length l.length) l := by
  subst hcs
  exact ⟨by simpa using SlD.lit_dm (flC l).toArray e l.length 2 (by simpa using flC_len l) (by unfold maxLen; omega) hr f, hw⟩
/-- Two cells in a block of one's own. -/
def CB2 (w : World) (b : Nat) (x y : Value) (T : TypeId) : Prop := w.heap[b]? = some (.cells #[x, y] T (0, 0))
theorem CB2.fr {w w' : World} {b : Nat} {x y : Value} {T : TypeId} {r : Option Nat} (h : CB2 w b x y T) (f : Fr r w w') (hr : r ≠ some b) : CB2 w' b x y T := blk_fr h f hr
theorem CB2.cell {w : World} {b : Nat} {x y : Value} {T : TypeId} (h : CB2 w b x y T) : w.cell? ⟨b, 0, none⟩ = some x ∧ w.cell? ⟨b, 1, none⟩ = some y := ⟨by rw [blk_cell h]; rfl, by rw [blk_cell h]; rfl⟩
theorem CB2.free {w : World} {b : Nat} {x y : Value} {T : TypeId} (h : CB2 w b x y T) : w.frozen? ⟨b, 0, none⟩ = false ∧ w.frozen? ⟨b, 1, none⟩ = false := ⟨blk_free h _, blk_free h _⟩
end Go.Proofs.YtkpgnhdmlikopaaGreatDoor

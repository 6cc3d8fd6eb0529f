/- Some texts of this claim, joined: contracts of the functions that it reaches, and plain laws. -/
import Derived.Test.YtpdhckbiioobhaaGreatDoorProg
import Derived.Test.YtpdhckbiioobhaaGreatDoorJG15
import Derived.Test.YtpdhckbiioobhaaGreatDoorJG2
import Derived.Test.YtpdhckbiioobhaaGreatDoorJG11
import Derived.Test.YtpdhckbiioobhaaGreatDoorShelf
import Derived.Sort.OwnSortedInts
import Derived.Shelf.Slices.In.SortNone
import Derived.Test.YtpdhckbiioobhaaGreatDoorJG18
import Derived.Test.YtpdhckbiioobhaaGreatDoorJG23

set_option linter.unusedSimpArgs false
set_option linter.unusedVariables false
/- Walks: slices.SortFunc on inner trusts, by normal.Compare. -/
namespace Go.Proofs.YtpdhckbiioobhaaGreatDoor
open Go.RowKit Go.Sort

theorem world_ext {a b : World} (h1 : a.heap = b.heap) (h2 : a.tape = b.tape) (h3 : a.drawn = b.drawn) (h4 : a.os = b.os) (h5 : a.output = b.output) : a = b := by
  cases a; cases b; simp_all
/-- What only draws and lays: the world grown. -/
theorem fr_growS {w w' : World} (F : Fr none w w') (hd : w.drawn ≤ w'.drawn) : ∃ q os, w' = Sort.grow (w.drewN q) os := by
  have f1 := World.grownBy.tape F
  have f2 := World.grownBy.os F
  have f3 := World.grownBy.output F
  refine ⟨w'.drawn - w.drawn, w'.heap.extract w.heap.size w'.heap.size, world_ext ?_ f1 ?_ f2 f3⟩
  · show w'.heap = w.heap ++ w'.heap.extract w.heap.size w'.heap.size
    have hz := F.size
    refine Array.ext_getElem? (fun k => ?_)
    by_cases hk : k < w.heap.size
    · rw [Array.getElem?_append_left hk]
      exact F.block k hk (by simp)
    · rw [Array.getElem?_append_right (by omega), Array.getElem?_extract]
      by_cases h2 : k < w'.heap.size
      · rw [if_pos (by omega)]
        congr 1; omega
      · rw [if_neg (by omega)]
        exact Array.getElem?_eq_none (by omega)
  · show w'.drawn = w.drawn + (w'.drawn - w.drawn)
    omega
theorem fr_sortK {α : Type} [Inhabited α] (enc : α → List Value) (k : Nat) (w : World) (g m : Nat) (dk : Array α) (os : Array Obj) : Fr (some g) w (sortWorldK enc k w g 0 m dk os) := by
  refine ⟨rfl, rfl, rfl, size_sortWorldK_c enc k w g 0 m dk os, fun i hi hne => ?_⟩
  unfold sortWorldK putRowK
  rw [heap_grow_old _ _ (by simpa [Sort.ahead, putRow, mapBlock] using hi)]
  have : g ≠ i := fun e => hne (by rw [e])
  simp [putRow, mapBlock, Sort.ahead, Array.getElem?_modify, this]
/-- A trust with its three cells. -/
def CelT (w : World) (D : Nat → Prop) : Type := { p : Tr × Value × Value × Value // TrD w D (.agg #[p.2.1, p.2.2.1, p.2.2.2]) p.1 }
def CelT.tr {w : World} {D : Nat → Prop} (x : CelT w D) : Tr := x.1.1
def CelT.enc {w : World} {D : Nat → Prop} (x : CelT w D) : List Value := [x.1.2.1, x.1.2.2.1, x.1.2.2.2]
theorem CelT.ok {w : World} {D : Nat → Prop} (x : CelT w D) : TrD w D (.agg x.enc.toArray) x.tr := x.2
theorem trs_cel {w : World} {D : Nat → Prop} : ∀ (i : List Tr) (cells : List Value), TrsD w D cells i → ∃ l : List (CelT w D), i = l.map CelT.tr ∧ cells = l.flatMap CelT.enc
  | [], cells, h => ⟨[], rfl, by simp only [TrsD] at h; simpa using h⟩
  | x :: r, cells, h => by
    simp only [TrsD] at h
    obtain ⟨a, b, c, rest, rfl, hx, hr⟩ := h
    obtain ⟨l, e1, e2⟩ := trs_cel r rest hr
    exact ⟨⟨(x, a, b, c), hx⟩ :: l, by rw [e1]; rfl, by rw [e2]; rfl⟩
theorem cel_trs {w w' : World} {D D' : Nat → Prop} (hD : ∀ k, D k → D' k ∧ w'.heap[k]? = w.heap[k]?) : ∀ l : List (CelT w D), TrsD w' D' (l.flatMap CelT.enc) (l.map CelT.tr)
  | [] => by simp [TrsD]
  | x :: r => by
    simp only [List.map_cons, TrsD]
    exact ⟨x.1.2.1, x.1.2.2.1, x.1.2.2.2, r.flatMap CelT.enc, rfl, TrD.keep hD _ _ x.2, cel_trs hD r⟩
theorem cel_len {w : World} {D : Nat → Prop} (l : List (CelT w D)) : (l.flatMap CelT.enc).length = l.length * 3 := by
  induction l with
  | nil => rfl
  | cons x r ih => simp only [List.flatMap_cons, List.length_append, ih, List.length_cons]; show 3 + _ = _; omega
/-- The cells of a list, and its flat row. -/
theorem flat_get {w : World} {D : Nat → Prop} [Inhabited (CelT w D)] : ∀ (l : List (CelT w D)) (j : Nat), j < l.length * 3 → (l.flatMap CelT.enc)[j]? = some ((l.toArray[j / 3]!).enc[j % 3]!)
  | [], j, h => by simp at h
  | x :: r, j, h => by
    by_cases h3 : j < 3
    · have hj : j = 0 ∨ j = 1 ∨ j = 2 := by omega
      rcases hj with rfl | rfl | rfl <;> rfl
    · obtain ⟨k, rfl⟩ : ∃ k, j = k + 3 := ⟨j - 3, by omega⟩
      have e1 : ((x :: r).flatMap CelT.enc)[k + 3]? = (r.flatMap CelT.enc)[k]? := rfl
      have e2 : (k + 3) / 3 = k / 3 + 1 := by omega
      have e3 : (k + 3) % 3 = k % 3 := by omega
      rw [e1, flat_get r k (by simp at h; omega), e2, e3]
      have h4 : k / 3 < r.length := by simp at h; omega
      simp [h4]
theorem trs_one {w : World} {D : Nat → Prop} (x : CelT w D) : ∀ v ∈ x.enc, v.oneCell' = true := by
  obtain ⟨t, A1, n1, c1, A2, n2, c2, e⟩ := x.ok.shape
  have e' : x.enc = [.int .i64 t, .slice A1 n1 c1, .slice A2 n2 c2] := by
    injection e with e; injection e
  rw [e']
  simp [Value.oneCell']
/-- Rows of trusts, sorted. -/
def cfC {w : World} {D : Nat → Prop} (x y : CelT w D) : Int := cmpT x.tr y.tr
theorem swoC {w : World} {D : Nat → Prop} : Sort.SWO (ltOf (cfC (w := w) (D := D))) where
  irrefl x := by simp [ltOf, cfC, cmpT_self]
  trans x y z h1 h2 := by
    simp only [ltOf, decide_eq_true_eq] at *
    simp only [cfC] at *
    have n1 := cmpT_neg x.tr y.tr
    have n2 := cmpT_neg y.tr z.tr
    have n3 := cmpT_neg x.tr z.tr
    by_cases h : cmpT x.tr z.tr < 0
    · exact h
    · have := cmpT_trans y.tr z.tr x.tr (by omega) (by omega)
      omega
  ntrans x y z h1 h2 := by
    simp only [ltOf, decide_eq_false_iff_not] at *
    simp only [cfC] at *
    have n1 := cmpT_neg x.tr y.tr
    have n2 := cmpT_neg y.tr z.tr
    have n3 := cmpT_neg x.tr z.tr
    have := cmpT_trans z.tr y.tr x.tr (by omega) (by omega)
    omega
set_option maxRecDepth 100000 in
theorem sortI_any (i : List Tr) (A : Option Addr) (c : Nat) (cells : List Value) (base : Nat) (w : World) (D : Nat → Prop) (own : w.ownsRow base 31 3 (.slice A i.length c) i.length cells) (hD : ∀ b, D b → b < w.heap.size ∧ (Value.slice A i.length c).ownBlock ≠ some b) (ht : TrsD w D cells i) (hil : i.length ≤ 900000) :
    Calls Tryz.prog 138 #[.slice A i.length c, .func (.func 29) #[] #[]] w fun e w' => e = .returned (.tuple #[]) ∧ ∃ cells', SlD w' (fun b => (Value.slice A i.length c).ownBlock = some b) 3 (.slice A i.length c) cells' ∧ TrsD w' D cells' (sortT i) ∧ Fr (Value.slice A i.length c).ownBlock w w' := by
  obtain ⟨Y2, mm, d2, e2, r1, r2, r3, r4⟩ := SlD.own_eq own
  injection e2 with a1 a2 a3
  subst a1 a2 a3
  obtain ⟨l, rfl, rfl⟩ := trs_cel i cells ht
  have hlen : (l.map CelT.tr).length = l.length := by simp
  rcases Nat.eq_zero_or_pos l.length with h0 | h0
  · obtain rfl := List.eq_nil_of_length_eq_zero h0
    refine (Tryz.slices_SortFunc_none_Trust (α := Int) A c _ w).mono ?_
    rintro e w' ⟨rfl, rfl⟩
    exact ⟨rfl, [], ⟨A, 0, c, rfl, rfl, Nat.zero_le _, r3, fun h => absurd h (by omega)⟩, by simp [TrsD, sortT], Fr.refl _ _⟩
  · obtain ⟨x0, l0, rfl⟩ : ∃ x0 l0, l = x0 :: l0 := by
      cases l with
      | nil => simp at h0
      | cons a r => exact ⟨a, r, rfl⟩
    haveI : Inhabited (CelT w D) := ⟨x0⟩
    generalize x0 :: l0 = l at *
    obtain ⟨g, off, rfl, ⟨hg1, hg2, hg3⟩, hcc⟩ := r4 (by omega)
    obtain ⟨g', cap, cur, e, hbg, hh, hnc, hm, hs, hk⟩ : ∃ g' cap cur, Value.slice (some ⟨g, off, none⟩) (l.map CelT.tr).length c = .slice (some ⟨g', 0, none⟩) (l.map CelT.tr).length cap ∧ base ≤ g' ∧ w.heap[g']? = some (.cells cur 31 (0, 0)) ∧ (l.map CelT.tr).length ≤ cap ∧ cap ≤ maxLen ∧ cur.size = cap * 3 ∧ cur.toList.take ((l.map CelT.tr).length * 3) = l.flatMap CelT.enc := by
      rcases own.2 with ⟨h, _⟩ | h
      · cases h
      · exact h
    injection e with e1 e2 e3
    injection e1 with e1
    injection e1 with e1 e4
    subst e1 e3 e4
    have hil' : l.length ≤ 900000 := by simpa using hil
    rw [hlen] at *
    have hH : HoldsK CelT.enc 3 w g 0 l.toArray := by
      intro j hj
      have hj3 : j < l.length * 3 := by simpa using hj
      have := hcc j _ (flat_get l j hj3)
      refine ⟨?_, blk_free hh _⟩
      rw [this, get_flatK _ _ _ _ (by simpa using hj3)]
      rfl
    have hcmp : CmpLays Tryz.prog 29 #[] (CelT.enc (w := w) (D := D)) 3 cfC g 0 l.toArray.size w := by
      intro m os dk hs x y
      have F := fr_sortK (CelT.enc (w := w) (D := D)) 3 w g m dk os
      have kd : ∀ k, D k → Dm (sortWorldK CelT.enc 3 w g 0 m dk os) none k ∧ (sortWorldK CelT.enc 3 w g 0 m dk os).heap[k]? = w.heap[k]? := fun k hk => ⟨⟨Nat.lt_of_lt_of_le (hD k hk).1 F.size, by simp⟩, F.block k (hD k hk).1 (fun e => (hD k hk).2 e.symm)⟩
      show Calls Tryz.prog 29 #[.agg x.enc.toArray, .agg y.enc.toArray] _ _
      refine (cmp_any x.tr.dep x.tr y.tr _ _ _ none (Nat.le_refl _) (TrD.keep kd _ _ x.ok) (TrD.keep kd _ _ y.ok)).mono ?_
      rintro e w' ⟨rfl, F', hd⟩
      exact ⟨rfl, fr_growS F' hd⟩
    have hsz : l.toArray.size < 4611686018427387904 := by simp; omega
    have main := Tryz.slices_SortFunc_Trust 3 (fun _ => by kernel_rfl) (fun _ => by kernel_rfl) (CelT.enc (w := w) (D := D)) (fun _ => rfl) (fun x v hv => trs_one x v hv) cfC swoC 29 #[] g 0 c l.toArray w (fun _ _ => by kernel_rfl) hcmp hH hg3 hsz
    refine main.mono ?_
    rintro e w' ⟨rfl, d', q, os, ⟨p1, p2, p3⟩, hS, rfl⟩
    have F := fr_sortK (CelT.enc (w := w) (D := D)) 3 w g q d' os
    have hH' := holdsK_sortWorldK_c CelT.enc 3 w g 0 l.toArray d' q os hH hg3 p1
    have hp : d'.toList.Perm l := by
      have e1 : d'.extract 0 l.toArray.size = d' := by rw [← p1]; simp
      have e2 : l.toArray.extract 0 l.toArray.size = l.toArray := by simp
      rw [e1, e2] at p3
      simpa using p3
    generalize sortWorldK CelT.enc 3 w g 0 q d' os = w' at *
    obtain ⟨m, rfl⟩ : ∃ m : List (CelT w D), d' = m.toArray := ⟨d'.toList, by simp⟩
    have hml : m.length = l.length := by simpa using p1
    have hp' : m.Perm l := by simpa using hp
    have hasc : Asc (m.map CelT.tr) := by
      unfold Asc
      rw [List.pairwise_map, List.pairwise_iff_getElem]
      intro i j hi hj hij
      have := hS i j (Nat.zero_le _) hij (by simpa [← hml] using hj)
      simp only [ltOf, decide_eq_false_iff_not] at this
      simp only [cfC] at this
      have n1 := cmpT_neg m[i].tr m[j].tr
      simp [hi, hj] at this
      omega
    have hst : sortT (l.map CelT.tr) = m.map CelT.tr := asc_uniq (sortT_asc _) hasc ((sortT_perm _).trans (hp'.symm.map _))
    refine ⟨rfl, m.flatMap CelT.enc, ⟨_, l.length, c, rfl, by rw [cel_len, hml], by simpa using r2, r3, fun _ => ⟨g, 0, rfl, rfl, fun j u hu => ?_⟩⟩, by rw [hst]; exact cel_trs (fun k hk => ⟨hk, F.block k (hD k hk).1 (fun e => (hD k hk).2 e.symm)⟩) m, F⟩
    have hj : j < m.length * 3 := by
      have := (List.getElem?_eq_some_iff.1 hu).1
      rwa [cel_len] at this
    rw [flat_get m j hj] at hu
    have := (hH' j (by simpa using hj)).1
    rw [get_flatK _ _ _ _ (by simpa using hj)] at this
    rw [this]; exact hu
end Go.Proofs.YtpdhckbiioobhaaGreatDoor

/- Walks: slices.Sort on a row of nodes of one's own. -/
namespace Go.Proofs.YtpdhckbiioobhaaGreatDoor
open Go.RowKit Go.Sort

theorem sortN_merge {n : List Int} (hn : ∀ x ∈ n, 0 ≤ x ∧ x < 10) (hd : n.Nodup) : (n.mergeSort fun x y => decide (x ≤ y)) = sortN n := by
  have hm : ∀ a, a ∈ sortN n ↔ a ∈ n := fun a => by
    unfold sortN
    rw [List.mem_filter, List.any_eq_true]
    constructor
    · rintro ⟨_, x, hx, e⟩
      rw [decide_eq_true_eq] at e
      exact e ▸ hx
    · intro ha
      obtain ⟨h0, h1⟩ := hn a ha
      refine ⟨List.mem_map.2 ⟨a.toNat, List.mem_range.2 (by omega), by show ((a.toNat : Nat) : Int) = a; omega⟩, a, ha, by simp⟩
  have hp : List.Pairwise (fun x y : Int => x < y) (sortN n) := by
    unfold sortN
    refine List.Pairwise.filter _ ?_
    rw [List.pairwise_map]
    exact List.pairwise_lt_range.imp (fun h => by show ((_ : Nat) : Int) < ((_ : Nat) : Int); omega)
  have hnd : (sortN n).Nodup := hp.imp (fun h => by omega)
  refine List.Perm.eq_of_pairwise (le := fun x y : Int => x ≤ y) (fun a b _ _ h1 h2 => by omega) ?_ (hp.imp (fun h => by omega)) ((List.mergeSort_perm n _).trans ((List.perm_ext_iff_of_nodup hd hnd).2 (fun a => (hm a).symm)))
  have := List.pairwise_mergeSort (le := fun x y : Int => decide (x ≤ y)) (fun a b c h1 h2 => by simp at *; omega) (fun a b => by simp; omega) n
  exact this.imp (fun h => by simpa using h)
set_option maxRecDepth 100000 in
theorem sortNd_any (n : List Int) (A : Option Addr) (c base : Nat) (w : World) (own : w.ownsRow base 3 1 (.slice A n.length c) n.length (n.map (Value.int .i64))) (hn : ∀ x ∈ n, 0 ≤ x ∧ x < 10) (hd : n.Nodup) :
    Calls Tryz.prog 137 #[.slice A n.length c] w fun e w' => e = .returned (.tuple #[]) ∧ SlD w' (fun b => (Value.slice A n.length c).ownBlock = some b) 1 (.slice A n.length c) ((sortN n).map (Value.int .i64)) ∧ Fr (Value.slice A n.length c).ownBlock w w' := by
  obtain ⟨Y2, mm, d2, e2, r1, r2, r3, r4⟩ := SlD.own_eq own
  injection e2 with a1 a2 a3
  subst a1 a2 a3
  have hsl : (sortN n).length = n.length := by rw [← sortN_merge hn hd]; exact (List.mergeSort_perm n _).length_eq
  have hs10 : (sortN n).length ≤ 10 := by
    unfold sortN
    exact Nat.le_trans (List.length_filter_le _ _) (by simp)
  rcases Nat.eq_zero_or_pos n.length with h0 | h0
  · obtain rfl := List.eq_nil_of_length_eq_zero h0
    refine (Any.slices_Sort_int_none Tryz.lays189 A c w).mono ?_
    rintro e w' ⟨rfl, rfl⟩
    exact ⟨rfl, ⟨A, 0, c, rfl, by rw [List.length_map, hsl]; rfl, Nat.zero_le _, r3, fun h => absurd h (by omega)⟩, Fr.refl _ _⟩
  · rcases own.2 with ⟨h, _⟩ | ⟨g, cap, cur, e, hbg, hh, hnc, hm, hs, hk⟩
    · injection h with _ h; omega
    · injection e with e1 e2 e3
      subst e1 e3
      have hg : g < w.heap.size := blk_lt hh
      have hH : Holds (Value.int .i64) w g 0 n.toArray := holds_of_blockI hh (by simpa using hk)
      refine (Tryz.slices_Sort_int g 0 c n w hH hg (by omega)).mono ?_
      rintro e w' ⟨rfl, q, os, rfl⟩
      rw [sortN_merge hn hd]
      have F := grownBy_sortedI (w := w) (g := g) (n := q) (os := os) (sortN n).toArray
      have hH' : Holds (Value.int .i64) (grow (putRow (Value.int .i64) (Sort.ahead w q) g 0 (sortN n).toArray) os) g 0 (sortN n).toArray :=
        Sort.holds_grow (Value.int .i64) _ os g 0 (sortN n).toArray (by simpa [putRow, mapBlock, Sort.ahead] using hg) (Sort.holds_putRow (Value.int .i64) (Sort.ahead w q) g 0 n.toArray (sortN n).toArray (Sort.holds_ahead (Value.int .i64) w q g 0 n.toArray hH) (by simpa using hsl))
      generalize grow _ os = w' at *
      refine ⟨rfl, ⟨_, n.length, c, rfl, by rw [List.length_map, hsl, Nat.mul_one], r2, r3, fun _ => ⟨g, 0, rfl, rfl, fun j u hu => ?_⟩⟩, F⟩
      have hj := (List.getElem?_eq_some_iff.1 hu).1
      rw [List.length_map] at hj
      rw [(hH' j (by simpa using hj)).1, ← hu]
      simp [hj]
end Go.Proofs.YtpdhckbiioobhaaGreatDoor

/- Walks: normal.normal: what holds between its statements. -/
namespace Go.Proofs.YtpdhckbiioobhaaGreatDoor
open Go.RowKit

/-- The blocks laid since w. -/
def Nwb (w w' : World) : Nat → Prop := fun b => w.heap.size ≤ b ∧ b < w'.heap.size
/-- slices.Clone, the row as one's own. -/
theorem cloneO_any (l : List Int) (A : Option Addr) (c : Nat) (w : World) (h : SlI w none (.slice A l.length c) l) (hlen : l.length ≤ 1099511627776) :
    Calls Tryz.prog 131 #[.slice A l.length c] w fun e w' => ∃ A' c', e = .returned (.slice A' l.length c') ∧ w'.ownsRow w.heap.size 3 1 (.slice A' l.length c') l.length (l.map (Value.int .i64)) ∧ Fr none w w' := by
  obtain ⟨A2, c2, e, q1, q2, hc⟩ := h.open_
  injection e with a1 a2 a3
  subst a1 a3
  have key : ∀ {n : Nat} {v' : Value} {xs : List Value} {w' : World}, w'.ownsRow w.heap.size 3 1 v' n xs → ∃ A' c', v' = .slice A' n c' := fun {n v' xs w'} h => by
    rcases h.2 with ⟨rfl, rfl⟩ | ⟨g, cap, cur, rfl, _⟩
    · exact ⟨none, 0, rfl⟩
    · exact ⟨_, cap, rfl⟩
  rcases Nat.eq_zero_or_pos l.length with h0 | h0
  · have hl0 : l = [] := List.eq_nil_of_length_eq_zero h0
    subst hl0
    cases A with
    | none =>
      refine (Tryz.slices_Clone_int_nil 0 c w).mono ?_
      rintro e w' ⟨rfl, rfl⟩
      exact ⟨none, 0, rfl, World.ownsRow_nil _ _ _ _, Fr.refl _ _⟩
    | some a =>
      refine (Tryz.slices_Clone_int_zero a c w).mono ?_
      rintro e w' ⟨v', rfl, own, _, F⟩
      obtain ⟨A', c', rfl⟩ := key own
      exact ⟨A', c', rfl, own, Fr.of_below F⟩
  · obtain ⟨b, off, rfl, hb, _, hcc⟩ := hc h0
    refine (Tryz.slices_Clone_int b off l.length c l w (Nat.le_refl _) (by omega) (fun j hj => by rw [hcc j hj]; simp [hj])).mono ?_
    rintro e w' ⟨v', rfl, own, _, F⟩
    obtain ⟨A', c', rfl⟩ := key own
    exact ⟨A', c', rfl, by simpa using own, Fr.of_below F⟩

/-- The result while it lies in its block B, its rows of the call's own. -/
structure OutF (w1 : World) (thr : Int) (B : Nat) (n : List Int) (i : List Tr) (A5 : Option Addr) (c5 : Nat) (A6 : Option Addr) (c6 : Nat) (cells : List Value) (w : World) : Prop where
  ow : OwI (fun b => b = B) w1 n i A5 c5 A6 c6 cells w
  hB : w1.heap.size ≤ B
  tb : TB w B (.int .i64 thr) (.slice A5 n.length c5) (.slice A6 i.length c6)
  e5 : (Value.slice A5 n.length c5).ownBlock ≠ some B
  e6 : (Value.slice A6 i.length c6).ownBlock ≠ some B
section
variable {w1 w w' : World} {thr : Int} {B : Nat} {n : List Int} {i : List Tr} {A5 : Option Addr} {c5 : Nat} {A6 : Option Addr} {c6 : Nat} {cells : List Value}
theorem NrmI.outf (h : NrmI Nob w1 thr B n i A5 c5 A6 c6 cells w) : OutF w1 thr B n i A5 c5 A6 c6 cells w := ⟨h.ow, h.hB, h.tb, h.ne5, h.ne6⟩
theorem OwI.frB (h : OwI (fun b => b = B) w1 n i A5 c5 A6 c6 cells w) (hB : w1.heap.size ≤ B) (e5 : (Value.slice A5 n.length c5).ownBlock ≠ some B) (e6 : (Value.slice A6 i.length c6).ownBlock ≠ some B) (F : Fr (some B) w w') : OwI (fun b => b = B) w1 n i A5 c5 A6 c6 cells w' := by
  have hz := F.size
  refine ⟨h.fr.own F (by intro q e; injection e with e; omega), own_ne_fr h.own5 F e5, h.wi, own_ne_fr h.own6 F e6, h.dis, TrsD.keep (fun k hk => ⟨⟨hk.1, by have := hk.2.1; omega, hk.2.2⟩, F.block k hk.2.1 (by intro e; injection e with e; exact hk.2.2.2.2 e)⟩) _ _ h.trs⟩
theorem OutF.pure (h : OutF w1 thr B n i A5 c5 A6 c6 cells w) (F : Fr none w w') : OutF w1 thr B n i A5 c5 A6 c6 cells w' := ⟨h.ow.pure F, h.hB, h.tb.fr F (by simp), h.e5, h.e6⟩
/-- The result is put anew. -/
theorem OutF.step {n' : List Int} {i' : List Tr} {A7 : Option Addr} {c7 : Nat} {A8 : Option Addr} {c8 : Nat} {cs : List Value} (h : OutF w1 thr B n i A5 c5 A6 c6 cells w) (ow : OwI (fun b => b = B) w1 n' i' A7 c7 A8 c8 cs w') (F : Fr (Value.slice A5 n.length c5).ownBlock w w')
    (nw : Nwr w.heap.size (.slice A5 n.length c5) (.slice A7 n'.length c7)) (n6 : ∀ g, (Value.slice A8 i'.length c8).ownBlock = some g → w.heap.size ≤ g) :
    OutF w1 thr B n' i' A7 c7 A8 c8 cs (((w'.setCell ⟨B, 0, none⟩ (.int .i64 thr)).setCell ⟨B, 1, none⟩ (.slice A7 n'.length c7)).setCell ⟨B, 2, none⟩ (.slice A8 i'.length c8)) := by
  have hlt := blk_lt h.tb
  have e5 : (Value.slice A7 n'.length c7).ownBlock ≠ some B := fun e => by
    rcases nw.blk e with e | e
    · exact h.e5 e
    · omega
  have e6 : (Value.slice A8 i'.length c8).ownBlock ≠ some B := fun e => by have := n6 _ e; omega
  exact ⟨ow.frB h.hB e5 e6 (fr_fill3 _ _ _ _ _), h.hB, tb_fill3 (h.tb.fr F h.e5) _ _ _, e5, e6⟩
theorem OutF.thr_ (h : OutF w1 thr B n i A5 c5 A6 c6 cells w) (t : Int) : OutF w1 t B n i A5 c5 A6 c6 cells (w.setCell ⟨B, 0, none⟩ (.int .i64 t)) := by
  refine ⟨h.ow.frB h.hB h.e5 h.e6 (Fr.set1 w ⟨B, 0, none⟩ _), h.hB, ?_, h.e5, h.e6⟩
  have := blk_set (i := 0) (u := .int .i64 t) (show w.heap[B]? = some _ from h.tb)
  simpa [TB] using this
theorem OutF.trd (h : OutF w1 thr B n i A5 c5 A6 c6 cells w) (h0 : Wi thr) (hn : n.length ≤ 900000) (hi : i.length ≤ 900000) : TrD w (Dm w none) (.agg #[.int .i64 thr, .slice A5 n.length c5, .slice A6 i.length c6]) (.mk thr n i) :=
  TrD.mk_ h0 ((SlD.own_eq h.ow.own5).keep (fun k hk => ⟨⟨hk.2.2, by simp⟩, rfl⟩)) h.ow.wi ((SlD.own_eq h.ow.own6).keep (fun k hk => ⟨⟨hk.2.2, by simp⟩, rfl⟩)) (by omega) (by omega) (TrsD.keep (fun k hk => ⟨⟨hk.2.1, by simp⟩, rfl⟩) _ _ h.ow.trs)
/-- Behind slices.Sort. -/
structure OutS (w1 w : World) (thr : Int) (B : Nat) (n : List Int) (i : List Tr) (A5 : Option Addr) (c5 : Nat) (A6 : Option Addr) (c6 : Nat) (cells : List Value) (wr : World) : Prop where
  fr : Fr none w1 wr
  hB : w1.heap.size ≤ B
  tb : TB wr B (.int .i64 thr) (.slice A5 n.length c5) (.slice A6 i.length c6)
  s5 : SlD wr (fun b => (Value.slice A5 n.length c5).ownBlock = some b) 1 (.slice A5 n.length c5) ((sortN n).map (Value.int .i64))
  own6 : wr.ownsRow w1.heap.size 31 3 (.slice A6 i.length c6) i.length cells
  b5 : ∀ g, (Value.slice A5 n.length c5).ownBlock = some g → w1.heap.size ≤ g ∧ g < wr.heap.size ∧ g ≠ B ∧ (Value.slice A6 i.length c6).ownBlock ≠ some g
  e6 : (Value.slice A6 i.length c6).ownBlock ≠ some B
  hz : w.heap.size ≤ wr.heap.size
  trs : TrsD wr (Do (fun b => b = B) w1 w (.slice A5 n.length c5) (.slice A6 i.length c6)) cells i
theorem OutF.sorted (h : OutF w1 thr B n i A5 c5 A6 c6 cells w) (hS : SlD w' (fun b => (Value.slice A5 n.length c5).ownBlock = some b) 1 (.slice A5 n.length c5) ((sortN n).map (Value.int .i64))) (F : Fr (Value.slice A5 n.length c5).ownBlock w w') : OutS w1 w thr B n i A5 c5 A6 c6 cells w' := by
  have hz := F.size
  refine ⟨h.ow.fr.own F (own_blk_ge h.ow.own5), h.hB, h.tb.fr F h.e5, hS, own_keep2 h.ow.own6 F (fun b e e2 => h.ow.dis b e2 e), fun g e => ⟨(h.ow.own5.lt _ e).1, by have := (h.ow.own5.lt _ e).2; omega, fun e2 => h.e5 (e2 ▸ e), h.ow.dis g e⟩, h.e6, hz, TrsD.keep (fun k hk => ⟨hk, F.block k hk.2.1 (fun e => hk.2.2.1 e.symm)⟩) _ _ h.ow.trs⟩
theorem OutS.dlt {wr : World} (h : OutS w1 w thr B n i A5 c5 A6 c6 cells wr) : ∀ b, Do (fun b => b = B) w1 w (.slice A5 n.length c5) (.slice A6 i.length c6) b → b < wr.heap.size ∧ (Value.slice A6 i.length c6).ownBlock ≠ some b :=
  fun b hb => ⟨by have := hb.2.1; have := h.hz; omega, hb.2.2.2.1⟩
/-- Behind slices.SortFunc. -/
theorem OutS.inner {wr : World} {cells' : List Value} (h : OutS w1 w thr B n i A5 c5 A6 c6 cells wr) (h0 : Wi thr) (hn : ∀ x ∈ n, 0 ≤ x ∧ x < 10) (hd : n.Nodup) (hnl : n.length ≤ 900000) (hil : i.length ≤ 900000)
    (hS : SlD w' (fun b => (Value.slice A6 i.length c6).ownBlock = some b) 3 (.slice A6 i.length c6) cells') (hT : TrsD w' (Do (fun b => b = B) w1 w (.slice A5 n.length c5) (.slice A6 i.length c6)) cells' (sortT i)) (F : Fr (Value.slice A6 i.length c6).ownBlock wr w') :
    MidP Nob w1 B (.mk thr (sortN n) (sortT i)) (.int .i64 thr) (.slice A5 (sortN n).length c5) (.slice A6 (sortT i).length c6) w' := by
  have l1 := (sortN_perm hn hd).length_eq
  have l2 := (sortT_perm i).length_eq
  have hz := F.size
  have hzz := h.hz
  have o6 := h.own6.lt
  rw [l1, l2]
  refine ⟨h.fr.own F (own_blk_ge h.own6), h.hB, h.tb.fr F h.e6, TrD.mk_ h0 (h.s5.keep (fun k hk => ?_)) (fun x hx => ?_) (hS.keep (fun k hk => ⟨.inr ⟨(o6 _ hk).1, by have := (o6 _ hk).2; omega, fun e => h.e6 (e ▸ hk)⟩, rfl⟩)) (by omega) (by omega) (TrsD.keep (fun k hk => ⟨.inr ⟨hk.1, by have := hk.2.1; omega, hk.2.2.2.2⟩, rfl⟩) _ _ hT)⟩
  · obtain ⟨a1, a2, a3, a4⟩ := h.b5 k hk
    exact ⟨.inr ⟨a1, by omega, a3⟩, F.block k a2 (fun e => a4 e.symm)⟩
  · have := hn x ((mem_sortN hn x).1 hx)
    constructor <;> omega
end
theorem nwb_dw {w w' : World} : ∀ b, Dw Nob w w' b → Nwb w w' b ∧ w'.heap[b]? = w'.heap[b]? := fun b hb => by
  rcases hb with h | h
  · exact h.elim
  · exact ⟨h, rfl⟩
theorem lift_facts {thr : Int} {nodes : List Int} {inner : List Tr} (h : OkT (.mk thr nodes inner)) {n : List Int} {i : List Tr} (e : (normL inner).foldl liftS (nodes, []) = (n, i)) : OkT (.mk thr n i) ∧ n.length + wgt i ≤ nodes.length + wgt inner := by
  obtain ⟨a, b, c, d, e'⟩ := (okT_mk _ _ _).1 h
  obtain ⟨l1, l2, l3, l4, l5⟩ := norm_relL inner e'
  obtain ⟨f1, f2, f3, f4, f5, f6, f7⟩ := lift_all (normL inner) (nodes, []) l2 d c (by simp)
  have hw : wgt ([] : List Tr) = 0 := by simp [wgt, sizeL]
  rw [e] at f2 f3 f4 f5 f6
  simp only [List.length_nil, Nat.add_zero, hw] at f2 f3 f4 f5 f6
  exact ⟨(okT_mk _ _ _).2 ⟨a, by omega, f4, f3, f5⟩, by omega⟩
end Go.Proofs.YtpdhckbiioobhaaGreatDoor

/- Some texts of this claim, joined: contracts of the functions that it reaches, and plain laws. -/
import Derived.Test.YtpdhckbiioobhaaGreatDoorProg
import Derived.Test.YtpdhckbiioobhaaGreatDoorJN11
import Derived.Test.YtpdhckbiioobhaaGreatDoorJN1
import Derived.Test.YtpdhckbiioobhaaGreatDoorJN8
import Derived.Test.YtpdhckbiioobhaaGreatDoorShelf
import Derived.Sort.OwnSortedInts
import Derived.Shelf.Slices.In.SortNone
import Derived.Test.YtpdhckbiioobhaaGreatDoorJN14
import Derived.Test.YtpdhckbiioobhaaGreatDoorJN16
import Derived.Test.YtpdhckbiioobhaaGreatDoorJN9
import Derived.Test.YtpdhckbiioobhaaGreatDoorJN6
import Derived.Test.YtpdhckbiioobhaaGreatDoorJN17
import Derived.Test.YtpdhckbiioobhaaGreatDoorJN19
import Derived.Test.YtpdhckbiioobhaaGreatDoorJN7
import Derived.Test.YtpdhckbiioobhaaGreatDoorJN10

/- Walks: slices.SortFunc on inner trusts, by normal.Compare. -/
namespace Go.Proofs.YtpdhckbiioobhaaGreatDoor
open Go.RowKit Go.Sort

theorem world_ext {a b : World} (h1 : a.heap = b.heap) (h2 : a.tape = b.tape) (h3 : a.drawn = b.drawn) (h4 : a.os = b.os) (h5 : a.output = b.output) : a = b := by
  cases a; cases b; simp_all
/-- What only draws and lays: the world grown. -/
theorem fr_growS {w w' : World} (F : Fr none w w') (hd : w.drawn ≤ w'.drawn) : ∃ q os, w' = Sort.grow (w.drewN q) os := by
  have f1 := World.grownBy.tape F
  have f2 := World.grownBy.os F
  have f3 := World.grownBy.output F
  refine ⟨w'.drawn - w.drawn, w'.heap.extract w.heap.size w'.heap.size, world_ext ?_ f1 ?_ f2 f3⟩
  · show w'.heap = w.heap ++ w'.heap.extract w.heap.size w'.heap.size
    have hz := F.size
    refine Array.ext_getElem? (fun k => ?_)
    by_cases hk : k < w.heap.size
    · rw [Array.getElem?_append_left hk]
      exact F.block k hk (by simp)
    · rw [Array.getElem?_append_right (by omega), Array.getElem?_extract]
      by_cases h2 : k < w'.heap.size
      · rw [if_pos (by omega)]
        congr 1; omega
      · rw [if_neg (by omega)]
        exact Array.getElem?_eq_none (by omega)
  · show w'.drawn = w.drawn + (w'.drawn - w.drawn)
    omega
theorem fr_sortK {α : Type} [Inhabited α] (enc : α → List Value) (k : Nat) (w : World) (g m : Nat) (dk : Array α) (os : Array Obj) : Fr (some g) w (sortWorldK enc k w g 0 m dk os) := by
  refine ⟨rfl, rfl, rfl, size_sortWorldK_c enc k w g 0 m dk os, fun i hi hne => ?_⟩
  unfold sortWorldK putRowK
  rw [heap_grow_old _ _ (by simpa [Sort.ahead, putRow, mapBlock] using hi)]
  have : g ≠ i := fun e => hne (by rw [e])
  simp [putRow, mapBlock, Sort.ahead, Array.getElem?_modify, this]
/-- A trust with its three cells. -/
def CelT (w : World) (D : Nat → Prop) : Type := { p : Tr × Value × Value × Value // TrD w D (.agg #[p.2.1, p.2.2.1, p.2.2.2]) p.1 }
def CelT.tr {w : World} {D : Nat → Prop} (x : CelT w D) : Tr := x.1.1
def CelT.enc {w : World} {D : Nat → Prop} (x : CelT w D) : List Value := [x.1.2.1, x.1.2.2.1, x.1.2.2.2]
theorem CelT.ok {w : World} {D : Nat → Prop} (x : CelT w D) : TrD w D (.agg x.enc.toArray) x.tr := x.2
theorem trs_cel {w : World} {D : Nat → Prop} : ∀ (i : List Tr) (cells : List Value), TrsD w D cells i → ∃ l : List (CelT w D), i = l.map CelT.tr ∧ cells = l.flatMap CelT.enc
  | [], cells, h => ⟨[], rfl, by simp only [TrsD] at h; simpa using h⟩
  | x :: r, cells, h => by
    simp only [TrsD] at h
    obtain ⟨a, b, c, rest, rfl, hx, hr⟩ := h
    obtain ⟨l, e1, e2⟩ := trs_cel r rest hr
    exact ⟨⟨(x, a, b, c), hx⟩ :: l, by rw [e1]; rfl, by rw [e2]; rfl⟩
theorem cel_trs {w w' : World} {D D' : Nat → Prop} (hD : ∀ k, D k → D' k ∧ w'.heap[k]? = w.heap[k]?) : ∀ l : List (CelT w D), TrsD w' D' (l.flatMap CelT.enc) (l.map CelT.tr)
  | [] => by simp [TrsD]
  | x :: r => by
    simp only [List.map_cons, TrsD]
    exact ⟨x.1.2.1, x.1.2.2.1, x.1.2.2.2, r.flatMap CelT.enc, rfl, TrD.keep hD _ _ x.2, cel_trs hD r⟩
theorem cel_len {w : World} {D : Nat → Prop} (l : List (CelT w D)) : (l.flatMap CelT.enc).length = l.length * 3 := by
  induction l with
  | nil => rfl
  | cons x r ih => simp only [List.flatMap_cons, List.length_append, ih, List.length_cons]; show 3 + _ = _; omega
/-- The cells of a list, and its flat row. -/
theorem flat_get {w : World} {D : Nat → Prop} [Inhabited (CelT w D)] : ∀ (l : List (CelT w D)) (j : Nat), j < l.length * 3 → (l.flatMap CelT.enc)[j]? = some ((l.toArray[j / 3]!).enc[j % 3]!)
  | [], j, h => by simp at h
  | x :: r, j, h => by
    by_cases h3 : j < 3
    · have hj : j = 0 ∨ j = 1 ∨ j = 2 := by omega
      rcases hj with rfl | rfl | rfl <;> rfl
    · obtain ⟨k, rfl⟩ : ∃ k, j = k + 3 := ⟨j - 3, by omega⟩
      have e1 : ((x :: r).flatMap CelT.enc)[k + 3]? = (r.flatMap CelT.enc)[k]? := rfl
      have e2 : (k + 3) / 3 = k / 3 + 1 := by omega
      have e3 : (k + 3) % 3 = k % 3 := by omega
      rw [e1, flat_get r k (by simp at h; omega), e2, e3]
      have h4 : k / 3 < r.length := by simp at h; omega
      simp [h4]
theorem trs_one {w : World} {D : Nat → Prop} (x : CelT w D) : ∀ v ∈ x.enc, v.oneCell' = true := by
  obtain ⟨t, A1, n1, c1, A2, n2, c2, e⟩ := x.ok.shape
  have e' : x.enc = [.int .i64 t, .slice A1 n1 c1, .slice A2 n2 c2] := by
    injection e with e; injection e
  rw [e']
  simp [Value.oneCell']
/-- Rows of trusts, sorted. -/
def cfC {w : World} {D : Nat → Prop} (x y : CelT w D) : Int := cmpT x.tr y.tr
theorem swoC {w : World} {D : Nat → Prop} : Sort.SWO (ltOf (cfC (w := w) (D := D))) where
  irrefl x := by simp [ltOf, cfC, cmpT_self]
  trans x y z h1 h2 := by
    simp only [ltOf, decide_eq_true_eq] at *
    simp only [cfC] at *
    have n1 := cmpT_neg x.tr y.tr
    have n2 := cmpT_neg y.tr z.tr
    have n3 := cmpT_neg x.tr z.tr
    by_cases h : cmpT x.tr z.tr < 0
    · exact h
    · have := cmpT_trans y.tr z.tr x.tr (by omega) (by omega)
      omega
  ntrans x y z h1 h2 := by
    simp only [ltOf, decide_eq_false_iff_not] at *
    simp only [cfC] at *
    have n1 := cmpT_neg x.tr y.tr
    have n2 := cmpT_neg y.tr z.tr
    have n3 := cmpT_neg x.tr z.tr
    have := cmpT_trans z.tr y.tr x.tr (by omega) (by omega)
    omega
set_option maxRecDepth 100000 in
theorem sortI_any (i : List Tr) (A : Option Addr) (c : Nat) (cells : List Value) (base : Nat) (w : World) (D : Nat → Prop) (own : w.ownsRow base 31 3 (.slice A i.length c) i.length cells) (hD : ∀ b, D b → b < w.heap.size ∧ (Value.slice A i.length c).ownBlock ≠ some b) (ht : TrsD w D cells i) (hil : i.length ≤ 900000) :
    Calls Tryz.prog 138 #[.slice A i.length c, .func (.func 29) #[] #[]] w fun e w' => e = .returned (.tuple #[]) ∧ ∃ cells', SlD w' (fun b => (Value.slice A i.length c).ownBlock = some b) 3 (.slice A i.length c) cells' ∧ TrsD w' D cells' (sortT i) ∧ Fr (Value.slice A i.length c).ownBlock w w' := by
  obtain ⟨Y2, mm, d2, e2, r1, r2, r3, r4⟩ := SlD.own_eq own
  injection e2 with a1 a2 a3
  subst a1 a2 a3
  obtain ⟨l, rfl, rfl⟩ := trs_cel i cells ht
  have hlen : (l.map CelT.tr).length = l.length := by simp
  rcases Nat.eq_zero_or_pos l.length with h0 | h0
  · obtain rfl := List.eq_nil_of_length_eq_zero h0
    refine (Tryz.slices_SortFunc_none_Trust (α := Int) A c _ w).mono ?_
    rintro e w' ⟨rfl, rfl⟩
    exact ⟨rfl, [], ⟨A, 0, c, rfl, rfl, Nat.zero_le _, r3, fun h => absurd h (by omega)⟩, by simp [TrsD, sortT], Fr.refl _ _⟩
  · obtain ⟨x0, l0, rfl⟩ : ∃ x0 l0, l = x0 :: l0 := by
      cases l with
      | nil => simp at h0
      | cons a r => exact ⟨a, r, rfl⟩
    haveI : Inhabited (CelT w D) := ⟨x0⟩
    generalize x0 :: l0 = l at *
    obtain ⟨g, off, rfl, ⟨hg1, hg2, hg3⟩, hcc⟩ := r4 (by omega)
    obtain ⟨g', cap, cur, e, hbg, hh, hnc, hm, hs, hk⟩ : ∃ g' cap cur, Value.slice (some ⟨g, off, none⟩) (l.map CelT.tr).length c = .slice (some ⟨g', 0, none⟩) (l.map CelT.tr).length cap ∧ base ≤ g' ∧ w.heap[g']? = some (.cells cur 31 (0, 0)) ∧ (l.map CelT.tr).length ≤ cap ∧ cap ≤ maxLen ∧ cur.size = cap * 3 ∧ cur.toList.take ((l.map CelT.tr).length * 3) = l.flatMap CelT.enc := by
      rcases own.2 with ⟨h, _⟩ | h
      · cases h
      · exact h
    injection e with e1 e2 e3
    injection e1 with e1
    injection e1 with e1 e4
    subst e1 e3 e4
    have hil' : l.length ≤ 900000 := by simpa using hil
    rw [hlen] at *
    have hH : HoldsK CelT.enc 3 w g 0 l.toArray := by
      intro j hj
      have hj3 : j < l.length * 3 := by simpa using hj
      have := hcc j _ (flat_get l j hj3)
      refine ⟨?_, blk_free hh _⟩
      rw [this, get_flatK _ _ _ _ (by simpa using hj3)]
      rfl
    have hcmp : CmpLays Tryz.prog 29 #[] (CelT.enc (w := w) (D := D)) 3 cfC g 0 l.toArray.size w := by
      intro m os dk hs x y
      have F := fr_sortK (CelT.enc (w := w) (D := D)) 3 w g m dk os
      have kd : ∀ k, D k → Dm (sortWorldK CelT.enc 3 w g 0 m dk os) none k ∧ (sortWorldK CelT.enc 3 w g 0 m dk os).heap[k]? = w.heap[k]? := fun k hk => ⟨⟨Nat.lt_of_lt_of_le (hD k hk).1 F.size, by simp⟩, F.block k (hD k hk).1 (fun e => (hD k hk).2 e.symm)⟩
      show Calls Tryz.prog 29 #[.agg x.enc.toArray, .agg y.enc.toArray] _ _
      refine (cmp_any x.tr.dep x.tr y.tr _ _ _ none (Nat.le_refl _) (TrD.keep kd _ _ x.ok) (TrD.keep kd _ _ y.ok)).mono ?_
      rintro e w' ⟨rfl, F', hd⟩
      exact ⟨rfl, fr_growS F' hd⟩
    have hsz : l.toArray.size < 4611686018427387904 := by simp; omega
    have main := Tryz.slices_SortFunc_Trust 3 (fun _ => by kernel_rfl) (fun _ => by kernel_rfl) (CelT.enc (w := w) (D := D)) (fun _ => rfl) (fun x v hv => trs_one x v hv) cfC swoC 29 #[] g 0 c l.toArray w (fun _ _ => by kernel_rfl) hcmp hH hg3 hsz
    refine main.mono ?_
    rintro e w' ⟨rfl, d', q, os, ⟨p1, p2, p3⟩, hS, rfl⟩
    have F := fr_sortK (CelT.enc (w := w) (D := D)) 3 w g q d' os
    have hH' := holdsK_sortWorldK_c CelT.enc 3 w g 0 l.toArray d' q os hH hg3 p1
    have hp : d'.toList.Perm l := by
      have e1 : d'.extract 0 l.toArray.size = d' := by rw [← p1]; simp
      have e2 : l.toArray.extract 0 l.toArray.size = l.toArray := by simp
      rw [e1, e2] at p3
      simpa using p3
    generalize sortWorldK CelT.enc 3 w g 0 q d' os = w' at *
    obtain ⟨m, rfl⟩ : ∃ m : List (CelT w D), d' = m.toArray := ⟨d'.toList, by simp⟩
    have hml : m.length = l.length := by simpa using p1
    have hp' : m.Perm l := by simpa using hp
    have hasc : Asc (m.map CelT.tr) := by
      unfold Asc
      rw [List.pairwise_map, List.pairwise_iff_getElem]
      intro i j hi hj hij
      have := hS i j (Nat.zero_le _) hij (by simpa [← hml] using hj)
      simp only [ltOf, decide_eq_false_iff_not] at this
      simp only [cfC] at this
      have n1 := cmpT_neg m[i].tr m[j].tr
      simp [hi, hj] at this
      omega
    have hst : sortT (l.map CelT.tr) = m.map CelT.tr := asc_uniq (sortT_asc _) hasc ((sortT_perm _).trans (hp'.symm.map _))
    refine ⟨rfl, m.flatMap CelT.enc, ⟨_, l.length, c, rfl, by rw [cel_len, hml], by simpa using r2, r3, fun _ => ⟨g, 0, rfl, rfl, fun j u hu => ?_⟩⟩, by rw [hst]; exact cel_trs (fun k hk => ⟨hk, F.block k (hD k hk).1 (fun e => (hD k hk).2 e.symm)⟩) m, F⟩
    have hj : j < m.length * 3 := by
      have := (List.getElem?_eq_some_iff.1 hu).1
      rwa [cel_len] at this
    rw [flat_get m j hj] at hu
    have := (hH' j (by simpa using hj)).1
    rw [get_flatK _ _ _ _ (by simpa using hj)] at this
    rw [this]; exact hu
end Go.Proofs.YtpdhckbiioobhaaGreatDoor

/- Walks: slices.Sort on a row of nodes of one's own. -/
namespace Go.Proofs.YtpdhckbiioobhaaGreatDoor
open Go.RowKit Go.Sort

theorem sortN_merge {n : List Int} (hn : ∀ x ∈ n, 0 ≤ x ∧ x < 10) (hd : n.Nodup) : (n.mergeSort fun x y => decide (x ≤ y)) = sortN n := by
  have hm : ∀ a, a ∈ sortN n ↔ a ∈ n := fun a => by
    unfold sortN
    rw [List.mem_filter, List.any_eq_true]
    constructor
    · rintro ⟨_, x, hx, e⟩
      rw [decide_eq_true_eq] at e
      exact e ▸ hx
    · intro ha
      obtain ⟨h0, h1⟩ := hn a ha
      refine ⟨List.mem_map.2 ⟨a.toNat, List.mem_range.2 (by omega), by show ((a.toNat : Nat) : Int) = a; omega⟩, a, ha, by simp⟩
  have hp : List.Pairwise (fun x y : Int => x < y) (sortN n) := by
    unfold sortN
    refine List.Pairwise.filter _ ?_
    rw [List.pairwise_map]
    exact List.pairwise_lt_range.imp (fun h => by show ((_ : Nat) : Int) < ((_ : Nat) : Int); omega)
  have hnd : (sortN n).Nodup := hp.imp (fun h => by omega)
  refine List.Perm.eq_of_pairwise (le := fun x y : Int => x ≤ y) (fun a b _ _ h1 h2 => by omega) ?_ (hp.imp (fun h => by omega)) ((List.mergeSort_perm n _).trans ((List.perm_ext_iff_of_nodup hd hnd).2 (fun a => (hm a).symm)))
  have := List.pairwise_mergeSort (le := fun x y : Int => decide (x ≤ y)) (fun a b c h1 h2 => by simp at *; omega) (fun a b => by simp; omega) n
  exact this.imp (fun h => by simpa using h)
set_option maxRecDepth 100000 in
theorem sortNd_any (n : List Int) (A : Option Addr) (c base : Nat) (w : World) (own : w.ownsRow base 3 1 (.slice A n.length c) n.length (n.map (Value.int .i64))) (hn : ∀ x ∈ n, 0 ≤ x ∧ x < 10) (hd : n.Nodup) :
    Calls Tryz.prog 137 #[.slice A n.length c] w fun e w' => e = .returned (.tuple #[]) ∧ SlD w' (fun b => (Value.slice A n.length c).ownBlock = some b) 1 (.slice A n.length c) ((sortN n).map (Value.int .i64)) ∧ Fr (Value.slice A n.length c).ownBlock w w' := by
  obtain ⟨Y2, mm, d2, e2, r1, r2, r3, r4⟩ := SlD.own_eq own
  injection e2 with a1 a2 a3
  subst a1 a2 a3
  have hsl : (sortN n).length = n.length := by rw [← sortN_merge hn hd]; exact (List.mergeSort_perm n _).length_eq
  have hs10 : (sortN n).length ≤ 10 := by
    unfold sortN
    exact Nat.le_trans (List.length_filter_le _ _) (by simp)
  rcases Nat.eq_zero_or_pos n.length with h0 | h0
  · obtain rfl := List.eq_nil_of_length_eq_zero h0
    refine (Any.slices_Sort_int_none Tryz.lays189 A c w).mono ?_
    rintro e w' ⟨rfl, rfl⟩
    exact ⟨rfl, ⟨A, 0, c, rfl, by rw [List.length_map, hsl]; rfl, Nat.zero_le _, r3, fun h => absurd h (by omega)⟩, Fr.refl _ _⟩
  · rcases own.2 with ⟨h, _⟩ | ⟨g, cap, cur, e, hbg, hh, hnc, hm, hs, hk⟩
    · injection h with _ h; omega
    · injection e with e1 e2 e3
      subst e1 e3
      have hg : g < w.heap.size := blk_lt hh
      have hH : Holds (Value.int .i64) w g 0 n.toArray := holds_of_blockI hh (by simpa using hk)
      refine (Tryz.slices_Sort_int g 0 c n w hH hg (by omega)).mono ?_
      rintro e w' ⟨rfl, q, os, rfl⟩
      rw [sortN_merge hn hd]
      have F := grownBy_sortedI (w := w) (g := g) (n := q) (os := os) (sortN n).toArray
      have hH' : Holds (Value.int .i64) (grow (putRow (Value.int .i64) (Sort.ahead w q) g 0 (sortN n).toArray) os) g 0 (sortN n).toArray :=
        Sort.holds_grow (Value.int .i64) _ os g 0 (sortN n).toArray (by simpa [putRow, mapBlock, Sort.ahead] using hg) (Sort.holds_putRow (Value.int .i64) (Sort.ahead w q) g 0 n.toArray (sortN n).toArray (Sort.holds_ahead (Value.int .i64) w q g 0 n.toArray hH) (by simpa using hsl))
      generalize grow _ os = w' at *
      refine ⟨rfl, ⟨_, n.length, c, rfl, by rw [List.length_map, hsl, Nat.mul_one], r2, r3, fun _ => ⟨g, 0, rfl, rfl, fun j u hu => ?_⟩⟩, F⟩
      have hj := (List.getElem?_eq_some_iff.1 hu).1
      rw [List.length_map] at hj
      rw [(hH' j (by simpa using hj)).1, ← hu]
      simp [hj]
end Go.Proofs.YtpdhckbiioobhaaGreatDoor

/- Walks: normal.normal: what holds between its statements. -/
namespace Go.Proofs.YtpdhckbiioobhaaGreatDoor
open Go.RowKit

/-- The blocks laid since w. -/
def Nwb (w w' : World) : Nat → Prop := fun b => w.heap.size ≤ b ∧ b < w'.heap.size
/-- slices.Clone, the row as one's own. -/
theorem cloneO_any (l : List Int) (A : Option Addr) (c : Nat) (w : World) (h : SlI w none (.slice A l.length c) l) (hlen : l.length ≤ 1099511627776) :
    Calls Tryz.prog 131 #[.slice A l.length c] w fun e w' => ∃ A' c', e = .returned (.slice A' l.length c') ∧ w'.ownsRow w.heap.size 3 1 (.slice A' l.length c') l.length (l.map (Value.int .i64)) ∧ Fr none w w' := by
  obtain ⟨A2, c2, e, q1, q2, hc⟩ := h.open_
  injection e with a1 a2 a3
  subst a1 a3
  have key : ∀ {n : Nat} {v' : Value} {xs : List Value} {w' : World}, w'.ownsRow w.heap.size 3 1 v' n xs → ∃ A' c', v' = .slice A' n c' := fun {n v' xs w'} h => by
    rcases h.2 with ⟨rfl, rfl⟩ | ⟨g, cap, cur, rfl, _⟩
    · exact ⟨none, 0, rfl⟩
    · exact ⟨_, cap, rfl⟩
  rcases Nat.eq_zero_or_pos l.length with h0 | h0
  · have hl0 : l = [] := List.eq_nil_of_length_eq_zero h0
    subst hl0
    cases A with
    | none =>
      refine (Tryz.slices_Clone_int_nil 0 c w).mono ?_
      rintro e w' ⟨rfl, rfl⟩
      exact ⟨none, 0, rfl, World.ownsRow_nil _ _ _ _, Fr.refl _ _⟩
    | some a =>
      refine (Tryz.slices_Clone_int_zero a c w).mono ?_
      rintro e w' ⟨v', rfl, own, _, F⟩
      obtain ⟨A', c', rfl⟩ := key own
      exact ⟨A', c', rfl, own, Fr.of_below F⟩
  · obtain ⟨b, off, rfl, hb, _, hcc⟩ := hc h0
    refine (Tryz.slices_Clone_int b off l.length c l w (Nat.le_refl _) (by omega) (fun j hj => by rw [hcc j hj]; simp [hj])).mono ?_
    rintro e w' ⟨v', rfl, own, _, F⟩
    obtain ⟨A', c', rfl⟩ := key own
    exact ⟨A', c', rfl, by simpa using own, Fr.of_below F⟩

/-- The result while it lies in its block B, its rows of the call's own. -/
structure OutF (w1 : World) (thr : Int) (B : Nat) (n : List Int) (i : List Tr) (A5 : Option Addr) (c5 : Nat) (A6 : Option Addr) (c6 : Nat) (cells : List Value) (w : World) : Prop where
  ow : OwI (fun b => b = B) w1 n i A5 c5 A6 c6 cells w
  hB : w1.heap.size ≤ B
  tb : TB w B (.int .i64 thr) (.slice A5 n.length c5) (.slice A6 i.length c6)
  e5 : (Value.slice A5 n.length c5).ownBlock ≠ some B
  e6 : (Value.slice A6 i.length c6).ownBlock ≠ some B
section
variable {w1 w w' : World} {thr : Int} {B : Nat} {n : List Int} {i : List Tr} {A5 : Option Addr} {c5 : Nat} {A6 : Option Addr} {c6 : Nat} {cells : List Value}
theorem NrmI.outf (h : NrmI Nob w1 thr B n i A5 c5 A6 c6 cells w) : OutF w1 thr B n i A5 c5 A6 c6 cells w := ⟨h.ow, h.hB, h.tb, h.ne5, h.ne6⟩
theorem OwI.frB (h : OwI (fun b => b = B) w1 n i A5 c5 A6 c6 cells w) (hB : w1.heap.size ≤ B) (e5 : (Value.slice A5 n.length c5).ownBlock ≠ some B) (e6 : (Value.slice A6 i.length c6).ownBlock ≠ some B) (F : Fr (some B) w w') : OwI (fun b => b = B) w1 n i A5 c5 A6 c6 cells w' := by
  have hz := F.size
  refine ⟨h.fr.own F (by intro q e; injection e with e; omega), own_ne_fr h.own5 F e5, h.wi, own_ne_fr h.own6 F e6, h.dis, TrsD.keep (fun k hk => ⟨⟨hk.1, by have := hk.2.1; omega, hk.2.2⟩, F.block k hk.2.1 (by intro e; injection e with e; exact hk.2.2.2.2 e)⟩) _ _ h.trs⟩
theorem OutF.pure (h : OutF w1 thr B n i A5 c5 A6 c6 cells w) (F : Fr none w w') : OutF w1 thr B n i A5 c5 A6 c6 cells w' := ⟨h.ow.pure F, h.hB, h.tb.fr F (by simp), h.e5, h.e6⟩
/-- The result is put anew. -/
theorem OutF.step {n' : List Int} {i' : List Tr} {A7 : Option Addr} {c7 : Nat} {A8 : Option Addr} {c8 : Nat} {cs : List Value} (h : OutF w1 thr B n i A5 c5 A6 c6 cells w) (ow : OwI (fun b => b = B) w1 n' i' A7 c7 A8 c8 cs w') (F : Fr (Value.slice A5 n.length c5).ownBlock w w')
    (nw : Nwr w.heap.size (.slice A5 n.length c5) (.slice A7 n'.length c7)) (n6 : ∀ g, (Value.slice A8 i'.length c8).ownBlock = some g → w.heap.size ≤ g) :
    OutF w1 thr B n' i' A7 c7 A8 c8 cs (((w'.setCell ⟨B, 0, none⟩ (.int .i64 thr)).setCell ⟨B, 1, none⟩ (.slice A7 n'.length c7)).setCell ⟨B, 2, none⟩ (.slice A8 i'.length c8)) := by
  have hlt := blk_lt h.tb
  have e5 : (Value.slice A7 n'.length c7).ownBlock ≠ some B := fun e => by
    rcases nw.blk e with e | e
    · exact h.e5 e
    · omega
  have e6 : (Value.slice A8 i'.length c8).ownBlock ≠ some B := fun e => by have := n6 _ e; omega
  exact ⟨ow.frB h.hB e5 e6 (fr_fill3 _ _ _ _ _), h.hB, tb_fill3 (h.tb.fr F h.e5) _ _ _, e5, e6⟩
theorem OutF.thr_ (h : OutF w1 thr B n i A5 c5 A6 c6 cells w) (t : Int) : OutF w1 t B n i A5 c5 A6 c6 cells (w.setCell ⟨B, 0, none⟩ (.int .i64 t)) := by
  refine ⟨h.ow.frB h.hB h.e5 h.e6 (Fr.set1 w ⟨B, 0, none⟩ _), h.hB, ?_, h.e5, h.e6⟩
  have := blk_set (i := 0) (u := .int .i64 t) (show w.heap[B]? = some _ from h.tb)
  simpa [TB] using this
theorem OutF.trd (h : OutF w1 thr B n i A5 c5 A6 c6 cells w) (h0 : Wi thr) (hn : n.length ≤ 900000) (hi : i.length ≤ 900000) : TrD w (Dm w none) (.agg #[.int .i64 thr, .slice A5 n.length c5, .slice A6 i.length c6]) (.mk thr n i) :=
  TrD.mk_ h0 ((SlD.own_eq h.ow.own5).keep (fun k hk => ⟨⟨hk.2.2, by simp⟩, rfl⟩)) h.ow.wi ((SlD.own_eq h.ow.own6).keep (fun k hk => ⟨⟨hk.2.2, by simp⟩, rfl⟩)) (by omega) (by omega) (TrsD.keep (fun k hk => ⟨⟨hk.2.1, by simp⟩, rfl⟩) _ _ h.ow.trs)
/-- Behind slices.Sort. -/
structure OutS (w1 w : World) (thr : Int) (B : Nat) (n : List Int) (i : List Tr) (A5 : Option Addr) (c5 : Nat) (A6 : Option Addr) (c6 : Nat) (cells : List Value) (wr : World) : Prop where
  fr : Fr none w1 wr
  hB : w1.heap.size ≤ B
  tb : TB wr B (.int .i64 thr) (.slice A5 n.length c5) (.slice A6 i.length c6)
  s5 : SlD wr (fun b => (Value.slice A5 n.length c5).ownBlock = some b) 1 (.slice A5 n.length c5) ((sortN n).map (Value.int .i64))
  own6 : wr.ownsRow w1.heap.size 31 3 (.slice A6 i.length c6) i.length cells
  b5 : ∀ g, (Value.slice A5 n.length c5).ownBlock = some g → w1.heap.size ≤ g ∧ g < wr.heap.size ∧ g ≠ B ∧ (Value.slice A6 i.length c6).ownBlock ≠ some g
  e6 : (Value.slice A6 i.length c6).ownBlock ≠ some B
  hz : w.heap.size ≤ wr.heap.size
  trs : TrsD wr (Do (fun b => b = B) w1 w (.slice A5 n.length c5) (.slice A6 i.length c6)) cells i
theorem OutF.sorted (h : OutF w1 thr B n i A5 c5 A6 c6 cells w) (hS : SlD w' (fun b => (Value.slice A5 n.length c5).ownBlock = some b) 1 (.slice A5 n.length c5) ((sortN n).map (Value.int .i64))) (F : Fr (Value.slice A5 n.length c5).ownBlock w w') : OutS w1 w thr B n i A5 c5 A6 c6 cells w' := by
  have hz := F.size
  refine ⟨h.ow.fr.own F (own_blk_ge h.ow.own5), h.hB, h.tb.fr F h.e5, hS, own_keep2 h.ow.own6 F (fun b e e2 => h.ow.dis b e2 e), fun g e => ⟨(h.ow.own5.lt _ e).1, by have := (h.ow.own5.lt _ e).2; omega, fun e2 => h.e5 (e2 ▸ e), h.ow.dis g e⟩, h.e6, hz, TrsD.keep (fun k hk => ⟨hk, F.block k hk.2.1 (fun e => hk.2.2.1 e.symm)⟩) _ _ h.ow.trs⟩
theorem OutS.dlt {wr : World} (h : OutS w1 w thr B n i A5 c5 A6 c6 cells wr) : ∀ b, Do (fun b => b = B) w1 w (.slice A5 n.length c5) (.slice A6 i.length c6) b → b < wr.heap.size ∧ (Value.slice A6 i.length c6).ownBlock ≠ some b :=
  fun b hb => ⟨by have := hb.2.1; have := h.hz; omega, hb.2.2.2.1⟩
/-- Behind slices.SortFunc. -/
theorem OutS.inner {wr : World} {cells' : List Value} (h : OutS w1 w thr B n i A5 c5 A6 c6 cells wr) (h0 : Wi thr) (hn : ∀ x ∈ n, 0 ≤ x ∧ x < 10) (hd : n.Nodup) (hnl : n.length ≤ 900000) (hil : i.length ≤ 900000)
    (hS : SlD w' (fun b => (Value.slice A6 i.length c6).ownBlock = some b) 3 (.slice A6 i.length c6) cells') (hT : TrsD w' (Do (fun b => b = B) w1 w (.slice A5 n.length c5) (.slice A6 i.length c6)) cells' (sortT i)) (F : Fr (Value.slice A6 i.length c6).ownBlock wr w') :
    MidP Nob w1 B (.mk thr (sortN n) (sortT i)) (.int .i64 thr) (.slice A5 (sortN n).length c5) (.slice A6 (sortT i).length c6) w' := by
  have l1 := (sortN_perm hn hd).length_eq
  have l2 := (sortT_perm i).length_eq
  have hz := F.size
  have hzz := h.hz
  have o6 := h.own6.lt
  rw [l1, l2]
  refine ⟨h.fr.own F (own_blk_ge h.own6), h.hB, h.tb.fr F h.e6, TrD.mk_ h0 (h.s5.keep (fun k hk => ?_)) (fun x hx => ?_) (hS.keep (fun k hk => ⟨.inr ⟨(o6 _ hk).1, by have := (o6 _ hk).2; omega, fun e => h.e6 (e ▸ hk)⟩, rfl⟩)) (by omega) (by omega) (TrsD.keep (fun k hk => ⟨.inr ⟨hk.1, by have := hk.2.1; omega, hk.2.2.2.2⟩, rfl⟩) _ _ hT)⟩
  · obtain ⟨a1, a2, a3, a4⟩ := h.b5 k hk
    exact ⟨.inr ⟨a1, by omega, a3⟩, F.block k a2 (fun e => a4 e.symm)⟩
  · have := hn x ((mem_sortN hn x).1 hx)
    constructor <;> omega
end
theorem nwb_dw {w w' : World} : ∀ b, Dw Nob w w' b → Nwb w w' b ∧ w'.heap[b]? = w'.heap[b]? := fun b hb => by
  rcases hb with h | h
  · exact h.elim
  · exact ⟨h, rfl⟩
theorem lift_facts {thr : Int} {nodes : List Int} {inner : List Tr} (h : OkT (.mk thr nodes inner)) {n : List Int} {i : List Tr} (e : (normL inner).foldl liftS (nodes, []) = (n, i)) : OkT (.mk thr n i) ∧ n.length + wgt i ≤ nodes.length + wgt inner := by
  obtain ⟨a, b, c, d, e'⟩ := (okT_mk _ _ _).1 h
  obtain ⟨l1, l2, l3, l4, l5⟩ := norm_relL inner e'
  obtain ⟨f1, f2, f3, f4, f5, f6, f7⟩ := lift_all (normL inner) (nodes, []) l2 d c (by simp)
  have hw : wgt ([] : List Tr) = 0 := by simp [wgt, sizeL]
  rw [e] at f2 f3 f4 f5 f6
  simp only [List.length_nil, Nat.add_zero, hw] at f2 f3 f4 f5 f6
  exact ⟨(okT_mk _ _ _).2 ⟨a, by omega, f4, f3, f5⟩, by omega⟩
end Go.Proofs.YtpdhckbiioobhaaGreatDoor

/- Walks: normal.normal. -/
namespace Go.Proofs.YtpdhckbiioobhaaGreatDoor
open Go.RowKit

set_option maxRecDepth 100000 in
set_option maxHeartbeats 4000000 in
theorem nnorm_any (d : Nat) : ∀ (t : Tr) (v : Value) (D : Nat → Prop) (w : World), t.dep ≤ d → OkT t → t.size ≤ 900000 → (∀ b, D b → b < w.heap.size) → TrD w D v t →
    Calls Tryz.prog 82 #[v] w fun e w' => ∃ v', e = .returned v' ∧ TrD w' (Nwb w w') v' (normT t) ∧ Fr none w w' := by
  induction d with
  | zero =>
    intro t v D w hd
    cases t
    simp [Tr.dep] at hd
  | succ d ih =>
    intro t v D w hd hok hsz hD ht
    obtain ⟨thr, nodes, inner⟩ := t
    have hdi : depL inner ≤ d := by simp only [Tr.dep] at hd; omega
    rw [size_mk] at hsz
    rw [okT_mk] at hok
    have hin : ∀ x ∈ inner, x.dep ≤ d ∧ OkT x := fun x hx => ⟨(depL_le inner d).1 hdi x hx, hok.2.2.2.2 x hx⟩
    have HIN := Lib.hid hin
    have HOK := Lib.hid hok
    have HNT : Hid (normT (.mk thr nodes inner) = finT (ordT (mrgT thr ((normL inner).foldl liftS (nodes, []))))) := by unfold Hid; simp only [normT]
    simp only [TrD] at ht
    obtain ⟨vn, vi, cells, rfl, h0, h1, h2, h3, h4, h5, h6⟩ := ht
    obtain ⟨A, n, c, rfl, hl, hnc, hm, hx⟩ := id h1
    obtain ⟨A', n', c', rfl, hl', hnc', hm', hx'⟩ := id h3
    have hlen := h6.len
    obtain rfl : n' = inner.length := by omega
    obtain rfl : n = nodes.length := by simpa using hl.symm
    unfold Few at h4 h5
    unfold maxLen at hm hm'
    have HD := Lib.hid hD
    clear hl hl' hlen hD hx hd hdi hin hok
    go_enter Tryz.func82, Tryz.ntmps82
    go_upto_region 1 with (fail)
    generalize hW : (w.alloc _).alloc _ = w1
    have hz1 : w.heap.size + 2 ≤ w1.heap.size := by rw [← hW]; simp
    have F1 : Fr none w w1 := hW ▸ ((Fr.refl none w).alloc _).alloc _
    have b2 : TB w1 w.heap.size (.int .i64 thr) (.slice A nodes.length c) (.slice A' inner.length c') := by rw [← hW]; exact (Below.heap_alloc _ _ _ (by simp)).trans (blk_new _ _)
    have b4 : TB w1 (w.heap.size + 1) (.int .i64 0) (.slice none 0 0) (.slice none 0 0) := by rw [← hW]; exact blk_new_at (by simp) _
    clear hW
    have hs1 : SlI w1 none (.slice A nodes.length c) nodes := ⟨h1.keep (fun q hq => ⟨⟨by have := HD.out q hq; omega, by simp⟩, F1.block q (HD.out q hq) (by simp)⟩), h2⟩
    have hlt0 := blk_lt b2
    have R2 := b2.cell
    go_cut [3, 6, 7, 8, 9, 10, 11] (fun s3 _ _ _ _ _ _ wr => OutI w1 thr nodes s3 wr)
    case first =>
      refine wp_region_held_drew (S := fun W => (∀ i, W.cell? ⟨w.heap.size, i, none⟩ = (#[.int .i64 thr, .slice A nodes.length c, .slice A' inner.length c'] : Array Value)[i]?) ∧ Fr none w1 W) (by kernel_rfl) ⟨b2.cell, (Fr.refl _ _).drew⟩ (fun hH0 => ?_)
      have Fd : Fr none w1 w1.drew := (Fr.refl _ _).drew
      have Kd : TB w1.drew w.heap.size (.int .i64 thr) (.slice A nodes.length c) (.slice A' inner.length c') := b2
      have hsd : SlI w1.drew none (.slice A nodes.length c) nodes := ⟨hs1.1.keep (w := w1) (w' := w1.drew) (fun q hq => ⟨hq, rfl⟩), hs1.2⟩
      have hzd1 : w1.heap.size ≤ w1.drew.heap.size := Nat.le_refl w1.heap.size
      have hzd2 : w1.drew.heap.size ≤ w1.heap.size := Nat.le_refl w1.heap.size
      generalize w1.drew = wd at *
      refine wpAnyH_take (i := 0) (v := ?_) rfl (by kernel_rfl) (by kernel_rfl) (by kernel_rfl) (fun _ _ _ h => h) (Or.inl ⟨by rfl, ?_⟩) (by assumption) ?_
      rotate_left
      · (intro W hW; (try dsimp only at hW); go_simp; try with_reducible rfl)
      try simp only [Act.put, List.setIfInBounds_toArray, List.set_cons_zero, List.set_cons_succ, List.getElem_toArray, List.getElem_cons_zero, List.getElem_cons_succ]
      refine wpAnyH_take (i := 1) (v := ?_) rfl (by kernel_rfl) (by kernel_rfl) (by kernel_rfl) (fun _ _ _ h => h) (Or.inl ⟨by rfl, ?_⟩) (by assumption) ?_
      rotate_left
      · (intro W hW; (try dsimp only at hW); go_simp; try with_reducible rfl)
      try simp only [Act.put, List.setIfInBounds_toArray, List.set_cons_zero, List.set_cons_succ, List.getElem_toArray, List.getElem_cons_zero, List.getElem_cons_succ]
      refine wpAnyH_take (i := 2) (v := ?_) rfl (by kernel_rfl) (by kernel_rfl) (by kernel_rfl) (fun _ _ _ h => h) (Or.inl ⟨by rfl, ?_⟩) (by assumption) ?_
      rotate_left
      · (intro W hW; (try dsimp only at hW); go_simp; try with_reducible rfl)
      try simp only [Act.put, List.setIfInBounds_toArray, List.set_cons_zero, List.set_cons_succ, List.getElem_toArray, List.getElem_cons_zero, List.getElem_cons_succ]
      refine wpAnyH_take (i := 3) (v := ?_) rfl (by kernel_rfl) (by kernel_rfl) (by kernel_rfl) (fun _ _ _ h => h) (Or.inl ⟨by rfl, ?_⟩) (by assumption) ?_
      rotate_left
      · (intro W hW; (try dsimp only at hW); go_simp; try with_reducible rfl)
      try simp only [Act.put, List.setIfInBounds_toArray, List.set_cons_zero, List.set_cons_succ, List.getElem_toArray, List.getElem_cons_zero, List.getElem_cons_succ]
      refine wpAnyH_ready (rs := [4, 6]) (by kernel_rfl) (by simp) ?_
      refine AllReadyH.cons rfl (fun K hK => ?_) (AllReadyH.cons rfl (fun K hK => ?_) AllReadyH.nil)
      · simp only [List.getElem_toArray, List.getElem_cons_zero, List.getElem_cons_succ]
        go_simp
        go_at_call 131
        refine (cloneO_any nodes A c _ hsd (by omega)).mono ?_
        rintro e w5 ⟨A5, c5, rfl, own5, F5⟩
        have F7 := Fd.pure F5
        have hz7 := F7.size
        refine hK.out _ _ ⟨(Kd.fr F5 (by simp)).cell, F7⟩ (fun hH1 => ?_)
        clear hK K hH0
        try simp only [Act.put, List.setIfInBounds_toArray, List.set_cons_zero, List.set_cons_succ, List.getElem_toArray, List.getElem_cons_zero, List.getElem_cons_succ]
        refine wpAnyH_take (i := 5) (v := ?_) rfl (by kernel_rfl) (by kernel_rfl) (by kernel_rfl) (fun _ _ _ h => h) (Or.inl ⟨by rfl, ?_⟩) (by assumption) ?_
        rotate_left
        · (intro W hW; (try dsimp only at hW); go_simp; try with_reducible rfl)
        try simp only [Act.put, List.setIfInBounds_toArray, List.set_cons_zero, List.set_cons_succ, List.getElem_toArray, List.getElem_cons_zero, List.getElem_cons_succ]
        refine wpAnyH_ready (rs := [6]) (by kernel_rfl) (by simp) ?_
        refine AllReadyH.cons rfl (fun K hK => ?_) AllReadyH.nil
        simp only [List.getElem_toArray, List.getElem_cons_zero, List.getElem_cons_succ]
        go_simp
        have FA := F7.alloc (.cells #[.int .i64 0, .slice none 0 0, .slice none 0 0] 31)
        refine hK.out _ _ ⟨(b2.fr FA (by simp)).cell, FA⟩ (fun hH2 => ?_)
        clear hK K hH1
        try simp only [Act.put, List.setIfInBounds_toArray, List.set_cons_zero, List.set_cons_succ, List.getElem_toArray, List.getElem_cons_zero, List.getElem_cons_succ]
        refine wpAnyH_ready (rs := [7]) (by kernel_rfl) (by simp) ?_
        refine AllReadyH.cons rfl (fun K hK => ?_) AllReadyH.nil
        simp only [List.getElem_toArray, List.getElem_cons_zero, List.getElem_cons_succ]
        go_simp
        have FB := F7.alloc (.cells #[.int .i64 thr, .slice A5 nodes.length c5, .slice none 0 0] 31)
        refine hK.out _ _ ⟨(b2.fr FB (by simp)).cell, FB⟩ (fun hH3 => ?_)
        clear hK K hH2
        try simp only [Act.put, List.setIfInBounds_toArray, List.set_cons_zero, List.set_cons_succ, List.getElem_toArray, List.getElem_cons_zero, List.getElem_cons_succ]
        refine wpAnyH_done (by kernel_rfl) ?_ _
        go_wp2_with fail
        go_meet
        exact ⟨w5.heap.size, A5, c5, rfl, FB, hz7, blk_new _ _, own_base (own5.alloc _) (by omega), fun h => by have := (own5.lt _ h).2; omega⟩
      · simp only [List.getElem_toArray, List.getElem_cons_zero, List.getElem_cons_succ]
        go_simp
        have FL := (Fr.refl none wd).alloc (.cells #[.int .i64 0, .slice none 0 0, .slice none 0 0] 31)
        refine hK.out _ _ ⟨(Kd.fr FL (by simp)).cell, Fd.pure FL⟩ (fun hH1 => ?_)
        clear hK K hH0
        try simp only [Act.put, List.setIfInBounds_toArray, List.set_cons_zero, List.set_cons_succ, List.getElem_toArray, List.getElem_cons_zero, List.getElem_cons_succ]
        refine wpAnyH_ready (rs := [4]) (by kernel_rfl) (by simp) ?_
        refine AllReadyH.cons rfl (fun K hK => ?_) AllReadyH.nil
        simp only [List.getElem_toArray, List.getElem_cons_zero, List.getElem_cons_succ]
        go_simp
        go_at_call 131
        refine (cloneO_any nodes A c _ ⟨hsd.1.keep (fun q hq => ⟨⟨Nat.lt_of_lt_of_le hq.1 FL.size, by simp⟩, FL.block q hq.1 (by simp)⟩), hsd.2⟩ (by omega)).mono ?_
        rintro e w5 ⟨A5, c5, rfl, own5, F5⟩
        have F6 : Fr none wd w5 := FL.pure F5
        have F7 := Fd.pure F6
        have hb0 : TB w5 wd.heap.size (.int .i64 0) (.slice none 0 0) (.slice none 0 0) := blk_fr (blk_new wd _) F5 (by simp)
        have hne : (Value.slice A5 nodes.length c5).ownBlock ≠ some wd.heap.size := fun h => by
          have := (own5.lt _ h).1
          simp at this; omega
        refine hK.out _ _ ⟨(Kd.fr F6 (by simp)).cell, F7⟩ (fun hH3 => ?_)
        clear hK K hH1
        try simp only [Act.put, List.setIfInBounds_toArray, List.set_cons_zero, List.set_cons_succ, List.getElem_toArray, List.getElem_cons_zero, List.getElem_cons_succ]
        refine wpAnyH_take (i := 5) (v := ?_) rfl (by kernel_rfl) (by kernel_rfl) (by kernel_rfl) (fun _ _ _ h => h) (Or.inl ⟨by rfl, ?_⟩) (by assumption) ?_
        rotate_left
        · (intro W hW; (try dsimp only at hW); go_simp; try with_reducible rfl)
        try simp only [Act.put, List.setIfInBounds_toArray, List.set_cons_zero, List.set_cons_succ, List.getElem_toArray, List.getElem_cons_zero, List.getElem_cons_succ]
        have Rz := hb0.cell
        have Zz := hb0.free
        refine wpAnyH_ready (rs := [7]) (by kernel_rfl) (by simp) ?_
        refine AllReadyH.cons rfl (fun K hK => ?_) AllReadyH.nil
        simp only [List.getElem_toArray, List.getElem_cons_zero, List.getElem_cons_succ]
        go_simp
        have G := fr_fill3 w5 wd.heap.size (.int .i64 thr) (.slice A5 nodes.length c5) (.slice none 0 0)
        have hbf := tb_fill3 hb0 (.int .i64 thr) (.slice A5 nodes.length c5) (.slice none 0 0)
        have FB := F7.own G (by simp; omega)
        refine hK.out _ _ ⟨(b2.fr FB (by simp)).cell, FB⟩ (fun hH4 => ?_)
        clear hK K hH3 Rz Zz
        try simp only [Act.put, List.setIfInBounds_toArray, List.set_cons_zero, List.set_cons_succ, List.getElem_toArray, List.getElem_cons_zero, List.getElem_cons_succ]
        refine wpAnyH_done (by kernel_rfl) ?_ _
        go_wp2_with fail
        go_meet
        exact ⟨wd.heap.size, A5, c5, rfl, FB, by omega, hbf, own_base (own_ne_fr own5 G (by simpa using hne)) (by simp; omega), hne⟩
    case rest =>
      obtain ⟨B, A5, c5, rfl, F, hB, bB, own, hne⟩ := hcut
      have hM0 : NrmI Nob w1 thr B nodes [] A5 c5 none 0 [] wc := ⟨F, hB, bB, own, hne, h2, World.ownsRow_nil _ _ _ _, by simp [Value.ownBlock], fun _ _ => by simp [Value.ownBlock], by simp [TrsD]⟩
      have b2c := b2.fr F (by simp)
      have R2 := b2c.cell
      clear bB own hne hs1 h1 F
      obtain ⟨wo, hwo⟩ : ∃ wo : World, wo = wc := ⟨_, rfl⟩
      subst hwo
      go_wp2_with fail
      go_loopw [15, 5] (fun s15 s5 wr => ∃ (j : Nat) (i : List Tr) (A6 : Option Addr) (c6 : Nat) (cs : List Value), s15 = .int .i64 (j : Int) ∧ j ≤ inner.length ∧ NrmI Nob w1 thr B nodes i A5 c5 A6 c6 cs wr ∧
        Hid (normL inner = i ++ normL (inner.drop j)) ∧ wgt i + wgt (inner.drop j) ≤ wgt inner) (fun s15 _ _ => inner.length - (intOf s15).toNat)
      case atStart => exact ⟨0, [], none, 0, [], rfl, Nat.zero_le _, hM0, by simp [Hid], by simp [wgt, sizeL]⟩
      case round =>
        clear hM0 R2
        obtain ⟨j, i, A6, c6, cs, rfl, hj, hM, HJ, hbd⟩ := hrel
        have Fwr := F1.pure hM.fr
        by_cases hlt : j < inner.length
        · have hdj : inner.drop j = inner[j] :: inner.drop (j + 1) := List.drop_eq_getElem_cons hlt
          obtain ⟨b, off, rfl, hb, hcc⟩ := hx' (by omega)
          obtain ⟨x0, y0, z0, e0, e1, e2, hy0⟩ := h6.get j hlt
          obtain ⟨hyd, hyo⟩ := HIN.out inner[j] (List.getElem_mem _)
          rw [hdj] at HJ hbd
          rw [wgt_cons] at hbd
          generalize inner[j] = x at *
          have hns := (norm_rel x hyo).2.2.1
          have HNL : Hid (normL (x :: inner.drop (j + 1)) = normT x :: normL (inner.drop (j + 1))) := by unfold Hid; simp only [normL]
          obtain ⟨ty, B1, m1, d1, B2, m2, d2, hsh⟩ := hy0.shape
          simp only [Value.agg.injEq, Array.mk.injEq, List.cons.injEq, and_true] at hsh
          obtain ⟨rfl, rfl, rfl⟩ := hsh
          have g0 := Fwr.keep (hcc _ _ e0) (by simp)
          have g1 := Fwr.keep (hcc _ _ e1) (by simp)
          have g2 := Fwr.keep (hcc _ _ e2) (by simp)
          rw [← Nat.add_assoc] at g1 g2
          clear e0 e1 e2 hcc hdj
          go_upto_region 5 with (fail)
          generalize hW : wr.alloc _ = wx
          have Fx : Fr none wr wx := hW ▸ (Fr.refl none wr).alloc _
          have bx : TB wx wr.heap.size (.int .i64 ty) (.slice B1 m1 d1) (.slice B2 m2 d2) := by rw [← hW]; exact blk_new _ _
          clear hW g0 g1 g2
          have hMd := hM.pure nob_lt (Fx.pure (Fr.refl none wx).drew)
          have Fwx := Fwr.pure (Fx.pure (Fr.refl none wx).drew)
          have hTx : TrD wx.drew D (.agg #[.int .i64 ty, .slice B1 m1 d1, .slice B2 m2 d2]) x := TrD.keep (fun q hq => ⟨hq, Fwx.block q (HD.out q hq) (by simp)⟩) _ _ hy0
          have hxs : x.size ≤ 900000 := by omega
          have hDx : ∀ b, D b → b < wx.drew.heap.size := fun b hb => by have := HD.out b hb; have := Fwx.size; omega
          have HDX := Lib.hid hDx
          have HTX := Lib.hid hTx
          have hB0 := hMd.tb
          have R0 := hB0.cell
          have Rx := bx.cell
          have hlx := blk_lt bx
          have hl0 : B < wx.heap.size := blk_lt hB0
          have ne6 := hMd.ne6
          have hil : i.length ≤ 900000 := by unfold wgt at hbd; unfold wgt at hsz; omega
          have hzb : w1.heap.size ≤ wx.heap.size := (hM.fr.pure Fx).size
          clear hM hDx hTx hy0
          go_region_law (first | (go_simp; go_at_call 82; refine (ih x _ D _ hyd hyo hxs HDX.out HTX.out).mono ?_; rintro e w3 ⟨v3, rfl, hT3, F3⟩; obtain ⟨tx, X1, p1, k1, X2, p2, k2, rfl⟩ := hT3.shape; have hM3 := hMd.pure nob_lt F3; have K3 := hM3.tb; have R3 := K3.cell; have Z3 := K3.free; have hl3 := blk_lt K3; have own6 := hM3.own6; have hz3 := F3.size; have hz31 := hM3.fr.size) | (refine step_app_lit eiTrust rfl _ _ rfl w1.heap.size A6 i.length c6 _ rfl own6 1 [.int .i64 tx, .slice X1 p1 k1, .slice X2 p2 k2] _ _ rfl (by simp) rfl (by simp [Value.oneCell']) (by omega) (by unfold maxLen; omega) hz31 ?_; intro A7 c7 w7 own7 F7 nb7; have K7 := K3.fr F7 ne6; have R7 := K7.cell; have Z7 := K7.free))
          all_goals
            go_wp2_with fail
            go_roundw
            case rel =>
              have hxd := hMd.dw (TrD.keep (fun q hq => ⟨.inr hq, rfl⟩) _ _ hT3)
              exact ⟨j + 1, i ++ [normT x], A7, c7, _, by go_num, by omega, hM3.inner nob_lt hxd own7 F7 nb7, by unfold Hid; rw [HJ.out, HNL.out]; simp, by rw [wgt_append, wgt_one]; omega⟩
            case measure => simp [intOf]; omega
        · obtain rfl : j = inner.length := by omega
          have hNI : normL inner = i := by rw [HJ.out]; simp [normL]
          obtain ⟨st, hst⟩ : ∃ st, st = i.foldl liftS (nodes, []) := ⟨_, rfl⟩
          obtain ⟨n7, i7⟩ := st
          obtain ⟨hok7, hsz7⟩ := lift_facts ((okT_mk _ _ _).2 HOK.out) (n := n7) (i := i7) (by rw [hNI]; exact hst.symm)
          have HF : Hid ((normL inner).foldl liftS (nodes, []) = (n7, i7)) := by unfold Hid; rw [hNI]; exact hst.symm
          have hiw : wgt i ≤ wgt inner := by omega
          have hO := hM.outf
          have hLF := lifted_any (fun b => b = B) thr nodes i A5 c5 A6 c6 cs w1 wr hO.ow (by omega)
          rw [← hst] at hLF
          delta RowsP at hLF
          dsimp only at hLF
          have HLF := Lib.hid hLF
          have tb := hO.tb
          have RB := tb.cell
          have hBl := blk_lt tb
          have HOK7 := Lib.hid hok7
          have hl7 : i7.length ≤ wgt i7 := by unfold wgt; omega
          have hn7 : n7.length ≤ 900000 := by omega
          have hi7 : i7.length ≤ 900000 := by omega
          clear HJ hM hNI hst hLF hok7 hbd
          go_wp2_with fail
          refine HLF.out.mono ?_
          rintro e w3 ⟨A9, c9, A10, c10, cs9, rfl, ow9, F9, nw9, n69⟩
          have hO9 := hO.step ow9 F9 nw9 n69
          have K3 := (hO.tb).fr F9 hO.e5
          have R3 := K3.cell
          have Z3 := K3.free
          have hl3 := blk_lt K3
          clear RB tb hBl ow9 F9 nw9 n69 HLF
          go_upto_region 8 with (fail)
          clear R3 Z3 K3 hl3
          generalize World.setCell (World.setCell (World.setCell w3 _ _) _ _) _ _ = w4 at *
          clear hO
          have tb := hO9.tb
          have RB := tb.cell
          have hBl := blk_lt tb
          go_wp2_with fail
          refine (anyOf_any (.mk thr n7 i7) _ _ _ (hO9.trd h0 hn7 hi7)).mono ?_
          rintro e w5 ⟨rfl, F5⟩
          have hO5 := hO9.pure F5
          clear RB tb hBl hO9
          have tb := hO5.tb
          have RB := tb.cell
          have hBl := blk_lt tb
          by_cases h1 : thr = 1
          · subst h1
            have hMR : mrgT 1 (n7, i7) = .mk 1 (mergeL false (n7, i7)).1 (mergeL false (n7, i7)).2 := by unfold mrgT; rw [if_pos rfl]; rfl
            have hok9 := (mrg_rel (st := (n7, i7)) HOK7.out).1
            have hsz9 := merge_wgt false i7 (n7, [])
            have hDA := dissAny_any (fun b => b = B) 1 n7 i7 A9 c9 A10 c10 cs9 w1 w5 hO5.ow (by omega)
            rw [hMR] at hok9
            change (mergeL false (n7, i7)).1.length + wgt (mergeL false (n7, i7)).2 ≤ _ at hsz9
            obtain ⟨st, hst⟩ : ∃ st, st = mergeL false (n7, i7) := ⟨_, rfl⟩
            rw [← hst] at hMR hok9 hsz9 hDA
            obtain ⟨n9, i9⟩ := st
            delta RowsP at hDA
            dsimp only at hMR hok9 hsz9 hDA
            have hw0 : wgt ([] : List Tr) = 0 := by simp [wgt, sizeL]
            have hl9 : i9.length ≤ wgt i9 := by unfold wgt; omega
            have hn9 : n9.length ≤ 900000 := by omega
            have hi9 : i9.length ≤ 900000 := by omega
            obtain ⟨_, _, hrg, hnd, _⟩ := (okT_mk _ _ _).1 hok9
            have HMR := Lib.hid hMR
            have HDA := Lib.hid hDA
            have HRG := Lib.hid hrg
            have HND := Lib.hid hnd
            have hthw := h0
            have htk : tak false (.mk 1 n7 i7) = true := by simp [tak, Tr.thr]
            rw [htk]
            clear hst hMR hok9 hDA hrg hnd htk hw0 hsz9 hl9
            go_wp2_with fail
            refine HDA.out.mono ?_
            rintro e w3 ⟨A9, c9, A10, c10, cs9, rfl, ow9, F9, nw9, n69⟩
            have hO9 := hO5.step ow9 F9 nw9 n69
            have K3 := (hO5.tb).fr F9 hO5.e5
            have R3 := K3.cell
            have Z3 := K3.free
            have hl3 := blk_lt K3
            clear RB tb hBl ow9 F9 nw9 n69 HDA
            go_upto_region 13 with (fail)
            clear R3 Z3 K3 hl3
            generalize World.setCell (World.setCell (World.setCell w3 _ _) _ _) _ _ = w4 at *
            clear hO5
            have tb := hO9.tb
            have RB := tb.cell
            have hBl := blk_lt tb
            have ow5 := hO9.ow.own5
            go_wp2_with fail
            refine (sortNd_any n9 A9 c9 w1.heap.size w4 ow5 HRG.out HND.out).mono ?_
            rintro e wS ⟨rfl, hS5, FS⟩
            have hS := hO9.sorted hS5 FS
            have K6 := hS.tb
            clear tb RB ow5 hS5 FS hBl
            have RS := K6.cell
            have hBl := blk_lt K6
            go_wp2_with fail
            refine (sortI_any i9 _ _ _ w1.heap.size wS _ hS.own6 hS.dlt hS.trs (by omega)).mono ?_
            rintro e w6 ⟨rfl, cells', hS6, hT6, F6⟩
            have hm5 := hS.inner hthw HRG.out HND.out (by omega) (by omega) hS6 hT6 F6
            have HFO : Hid (ordT (.mk 1 n9 i9) = .mk 1 (sortN n9) (sortT i9)) := rfl
            clear RS K6 hBl hS hS6 hT6 F6
            generalize sortN n9 = nO at hm5 HFO
            generalize sortT i9 = iO at hm5 HFO
            have hTO := hm5.2.2.2
            simp only [TrD] at hTO
            obtain ⟨vnx, vix, cx, hsh, k0, q1, q2, q3, q4, q5, q6⟩ := hTO
            simp only [Value.agg.injEq, Array.mk.injEq, List.cons.injEq, and_true] at hsh
            obtain ⟨hsh0, hsh1, hsh2⟩ := hsh
            subst hsh1 hsh2
            obtain ⟨Y1, nn, d1, e1, l1, l2, l3, l4⟩ := id q1
            injection e1 with a1 a2 a3
            subst a1 a2 a3
            obtain ⟨Y2, mm, d2, e2, r1, r2, r3, r4⟩ := id q3
            injection e2 with a1 a2 a3
            subst a1 a2 a3
            unfold Few at q4 q5
            unfold maxLen at l3 r3
            have K6 := hm5.2.2.1
            have R6 := K6.cell
            have hl6 := blk_lt K6
            have b46 := b4.fr hm5.1 (by simp)
            have R4 := b46.cell
            have Z4 := b46.free
            have hl4 := blk_lt b46
            have F16 := F1.pure hm5.1
            by_cases hn0 : nO.length = 0
            · obtain rfl : nO = [] := List.eq_nil_of_length_eq_zero hn0
              by_cases hi1 : iO.length = 1
              · obtain ⟨y, rfl⟩ := List.length_eq_one_iff.1 hi1
                have HFN : Hid (finT (.mk 1 [] [y]) = y) := rfl
                obtain ⟨bb, oo, rfl, hbb, hcc⟩ := r4 (by simp)
                obtain ⟨x0, y0, z0, e0, e1, e2, hy0⟩ := q6.get 0 (by simp)
                simp only [Nat.zero_mul, Nat.zero_add] at e0 e1 e2
                have hyT : TrD w6 (Db Nob w1 w6 B) (.agg #[x0, y0, z0]) y := hy0
                obtain ⟨ty, W1, p1, v1, W2, p2, v2, hsh⟩ := hyT.shape
                simp only [Value.agg.injEq, Array.mk.injEq, List.cons.injEq, and_true] at hsh
                obtain ⟨rfl, rfl, rfl⟩ := hsh
                have g0 : w6.cell? ⟨bb, oo, none⟩ = some (.int .i64 ty) := hcc _ _ e0
                have g1 : w6.cell? ⟨bb, oo + 1, none⟩ = some (.slice W1 p1 v1) := hcc _ _ e1
                have g2 : w6.cell? ⟨bb, oo + 2, none⟩ = some (.slice W2 p2 v2) := hcc _ _ e2
                clear e0 e1 e2 hcc
                go_wp2_with fail
                refine bodyPost_ret (v := .agg #[.int .i64 ty, .slice W1 p1 v1, .slice W2 p2 v2]) (by simp [results, Tryz.results82, go_sem, R4, R6]) rfl ?_
                obtain ⟨f1, f2⟩ := hm5.fin nob_lt hz1 F1 hyT (fr_fill3 w6 (w.heap.size + 1) _ _ _)
                exact ⟨_, rfl, by rw [HNT.out, HF.out, HMR.out, HFO.out, HFN.out]; exact TrD.keep nwb_dw _ _ f1, f2⟩
              · have HFN : Hid (finT (.mk 1 [] iO) = .mk 1 [] iO) := by
                  unfold Hid finT
                  rcases iO with _ | ⟨y, _ | ⟨y2, r⟩⟩
                  · rfl
                  · exact absurd rfl hi1
                  · rfl
                have hb1 : ((iO.length : Int) == 1) = false := by rw [beq_eq_false_iff_ne]; omega
                clear hi1
                go_wp2_with fail
                refine bodyPost_ret (v := .agg #[.int .i64 1, .slice A9 0 c9, .slice A10 iO.length c10]) (by simp [results, Tryz.results82, go_sem, R4, R6]) rfl ?_
                obtain ⟨f1, f2⟩ := hm5.fin nob_lt hz1 F1 hm5.2.2.2 (fr_fill3 w6 (w.heap.size + 1) _ _ _)
                exact ⟨_, rfl, by rw [HNT.out, HF.out, HMR.out, HFO.out, HFN.out]; exact TrD.keep nwb_dw _ _ f1, f2⟩
            · have HFN : Hid (finT (.mk 1 nO iO) = .mk 1 nO iO) := by
                unfold Hid finT
                cases nO with
                | nil => exact absurd rfl hn0
                | cons a r => rfl
              have hb1 : ((nO.length : Int) == 0) = false := by rw [beq_eq_false_iff_ne]; omega
              clear hn0
              go_wp2_with fail
              refine bodyPost_ret (v := .agg #[.int .i64 1, .slice A9 nO.length c9, .slice A10 iO.length c10]) (by simp [results, Tryz.results82, go_sem, R4, R6]) rfl ?_
              obtain ⟨f1, f2⟩ := hm5.fin nob_lt hz1 F1 hm5.2.2.2 (fr_fill3 w6 (w.heap.size + 1) _ _ _)
              exact ⟨_, rfl, by rw [HNT.out, HF.out, HMR.out, HFO.out, HFN.out]; exact TrD.keep nwb_dw _ _ f1, f2⟩
          · have htk : tak false (.mk thr n7 i7) = false := by simp [tak, Tr.thr, h1]
            rw [htk]
            have H1 := Lib.hid h1
            clear h1 htk
            go_wp2_with fail
            refine (allOf_any (.mk thr n7 i7) _ _ _ (fun b hb => hb.1) (hO5.trd h0 hn7 hi7)).mono ?_
            rintro e w6 ⟨rfl, F6⟩
            have hO6 := hO5.pure F6
            clear RB tb hBl hO5
            have tb := hO6.tb
            have RB := tb.cell
            have hBl := blk_lt tb
            by_cases h2 : thr = ((n7.length + i7.length : Nat) : Int)
            · have hMR : mrgT thr (n7, i7) = .mk (((mergeL true (n7, i7)).1.length + (mergeL true (n7, i7)).2.length : Nat) : Int) (mergeL true (n7, i7)).1 (mergeL true (n7, i7)).2 := by unfold mrgT; rw [if_neg H1.out, if_pos h2]; rfl
              have hok9 := (mrg_rel (st := (n7, i7)) HOK7.out).1
              have hsz9 := merge_wgt true i7 (n7, [])
              have hDA := dissAll_any (fun b => b = B) thr n7 i7 A9 c9 A10 c10 cs9 w1 w6 hO6.ow (by omega)
              rw [hMR] at hok9
              change (mergeL true (n7, i7)).1.length + wgt (mergeL true (n7, i7)).2 ≤ _ at hsz9
              obtain ⟨st, hst⟩ : ∃ st, st = mergeL true (n7, i7) := ⟨_, rfl⟩
              rw [← hst] at hMR hok9 hsz9 hDA
              obtain ⟨n9, i9⟩ := st
              delta RowsP at hDA
              dsimp only at hMR hok9 hsz9 hDA
              have hw0 : wgt ([] : List Tr) = 0 := by simp [wgt, sizeL]
              have hl9 : i9.length ≤ wgt i9 := by unfold wgt; omega
              have hn9 : n9.length ≤ 900000 := by omega
              have hi9 : i9.length ≤ 900000 := by omega
              obtain ⟨_, _, hrg, hnd, _⟩ := (okT_mk _ _ _).1 hok9
              rw [Int.natCast_add] at hMR
              have HMR := Lib.hid hMR
              have HDA := Lib.hid hDA
              have HRG := Lib.hid hrg
              have HND := Lib.hid hnd
              have htk : tak true (.mk thr n7 i7) = true := by
                show decide (thr = ((n7.length + i7.length : Nat) : Int)) = true
                exact decide_eq_true h2
              rw [htk]
              have H2 := Lib.hid h2
              clear hst hMR hok9 hDA hrg hnd htk hw0 hsz9 hl9 h2
              go_wp2_with fail
              refine HDA.out.mono ?_
              rintro e w3 ⟨A9, c9, A10, c10, cs9, rfl, ow9, F9, nw9, n69⟩
              have hO9 := hO6.step ow9 F9 nw9 n69
              have K3 := (hO6.tb).fr F9 hO6.e5
              have R3 := K3.cell
              have Z3 := K3.free
              have hl3 := blk_lt K3
              clear RB tb hBl ow9 F9 nw9 n69 HDA
              go_upto_region 12 with (fail)
              clear R3 Z3 K3 hl3
              generalize World.setCell (World.setCell (World.setCell w3 _ _) _ _) _ _ = w4 at *
              clear hO6
              have tb := hO9.tb
              have RB := tb.cell
              have ZB := tb.free
              have hBl := blk_lt tb
              go_wp2_with fail
              refine (nentries_any (.mk thr n9 i9) _ _ _ (hO9.trd h0 hn9 hi9)).mono ?_
              rintro e w7 ⟨rfl, F7⟩
              rw [show cnt1 (.mk thr n9 i9) = n9.length + i9.length from rfl]
              have hO7 := (hO9.pure F7).thr_ ((n9.length : Int) + (i9.length : Int))
              have K3 := tb.fr F7 (by simp)
              have R3 := K3.cell
              have Z3 := K3.free
              have hl3 := blk_lt K3
              have hthw : Wi ((n9.length : Int) + (i9.length : Int)) := by constructor <;> omega
              clear RB tb ZB hBl hO9
              go_upto_region 13 with (fail)
              clear R3 Z3 K3 hl3
              generalize World.setCell w7 _ _ = w8 at *
              obtain ⟨th9, hth9⟩ : ∃ th9, th9 = (n9.length : Int) + (i9.length : Int) := ⟨_, rfl⟩
              rw [← hth9] at hO7 hthw HMR
              clear hth9
              have tb := hO7.tb
              have RB := tb.cell
              have hBl := blk_lt tb
              have ow5 := hO7.ow.own5
              go_wp2_with fail
              refine (sortNd_any n9 A9 c9 w1.heap.size w8 ow5 HRG.out HND.out).mono ?_
              rintro e wS ⟨rfl, hS5, FS⟩
              have hS := hO7.sorted hS5 FS
              have K6 := hS.tb
              clear tb RB ow5 hS5 FS hBl
              have RS := K6.cell
              have hBl := blk_lt K6
              go_wp2_with fail
              refine (sortI_any i9 _ _ _ w1.heap.size wS _ hS.own6 hS.dlt hS.trs (by omega)).mono ?_
              rintro e w6 ⟨rfl, cells', hS6, hT6, F6⟩
              have hm5 := hS.inner hthw HRG.out HND.out (by omega) (by omega) hS6 hT6 F6
              have HFO : Hid (ordT (.mk th9 n9 i9) = .mk th9 (sortN n9) (sortT i9)) := rfl
              clear RS K6 hBl hS hS6 hT6 F6
              generalize sortN n9 = nO at hm5 HFO
              generalize sortT i9 = iO at hm5 HFO
              have hTO := hm5.2.2.2
              simp only [TrD] at hTO
              obtain ⟨vnx, vix, cx, hsh, k0, q1, q2, q3, q4, q5, q6⟩ := hTO
              simp only [Value.agg.injEq, Array.mk.injEq, List.cons.injEq, and_true] at hsh
              obtain ⟨hsh0, hsh1, hsh2⟩ := hsh
              subst hsh1 hsh2
              obtain ⟨Y1, nn, d1, e1, l1, l2, l3, l4⟩ := id q1
              injection e1 with a1 a2 a3
              subst a1 a2 a3
              obtain ⟨Y2, mm, d2, e2, r1, r2, r3, r4⟩ := id q3
              injection e2 with a1 a2 a3
              subst a1 a2 a3
              unfold Few at q4 q5
              unfold maxLen at l3 r3
              have K6 := hm5.2.2.1
              have R6 := K6.cell
              have hl6 := blk_lt K6
              have b46 := b4.fr hm5.1 (by simp)
              have R4 := b46.cell
              have Z4 := b46.free
              have hl4 := blk_lt b46
              have F16 := F1.pure hm5.1
              by_cases hn0 : nO.length = 0
              · obtain rfl : nO = [] := List.eq_nil_of_length_eq_zero hn0
                by_cases hi1 : iO.length = 1
                · obtain ⟨y, rfl⟩ := List.length_eq_one_iff.1 hi1
                  have HFN : Hid (finT (.mk th9 [] [y]) = y) := rfl
                  obtain ⟨bb, oo, rfl, hbb, hcc⟩ := r4 (by simp)
                  obtain ⟨x0, y0, z0, e0, e1, e2, hy0⟩ := q6.get 0 (by simp)
                  simp only [Nat.zero_mul, Nat.zero_add] at e0 e1 e2
                  have hyT : TrD w6 (Db Nob w1 w6 B) (.agg #[x0, y0, z0]) y := hy0
                  obtain ⟨ty, W1, p1, v1, W2, p2, v2, hsh⟩ := hyT.shape
                  simp only [Value.agg.injEq, Array.mk.injEq, List.cons.injEq, and_true] at hsh
                  obtain ⟨rfl, rfl, rfl⟩ := hsh
                  have g0 : w6.cell? ⟨bb, oo, none⟩ = some (.int .i64 ty) := hcc _ _ e0
                  have g1 : w6.cell? ⟨bb, oo + 1, none⟩ = some (.slice W1 p1 v1) := hcc _ _ e1
                  have g2 : w6.cell? ⟨bb, oo + 2, none⟩ = some (.slice W2 p2 v2) := hcc _ _ e2
                  clear e0 e1 e2 hcc
                  go_wp2_with fail
                  refine bodyPost_ret (v := .agg #[.int .i64 ty, .slice W1 p1 v1, .slice W2 p2 v2]) (by simp [results, Tryz.results82, go_sem, R4, R6]) rfl ?_
                  obtain ⟨f1, f2⟩ := hm5.fin nob_lt hz1 F1 hyT (fr_fill3 w6 (w.heap.size + 1) _ _ _)
                  exact ⟨_, rfl, by rw [HNT.out, HF.out, HMR.out, HFO.out, HFN.out]; exact TrD.keep nwb_dw _ _ f1, f2⟩
                · have HFN : Hid (finT (.mk th9 [] iO) = .mk th9 [] iO) := by
                    unfold Hid finT
                    rcases iO with _ | ⟨y, _ | ⟨y2, r⟩⟩
                    · rfl
                    · exact absurd rfl hi1
                    · rfl
                  have hb1 : ((iO.length : Int) == 1) = false := by rw [beq_eq_false_iff_ne]; omega
                  clear hi1
                  go_wp2_with fail
                  refine bodyPost_ret (v := .agg #[.int .i64 th9, .slice A9 0 c9, .slice A10 iO.length c10]) (by simp [results, Tryz.results82, go_sem, R4, R6]) rfl ?_
                  obtain ⟨f1, f2⟩ := hm5.fin nob_lt hz1 F1 hm5.2.2.2 (fr_fill3 w6 (w.heap.size + 1) _ _ _)
                  exact ⟨_, rfl, by rw [HNT.out, HF.out, HMR.out, HFO.out, HFN.out]; exact TrD.keep nwb_dw _ _ f1, f2⟩
              · have HFN : Hid (finT (.mk th9 nO iO) = .mk th9 nO iO) := by
                  unfold Hid finT
                  cases nO with
                  | nil => exact absurd rfl hn0
                  | cons a r => rfl
                have hb1 : ((nO.length : Int) == 0) = false := by rw [beq_eq_false_iff_ne]; omega
                clear hn0
                go_wp2_with fail
                refine bodyPost_ret (v := .agg #[.int .i64 th9, .slice A9 nO.length c9, .slice A10 iO.length c10]) (by simp [results, Tryz.results82, go_sem, R4, R6]) rfl ?_
                obtain ⟨f1, f2⟩ := hm5.fin nob_lt hz1 F1 hm5.2.2.2 (fr_fill3 w6 (w.heap.size + 1) _ _ _)
                exact ⟨_, rfl, by rw [HNT.out, HF.out, HMR.out, HFO.out, HFN.out]; exact TrD.keep nwb_dw _ _ f1, f2⟩
            · have hMR : mrgT thr (n7, i7) = .mk thr n7 i7 := by unfold mrgT; rw [if_neg H1.out, if_neg h2]
              obtain ⟨_, _, hrg, hnd, _⟩ := (okT_mk _ _ _).1 HOK7.out
              have HMR := Lib.hid hMR
              have HRG := Lib.hid hrg
              have HND := Lib.hid hnd
              have hthw := h0
              have htk : tak true (.mk thr n7 i7) = false := by
                show decide (thr = ((n7.length + i7.length : Nat) : Int)) = false
                exact decide_eq_false h2
              rw [htk]
              have H2 := Lib.hid h2
              clear hMR hrg hnd htk h2 RB tb hBl
              go_upto_region 13 with (fail)
              have tb := hO6.tb
              have RB := tb.cell
              have hBl := blk_lt tb
              have ow5 := hO6.ow.own5
              go_wp2_with fail
              refine (sortNd_any n7 A9 c9 w1.heap.size w6 ow5 HRG.out HND.out).mono ?_
              rintro e wS ⟨rfl, hS5, FS⟩
              have hS := hO6.sorted hS5 FS
              have K6 := hS.tb
              clear tb RB ow5 hS5 FS hBl
              have RS := K6.cell
              have hBl := blk_lt K6
              go_wp2_with fail
              refine (sortI_any i7 _ _ _ w1.heap.size wS _ hS.own6 hS.dlt hS.trs (by omega)).mono ?_
              rintro e w6 ⟨rfl, cells', hS6, hT6, F6⟩
              have hm5 := hS.inner hthw HRG.out HND.out (by omega) (by omega) hS6 hT6 F6
              have HFO : Hid (ordT (.mk thr n7 i7) = .mk thr (sortN n7) (sortT i7)) := rfl
              clear RS K6 hBl hS hS6 hT6 F6
              generalize sortN n7 = nO at hm5 HFO
              generalize sortT i7 = iO at hm5 HFO
              have hTO := hm5.2.2.2
              simp only [TrD] at hTO
              obtain ⟨vnx, vix, cx, hsh, k0, q1, q2, q3, q4, q5, q6⟩ := hTO
              simp only [Value.agg.injEq, Array.mk.injEq, List.cons.injEq, and_true] at hsh
              obtain ⟨hsh0, hsh1, hsh2⟩ := hsh
              subst hsh1 hsh2
              obtain ⟨Y1, nn, d1, e1, l1, l2, l3, l4⟩ := id q1
              injection e1 with a1 a2 a3
              subst a1 a2 a3
              obtain ⟨Y2, mm, d2, e2, r1, r2, r3, r4⟩ := id q3
              injection e2 with a1 a2 a3
              subst a1 a2 a3
              unfold Few at q4 q5
              unfold maxLen at l3 r3
              have K6 := hm5.2.2.1
              have R6 := K6.cell
              have hl6 := blk_lt K6
              have b46 := b4.fr hm5.1 (by simp)
              have R4 := b46.cell
              have Z4 := b46.free
              have hl4 := blk_lt b46
              have F16 := F1.pure hm5.1
              by_cases hn0 : nO.length = 0
              · obtain rfl : nO = [] := List.eq_nil_of_length_eq_zero hn0
                by_cases hi1 : iO.length = 1
                · obtain ⟨y, rfl⟩ := List.length_eq_one_iff.1 hi1
                  have HFN : Hid (finT (.mk thr [] [y]) = y) := rfl
                  obtain ⟨bb, oo, rfl, hbb, hcc⟩ := r4 (by simp)
                  obtain ⟨x0, y0, z0, e0, e1, e2, hy0⟩ := q6.get 0 (by simp)
                  simp only [Nat.zero_mul, Nat.zero_add] at e0 e1 e2
                  have hyT : TrD w6 (Db Nob w1 w6 B) (.agg #[x0, y0, z0]) y := hy0
                  obtain ⟨ty, W1, p1, v1, W2, p2, v2, hsh⟩ := hyT.shape
                  simp only [Value.agg.injEq, Array.mk.injEq, List.cons.injEq, and_true] at hsh
                  obtain ⟨rfl, rfl, rfl⟩ := hsh
                  have g0 : w6.cell? ⟨bb, oo, none⟩ = some (.int .i64 ty) := hcc _ _ e0
                  have g1 : w6.cell? ⟨bb, oo + 1, none⟩ = some (.slice W1 p1 v1) := hcc _ _ e1
                  have g2 : w6.cell? ⟨bb, oo + 2, none⟩ = some (.slice W2 p2 v2) := hcc _ _ e2
                  clear e0 e1 e2 hcc
                  go_wp2_with fail
                  refine bodyPost_ret (v := .agg #[.int .i64 ty, .slice W1 p1 v1, .slice W2 p2 v2]) (by simp [results, Tryz.results82, go_sem, R4, R6]) rfl ?_
                  obtain ⟨f1, f2⟩ := hm5.fin nob_lt hz1 F1 hyT (fr_fill3 w6 (w.heap.size + 1) _ _ _)
                  exact ⟨_, rfl, by rw [HNT.out, HF.out, HMR.out, HFO.out, HFN.out]; exact TrD.keep nwb_dw _ _ f1, f2⟩
                · have HFN : Hid (finT (.mk thr [] iO) = .mk thr [] iO) := by
                    unfold Hid finT
                    rcases iO with _ | ⟨y, _ | ⟨y2, r⟩⟩
                    · rfl
                    · exact absurd rfl hi1
                    · rfl
                  have hb1 : ((iO.length : Int) == 1) = false := by rw [beq_eq_false_iff_ne]; omega
                  clear hi1
                  go_wp2_with fail
                  refine bodyPost_ret (v := .agg #[.int .i64 thr, .slice A9 0 c9, .slice A10 iO.length c10]) (by simp [results, Tryz.results82, go_sem, R4, R6]) rfl ?_
                  obtain ⟨f1, f2⟩ := hm5.fin nob_lt hz1 F1 hm5.2.2.2 (fr_fill3 w6 (w.heap.size + 1) _ _ _)
                  exact ⟨_, rfl, by rw [HNT.out, HF.out, HMR.out, HFO.out, HFN.out]; exact TrD.keep nwb_dw _ _ f1, f2⟩
              · have HFN : Hid (finT (.mk thr nO iO) = .mk thr nO iO) := by
                  unfold Hid finT
                  cases nO with
                  | nil => exact absurd rfl hn0
                  | cons a r => rfl
                have hb1 : ((nO.length : Int) == 0) = false := by rw [beq_eq_false_iff_ne]; omega
                clear hn0
                go_wp2_with fail
                refine bodyPost_ret (v := .agg #[.int .i64 thr, .slice A9 nO.length c9, .slice A10 iO.length c10]) (by simp [results, Tryz.results82, go_sem, R4, R6]) rfl ?_
                obtain ⟨f1, f2⟩ := hm5.fin nob_lt hz1 F1 hm5.2.2.2 (fr_fill3 w6 (w.heap.size + 1) _ _ _)
                exact ⟨_, rfl, by rw [HNT.out, HF.out, HMR.out, HFO.out, HFN.out]; exact TrD.keep nwb_dw _ _ f1, f2⟩
end Go.Proofs.YtpdhckbiioobhaaGreatDoor

/- Walks: normal.Normal, Is; the reference's. -/
namespace Go.Proofs.YtpdhckbiioobhaaGreatDoor
open Go.RowKit

theorem valid_facts {t : Tr} (h : validE t = 0) : OkT t ∧ t.size ≤ 200 ∧ t.dep ≤ 4 := by
  unfold validE at h
  split at h
  · omega
  · exact ⟨(okT_iff t).1 h, by omega, by omega⟩
/-- What Normal hands back. -/
def nrmV (t : Tr) : Tr := if validE t = 0 then normT t else .mk 0 [] []
def isN (t : Tr) : Bool := (validE t == 0) && sameT (nrmV t) t
/-- The old blocks (but for r) and those from w2 on. -/
def D3 (r : Option Nat) (w w2 w3 : World) : Nat → Prop := fun b => ((b < w.heap.size ∧ some b ≠ r) ∨ w2.heap.size ≤ b) ∧ b < w3.heap.size
theorem nwb_d3 {r : Option Nat} {w w2 w3 : World} (_ : w.heap.size ≤ w2.heap.size) (_ : Fr none w2 w3) : ∀ b, Nwb w2 w3 b → D3 r w w2 w3 b ∧ w3.heap[b]? = w3.heap[b]? := fun b hb => ⟨⟨.inr hb.1, hb.2⟩, rfl⟩
theorem dw_d3 {r : Option Nat} {w w2 w3 : World} (h : w.heap.size ≤ w2.heap.size) (F : Fr none w2 w3) : ∀ b, Dw (fun b => b < w.heap.size ∧ some b ≠ r) w2 w3 b → D3 r w w2 w3 b ∧ w3.heap[b]? = w3.heap[b]? := fun b hb => by
  have := F.size
  rcases hb with h | h
  · exact ⟨⟨.inl h, by have := h.1; omega⟩, rfl⟩
  · exact ⟨⟨.inr h.1, h.2⟩, rfl⟩
theorem d3_dm {r : Option Nat} {w w2 w3 w4 : World} (hr : ∀ g, r = some g → g < w.heap.size) (h : w.heap.size + 1 < w2.heap.size) (G : Fr (some (w.heap.size + 1)) w3 w4) : ∀ b, D3 r w w2 w3 b → Dm w4 r b ∧ w4.heap[b]? = w3.heap[b]? := fun b hb => by
  have hz := G.size
  obtain ⟨h1, h2⟩ := hb
  refine ⟨⟨by omega, fun e => ?_⟩, G.block b h2 (by simp; omega)⟩
  have := hr b e.symm
  rcases h1 with h1 | h1
  · exact h1.2 e
  · omega
set_option maxRecDepth 100000 in
set_option maxHeartbeats 1000000 in
theorem normal_any (t : Tr) (v : Value) (w : World) (r : Option Nat) (hr : ∀ g, r = some g → g < w.heap.size) (h : TrR w r v t) (hs : t.size ≤ 1073741000) :
    Calls Tryz.prog 20 #[v] w fun e w' => ∃ v', e = .returned (.tuple #[v', .int .i64 (validE t)]) ∧ TrR w' r v' (nrmV t) ∧ Fr none w w' := by
  obtain ⟨th, A1, n1, c1, A2, n2, c2, rfl⟩ := TrD.shape h
  go_enter Tryz.func20, Tryz.ntmps20
  go_wp2_with fail
  generalize hW : (w.alloc _).alloc _ = w1
  have F1 : Fr none w w1 := hW ▸ ((Fr.refl none w).alloc _).alloc _
  have b1 : TB w1 w.heap.size (.int .i64 th) (.slice A1 n1 c1) (.slice A2 n2 c2) := by rw [← hW]; exact (Below.heap_alloc _ _ _ (by simp)).trans (blk_new _ _)
  have b2 : TB w1 (w.heap.size + 1) (.int .i64 0) (.slice none 0 0) (.slice none 0 0) := by rw [← hW]; exact blk_new_at (by simp) _
  clear hW
  have h1 := h.fr (F1.mono (r := r))
  refine (validT_any t _ _ r hs h1).mono ?_
  rintro e w2 ⟨rfl, F2⟩
  have b1 := b1.fr F2 (by simp)
  have b2 := b2.fr F2 (by simp)
  have F2 := F1.pure F2
  have h2 : TrD w2 (fun b => b < w.heap.size ∧ some b ≠ r) _ t := TrD.keep (fun k hk => ⟨hk, F2.block k hk.1 (by simp)⟩) _ _ h
  clear h h1 F1
  have R1 := b1.cell
  have R2 := b2.cell
  have Z2 := b2.free
  have hl2 : w.heap.size + 1 < w2.heap.size := blk_lt b2
  by_cases hv : validE t = 0
  · obtain ⟨hok, hsz, hdp⟩ := valid_facts hv
    have hv0 : (validE t != 0) = false := by rw [bne_eq_false_iff_eq]; exact hv
    have HN : Hid (nrmV t = normT t) := by unfold Hid nrmV; rw [if_pos hv]
    have HV := Lib.hid hv
    clear hv
    go_wp2_with fail
    refine (nnorm_any t.dep t _ (fun b => b < w.heap.size ∧ some b ≠ r) w2 (Nat.le_refl _) hok (by omega) (fun b hb => by have := hb.1; omega) h2).mono ?_
    rintro e w3 ⟨v3, rfl, hT3, F3⟩
    have hT3 := TrD.keep (nwb_d3 (w := w) (r := r) (by omega) F3) _ _ hT3
    obtain ⟨th3, X1, m1, k1, X2, m2, k2, rfl⟩ := TrD.shape hT3
    have b3 := b2.fr F3 (by simp)
    have R3 := b3.cell
    have Z3 := b3.free
    have hl3 : w.heap.size + 1 < w3.heap.size := blk_lt b3
    have hl2' := hl2
    have F3 := F2.pure F3
    clear R1 R2 Z2 b1 b2 hl2
    go_wp2_with fail
    refine bodyPost_ret (v := .tuple #[.agg #[.int .i64 th3, .slice X1 m1 k1, .slice X2 m2 k2], .int .i64 0]) (by simp [results, Tryz.results20, go_sem, R3]) rfl ?_
    have G := fr_fill3 w3 (w.heap.size + 1) (.int .i64 th3) (.slice X1 m1 k1) (.slice X2 m2 k2)
    exact ⟨_, by rw [HV.out], by rw [HN.out]; exact TrD.keep (d3_dm hr hl2' G) _ _ hT3, F3.own G (by simp)⟩
  · have hv0 : (validE t != 0) = true := by rw [bne_iff_ne]; exact hv
    have HN : Hid (nrmV t = .mk 0 [] []) := by unfold Hid nrmV; rw [if_neg hv]
    clear hv
    go_wp2_with fail
    refine bodyPost_ret (v := .tuple #[.agg #[.int .i64 0, .slice none 0 0, .slice none 0 0], .int .i64 (validE t)]) (by simp [results, Tryz.results20, go_sem, R2]) rfl ?_
    have G := fr_fill3 w2 (w.heap.size + 1) (.int .i64 0) (.slice none 0 0) (.slice none 0 0)
    exact ⟨_, rfl, by rw [HN.out]; exact TrD.mk_ (by constructor <;> omega) (SlD.nil _ _ _) (by simp) (SlD.nil _ _ _) (by simp) (by simp) (by simp [TrsD]), F2.own G (by simp)⟩
set_option maxRecDepth 100000 in
set_option maxHeartbeats 1000000 in
theorem rnormal_any (t : Tr) (v : Value) (w : World) (r : Option Nat) (hr : ∀ g, r = some g → g < w.heap.size) (h : TrR w r v t) (hs : t.size ≤ 1073741000) :
    Calls Tryz.prog 41 #[v] w fun e w' => ∃ v', e = .returned (.tuple #[v', .int .i64 (validE t)]) ∧ TrR w' r v' (nrmV t) ∧ Fr none w w' := by
  obtain ⟨th, A1, n1, c1, A2, n2, c2, rfl⟩ := TrD.shape h
  go_enter Tryz.func41, Tryz.ntmps41
  go_wp2_with fail
  generalize hW : (w.alloc _).alloc _ = w1
  have F1 : Fr none w w1 := hW ▸ ((Fr.refl none w).alloc _).alloc _
  have b1 : TB w1 w.heap.size (.int .i64 th) (.slice A1 n1 c1) (.slice A2 n2 c2) := by rw [← hW]; exact (Below.heap_alloc _ _ _ (by simp)).trans (blk_new _ _)
  have b2 : TB w1 (w.heap.size + 1) (.int .i64 0) (.slice none 0 0) (.slice none 0 0) := by rw [← hW]; exact blk_new_at (by simp) _
  clear hW
  have h1 := h.fr (F1.mono (r := r))
  refine (rvalidT_any t _ _ r hs h1).mono ?_
  rintro e w2 ⟨rfl, F2⟩
  have b1 := b1.fr F2 (by simp)
  have b2 := b2.fr F2 (by simp)
  have F2 := F1.pure F2
  have h2 : TrD w2 (fun b => b < w.heap.size ∧ some b ≠ r) _ t := TrD.keep (fun k hk => ⟨hk, F2.block k hk.1 (by simp)⟩) _ _ h
  clear h h1 F1
  have R1 := b1.cell
  have R2 := b2.cell
  have Z2 := b2.free
  have hl2 : w.heap.size + 1 < w2.heap.size := blk_lt b2
  by_cases hv : validE t = 0
  · obtain ⟨hok, hsz, hdp⟩ := valid_facts hv
    have hv0 : (validE t != 0) = false := by rw [bne_eq_false_iff_eq]; exact hv
    have HN : Hid (nrmV t = normT t) := by unfold Hid nrmV; rw [if_pos hv]
    have HV := Lib.hid hv
    clear hv
    go_wp2_with fail
    refine (rnorm_any t.dep t _ (fun b => b < w.heap.size ∧ some b ≠ r) w2 (Nat.le_refl _) hok (by omega) (fun b hb => by have := hb.1; omega) h2).mono ?_
    rintro e w3 ⟨v3, rfl, hT3, F3⟩
    have hT3 := TrD.keep (dw_d3 (w := w) (r := r) (by omega) F3) _ _ hT3
    obtain ⟨th3, X1, m1, k1, X2, m2, k2, rfl⟩ := TrD.shape hT3
    have b3 := b2.fr F3 (by simp)
    have R3 := b3.cell
    have Z3 := b3.free
    have hl3 : w.heap.size + 1 < w3.heap.size := blk_lt b3
    have hl2' := hl2
    have F3 := F2.pure F3
    clear R1 R2 Z2 b1 b2 hl2
    go_wp2_with fail
    refine bodyPost_ret (v := .tuple #[.agg #[.int .i64 th3, .slice X1 m1 k1, .slice X2 m2 k2], .int .i64 0]) (by simp [results, Tryz.results41, go_sem, R3]) rfl ?_
    have G := fr_fill3 w3 (w.heap.size + 1) (.int .i64 th3) (.slice X1 m1 k1) (.slice X2 m2 k2)
    exact ⟨_, by rw [HV.out], by rw [HN.out]; exact TrD.keep (d3_dm hr hl2' G) _ _ hT3, F3.own G (by simp)⟩
  · have hv0 : (validE t != 0) = true := by rw [bne_iff_ne]; exact hv
    have HN : Hid (nrmV t = .mk 0 [] []) := by unfold Hid nrmV; rw [if_neg hv]
    clear hv
    go_wp2_with fail
    refine bodyPost_ret (v := .tuple #[.agg #[.int .i64 0, .slice none 0 0, .slice none 0 0], .int .i64 (validE t)]) (by simp [results, Tryz.results41, go_sem, R2]) rfl ?_
    have G := fr_fill3 w2 (w.heap.size + 1) (.int .i64 0) (.slice none 0 0) (.slice none 0 0)
    exact ⟨_, rfl, by rw [HN.out]; exact TrD.mk_ (by constructor <;> omega) (SlD.nil _ _ _) (by simp) (SlD.nil _ _ _) (by simp) (by simp) (by simp [TrsD]), F2.own G (by simp)⟩
set_option maxRecDepth 100000 in
set_option maxHeartbeats 1000000 in
theorem nis_any (t : Tr) (v : Value) (w : World) (h : TrR w none v t) (hs : t.size ≤ 1073741000) :
    Calls Tryz.prog 42 #[v] w fun e w' => e = .returned (.bool (isN t)) ∧ Fr none w w' := by
  obtain ⟨th, A1, n1, c1, A2, n2, c2, rfl⟩ := TrD.shape h
  go_enter Tryz.func42, Tryz.ntmps42
  go_wp2_with fail
  generalize hW : w.alloc _ = w1
  have F1 : Fr none w w1 := hW ▸ (Fr.refl none w).alloc _
  have b1 : TB w1 w.heap.size (.int .i64 th) (.slice A1 n1 c1) (.slice A2 n2 c2) := by rw [← hW]; exact blk_new _ _
  clear hW
  have h1 := h.fr F1
  refine (normal_any t _ _ none (by simp) h1 hs).mono ?_
  rintro e w2 ⟨v2, rfl, hT2, F2⟩
  obtain ⟨th2, X1, m1, k1, X2, m2, k2, rfl⟩ := TrD.shape hT2
  have FA := (Fr.refl none w2).alloc (.cells #[.int .i64 th2, .slice X1 m1 k1, .slice X2 m2 k2] 31)
  have bw := b1.fr F2 (by simp)
  have h2 := (h1.fr F2).fr FA
  have hT3 := hT2.fr FA
  have F2 := F1.pure F2
  have R1 := bw.cell
  have hlw := blk_lt bw
  clear h h1 F1 b1 hT2
  by_cases hv : validE t = 0
  · have hv0 : (validE t == 0) = true := by rw [beq_iff_eq]; exact hv
    have HI : Hid (isN t = sameT (nrmV t) t) := by unfold Hid isN; rw [hv0]; rfl
    clear hv
    go_wp2_with (go_at_call 104; refine (tsame_any _ _ _ _ _ _ none (Nat.le_refl _) hT3 h2).mono ?_; rintro e w3 ⟨rfl, F3⟩)
    go_ret
    exact ⟨ret_bool HI.out.symm, (F2.pure FA).pure F3⟩
  · have hv0 : (validE t == 0) = false := by rw [beq_eq_false_iff_ne]; exact hv
    have HI : Hid (isN t = false) := by unfold Hid isN; rw [hv0]; rfl
    clear hv
    go_wp2_with fail
    go_ret
    exact ⟨ret_bool HI.out.symm, F2.pure FA⟩
set_option maxRecDepth 100000 in
set_option maxHeartbeats 1000000 in
theorem ris_any (t : Tr) (v : Value) (w : World) (h : TrR w none v t) (hs : t.size ≤ 1073741000) :
    Calls Tryz.prog 43 #[v] w fun e w' => e = .returned (.bool (isN t)) ∧ Fr none w w' := by
  obtain ⟨th, A1, n1, c1, A2, n2, c2, rfl⟩ := TrD.shape h
  go_enter Tryz.func43, Tryz.ntmps43
  go_wp2_with fail
  generalize hW : w.alloc _ = w1
  have F1 : Fr none w w1 := hW ▸ (Fr.refl none w).alloc _
  have b1 : TB w1 w.heap.size (.int .i64 th) (.slice A1 n1 c1) (.slice A2 n2 c2) := by rw [← hW]; exact blk_new _ _
  clear hW
  have h1 := h.fr F1
  refine (rnormal_any t _ _ none (by simp) h1 hs).mono ?_
  rintro e w2 ⟨v2, rfl, hT2, F2⟩
  obtain ⟨th2, X1, m1, k1, X2, m2, k2, rfl⟩ := TrD.shape hT2
  have FA := (Fr.refl none w2).alloc (.cells #[.int .i64 th2, .slice X1 m1 k1, .slice X2 m2 k2] 31)
  have bw := b1.fr F2 (by simp)
  have h2 := (h1.fr F2).fr FA
  have hT3 := hT2.fr FA
  have F2 := F1.pure F2
  have R1 := bw.cell
  have hlw := blk_lt bw
  clear h h1 F1 b1 hT2
  by_cases hv : validE t = 0
  · have hv0 : (validE t == 0) = true := by rw [beq_iff_eq]; exact hv
    have HI : Hid (isN t = sameT (nrmV t) t) := by unfold Hid isN; rw [hv0]; rfl
    clear hv
    go_wp2_with (go_at_call 27; refine (rsame_any _ _ _ _ _ _ none (Nat.le_refl _) hT3 h2).mono ?_; rintro e w3 ⟨rfl, F3⟩)
    go_ret
    exact ⟨ret_bool HI.out.symm, (F2.pure FA).pure F3⟩
  · have hv0 : (validE t == 0) = false := by rw [beq_eq_false_iff_ne]; exact hv
    have HI : Hid (isN t = false) := by unfold Hid isN; rw [hv0]; rfl
    clear hv
    go_wp2_with fail
    go_ret
    exact ⟨ret_bool HI.out.symm, F2.pure FA⟩
end Go.Proofs.YtpdhckbiioobhaaGreatDoor

/- The sanity check of layer 4's laws. -/
namespace Go.Proofs.YtpdhckbiioobhaaGreatDoor
open Go.RowKit

set_option maxRecDepth 100000 in
set_option maxHeartbeats 1000000 in
theorem form_any (S R : ByteArray) (t : Tr) (hp : parseP S.data.toList = .ok t) (hr : bs (textT (normT t)) = R) (w : World) (hT : Tab w) :
    Calls Tryz.prog 86 #[.string S] w fun e w' => e = .returned (.string R) ∧ Fr none w w' := by
  have HR := Lib.hid hr
  have hG := rparse_any S w
  rw [hp] at hG
  have HG := Lib.hid hG
  clear hp hr hG
  go_enter Tryz.func86, Tryz.ntmps86
  go_wp2_with fail
  refine HG.out.mono ?_
  rintro e w2 ⟨th, A1, n1, c1, A2, n2, c2, k, er, rfl, F2, _, rfl, rfl, hT2, hv⟩
  obtain ⟨hok, hsz, hdp⟩ := valid_facts hv
  have hT2 : TrR w2 none _ t := TrD.keep (dn_dm (by simp)) _ _ hT2
  have FA := (Fr.refl none w2).alloc (.cells #[.int .i64 th, .slice A1 n1 c1, .slice A2 n2 c2] 31)
  have hT3 := hT2.fr FA
  have F3 := F2.pure FA
  have HV := Lib.hid hv
  have hn := (norm_ok hv)
  clear hT2 hv
  go_wp2_with fail
  refine (normal_any t _ _ none (by simp) hT3 (by omega)).mono ?_
  rintro e w4 ⟨v4, rfl, hT4, F4⟩
  obtain ⟨th4, X1, m1, k1, X2, m2, k2, rfl⟩ := TrD.shape hT4
  have e4 : nrmV t = normT t := by unfold nrmV; rw [if_pos HV.out]
  rw [e4] at hT4
  have FB := (Fr.refl none w4).alloc (.cells #[.int .i64 th4, .slice X1 m1 k1, .slice X2 m2 k2] 31)
  have hT5 := hT4.fr FB
  have F5 := (F3.pure F4).pure FB
  have T5 := hT.fr F5
  have hs4 := hn.2.2.1
  have hv0 : (validE t != 0) = false := by rw [bne_eq_false_iff_eq]; exact HV.out
  clear hn e4 hT4
  go_wp2_with fail
  refine (rtext3_any (normT t) _ _ none (by omega) hT5 T5).mono ?_
  rintro e w6 ⟨S6, rfl, hS, _, F6⟩
  have HS := Lib.hid (hS.trans HR.out)
  clear hS
  go_wp2_with fail
  go_ret
  exact ⟨by rw [← HS.out] <;> rfl, F5.pure F6⟩
theorem itoa_dig (n : Nat) (h : n < 10) : Lib.itoa (n : Int) = [UInt8.ofNat (48 + n)] := by rw [Lib.itoa_nonneg, Lib.decDigits_one h]
def t41 : Tr := .mk 2 [3, 1] [.mk 1 [2] []]
theorem p41 : parseP ((⟨#[50, 32, 111, 102, 32, 40, 51, 44, 32, 49, 44, 32, 49, 32, 111, 102, 32, 40, 50, 41, 41]⟩ : ByteArray)).data.toList = .ok t41 := by kernel_rfl
theorem n41 : normT t41 = .mk 2 [1, 2, 3] [] := by kernel_rfl
theorem r41 : bs (textT (normT t41)) = ⟨#[50, 32, 111, 102, 32, 40, 49, 44, 32, 50, 44, 32, 51, 41]⟩ := by
  rw [n41]
  have hv : validE (.mk 2 [1, 2, 3] []) = 0 := by decide +kernel
  have j0 : Lib.itoa 0 = [48] := itoa_dig 0 (by omega)
  have j1 : Lib.itoa 1 = [49] := itoa_dig 1 (by omega)
  have j2 : Lib.itoa 2 = [50] := itoa_dig 2 (by omega)
  have j3 : Lib.itoa 3 = [51] := itoa_dig 3 (by omega)
  unfold textT
  rw [if_pos hv]
  simp only [txT, ndW, List.map_cons, List.map_nil, txL, List.append_nil, j0, j1, j2, j3]
  rfl
def t42 : Tr := .mk 1 [0] [.mk 1 [1] [.mk 1 [0, 2] []]]
theorem p42 : parseP ((⟨#[49, 32, 111, 102, 32, 40, 48, 44, 32, 49, 32, 111, 102, 32, 40, 49, 44, 32, 49, 32, 111, 102, 32, 40, 48, 44, 32, 50, 41, 41, 41]⟩ : ByteArray)).data.toList = .ok t42 := by kernel_rfl
theorem n42 : normT t42 = .mk 1 [0, 1, 2] [] := by kernel_rfl
theorem r42 : bs (textT (normT t42)) = ⟨#[49, 32, 111, 102, 32, 40, 48, 44, 32, 49, 44, 32, 50, 41]⟩ := by
  rw [n42]
  have hv : validE (.mk 1 [0, 1, 2] []) = 0 := by decide +kernel
  have j0 : Lib.itoa 0 = [48] := itoa_dig 0 (by omega)
  have j1 : Lib.itoa 1 = [49] := itoa_dig 1 (by omega)
  have j2 : Lib.itoa 2 = [50] := itoa_dig 2 (by omega)
  have j3 : Lib.itoa 3 = [51] := itoa_dig 3 (by omega)
  unfold textT
  rw [if_pos hv]
  simp only [txT, ndW, List.map_cons, List.map_nil, txL, List.append_nil, j0, j1, j2, j3]
  rfl
def t43 : Tr := .mk 2 [0] [.mk 1 [0] []]
theorem p43 : parseP ((⟨#[50, 32, 111, 102, 32, 40, 48, 44, 32, 49, 32, 111, 102, 32, 40, 48, 41, 41]⟩ : ByteArray)).data.toList = .ok t43 := by kernel_rfl
theorem n43 : normT t43 = .mk 1 [0] [] := by kernel_rfl
theorem r43 : bs (textT (normT t43)) = ⟨#[49, 32, 111, 102, 32, 40, 48, 41]⟩ := by
  rw [n43]
  have hv : validE (.mk 1 [0] []) = 0 := by decide +kernel
  have j0 : Lib.itoa 0 = [48] := itoa_dig 0 (by omega)
  have j1 : Lib.itoa 1 = [49] := itoa_dig 1 (by omega)
  have j2 : Lib.itoa 2 = [50] := itoa_dig 2 (by omega)
  have j3 : Lib.itoa 3 = [51] := itoa_dig 3 (by omega)
  unfold textT
  rw [if_pos hv]
  simp only [txT, ndW, List.map_cons, List.map_nil, txL, List.append_nil, j0, j1, j2, j3]
  rfl
def t44 : Tr := .mk 2 [0, 1] [.mk 1 [0] []]
theorem p44 : parseP ((⟨#[50, 32, 111, 102, 32, 40, 48, 44, 32, 49, 44, 32, 49, 32, 111, 102, 32, 40, 48, 41, 41]⟩ : ByteArray)).data.toList = .ok t44 := by kernel_rfl
theorem n44 : normT t44 = .mk 2 [0, 1] [.mk 1 [0] []] := by kernel_rfl
theorem r44 : bs (textT (normT t44)) = ⟨#[50, 32, 111, 102, 32, 40, 48, 44, 32, 49, 44, 32, 49, 32, 111, 102, 32, 40, 48, 41, 41]⟩ := by
  rw [n44]
  have hv : validE (.mk 2 [0, 1] [.mk 1 [0] []]) = 0 := by decide +kernel
  have j0 : Lib.itoa 0 = [48] := itoa_dig 0 (by omega)
  have j1 : Lib.itoa 1 = [49] := itoa_dig 1 (by omega)
  have j2 : Lib.itoa 2 = [50] := itoa_dig 2 (by omega)
  have j3 : Lib.itoa 3 = [51] := itoa_dig 3 (by omega)
  unfold textT
  rw [if_pos hv]
  simp only [txT, ndW, List.map_cons, List.map_nil, txL, List.append_nil, j0, j1, j2, j3]
  rfl

set_option maxRecDepth 100000 in
set_option maxHeartbeats 1000000 in
theorem awake4_any (w : World) (hT : Tab w) : Calls Tryz.prog 25 #[] w fun e w' => e = .returned (.bool true) ∧ Fr none w w' := by
  have H1 := Lib.hid p41
  have H2 := Lib.hid p42
  have H3 := Lib.hid p43
  have H4 := Lib.hid p44
  have R1 := Lib.hid r41
  have R2 := Lib.hid r42
  have R3 := Lib.hid r43
  have R4 := Lib.hid r44
  go_enter Tryz.func25, Tryz.ntmps25
  go_wp2_with fail
  refine (form_any _ _ t41 H1.out R1.out _ hT).mono ?_
  rintro e w1 ⟨rfl, F1⟩
  go_wp2_with fail
  refine (form_any _ _ t42 H2.out R2.out _ (hT.fr F1)).mono ?_
  rintro e w2 ⟨rfl, F2⟩
  have F2 := F1.pure F2
  go_wp2_with fail
  refine (form_any _ _ t43 H3.out R3.out _ (hT.fr F2)).mono ?_
  rintro e w3 ⟨rfl, F3⟩
  have F3 := F2.pure F3
  go_wp2_with fail
  refine (form_any _ _ t44 H4.out R4.out _ (hT.fr F3)).mono ?_
  rintro e w4 ⟨rfl, F4⟩
  have F4 := F3.pure F4
  go_wp2_with fail
  go_ret
  exact ⟨rfl, F4⟩
end Go.Proofs.YtpdhckbiioobhaaGreatDoor

/- The law NormalOrder: its walk. -/
namespace Go.Proofs.YtpdhckbiioobhaaGreatDoor
open Go.RowKit

theorem MixR.valid {a b : Tr} (h : MixR a b) (hv : validE a = 0) : validE b = 0 ∧ normT a = normT b := by
  obtain ⟨hok, hs, hd⟩ := valid_facts hv
  obtain ⟨h1, h2, h3⟩ := h
  obtain ⟨h4, h5⟩ := h1 hok
  refine ⟨?_, h5⟩
  unfold validE
  rw [if_neg (by omega)]
  exact (okT_iff b).2 h4
theorem sameT_self (a : Tr) : sameT a a = true := by
  exact (sameT_iff a a).2 rfl
set_option maxRecDepth 100000 in
set_option maxHeartbeats 4000000 in
theorem law04o_any (v : Value) (l : List Int) (w : World) (hl : SlI w none v l) (hT : Tab w) : Calls Tryz.prog 5 #[v] w fun e w' => e = .returned (.bool true) ∧ Fr none w w' := by
  go_enter Tryz.func5, Tryz.ntmps5
  go_wp2_with fail
  refine (tapeNew_any _ _ _ hl).mono ?_
  rintro e w1 ⟨g, rfl, hg, S1, F1⟩
  clear hl
  go_wp2_with fail
  have hg1 := S1.lt
  refine (trust4_any g _ S1).mono ?_
  rintro e w2 ⟨v2, x, rfl, hD, hv, S2, F2⟩
  obtain ⟨th, A1, n1, c1, A2, n2, c2, rfl⟩ := hD.shape
  have F02 := F1.own F2 (fun q hq => by injection hq with hq; omega)
  have FA := (Fr.refl none w2).alloc (.cells #[.int .i64 th, .slice A1 n1 c1, .slice A2 n2 c2] 31)
  have hD0 : TrR w2 none (.agg #[.int .i64 th, .slice A1 n1 c1, .slice A2 n2 c2]) x := TrD.keep (dn_dm (by simp)) _ _ hD
  have hDg : TrR w2 (some g) (.agg #[.int .i64 th, .slice A1 n1 c1, .slice A2 n2 c2]) x := TrD.keep (dn_dm (by simp; omega)) _ _ hD
  have B3 : TB (w2.alloc (.cells #[.int .i64 th, .slice A1 n1 c1, .slice A2 n2 c2] 31)) w2.heap.size (.int .i64 th) (.slice A1 n1 c1) (.slice A2 n2 c2) := blk_new _ _
  have hz2 := F2.size
  obtain ⟨hok, hsz, hdp⟩ := valid_facts hv
  have D3 := hD0.fr FA
  have G3 := hDg.fr (FA.mono (r := some g))
  have S3 := S2.fr FA
  have F03 := F02.pure FA
  have HV := Lib.hid hv
  have hv0 : (validE x == 0) = true := by rw [beq_iff_eq]; exact hv
  clear hv hD hD0 hDg S1 S2 F1 F2 F02
  go_wp2_with fail
  generalize hW : w2.alloc _ = w3 at *
  have hz3 : w3.heap.size = w2.heap.size + 1 := by rw [← hW]; simp
  clear hW FA
  have hgz : g < w3.heap.size := by omega
  refine (normal_any x _ _ (some g) (by intro q e; injection e; omega) G3 (by omega)).mono ?_
  rintro e w4 ⟨v4, rfl, hT4, F4⟩
  obtain ⟨th4, X1, m1, k1, X2, m2, k2, rfl⟩ := TrD.shape hT4
  have FB := (Fr.refl none w4).alloc (.cells #[.int .i64 th4, .slice X1 m1 k1, .slice X2 m2 k2] 31)
  have B5 : TB (w4.alloc (.cells #[.int .i64 th4, .slice X1 m1 k1, .slice X2 m2 k2] 31)) w4.heap.size (.int .i64 th4) (.slice X1 m1 k1) (.slice X2 m2 k2) := blk_new _ _
  have K4 := B3.fr F4 (by simp)
  have R4 := K4.cell
  have hl4 : w2.heap.size < w4.heap.size := blk_lt K4
  have F45 := F4.pure FB
  have G5 := G3.fr (F45.mono (r := some g))
  have S5 := S3.fr F45
  have F05 := F03.pure F45
  have hA5 := hT4.fr (FB.mono (r := some g))
  have hz4 := F4.size
  clear G3 S3 F03 D3 hT4
  go_wp2_with fail
  generalize hW : w4.alloc _ = w5 at *
  clear hW FB F4 R4
  refine (mixed_any x.dep x _ g _ (Nat.le_refl _) G5 S5).mono ?_
  rintro e w6 ⟨v6, y, rfl, hY, hmx, S6, F6⟩
  obtain ⟨hvy, hny⟩ := hmx.valid HV.out
  obtain ⟨_, hsy, _⟩ := valid_facts hvy
  have hY0 : TrR w6 none v6 y := TrD.keep (dn_dm (by simp)) _ _ hY
  obtain ⟨th6, Y1, m6, k6, Y2, q6, j6, rfl⟩ := TrD.shape hY0
  have F06 := F05.own F6 (fun q hq => by injection hq with hq; omega)
  have B6 := B5.fr F6 (by simp; omega)
  have A6 := (hA5.fr F6).weak
  have hvy0 : (validE y == 0) = true := by rw [beq_iff_eq]; exact hvy
  have HSM : Hid (sameT (nrmV x) (nrmV y) = true) := by unfold Hid nrmV; rw [if_pos HV.out, if_pos hvy, hny]; exact sameT_self _
  have hz6 := F6.size
  clear hY hmx hny hvy hA5 G5 S5 S6 F05
  go_wp2_with fail
  refine (normal_any y _ _ none (by simp) hY0 (by omega)).mono ?_
  rintro e w7 ⟨v7, rfl, hT7, F7⟩
  obtain ⟨th7, Z1, m7, k7, Z2, q7, j7, rfl⟩ := TrD.shape hT7
  have FC := (Fr.refl none w7).alloc (.cells #[.int .i64 th7, .slice Z1 m7 k7, .slice Z2 q7 j7] 31)
  have B7 := B6.fr F7 (by simp)
  have R7 := B7.cell
  have hl7 : w4.heap.size < w7.heap.size := blk_lt B7
  have A8 := (A6.fr F7).fr FC
  have Y8 := hT7.fr FC
  have F08 := (F06.pure F7).pure FC
  clear A6 hT7 F06 F7 hY0
  go_wp2_with fail
  refine (rsame_any _ _ _ _ _ _ none (Nat.le_refl _) A8 Y8).mono ?_
  rintro e w9 ⟨rfl, F9⟩
  rw [HSM.out]
  have F09 := F08.pure F9
  have T9 := hT.fr F09
  go_wp2_with fail
  refine (awake4_any _ T9).mono ?_
  rintro e w10 ⟨rfl, F10⟩
  go_wp2_with fail
  go_ret
  exact ⟨rfl, F09.pure F10⟩
end Go.Proofs.YtpdhckbiioobhaaGreatDoor

/- Some texts of this claim, joined: contracts of the functions that it reaches, and plain laws. -/
import Derived.Test.YtpdhckbiioobhaaGreatProg
import Derived.Test.YtpdhckbiioobhaaGreatJS25
import Derived.Test.YtpdhckbiioobhaaGreatJS2
import Derived.Test.YtpdhckbiioobhaaGreatJS19
import Derived.Test.YtpdhckbiioobhaaGreatShelf
import Derived.Sort.OwnSortedInts

set_option linter.unusedSimpArgs false
set_option linter.unusedVariables false
/- Walks: slices.SortFunc on inner trusts, by normal.Compare. -/
namespace Go.Proofs.YtpdhckbiioobhaaGreat
open Go.RowKit Go.Sort

theorem world_ext {a b : World} (h1 : a.heap = b.heap) (h2 : a.tape = b.tape) (h3 : a.drawn = b.drawn) (h4 : a.os = b.os) (h5 : a.output = b.output) : a = b := by
  cases a; cases b; simp_all
/-- What only draws and lays: the world grown. -/
theorem fr_growS {w w' : World} (F : Fr none w w') (hd : w.drawn ≤ w'.drawn) : ∃ q os, w' = Sort.grow (w.drewN q) os := by
  have f1 := World.grownBy.tape F
  have f2 := World.grownBy.os F
  have f3 := World.grownBy.output F
  refine ⟨w'.drawn - w.drawn, w'.heap.extract w.heap.size w'.heap.size, world_ext ?_ f1 ?_ f2 f3⟩
  · show w'.heap = w.heap ++ w'.heap.extract w.heap.size w'.heap.size
    have hz := F.size
    refine Array.ext_getElem? (fun k => ?_)
    by_cases hk : k < w.heap.size
    · rw [Array.getElem?_append_left hk]
      exact F.block k hk (by simp)
    · rw [Array.getElem?_append_right (by omega), Array.getElem?_extract]
      by_cases h2 : k < w'.heap.size
      · rw [if_pos (by omega)]
        congr 1; omega
      · rw [if_neg (by omega)]
        exact Array.getElem?_eq_none (by omega)
  · show w'.drawn = w.drawn + (w'.drawn - w.drawn)
    omega
theorem fr_sortK {α : Type} [Inhabited α] (enc : α → List Value) (k : Nat) (w : World) (g m : Nat) (dk : Array α) (os : Array Obj) : Fr (some g) w (sortWorldK enc k w g 0 m dk os) := by
  refine ⟨rfl, rfl, rfl, size_sortWorldK_c enc k w g 0 m dk os, fun i hi hne => ?_⟩
  unfold sortWorldK putRowK
  rw [heap_grow_old _ _ (by simpa [Sort.ahead, putRow, mapBlock] using hi)]
  have : g ≠ i := fun e => hne (by rw [e])
  simp [putRow, mapBlock, Sort.ahead, Array.getElem?_modify, this]
/-- A trust with its three cells. -/
def CelT (w : World) (D : Nat → Prop) : Type := { p : Tr × Value × Value × Value // TrD w D (.agg #[p.2.1, p.2.2.1, p.2.2.2]) p.1 }
def CelT.tr {w : World} {D : Nat → Prop} (x : CelT w D) : Tr := x.1.1
def CelT.enc {w : World} {D : Nat → Prop} (x : CelT w D) : List Value := [x.1.2.1, x.1.2.2.1, x.1.2.2.2]
theorem CelT.ok {w : World} {D : Nat → Prop} (x : CelT w D) : TrD w D (.agg x.enc.toArray) x.tr := x.2
theorem trs_cel {w : World} {D : Nat → Prop} : ∀ (i : List Tr) (cells : List Value), TrsD w D cells i → ∃ l : List (CelT w D), i = l.map CelT.tr ∧ cells = l.flatMap CelT.enc
  | [], cells, h => ⟨[], rfl, by simp only [TrsD] at h; simpa using h⟩
  | x :: r, cells, h => by
    simp only [TrsD] at h
    obtain ⟨a, b, c, rest, rfl, hx, hr⟩ := h
    obtain ⟨l, e1, e2⟩ := trs_cel r rest hr
    exact ⟨⟨(x, a, b, c), hx⟩ :: l, by rw [e1]; rfl, by rw [e2]; rfl⟩
theorem cel_trs {w w' : World} {D D' : Nat → Prop} (hD : ∀ k, D k → D' k ∧ w'.heap[k]? = w.heap[k]?) : ∀ l : List (CelT w D), TrsD w' D' (l.flatMap CelT.enc) (l.map CelT.tr)
  | [] => by simp [TrsD]
  | x :: r => by
    simp only [List.map_cons, TrsD]
    exact ⟨x.1.2.1, x.1.2.2.1, x.1.2.2.2, r.flatMap CelT.enc, rfl, TrD.keep hD _ _ x.2, cel_trs hD r⟩
theorem cel_len {w : World} {D : Nat → Prop} (l : List (CelT w D)) : (l.flatMap CelT.enc).length = l.length * 3 := by
  induction l with
  | nil => rfl
  | cons x r ih => simp only [List.flatMap_cons, List.length_append, ih, List.length_cons]; show 3 + _ = _; omega
/-- The cells of a list, and its flat row. -/
theorem flat_get {w : World} {D : Nat → Prop} [Inhabited (CelT w D)] : ∀ (l : List (CelT w D)) (j : Nat), j < l.length * 3 → (l.flatMap CelT.enc)[j]? = some ((l.toArray[j / 3]!).enc[j % 3]!)
  | [], j, h => by simp at h
  | x :: r, j, h => by
    by_cases h3 : j < 3
    · have hj : j = 0 ∨ j = 1 ∨ j = 2 := by omega
      rcases hj with rfl | rfl | rfl <;> rfl
    · obtain ⟨k, rfl⟩ : ∃ k, j = k + 3 := ⟨j - 3, by omega⟩
      have e1 : ((x :: r).flatMap CelT.enc)[k + 3]? = (r.flatMap CelT.enc)[k]? := rfl
      have e2 : (k + 3) / 3 = k / 3 + 1 := by omega
      have e3 : (k + 3) % 3 = k % 3 := by omega
      rw [e1, flat_get r k (by simp at h; omega), e2, e3]
      have h4 : k / 3 < r.length := by simp at h; omega
      simp [h4]
theorem trs_one {w : World} {D : Nat → Prop} (x : CelT w D) : ∀ v ∈ x.enc, v.oneCell' = true := by
  obtain ⟨t, A1, n1, c1, A2, n2, c2, e⟩ := x.ok.shape
  have e' : x.enc = [.int .i64 t, .slice A1 n1 c1, .slice A2 n2 c2] := by
    injection e with e; injection e
  rw [e']
  simp [Value.oneCell']
/-- Rows of trusts, sorted. -/
def cfC {w : World} {D : Nat → Prop} (x y : CelT w D) : Int := cmpT x.tr y.tr
theorem swoC {w : World} {D : Nat → Prop} : Sort.SWO (ltOf (cfC (w := w) (D := D))) where
  irrefl x := by simp [ltOf, cfC, cmpT_self]
  trans x y z h1 h2 := by
    simp only [ltOf, decide_eq_true_eq] at *
    simp only [cfC] at *
    have n1 := cmpT_neg x.tr y.tr
    have n2 := cmpT_neg y.tr z.tr
    have n3 := cmpT_neg x.tr z.tr
    by_cases h : cmpT x.tr z.tr < 0
    · exact h
    · have := cmpT_trans y.tr z.tr x.tr (by omega) (by omega)
      omega
  ntrans x y z h1 h2 := by
    simp only [ltOf, decide_eq_false_iff_not] at *
    simp only [cfC] at *
    have n1 := cmpT_neg x.tr y.tr
    have n2 := cmpT_neg y.tr z.tr
    have n3 := cmpT_neg x.tr z.tr
    have := cmpT_trans z.tr y.tr x.tr (by omega) (by omega)
    omega
set_option maxRecDepth 100000 in
theorem sortI_any (i : List Tr) (A : Option Addr) (c : Nat) (cells : List Value) (base : Nat) (w : World) (D : Nat → Prop) (own : w.ownsRow base 29 3 (.slice A i.length c) i.length cells) (hD : ∀ b, D b → b < w.heap.size ∧ (Value.slice A i.length c).ownBlock ≠ some b) (ht : TrsD w D cells i) (hil : i.length ≤ 900000) :
    Calls Tryz.prog 90 #[.slice A i.length c, .func (.func 91) #[] #[]] w fun e w' => e = .returned (.tuple #[]) ∧ ∃ cells', SlD w' (fun b => (Value.slice A i.length c).ownBlock = some b) 3 (.slice A i.length c) cells' ∧ TrsD w' D cells' (sortT i) ∧ Fr (Value.slice A i.length c).ownBlock w w' := by
  obtain ⟨Y2, mm, d2, e2, r1, r2, r3, r4⟩ := SlD.own_eq own
  injection e2 with a1 a2 a3
  subst a1 a2 a3
  obtain ⟨l, rfl, rfl⟩ := trs_cel i cells ht
  have hlen : (l.map CelT.tr).length = l.length := by simp
  rcases Nat.eq_zero_or_pos l.length with h0 | h0
  · obtain rfl := List.eq_nil_of_length_eq_zero h0
    refine (Tryz.slices_SortFunc_none_Trust (α := Int) A c _ w).mono ?_
    rintro e w' ⟨rfl, rfl⟩
    exact ⟨rfl, [], ⟨A, 0, c, rfl, rfl, Nat.zero_le _, r3, fun h => absurd h (by omega)⟩, by simp [TrsD, sortT], Fr.refl _ _⟩
  · obtain ⟨x0, l0, rfl⟩ : ∃ x0 l0, l = x0 :: l0 := by
      cases l with
      | nil => simp at h0
      | cons a r => exact ⟨a, r, rfl⟩
    haveI : Inhabited (CelT w D) := ⟨x0⟩
    generalize x0 :: l0 = l at *
    obtain ⟨g, off, rfl, ⟨hg1, hg2, hg3⟩, hcc⟩ := r4 (by omega)
    obtain ⟨g', cap, cur, e, hbg, hh, hnc, hm, hs, hk⟩ : ∃ g' cap cur, Value.slice (some ⟨g, off, none⟩) (l.map CelT.tr).length c = .slice (some ⟨g', 0, none⟩) (l.map CelT.tr).length cap ∧ base ≤ g' ∧ w.heap[g']? = some (.cells cur 29 (0, 0)) ∧ (l.map CelT.tr).length ≤ cap ∧ cap ≤ maxLen ∧ cur.size = cap * 3 ∧ cur.toList.take ((l.map CelT.tr).length * 3) = l.flatMap CelT.enc := by
      rcases own.2 with ⟨h, _⟩ | h
      · cases h
      · exact h
    injection e with e1 e2 e3
    injection e1 with e1
    injection e1 with e1 e4
    subst e1 e3 e4
    have hil' : l.length ≤ 900000 := by simpa using hil
    rw [hlen] at *
    have hH : HoldsK CelT.enc 3 w g 0 l.toArray := by
      intro j hj
      have hj3 : j < l.length * 3 := by simpa using hj
      have := hcc j _ (flat_get l j hj3)
      refine ⟨?_, blk_free hh _⟩
      rw [this, get_flatK _ _ _ _ (by simpa using hj3)]
      rfl
    have hcmp : CmpLays Tryz.prog 91 #[] (CelT.enc (w := w) (D := D)) 3 cfC g 0 l.toArray.size w := by
      intro m os dk hs x y
      have F := fr_sortK (CelT.enc (w := w) (D := D)) 3 w g m dk os
      have kd : ∀ k, D k → Dm (sortWorldK CelT.enc 3 w g 0 m dk os) none k ∧ (sortWorldK CelT.enc 3 w g 0 m dk os).heap[k]? = w.heap[k]? := fun k hk => ⟨⟨Nat.lt_of_lt_of_le (hD k hk).1 F.size, by simp⟩, F.block k (hD k hk).1 (fun e => (hD k hk).2 e.symm)⟩
      show Calls Tryz.prog 91 #[.agg x.enc.toArray, .agg y.enc.toArray] _ _
      refine (cmp_any x.tr.dep x.tr y.tr _ _ _ none (Nat.le_refl _) (TrD.keep kd _ _ x.ok) (TrD.keep kd _ _ y.ok)).mono ?_
      rintro e w' ⟨rfl, F', hd⟩
      exact ⟨rfl, fr_growS F' hd⟩
    have hsz : l.toArray.size < 4611686018427387904 := by simp; omega
    have main := Tryz.slices_SortFunc_Trust 3 (fun _ => by kernel_rfl) (fun _ => by kernel_rfl) (CelT.enc (w := w) (D := D)) (fun _ => rfl) (fun x v hv => trs_one x v hv) cfC swoC 91 #[] g 0 c l.toArray w (fun _ _ => by kernel_rfl) hcmp hH hg3 hsz
    refine main.mono ?_
    rintro e w' ⟨rfl, d', q, os, ⟨p1, p2, p3⟩, hS, rfl⟩
    have F := fr_sortK (CelT.enc (w := w) (D := D)) 3 w g q d' os
    have hH' := holdsK_sortWorldK_c CelT.enc 3 w g 0 l.toArray d' q os hH hg3 p1
    have hp : d'.toList.Perm l := by
      have e1 : d'.extract 0 l.toArray.size = d' := by rw [← p1]; simp
      have e2 : l.toArray.extract 0 l.toArray.size = l.toArray := by simp
      rw [e1, e2] at p3
      simpa using p3
    generalize sortWorldK CelT.enc 3 w g 0 q d' os = w' at *
    obtain ⟨m, rfl⟩ : ∃ m : List (CelT w D), d' = m.toArray := ⟨d'.toList, by simp⟩
    have hml : m.length = l.length := by simpa using p1
    have hp' : m.Perm l := by simpa using hp
    have hasc : Asc (m.map CelT.tr) := by
      unfold Asc
      rw [List.pairwise_map, List.pairwise_iff_getElem]
      intro i j hi hj hij
      have := hS i j (Nat.zero_le _) hij (by simpa [← hml] using hj)
      simp only [ltOf, decide_eq_false_iff_not] at this
      simp only [cfC] at this
      have n1 := cmpT_neg m[i].tr m[j].tr
      simp [hi, hj] at this
      omega
    have hst : sortT (l.map CelT.tr) = m.map CelT.tr := asc_uniq (sortT_asc _) hasc ((sortT_perm _).trans (hp'.symm.map _))
    refine ⟨rfl, m.flatMap CelT.enc, ⟨_, l.length, c, rfl, by rw [cel_len, hml], by simpa using r2, r3, fun _ => ⟨g, 0, rfl, rfl, fun j u hu => ?_⟩⟩, by rw [hst]; exact cel_trs (fun k hk => ⟨hk, F.block k (hD k hk).1 (fun e => (hD k hk).2 e.symm)⟩) m, F⟩
    have hj : j < m.length * 3 := by
      have := (List.getElem?_eq_some_iff.1 hu).1
      rwa [cel_len] at this
    rw [flat_get m j hj] at hu
    have := (hH' j (by simpa using hj)).1
    rw [get_flatK _ _ _ _ (by simpa using hj)] at this
    rw [this]; exact hu
end Go.Proofs.YtpdhckbiioobhaaGreat

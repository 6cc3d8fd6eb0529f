/- The reference's least sets, plain: keeping a list in order while a set is put in. -/
import Derived.Test.YtidnnjgiogklaaaMeetQ
import Derived.Laws.CopyOwn
namespace Go.Proofs.Ytidnnjgiogklaaa
open Go.RowKit

/-- Is x a valid set of which no other set of the list is a proper subset? -/
def minB (l : List Int) (x : Int) : Bool := validB x && l.all fun y => !(validB y && y != x && (bits .and .i64 y x == y))
theorem and_sub {y x : Int} (hy : validB y = true) (hx : validB x = true) : (bits .and .i64 y x == y) = subI y x := by
  obtain ⟨a, rfl, ha⟩ := validB_nat hy
  obtain ⟨b, rfl, hb⟩ := validB_nat hx
  rw [and_i64 a b (by omega) (by omega), Bool.eq_iff_iff, subI_sb ha, beq_iff_eq, ← sb_land]
  omega
theorem minB_iff (l : List Int) (x : Int) : minB l x = true ↔ validB x = true ∧ ∀ y ∈ l, validB y = true → subI y x = true → y = x := by
  unfold minB
  rw [Bool.and_eq_true, List.all_eq_true]
  constructor
  · rintro ⟨h1, h2⟩
    refine ⟨h1, fun y hy hv hs => ?_⟩
    have := h2 y hy
    rw [hv, and_sub hv h1, hs] at this
    simpa using this
  · rintro ⟨h1, h2⟩
    refine ⟨h1, fun y hy => ?_⟩
    cases hv : validB y
    · simp
    · rw [and_sub hv h1]
      cases hs : subI y x
      · simp
      · have := h2 y hy hv hs
        subst this
        simp
theorem mem_least_min {l : List Int} {x : Int} : x ∈ leastS l ↔ x ∈ l ∧ minB l x = true := by rw [mem_leastS, minB_iff]
theorem cmpS_other {x y : Int} (h : ¬ cmpS y x < 0) (hne : y ≠ x) : cmpS x y < 0 := by
  rw [cmpS_ltQ] at *
  omega
theorem cmpS_tr {x y z : Int} (h : cmpS x y < 0) (k : cmpS y z < 0) : cmpS x z < 0 := by
  rw [cmpS_ltQ] at *
  omega
/-- A set put in at its place. -/
def insS (out : List Int) (k : Nat) (x : Int) : List Int := out.take k ++ x :: out.drop k
theorem insS_len (out : List Int) (k : Nat) (x : Int) : (insS out k x).length = out.length + 1 := by
  unfold insS
  simp only [List.length_append, List.length_take, List.length_cons, List.length_drop]
  omega
theorem mem_insS (out : List Int) (k : Nat) (x z : Int) : z ∈ insS out k x ↔ z = x ∨ z ∈ out := by
  unfold insS
  rw [List.mem_append, List.mem_cons]
  conv => rhs; rw [← List.take_append_drop k out, List.mem_append]
  constructor
  · rintro (h | h | h)
    · exact .inr (.inl h)
    · exact .inl h
    · exact .inr (.inr h)
  · rintro (h | h | h)
    · exact .inr (.inl h)
    · exact .inl h
    · exact .inr (.inr h)
theorem ins_sorted {out : List Int} {k : Nat} {x : Int} (hs : out.Pairwise fun a b => cmpS a b < 0) (h1 : ∀ i (hi : i < out.length), k ≤ i → ¬ cmpS out[i] x < 0) (h2 : k = 0 ∨ ∃ hk : k - 1 < out.length, cmpS out[k - 1] x < 0) (hx : x ∉ out) :
    (insS out k x).Pairwise fun a b => cmpS a b < 0 := by
  unfold insS
  have hlow : ∀ a ∈ out.take k, cmpS a x < 0 := fun a ha => by
    obtain ⟨i, hi, rfl⟩ := List.getElem_of_mem ha
    rw [List.length_take] at hi
    rw [List.getElem_take]
    rcases h2 with h2 | ⟨hk, h2⟩
    · omega
    · by_cases e : i = k - 1
      · subst e; exact h2
      · exact cmpS_tr ((List.pairwise_iff_getElem.1 hs) i (k - 1) (by omega) hk (by omega)) h2
  have hhigh : ∀ b ∈ out.drop k, cmpS x b < 0 := fun b hb => by
    obtain ⟨i, hi, rfl⟩ := List.getElem_of_mem hb
    rw [List.length_drop] at hi
    rw [List.getElem_drop]
    refine cmpS_other (h1 _ (by omega) (by omega)) fun e => hx ?_
    rw [← e]
    exact List.getElem_mem _
  rw [List.pairwise_append, List.pairwise_cons]
  refine ⟨hs.sublist (List.take_sublist _ _), ⟨hhigh, hs.sublist (List.drop_sublist _ _)⟩, fun a ha b hb => ?_⟩
  rcases List.mem_cons.1 hb with rfl | hb
  · exact hlow a ha
  · exact cmpS_tr (hlow a ha) (hhigh b hb)
/-- A list in order that has just the least sets is the list of the least sets. -/
theorem least_end {l out : List Int} (hs : out.Pairwise fun a b => cmpS a b < 0) (h : ∀ z, z ∈ out ↔ z ∈ l ∧ minB l z = true) : out = leastS l :=
  cmpS_ext hs (leastS_strict l) fun z => by rw [h, mem_least_min]

/-- What the copy leaves in the row, and then the store. -/
theorem splice_ins (out : List Int) (k : Nat) (x : Int) (hk : k ≤ out.length) : (splice (out ++ [0]) (k + 1) (out.drop k)).set k x = insS out k x := by
  unfold splice insS
  have e1 : k + 1 + (out.drop k).length = (out ++ [0]).length := by simp; omega
  rw [e1, List.drop_length, List.append_nil]
  have e2 : (out ++ [(0 : Int)]).take (k + 1) = out.take k ++ [(out ++ [(0 : Int)])[k]'(by simp; omega)] := by
    rw [List.take_succ_eq_append_getElem (by simp; omega), List.take_append_of_le_length hk]
  rw [e2, List.append_assoc, List.set_append_right k x (by rw [List.length_take]; omega)]
  simp only [List.length_take, Nat.min_eq_left hk, Nat.sub_self, List.cons_append, List.nil_append, List.set_cons_zero]

open Go.RowKit in
theorem fr_setRow (w : World) (g : Nat) (cs : Array Value) : Fr (some g) w (w.setRow g cs) :=
  ⟨rfl, rfl, rfl, by simp [World.setRow], fun k _ hne => setRow_other w g k cs (fun e => hne (by rw [e]))⟩
/-- copy within the memory of w: the row g behind it, and that nothing else has changed. -/
theorem copy_fr {P : Program} {w : World} {ops : Array Oper} {rest : List Oper} {o : Oper} {a : Act} {Q : Exit → Act → World → Prop} (hgd : o.guard = none) (d s : Operand) (dT sT : TypeId)
    (ho : o.op = .call { callee := .builtin .copy, args := #[d, s], argTypes := #[dT, sT] }) (elem : TypeId) (hu : P.underlying dT = some (.slice elem)) (hsz : (P.info? elem).map (·.size) = some 1)
    (dp sp : Option Addr) (dLen dCap sLen sCap : Nat) (hd : a.eval d = .slice dp dLen dCap) (hs : a.eval s = .slice sp sLen sCap)
    (g off : Nat) (cur : List Value) (t : TypeId) (hg : w.heap[g]? = some (.cells cur.toArray t (0, 0))) (cs : List Value) (hn : cs.length = Nat.min sLen dLen)
    (hpos : 0 < cs.length → dp = some ⟨g, off, none⟩ ∧ ∃ ad, sp = some ad ∧ ∀ j v, cs[j]? = some v → w.cell? (ad.add j) = some v)
    (hfit : off + cs.length ≤ cur.length) (h1 : ∀ v ∈ cs, v.oneCell' = true)
    (h : ∀ w', Hid (w'.heap[g]? = some (.cells (splice cur off cs).toArray t (0, 0))) → Fr (some g) w w' → wpList P ops Q rest (a.put o.dst (goInt cs.length)) w') :
    wpList P ops Q (o :: rest) a w := by
  by_cases h0 : cs.length = 0
  · obtain rfl : cs = [] := List.eq_nil_of_length_eq_zero h0
    refine wpList_copy_nothing hgd d s dT sT ho elem hu hsz dp sp dLen dCap sLen sCap hd hs (by simpa using hn.symm) ?_
    exact h w (show _ = _ by simpa [splice] using hg) (Fr.refl _ _)
  · obtain ⟨rfl, ad, rfl, hsrc⟩ := hpos (by omega)
    refine wpList_copy_own hgd d s dT sT ho elem hu hsz g off dLen dCap ad sLen sCap hd hs cur.toArray t hg cs hn hsrc (by simpa using hfit) h1 ?_
    exact h _ (show _ = _ by simpa [splice] using setRow_heap w g _ _ t _ hg) (fr_setRow _ _ _)
end Go.Proofs.Ytidnnjgiogklaaa

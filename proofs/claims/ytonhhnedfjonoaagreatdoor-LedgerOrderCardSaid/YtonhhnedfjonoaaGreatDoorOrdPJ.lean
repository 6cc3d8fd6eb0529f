/- Some texts of this claim, joined. -/
import Derived.Test.YtonhhnedfjonoaaGreatDoorJM2
import Derived.Test.YtonhhnedfjonoaaGreatDoorJM3

set_option linter.unusedSimpArgs false
set_option linter.unusedVariables false
/- Plain words for memory: own rows of records, a cell of one written. -/
namespace Go.Proofs.YtonhhnedfjonoaaGreatDoor
open Go.RowKit

theorem flR_set {α : Type} (R : Rec α) (u : Value) (y : α) (j : Nat) (hj : j < R.sz) : ∀ (l : List α) (k : Nat) (hk : k < l.length), (R.enc l[k]).set j u = R.enc y → (flR R l).set (k * R.sz + j) u = flR R (l.set k y)
  | x :: r, 0, _, h => by
    have h : (R.enc x).set j u = R.enc y := h
    rw [flR_cons, Nat.zero_mul, Nat.zero_add, List.set_append_left _ _ (by rw [R.len]; exact hj), h]
    rfl
  | x :: r, k + 1, hk, h => by
    have e : (k + 1) * R.sz + j - (R.enc x).length = k * R.sz + j := by rw [R.len, Nat.succ_mul]; omega
    rw [flR_cons, List.set_append_right _ _ (by rw [R.len, Nat.succ_mul]; omega), e, flR_set R u y j hj r k (by simpa using hk) (by simpa using h)]
    rfl
theorem own_set7 {w : World} {base : Nat} {e : TypeId} {size b n c : Nat} {xs : List Value} (h : w.ownsRow base e size (.slice (some ⟨b, 0, none⟩) n c) n xs) (i : Nat) (u : Value) :
    (w.setCell ⟨b, i, none⟩ u).ownsRow base e size (.slice (some ⟨b, 0, none⟩) n c) n (xs.set i u) := by
  obtain ⟨hl, h2⟩ := h
  refine ⟨by simpa using hl, .inr ?_⟩
  rcases h2 with ⟨h, _⟩ | ⟨g, cap, cur, e1, hg, hh, hnc, hm, hs, ht⟩
  · cases h
  · injection e1 with e1 _ e3
    injection e1 with e1
    injection e1 with e1
    subst e1 e3
    refine ⟨b, c, _, rfl, hg, blk_set hh i u, hnc, hm, by simpa using hs, ?_⟩
    rw [Array.toList_setIfInBounds, List.take_set, ht]
theorem own_free7 {w : World} {base : Nat} {e : TypeId} {size b n c : Nat} {xs : List Value} (h : w.ownsRow base e size (.slice (some ⟨b, 0, none⟩) n c) n xs) : (∀ i, w.frozen? ⟨b, i, none⟩ = false) ∧ (∀ i u, xs[i]? = some u → w.cell? ⟨b, i, none⟩ = some u) ∧ b < w.heap.size ∧ base ≤ b ∧ n ≤ c ∧ c ≤ maxLen := by
  obtain ⟨hl, h2⟩ := h
  rcases h2 with ⟨h, _⟩ | ⟨g, cap, cur, e1, hg, hh, hnc, hm, hs, ht⟩
  · cases h
  · injection e1 with e1 _ e3
    injection e1 with e1
    injection e1 with e1
    subst e1 e3
    refine ⟨fun i => blk_free hh i, fun i u hu => ?_, blk_lt hh, hg, hnc, hm⟩
    rw [blk_cell hh i, ← Array.getElem?_toList]
    rw [← ht, List.getElem?_take] at hu
    split at hu
    · exact hu
    · cases hu
theorem own_some {w : World} {base : Nat} {e : TypeId} {size n c : Nat} {A : Option Addr} {xs : List Value} (h : w.ownsRow base e size (.slice A n c) n xs) (hn : 0 < n) : ∃ b, A = some ⟨b, 0, none⟩ := by
  rcases h.2 with ⟨_, h0⟩ | ⟨g, cap, cur, e1, _⟩
  · omega
  · injection e1 with e1 _ _
    exact ⟨g, e1⟩
theorem own_cap {w : World} {base : Nat} {e : TypeId} {size n c : Nat} {A : Option Addr} {xs : List Value} (h : w.ownsRow base e size (.slice A n c) n xs) : n ≤ c ∧ c ≤ 9223372036854775807 := by
  rcases h.2 with ⟨h1, h0⟩ | ⟨g, cap, cur, e1, _, _, h1, h2, _⟩
  · injection h1 with _ _ h1; omega
  · injection e1 with _ _ e1
    unfold maxLen at h2
    omega
theorem own_bs {w : World} {b b' : Nat} {e : TypeId} {size n : Nat} {v : Value} {xs : List Value} (h : w.ownsRow b e size v n xs) (hb : b' ≤ b) : w.ownsRow b' e size v n xs := by
  refine ⟨h.1, ?_⟩
  rcases h.2 with h0 | ⟨g, cap, cur, hv, hg, rest⟩
  · exact .inl h0
  · exact .inr ⟨g, cap, cur, hv, by omega, rest⟩
theorem own_emp {w w' : World} (e : TypeId) (size B : Nat) (hB : B ≤ w.heap.size) (hw : w' = w.alloc (.cells #[] e)) : w'.ownsRow B e size (.slice (some ⟨w.heap.size, 0, none⟩) 0 0) 0 [] := by
  subst hw
  exact ⟨by simp, .inr ⟨w.heap.size, 0, #[], rfl, hB, heap_alloc_new w _, Nat.le_refl _, by unfold maxLen; omega, by simp, by simp⟩⟩
theorem lgcells {w : World} {b : Nat} {v0 v1 v2 v3 v4 v5 v6 : Value} {T : TypeId} (h : w.heap[b]? = some (.cells #[v0, v1, v2, v3, v4, v5, v6] T (0, 0))) : w.cell? ⟨b, 0, none⟩ = some v0 ∧ w.cell? ⟨b, 1, none⟩ = some v1 ∧ w.cell? ⟨b, 2, none⟩ = some v2 ∧ w.cell? ⟨b, 3, none⟩ = some v3 ∧ w.cell? ⟨b, 4, none⟩ = some v4 ∧ w.cell? ⟨b, 5, none⟩ = some v5 ∧ w.cell? ⟨b, 6, none⟩ = some v6 := by
  refine ⟨?_, ?_, ?_, ?_, ?_, ?_, ?_⟩ <;> (rw [blk_cell h]; rfl)
end Go.Proofs.YtonhhnedfjonoaaGreatDoor

/- The rule of OrdN, once more: behind an effect the loads' invariant may know more than before (of what the call has made). -/
namespace Go.Proofs.YtonhhnedfjonoaaGreatDoor
open Go Go.RowKit

def FxP (P : Program) (ops : Array Oper) (eff : List Nat) (a0 : Act) (K : List Value → World → Prop) : List Nat → List Nat → List Value → (World → Prop) → (World → Prop) → List Nat → Prop
  | [], _, vs, S, _, _ => ∀ W, S W → K vs W
  | i :: r, os, vs, S, G, gl => ∃ o, ops[i]? = some o ∧
    ((eff.contains i = false ∧ ∃ v, StillN P (fun _ => True) ops a0 os vs i o v ∧ FxP P ops eff a0 K r (i :: os) (v :: vs) S G gl) ∨
     (eff.contains i = false ∧ ∃ v, StillN P G ops a0 os vs i o v ∧ FxP P ops eff a0 K r (i :: os) (v :: vs) S G (i :: gl)) ∨
     (eff.contains i = false ∧ (r.all fun e => !eff.contains e || (ancs ops e).contains i) = true ∧ ∃ v, StillN P S ops a0 os vs i o v ∧ FxP P ops eff a0 K r (i :: os) (v :: vs) S G gl) ∨
     (eff.contains i = true ∧ (r.all fun k => (ancs ops k).contains i) = true ∧ ∃ T : Value → World → Prop, EffG P S ops a0 os vs i o T ∧
       ∃ (G' : Value → World → Prop) (gl' : List Nat), ((gl' = gl ∧ ∀ v w, T v w → G' v w ∧ ∀ W, G' v W → G W) ∨ (gl' = [] ∧ (gl.all fun j => (ancs ops i).contains j) = true ∧ ∀ v w, T v w → G' v w)) ∧ ∀ v w0, T v w0 → FxP P ops eff a0 K r (i :: os) (v :: vs) (T v) (G' v) gl'))
theorem FxP.weak {P : Program} {ops : Array Oper} {eff : List Nat} {a0 : Act} {K : List Value → World → Prop} {S S' : World → Prop} (hS : ∀ w, S' w → S w) : ∀ (r os : List Nat) (vs : List Value) (G : World → Prop) (gl : List Nat), FxP P ops eff a0 K r os vs S G gl → FxP P ops eff a0 K r os vs S' G gl
  | [], _, _, _, _, h => fun W hW => h W (hS W hW)
  | _ :: r, os, vs, G, gl, h => by
    obtain ⟨o, ho, h⟩ := h
    refine ⟨o, ho, ?_⟩
    rcases h with ⟨h1, v, h2, h3⟩ | ⟨h1, v, h2, h3⟩ | ⟨h1, h4, v, h2, h3⟩ | ⟨h1, h2, T, h3, h4⟩
    · exact .inl ⟨h1, v, h2, FxP.weak hS r _ _ _ _ h3⟩
    · exact .inr (.inl ⟨h1, v, h2, FxP.weak hS r _ _ _ _ h3⟩)
    · exact .inr (.inr (.inl ⟨h1, h4, v, h2.weak hS, FxP.weak hS r _ _ _ _ h3⟩))
    · exact .inr (.inr (.inr ⟨h1, h2, T, h3.weak hS, h4⟩))
section
variable {P : Program} {ops : Array Oper} {G S S' : World → Prop} {gl gl' : List Nat} {eff : List Nat} {a0 : Act} {K : List Value → World → Prop} {o : Oper} {i : Nat} {r os : List Nat} {vs : List Value} {v : Value} {f : FuncId} {args : Array Value} {j : Nat} {want : Bool}
/-- How the loads' invariant goes on behind an effect: it stays; or, where the effect has waited for all these loads, it is another one. -/
def NextP (ops : Array Oper) (i : Nat) (T G : World → Prop) (gl : List Nat) (G' : World → Prop) (gl' : List Nat) : Prop := (gl' = gl ∧ (∀ w, T w → G' w) ∧ ∀ W, G' W → G W) ∨ (gl' = [] ∧ (gl.all fun j => (ancs ops i).contains j) = true ∧ ∀ w, T w → G' w)
theorem NextP.new {T G' : World → Prop} (hb : (gl.all fun j => (ancs ops i).contains j) = true) (h : ∀ w, T w → G' w) : NextP ops i T G gl G' [] := .inr ⟨rfl, hb, h⟩
theorem nextVP {T G' : World → Prop} (h : NextP ops i T G gl G' gl') (u : Value) : (gl' = gl ∧ ∀ v w, (fun v w => v = u ∧ T w) v w → (fun _ => G') v w ∧ ∀ W, (fun _ => G') v W → G W) ∨ (gl' = [] ∧ (gl.all fun j => (ancs ops i).contains j) = true ∧ ∀ v w, (fun v w => v = u ∧ T w) v w → (fun _ => G') v w) := by
  rcases h with ⟨h1, h2, h3⟩ | ⟨h1, h2, h3⟩
  · exact .inl ⟨h1, fun v w h => ⟨h2 w h.2, h3⟩⟩
  · exact .inr ⟨h1, h2, fun v w h => h3 w h.2⟩
theorem FxP.done (h : ∀ W, S W → K vs W) : FxP P ops eff a0 K [] os vs S G gl := h
theorem FxP.pure (ho : ops[i]? = some o) (hg : o.guard = none) (he : eff.contains i = false) (h : ∀ ev w, EvN ops a0 i os vs ev → (execOp ev o).run P w = .ok (.value v) w) (hr : FxP P ops eff a0 K r (i :: os) (v :: vs) S G gl) : FxP P ops eff a0 K (i :: r) os vs S G gl :=
  ⟨o, ho, .inl ⟨he, v, by unfold StillN; rw [hg]; exact fun ev w _ => h ev w, hr⟩⟩
theorem FxP.gpure (m : Nat) (ho : ops[i]? = some o) (hg : o.guard = some (j, want)) (he : eff.contains i = false) (hm : os[m]? = some j) (hj : nthV vs m = .bool want) (h : ∀ ev w, EvN ops a0 i os vs ev → (execOp ev o).run P w = .ok (.value v) w) (hr : FxP P ops eff a0 K r (i :: os) (v :: vs) S G gl) : FxP P ops eff a0 K (i :: r) os vs S G gl :=
  ⟨o, ho, .inl ⟨he, v, by unfold StillN; rw [hg]; exact ⟨m, hm, fun _ ev w _ => h ev w, fun e => absurd hj e⟩, hr⟩⟩
theorem FxP.skip (m : Nat) (ho : ops[i]? = some o) (hg : o.guard = some (j, want)) (he : eff.contains i = false) (hm : os[m]? = some j) (hj : nthV vs m ≠ .bool want) (hr : FxP P ops eff a0 K r (i :: os) (undef :: vs) S G gl) : FxP P ops eff a0 K (i :: r) os vs S G gl :=
  ⟨o, ho, .inl ⟨he, undef, by unfold StillN; rw [hg]; exact ⟨m, hm, fun e => absurd e hj, fun _ => rfl⟩, hr⟩⟩
/-- A load under the loads' invariant. -/
theorem FxP.load (ho : ops[i]? = some o) (hg : o.guard = none) (he : eff.contains i = false) (h : ∀ ev w, G w → EvN ops a0 i os vs ev → (execOp ev o).run P w = .ok (.value v) w) (hr : FxP P ops eff a0 K r (i :: os) (v :: vs) S G (i :: gl)) : FxP P ops eff a0 K (i :: r) os vs S G gl :=
  ⟨o, ho, .inr (.inl ⟨he, v, by unfold StillN; rw [hg]; exact h, hr⟩)⟩
theorem FxP.gload (m : Nat) (ho : ops[i]? = some o) (hg : o.guard = some (j, want)) (he : eff.contains i = false) (hm : os[m]? = some j) (hj : nthV vs m = .bool want) (h : ∀ ev w, G w → EvN ops a0 i os vs ev → (execOp ev o).run P w = .ok (.value v) w) (hr : FxP P ops eff a0 K r (i :: os) (v :: vs) S G (i :: gl)) : FxP P ops eff a0 K (i :: r) os vs S G gl :=
  ⟨o, ho, .inr (.inl ⟨he, v, by unfold StillN; rw [hg]; exact ⟨m, hm, fun _ => h, fun e => absurd hj e⟩, hr⟩)⟩
/-- A call of whose value something is known. -/
theorem FxP.call (T : Value → World → Prop) (ho : ops[i]? = some o) (hg : o.guard = none) (he : eff.contains i = true) (hc : (r.all fun k => (ancs ops k).contains i) = true) (h : ∀ ev w, S w → EvN ops a0 i os vs ev → (execOp ev o).run P w = .ok (.enter f args) w) (hk : ∀ w, S w → Calls P f args w fun e w'' => ∃ v, e = .returned v ∧ T v w'') (hG : ∀ v w, T v w → G w) (hr : ∀ v w0, T v w0 → FxP P ops eff a0 K r (i :: os) (v :: vs) (T v) G gl) : FxP P ops eff a0 K (i :: r) os vs S G gl :=
  ⟨o, ho, .inr (.inr (.inr ⟨he, hc, T, by unfold EffG; rw [hg]; exact fun ev w hS E => .inr (.inr ⟨f, args, w, h ev w hS E, hk w hS⟩), fun _ => G, gl, .inl ⟨rfl, fun v w h => ⟨hG v w h, fun _ h => h⟩⟩, hr⟩))⟩
theorem FxP.gcall (T : Value → World → Prop) (m : Nat) (ho : ops[i]? = some o) (hg : o.guard = some (j, want)) (he : eff.contains i = true) (hm : os[m]? = some j) (hj : nthV vs m = .bool want) (hc : (r.all fun k => (ancs ops k).contains i) = true) (h : ∀ ev w, S w → EvN ops a0 i os vs ev → (execOp ev o).run P w = .ok (.enter f args) w) (hk : ∀ w, S w → Calls P f args w fun e w'' => ∃ v, e = .returned v ∧ T v w'') (hG : ∀ v w, T v w → G w) (hr : ∀ v w0, T v w0 → FxP P ops eff a0 K r (i :: os) (v :: vs) (T v) G gl) : FxP P ops eff a0 K (i :: r) os vs S G gl :=
  ⟨o, ho, .inr (.inr (.inr ⟨he, hc, T, by unfold EffG; rw [hg]; exact ⟨m, hm, fun _ ev w hS E => .inr (.inr ⟨f, args, w, h ev w hS E, hk w hS⟩), fun e => absurd hj e⟩, fun _ => G, gl, .inl ⟨rfl, fun v w h => ⟨hG v w h, fun _ h => h⟩⟩, hr⟩))⟩
/-- An operation that makes memory (its value is not known beforehand). -/
theorem FxP.new (T : Value → World → Prop) (ho : ops[i]? = some o) (hg : o.guard = none) (he : eff.contains i = true) (hc : (r.all fun k => (ancs ops k).contains i) = true) (h : ∀ ev w, S w → EvN ops a0 i os vs ev → ∃ v w', (execOp ev o).run P w = .ok (.value v) w' ∧ T v w') (hG : ∀ v w, T v w → G w) (hr : ∀ v w0, T v w0 → FxP P ops eff a0 K r (i :: os) (v :: vs) (T v) G gl) : FxP P ops eff a0 K (i :: r) os vs S G gl :=
  ⟨o, ho, .inr (.inr (.inr ⟨he, hc, T, by unfold EffG; rw [hg]; exact fun ev w hS E => .inl (h ev w hS E), fun _ => G, gl, .inl ⟨rfl, fun v w h => ⟨hG v w h, fun _ h => h⟩⟩, hr⟩))⟩
theorem FxP.store {G' : World → Prop} (ho : ops[i]? = some o) (hg : o.guard = none) (he : eff.contains i = true) (hc : (r.all fun k => (ancs ops k).contains i) = true) (h : ∀ ev w, S w → EvN ops a0 i os vs ev → ∃ w', (execOp ev o).run P w = .ok .skip w' ∧ S' w') (hG : NextP ops i S' G gl G' gl') (hr : FxP P ops eff a0 K r (i :: os) (undef :: vs) S' G' gl') : FxP P ops eff a0 K (i :: r) os vs S G gl :=
  ⟨o, ho, .inr (.inr (.inr ⟨he, hc, fun u w => u = undef ∧ S' w, by unfold EffG; rw [hg]; exact fun ev w hS E => .inr (.inl (by obtain ⟨w', h1, h2⟩ := h ev w hS E; exact ⟨w', h1, rfl, h2⟩)), fun _ => G', gl', nextVP hG undef, fun u w0 hu => by obtain ⟨rfl, _⟩ := hu; exact FxP.weak (fun w h => h.2) r _ _ _ _ hr⟩))⟩
end
/-- What is owed for an operation that has been taken, but has not come up yet. -/
def ObP (P : Program) (ops : Array Oper) (S G : World → Prop) (gl eff : List Nat) (a0 : Act) (suf os : List Nat) (vs : List Value) (j : Nat) (v : Value) : Prop :=
  ∃ o, ops[j]? = some o ∧ eff.contains j = false ∧ (StillN P (fun _ => True) ops a0 os vs j o v ∨ (StillN P G ops a0 os vs j o v ∧ j ∈ gl) ∨ (StillN P S ops a0 os vs j o v ∧ ∀ e r, suf = e :: r → eff.contains e = true → (ancs ops e).contains j = true))
/-- Taking what is still, up to the next effect. -/
theorem FxP.adv {P : Program} {ops : Array Oper} {eff : List Nat} {a0 : Act} {K : List Value → World → Prop} {S G : World → Prop} :
    ∀ (r os : List Nat) (vs : List Value) (gl : List Nat), FxP P ops eff a0 K r os vs S G gl →
      ∃ (pre suf : List Nat) (us : List Value) (gm : List Nat), r = pre ++ suf ∧ us.length = pre.length ∧ FxP P ops eff a0 K suf (pre.reverse ++ os) (us ++ vs) S G gm ∧ (∀ j ∈ gl, j ∈ gm) ∧ (∀ e t, suf = e :: t → eff.contains e = true) ∧
        ∀ m j, m < pre.length → (pre.reverse ++ os)[m]? = some j → ObP P ops S G gm eff a0 suf ((pre.reverse ++ os).drop (m + 1)) ((us ++ vs).drop (m + 1)) j (nthV (us ++ vs) m)
  | [], os, vs, gl, h => ⟨[], [], [], gl, rfl, rfl, h, (fun _ h => h), (fun _ _ h => by cases h), (fun m j hm => absurd hm (by simp))⟩
  | i :: r, os, vs, gl, h => by
    cases hc : eff.contains i with
    | true => exact ⟨[], i :: r, [], gl, rfl, rfl, h, (fun _ h => h), (fun e t h => by injection h with h1; rw [← h1]; exact hc), (fun m j hm => absurd hm (by simp))⟩
    | false =>
      obtain ⟨o, ho, h⟩ := h
      have key : ∃ v gl', (StillN P (fun _ => True) ops a0 os vs i o v ∨ (StillN P G ops a0 os vs i o v ∧ i ∈ gl') ∨ (StillN P S ops a0 os vs i o v ∧ (r.all fun e => !eff.contains e || (ancs ops e).contains i) = true)) ∧ (∀ j ∈ gl, j ∈ gl') ∧ FxP P ops eff a0 K r (i :: os) (v :: vs) S G gl' := by
        rcases h with ⟨_, v, h1, h2⟩ | ⟨_, v, h1, h2⟩ | ⟨_, hb, v, h1, h2⟩ | ⟨h1, _⟩
        · exact ⟨v, gl, .inl h1, fun _ h => h, h2⟩
        · exact ⟨v, i :: gl, .inr (.inl ⟨h1, by simp⟩), fun _ h => List.mem_cons_of_mem _ h, h2⟩
        · exact ⟨v, gl, .inr (.inr ⟨h1, hb⟩), fun _ h => h, h2⟩
        · rw [hc] at h1; cases h1
      obtain ⟨v, gl', hv, hgl, h2⟩ := key
      obtain ⟨pre, suf, us, gm, e1, e2, e3, e6, e4, e5⟩ := FxP.adv r (i :: os) (v :: vs) gl' h2
      refine ⟨i :: pre, suf, us ++ [v], gm, by rw [e1]; rfl, by simp [e2], ?_, fun j hj => e6 j (hgl j hj), e4, ?_⟩
      · simpa [List.append_assoc] using e3
      · intro m j hm hj
        have hl : (i :: pre).reverse ++ os = pre.reverse ++ (i :: os) := by simp
        have hl2 : us ++ [v] ++ vs = us ++ (v :: vs) := by simp
        rw [hl] at hj ⊢
        rw [hl2]
        rcases Nat.lt_or_ge m pre.length with h' | h'
        · exact e5 m j h' hj
        · have hm' : m = pre.length := by simp at hm; omega
          subst hm'
          have hji : j = i := by
            rw [List.getElem?_append_right (by simp)] at hj
            simpa using hj.symm
          subst hji
          have hd1 : (pre.reverse ++ (j :: os)).drop (pre.length + 1) = os := by
            rw [show pre.length + 1 = (pre.reverse ++ [j]).length by simp, show pre.reverse ++ (j :: os) = (pre.reverse ++ [j]) ++ os by simp, List.drop_left]
          have hd2 : (us ++ (v :: vs)).drop (pre.length + 1) = vs := by
            rw [← e2, show us.length + 1 = (us ++ [v]).length by simp, show us ++ (v :: vs) = (us ++ [v]) ++ vs by simp, List.drop_left]
          have hnv : nthV (us ++ (v :: vs)) pre.length = v := by
            rw [← e2]
            have : ∀ us : List Value, nthV (us ++ (v :: vs)) us.length = v := by
              intro us
              induction us with
              | nil => rfl
              | cons x t ih => exact ih
            exact this us
          rw [hd1, hd2, hnv]
          refine ⟨o, ho, hc, ?_⟩
          rcases hv with hv | hv | hv
          · exact .inl hv
          · exact .inr (.inl ⟨hv.1, e6 j hv.2⟩)
          · refine .inr (.inr ⟨hv.1, fun e t hs he => ?_⟩)
            have h3 := List.all_eq_true.1 hv.2 e (by rw [e1, hs]; simp)
            rw [he] at h3
            simpa using h3
theorem wp_region_fxP {P : Program} {ops : Array Oper} {Q : Exit → Act → World → Prop} (G S0 : World → Prop) {id : Nat} {a0 : Act} {w : World} (eff ord : List Nat) (N : Nat) (dsts : List (Option Tmp)) (hm : P.follows .mixedOrders = true) (hB : nxB ops ord N = true) (hD : ord.reverse.map (dstO ops) = dsts) (hN : N ≤ a0.tmps.size) (h0 : S0 w.drew) (hG : ∀ W, S0 W → G W)
    (h : FxP P ops eff a0 (fun vs W => Q .normal (fillZ dsts vs a0) W) ord [] [] S0 G []) : (Code.region id ops true).wp P Q a0 w := by
  unfold nxB at hB
  simp only [Bool.and_eq_true] at hB
  obtain ⟨hf, hd, hn, hgd, hnd, hlt', hall⟩ := hB
  have hnd := nodupB_spec ord hnd
  have hordlt : ∀ j ∈ ord, j < ops.size := fun j hj => of_decide_eq_true (List.all_eq_true.1 hlt' j hj)
  have hord : ∀ j, j < ops.size → j ∈ ord := fun j hj => List.contains_iff_mem.1 (List.all_eq_true.1 hall j (by simpa using hj))
  have hlt : ∀ j d, dstO ops j = some d → j < ops.size := by
    intro j d hj
    rcases Nat.lt_or_ge j ops.size with h' | h'
    · exact h'
    · unfold dstO at hj; rw [Array.getElem?_eq_none h'] at hj; cases hj
  have hdep : ∀ {i j : Nat} {o : Oper}, ops[i]? = some o → depB ops i j = true → ∃ e ∈ o.after, Region.binds .any e = true ∧ e.on = j := by
    intro i j o ho h
    unfold depB at h
    rw [ho] at h
    simp only [Option.map_some, Option.getD_some] at h
    rw [Array.any_eq_true'] at h
    obtain ⟨e, he, h2⟩ := h
    rw [Bool.and_eq_true, beq_iff_eq] at h2
    exact ⟨e, he, h2⟩
  -- the invariant
  let J : (Nat → Prop) → (Nat → Value) → World → Prop := fun L ys w => Clo ops L ∧ ∃ (pre suf : List Nat) (vs : List Value) (S G : World → Prop) (gl : List Nat), ord = pre ++ suf ∧ vs.length = pre.length ∧ FxP P ops eff a0 (fun vs W => Q .normal (fillZ dsts vs a0) W) suf pre.reverse vs S G gl ∧ S w ∧ G w ∧
    (∀ e t, suf = e :: t → eff.contains e = true ∧ ¬ L e) ∧ (∀ j, j < ops.size → L j → j ∈ pre) ∧ (∀ m j, pre.reverse[m]? = some j → L j → ys j = nthV vs m) ∧
    (∀ m j, pre.reverse[m]? = some j → ¬ L j → ObP P ops S G gl eff a0 suf (pre.reverse.drop (m + 1)) (vs.drop (m + 1)) j (nthV vs m))
  have nthV_drop : ∀ (m : Nat) (l : List Value) (n : Nat), nthV (l.drop m) n = nthV l (n + m) := by
    intro m
    induction m with
    | zero => intro l n; rfl
    | succ m ih =>
      intro l n
      cases l with
      | nil => simp [nthV]
      | cons a r => rw [List.drop_succ_cons, ih]; rfl
  refine wp_region_inv J (fun ys => fillA ops ys ops.size a0) hm hd hf (fun _ => rfl) ?_ ?_ ?_
  · intro ys
    obtain ⟨pre, suf, us, gm, e1, e2, e3, _, e4, e5⟩ := FxP.adv ord [] [] [] h
    rw [List.append_nil] at e3
    rw [List.append_nil] at e3
    refine ⟨fun _ _ _ h => h.elim, pre, suf, us, S0, G, gm, e1, e2, e3, h0, hG _ h0, fun e t he => ⟨e4 e t he, fun h => h⟩, fun j _ h => h.elim, fun m j _ h => h.elim, fun m j hj _ => ?_⟩
    have hm : m < pre.length := by
      have := (List.getElem?_eq_some_iff.1 hj).1
      simpa using this
    have := e5 m j hm (by rw [List.append_nil]; exact hj)
    simp only [List.append_nil] at this
    exact this
  · rintro L ys w i ⟨hC, pre, suf, vs, S, G, gl, e1, e2, hT, hS, hGw, hhd, hLp, hys, hob⟩ hi hL hdp
    obtain ⟨o, ho⟩ : ∃ o, ops[i]? = some o := ⟨ops[i], by simp [hi]⟩
    have hdj : ∀ j, depB ops i j = true → L j := fun j hj => by
      obtain ⟨e, he, hb, hej⟩ := hdep ho hj
      rw [← hej]
      exact hdp o ho e he hb
    have hC' : Clo ops (fun k => L k ∨ k = i) := fun a b hab h => by
      rcases h with h | h
      · exact .inl (hC a b hab h)
      · subst h; exact .inl (hdj b hab)
    have hin : ∀ j d, dstO ops j = some d → d < a0.tmps.size := by
      intro j d hj
      unfold inR' at hn
      have := List.all_eq_true.1 hn j (by simpa using hlt j d hj)
      rw [hj] at this
      have : d < N := of_decide_eq_true this
      exact Nat.lt_of_lt_of_le this hN
    -- what the evaluation knows
    have hev : ∀ (os' : List Nat) (vs' : List Value), (∀ m j, os'[m]? = some j → L j → ys j = nthV vs' m) → EvN ops a0 i os' vs' (fillA ops ys ops.size a0).eval := fun os' vs' hov =>
      ⟨fun _ => rfl, fun _ => rfl, fun _ => rfl, fun m j d hm hj hdb => by rw [fill_in ops ys hd j d hj ops.size a0 (hlt j d hj) (hin j d hj)]; exact hov m j hm (hdj j hdb), fun t ht => fill_out ops ys t ops.size a0 (fun j hj => by
        unfold outR at ht
        have := List.all_eq_true.1 ht j (by simpa using hj)
        simpa using this)⟩
    have hdst : dstO ops i = o.dst := by unfold dstO; rw [ho]; rfl
    have hguard : ∀ j want, o.guard = some (j, want) → (yielded ops (fillA ops ys ops.size a0).tmps j = some want ↔ ys j = .bool want) ∧ L j := by
      intro j want hgu
      have hdj2 : depB ops i j = true ∧ (dstO ops j).isSome = true := by
        have := List.all_eq_true.1 hgd i (by simpa using hi)
        rw [ho] at this
        simp only [Option.bind_some, hgu, Bool.and_eq_true] at this
        exact this
      refine ⟨?_, hdj j hdj2.1⟩
      unfold yielded
      cases hdd : dstO ops j with
      | none =>
        have := hdj2.2
        rw [hdd] at this
        cases this
      | some d =>
        have hb : (ops[j]?).bind (·.dst) = some d := hdd
        have he : (fillA ops ys ops.size a0).eval (.tmp d) = ys j := fill_in ops ys hd j d hdd ops.size a0 (hlt j d hdd) (hin j d hdd)
        have hs : d < (fillA ops ys ops.size a0).tmps.size := by rw [fill_size]; exact hin j d hdd
        rw [hb]
        simp only [Option.bind_some, Array.getElem?_eq_getElem hs]
        have : (fillA ops ys ops.size a0).tmps[d] = ys j := by
          rw [← he]
          simp [Act.eval, Array.getD, hs]
        rw [this]
        cases ys j <;> simp
    by_cases hip : i ∈ pre
    · -- a still operation
      obtain ⟨m, hm⟩ := List.getElem?_of_mem (List.mem_reverse.2 hip)
      obtain ⟨o', ho', hne, hst⟩ := hob m i hm hL
      rw [ho] at ho'
      injection ho' with ho'
      subst ho'
      have hov : ∀ m' j, (pre.reverse.drop (m + 1))[m']? = some j → L j → ys j = nthV (vs.drop (m + 1)) m' := fun m' j hj hl => by
        rw [List.getElem?_drop] at hj
        rw [nthV_drop, Nat.add_comm]
        exact hys _ j hj hl
      have hE := hev _ _ hov
      have hJ : J (fun k => L k ∨ k = i) (updV ys i (nthV vs m)) w := by
        refine ⟨hC', pre, suf, vs, S, G, gl, e1, e2, hT, hS, hGw, fun e t he => ⟨(hhd e t he).1, fun h => ?_⟩, fun j hj h => ?_, fun m' j hj h => ?_, fun m' j hj h => hob m' j hj (fun h' => h (.inl h'))⟩
        · rcases h with h | h
          · exact (hhd e t he).2 h
          · subst h
            rw [(hhd e t he).1] at hne
            cases hne
        · rcases h with h | h
          · exact hLp j hj h
          · subst h; exact hip
        · unfold updV
          by_cases e : j = i
          · rw [if_pos e]
            subst e
            have hnr : pre.reverse.Nodup := by
              have : (pre ++ suf).Nodup := e1 ▸ hnd
              exact nodup_rev (List.nodup_append.1 this).1
            have : m = m' := by
              obtain ⟨h1, h2⟩ := List.getElem?_eq_some_iff.1 hm
              obtain ⟨h3, h4⟩ := List.getElem?_eq_some_iff.1 hj
              exact (List.getElem_inj hnr).1 (h2.trans h4.symm)
            rw [this]
          · rw [if_neg e]
            exact hys m' j hj (h.resolve_right e)
      have hrun : Region.wanted o (yielded ops (fillA ops ys ops.size a0).tmps) = true → (execOp (fillA ops ys ops.size a0).eval o).run P w = .ok (.value (nthV vs m)) w := by
        intro hw
        have both : ∀ Pre : World → Prop, Pre w → StillN P Pre ops a0 (pre.reverse.drop (m + 1)) (vs.drop (m + 1)) i o (nthV vs m) → (execOp (fillA ops ys ops.size a0).eval o).run P w = .ok (.value (nthV vs m)) w := by
          intro Pre hP hst
          unfold StillN at hst
          cases hgu : o.guard with
          | none => rw [hgu] at hst; exact hst _ w hP hE
          | some jw =>
            obtain ⟨j, want⟩ := jw
            rw [hgu] at hst
            obtain ⟨m', hm', hs1, _⟩ := hst
            obtain ⟨hy, hLj⟩ := hguard j want hgu
            refine hs1 ?_ _ w hP hE
            rw [← hov m' j hm' hLj]
            refine hy.1 ?_
            unfold Region.wanted at hw
            rw [hgu] at hw
            simpa using hw
        rcases hst with hst | ⟨hst, _⟩ | ⟨hst, _⟩
        · exact both _ trivial hst
        · exact both G hGw hst
        · exact both S hS hst
      have hund : Region.wanted o (yielded ops (fillA ops ys ops.size a0).tmps) = false → nthV vs m = undef := by
        intro hw
        have both : ∀ Pre : World → Prop, StillN P Pre ops a0 (pre.reverse.drop (m + 1)) (vs.drop (m + 1)) i o (nthV vs m) → nthV vs m = undef := by
          intro Pre hst
          unfold StillN at hst
          cases hgu : o.guard with
          | none => unfold Region.wanted at hw; rw [hgu] at hw; cases hw
          | some jw =>
            obtain ⟨j, want⟩ := jw
            rw [hgu] at hst
            obtain ⟨m', hm', _, hs2⟩ := hst
            obtain ⟨hy, hLj⟩ := hguard j want hgu
            refine hs2 fun hh => ?_
            rw [← hov m' j hm' hLj] at hh
            unfold Region.wanted at hw
            rw [hgu] at hw
            simp only [hy.2 hh] at hw
            simp at hw
        rcases hst with hst | ⟨hst, _⟩ | ⟨hst, _⟩
        · exact both _ hst
        · exact both G hst
        · exact both S hst
      unfold wpOp
      simp only [ho]
      cases hw : Region.wanted o (yielded ops (fillA ops ys ops.size a0).tmps) with
      | true =>
        rw [if_pos rfl]
        refine .inl ?_
        unfold Oper.wp
        rw [hrun hw, Oper.upon_value]
        exact ⟨_, by rw [hdst], hJ⟩
      | false =>
        rw [if_neg (by simp)]
        refine ⟨nthV vs m, ?_, hJ⟩
        rw [hdst, hund hw]
    · -- an effect
      have his : i ∈ suf := by
        have := hord i hi
        rw [e1] at this
        exact (List.mem_append.1 this).resolve_left hip
      cases suf with
      | nil => cases his
      | cons e t =>
        obtain ⟨hee, heL⟩ := hhd e t rfl
        obtain ⟨o1, ho1, hnode⟩ := hT
        have hnode : (t.all fun k => (ancs ops k).contains e) = true ∧ ∃ T : Value → World → Prop, EffG P S ops a0 pre.reverse vs e o1 T ∧ ∃ (G' : Value → World → Prop) (gl' : List Nat), ((gl' = gl ∧ ∀ v w, T v w → G' v w ∧ ∀ W, G' v W → G W) ∨ (gl' = [] ∧ (gl.all fun j => (ancs ops e).contains j) = true ∧ ∀ v w, T v w → G' v w)) ∧ ∀ v w0, T v w0 → FxP P ops eff a0 (fun vs W => Q .normal (fillZ dsts vs a0) W) t (e :: pre.reverse) (v :: vs) (T v) (G' v) gl' := by
          rcases hnode with ⟨h1, _⟩ | ⟨h1, _⟩ | ⟨h1, _⟩ | ⟨_, h2, h3⟩
          · rw [hee] at h1; cases h1
          · rw [hee] at h1; cases h1
          · rw [hee] at h1; cases h1
          · exact ⟨h2, h3⟩
        obtain ⟨hanc, T, hEff, G', gl', hTG, hnext⟩ := hnode
        have hie : i = e := by
          rcases List.mem_cons.1 his with h' | h'
          · exact h'
          · exfalso
            rcases anc_dep hC hdj (List.all_eq_true.1 hanc i h') with h3 | h3
            · exact heL h3
            · subst h3
              have : (pre ++ (e :: t)).Nodup := e1 ▸ hnd
              have := (List.nodup_cons.1 (List.nodup_append.1 this).2.1).1
              exact this h'
        subst hie
        rw [ho] at ho1
        injection ho1 with ho1
        subst ho1
        have hE := hev pre.reverse vs (fun m j hm hl => hys m j hm hl)
        -- the state behind it
        have hpost : ∀ v w', T v w' → ∃ v', (fillA ops ys ops.size a0).put (dstO ops i) v = (fillA ops ys ops.size a0).put (dstO ops i) v' ∧ J (fun k => L k ∨ k = i) (updV ys i v') w' := by
          intro v w' hTv
          refine ⟨v, rfl, hC', ?_⟩
          obtain ⟨pre2, suf2, us, gm, f1, f2, f3, f6, f4, f5⟩ := FxP.adv t (i :: pre.reverse) (v :: vs) gl' (hnext v w' hTv)
          have hGw' : G' v w' := by
            rcases hTG with ⟨_, hh⟩ | ⟨_, _, hh⟩
            · exact (hh v w' hTv).1
            · exact hh v w' hTv
          have hrev : (pre ++ i :: pre2).reverse = pre2.reverse ++ (i :: pre.reverse) := by simp
          have hord2 : ord = (pre ++ i :: pre2) ++ suf2 := by rw [e1, f1]; simp
          have hnod : ((pre ++ i :: pre2) ++ suf2).Nodup := hord2 ▸ hnd
          have hnotpre2 : ∀ j, j ∈ pre2 → ¬ (L j ∨ j = i) := by
            intro j hj h
            have hjlt : j < ops.size := hordlt j (by rw [hord2]; simp [hj])
            have hn1 : (pre ++ i :: pre2).Nodup := (List.nodup_append.1 hnod).1
            have hn2 := List.nodup_append.1 hn1
            rcases h with h | h
            · exact hn2.2.2 j (hLp j hjlt h) j (by simp [hj]) rfl
            · subst h
              exact (List.nodup_cons.1 hn2.2.1).1 hj
          refine ⟨pre ++ i :: pre2, suf2, us ++ (v :: vs), T v, G' v, gm, hord2, by simp [f2, e2]; omega, by rw [hrev]; exact f3, hTv, hGw', fun e2' t2 he2 => ⟨f4 e2' t2 he2, fun h => ?_⟩, fun j hj h => ?_, fun m j hm h => ?_, fun m j hm h => ?_⟩
          · have hes : e2' ∈ suf2 := by rw [he2]; simp
            have hd3 := (List.nodup_append.1 hnod).2.2
            rcases h with h | h
            · have : e2' < ops.size := hordlt e2' (by rw [hord2]; simp [hes])
              exact hd3 e2' (by simp [hLp e2' this h]) e2' hes rfl
            · subst h
              exact hd3 e2' (by simp) e2' hes rfl
          · rcases h with h | h
            · simp [hLp j hj h]
            · subst h; simp
          · rw [hrev] at hm
            rcases Nat.lt_or_ge m pre2.length with h' | h'
            · rw [List.getElem?_append_left (by simpa using h')] at hm
              exact absurd h (hnotpre2 j (List.mem_reverse.1 (List.mem_of_getElem? hm)))
            · rw [List.getElem?_append_right (by simpa using h')] at hm
              have hsp : ∀ (us : List Value) (k : Nat), nthV (us ++ (v :: vs)) (us.length + k) = nthV (v :: vs) k := by
                intro us
                induction us with
                | nil => intro k; rw [List.nil_append, List.length_nil, Nat.zero_add]
                | cons x tl ih => intro k; rw [List.length_cons, show tl.length + 1 + k = (tl.length + k) + 1 by omega]; exact ih k
              obtain ⟨k, hk⟩ : ∃ k, m = us.length + k := ⟨m - us.length, by omega⟩
              rw [hk, hsp]
              rw [hk, List.length_reverse, ← f2, Nat.add_sub_cancel_left] at hm
              cases k with
              | zero =>
                simp at hm
                subst hm
                unfold updV
                rw [if_pos rfl]; rfl
              | succ k =>
                have hm : pre.reverse[k]? = some j := by simpa using hm
                have hjp : j ∈ pre := List.mem_reverse.1 (List.mem_of_getElem? hm)
                have hji : j ≠ i := fun e => hip (e ▸ hjp)
                unfold updV
                rw [if_neg hji]
                exact hys k j hm (h.resolve_right hji)
          · have hm0 := hm
            rw [hrev] at hm ⊢
            rcases Nat.lt_or_ge m pre2.length with h' | h'
            · exact f5 m j h' hm
            · -- one of before
              rw [List.getElem?_append_right (by simpa using h')] at hm
              obtain ⟨k, hk⟩ : ∃ k, m = pre2.length + k := ⟨m - pre2.length, by omega⟩
              subst hk
              rw [List.length_reverse, Nat.add_sub_cancel_left] at hm
              cases k with
              | zero =>
                simp at hm
                subst hm
                exact absurd (.inr rfl) h
              | succ k =>
                have hm : pre.reverse[k]? = some j := by simpa using hm
                obtain ⟨o2, ho2, hne2, hst2⟩ := hob k j hm (fun hl => h (.inl hl))
                have hd1 : (pre2.reverse ++ (i :: pre.reverse)).drop (pre2.length + (k + 1) + 1) = pre.reverse.drop (k + 1) := by
                  rw [show pre2.length + (k + 1) + 1 = (pre2.reverse ++ [i]).length + (k + 1) by simp; omega, show pre2.reverse ++ (i :: pre.reverse) = (pre2.reverse ++ [i]) ++ pre.reverse by simp, ← List.drop_drop, List.drop_left]
                have hd2 : (us ++ (v :: vs)).drop (pre2.length + (k + 1) + 1) = vs.drop (k + 1) := by
                  rw [← f2, show us.length + (k + 1) + 1 = (us ++ [v]).length + (k + 1) by simp; omega, show us ++ (v :: vs) = (us ++ [v]) ++ vs by simp, ← List.drop_drop, List.drop_left]
                have hnv : nthV (us ++ (v :: vs)) (pre2.length + (k + 1)) = nthV vs k := by
                  have := nthV_drop (us.length + 1) (us ++ (v :: vs)) k
                  rw [show (us ++ (v :: vs)).drop (us.length + 1) = vs by rw [show us.length + 1 = (us ++ [v]).length by simp, show us ++ (v :: vs) = (us ++ [v]) ++ vs by simp, List.drop_left]] at this
                  rw [this, ← f2, show k + (us.length + 1) = us.length + (k + 1) by omega]
                rw [hd1, hd2, hnv]
                refine ⟨o2, ho2, hne2, ?_⟩
                rcases hst2 with hst2 | ⟨hst2, hjg⟩ | ⟨_, hst2⟩
                · exact .inl hst2
                · rcases hTG with ⟨hg1, hg2⟩ | ⟨_, hg2, _⟩
                  · exact .inr (.inl ⟨hst2.weak (hg2 v w' hTv).2, f6 j (hg1 ▸ hjg)⟩)
                  · exfalso
                    rcases anc_dep hC hdj (List.all_eq_true.1 hg2 j hjg) with h7 | h7
                    · exact h (.inl h7)
                    · exact h (.inr h7)
                · exfalso
                  have h6 := hst2 i t rfl hee
                  rcases anc_dep hC hdj h6 with h7 | h7
                  · exact h (.inl h7)
                  · exact h (.inr h7)
        have hrunE : EffN P o (fillA ops ys ops.size a0).eval w T → Oper.wp P o (fillA ops ys ops.size a0) w (fun a' w' => ∃ v, a' = (fillA ops ys ops.size a0).put (dstO ops i) v ∧ J (fun k => L k ∨ k = i) (updV ys i v) w') Q := by
          intro hE2
          unfold Oper.wp
          rcases hE2 with ⟨v, w', hr, hTv⟩ | ⟨w', hr, hTv⟩ | ⟨f, args, w', hr, hc⟩
          · rw [hr, Oper.upon_value, ← hdst]
            obtain ⟨v', h1, h2⟩ := hpost v w' hTv
            exact ⟨v', h1, h2⟩
          · rw [hr, Oper.upon_skip, ← hdst]
            obtain ⟨v', h1, h2⟩ := hpost undef w' hTv
            exact ⟨v', h1, h2⟩
          · rw [hr, Oper.upon_enter]
            refine hc.mono ?_
            rintro ee w'' ⟨v, rfl, hTv⟩
            simp only
            rw [← hdst]
            obtain ⟨v', h1, h2⟩ := hpost v w'' hTv
            exact ⟨v', h1, h2⟩
        unfold EffG at hEff
        unfold wpOp
        simp only [ho]
        cases hgu : o.guard with
        | none =>
          rw [hgu] at hEff
          rw [if_pos (by unfold Region.wanted; rw [hgu])]
          exact .inl (hrunE (hEff _ w hS hE))
        | some jw =>
          obtain ⟨j, want⟩ := jw
          rw [hgu] at hEff
          obtain ⟨m', hm', hs1, hs2⟩ := hEff
          obtain ⟨hy, hLj⟩ := hguard j want hgu
          have hyv := hys m' j hm' hLj
          by_cases hv : nthV vs m' = .bool want
          · rw [if_pos (by unfold Region.wanted; rw [hgu]; simp only; rw [hy.2 (hyv.trans hv)]; simp)]
            exact .inl (hrunE (hs1 hv _ w hS hE))
          · have hw : Region.wanted o (yielded ops (fillA ops ys ops.size a0).tmps) = false := by
              unfold Region.wanted
              rw [hgu]
              simp only
              rw [beq_eq_false_iff_ne]
              exact fun h => hv (hyv ▸ hy.1 h)
            rw [if_neg (by rw [hw]; simp)]
            obtain ⟨v', h1, h2⟩ := hpost undef w (hs2 hv w hS)
            rw [← hdst]
            exact ⟨v', h1, h2⟩
  · rintro L ys w ⟨hC, pre, suf, vs, S, G, gl, e1, e2, hT, hS, hGw, hhd, hLp, hys, hob⟩ hL
    cases suf with
    | cons e t =>
      exact absurd (hL e (hordlt e (by rw [e1]; simp))) (hhd e t rfl).2
    | nil =>
      have hpo : ord = pre := by rw [e1]; simp
      have hnr : pre.reverse.Nodup := nodup_rev (hpo ▸ hnd)
      obtain ⟨y0, hy0⟩ : ∃ y0, fillA ops y0 ops.size a0 = a0 := ⟨_, fill_init ops a0 ops.size⟩
      have h1 := fillZ_of hd a0 y0 pre.reverse vs (by simp [e2]) (fun j hj => hordlt j (by rw [hpo]; exact List.mem_reverse.1 hj))
      rw [hy0] at h1
      have h2 : fillA ops ys ops.size a0 = fillZ dsts vs a0 := by
        rw [← hD, hpo, h1]
        refine fill_congr ops ops.size a0 fun j hj => ?_
        have hjp : j ∈ pre.reverse := List.mem_reverse.2 (hpo ▸ hord j hj)
        obtain ⟨m, hm⟩ := List.getElem?_of_mem hjp
        rw [ysOf_at pre.reverse vs _ m j hnr (by simp [e2]) hm]
        exact hys m j hm (hL j hj)
      show Q .normal (fillA ops ys ops.size a0) w
      rw [h2]
      exact hT w hS
end Go.Proofs.YtonhhnedfjonoaaGreatDoor

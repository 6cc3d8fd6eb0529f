/- Some texts of this claim, joined: contracts of the functions that it reaches, and plain laws. -/
import Derived.Test.YtonhhnedfjonoaaGreatDoorJM19
import Derived.Test.YtonhhnedfjonoaaGreatDoorJM2

set_option linter.unusedSimpArgs false
set_option linter.unusedVariables false
/- A region that draws its order, whose effects (calls, allocations, appends, stores) come in one order: a walk in an order of one's own, values known as they come. -/
namespace Go.Proofs.YtonhhnedfjonoaaGreatDoor
open Go Go.RowKit

/-- What an operation's evaluation knows: os: the operations that have been taken (the last first), vs: their values. -/
structure EvN (ops : Array Oper) (a0 : Act) (i : Nat) (os : List Nat) (vs : List Value) (ev : Operand → Value) : Prop where
  const : ∀ v, ev (.const v) = v
  func : ∀ f, ev (.func f) = .func (.func f) #[] #[]
  glob : ∀ g, ev (.global g) = .pointer (some ⟨g, 0, none⟩)
  tmp : ∀ m j d, os[m]? = some j → dstO ops j = some d → depB ops i j = true → ev (.tmp d) = nthV vs m
  out : ∀ t, outR ops t = true → ev (.tmp t) = a0.eval (.tmp t)
theorem EvN.get {ops : Array Oper} {a0 : Act} {i : Nat} {os : List Nat} {vs : List Value} {ev : Operand → Value} (E : EvN ops a0 i os vs ev) : ∀ (l : List (Nat × Nat × Nat)) (o : List Nat), (l.all (fun x => os[x.1]? == some x.2.1 && (dstO ops x.2.1 == some x.2.2 && depB ops i x.2.1)) && o.all (outR ops)) = true → evT ev vs l (evU ev a0 o (evC ev))
  | [], o, h => evU_of E.out ⟨E.const, E.func, E.glob⟩ o (by simpa using h)
  | (m, j, d) :: r, o, h => by
    rw [List.all_cons, Bool.and_eq_true, Bool.and_eq_true, Bool.and_eq_true, Bool.and_eq_true, beq_iff_eq, beq_iff_eq] at h
    exact ⟨E.tmp m j d h.1.1.1 h.1.1.2.1 h.1.1.2.2, EvN.get E r o (by rw [Bool.and_eq_true]; exact ⟨h.1.2, h.2⟩)⟩
def EffN (P : Program) (o : Oper) (ev : Operand → Value) (w : World) (T : Value → World → Prop) : Prop :=
  (∃ v w', (execOp ev o).run P w = .ok (.value v) w' ∧ T v w') ∨ (∃ w', (execOp ev o).run P w = .ok .skip w' ∧ T undef w') ∨
  (∃ f args w', (execOp ev o).run P w = .ok (.enter f args) w' ∧ Calls P f args w' fun e w'' => ∃ v, e = .returned v ∧ T v w'')
/-- A still operation: what it yields, where its guard lets it. -/
def StillN (P : Program) (Pre : World → Prop) (ops : Array Oper) (a0 : Act) (os : List Nat) (vs : List Value) (i : Nat) (o : Oper) (v : Value) : Prop :=
  match o.guard with
  | none => ∀ ev w, Pre w → EvN ops a0 i os vs ev → (execOp ev o).run P w = .ok (.value v) w
  | some (j, want) => ∃ m, os[m]? = some j ∧ (nthV vs m = .bool want → ∀ ev w, Pre w → EvN ops a0 i os vs ev → (execOp ev o).run P w = .ok (.value v) w) ∧ (nthV vs m ≠ .bool want → v = undef)
def EffG (P : Program) (S : World → Prop) (ops : Array Oper) (a0 : Act) (os : List Nat) (vs : List Value) (i : Nat) (o : Oper) (T : Value → World → Prop) : Prop :=
  match o.guard with
  | none => ∀ ev w, S w → EvN ops a0 i os vs ev → EffN P o ev w T
  | some (j, want) => ∃ m, os[m]? = some j ∧ (nthV vs m = .bool want → ∀ ev w, S w → EvN ops a0 i os vs ev → EffN P o ev w T) ∧ (nthV vs m ≠ .bool want → ∀ w, S w → T undef w)
def FxN (P : Program) (ops : Array Oper) (eff : List Nat) (a0 : Act) (K : List Value → World → Prop) : List Nat → List Nat → List Value → (World → Prop) → (World → Prop) → List Nat → Prop
  | [], _, vs, S, _, _ => ∀ W, S W → K vs W
  | i :: r, os, vs, S, G, gl => ∃ o, ops[i]? = some o ∧
    ((eff.contains i = false ∧ ∃ v, StillN P (fun _ => True) ops a0 os vs i o v ∧ FxN P ops eff a0 K r (i :: os) (v :: vs) S G gl) ∨
     (eff.contains i = false ∧ ∃ v, StillN P G ops a0 os vs i o v ∧ FxN P ops eff a0 K r (i :: os) (v :: vs) S G (i :: gl)) ∨
     (eff.contains i = false ∧ (r.all fun e => !eff.contains e || (ancs ops e).contains i) = true ∧ ∃ v, StillN P S ops a0 os vs i o v ∧ FxN P ops eff a0 K r (i :: os) (v :: vs) S G gl) ∨
     (eff.contains i = true ∧ (r.all fun k => (ancs ops k).contains i) = true ∧ ∃ T : Value → World → Prop, EffG P S ops a0 os vs i o T ∧
       ∃ (G' : Value → World → Prop) (gl' : List Nat), ((gl' = gl ∧ ∀ v w, T v w → G w ∧ G' v = G) ∨ (gl' = [] ∧ (gl.all fun j => (ancs ops i).contains j) = true ∧ ∀ v w, T v w → G' v w)) ∧ ∀ v w0, T v w0 → FxN P ops eff a0 K r (i :: os) (v :: vs) (T v) (G' v) gl'))
theorem StillN.weak {P : Program} {S S' : World → Prop} {ops : Array Oper} {a0 : Act} {os : List Nat} {vs : List Value} {i : Nat} {o : Oper} {v : Value} (hS : ∀ w, S' w → S w) (h : StillN P S ops a0 os vs i o v) : StillN P S' ops a0 os vs i o v := by
  unfold StillN at h ⊢
  cases hg : o.guard with
  | none => rw [hg] at h; exact fun ev w hw E => h ev w (hS w hw) E
  | some jw => rw [hg] at h; obtain ⟨m, h1, h2, h3⟩ := h; exact ⟨m, h1, fun e ev w hw E => h2 e ev w (hS w hw) E, h3⟩
theorem EffG.weak {P : Program} {S S' : World → Prop} {ops : Array Oper} {a0 : Act} {os : List Nat} {vs : List Value} {i : Nat} {o : Oper} {T : Value → World → Prop} (hS : ∀ w, S' w → S w) (h : EffG P S ops a0 os vs i o T) : EffG P S' ops a0 os vs i o T := by
  unfold EffG at h ⊢
  cases hg : o.guard with
  | none => rw [hg] at h; exact fun ev w hw E => h ev w (hS w hw) E
  | some jw => rw [hg] at h; obtain ⟨m, h1, h2, h3⟩ := h; exact ⟨m, h1, fun e ev w hw E => h2 e ev w (hS w hw) E, fun e w hw => h3 e w (hS w hw)⟩
theorem FxN.weak {P : Program} {ops : Array Oper} {eff : List Nat} {a0 : Act} {K : List Value → World → Prop} {S S' : World → Prop} (hS : ∀ w, S' w → S w) : ∀ (r os : List Nat) (vs : List Value) (G : World → Prop) (gl : List Nat), FxN P ops eff a0 K r os vs S G gl → FxN P ops eff a0 K r os vs S' G gl
  | [], _, _, _, _, h => fun W hW => h W (hS W hW)
  | _ :: r, os, vs, G, gl, h => by
    obtain ⟨o, ho, h⟩ := h
    refine ⟨o, ho, ?_⟩
    rcases h with ⟨h1, v, h2, h3⟩ | ⟨h1, v, h2, h3⟩ | ⟨h1, h4, v, h2, h3⟩ | ⟨h1, h2, T, h3, h4⟩
    · exact .inl ⟨h1, v, h2, FxN.weak hS r _ _ _ _ h3⟩
    · exact .inr (.inl ⟨h1, v, h2, FxN.weak hS r _ _ _ _ h3⟩)
    · exact .inr (.inr (.inl ⟨h1, h4, v, h2.weak hS, FxN.weak hS r _ _ _ _ h3⟩))
    · exact .inr (.inr (.inr ⟨h1, h2, T, h3.weak hS, h4⟩))
section
variable {P : Program} {ops : Array Oper} {G S S' : World → Prop} {gl gl' : List Nat} {eff : List Nat} {a0 : Act} {K : List Value → World → Prop} {o : Oper} {i : Nat} {r os : List Nat} {vs : List Value} {v : Value} {f : FuncId} {args : Array Value} {j : Nat} {want : Bool}
/-- How the loads' invariant goes on behind an effect: it stays; or, where the effect has waited for all these loads, it is another one. -/
def NextG (ops : Array Oper) (i : Nat) (T G : World → Prop) (gl : List Nat) (G' : World → Prop) (gl' : List Nat) : Prop := (gl' = gl ∧ (∀ w, T w → G w) ∧ G' = G) ∨ (gl' = [] ∧ (gl.all fun j => (ancs ops i).contains j) = true ∧ ∀ w, T w → G' w)
theorem NextG.new {T G' : World → Prop} (hb : (gl.all fun j => (ancs ops i).contains j) = true) (h : ∀ w, T w → G' w) : NextG ops i T G gl G' [] := .inr ⟨rfl, hb, h⟩
theorem nextV {T G' : World → Prop} (h : NextG ops i T G gl G' gl') (u : Value) : (gl' = gl ∧ ∀ v w, (fun v w => v = u ∧ T w) v w → G w ∧ (fun _ => G') v = G) ∨ (gl' = [] ∧ (gl.all fun j => (ancs ops i).contains j) = true ∧ ∀ v w, (fun v w => v = u ∧ T w) v w → (fun _ => G') v w) := by
  rcases h with ⟨h1, h2, h3⟩ | ⟨h1, h2, h3⟩
  · exact .inl ⟨h1, fun v w h => ⟨h2 w h.2, h3⟩⟩
  · exact .inr ⟨h1, h2, fun v w h => h3 w h.2⟩
theorem FxN.done (h : ∀ W, S W → K vs W) : FxN P ops eff a0 K [] os vs S G gl := h
theorem FxN.pure (ho : ops[i]? = some o) (hg : o.guard = none) (he : eff.contains i = false) (h : ∀ ev w, EvN ops a0 i os vs ev → (execOp ev o).run P w = .ok (.value v) w) (hr : FxN P ops eff a0 K r (i :: os) (v :: vs) S G gl) : FxN P ops eff a0 K (i :: r) os vs S G gl :=
  ⟨o, ho, .inl ⟨he, v, by unfold StillN; rw [hg]; exact fun ev w _ => h ev w, hr⟩⟩
theorem FxN.gpure (m : Nat) (ho : ops[i]? = some o) (hg : o.guard = some (j, want)) (he : eff.contains i = false) (hm : os[m]? = some j) (hj : nthV vs m = .bool want) (h : ∀ ev w, EvN ops a0 i os vs ev → (execOp ev o).run P w = .ok (.value v) w) (hr : FxN P ops eff a0 K r (i :: os) (v :: vs) S G gl) : FxN P ops eff a0 K (i :: r) os vs S G gl :=
  ⟨o, ho, .inl ⟨he, v, by unfold StillN; rw [hg]; exact ⟨m, hm, fun _ ev w _ => h ev w, fun e => absurd hj e⟩, hr⟩⟩
theorem FxN.skip (m : Nat) (ho : ops[i]? = some o) (hg : o.guard = some (j, want)) (he : eff.contains i = false) (hm : os[m]? = some j) (hj : nthV vs m ≠ .bool want) (hr : FxN P ops eff a0 K r (i :: os) (undef :: vs) S G gl) : FxN P ops eff a0 K (i :: r) os vs S G gl :=
  ⟨o, ho, .inl ⟨he, undef, by unfold StillN; rw [hg]; exact ⟨m, hm, fun e => absurd e hj, fun _ => rfl⟩, hr⟩⟩
/-- A load under the loads' invariant. -/
theorem FxN.load (ho : ops[i]? = some o) (hg : o.guard = none) (he : eff.contains i = false) (h : ∀ ev w, G w → EvN ops a0 i os vs ev → (execOp ev o).run P w = .ok (.value v) w) (hr : FxN P ops eff a0 K r (i :: os) (v :: vs) S G (i :: gl)) : FxN P ops eff a0 K (i :: r) os vs S G gl :=
  ⟨o, ho, .inr (.inl ⟨he, v, by unfold StillN; rw [hg]; exact h, hr⟩)⟩
theorem FxN.gload (m : Nat) (ho : ops[i]? = some o) (hg : o.guard = some (j, want)) (he : eff.contains i = false) (hm : os[m]? = some j) (hj : nthV vs m = .bool want) (h : ∀ ev w, G w → EvN ops a0 i os vs ev → (execOp ev o).run P w = .ok (.value v) w) (hr : FxN P ops eff a0 K r (i :: os) (v :: vs) S G (i :: gl)) : FxN P ops eff a0 K (i :: r) os vs S G gl :=
  ⟨o, ho, .inr (.inl ⟨he, v, by unfold StillN; rw [hg]; exact ⟨m, hm, fun _ => h, fun e => absurd hj e⟩, hr⟩)⟩
/-- A call of whose value something is known. -/
theorem FxN.call (T : Value → World → Prop) (ho : ops[i]? = some o) (hg : o.guard = none) (he : eff.contains i = true) (hc : (r.all fun k => (ancs ops k).contains i) = true) (h : ∀ ev w, S w → EvN ops a0 i os vs ev → (execOp ev o).run P w = .ok (.enter f args) w) (hk : ∀ w, S w → Calls P f args w fun e w'' => ∃ v, e = .returned v ∧ T v w'') (hG : ∀ v w, T v w → G w) (hr : ∀ v w0, T v w0 → FxN P ops eff a0 K r (i :: os) (v :: vs) (T v) G gl) : FxN P ops eff a0 K (i :: r) os vs S G gl :=
  ⟨o, ho, .inr (.inr (.inr ⟨he, hc, T, by unfold EffG; rw [hg]; exact fun ev w hS E => .inr (.inr ⟨f, args, w, h ev w hS E, hk w hS⟩), fun _ => G, gl, .inl ⟨rfl, fun v w h => ⟨hG v w h, rfl⟩⟩, hr⟩))⟩
/-- An operation that makes memory (its value is not known beforehand). -/
theorem FxN.new (T : Value → World → Prop) (ho : ops[i]? = some o) (hg : o.guard = none) (he : eff.contains i = true) (hc : (r.all fun k => (ancs ops k).contains i) = true) (h : ∀ ev w, S w → EvN ops a0 i os vs ev → ∃ v w', (execOp ev o).run P w = .ok (.value v) w' ∧ T v w') (hG : ∀ v w, T v w → G w) (hr : ∀ v w0, T v w0 → FxN P ops eff a0 K r (i :: os) (v :: vs) (T v) G gl) : FxN P ops eff a0 K (i :: r) os vs S G gl :=
  ⟨o, ho, .inr (.inr (.inr ⟨he, hc, T, by unfold EffG; rw [hg]; exact fun ev w hS E => .inl (h ev w hS E), fun _ => G, gl, .inl ⟨rfl, fun v w h => ⟨hG v w h, rfl⟩⟩, hr⟩))⟩
theorem FxN.store {G' : World → Prop} (ho : ops[i]? = some o) (hg : o.guard = none) (he : eff.contains i = true) (hc : (r.all fun k => (ancs ops k).contains i) = true) (h : ∀ ev w, S w → EvN ops a0 i os vs ev → ∃ w', (execOp ev o).run P w = .ok .skip w' ∧ S' w') (hG : NextG ops i S' G gl G' gl') (hr : FxN P ops eff a0 K r (i :: os) (undef :: vs) S' G' gl') : FxN P ops eff a0 K (i :: r) os vs S G gl :=
  ⟨o, ho, .inr (.inr (.inr ⟨he, hc, fun u w => u = undef ∧ S' w, by unfold EffG; rw [hg]; exact fun ev w hS E => .inr (.inl (by obtain ⟨w', h1, h2⟩ := h ev w hS E; exact ⟨w', h1, rfl, h2⟩)), fun _ => G', gl', nextV hG undef, fun u w0 hu => by obtain ⟨rfl, _⟩ := hu; exact FxN.weak (fun w h => h.2) r _ _ _ _ hr⟩))⟩
end
/-- What is owed for an operation that has been taken, but has not come up yet. -/
def ObN (P : Program) (ops : Array Oper) (S G : World → Prop) (gl eff : List Nat) (a0 : Act) (suf os : List Nat) (vs : List Value) (j : Nat) (v : Value) : Prop :=
  ∃ o, ops[j]? = some o ∧ eff.contains j = false ∧ (StillN P (fun _ => True) ops a0 os vs j o v ∨ (StillN P G ops a0 os vs j o v ∧ j ∈ gl) ∨ (StillN P S ops a0 os vs j o v ∧ ∀ e r, suf = e :: r → eff.contains e = true → (ancs ops e).contains j = true))
/-- Taking what is still, up to the next effect. -/
theorem FxN.adv {P : Program} {ops : Array Oper} {eff : List Nat} {a0 : Act} {K : List Value → World → Prop} {S G : World → Prop} :
    ∀ (r os : List Nat) (vs : List Value) (gl : List Nat), FxN P ops eff a0 K r os vs S G gl →
      ∃ (pre suf : List Nat) (us : List Value) (gm : List Nat), r = pre ++ suf ∧ us.length = pre.length ∧ FxN P ops eff a0 K suf (pre.reverse ++ os) (us ++ vs) S G gm ∧ (∀ j ∈ gl, j ∈ gm) ∧ (∀ e t, suf = e :: t → eff.contains e = true) ∧
        ∀ m j, m < pre.length → (pre.reverse ++ os)[m]? = some j → ObN P ops S G gm eff a0 suf ((pre.reverse ++ os).drop (m + 1)) ((us ++ vs).drop (m + 1)) j (nthV (us ++ vs) m)
  | [], os, vs, gl, h => ⟨[], [], [], gl, rfl, rfl, h, (fun _ h => h), (fun _ _ h => by cases h), (fun m j hm => absurd hm (by simp))⟩
  | i :: r, os, vs, gl, h => by
    cases hc : eff.contains i with
    | true => exact ⟨[], i :: r, [], gl, rfl, rfl, h, (fun _ h => h), (fun e t h => by injection h with h1; rw [← h1]; exact hc), (fun m j hm => absurd hm (by simp))⟩
    | false =>
      obtain ⟨o, ho, h⟩ := h
      have key : ∃ v gl', (StillN P (fun _ => True) ops a0 os vs i o v ∨ (StillN P G ops a0 os vs i o v ∧ i ∈ gl') ∨ (StillN P S ops a0 os vs i o v ∧ (r.all fun e => !eff.contains e || (ancs ops e).contains i) = true)) ∧ (∀ j ∈ gl, j ∈ gl') ∧ FxN P ops eff a0 K r (i :: os) (v :: vs) S G gl' := by
        rcases h with ⟨_, v, h1, h2⟩ | ⟨_, v, h1, h2⟩ | ⟨_, hb, v, h1, h2⟩ | ⟨h1, _⟩
        · exact ⟨v, gl, .inl h1, fun _ h => h, h2⟩
        · exact ⟨v, i :: gl, .inr (.inl ⟨h1, by simp⟩), fun _ h => List.mem_cons_of_mem _ h, h2⟩
        · exact ⟨v, gl, .inr (.inr ⟨h1, hb⟩), fun _ h => h, h2⟩
        · rw [hc] at h1; cases h1
      obtain ⟨v, gl', hv, hgl, h2⟩ := key
      obtain ⟨pre, suf, us, gm, e1, e2, e3, e6, e4, e5⟩ := FxN.adv r (i :: os) (v :: vs) gl' h2
      refine ⟨i :: pre, suf, us ++ [v], gm, by rw [e1]; rfl, by simp [e2], ?_, fun j hj => e6 j (hgl j hj), e4, ?_⟩
      · simpa [List.append_assoc] using e3
      · intro m j hm hj
        have hl : (i :: pre).reverse ++ os = pre.reverse ++ (i :: os) := by simp
        have hl2 : us ++ [v] ++ vs = us ++ (v :: vs) := by simp
        rw [hl] at hj ⊢
        rw [hl2]
        rcases Nat.lt_or_ge m pre.length with h' | h'
        · exact e5 m j h' hj
        · have hm' : m = pre.length := by simp at hm; omega
          subst hm'
          have hji : j = i := by
            rw [List.getElem?_append_right (by simp)] at hj
            simpa using hj.symm
          subst hji
          have hd1 : (pre.reverse ++ (j :: os)).drop (pre.length + 1) = os := by
            rw [show pre.length + 1 = (pre.reverse ++ [j]).length by simp, show pre.reverse ++ (j :: os) = (pre.reverse ++ [j]) ++ os by simp, List.drop_left]
          have hd2 : (us ++ (v :: vs)).drop (pre.length + 1) = vs := by
            rw [← e2, show us.length + 1 = (us ++ [v]).length by simp, show us ++ (v :: vs) = (us ++ [v]) ++ vs by simp, List.drop_left]
          have hnv : nthV (us ++ (v :: vs)) pre.length = v := by
            rw [← e2]
            have : ∀ us : List Value, nthV (us ++ (v :: vs)) us.length = v := by
              intro us
              induction us with
              | nil => rfl
              | cons x t ih => exact ih
            exact this us
          rw [hd1, hd2, hnv]
          refine ⟨o, ho, hc, ?_⟩
          rcases hv with hv | hv | hv
          · exact .inl hv
          · exact .inr (.inl ⟨hv.1, e6 j hv.2⟩)
          · refine .inr (.inr ⟨hv.1, fun e t hs he => ?_⟩)
            have h3 := List.all_eq_true.1 hv.2 e (by rw [e1, hs]; simp)
            rw [he] at h3
            simpa using h3
def ysOf : List Nat → List Value → (Nat → Value) → Nat → Value
  | i :: os, v :: vs, y => updV (ysOf os vs y) i v
  | _, _, y => y
theorem ysOf_at : ∀ (os : List Nat) (vs : List Value) (y : Nat → Value) (m j : Nat), os.Nodup → os.length = vs.length → os[m]? = some j → ysOf os vs y j = nthV vs m
  | i :: os, v :: vs, y, 0, j, _, _, h => by
    simp at h
    subst h
    unfold ysOf updV
    rw [if_pos rfl]; rfl
  | i :: os, v :: vs, y, m + 1, j, hn, hl, h => by
    have h' : os[m]? = some j := by simpa using h
    have hne : j ≠ i := fun e => by
      subst e
      exact (List.nodup_cons.1 hn).1 (List.mem_of_getElem? h')
    unfold ysOf updV
    rw [if_neg hne]
    exact ysOf_at os vs y m j (List.nodup_cons.1 hn).2 (by simpa using hl) h'
theorem fillZ_of {ops : Array Oper} (hd : difR ops = true) (a : Act) (y : Nat → Value) : ∀ (os : List Nat) (vs : List Value), os.length = vs.length → (∀ j ∈ os, j < ops.size) → fillZ (os.map (dstO ops)) vs (fillA ops y ops.size a) = fillA ops (ysOf os vs y) ops.size a
  | [], [], _, _ => rfl
  | i :: os, v :: vs, hl, hlt => by
    show (fillZ (os.map (dstO ops)) vs (fillA ops y ops.size a)).put (dstO ops i) v = fillA ops (updV (ysOf os vs y) i v) ops.size a
    rw [fillZ_of hd a y os vs (by simpa using hl) (fun j hj => hlt j (List.mem_cons_of_mem _ hj)), fill_put ops _ i v (fun j hj x hx => difR_spec hd i j hj x hx) ops.size a (hlt i (by simp))]
theorem nodup_rev {l : List Nat} (h : l.Nodup) : l.reverse.Nodup := List.pairwise_reverse.2 (List.Pairwise.imp (fun hne => hne.symm) h)
def nodupB : List Nat → Bool
  | [] => true
  | i :: r => !r.contains i && nodupB r
theorem nodupB_spec : ∀ l : List Nat, nodupB l = true → l.Nodup
  | [], _ => List.nodup_nil
  | i :: r, h => by
    unfold nodupB at h
    rw [Bool.and_eq_true, Bool.not_eq_true'] at h
    refine List.nodup_cons.2 ⟨fun hm => ?_, nodupB_spec r h.2⟩
    rw [List.contains_iff_mem.2 hm] at h
    exact absurd h.1 (by simp)
/-- The conditions of the rule. -/
def nxB (ops : Array Oper) (ord : List Nat) (N : Nat) : Bool :=
  fwdR .any ops && (difR ops && (inR' ops N && (((List.range ops.size).all fun i => match (ops[i]?).bind (·.guard) with | some (j, _) => depB ops i j && (dstO ops j).isSome | none => true) && (nodupB ord && (ord.all (fun i => decide (i < ops.size)) && ((List.range ops.size).all fun i => ord.contains i))))))
theorem wp_region_fxN {P : Program} {ops : Array Oper} {Q : Exit → Act → World → Prop} (G S0 : World → Prop) {id : Nat} {a0 : Act} {w : World} (eff ord : List Nat) (N : Nat) (dsts : List (Option Tmp)) (hm : P.follows .mixedOrders = true) (hB : nxB ops ord N = true) (hD : ord.reverse.map (dstO ops) = dsts) (hN : N ≤ a0.tmps.size) (h0 : S0 w.drew) (hG : ∀ W, S0 W → G W)
    (h : FxN P ops eff a0 (fun vs W => Q .normal (fillZ dsts vs a0) W) ord [] [] S0 G []) : (Code.region id ops true).wp P Q a0 w := by
  unfold nxB at hB
  simp only [Bool.and_eq_true] at hB
  obtain ⟨hf, hd, hn, hgd, hnd, hlt', hall⟩ := hB
  have hnd := nodupB_spec ord hnd
  have hordlt : ∀ j ∈ ord, j < ops.size := fun j hj => of_decide_eq_true (List.all_eq_true.1 hlt' j hj)
  have hord : ∀ j, j < ops.size → j ∈ ord := fun j hj => List.contains_iff_mem.1 (List.all_eq_true.1 hall j (by simpa using hj))
  have hlt : ∀ j d, dstO ops j = some d → j < ops.size := by
    intro j d hj
    rcases Nat.lt_or_ge j ops.size with h' | h'
    · exact h'
    · unfold dstO at hj; rw [Array.getElem?_eq_none h'] at hj; cases hj
  have hdep : ∀ {i j : Nat} {o : Oper}, ops[i]? = some o → depB ops i j = true → ∃ e ∈ o.after, Region.binds .any e = true ∧ e.on = j := by
    intro i j o ho h
    unfold depB at h
    rw [ho] at h
    simp only [Option.map_some, Option.getD_some] at h
    rw [Array.any_eq_true'] at h
    obtain ⟨e, he, h2⟩ := h
    rw [Bool.and_eq_true, beq_iff_eq] at h2
    exact ⟨e, he, h2⟩
  -- the invariant
  let J : (Nat → Prop) → (Nat → Value) → World → Prop := fun L ys w => Clo ops L ∧ ∃ (pre suf : List Nat) (vs : List Value) (S G : World → Prop) (gl : List Nat), ord = pre ++ suf ∧ vs.length = pre.length ∧ FxN P ops eff a0 (fun vs W => Q .normal (fillZ dsts vs a0) W) suf pre.reverse vs S G gl ∧ S w ∧ G w ∧
    (∀ e t, suf = e :: t → eff.contains e = true ∧ ¬ L e) ∧ (∀ j, j < ops.size → L j → j ∈ pre) ∧ (∀ m j, pre.reverse[m]? = some j → L j → ys j = nthV vs m) ∧
    (∀ m j, pre.reverse[m]? = some j → ¬ L j → ObN P ops S G gl eff a0 suf (pre.reverse.drop (m + 1)) (vs.drop (m + 1)) j (nthV vs m))
  have nthV_drop : ∀ (m : Nat) (l : List Value) (n : Nat), nthV (l.drop m) n = nthV l (n + m) := by
    intro m
    induction m with
    | zero => intro l n; rfl
    | succ m ih =>
      intro l n
      cases l with
      | nil => simp [nthV]
      | cons a r => rw [List.drop_succ_cons, ih]; rfl
  refine wp_region_inv J (fun ys => fillA ops ys ops.size a0) hm hd hf (fun _ => rfl) ?_ ?_ ?_
  · intro ys
    obtain ⟨pre, suf, us, gm, e1, e2, e3, _, e4, e5⟩ := FxN.adv ord [] [] [] h
    rw [List.append_nil] at e3
    rw [List.append_nil] at e3
    refine ⟨fun _ _ _ h => h.elim, pre, suf, us, S0, G, gm, e1, e2, e3, h0, hG _ h0, fun e t he => ⟨e4 e t he, fun h => h⟩, fun j _ h => h.elim, fun m j _ h => h.elim, fun m j hj _ => ?_⟩
    have hm : m < pre.length := by
      have := (List.getElem?_eq_some_iff.1 hj).1
      simpa using this
    have := e5 m j hm (by rw [List.append_nil]; exact hj)
    simp only [List.append_nil] at this
    exact this
  · rintro L ys w i ⟨hC, pre, suf, vs, S, G, gl, e1, e2, hT, hS, hGw, hhd, hLp, hys, hob⟩ hi hL hdp
    obtain ⟨o, ho⟩ : ∃ o, ops[i]? = some o := ⟨ops[i], by simp [hi]⟩
    have hdj : ∀ j, depB ops i j = true → L j := fun j hj => by
      obtain ⟨e, he, hb, hej⟩ := hdep ho hj
      rw [← hej]
      exact hdp o ho e he hb
    have hC' : Clo ops (fun k => L k ∨ k = i) := fun a b hab h => by
      rcases h with h | h
      · exact .inl (hC a b hab h)
      · subst h; exact .inl (hdj b hab)
    have hin : ∀ j d, dstO ops j = some d → d < a0.tmps.size := by
      intro j d hj
      unfold inR' at hn
      have := List.all_eq_true.1 hn j (by simpa using hlt j d hj)
      rw [hj] at this
      have : d < N := of_decide_eq_true this
      exact Nat.lt_of_lt_of_le this hN
    -- what the evaluation knows
    have hev : ∀ (os' : List Nat) (vs' : List Value), (∀ m j, os'[m]? = some j → L j → ys j = nthV vs' m) → EvN ops a0 i os' vs' (fillA ops ys ops.size a0).eval := fun os' vs' hov =>
      ⟨fun _ => rfl, fun _ => rfl, fun _ => rfl, fun m j d hm hj hdb => by rw [fill_in ops ys hd j d hj ops.size a0 (hlt j d hj) (hin j d hj)]; exact hov m j hm (hdj j hdb), fun t ht => fill_out ops ys t ops.size a0 (fun j hj => by
        unfold outR at ht
        have := List.all_eq_true.1 ht j (by simpa using hj)
        simpa using this)⟩
    have hdst : dstO ops i = o.dst := by unfold dstO; rw [ho]; rfl
    have hguard : ∀ j want, o.guard = some (j, want) → (yielded ops (fillA ops ys ops.size a0).tmps j = some want ↔ ys j = .bool want) ∧ L j := by
      intro j want hgu
      have hdj2 : depB ops i j = true ∧ (dstO ops j).isSome = true := by
        have := List.all_eq_true.1 hgd i (by simpa using hi)
        rw [ho] at this
        simp only [Option.bind_some, hgu, Bool.and_eq_true] at this
        exact this
      refine ⟨?_, hdj j hdj2.1⟩
      unfold yielded
      cases hdd : dstO ops j with
      | none =>
        have := hdj2.2
        rw [hdd] at this
        cases this
      | some d =>
        have hb : (ops[j]?).bind (·.dst) = some d := hdd
        have he : (fillA ops ys ops.size a0).eval (.tmp d) = ys j := fill_in ops ys hd j d hdd ops.size a0 (hlt j d hdd) (hin j d hdd)
        have hs : d < (fillA ops ys ops.size a0).tmps.size := by rw [fill_size]; exact hin j d hdd
        rw [hb]
        simp only [Option.bind_some, Array.getElem?_eq_getElem hs]
        have : (fillA ops ys ops.size a0).tmps[d] = ys j := by
          rw [← he]
          simp [Act.eval, Array.getD, hs]
        rw [this]
        cases ys j <;> simp
    by_cases hip : i ∈ pre
    · -- a still operation
      obtain ⟨m, hm⟩ := List.getElem?_of_mem (List.mem_reverse.2 hip)
      obtain ⟨o', ho', hne, hst⟩ := hob m i hm hL
      rw [ho] at ho'
      injection ho' with ho'
      subst ho'
      have hov : ∀ m' j, (pre.reverse.drop (m + 1))[m']? = some j → L j → ys j = nthV (vs.drop (m + 1)) m' := fun m' j hj hl => by
        rw [List.getElem?_drop] at hj
        rw [nthV_drop, Nat.add_comm]
        exact hys _ j hj hl
      have hE := hev _ _ hov
      have hJ : J (fun k => L k ∨ k = i) (updV ys i (nthV vs m)) w := by
        refine ⟨hC', pre, suf, vs, S, G, gl, e1, e2, hT, hS, hGw, fun e t he => ⟨(hhd e t he).1, fun h => ?_⟩, fun j hj h => ?_, fun m' j hj h => ?_, fun m' j hj h => hob m' j hj (fun h' => h (.inl h'))⟩
        · rcases h with h | h
          · exact (hhd e t he).2 h
          · subst h
            rw [(hhd e t he).1] at hne
            cases hne
        · rcases h with h | h
          · exact hLp j hj h
          · subst h; exact hip
        · unfold updV
          by_cases e : j = i
          · rw [if_pos e]
            subst e
            have hnr : pre.reverse.Nodup := by
              have : (pre ++ suf).Nodup := e1 ▸ hnd
              exact nodup_rev (List.nodup_append.1 this).1
            have : m = m' := by
              obtain ⟨h1, h2⟩ := List.getElem?_eq_some_iff.1 hm
              obtain ⟨h3, h4⟩ := List.getElem?_eq_some_iff.1 hj
              exact (List.getElem_inj hnr).1 (h2.trans h4.symm)
            rw [this]
          · rw [if_neg e]
            exact hys m' j hj (h.resolve_right e)
      have hrun : Region.wanted o (yielded ops (fillA ops ys ops.size a0).tmps) = true → (execOp (fillA ops ys ops.size a0).eval o).run P w = .ok (.value (nthV vs m)) w := by
        intro hw
        have both : ∀ Pre : World → Prop, Pre w → StillN P Pre ops a0 (pre.reverse.drop (m + 1)) (vs.drop (m + 1)) i o (nthV vs m) → (execOp (fillA ops ys ops.size a0).eval o).run P w = .ok (.value (nthV vs m)) w := by
          intro Pre hP hst
          unfold StillN at hst
          cases hgu : o.guard with
          | none => rw [hgu] at hst; exact hst _ w hP hE
          | some jw =>
            obtain ⟨j, want⟩ := jw
            rw [hgu] at hst
            obtain ⟨m', hm', hs1, _⟩ := hst
            obtain ⟨hy, hLj⟩ := hguard j want hgu
            refine hs1 ?_ _ w hP hE
            rw [← hov m' j hm' hLj]
            refine hy.1 ?_
            unfold Region.wanted at hw
            rw [hgu] at hw
            simpa using hw
        rcases hst with hst | ⟨hst, _⟩ | ⟨hst, _⟩
        · exact both _ trivial hst
        · exact both G hGw hst
        · exact both S hS hst
      have hund : Region.wanted o (yielded ops (fillA ops ys ops.size a0).tmps) = false → nthV vs m = undef := by
        intro hw
        have both : ∀ Pre : World → Prop, StillN P Pre ops a0 (pre.reverse.drop (m + 1)) (vs.drop (m + 1)) i o (nthV vs m) → nthV vs m = undef := by
          intro Pre hst
          unfold StillN at hst
          cases hgu : o.guard with
          | none => unfold Region.wanted at hw; rw [hgu] at hw; cases hw
          | some jw =>
            obtain ⟨j, want⟩ := jw
            rw [hgu] at hst
            obtain ⟨m', hm', _, hs2⟩ := hst
            obtain ⟨hy, hLj⟩ := hguard j want hgu
            refine hs2 fun hh => ?_
            rw [← hov m' j hm' hLj] at hh
            unfold Region.wanted at hw
            rw [hgu] at hw
            simp only [hy.2 hh] at hw
            simp at hw
        rcases hst with hst | ⟨hst, _⟩ | ⟨hst, _⟩
        · exact both _ hst
        · exact both G hst
        · exact both S hst
      unfold wpOp
      simp only [ho]
      cases hw : Region.wanted o (yielded ops (fillA ops ys ops.size a0).tmps) with
      | true =>
        rw [if_pos rfl]
        refine .inl ?_
        unfold Oper.wp
        rw [hrun hw, Oper.upon_value]
        exact ⟨_, by rw [hdst], hJ⟩
      | false =>
        rw [if_neg (by simp)]
        refine ⟨nthV vs m, ?_, hJ⟩
        rw [hdst, hund hw]
    · -- an effect
      have his : i ∈ suf := by
        have := hord i hi
        rw [e1] at this
        exact (List.mem_append.1 this).resolve_left hip
      cases suf with
      | nil => cases his
      | cons e t =>
        obtain ⟨hee, heL⟩ := hhd e t rfl
        obtain ⟨o1, ho1, hnode⟩ := hT
        have hnode : (t.all fun k => (ancs ops k).contains e) = true ∧ ∃ T : Value → World → Prop, EffG P S ops a0 pre.reverse vs e o1 T ∧ ∃ (G' : Value → World → Prop) (gl' : List Nat), ((gl' = gl ∧ ∀ v w, T v w → G w ∧ G' v = G) ∨ (gl' = [] ∧ (gl.all fun j => (ancs ops e).contains j) = true ∧ ∀ v w, T v w → G' v w)) ∧ ∀ v w0, T v w0 → FxN P ops eff a0 (fun vs W => Q .normal (fillZ dsts vs a0) W) t (e :: pre.reverse) (v :: vs) (T v) (G' v) gl' := by
          rcases hnode with ⟨h1, _⟩ | ⟨h1, _⟩ | ⟨h1, _⟩ | ⟨_, h2, h3⟩
          · rw [hee] at h1; cases h1
          · rw [hee] at h1; cases h1
          · rw [hee] at h1; cases h1
          · exact ⟨h2, h3⟩
        obtain ⟨hanc, T, hEff, G', gl', hTG, hnext⟩ := hnode
        have hie : i = e := by
          rcases List.mem_cons.1 his with h' | h'
          · exact h'
          · exfalso
            rcases anc_dep hC hdj (List.all_eq_true.1 hanc i h') with h3 | h3
            · exact heL h3
            · subst h3
              have : (pre ++ (e :: t)).Nodup := e1 ▸ hnd
              have := (List.nodup_cons.1 (List.nodup_append.1 this).2.1).1
              exact this h'
        subst hie
        rw [ho] at ho1
        injection ho1 with ho1
        subst ho1
        have hE := hev pre.reverse vs (fun m j hm hl => hys m j hm hl)
        -- the state behind it
        have hpost : ∀ v w', T v w' → ∃ v', (fillA ops ys ops.size a0).put (dstO ops i) v = (fillA ops ys ops.size a0).put (dstO ops i) v' ∧ J (fun k => L k ∨ k = i) (updV ys i v') w' := by
          intro v w' hTv
          refine ⟨v, rfl, hC', ?_⟩
          obtain ⟨pre2, suf2, us, gm, f1, f2, f3, f6, f4, f5⟩ := FxN.adv t (i :: pre.reverse) (v :: vs) gl' (hnext v w' hTv)
          have hGw' : G' v w' := by
            rcases hTG with ⟨_, hh⟩ | ⟨_, _, hh⟩
            · obtain ⟨h1, h2⟩ := hh v w' hTv
              rw [h2]; exact h1
            · exact hh v w' hTv
          have hrev : (pre ++ i :: pre2).reverse = pre2.reverse ++ (i :: pre.reverse) := by simp
          have hord2 : ord = (pre ++ i :: pre2) ++ suf2 := by rw [e1, f1]; simp
          have hnod : ((pre ++ i :: pre2) ++ suf2).Nodup := hord2 ▸ hnd
          have hnotpre2 : ∀ j, j ∈ pre2 → ¬ (L j ∨ j = i) := by
            intro j hj h
            have hjlt : j < ops.size := hordlt j (by rw [hord2]; simp [hj])
            have hn1 : (pre ++ i :: pre2).Nodup := (List.nodup_append.1 hnod).1
            have hn2 := List.nodup_append.1 hn1
            rcases h with h | h
            · exact hn2.2.2 j (hLp j hjlt h) j (by simp [hj]) rfl
            · subst h
              exact (List.nodup_cons.1 hn2.2.1).1 hj
          refine ⟨pre ++ i :: pre2, suf2, us ++ (v :: vs), T v, G' v, gm, hord2, by simp [f2, e2]; omega, by rw [hrev]; exact f3, hTv, hGw', fun e2' t2 he2 => ⟨f4 e2' t2 he2, fun h => ?_⟩, fun j hj h => ?_, fun m j hm h => ?_, fun m j hm h => ?_⟩
          · have hes : e2' ∈ suf2 := by rw [he2]; simp
            have hd3 := (List.nodup_append.1 hnod).2.2
            rcases h with h | h
            · have : e2' < ops.size := hordlt e2' (by rw [hord2]; simp [hes])
              exact hd3 e2' (by simp [hLp e2' this h]) e2' hes rfl
            · subst h
              exact hd3 e2' (by simp) e2' hes rfl
          · rcases h with h | h
            · simp [hLp j hj h]
            · subst h; simp
          · rw [hrev] at hm
            rcases Nat.lt_or_ge m pre2.length with h' | h'
            · rw [List.getElem?_append_left (by simpa using h')] at hm
              exact absurd h (hnotpre2 j (List.mem_reverse.1 (List.mem_of_getElem? hm)))
            · rw [List.getElem?_append_right (by simpa using h')] at hm
              have hsp : ∀ (us : List Value) (k : Nat), nthV (us ++ (v :: vs)) (us.length + k) = nthV (v :: vs) k := by
                intro us
                induction us with
                | nil => intro k; rw [List.nil_append, List.length_nil, Nat.zero_add]
                | cons x tl ih => intro k; rw [List.length_cons, show tl.length + 1 + k = (tl.length + k) + 1 by omega]; exact ih k
              obtain ⟨k, hk⟩ : ∃ k, m = us.length + k := ⟨m - us.length, by omega⟩
              rw [hk, hsp]
              rw [hk, List.length_reverse, ← f2, Nat.add_sub_cancel_left] at hm
              cases k with
              | zero =>
                simp at hm
                subst hm
                unfold updV
                rw [if_pos rfl]; rfl
              | succ k =>
                have hm : pre.reverse[k]? = some j := by simpa using hm
                have hjp : j ∈ pre := List.mem_reverse.1 (List.mem_of_getElem? hm)
                have hji : j ≠ i := fun e => hip (e ▸ hjp)
                unfold updV
                rw [if_neg hji]
                exact hys k j hm (h.resolve_right hji)
          · have hm0 := hm
            rw [hrev] at hm ⊢
            rcases Nat.lt_or_ge m pre2.length with h' | h'
            · exact f5 m j h' hm
            · -- one of before
              rw [List.getElem?_append_right (by simpa using h')] at hm
              obtain ⟨k, hk⟩ : ∃ k, m = pre2.length + k := ⟨m - pre2.length, by omega⟩
              subst hk
              rw [List.length_reverse, Nat.add_sub_cancel_left] at hm
              cases k with
              | zero =>
                simp at hm
                subst hm
                exact absurd (.inr rfl) h
              | succ k =>
                have hm : pre.reverse[k]? = some j := by simpa using hm
                obtain ⟨o2, ho2, hne2, hst2⟩ := hob k j hm (fun hl => h (.inl hl))
                have hd1 : (pre2.reverse ++ (i :: pre.reverse)).drop (pre2.length + (k + 1) + 1) = pre.reverse.drop (k + 1) := by
                  rw [show pre2.length + (k + 1) + 1 = (pre2.reverse ++ [i]).length + (k + 1) by simp; omega, show pre2.reverse ++ (i :: pre.reverse) = (pre2.reverse ++ [i]) ++ pre.reverse by simp, ← List.drop_drop, List.drop_left]
                have hd2 : (us ++ (v :: vs)).drop (pre2.length + (k + 1) + 1) = vs.drop (k + 1) := by
                  rw [← f2, show us.length + (k + 1) + 1 = (us ++ [v]).length + (k + 1) by simp; omega, show us ++ (v :: vs) = (us ++ [v]) ++ vs by simp, ← List.drop_drop, List.drop_left]
                have hnv : nthV (us ++ (v :: vs)) (pre2.length + (k + 1)) = nthV vs k := by
                  have := nthV_drop (us.length + 1) (us ++ (v :: vs)) k
                  rw [show (us ++ (v :: vs)).drop (us.length + 1) = vs by rw [show us.length + 1 = (us ++ [v]).length by simp, show us ++ (v :: vs) = (us ++ [v]) ++ vs by simp, List.drop_left]] at this
                  rw [this, ← f2, show k + (us.length + 1) = us.length + (k + 1) by omega]
                rw [hd1, hd2, hnv]
                refine ⟨o2, ho2, hne2, ?_⟩
                rcases hst2 with hst2 | ⟨hst2, hjg⟩ | ⟨_, hst2⟩
                · exact .inl hst2
                · rcases hTG with ⟨hg1, hg2⟩ | ⟨_, hg2, _⟩
                  · rw [(hg2 v w' hTv).2]
                    exact .inr (.inl ⟨hst2, f6 j (hg1 ▸ hjg)⟩)
                  · exfalso
                    rcases anc_dep hC hdj (List.all_eq_true.1 hg2 j hjg) with h7 | h7
                    · exact h (.inl h7)
                    · exact h (.inr h7)
                · exfalso
                  have h6 := hst2 i t rfl hee
                  rcases anc_dep hC hdj h6 with h7 | h7
                  · exact h (.inl h7)
                  · exact h (.inr h7)
        have hrunE : EffN P o (fillA ops ys ops.size a0).eval w T → Oper.wp P o (fillA ops ys ops.size a0) w (fun a' w' => ∃ v, a' = (fillA ops ys ops.size a0).put (dstO ops i) v ∧ J (fun k => L k ∨ k = i) (updV ys i v) w') Q := by
          intro hE2
          unfold Oper.wp
          rcases hE2 with ⟨v, w', hr, hTv⟩ | ⟨w', hr, hTv⟩ | ⟨f, args, w', hr, hc⟩
          · rw [hr, Oper.upon_value, ← hdst]
            obtain ⟨v', h1, h2⟩ := hpost v w' hTv
            exact ⟨v', h1, h2⟩
          · rw [hr, Oper.upon_skip, ← hdst]
            obtain ⟨v', h1, h2⟩ := hpost undef w' hTv
            exact ⟨v', h1, h2⟩
          · rw [hr, Oper.upon_enter]
            refine hc.mono ?_
            rintro ee w'' ⟨v, rfl, hTv⟩
            simp only
            rw [← hdst]
            obtain ⟨v', h1, h2⟩ := hpost v w'' hTv
            exact ⟨v', h1, h2⟩
        unfold EffG at hEff
        unfold wpOp
        simp only [ho]
        cases hgu : o.guard with
        | none =>
          rw [hgu] at hEff
          rw [if_pos (by unfold Region.wanted; rw [hgu])]
          exact .inl (hrunE (hEff _ w hS hE))
        | some jw =>
          obtain ⟨j, want⟩ := jw
          rw [hgu] at hEff
          obtain ⟨m', hm', hs1, hs2⟩ := hEff
          obtain ⟨hy, hLj⟩ := hguard j want hgu
          have hyv := hys m' j hm' hLj
          by_cases hv : nthV vs m' = .bool want
          · rw [if_pos (by unfold Region.wanted; rw [hgu]; simp only; rw [hy.2 (hyv.trans hv)]; simp)]
            exact .inl (hrunE (hs1 hv _ w hS hE))
          · have hw : Region.wanted o (yielded ops (fillA ops ys ops.size a0).tmps) = false := by
              unfold Region.wanted
              rw [hgu]
              simp only
              rw [beq_eq_false_iff_ne]
              exact fun h => hv (hyv ▸ hy.1 h)
            rw [if_neg (by rw [hw]; simp)]
            obtain ⟨v', h1, h2⟩ := hpost undef w (hs2 hv w hS)
            rw [← hdst]
            exact ⟨v', h1, h2⟩
  · rintro L ys w ⟨hC, pre, suf, vs, S, G, gl, e1, e2, hT, hS, hGw, hhd, hLp, hys, hob⟩ hL
    cases suf with
    | cons e t =>
      exact absurd (hL e (hordlt e (by rw [e1]; simp))) (hhd e t rfl).2
    | nil =>
      have hpo : ord = pre := by rw [e1]; simp
      have hnr : pre.reverse.Nodup := nodup_rev (hpo ▸ hnd)
      obtain ⟨y0, hy0⟩ : ∃ y0, fillA ops y0 ops.size a0 = a0 := ⟨_, fill_init ops a0 ops.size⟩
      have h1 := fillZ_of hd a0 y0 pre.reverse vs (by simp [e2]) (fun j hj => hordlt j (by rw [hpo]; exact List.mem_reverse.1 hj))
      rw [hy0] at h1
      have h2 : fillA ops ys ops.size a0 = fillZ dsts vs a0 := by
        rw [← hD, hpo, h1]
        refine fill_congr ops ops.size a0 fun j hj => ?_
        have hjp : j ∈ pre.reverse := List.mem_reverse.2 (hpo ▸ hord j hj)
        obtain ⟨m, hm⟩ := List.getElem?_of_mem hjp
        rw [ysOf_at pre.reverse vs _ m j hnr (by simp [e2]) hm]
        exact hys m j hm (hL j hj)
      show Q .normal (fillA ops ys ops.size a0) w
      rw [h2]
      exact hT w hS
theorem sld_blk {w : World} {bk : Nat} {cs : Array Value} {T : TypeId} {fz : Nat × Nat} (hb : w.heap[bk]? = some (.cells cs T fz)) (n size : Nat) (hs : cs.size = n * size) (hn : n ≤ maxLen) : SlD w (fun _ => True) size (.slice (some ⟨bk, 0, none⟩) n n) cs.toList :=
  ⟨_, n, n, rfl, by simpa using hs, Nat.le_refl _, hn, fun _ => ⟨bk, 0, rfl, trivial, fun j u hu => by rw [Nat.zero_add, blk_cell hb]; simpa using hu⟩⟩
/-- append, as an operation: what it yields. -/
theorem app_exec {P : Program} {t e : TypeId} {size bytes : Nat} (E : EInfo P t e size bytes) {w : World} {o : Oper} {ev : Operand → Value} (s x : Operand)
    (ho : o.op = .call { callee := .builtin .append, args := #[s, x], argTypes := #[t, t] })
    (base : Nat) (A : Option Addr) (n c : Nat) (xs : List Value) (hs : ev s = .slice A n c) (hown : w.ownsRow base e size (.slice A n c) n xs)
    (B : Option Addr) (m d : Nat) (news : List Value) (hx : ev x = .slice B m d) (hr : SlD w (fun _ => True) size (.slice B m d) news) (h1 : ∀ u ∈ news, u.oneCell' = true) (hb : (n + m) * bytes ≤ 140737488355328) (h63 : n + m ≤ maxLen) (hbase : base ≤ w.heap.size) :
    ∃ A' c' w', (execOp ev o).run P w = .ok (.value (.slice A' (n + m) c')) w' ∧ w'.ownsRow base e size (.slice A' (n + m) c') (n + m) (xs ++ news) ∧ Fr (Value.slice A n c).ownBlock w w' ∧ NewOr w.heap.size (.slice A n c) (.slice A' (n + m) c') := by
  obtain ⟨A', c', w', hr, h2, h3, h4⟩ := app_run (P := P) (ty := o.type) E w base A n c xs hown B m d news hr h1 hb h63 hbase
  refine ⟨A', c', w', ?_, h2, h3, ?_⟩
  · unfold execOp
    simp only [ho, resolve, invoke, builtin, Sem.run_bind, Sem.run_pure, Result.andThen_ok, List.map_toArray, List.map_cons, List.map_nil, hs, hx, hr]
  · rcases h4 with h | h
    · exact .inl h
    · exact .inr ⟨_, h, Nat.le_refl _⟩
theorem app_new {P : Program} {t e : TypeId} {size bytes : Nat} (E : EInfo P t e size bytes) {w : World} {o : Oper} {ev : Operand → Value} {T : Value → World → Prop} (s x : Operand)
    (ho : o.op = .call { callee := .builtin .append, args := #[s, x], argTypes := #[t, t] })
    (base : Nat) (A : Option Addr) (n c : Nat) (xs : List Value) (hs : ev s = .slice A n c) (hown : w.ownsRow base e size (.slice A n c) n xs)
    (B : Option Addr) (m d : Nat) (news : List Value) (hx : ev x = .slice B m d) (hr : SlD w (fun _ => True) size (.slice B m d) news) (h1 : ∀ u ∈ news, u.oneCell' = true) (hb : (n + m) * bytes ≤ 140737488355328) (h63 : n + m ≤ maxLen) (hbase : base ≤ w.heap.size)
    (h : ∀ A' c' w', w'.ownsRow base e size (.slice A' (n + m) c') (n + m) (xs ++ news) → Fr (Value.slice A n c).ownBlock w w' → NewOr w.heap.size (.slice A n c) (.slice A' (n + m) c') → T (.slice A' (n + m) c') w') :
    ∃ v w', (execOp ev o).run P w = .ok (.value v) w' ∧ T v w' := by
  obtain ⟨A', c', w', hr, h2, h3, h4⟩ := app_exec E s x ho base A n c xs hs hown B m d news hx hr h1 hb h63 hbase
  exact ⟨_, w', hr, h A' c' w' h2 h3 h4⟩
end Go.Proofs.YtonhhnedfjonoaaGreatDoor

/- Plain: accounts, lines and offers that are added one after the other stay right. -/
namespace Go.Proofs.YtonhhnedfjonoaaGreatDoor
open Go.RowKit

def usd : Ast := ⟨[85, 83, 68], 1⟩
def eur : Ast := ⟨[69, 85, 82], 2⟩
def GA (l : List Acct) : Prop := ∀ k (hk : k < l.length), l[k].id = (k : Int) + 1 ∧ 0 ≤ l[k].bal ∧ l[k].bal ≤ 1000 ∧ 0 ≤ l[k].seq ∧ l[k].seq ≤ 2
theorem GA.snoc {l : List Acct} {x : Acct} (h : GA l) (h1 : x.id = (l.length : Int) + 1) (h2 : 0 ≤ x.bal ∧ x.bal ≤ 1000) (h3 : 0 ≤ x.seq ∧ x.seq ≤ 2) : GA (l ++ [x]) := by
  intro k hk
  rw [List.getElem_append]
  split
  · rename_i h'; exact h k h'
  · rename_i h'
    have : k = l.length := by simp at hk; omega
    subst this
    simp only [Nat.sub_self, List.getElem_cons_zero]
    exact ⟨h1, h2.1, h2.2, h3.1, h3.2⟩
theorem vAmt_of {n : Int} (h : 0 ≤ n ∧ n ≤ 1000000000000) : vAmt n = true := by unfold vAmt; rw [decide_eq_true_iff]; exact h
theorem GA.chk {l : List Acct} (h : GA l) (hl : l.length ≤ 20) : chkAc l = 0 := by
  unfold chkAc
  rw [if_neg (by omega), if_pos]
  refine okAll_all fun k hk => ?_
  obtain ⟨h1, h2, h3, h4, h5⟩ := h k hk
  unfold okAc okA1
  rw [Bool.and_eq_true, Bool.and_eq_true, Bool.and_eq_true, decide_eq_true_iff, decide_eq_true_iff]
  refine ⟨⟨by omega, vAmt_of (by omega), by omega⟩, ?_⟩
  unfold prevOf
  split
  · rename_i b hb
    split at hb
    · cases hb
    · rename_i hk0
      rw [List.getElem?_eq_getElem (by omega)] at hb
      injection hb with hb
      have := (h (k - 1) (by omega)).1
      rw [← hb, decide_eq_true_iff]
      omega
  · rfl
theorem GA.find {l : List Acct} (h : GA l) {i : Int} (h1 : 1 ≤ i) (h2 : i ≤ l.length) : (findA l i).isSome = true := by
  unfold findA
  rw [List.find?_isSome]
  obtain ⟨k, hk⟩ := Int.eq_ofNat_of_zero_le (show 0 ≤ i - 1 by omega)
  have hk' : k < l.length := by omega
  refine ⟨l[k], List.getElem_mem hk', ?_⟩
  unfold isA
  rw [decide_eq_true_iff, (h k hk').1]
  omega
theorem okAll_snoc' {α : Type} {f : Option α → α → Bool} : ∀ (l : List α) (b : Option α) (x : α), okAll f b l = true → f (l.getLast?.or b) x = true → okAll f b (l ++ [x]) = true
  | [], b, x, _, h => by
    show (f b x && true) = true
    rw [Bool.and_true]
    simpa using h
  | y :: r, b, x, h, hx => by
    rw [List.cons_append]
    unfold okAll at h ⊢
    rw [Bool.and_eq_true] at h ⊢
    refine ⟨h.1, okAll_snoc' r (some y) x h.2 ?_⟩
    rw [List.getLast?_cons] at hx
    cases hr : r.getLast? with
    | none => rw [hr] at hx; exact hx
    | some z => rw [hr] at hx; exact hx
theorem okAll_snoc {α : Type} {f : Option α → α → Bool} {l : List α} {x : α} (h : okAll f none l = true) (hx : f l.getLast? x = true) : okAll f none (l ++ [x]) = true := okAll_snoc' l none x h (by simpa using hx)
/-- Lines, up to account i + 1 and the first j assets of it. -/
structure GL (accs : List Acct) (i j : Nat) (l : List Ln) : Prop where
  ok : okAll (okLn accs) none l = true
  lt : ∀ x ∈ l, x.acc < (i : Int) + 1 ∨ (x.acc = (i : Int) + 1 ∧ 1 ≤ j ∧ x.ast = eur) ∨ (x.acc = (i : Int) + 1 ∧ 2 ≤ j)
  len : l.length ≤ 2 * i + j
theorem GL.zero (accs : List Acct) : GL accs 0 0 [] := ⟨rfl, by simp, by simp⟩
theorem GL.skip {accs : List Acct} {i j : Nat} {l : List Ln} (h : GL accs i j l) : GL accs i (j + 1) l :=
  ⟨h.ok, fun x hx => by
    rcases h.lt x hx with h1 | ⟨h1, h2, h3⟩ | ⟨h1, h2⟩
    · exact .inl h1
    · exact .inr (.inl ⟨h1, by omega, h3⟩)
    · exact .inr (.inr ⟨h1, by omega⟩), by have := h.len; omega⟩
theorem GL.next {accs : List Acct} {i : Nat} {l : List Ln} (h : GL accs i 2 l) : GL accs (i + 1) 0 l :=
  ⟨h.ok, fun x hx => by
    refine .inl ?_
    rcases h.lt x hx with h1 | ⟨h1, h2, h3⟩ | ⟨h1, h2⟩ <;> omega, by have := h.len; omega⟩
theorem GL.add {accs : List Acct} {i j : Nat} {l : List Ln} {a : Ast} {bal lim : Int} (h : GL accs i j l) (hj : (j = 0 ∧ a = eur) ∨ (j = 1 ∧ a = usd)) (ha : a.iss ≠ (i : Int) + 1) (hA : GA accs) (hi : (i : Int) + 1 ≤ accs.length) (hb : 0 ≤ bal ∧ bal ≤ lim) (hl : lim ≤ 1000000000000) : GL accs i (j + 1) (l ++ [⟨(i : Int) + 1, a, bal, lim⟩]) := by
  refine ⟨okAll_snoc h.ok ?_, fun x hx => ?_, by have := h.len; simp; omega⟩
  · unfold okLn
    have h1 : vAst a = true := by rcases hj with ⟨_, rfl⟩ | ⟨_, rfl⟩ <;> decide
    have h2 : a ≠ nat := by rcases hj with ⟨_, rfl⟩ | ⟨_, rfl⟩ <;> decide
    simp only [Bool.and_eq_true, decide_eq_true_eq]
    refine ⟨hA.find (by omega) hi, h1, h2, ha, vAmt_of (by omega), hb, ?_⟩
    split
    · rename_i b hbl
      have hm := List.mem_of_getLast? hbl
      unfold befL
      rw [Bool.or_eq_true, Bool.and_eq_true, decide_eq_true_iff, decide_eq_true_iff]
      rcases h.lt b hm with h3 | ⟨h3, h4, h5⟩ | ⟨h3, h4⟩
      · exact .inl h3
      · refine .inr ⟨h3, ?_⟩
        have : a = usd := by rcases hj with ⟨h0, _⟩ | ⟨_, h0⟩; omega; exact h0
        rw [h5, this]
        decide
      · omega
    · rfl
  · rcases List.mem_append.1 hx with hx | hx
    · rcases h.lt x hx with h1 | ⟨h1, h2, h3⟩ | ⟨h1, h2⟩
      · exact .inl h1
      · exact .inr (.inl ⟨h1, by omega, h3⟩)
      · exact .inr (.inr ⟨h1, by omega⟩)
    · obtain rfl := List.mem_singleton.1 hx
      rcases hj with ⟨h0, h1⟩ | ⟨h0, h1⟩
      · exact .inr (.inl ⟨rfl, by omega, h1⟩)
      · exact .inr (.inr ⟨rfl, by omega⟩)
theorem GL.chk {accs : List Acct} {i j : Nat} {l : List Ln} (h : GL accs i j l) (hA : GA accs) (h20 : accs.length ≤ 20) (h60 : 2 * i + j ≤ 60) : chkLn l accs = 0 := by
  unfold chkLn
  rw [if_neg (fun e => e (hA.chk h20)), if_neg (by have := h.len; omega), if_pos h.ok]
/-- A ledger without offers. -/
theorem chk_start {g : Lgr} (h1 : chkLn g.lines g.accs = 0) (h2 : g.offers = []) (h3 : 1 ≤ g.nid ∧ g.nid ≤ 1000000) (h4 : 0 ≤ g.fees ∧ g.fees ≤ 1000000000000) (h5 : 0 ≤ g.num ∧ g.num ≤ 1000000) : chkOf g = 0 := by
  unfold chkOf
  rw [if_neg (fun e => e h1), h2, if_neg (by simp), if_pos]
  refine ⟨?_, rfl⟩
  unfold okLg
  rw [decide_eq_true h3, vAmt_of h4, decide_eq_true h5]
  rfl
theorem redP_again {n d : Int} (h : vPrc n d = true) : redP (redP n d).1 (redP n d).2 = ((redP n d).1, (redP n d).2) ∧ (redP n d).1 ≠ 0 := by
  have h0 := h
  unfold vPrc at h
  rw [decide_eq_true_iff] at h
  obtain ⟨a, rfl⟩ := Int.eq_ofNat_of_zero_le (show 0 ≤ n by omega)
  obtain ⟨b, rfl⟩ := Int.eq_ofNat_of_zero_le (show 0 ≤ d by omega)
  have ha : 1 ≤ a := by omega
  have hb : 1 ≤ b := by omega
  have e : redP (a : Int) (b : Int) = (((a / Nat.gcd a b : Nat) : Int), ((b / Nat.gcd a b : Nat) : Int)) := by
    unfold redP
    rw [if_pos h0]
    rfl
  have hg : 0 < Nat.gcd a b := Nat.gcd_pos_of_pos_left _ (by omega)
  have hc : Nat.gcd (a / Nat.gcd a b) (b / Nat.gcd a b) = 1 := Nat.coprime_div_gcd_div_gcd hg
  have h1 : 1 ≤ a / Nat.gcd a b := Nat.div_pos (Nat.le_of_dvd (by omega) (Nat.gcd_dvd_left a b)) hg
  have h2 : 1 ≤ b / Nat.gcd a b := Nat.div_pos (Nat.le_of_dvd (by omega) (Nat.gcd_dvd_right a b)) hg
  have h3 := Nat.div_le_self a (Nat.gcd a b)
  have h4 := Nat.div_le_self b (Nat.gcd a b)
  rw [e]
  simp only
  generalize a / Nat.gcd a b = u at *
  generalize b / Nat.gcd a b = v at *
  refine ⟨?_, by omega⟩
  have hv : vPrc (u : Int) (v : Int) = true := by unfold vPrc; rw [decide_eq_true_iff]; omega
  unfold redP
  rw [if_pos hv]
  simp only [Int.toNat_natCast, hc, Nat.div_one]
/-- An offer that is added leaves a right ledger right. -/
theorem chk_add {g : Lgr} {s : Int} {sg by_ : Ast} {amt n d : Int} (h : addE g s sg by_ amt n d = 0) : chkOf (addC g s sg by_ amt n d) = 0 := by
  unfold addE at h
  split at h
  · rename_i h1; exact absurd h h1
  rename_i h1
  have h1 : chkOf g = 0 := Classical.not_not.1 h1
  split at h
  · cases h
  rename_i h2
  split at h
  · cases h
  rename_i h3
  split at h
  · cases h
  rename_i h4
  split at h
  · cases h
  rename_i h5
  split at h
  · cases h
  rename_i h6
  split at h
  · cases h
  rename_i h7
  have h7a : ¬ g.offers.length = 40 := fun e => h7 (.inl e)
  have h7b : ¬ g.nid = 1000000 := fun e => h7 (.inr e)
  have h3a : vAst sg = true := by cases e : vAst sg; exact absurd (.inl e) h3; rfl
  have h3b : vAst by_ = true := by cases e : vAst by_; exact absurd (.inr (.inl e)) h3; rfl
  have h3c : sg ≠ by_ := fun e => h3 (.inr (.inr e))
  have h4a : 1 ≤ amt := by
    rcases Int.lt_or_le amt 1 with e | e
    · exact absurd (.inl e) h4
    · exact e
  have h4b : vAmt amt = true := by cases e : vAmt amt; exact absurd (.inr (.inl e)) h4; rfl
  have h4c : vPrc n d = true := by cases e : vPrc n d; exact absurd (.inr (.inr e)) h4; rfl
  have h2a : (findA g.accs s).isSome = true := by cases e : (findA g.accs s).isSome; exact absurd e h2; rfl
  unfold chkOf at h1
  split at h1
  · rename_i e; exact absurd h1 e
  rename_i hln
  split at h1
  · cases h1
  rename_i hlen
  split at h1
  rotate_left
  · cases h1
  rename_i hok
  obtain ⟨hlg, hall⟩ := hok
  unfold okLg at hlg
  rw [Bool.and_eq_true, Bool.and_eq_true, decide_eq_true_iff, decide_eq_true_iff] at hlg
  unfold chkOf
  have hacc : (addC g s sg by_ amt n d).accs = g.accs := rfl
  have hlin : (addC g s sg by_ amt n d).lines = g.lines := rfl
  rw [hacc, hlin, if_neg hln, if_neg (by show ¬ 40 < (g.offers ++ [_]).length; simp; omega), if_pos]
  refine ⟨?_, ?_⟩
  · unfold okLg
    have e1 : (addC g s sg by_ amt n d).nid = g.nid + 1 := rfl
    have e2 : (addC g s sg by_ amt n d).fees = g.fees := rfl
    have e3 : (addC g s sg by_ amt n d).num = g.num := rfl
    rw [e1, e2, e3, hlg.2.1, decide_eq_true hlg.2.2, decide_eq_true (by omega)]
    rfl
  · have hmono : ∀ b x, okOf g b x = true → okOf (addC g s sg by_ amt n d) b x = true := by
      intro b x hx
      unfold okOf at hx ⊢
      have e1 : (addC g s sg by_ amt n d).nid = g.nid + 1 := rfl
      rw [hacc, e1]
      rw [Bool.and_eq_true, Bool.and_eq_true, decide_eq_true_iff] at hx
      rw [hx.1, hx.2.2, decide_eq_true (by omega)]
      rfl
    have hall2 : okAll (okOf (addC g s sg by_ amt n d)) none g.offers = true := by
      rw [okAll_true] at hall ⊢
      exact fun k hk => hmono _ _ (hall k hk)
    refine okAll_snoc hall2 ?_
    obtain ⟨r1, r2⟩ := redP_again h4c
    unfold okOf
    have e1 : (addC g s sg by_ amt n d).nid = g.nid + 1 := rfl
    rw [hacc, e1]
    simp only
    rw [h2a, h3a, h3b, h4b, decide_eq_true (show 1 ≤ g.nid ∧ g.nid < g.nid + 1 by omega), decide_eq_true h3c, decide_eq_true h4a, decide_eq_true ⟨r1, r2⟩]
    have hp : (match g.offers.getLast? with | some b => decide (b.id < g.nid) | none => true) = true := by
      split
      · rename_i b hb
        have hm := List.mem_of_getLast? hb
        obtain ⟨k, hk, rfl⟩ := List.getElem_of_mem hm
        have := (okAll_true _ _ _).1 hall k hk
        unfold okOf at this
        rw [Bool.and_eq_true, Bool.and_eq_true, decide_eq_true_iff] at this
        rw [decide_eq_true_iff]
        exact this.2.1.2
      · rfl
    cases hg : g.offers.getLast? with
    | none => rfl
    | some b => rw [hg] at hp; simp only [Bool.true_and, Bool.and_true]; exact hp
theorem GA.ok {l : List Acct} (h : GA l) (hl : l.length ≤ 20) : ∀ x ∈ l, accR.ok x := fun x hx => by
  obtain ⟨q, hq, rfl⟩ := List.getElem_of_mem hx
  obtain ⟨v1, v2, v3, v4, v5⟩ := h q hq
  generalize l[q] = y at *
  show Wi y.id ∧ Wi y.bal ∧ Wi y.seq
  refine ⟨?_, ?_, ?_⟩ <;> constructor <;> omega
theorem ok_line {accs : List Acct} {l : List Ln} (hA : GA accs) (hl : accs.length ≤ 20) (h : okAll (okLn accs) none l = true) : ∀ x ∈ l, lnR.ok x := fun x hx => by
  obtain ⟨k, hk, rfl⟩ := List.getElem_of_mem hx
  have h1 := (okAll_true _ _ _).1 h k hk
  generalize l[k] = x at *
  unfold okLn at h1
  simp only [Bool.and_eq_true, decide_eq_true_eq] at h1
  obtain ⟨h1, h2, h3, h4, h5, h6, h7⟩ := h1
  have ha : Wi x.acc := by
    unfold findA at h1
    rw [List.find?_isSome] at h1
    obtain ⟨y, hy, hy2⟩ := h1
    obtain ⟨q, hq, rfl⟩ := List.getElem_of_mem hy
    unfold isA at hy2
    rw [decide_eq_true_iff] at hy2
    have := (hA q hq).1
    constructor <;> omega
  have hi : Wi x.ast.iss := by
    unfold vAst at h2
    rw [Bool.or_eq_true, Bool.and_eq_true, decide_eq_true_iff, decide_eq_true_iff] at h2
    rcases h2 with h2 | ⟨h2, _⟩
    · rw [h2]; constructor <;> decide
    · constructor <;> omega
  unfold vAmt at h5
  rw [decide_eq_true_iff] at h5
  exact ⟨ha, hi, by constructor <;> omega, by constructor <;> omega⟩
end Go.Proofs.YtonhhnedfjonoaaGreatDoor

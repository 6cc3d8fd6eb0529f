/- Some texts of this claim, joined: contracts of the functions that it reaches, and plain laws. -/
import Derived.Test.YtoblhcieidljjaaGreatDoorJDA27
import Derived.Test.YtoblhcieidljjaaGreatDoorJDA16

set_option linter.unusedSimpArgs false
set_option linter.unusedVariables false
/- A declaration that comes in reads as one; keys that come in. -/
namespace Go.Proofs.YtoblhcieidljjaaGreatDoor
open Go.RowKit Go.ChangeShapes

/-- A declaration as it comes in, of whatever size. -/
def RwDe (w : World) (v : Value) (d : De) : Prop :=
  ∃ a b c, v = .agg #[.int .i64 d.node, .int .i64 d.seq, a, b, c, .int .u64 (d.tag : Int)] ∧ RwD w (.agg #[a, b, c]) d.tr ∧ Wi d.node ∧ Wi d.seq ∧ d.tag < 18446744073709551616
theorem RwDe.fr {w w' : World} {v : Value} {d : De} (h : RwDe w v d) (F : Fr none w w') : RwDe w' v d := by
  obtain ⟨a, b, c, e, h1, h2⟩ := h
  exact ⟨a, b, c, e, h1.fr F, h2⟩
theorem RwDe.shape {w : World} {v : Value} {d : De} (h : RwDe w v d) :
    ∃ (th : Int) (A1 : Option Addr) (n1 c1 : Nat) (A2 : Option Addr) (n2 c2 : Nat), v = .agg #[.int .i64 d.node, .int .i64 d.seq, .int .i64 th, .slice A1 n1 c1, .slice A2 n2 c2, .int .u64 (d.tag : Int)] ∧ RwD w (.agg #[.int .i64 th, .slice A1 n1 c1, .slice A2 n2 c2]) d.tr ∧ Wi d.node ∧ Wi d.seq ∧ d.tag < 18446744073709551616 := by
  obtain ⟨a, b, c, rfl, h1, h2⟩ := h
  obtain ⟨th, A1, n1, c1, A2, n2, c2, rfl, rfl, rfl⟩ := h1.shape3
  exact ⟨th, A1, n1, c1, A2, n2, c2, rfl, h1, h2⟩
theorem RwDe.small {w : World} {v : Value} {d : De} (h : RwDe w v d) (hs : d.tr.size ≤ 1073741824) : DeD w (Dm w none) v d := by
  obtain ⟨th, A1, n1, c1, A2, n2, c2, rfl, h1, h2⟩ := h.shape
  exact ⟨th, _, _, rfl, h1.small hs, h2⟩

set_option maxRecDepth 100000 in
theorem openDe {H : Type} {enc : TypeId × Value → H} {W : World} {b : Nat} {sp : Nat → Bool} {hd : Bool} (fuel : Nat) {cs : List Value} {x : DataW H × List MemPlace} (h : DataW.trod enc Tryz.prog W b sp hd fuel 45 cs = some x)
    (hw : ∀ n ∈ DataW.weights Tryz.prog 45 x.1, n ≤ reachBytes) : ∃ d, RwDe W (.agg cs.toArray) d := by
  obtain ⟨xs, n, rfl, rfl, hl, hxs, hf⟩ := DataW.trod_struct Tryz.underlying45 h
  have e6 : Tryz.prog.cellsOf 45 = 6 := by kernel_rfl
  have e3 : Tryz.prog.cellsOf 31 = 3 := by kernel_rfl
  have e1 : Tryz.prog.cellsOf 3 = 1 := by kernel_rfl
  have eu : Tryz.prog.cellsOf 43 = 1 := by kernel_rfl
  rw [e6] at hl
  have f0 := hf 0 _ rfl
  have f1 := hf 1 _ rfl
  have f2 := hf 2 _ rfl
  have f3 := hf 3 _ rfl
  match cs, hl, xs, hxs, hw, f0, f1, f2, f3 with
  | [c0, c1, c2, c3, c4, c5], _, [y0, y1, y2, y3], _, hw, f0, f1, f2, f3 =>
    simp only [e1, e3, eu, List.drop_zero, List.take_succ_cons, List.take_zero, List.drop_succ_cons, List.getElem?_cons_zero, List.getElem?_cons_succ] at f0 f1 f2 f3
    obtain ⟨nd, e0, _, w0⟩ := DataW.trod_int Tryz.underlying3 f0
    injection e0 with e0 _
    subst e0
    obtain ⟨sq, e0, _, w1⟩ := DataW.trod_int Tryz.underlying3 f1
    injection e0 with e0 _
    subst e0
    obtain ⟨tg, e0, _, w3⟩ := DataW.trod_int Tryz.underlying43 f3
    injection e0 with e0 _
    subst e0
    obtain ⟨t, ht⟩ := openT n n (Nat.le_refl _) f2 (fun m hm => hw m (by
      simp only [List.map_cons, List.map_nil, DataW.weights, Tryz.underlying45, DataW.weightsEach, List.mem_append]
      exact .inr (.inr (.inl hm))))
    obtain ⟨t0, t1⟩ := u64_bd w3
    obtain ⟨tn, rfl⟩ := Int.eq_ofNat_of_zero_le t0
    exact ⟨⟨nd, sq, t, tn⟩, c2, c3, c4, rfl, ht, i64_bd w0, i64_bd w1, by show tn < _; omega⟩
end Go.Proofs.YtoblhcieidljjaaGreatDoor

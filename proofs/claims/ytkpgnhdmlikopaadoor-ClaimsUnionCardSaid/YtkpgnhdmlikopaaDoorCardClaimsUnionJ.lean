/- The statement of ClaimsUnion: for every input the law returns true and its arguments read as they did: out of the law's walk (lawCu_any). -/
import Derived.Test.YtkpgnhdmlikopaaDoorCards
import Derived.Test.YtkpgnhdmlikopaaDoorTie
import Derived.Test.YtkpgnhdmlikopaaDoorLawCuJ
import Derived.Test.YtkpgnhdmlikopaaDoorJC14
import Derived.ProofKit
import Derived.OpenShut
import Derived.ShutString
import Derived.ChangeOld
import Derived.Deep.DeepHandedRow
import Derived.Lib.LaidTab
import Derived.Stop.LaidErr
import Derived.Lay
import Derived.Deep.DeepWitnessRowRef
import Derived.Shelf.Vars
set_option linter.unusedSimpArgs false
set_option linter.unusedVariables false
namespace Go.Proofs.YtkpgnhdmlikopaaDoor.cardClaimsUnion
open Go.ChangeShapes Go.WideShapes Go.ChangeAt Go.RowKit
open Go.ChangeMaps (open_string shut_string)
set_option linter.unusedVariables false

theorem own : ownKnob Tryd.prog.godebug = none := by kernel_rfl
theorem laidOut : laidOutB Tryd.prog = true := by kernel_rfl

set_option maxRecDepth 100000 in
theorem rowErr (u : TypeId) (h : Tryd.prog.typeName? 3 u = some "*errors.errorString") : u = 150 :=
  typeName_ptr_named (nm := "errors.errorString") (by rw [show "*" ++ "errors.errorString" = "*errors.errorString" by decide]; kernel_rfl) (by kernel_rfl) (by decide) u (by rw [show "*" ++ "errors.errorString" = "*errors.errorString" by decide]; exact h)
set_option maxRecDepth 100000 in
theorem errOf (W : World) (h : laidMet Tryd.prog Rows.claimsUnionRow.laid W) : Errs W := by
  have h2 : laidMet Tryd.prog (("math/bits.deBruijn32tab", Rows.laid_math_bits_deBruijn32tab) :: ("math/bits.deBruijn64tab", Rows.laid_math_bits_deBruijn64tab) :: ("internal/strconv.uint64pow10", Rows.laid_internal_strconv_uint64pow10) :: ("strconv.ErrRange", .iface "*errors.errorString" (.ptr (.agg [.lit (.string [118, 97, 108, 117, 101, 32, 111, 117, 116, 32, 111, 102, 32, 114, 97, 110, 103, 101])]))) :: ("strconv.ErrSyntax", .iface "*errors.errorString" (.ptr (.agg [.lit (.string [105, 110, 118, 97, 108, 105, 100, 32, 115, 121, 110, 116, 97, 120])]))) :: ("unicode.White_Space", Rows.laid_unicode_White_Space) :: ("strings.asciiSpace", Rows.laid_strings_asciiSpace) :: []) W := h
  obtain ⟨a1, s1, hv1, _⟩ := laid_sentinel (g := 3) (ti := 58) (tp := 150) (te := 152) (ts := 9) (laidMet.tail (laidMet.tail (laidMet.tail (laidMet.tail h2)))) (by kernel_rfl) (by kernel_rfl) Tryd.underlying58 rowErr Tryd.underlying150 Tryd.underlying152 rfl rfl (by kernel_rfl) (by kernel_rfl) (by kernel_rfl)
  obtain ⟨a2, s2, hv2, _⟩ := laid_sentinel (g := 4) (ti := 58) (tp := 150) (te := 152) (ts := 9) (laidMet.tail (laidMet.tail (laidMet.tail h2))) (by kernel_rfl) (by kernel_rfl) Tryd.underlying58 rowErr Tryd.underlying150 Tryd.underlying152 rfl rfl (by kernel_rfl) (by kernel_rfl) (by kernel_rfl)
  have c1 : W.cell? ⟨3, 0, none⟩ = some (.iface 150 (.pointer (some a1))) := by simpa using World.var?_cell (g := 3) (by kernel_rfl) hv1 0
  have c2 : W.cell? ⟨4, 0, none⟩ = some (.iface 150 (.pointer (some a2))) := by simpa using World.var?_cell (g := 4) (by kernel_rfl) hv2 0
  exact ⟨⟨_, _, c1⟩, ⟨_, _, c2⟩⟩

set_option maxRecDepth 100000 in
theorem whiteX : WhiteExtra Tryd.prog Tryd.lays199_ren := ⟨by kernel_rfl, by kernel_rfl, by kernel_rfl, by kernel_rfl, by kernel_rfl, by kernel_rfl, by kernel_rfl, by kernel_rfl⟩
set_option maxRecDepth 100000 in
theorem spcOf (W : World) (h : laidMet Tryd.prog Rows.claimsUnionRow.laid W) : Spc W := by
  have h2 : laidMet Tryd.prog (("math/bits.deBruijn32tab", Rows.laid_math_bits_deBruijn32tab) :: ("math/bits.deBruijn64tab", Rows.laid_math_bits_deBruijn64tab) :: ("internal/strconv.uint64pow10", Rows.laid_internal_strconv_uint64pow10) :: ("strconv.ErrRange", Rows.laid_strconv_ErrRange) :: ("strconv.ErrSyntax", Rows.laid_strconv_ErrSyntax) :: ("unicode.White_Space", Lib.whiteData) :: ("strings.asciiSpace", Lib.tabData .u8 Lib.asciiSpaceTab) :: []) W := h
  refine ⟨Lib.tabIs_of_head (g := 0) (t := 72) (e := 5) (n := 256) (by kernel_rfl) (by kernel_rfl) (by kernel_rfl) (by kernel_rfl) (by kernel_rfl) (by kernel_rfl) (laidMet.tail (laidMet.tail (laidMet.tail (laidMet.tail (laidMet.tail (laidMet.tail h2)))))), ?_⟩
  exact whiteTab_of_reads Tryd.lays199 whiteX (Lib.laidMet.reads h2 (by simp only [List.mem_cons, true_or, or_true]))

set_option maxRecDepth 100000 in
theorem maxOf (W : World) (h : W.ShapedOpen Tryd.prog) : Mxl W :=
  Go.Proofs.cell_of_shapedOpen_int (zero := #[.int .i64 0]) (t := 3) h (of_decide_eq_true (by kernel_rfl)) (by kernel_rfl) rfl (by kernel_rfl) (by kernel_rfl) Tryd.underlying3

set_option maxRecDepth 100000 in
theorem contract (H : Type) (enc : TypeId × Value → H) (W : World) (base : Nat) (args : Array Value) (ds gs : List (DataW H)) (before : List MemPlace)
    (hval : ∀ (j : Nat) t v, Tryd.f5.params[j]? = some t → args[j]? = some v → Value.okWide Tryd.prog W .any base t v)
    (hW : DataW.Whole enc Tryd.prog Tryd.f5.params.toList Rows.claimsUnionSpec.vars false W args.toList ds gs before) (hErr : Errs W) (hMax : Mxl W) (hSpc : Spc W) :
    Calls Tryd.prog 5 args W fun e W' => ∃ v, e = .returned v ∧ Rows.claimsUnionSpec.post enc Tryd.prog Tryd.f5 false true false false W args v W' := by
  have hW' := hW
  obtain ⟨p, q, hA0, hV, rfl, hfz, hnd⟩ := hW
  have hA : DataW.TrodAll enc Tryd.prog W 0 (fun _ => true) true Tryd.f5.params.toList args.toList ds p := hA0
  rw [Tryd.params5] at hA hval
  obtain ⟨v0, vs0, d0, ds0, p0, q0, hargs, rfl, rfl, h0, r0⟩ := trodAll_cons hA
  obtain ⟨v1, vs1, d1, ds1, p1, q1, rfl, rfl, rfl, h1, r1⟩ := trodAll_cons r0
  obtain ⟨v2, vs2, d2, ds2, p2, q2, rfl, rfl, rfl, h2, r2⟩ := trodAll_cons r1
  obtain ⟨v3, vs3, d3, ds3, p3, q3, rfl, rfl, rfl, h3, r3⟩ := trodAll_cons r2
  obtain ⟨rfl, rfl, rfl⟩ := trodAll_nil r3
  obtain rfl : args = #[v0, v1, v2, v3] := by cases args; simp_all
  obtain ⟨rfl, rfl⟩ := trodVars_none hV
  have k0 := h0
  have lt0 : ∀ x ∈ p0, x.block < W.heap.size := by obtain ⟨m, hm⟩ := k0; exact DataW.trod_lt m _ _ _ hm
  obtain ⟨l0, w0⟩ := openClms (hval 0 23 v0 rfl rfl) h0 lt0
  have k1 := h1
  have lt1 : ∀ x ∈ p1, x.block < W.heap.size := by obtain ⟨m, hm⟩ := k1; exact DataW.trod_lt m _ _ _ hm
  obtain ⟨l1, w1⟩ := openClms (hval 1 23 v1 rfl rfl) h1 lt1
  have k2 := h2
  have lt2 : ∀ x ∈ p2, x.block < W.heap.size := by obtain ⟨m, hm⟩ := k2; exact DataW.trod_lt m _ _ _ hm
  obtain ⟨l2, w2⟩ := openClms (hval 2 23 v2 rfl rfl) h2 lt2
  have lt3 : ∀ x ∈ p3, x.block < W.heap.size := by obtain ⟨m, hm⟩ := h3; exact DataW.trod_lt m _ _ _ hm
  have g3 : ∃ cs, v3 = .agg cs := by
    have hh := hval 3 38 v3 rfl rfl
    unfold Value.okWide at hh
    rw [Tryd.underlying38] at hh
    obtain ⟨cs, e, _⟩ := hh
    exact ⟨cs, e⟩
  obtain ⟨cs3, rfl⟩ := g3
  obtain ⟨c3, rfl, w3⟩ : ∃ c : Cl, cs3 = #[.int .i64 c.1, .int .i64 c.2] ∧ Wc c := by obtain ⟨m, hm⟩ := h3; exact openClm hm
  have k3 := h3
  clear hA0
  refine (lawCu_any v0 l0 v1 l1 v2 l2 c3 W w0 w1 w2  hErr hMax hSpc).mono fun e W' ⟨he, hfr⟩ => ?_
  subst he
  have bel := hfr.below
  exact ⟨_, rfl, _, _, _, [], _, [], hW', trodAll_mk1 (shut_bool Tryd.underlying4 _), (trodAll_cons_mk (Below.trod laidOut (by kernel_rfl) (of_decide_eq_true (by kernel_rfl)) k0 bel lt0) (trodAll_cons_mk (Below.trod laidOut (by kernel_rfl) (of_decide_eq_true (by kernel_rfl)) k1 bel lt1) (trodAll_cons_mk (Below.trod laidOut (by kernel_rfl) (of_decide_eq_true (by kernel_rfl)) k2 bel lt2) (trodAll_cons_mk (Below.trod laidOut (by kernel_rfl) (of_decide_eq_true (by kernel_rfl)) k3 bel lt3) trodAll_mk0)))), rfl, bel.frame _, fun h => by cases h⟩

def laidCells (cs : Array Value) : Obj → Obj
  | .cells _ t frozen => .cells cs t frozen
  | o => o
noncomputable def laidWorld (os : Os) : World := World.laidAll Tryd.prog os Rows.claimsUnionRow.laid
set_option maxRecDepth 100000 in
theorem laid_met (os : Os) : laidMet Tryd.prog Rows.claimsUnionRow.laid ((laidWorld os).forCall (fun _ _ => 0) ⟨#[], #[.slice none 0 0, .slice none 0 0, .slice none 0 0, .agg #[.int .i64 0, .int .i64 0]], []⟩).memory :=
  laidMet_laidAll _ (by kernel_rfl) (by kernel_rfl)
theorem reads (os : Os) {H : Type} (enc : TypeId × Value → H) : ∃ places, DataW.whole enc Tryd.prog ((laidWorld os).forCall (fun _ _ => 0) ⟨#[], #[.slice none 0 0, .slice none 0 0, .slice none 0 0, .agg #[.int .i64 0, .int .i64 0]], []⟩).memory Tryd.f5.params.toList Rows.claimsUnionSpec.vars false (#[.slice none 0 0, .slice none 0 0, .slice none 0 0, .agg #[.int .i64 0, .int .i64 0]] : Array Value).toList 8 = some ([.nil, .nil, .nil, .agg [.lit (.int .i64 0), .lit (.int .i64 0)]], [], places) :=
  ⟨[], by kernel_rfl⟩

set_option maxRecDepth 100000 in
theorem lifted (os : Os) (started : os.Started) (H : Type) (enc : TypeId × Value → H) (F : Stop.Interp) :
    ReturnsInHanded {} Tryd.checked os 5 .any ((OpenSpec.ofChange Rows.claimsUnionSpec).preRow enc Tryd.prog Tryd.f5 Rows.claimsUnionRow.domain false Rows.claimsUnionRow.laid) (((OpenSpec.ofChange Rows.claimsUnionSpec).at F).post enc Tryd.prog Tryd.f5 false true false false) := by
  obtain ⟨places, hx⟩ := reads os enc
  refine returnsInHanded_of_row (C := Tryd.checked) (s := OpenSpec.ofChange Rows.claimsUnionSpec) own started (by kernel_rfl) Tryd.func5
    (witness_row_atRef (enc := enc) (C := Tryd.checked) false (laidWorld os) #[.slice none 0 0, .slice none 0 0, .slice none 0 0, .agg #[.int .i64 0, .int .i64 0]] (World.laidAll_os _ _ _) (by kernel_rfl) (by kernel_rfl) (by kernel_rfl)
      (OpenSpec.preRow_of_cond 8 hx (by kernel_rfl) (fun k hk => by cases hk) (by kernel_rfl) (laid_met os))) ?_
  intro W base args ds gs before hval hW _ _ hwt hL hsh _
  exact contract H enc W base args ds gs before hval hW (errOf W hL) (maxOf W hsh) (spcOf W hL)

theorem and_mk {a b : Bool} (h : a = true) (k : b = true) : (a && b) = true := by rw [h, k]; rfl
theorem named : Tryd.pinned.checked.prog.funcNamed Rows.claimsUnionRow.func = some 5 := by kernel_rfl
set_option maxHeartbeats 8000000 in
theorem closed : joinedFacts Tryd.pinned.checked.prog 5 Tryd.f5 (OpenSpec.ofChange Rows.claimsUnionSpec).bare Rows.claimsUnionRow = true := by
  unfold joinedFacts
  repeat' with_reducible refine and_mk ?_ ?_
  all_goals (as_aux_lemma => kernel_rfl)
theorem said : Rows.ClaimsUnionSaid :=
  OpenClaim.holds_of_cond 5 Tryd.f5 rfl rfl rfl rfl rfl rfl rfl ⟨rfl, rfl, rfl, rfl, rfl⟩ rfl rfl rfl rfl rfl named Tryd.func5 closed
    (of_decide_eq_true (by kernel_rfl)) (by unfold Func.isWrapper; first | (rw [if_pos (by decide +kernel)]; kernel_rfl) | (rw [if_neg (by decide +kernel)]; exact ⟨rfl, rfl⟩))
    (fun os started H enc _ F => by rw [OpenClaim.pre_eq_preRow]; exact lifted os started H enc F)


theorem plain (f : FuncId) (fn : Func) (hf : Tryd.pinned.checked.prog.funcNamed Rows.claimsUnionRow.func = some f) (hfn : Tryd.pinned.checked.prog.funcs[f]? = some fn) :
    true = Tryd.pinned.checked.prog.looks [] ∧ ∀ (j : Nat) t, fn.params[j]? = some t → Tryd.pinned.checked.prog.wantsStandIn t = false := by
  obtain rfl : f = 5 := Option.some.inj ((show Tryd.prog.funcNamed Rows.claimsUnionRow.func = some 5 by kernel_rfl).symm.trans hf) |>.symm
  obtain rfl : fn = Tryd.f5 := (Option.some.inj (Tryd.func5.symm.trans hfn)).symm
  refine ⟨by kernel_rfl, fun j t ht => ?_⟩
  rw [Tryd.params5] at ht
  match j, ht with
  | 0, ht =>
    obtain rfl : t = 23 := by simpa using ht.symm
    exact (show Tryd.prog.wantsStandIn 23 = false by kernel_rfl)
  | 1, ht =>
    obtain rfl : t = 23 := by simpa using ht.symm
    exact (show Tryd.prog.wantsStandIn 23 = false by kernel_rfl)
  | 2, ht =>
    obtain rfl : t = 23 := by simpa using ht.symm
    exact (show Tryd.prog.wantsStandIn 23 = false by kernel_rfl)
  | 3, ht =>
    obtain rfl : t = 38 := by simpa using ht.symm
    exact (show Tryd.prog.wantsStandIn 38 = false by kernel_rfl)
  | j + 4, ht => simp at ht

/-- The card. -/
theorem card : Rows.ClaimsUnionCardSaid :=
  Claim7.holds_tied_plain_at .later [] _ _ _ _ said (fun _ h => by cases h) (by kernel_rfl) (fun _ h => by cases h) claimsUnion_row_tie rfl ⟨rfl, rfl⟩ (by kernel_rfl) rfl plain (by kernel_rfl)
end Go.Proofs.YtkpgnhdmlikopaaDoor.cardClaimsUnion

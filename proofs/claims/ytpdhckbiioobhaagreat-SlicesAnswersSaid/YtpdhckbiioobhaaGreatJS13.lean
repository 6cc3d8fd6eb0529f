/- Some texts of this claim, joined: contracts of the functions that it reaches, and plain laws. -/
import Derived.RangeFuncNested
import Derived.Test.YtpdhckbiioobhaaGreatJS12

set_option linter.unusedSimpArgs false
set_option linter.unusedVariables false
/- Walks: slices.least: the least sets of which something is true. -/
namespace Go.Proofs.YtpdhckbiioobhaaGreat
open Go.RowKit Go.Shelf

attribute [local go_sem] Oper.semAt_some

theorem infoInt : (Tryz.prog.info? 3).map (fun i => (i.zero, i.size, i.bytes)) = some (some (.int .i64 0), 1, 8) := by kernel_rfl
theorem Fr.putObj {a b : World} (h : Fr none a b) {D : Nat} (hD : a.heap.size ≤ D) (o : Obj) : Fr none a (b.putObj D o) :=
  h.own (grownBy_putObj' b D o) (fun g e => by injection e with e; omega)
/-- What the sets so far leave. -/
def fltS (p : Nat → Bool) (pre : List S10) : List Int := ((pre.map (·.1)).filter p).map Int.ofNat
theorem fltS_hit {p : Nat → Bool} (pre : List S10) {x : S10} (h : p x.1 = true) : fltS p (pre ++ [x]) = fltS p pre ++ [(x.1 : Int)] := by simp [fltS, h]
theorem fltS_miss {p : Nat → Bool} (pre : List S10) {x : S10} (h : p x.1 = false) : fltS p (pre ++ [x]) = fltS p pre := by simp [fltS, h]
theorem fltS_len (p : Nat → Bool) (pre : List S10) : (fltS p pre).length ≤ pre.length := by
  unfold fltS
  rw [List.length_map]
  exact Nat.le_trans (List.length_filter_le _ _) (by simp)
theorem fltS_all {p : Nat → Bool} {xs : List S10} (h : xs.map (·.1) = ordN) : fltS p xs = (ordN.filter p).map Int.ofNat := by unfold fltS; rw [h]

/-- What least leaves. -/
def LeastP (p : Nat → Bool) (w : World) (e : Ending) (w' : World) : Prop :=
  ∃ v, e = .returned v ∧ SlD w' (Dn w.heap.size w') 1 v ((leastS ((ordN.filter p).map Int.ofNat)).map (Value.int .i64)) ∧ Fr none w w'
set_option maxRecDepth 100000 in
set_option maxHeartbeats 2000000 in
theorem sleast_any (p : Nat → Bool) (k b : Nat) (w : World) (hrun : ∀ args w, Sem.run Tryz.prog (callFunc k args) w = .ok (.enter k args) w)
    (H : ∀ (s : Nat) (W : World), s < 1024 → Fr none w W → Calls Tryz.prog k #[.int .i64 (s : Int), .pointer (some ⟨b, 0, none⟩)] W fun e W' => e = .returned (.bool (p s)) ∧ Fr none W W') :
    Calls Tryz.prog 35 #[.func (.func k) #[] #[.pointer (some ⟨b, 0, none⟩)]] w (LeastP p w) := by
  obtain ⟨i0, hi, hz0, hz1, hz2⟩ := info_parts infoInt
  have HH := Lib.hid H
  clear H
  refine (callsIn_wide (n := 3)).1 ?_
  refine callsIn_of_wp_marks Tryz.func35 rfl trivial ?_ rfl
  simp only [Tryz.ntmps35, List.size_toArray, List.length_cons, List.length_nil, Nat.reduceAdd, Nat.reduceSub, Array.replicate_succ, Array.replicate_zero, List.push_toArray, List.append_toArray, List.nil_append, List.cons_append]
  gi_wp2
  have bI := Boxed.new w 51 (.func (.func k) #[] #[.pointer (some ⟨b, 0, none⟩)])
  have bO := Boxed.new (w.alloc (.cells #[.func (.func k) #[] #[.pointer (some ⟨b, 0, none⟩)]] 51)) 22 (.slice none 0 0)
  rw [World.size_alloc] at bO
  have hB0 : Below w.heap.size w ((w.alloc (.cells #[.func (.func k) #[] #[.pointer (some ⟨b, 0, none⟩)]] 51)).alloc (.cells #[.slice none 0 0] 22)) := ((Below.refl _ w).alloc (Nat.le_refl _) _).alloc (by simp) _
  refine wpIn_rangeFunc_ownG (encs := fun s : S10 => #[Value.int .i64 (s.1 : Int)]) (Kp := KeepsWalks) rfl (by omega) (gf := 70) (lb := #[]) rfl trivial (enters_of Tryz.func70 (by kernel_rfl) rfl)
    (inOrder_stops _) walksK_t walksK_b (Below.refl _ _) (fun _ => rfl)
    (fun pre W => (∃ v, Boxed W (w.heap.size + 1) 22 v ∧ W.ownsRow w.heap.size 3 1 v (fltS p pre).length ((fltS p pre).map (Value.int .i64)) ∧ True) ∧ Boxed W w.heap.size 51 (.func (.func k) #[] #[.pointer (some ⟨b, 0, none⟩)]) ∧ Below w.heap.size w W)
    (fun _ _ _ => False)
    (OwnFrom.and (Own.from (holdsRow_own w.heap.size (w.heap.size + 1) 22 3 1 (fun pre => (fltS p pre).length) (fun pre => (fltS p pre).map (Value.int .i64)) (fun _ _ => True)) _) (OwnFrom.and (Own.from (boxed_own w.heap.size 51 (fun _ => .func (.func k) #[] #[.pointer (some ⟨b, 0, none⟩)])) _) (ownFrom_below (Nat.le_refl _) (by simp; omega))))
    (fun _ _ _ _ _ hs _ _ => hs)
    ⟨⟨_, bO, World.ownsRow_nil _ _ _ _, trivial⟩, bI.alloc _, hB0⟩
    (fun x => { tmps := #[.func (.func k) #[] #[.pointer (some ⟨b, 0, none⟩)], .pointer (some ⟨w.heap.size, 0, none⟩), .slice none 0 0, .pointer (some ⟨w.heap.size + 1, 0, none⟩), .int .i64 (x.1 : Int), .int .i64 (x.1 : Int), undef, undef, undef, undef, undef, undef, undef, undef, undef], defers := [] }) ?assign ?body ?done ?stop
  case assign =>
    intro l x W K hK
    gi_wp2
    exact hK
  case body =>
    rintro l pre x W ⟨⟨v, hv, hrow, _⟩, hbI, hB⟩ hlt
    have hpl := fltS_len p pre
    have hcI := hbI.cell
    gi_wp2_with fail
    refine ⟨trivial, ?_⟩
    refine (CallsIn.inRound l (callsIn_wide.2 (HH.out x.1 W x.2 (Fr.of_below hB)))).mono ?_
    rintro e W2 ⟨rfl, F2⟩
    have K2 : KeepsOthers W W2 := KeepsOthers.of_grownBy F2 (fun j o ej hj => by cases ej)
    have hv2 := hv.kept F2 (by simp)
    have hr2 := own_fr hrow F2 (by simp)
    have hb2 := hbI.kept F2 (by simp)
    have B2 : Below w.heap.size W W2 := F2.below.mono hB.size
    have hB2 := hB.trans B2
    have hc2 := hv2.cell
    clear hcI hv hrow hbI
    cases hp : p x.1 with
    | true =>
      have HP := Lib.hid hp
      clear hp
      gi_wp2_with (gi_at_builtin; refine wpListIn_append_own _ rfl _ _ 22 rfl w.heap.size 3 i0 (.int .i64 0) 1 8 Tryz.underlying22 hi hz0 hz1 hz2 rfl (by decide) _ _ _ rfl (hr2.alloc _) ⟨W2.heap.size, 0, none⟩ 1 1 [.int .i64 (x.1 : Int)] rfl rfl (cell_one_new _ _ _) (by simp [Value.oneCell']) (by unfold maxLen; omega) (by omega) (by have := hB2.size; simp; omega) ?_; intro v' w1 hown' hgrow _; obtain ⟨g', cap', rfl⟩ := ownsRow_succ hown'; obtain ⟨hv3, hv4, hr4, hk4, hb4⟩ := hv2.appended (by decide) hr2 hB2.size (by omega) hown' hgrow; have hbx := ((hb2.alloc _).kept hgrow (hb2.alloc (.cells #[.int .i64 (x.1 : Int)] 3) |>.not_row (by decide) (hr2.alloc _))); have hc1 := hv3.cell; have hf1 := hv3.frozen)
      have hbs : Boxed (w1.setCell ⟨w.heap.size + 1, 0, none⟩ (.slice (some ⟨g', 0, none⟩) ((fltS p pre).length + 1) cap')) w.heap.size 51 (.func (.func k) #[] #[.pointer (some ⟨b, 0, none⟩)]) := hbx.kept (grownBy_setCell' _ _ _) (by simp)
      exact ⟨(K2.trans hk4).from _, (K2.trans hk4).walks, ⟨_, hv4, by rw [fltS_hit pre HP.out]; simpa using hr4, trivial⟩, hbs, hB2.trans hb4⟩
    | false =>
      have HP := Lib.hid hp
      clear hp
      gi_wp2
      exact ⟨K2.from _, K2.walks, ⟨v, hv2, by rw [fltS_miss pre HP.out]; exact hr2, trivial⟩, hb2, hB2⟩
  case done =>
    rintro D ys W hD hys ⟨⟨v, hv, hrow, _⟩, hbI, hB⟩ hK
    have hc := hv.cell
    have hyl : ys.length = 1024 := by
      have := congrArg List.length hys
      rwa [List.length_map, ordN_len] at this
    have hlen := fltS_len p ys
    have hsl : SlI W none v (fltS p ys) := SlI.of_own hrow (by simp) (fun n hn => by
      unfold fltS at hn
      rw [List.mem_map] at hn
      obtain ⟨m, hm, rfl⟩ := hn
      have h1 := (List.mem_filter.1 hm).1
      rw [List.mem_map] at h1
      obtain ⟨y, _, rfl⟩ := h1
      have := y.2
      constructor <;> simp <;> omega)
    have HYS := Lib.hid hys
    have HYL := Lib.hid hyl
    clear hys hyl hrow
    gi_wp2_with fail
    refine ⟨trivial, ?_⟩
    refine (callsIn_wide.2 (least_any (fltS p ys) v W hsl (by have := HYL.out; omega))).mono ?_
    rintro e W2 ⟨v', rfl, hD2, F2⟩
    have hK2 := (F2.block D (Array.getElem?_eq_some_iff.1 hK).1 (by simp)).trans hK
    have hzW := hB.size
    have hzD : w.heap.size ≤ D := by simp at hD; omega
    have hDW : D < W.heap.size := (Array.getElem?_eq_some_iff.1 hK).1
    gi_wp2
    refine ⟨by simp, .inl ⟨_, _, rfl, run_takeDeferred hK2, ?_⟩⟩
    refine ⟨_, results_tmp rfl _ _ _, v', rfl, ?_, ((Fr.of_below hB).pure F2).putObj hzD _⟩
    rw [← fltS_all HYS.out]
    refine hD2.keep fun q hq => ?_
    have hq1 := hq.1
    refine ⟨⟨by omega, ?_⟩, World.putObj_heap_other (by omega)⟩
    have hq2 := hq.2
    have := (grownBy_putObj' W2 D (.deferred none)).size
    omega
  case stop =>
    rintro D c pre W _ _ h _
    exact h.elim
end Go.Proofs.YtpdhckbiioobhaaGreat

/- Walks: slices.first: the first set of which something is true. -/
namespace Go.Proofs.YtpdhckbiioobhaaGreat
open Go.RowKit Go.Shelf

attribute [local go_sem] Oper.semAt_some

/-- The last of them is the first hit. -/
def HitP (p : Nat → Bool) (pre : List S10) : Prop := ∃ pr x, pre = pr ++ [x] ∧ (∀ s ∈ pr, p s.1 = false) ∧ p x.1 = true
def lastV (pre : List S10) : Value := .int .i64 (((pre.getLast?.map (·.1)).getD 0 : Nat) : Int)
def frsN (p : Nat → Bool) : Value := match ordN.find? p with
  | some s => .tuple #[.int .i64 (s : Int), .bool true]
  | none => .tuple #[.int .i64 0, .bool false]
def FirstP (p : Nat → Bool) (w : World) (e : Ending) (w' : World) : Prop := e = .returned (frsN p) ∧ Fr none w w'
set_option maxRecDepth 100000 in
set_option maxHeartbeats 2000000 in
theorem first_any (p : Nat → Bool) (k b b' : Nat) (w : World) (hrun : ∀ args w, Sem.run Tryz.prog (callFunc k args) w = .ok (.enter k args) w)
    (H : ∀ (s : Nat) (W : World), s < 1024 → Fr none w W → Calls Tryz.prog k #[.int .i64 (s : Int), .pointer (some ⟨b, 0, none⟩), .pointer (some ⟨b', 0, none⟩)] W fun e W' => e = .returned (.bool (p s)) ∧ Fr none W W') :
    Calls Tryz.prog 41 #[.func (.func k) #[] #[.pointer (some ⟨b, 0, none⟩), .pointer (some ⟨b', 0, none⟩)]] w (FirstP p w) := by
  have HH := Lib.hid H
  clear H
  refine (callsIn_wide (n := 3)).1 ?_
  refine callsIn_of_wp_marks Tryz.func41 rfl trivial ?_ rfl
  simp only [Tryz.ntmps41, List.size_toArray, List.length_cons, List.length_nil, Nat.reduceAdd, Nat.reduceSub, Array.replicate_succ, Array.replicate_zero, List.push_toArray, List.append_toArray, List.nil_append, List.cons_append]
  gi_wp2
  have bI := Boxed.new w 51 (.func (.func k) #[] #[.pointer (some ⟨b, 0, none⟩), .pointer (some ⟨b', 0, none⟩)])
  have bR := Boxed.new (w.alloc (.cells #[.func (.func k) #[] #[.pointer (some ⟨b, 0, none⟩), .pointer (some ⟨b', 0, none⟩)]] 51)) 3 (.int .i64 0)
  have bS := Boxed.new ((w.alloc (.cells #[.func (.func k) #[] #[.pointer (some ⟨b, 0, none⟩), .pointer (some ⟨b', 0, none⟩)]] 51)).alloc (.cells #[.int .i64 0] 3)) 4 (.bool false)
  rw [World.size_alloc] at bR
  rw [World.size_alloc, World.size_alloc] at bS
  have hB0 := (((Below.refl _ w).alloc (Nat.le_refl _) (.cells #[.func (.func k) #[] #[.pointer (some ⟨b, 0, none⟩), .pointer (some ⟨b', 0, none⟩)]] 51)).alloc (by simp) (.cells #[.int .i64 0] 3)).alloc (by simp; omega) (.cells #[.bool false] 4)
  refine wpIn_rangeFunc_ownG (encs := fun s : S10 => #[Value.int .i64 (s.1 : Int)]) (Kp := KeepsWalks) rfl (by omega) (gf := 70) (lb := #[]) rfl trivial (enters_of Tryz.func70 (by kernel_rfl) rfl)
    (inOrder_stops _) walksK_t walksK_b (Below.refl _ _) (fun _ => rfl)
    (fun pre W => (∀ s ∈ pre, p s.1 = false) ∧ Boxed W (w.heap.size + 1) 3 (.int .i64 0) ∧ Boxed W (w.heap.size + 1 + 1) 4 (.bool false) ∧ Boxed W w.heap.size 51 (.func (.func k) #[] #[.pointer (some ⟨b, 0, none⟩), .pointer (some ⟨b', 0, none⟩)]) ∧ Below w.heap.size w W)
    (fun c pre W => (c = .ret ∧ HitP p pre) ∧ Boxed W (w.heap.size + 1) 3 (lastV pre) ∧ Boxed W (w.heap.size + 1 + 1) 4 (.bool true) ∧ Below w.heap.size w W)
    (OwnFrom.and (fun _ _ _ _ hs _ _ => hs) (OwnFrom.and (Own.from (boxed_own (w.heap.size + 1) 3 (fun _ => .int .i64 0)) _) (OwnFrom.and (Own.from (boxed_own (w.heap.size + 1 + 1) 4 (fun _ => .bool false)) _) (OwnFrom.and (Own.from (boxed_own w.heap.size 51 (fun _ => .func (.func k) #[] #[.pointer (some ⟨b, 0, none⟩), .pointer (some ⟨b', 0, none⟩)])) _) (ownFrom_below (Nat.le_refl _) (by simp; omega))))))
    (fun c => OwnFrom.and (fun _ _ _ _ hs _ _ => hs) (OwnFrom.and (Own.from (boxed_own (w.heap.size + 1) 3 lastV) _) (OwnFrom.and (Own.from (boxed_own (w.heap.size + 1 + 1) 4 (fun _ => .bool true)) _) (ownFrom_below (Nat.le_refl _) (by simp; omega)))))
    ⟨by simp, bR.alloc _, bS, (bI.alloc _).alloc _, hB0⟩
    (fun x => { tmps := #[.func (.func k) #[] #[.pointer (some ⟨b, 0, none⟩), .pointer (some ⟨b', 0, none⟩)], .pointer (some ⟨w.heap.size, 0, none⟩), .pointer (some ⟨w.heap.size + 1, 0, none⟩), .pointer (some ⟨w.heap.size + 1 + 1, 0, none⟩), .int .i64 (x.1 : Int), .int .i64 (x.1 : Int), undef, undef, undef, undef], defers := [] }) ?assign ?body ?done ?stop
  case assign =>
    intro l x W K hK
    gi_wp2
    exact hK
  case body =>
    rintro l pre x W ⟨hpre, hR, hS, hbI, hB⟩ hlt
    have hcI := hbI.cell
    gi_wp2_with fail
    refine ⟨trivial, ?_⟩
    refine (CallsIn.inRound l (callsIn_wide.2 (HH.out x.1 W x.2 (Fr.of_below hB)))).mono ?_
    rintro e W2 ⟨rfl, F2⟩
    have K2 : KeepsOthers W W2 := KeepsOthers.of_grownBy F2 (fun j o ej hj => by cases ej)
    have hR2 := hR.kept F2 (by simp)
    have hS2 := hS.kept F2 (by simp)
    have hb2 := hbI.kept F2 (by simp)
    have B2 : Below w.heap.size W W2 := F2.below.mono hB.size
    have hB2 := hB.trans B2
    have hPRE := Lib.hid hpre
    clear hcI hbI hpre
    cases hp : p x.1 with
    | true =>
      have HP := Lib.hid hp
      have c1 := hR2.cell
      have f1 := hR2.frozen
      have c2 := hS2.cell
      have f2 := hS2.frozen
      clear hp
      gi_wp2
      have hR3 := hR2.set (.int .i64 (x.1 : Int))
      have hS3 := hS2.kept (grownBy_setCell' W2 (w.heap.size + 1) (.int .i64 (x.1 : Int))) (by simp)
      have hR4 := hR3.kept (grownBy_setCell' _ (w.heap.size + 1 + 1) (.bool true)) (by simp)
      have hS4 := hS3.set (.bool true)
      have K3 : KeepsOthers W2 (W2.setCell ⟨w.heap.size + 1, 0, none⟩ (.int .i64 (x.1 : Int))) := KeepsOthers.of_grownBy (grownBy_setCell' _ _ _) (fun j o ej hj => by cases ej; rw [show W2.heap[w.heap.size + 1]? = _ from hR2] at hj; cases hj; rfl)
      have K4 := KeepsOthers.of_grownBy (grownBy_setCell' (W2.setCell ⟨w.heap.size + 1, 0, none⟩ (.int .i64 (x.1 : Int))) (w.heap.size + 1 + 1) (.bool true)) (fun j o ej hj => by cases ej; rw [show (W2.setCell ⟨w.heap.size + 1, 0, none⟩ (.int .i64 (x.1 : Int))).heap[w.heap.size + 1 + 1]? = _ from hS3] at hj; cases hj; rfl)
      have F4 := ((Fr.of_below hB2).own (Fr.set1 W2 ⟨w.heap.size + 1, 0, none⟩ (.int .i64 (x.1 : Int))) (by simp)).own (Fr.set1 _ ⟨w.heap.size + 1 + 1, 0, none⟩ (.bool true)) (by simp; omega)
      exact ⟨(K2.trans (K3.trans K4)).from _, ⟨rfl, pre, x, rfl, hPRE.out, HP.out⟩, by simpa [lastV] using hR4, hS4, F4.below⟩
    | false =>
      have HP := Lib.hid hp
      clear hp
      gi_wp2
      refine ⟨K2.from _, K2.walks, fun s hs => ?_, hR2, hS2, hb2, hB2⟩
      rcases List.mem_append.1 hs with hs | hs
      · exact hPRE.out s hs
      · simp only [List.mem_singleton] at hs; subst hs; exact HP.out
  case done =>
    rintro D ys W hD hys ⟨hpre, hR, hS, hbI, hB⟩ hK
    have c1 := hR.cell
    have f1 := hR.frozen
    have c2 := hS.cell
    have f2 := hS.frozen
    have HPRE := Lib.hid hpre
    have HYS := Lib.hid hys
    clear hpre hys
    gi_wp2
    have hR3 := hR.set (.int .i64 0)
    have hS3 := hS.kept (grownBy_setCell' W (w.heap.size + 1) (.int .i64 0)) (by simp)
    have hR4 := hR3.kept (grownBy_setCell' _ (w.heap.size + 1 + 1) (.bool false)) (by simp)
    have hS4 := hS3.set (.bool false)
    have F4 := ((Fr.of_below hB).own (Fr.set1 W ⟨w.heap.size + 1, 0, none⟩ (.int .i64 0)) (by simp)).own (Fr.set1 _ ⟨w.heap.size + 1 + 1, 0, none⟩ (.bool false)) (by simp; omega)
    have hzD : w.heap.size + 2 < D := by simp at hD; omega
    have hDW : D < W.heap.size := (Array.getElem?_eq_some_iff.1 hK).1
    have G1 := Fr.set1 W ⟨w.heap.size + 1, 0, none⟩ (.int .i64 0)
    have G2 := Fr.set1 (W.setCell ⟨w.heap.size + 1, 0, none⟩ (.int .i64 0)) ⟨w.heap.size + 1 + 1, 0, none⟩ (.bool false)
    have hK4 := (G2.block D (by have := G1.size; omega) (by simp; omega)).trans ((G1.block D hDW (by simp; omega)).trans hK)
    generalize World.setCell (World.setCell W _ _) _ _ = W4 at *
    have q1 : (W4.putObj D (.deferred none)).cell? ⟨w.heap.size + 1, 0, none⟩ = some (.int .i64 0) := (World.cell?_of_block (World.putObj_heap_other (show w.heap.size + 1 ≠ D by omega))).trans hR4.cell
    have q2 : (W4.putObj D (.deferred none)).cell? ⟨w.heap.size + 1 + 1, 0, none⟩ = some (.bool false) := (World.cell?_of_block (World.putObj_heap_other (show w.heap.size + 1 + 1 ≠ D by omega))).trans hS4.cell
    have hf : frsN p = .tuple #[.int .i64 0, .bool false] := by
      unfold frsN
      have : ordN.find? p = none := by
        rw [← HYS.out, List.find?_eq_none]
        intro a ha
        rw [List.mem_map] at ha
        obtain ⟨y, hy, rfl⟩ := ha
        simp [HPRE.out y hy]
      rw [this]
    refine ⟨by simp, .inl ⟨_, _, rfl, run_takeDeferred hK4, ?_⟩⟩
    exact ⟨.tuple #[.int .i64 0, .bool false], by simp [results, Tryz.results41, go_sem, q1, q2], by rw [hf], F4.putObj (by omega) _⟩
  case stop =>
    rintro D c pre W hD hSp ⟨⟨rfl, hit⟩, hR, hS, hB⟩ hK
    have HSP := Lib.hid hSp
    clear hSp
    gi_wp2
    obtain ⟨pr, x, rfl, hpr, hx⟩ := hit
    obtain ⟨rest, hr⟩ := HSP.out
    have hlv : lastV (pr ++ [x]) = .int .i64 (x.1 : Int) := by simp [lastV]
    rw [hlv] at hR
    have hf : frsN p = .tuple #[.int .i64 (x.1 : Int), .bool true] := by
      unfold frsN
      have hn : (pr.map (·.1)).find? p = none := by
        rw [List.find?_eq_none]
        intro a ha
        rw [List.mem_map] at ha
        obtain ⟨y, hy, rfl⟩ := ha
        simp [hpr y hy]
      have : ordN.find? p = some x.1 := by
        rw [← hr, List.map_append, List.append_assoc, List.find?_append, hn]
        simp [hx]
      rw [this]
    have hzD : w.heap.size + 2 < D := by simp at hD; omega
    have q1 : (W.putObj D (.deferred none)).cell? ⟨w.heap.size + 1, 0, none⟩ = some (.int .i64 (x.1 : Int)) := (World.cell?_of_block (World.putObj_heap_other (show w.heap.size + 1 ≠ D by omega))).trans hR.cell
    have q2 : (W.putObj D (.deferred none)).cell? ⟨w.heap.size + 1 + 1, 0, none⟩ = some (.bool true) := (World.cell?_of_block (World.putObj_heap_other (show w.heap.size + 1 + 1 ≠ D by omega))).trans hS.cell
    refine ⟨by simp, .inl ⟨_, _, rfl, run_takeDeferred hK, ?_⟩⟩
    exact ⟨.tuple #[.int .i64 (x.1 : Int), .bool true], by simp [results, Tryz.results41, go_sem, q1, q2], by rw [hf], (Fr.of_below hB).putObj (by omega) _⟩
end Go.Proofs.YtpdhckbiioobhaaGreat

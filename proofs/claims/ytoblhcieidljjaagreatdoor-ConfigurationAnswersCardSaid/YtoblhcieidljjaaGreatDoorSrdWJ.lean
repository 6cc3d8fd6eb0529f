/- Some texts of this claim, joined. -/
import Derived.Test.YtoblhcieidljjaaGreatDoorProg
import Derived.Test.YtoblhcieidljjaaGreatDoorShelf
import Derived.Test.YtoblhcieidljjaaGreatDoorJG3
import Derived.Shelf.SlIterI.Sorted
import Derived.RangeFuncBox
import Derived.RangeFuncLeaves
import Derived.OwnWalkIn
import Derived.TacticsInMore
import Derived.LoopNIn
import Derived.LoopIn
import Derived.Sort.OwnSortedInts
import Derived.Shelf.Slices.In.SortNone

set_option linter.unusedSimpArgs false
set_option linter.unusedVariables false
/- Walks: slices.Sorted(slices.Values(p)) at ints: the library's iterator, over the kit's laws for a range over a function. -/
namespace Go.Proofs.YtoblhcieidljjaaGreatDoor
open Go.RowKit Go.Shelf Go.Maps Go.Sort

attribute [local go_sem] Oper.semAt_some

def seqRen : Ren := ⟨fun | 11 => 181 | n => n, fun | 0 => 0 | 24 => 22 | 26 => 3 | 28 => 121 | 33 => 124 | n => n, fun n => n⟩
theorem laysSeq : SlLaysZI.n11 Tryz.prog seqRen := {
  mixed := by kernel_rfl
  f11 := ⟨Tryz.f181.name, by decide, Tryz.func181.trans (congrArg some (by kernel_rfl))⟩
  t0 := Tryz.underlying0
  a0 := Tryz.isAgg0
  z0 := Tryz.sizeOf0
  v0 := Tryz.zeroValue0
  t24 := Tryz.underlying22
  a24 := Tryz.isAgg22
  z24 := Tryz.sizeOf22
  v24 := Tryz.zeroValue22
  t26 := Tryz.underlying3
  a26 := Tryz.isAgg3
  z26 := Tryz.sizeOf3
  v26 := Tryz.zeroValue3
  t28 := Tryz.underlying121
  a28 := Tryz.isAgg121
  z28 := Tryz.sizeOf121
  v28 := Tryz.zeroValue121
  i26 := by kernel_rfl }

/-- What has come when k rounds are over. -/
def uptoI (zs : List Int) (k : Nat) : List Int := zs.take k
theorem uptoI_succ (zs : List Int) (k : Nat) (hk : k < zs.length) : uptoI zs (k + 1) = uptoI zs k ++ [zs.getD k 0] := by
  unfold uptoI
  rw [List.take_succ_eq_append_getElem hk]
  simp [hk]

set_option maxRecDepth 100000 in
set_option maxHeartbeats 2000000 in
/-- slices.Values's closure, at a caller's invariant that keeps the slice's cells. -/
theorem vals1_in (n : Nat) (hn : 1 ≤ n) (l Bs b off cap : Nat) (zs : List Int) (hreach : zs.length * 8 ≤ 140737488351232) (J : List Int → World → Prop)
    (hJ : ∀ ss W, J ss W → ∀ j, j < zs.length → W.cell? ⟨b, off + j, none⟩ = some (.int .i64 (zs.getD j 0)))
    (hY : ∀ pre x W, J pre W → pre.length < zs.length → YieldAt Fence.wide (n - 1) Tryz.prog l #[.int .i64 x] W fun e W' => e = .returned (.bool true) ∧ J (pre ++ [x]) W')
    (W : World) (hBs : W.cell? ⟨Bs, 0, none⟩ = some (.slice (some ⟨b, off, none⟩) zs.length cap)) (h0 : J [] W) :
    CallsIn Fence.wide n Tryz.prog 144 #[.func (.yield l) #[] #[], .pointer (some ⟨Bs, 0, none⟩)] W fun e W' => (∃ v, e = .returned v) ∧ J zs W' := by
  refine callsIn_of_wp Tryz.func144 rfl trivial ?_ rfl
  simp only [Tryz.ntmps144, List.size_toArray, List.length_cons, List.length_nil, Nat.reduceAdd, Nat.reduceSub, Array.replicate_succ, Array.replicate_zero, List.push_toArray, List.append_toArray, List.nil_append, List.cons_append]
  gi_wp2
  gi_loopw [4, 7] (fun _ i wr => ∃ k : Nat, k ≤ zs.length ∧ i = .int .i64 k ∧ J (uptoI zs k) wr)
    (fun _ i _ => zs.length - (intOf i).toNat)
  case atStart => exact ⟨0, Nat.zero_le _, rfl, by simpa [uptoI] using h0⟩
  case round =>
    obtain ⟨k, hk, rfl, hJs⟩ := hrel
    by_cases hlt : k < zs.length
    · obtain ⟨fn, tmps, assign, body, hy, hR⟩ := hY _ (zs.getD k 0) wr hJs (by simp [uptoI]; omega)
      have hcx' := hJ _ _ hJs k hlt
      have hup := uptoI_succ zs k hlt
      have HUP := Lib.hid hup
      clear hup
      generalize zs.getD k 0 = xk at *
      gi_wp2
      refine hR.mono ?_
      rintro e W3 ⟨rfl, hJ3⟩
      gi_wp2
      go_roundw
      case rel => exact ⟨k + 1, by omega, by simp, by rw [HUP.out]; exact hJ3⟩
      case measure => simp [intOf]; omega
    · obtain rfl : k = zs.length := by omega
      gi_wp2
      go_end0
      exact ⟨⟨_, rfl⟩, by simpa [uptoI] using hJs⟩

set_option maxRecDepth 100000 in
set_option maxHeartbeats 1000000 in
theorem vals1_nil_in (n : Nat) (l Bs : Nat) (A0 : Option Addr) (c0 : Nat) (J : List Int → World → Prop) (W : World) (hBs : W.cell? ⟨Bs, 0, none⟩ = some (.slice A0 0 c0)) (h0 : J [] W) :
    CallsIn Fence.wide n Tryz.prog 144 #[.func (.yield l) #[] #[], .pointer (some ⟨Bs, 0, none⟩)] W fun e W' => (∃ v, e = .returned v) ∧ J [] W' := by
  refine callsIn_of_wp Tryz.func144 rfl trivial ?_ rfl
  simp only [Tryz.ntmps144, List.size_toArray, List.length_cons, List.length_nil, Nat.reduceAdd, Nat.reduceSub, Array.replicate_succ, Array.replicate_zero, List.push_toArray, List.append_toArray, List.nil_append, List.cons_append]
  gi_wp2
  gi_loopw [7] (fun i wr => i = .int .i64 0 ∧ J [] wr) (fun _ _ => 0)
  case atStart => exact ⟨rfl, h0⟩
  case round =>
    obtain ⟨rfl, hJs⟩ := hrel
    gi_wp2
    go_end0
    exact ⟨⟨_, rfl⟩, hJs⟩

set_option maxRecDepth 100000 in
set_option maxHeartbeats 2000000 in
/-- slices.AppendSeq(nil, slices.Values(s)). -/
theorem appendVals_in (n : Nat) (hn : 2 ≤ n) (Bq : Nat) (zs : List Int) (sv : Value) (hN : zs.length * 8 ≤ 140737488351232) (w : World) (hBq : w.cell? ⟨Bq, 0, none⟩ = some sv) (hI : (∃ A0 c0, sv = .slice A0 0 c0 ∧ zs = []) ∨ ∃ b off cap, sv = .slice (some ⟨b, off, none⟩) zs.length cap ∧ b < w.heap.size ∧ ∀ j, j < zs.length → w.cell? ⟨b, off + j, none⟩ = some (.int .i64 (zs.getD j 0))) :
    CallsIn Fence.wide n Tryz.prog 181 #[.slice none 0 0, .func (.func 144) #[] #[.pointer (some ⟨Bq, 0, none⟩)]] w fun e w' => ∃ v : Value, e = .returned v ∧ w'.ownsRow w.heap.size 3 1 v zs.length (zs.map (Value.int .i64)) ∧ Below w.heap.size w w' := by
  have h1 : 1 ≤ n := by omega
  have hne : 22 ≠ 3 := by decide
  have hBl : Bq < w.heap.size := World.block_lt_of_cell? w _ hBq
  refine callsIn_of_wp_marks Tryz.func181 rfl trivial ?_ rfl
  simp only [Tryz.ntmps181, List.size_toArray, List.length_cons, List.length_nil, Nat.reduceAdd, Nat.reduceSub, Array.replicate_succ, Array.replicate_zero, List.push_toArray, List.append_toArray, List.nil_append, List.cons_append]
  gi_wp2
  refine wpIn_rangeFunc ?_
  intro fn hfn
  rw [show Fence.wide.round = none from rfl]
  obtain ⟨W0, hW0⟩ : ∃ W0, w.alloc (.cells #[.slice none 0 0] 22) = W0 := ⟨_, rfl⟩
  have hs0 : W0.heap.size = w.heap.size + 1 := by rw [← hW0]; simp
  have hv0 : W0.heap[w.heap.size]? = some (.cells #[.slice none 0 0] 22 (0, 0)) := by rw [← hW0]; exact World.alloc_heap_new w _
  have hb0 : Below w.heap.size w W0 := by rw [← hW0]; exact (Below.refl _ w).alloc (Nat.le_refl _) _
  rw [hW0]
  obtain ⟨sq, hsq⟩ : ∃ sq, sq = Value.func (.func 144) #[] #[.pointer (some ⟨Bq, 0, none⟩)] := ⟨_, rfl⟩
  obtain ⟨W1, hW1⟩ : ∃ W1, (W0.alloc (.deferred (some []))).alloc (.loop (AnyZI.apRec seqRen fn sq w.heap.size W0.heap.size .ready none)) = W1 := ⟨_, rfl⟩
  have hold : ∀ k, k < W0.heap.size → W1.heap[k]? = W0.heap[k]? := fun k hk => by
    rw [← hW1]; exact (Below.heap_alloc _ _ k (by simp; omega)).trans (Below.heap_alloc _ _ k hk)
  have hb1 : Below w.heap.size w W1 := by rw [← hW1]; exact (hb0.alloc hb0.size _).alloc (by have := hb0.size; simp; omega) _
  have hs1 : W1.heap.size = W0.heap.size + 2 := by rw [← hW1]; simp
  have hM : AnyZI.ApAt seqRen w fn sq w.heap.size (W0.heap.size + 1) W0.heap.size [] W1 :=
    ⟨⟨_, (hold w.heap.size (by omega)).trans hv0, ⟨rfl, .inl ⟨rfl, rfl⟩⟩, by simp⟩,
     by rw [← hW1]; have := World.alloc_heap_new (W0.alloc (.deferred (some []))) (.loop (AnyZI.apRec seqRen fn sq w.heap.size W0.heap.size .ready none)); rwa [World.size_alloc] at this,
     by rw [← hW1]; exact (Below.heap_alloc _ _ _ (by simp)).trans (World.alloc_heap_new W0 _), hb1⟩
  refine ⟨W0.heap.size + 1, [{ target := .collected W0.heap.size, args := #[] }], W1, { target := .fn (.func 144) #[.pointer (some ⟨Bq, 0, none⟩)], args := #[.func (.yield (W0.heap.size + 1)) #[] #[]] }, W1, 144,
    #[.func (.yield (W0.heap.size + 1)) #[] #[]] ++ #[.pointer (some ⟨Bq, 0, none⟩)], W1, ?_, ?_, ?_, ?_, fun _ => h1, ?_⟩
  · rw [← hW1, hsq]; exact run_enterLoop_outer _ _ _ _ _
  · simp [resolve, go_sem]
  · intro f' hf'; trivial
  · simp [invoke, go_sem]
  · have hcellJ : ∀ b off, b < w.heap.size → (∀ j, j < zs.length → w.cell? ⟨b, off + j, none⟩ = some (.int .i64 (zs.getD j 0))) → ∀ ss W, AnyZI.ApAt seqRen w fn sq w.heap.size (W0.heap.size + 1) W0.heap.size ss W → ∀ j, j < zs.length → W.cell? ⟨b, off + j, none⟩ = some (.int .i64 (zs.getD j 0)) :=
      fun b off hb hc ss W hJ j hj => (hJ.below.cell (p := ⟨b, off + j, none⟩) hb).trans (hc j hj)
    have hc1 := (hb1.cell (p := ⟨Bq, 0, none⟩) hBl).trans hBq
    have hrun : CallsIn Fence.wide (n - 1) Tryz.prog 144 #[.func (.yield (W0.heap.size + 1)) #[] #[], .pointer (some ⟨Bq, 0, none⟩)] W1 fun e W' => (∃ v, e = .returned v) ∧ AnyZI.ApAt seqRen w fn sq w.heap.size (W0.heap.size + 1) W0.heap.size zs W' := by
      rcases hI with ⟨A0, c0, rfl, rfl⟩ | ⟨b, off, cap, rfl, hb, hcs⟩
      · exact vals1_nil_in (n - 1) (W0.heap.size + 1) Bq A0 c0 _ W1 hc1 hM
      · exact vals1_in (n - 1) (by omega) (W0.heap.size + 1) Bq b off cap zs hN _ (hcellJ b off hb hcs)
          (fun pre x W hJ hl => by
            obtain ⟨fn', tmps, assign, body, hy, hR⟩ := AnyZI.apYield laysSeq Fence.wide (n - 1 - 1) w fn trivial sq w.heap.size (W0.heap.size + 1) W0.heap.size (by omega) (by omega) (by omega) (Nat.le_refl _) (by omega) zs.length (by unfold maxLen; omega) (by omega) pre x W hJ hl
            exact ⟨fn', tmps, assign, body, hy, hR.mono fun e W' h => ⟨h.1, h.2.1⟩⟩) W1 hc1 hM
    refine hrun.mono ?_
    rintro e W2 ⟨⟨v0, rfl⟩, h2⟩
    obtain ⟨v, hv, hrow, hnil⟩ := h2.box
    have hend := run_endLoop (P := Tryz.prog) h2.L (by simp [AnyZI.apRec])
    obtain ⟨W3, hW3⟩ : ∃ W3, W2.putObj (W0.heap.size + 1) (.loop { AnyZI.apRec seqRen fn sq w.heap.size W0.heap.size .ready none with state := .exhausted }) = W3 := ⟨_, rfl⟩
    rw [hW3] at hend
    have hg3 : W2.grownBy W3 (some (W0.heap.size + 1)) := by rw [← hW3]; exact grownBy_putObj_a _ _ _
    have hv3 : W3.heap[w.heap.size]? = some (.cells #[v] 22 (0, 0)) := by rw [← hW3]; exact (World.putObj_heap_other (by omega)).trans hv
    have hK3 : W3.heap[W0.heap.size]? = some (.deferred (some [])) := by rw [← hW3]; exact (World.putObj_heap_other (by omega)).trans h2.K
    have hrow3 := hrow.kept hg3 (ownsRow_ne_a hrow h2.L (fun cur e => by first | cases e | exact hne (Obj.cells.inj e).2.1))
    have hb3 : Below w.heap.size w W3 := h2.below.grown hg3 h2.below.size (fun k e => by cases e; omega)
    obtain ⟨hc3, hf3⟩ := cell_of_box_a hv3
    clear hW3
    refine ⟨none, W3, hend, ?_⟩
    gi_wp2
    rw [← hs0]
    refine ⟨by simp, .inl ⟨_, _, rfl, run_takeDeferred hK3, ?_⟩⟩
    exact ⟨_, results_tmp rfl _ _ _, v, rfl, hrow3.kept (grownBy_putObj_a _ _ _) (ownsRow_ne_a hrow3 hK3 (fun cur e => by first | cases e | exact hne (Obj.cells.inj e).2.1)), hb3.grown (grownBy_putObj_a _ _ _) hb3.size (fun k e => by cases e; omega)⟩
end Go.Proofs.YtoblhcieidljjaaGreatDoor

/- Walks: slices.Sorted(slices.Values(p)) at ints. -/
namespace Go.Proofs.YtoblhcieidljjaaGreatDoor
open Go.RowKit Go.Sort

theorem own_parts {w : World} {base : Nat} {e : TypeId} {size : Nat} {v : Value} {n : Nat} {xs : List Value} (h : w.ownsRow base e size v n xs) :
    (v = .slice none 0 0 ∧ n = 0) ∨ ∃ g cap cur, v = .slice (some ⟨g, 0, none⟩) n cap ∧ base ≤ g ∧ w.heap[g]? = some (.cells cur e (0, 0)) ∧ n ≤ cap ∧ cap ≤ maxLen ∧ cur.size = cap * size ∧ cur.toList.take (n * size) = xs := h.2
theorem collect_any (Bq : Nat) (zs : List Int) (sv : Value) (hN : zs.length * 8 ≤ 140737488351232) (w : World) (hBq : w.cell? ⟨Bq, 0, none⟩ = some sv) (hI : (∃ A0 c0, sv = .slice A0 0 c0 ∧ zs = []) ∨ ∃ b off cap, sv = .slice (some ⟨b, off, none⟩) zs.length cap ∧ b < w.heap.size ∧ ∀ j, j < zs.length → w.cell? ⟨b, off + j, none⟩ = some (.int .i64 (zs.getD j 0))) :
    Calls Tryz.prog 142 #[.func (.func 144) #[] #[.pointer (some ⟨Bq, 0, none⟩)]] w fun e w' => ∃ v : Value, e = .returned v ∧ w'.ownsRow w.heap.size 3 1 v zs.length (zs.map (Value.int .i64)) ∧ Fr none w w' := by
  go_enter Tryz.func142, Tryz.ntmps142
  go_wp2_with (go_at_call 181; refine (callsIn_wide.1 (appendVals_in 2 (by omega) Bq zs sv hN w hBq hI)).mono ?_; rintro e w' ⟨v, rfl, own, F⟩)
  go_ret
  exact ⟨v, rfl, own, Fr.of_below F⟩
/-- What Sorted leaves. -/
def SrdE (zs : List Int) (w : World) (e : Ending) (w' : World) : Prop :=
  ∃ (v : Value) (z : List Int), e = .returned v ∧ z.Perm zs ∧ z.Pairwise (· ≤ ·) ∧ SlD w' (Dn w.heap.size w') 1 v (z.map (Value.int .i64)) ∧ Fr none w w'
theorem merge_asc (zs : List Int) : (zs.mergeSort fun x y => decide (x ≤ y)).Pairwise (· ≤ ·) := by
  have := List.pairwise_mergeSort (le := fun x y : Int => decide (x ≤ y)) (fun a b c h1 h2 => by simp at *; omega) (fun a b => by simp; omega) zs
  exact this.imp (fun h => by simpa using h)
set_option maxRecDepth 100000 in
theorem sorted_any (Bq : Nat) (zs : List Int) (sv : Value) (hN : zs.length ≤ 1000000) (w : World) (hBq : w.cell? ⟨Bq, 0, none⟩ = some sv) (hs : SlI w none sv zs) :
    Calls Tryz.prog 94 #[.func (.func 144) #[] #[.pointer (some ⟨Bq, 0, none⟩)]] w (SrdE zs w) := by
  have hI : (∃ A0 c0, sv = .slice A0 0 c0 ∧ zs = []) ∨ ∃ b off cap, sv = .slice (some ⟨b, off, none⟩) zs.length cap ∧ b < w.heap.size ∧ ∀ j, j < zs.length → w.cell? ⟨b, off + j, none⟩ = some (.int .i64 (zs.getD j 0)) := by
    obtain ⟨A, c, rfl, _, _, hc⟩ := hs.open_
    rcases Nat.eq_zero_or_pos zs.length with h0 | h0
    · left; rw [h0]; exact ⟨A, c, rfl, List.eq_nil_of_length_eq_zero h0⟩
    · obtain ⟨b, off, rfl, hb, _, hcc⟩ := hc h0
      right; exact ⟨b, off, c, rfl, hb, fun j hj => by rw [hcc j hj]; simp [hj]⟩
  go_enter Tryz.func94, Tryz.ntmps94
  go_wp2_with (go_at_call 142; refine (collect_any Bq zs sv (by omega) w hBq hI).mono ?_; rintro e w1 ⟨v, rfl, own, F⟩)
  obtain ⟨z, hz⟩ : ∃ z, z = zs.mergeSort (fun x y => decide (x ≤ y)) := ⟨_, rfl⟩
  have hzp : z.Perm zs := by rw [hz]; exact List.mergeSort_perm zs _
  have hza : z.Pairwise (· ≤ ·) := by rw [hz]; exact merge_asc zs
  have hsl : z.length = zs.length := hzp.length_eq
  have HZ := Lib.hid hz
  have HP := Lib.hid hzp
  have HA := Lib.hid hza
  clear hz hzp hza
  rcases own_parts own with ⟨rfl, h0⟩ | ⟨g, cap, cur, rfl, hbg, hh, hnc, hm, hs', hk⟩
  · have hz0 : z = [] := List.eq_nil_of_length_eq_zero (by omega)
    have hd := own
    clear own
    go_wp2_with (go_at_call 143; refine (Tryz.slices_Sort_int_none none 0 _).mono ?_; rintro e w2 ⟨rfl, rfl⟩)
    go_ret
    exact ⟨_, z, rfl, HP.out, HA.out, by rw [hz0]; exact SlD.nil _ _ _, F⟩
  · have hg : g < w1.heap.size := blk_lt hh
    have hH : Holds (Value.int .i64) w1 g 0 zs.toArray := holds_of_blockI hh (by simpa using hk)
    go_wp2_with (go_at_call 143; refine (Tryz.slices_Sort_int g 0 cap zs w1 hH hg (by omega)).mono ?_; rintro e w2 ⟨rfl, q, os, rfl⟩; rw [← HZ.out])
    have F2 := grownBy_sortedI (w := w1) (g := g) (n := q) (os := os) z.toArray
    have hH' : Holds (Value.int .i64) (grow (putRow (Value.int .i64) (Sort.ahead w1 q) g 0 z.toArray) os) g 0 z.toArray :=
      Sort.holds_grow (Value.int .i64) _ os g 0 z.toArray (by simpa [putRow, mapBlock, Sort.ahead] using hg) (Sort.holds_putRow (Value.int .i64) (Sort.ahead w1 q) g 0 zs.toArray z.toArray (Sort.holds_ahead (Value.int .i64) w1 q g 0 zs.toArray hH) (by simpa using hsl))
    generalize grow _ os = w2 at *
    go_ret
    have hz2 := F2.size
    refine ⟨_, z, rfl, HP.out, HA.out, ⟨_, zs.length, cap, rfl, by rw [List.length_map, hsl, Nat.mul_one], hnc, hm, fun _ => ⟨g, 0, rfl, ⟨hbg, by omega⟩, fun j u hu => ?_⟩⟩, F.own F2 (fun b hb => by injection hb with hb; omega)⟩
    have hj := (List.getElem?_eq_some_iff.1 hu).1
    rw [List.length_map] at hj
    rw [(hH' j (by simpa using hj)).1, ← hu]
    simp [hj]
end Go.Proofs.YtoblhcieidljjaaGreatDoor

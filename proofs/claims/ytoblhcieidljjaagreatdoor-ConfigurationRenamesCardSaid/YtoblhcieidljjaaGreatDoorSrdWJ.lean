/- Walks: slices.Sorted(slices.Values(p)) at ints. -/
import Derived.Test.YtoblhcieidljjaaGreatDoorSeqWJ
import Derived.Sort.OwnSortedInts
import Derived.Shelf.Slices.In.SortNone
set_option linter.unusedSimpArgs false
set_option linter.unusedVariables false
namespace Go.Proofs.YtoblhcieidljjaaGreatDoor
open Go.RowKit Go.Sort

theorem own_parts {w : World} {base : Nat} {e : TypeId} {size : Nat} {v : Value} {n : Nat} {xs : List Value} (h : w.ownsRow base e size v n xs) :
    (v = .slice none 0 0 ∧ n = 0) ∨ ∃ g cap cur, v = .slice (some ⟨g, 0, none⟩) n cap ∧ base ≤ g ∧ w.heap[g]? = some (.cells cur e (0, 0)) ∧ n ≤ cap ∧ cap ≤ maxLen ∧ cur.size = cap * size ∧ cur.toList.take (n * size) = xs := h.2
theorem collect_any (Bq : Nat) (zs : List Int) (sv : Value) (hN : zs.length * 8 ≤ 140737488351232) (w : World) (hBq : w.cell? ⟨Bq, 0, none⟩ = some sv) (hI : (∃ A0 c0, sv = .slice A0 0 c0 ∧ zs = []) ∨ ∃ b off cap, sv = .slice (some ⟨b, off, none⟩) zs.length cap ∧ b < w.heap.size ∧ ∀ j, j < zs.length → w.cell? ⟨b, off + j, none⟩ = some (.int .i64 (zs.getD j 0))) :
    Calls Tryz.prog 142 #[.func (.func 144) #[] #[.pointer (some ⟨Bq, 0, none⟩)]] w fun e w' => ∃ v : Value, e = .returned v ∧ w'.ownsRow w.heap.size 3 1 v zs.length (zs.map (Value.int .i64)) ∧ Fr none w w' := by
  go_enter Tryz.func142, Tryz.ntmps142
  go_wp2_with (go_at_call 181; refine (callsIn_wide.1 (appendVals_in 2 (by omega) Bq zs sv hN w hBq hI)).mono ?_; rintro e w' ⟨v, rfl, own, F⟩)
  go_ret
  exact ⟨v, rfl, own, Fr.of_below F⟩
/-- What Sorted leaves. -/
def SrdE (zs : List Int) (w : World) (e : Ending) (w' : World) : Prop :=
  ∃ (v : Value) (z : List Int), e = .returned v ∧ z.Perm zs ∧ z.Pairwise (· ≤ ·) ∧ SlD w' (Dn w.heap.size w') 1 v (z.map (Value.int .i64)) ∧ Fr none w w'
theorem merge_asc (zs : List Int) : (zs.mergeSort fun x y => decide (x ≤ y)).Pairwise (· ≤ ·) := by
  have := List.pairwise_mergeSort (le := fun x y : Int => decide (x ≤ y)) (fun a b c h1 h2 => by simp at *; omega) (fun a b => by simp; omega) zs
  exact this.imp (fun h => by simpa using h)
set_option maxRecDepth 100000 in
theorem sorted_any (Bq : Nat) (zs : List Int) (sv : Value) (hN : zs.length ≤ 1000000) (w : World) (hBq : w.cell? ⟨Bq, 0, none⟩ = some sv) (hs : SlI w none sv zs) :
    Calls Tryz.prog 94 #[.func (.func 144) #[] #[.pointer (some ⟨Bq, 0, none⟩)]] w (SrdE zs w) := by
  have hI : (∃ A0 c0, sv = .slice A0 0 c0 ∧ zs = []) ∨ ∃ b off cap, sv = .slice (some ⟨b, off, none⟩) zs.length cap ∧ b < w.heap.size ∧ ∀ j, j < zs.length → w.cell? ⟨b, off + j, none⟩ = some (.int .i64 (zs.getD j 0)) := by
    obtain ⟨A, c, rfl, _, _, hc⟩ := hs.open_
    rcases Nat.eq_zero_or_pos zs.length with h0 | h0
    · left; rw [h0]; exact ⟨A, c, rfl, List.eq_nil_of_length_eq_zero h0⟩
    · obtain ⟨b, off, rfl, hb, _, hcc⟩ := hc h0
      right; exact ⟨b, off, c, rfl, hb, fun j hj => by rw [hcc j hj]; simp [hj]⟩
  go_enter Tryz.func94, Tryz.ntmps94
  go_wp2_with (go_at_call 142; refine (collect_any Bq zs sv (by omega) w hBq hI).mono ?_; rintro e w1 ⟨v, rfl, own, F⟩)
  obtain ⟨z, hz⟩ : ∃ z, z = zs.mergeSort (fun x y => decide (x ≤ y)) := ⟨_, rfl⟩
  have hzp : z.Perm zs := by rw [hz]; exact List.mergeSort_perm zs _
  have hza : z.Pairwise (· ≤ ·) := by rw [hz]; exact merge_asc zs
  have hsl : z.length = zs.length := hzp.length_eq
  have HZ := Lib.hid hz
  have HP := Lib.hid hzp
  have HA := Lib.hid hza
  clear hz hzp hza
  rcases own_parts own with ⟨rfl, h0⟩ | ⟨g, cap, cur, rfl, hbg, hh, hnc, hm, hs', hk⟩
  · have hz0 : z = [] := List.eq_nil_of_length_eq_zero (by omega)
    have hd := own
    clear own
    go_wp2_with (go_at_call 143; refine (Tryz.slices_Sort_int_none none 0 _).mono ?_; rintro e w2 ⟨rfl, rfl⟩)
    go_ret
    exact ⟨_, z, rfl, HP.out, HA.out, by rw [hz0]; exact SlD.nil _ _ _, F⟩
  · have hg : g < w1.heap.size := blk_lt hh
    have hH : Holds (Value.int .i64) w1 g 0 zs.toArray := holds_of_blockI hh (by simpa using hk)
    go_wp2_with (go_at_call 143; refine (Tryz.slices_Sort_int g 0 cap zs w1 hH hg (by omega)).mono ?_; rintro e w2 ⟨rfl, q, os, rfl⟩; rw [← HZ.out])
    have F2 := grownBy_sortedI (w := w1) (g := g) (n := q) (os := os) z.toArray
    have hH' : Holds (Value.int .i64) (grow (putRow (Value.int .i64) (Sort.ahead w1 q) g 0 z.toArray) os) g 0 z.toArray :=
      Sort.holds_grow (Value.int .i64) _ os g 0 z.toArray (by simpa [putRow, mapBlock, Sort.ahead] using hg) (Sort.holds_putRow (Value.int .i64) (Sort.ahead w1 q) g 0 zs.toArray z.toArray (Sort.holds_ahead (Value.int .i64) w1 q g 0 zs.toArray hH) (by simpa using hsl))
    generalize grow _ os = w2 at *
    go_ret
    have hz2 := F2.size
    refine ⟨_, z, rfl, HP.out, HA.out, ⟨_, zs.length, cap, rfl, by rw [List.length_map, hsl, Nat.mul_one], hnc, hm, fun _ => ⟨g, 0, rfl, ⟨hbg, by omega⟩, fun j u hu => ?_⟩⟩, F.own F2 (fun b hb => by injection hb with hb; omega)⟩
    have hj := (List.getElem?_eq_some_iff.1 hu).1
    rw [List.length_map] at hj
    rw [(hH' j (by simpa using hj)).1, ← hu]
    simp [hj]
end Go.Proofs.YtoblhcieidljjaaGreatDoor

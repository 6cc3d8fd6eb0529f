/- Some texts of this claim, joined: contracts of the functions that it reaches, and plain laws. -/
import Derived.Test.YtkpgnhdmlikopaaGreatDoorProg
import Derived.Test.YtkpgnhdmlikopaaGreatDoorJA13
import Derived.Deep.SlicePairs
import Derived.Deep.Slices
import Derived.ChangeArms
import Derived.Lib.LaidU8

set_option linter.unusedSimpArgs false
set_option linter.unusedVariables false
/- Claims, and lists of claims, that come in read as ones. -/
namespace Go.Proofs.YtkpgnhdmlikopaaGreatDoor
open Go.RowKit Go.ChangeShapes Go.WideShapes

theorem wf_wi {n : Int} (h : (Lit.int .i64 n).wf = true) : Wi n := i64_bd h
set_option maxRecDepth 100000 in
theorem openClms {H : Type} {enc : TypeId × Value → H} {W : World} {b : Nat} {sp : Nat → Bool} {hd : Bool} {v : Value} {d : DataW H} {p : List MemPlace} {r : Reach} {b0 : Nat} (hv : Value.okWide Tryz.prog W r b0 25 v) (h : DataW.Trod enc Tryz.prog W b sp hd 25 v d p) (hlt : ∀ x ∈ p, x.block < W.heap.size) :
    ∃ l, SlC W none v l := by
  obtain ⟨a0, len0, cap0, rfl⟩ := okWide_slice Tryz.underlying25 hv
  obtain ⟨fuel, hf⟩ := h
  rcases Deep.open_slice_pairs Tryz.underlying25 Tryz.underlying24 (by kernel_rfl) rfl rfl (by kernel_rfl) (by kernel_rfl) hf with ⟨hcs, _⟩ | ⟨a, len, cap, m, n, V0, V1, D0, D1, P0, P1, hcs, _, hl, hm, hmm, hx, hcell⟩
  · simp [Value.cells] at hcs
    obtain ⟨rfl, rfl, rfl⟩ := hcs
    exact ⟨[], SlC.nil _ _⟩
  · simp [Value.cells] at hcs
    obtain ⟨rfl, rfl, rfl⟩ := hcs
    have hlm : len0 ≤ m := by rw [hmm]; split <;> omega
    have each : ∀ i, ∃ c : Cl, i < m → (W.cell? (a.add (i * 2)) = some (.int .i64 c.1) ∧ W.cell? (a.add (i * 2 + 1)) = some (.int .i64 c.2) ∧ Wc c) := by
      intro i
      by_cases hi : i < m
      · obtain ⟨h0, h1, t0, t1⟩ := hcell i hi
        obtain ⟨z0, e0, _, w0⟩ := DataW.trod_int Tryz.underlying3 t0
        obtain ⟨z1, e1, _, w1⟩ := DataW.trod_int Tryz.underlying3 t1
        simp at e0 e1
        exact ⟨(z0, z1), fun _ => ⟨by rw [h0, e0], by rw [h1, e1], wf_wi w0, wf_wi w1⟩⟩
      · exact ⟨(0, 0), fun h => absurd h hi⟩
    obtain ⟨q, hq⟩ := Classical.axiomOfChoice each
    refine ⟨(List.range len0).map q, ⟨some a, len0, cap0, rfl, by rw [flC_len]; simp, hl, hm, fun hn => ?_⟩, fun c hc => ?_⟩
    · obtain ⟨bb, off, spot⟩ := a
      have h00 := (hq 0 (by omega)).1
      have hspot : spot = none := by simpa [Addr.add] using World.cell?_spot h00
      subst hspot
      refine ⟨bb, off, rfl, ⟨?_, by simp⟩, fun j u hu => ?_⟩
      · have h0 : W.cell? ⟨bb, off, none⟩ = some (.int .i64 (q 0).1) := by simpa [Addr.add] using h00
        exact World.block_lt_of_cell? W _ h0
      · have hj : j < len0 * 2 := by
          have := (List.getElem?_eq_some_iff.1 hu).1
          rw [flC_len] at this
          simpa using this
        have hg := flC_get ((List.range len0).map q) (j / 2) (by simp; omega)
        have hc := hq (j / 2) (by omega)
        simp only [Addr.add_lit] at hc
        rcases Nat.mod_two_eq_zero_or_one j with e | e
        · rw [show j / 2 * 2 = j by omega] at hg hc
          rw [hc.1, ← hu, hg.1]
          simp
        · rw [show j / 2 * 2 + 1 = j by omega] at hg hc
          rw [hc.2.1, ← hu, hg.2]
          simp
    · obtain ⟨i, hi, rfl⟩ := List.mem_map.1 hc
      exact (hq i (by have := List.mem_range.1 hi; omega)).2.2
set_option maxRecDepth 100000 in
theorem openClm {H : Type} {enc : TypeId × Value → H} {W : World} {b : Nat} {sp : Nat → Bool} {hd : Bool} {cs : Array Value} {d : DataW H} {p : List MemPlace} {fuel : Nat} (h : DataW.trod enc Tryz.prog W b sp hd fuel 24 (Value.agg cs).cells.toList = some (d, p)) :
    ∃ c : Cl, cs = #[.int .i64 c.1, .int .i64 c.2] ∧ Wc c := by
  have h : DataW.trod enc Tryz.prog W b sp hd fuel 24 cs.toList = some (d, p) := by simpa [Value.cells] using h
  have ce : Tryz.prog.cellsOf 24 = 2 := by kernel_rfl
  have ci : Tryz.prog.cellsOf 3 = 1 := by kernel_rfl
  obtain ⟨xs, k, hk, hxy, hl, hxl, hf⟩ := DataW.trod_struct Tryz.underlying24 h
  obtain ⟨l⟩ := cs
  have hl2 : l.length = 2 := by simpa [ce] using hl
  match xs, hxl, l, hl2 with
  | [y0, y1], _, [v0, v1], _ =>
    have g0 := hf 0 _ rfl
    have g1 := hf 1 _ rfl
    simp [ci] at g0 g1
    obtain ⟨z0, e0, _, w0⟩ := DataW.trod_int Tryz.underlying3 g0
    obtain ⟨z1, e1, _, w1⟩ := DataW.trod_int Tryz.underlying3 g1
    simp at e0 e1
    exact ⟨(z0, z1), by rw [e0, e1], wf_wi w0, wf_wi w1⟩
end Go.Proofs.YtkpgnhdmlikopaaGreatDoor

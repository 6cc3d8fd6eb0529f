/- Some texts of this claim, joined: contracts of the functions that it reaches, and plain laws. -/
import Derived.Test.YtoblhcieidljjaaGreatDoorJDA27
import Derived.OpenShut
import Derived.ChangeOld

set_option linter.unusedSimpArgs false
set_option linter.unusedVariables false
/- Keys that come in. -/
namespace Go.Proofs.YtoblhcieidljjaaGreatDoor
open Go.RowKit Go.ChangeShapes
set_option maxRecDepth 100000 in
open Go.WideShapes Go.ChangeAt in
/-- Keys that come in. -/
theorem openKeys {H : Type} {enc : TypeId × Value → H} {W : World} {b : Nat} {sp : Nat → Bool} {hd : Bool} {v : Value} {d : DataW H} {p : List MemPlace} {r : Reach} {b0 : Nat} (hv : Value.okWide Tryz.prog W r b0 46 v) (h : DataW.Trod enc Tryz.prog W b sp hd 46 v d p) (hlt : ∀ x ∈ p, x.block < W.heap.size) :
    ∃ l : List Nat, SlD W (Dm W none) 1 v (l.map u64v) ∧ ∀ y ∈ l, y < 18446744073709551616 := by
  obtain ⟨a0, len0, cap0, rfl⟩ := okWide_slice Tryz.underlying46 hv
  obtain ⟨fuel, hf⟩ := h
  rcases open_ints Tryz.underlying46 Tryz.underlying43 (by kernel_rfl) hf with ⟨hcs, _⟩ | ⟨x, l, c, zs, hcs, _, hl, hm, hz, hx, hcell, hwz⟩
  · simp [Value.cells] at hcs
    obtain ⟨rfl, rfl, rfl⟩ := hcs
    exact ⟨[], SlD.nil _ _ _, by simp⟩
  · simp [Value.cells] at hcs
    obtain ⟨rfl, rfl, rfl⟩ := hcs
    have hlz : len0 ≤ zs.length := by rw [hz]; split <;> omega
    refine ⟨(zs.take len0).map Int.toNat, ⟨_, len0, cap0, rfl, by simp; omega, hl, hm, fun hp => ?_⟩, fun y hy => ?_⟩
    · obtain ⟨bb, off, spot⟩ := x
      have hc := hcell 0 (by omega)
      have hspot : spot = none := by simpa [Addr.add] using World.cell?_spot hc
      subst hspot
      refine ⟨bb, off, rfl, ⟨?_, by simp⟩, fun j u hu => ?_⟩
      · have h0 : W.cell? ⟨bb, off, none⟩ = some (.int .u64 (zs.getD 0 0)) := by simpa [Addr.add] using hc
        exact World.block_lt_of_cell? W _ h0
      · have hj : j < len0 := by
          have := (List.getElem?_eq_some_iff.1 hu).1
          simp at this
          omega
        have h1 := hcell j (by omega)
        rw [Addr.add_lit] at h1
        have hjz : j < zs.length := by omega
        have hb := u64_bd (hwz zs[j] (List.getElem_mem hjz))
        rw [h1, ← hu]
        simp [hj, hjz, u64v]
        omega
    · obtain ⟨n, hn, rfl⟩ := List.mem_map.1 hy
      have := u64_bd (hwz n (List.mem_of_mem_take hn))
      omega
end Go.Proofs.YtoblhcieidljjaaGreatDoor

/- Some texts of this claim, joined: contracts of the functions that it reaches, and plain laws. -/
import Derived.Test.YtoblhcieidljjaaGreatDoorProg
import Derived.Test.YtoblhcieidljjaaGreatDoorJDA2
import Derived.ProofKit
import Derived.Deep.Slices

set_option linter.unusedSimpArgs false
set_option linter.unusedVariables false
/- A trust that comes in reads as one: from the row's reading to RwD. -/
namespace Go.Proofs.YtoblhcieidljjaaGreatDoor
open Go.RowKit Go.ChangeShapes

theorem rws_of {W : World} (f : Nat → Value) (T : Nat → Tr) : ∀ (m s k : Nat), (∀ i, i < m → RwD W (.agg #[f (s + i * 3), f (s + i * 3 + 1), f (s + i * 3 + 2)]) (T (k + i))) → RwsD W ((List.range' s (m * 3)).map f) ((List.range' k m).map T)
  | 0, s, k, _ => by simp [RwsD]
  | m + 1, s, k, h => by
    have h0 := h 0 (by omega)
    have hr := rws_of f T m (s + 3) (k + 1) (fun i hi => by
      have := h (i + 1) (by omega)
      rw [show s + 3 + i * 3 = s + (i + 1) * 3 by omega, show k + 1 + i = k + (i + 1) by omega]
      exact this)
    rw [show (m + 1) * 3 = m * 3 + 1 + 1 + 1 by omega]
    simp only [List.range'_succ, List.map_cons, RwsD]
    exact ⟨_, _, _, _, rfl, by simpa using h0, hr⟩

theorem wAll {H : Type} {P : Program} {e : TypeId} : ∀ {l : List (DataW H)} {d : DataW H} {n : Nat}, d ∈ l → n ∈ d.weights P e → n ∈ DataW.weightsAll P e l
  | [], d, n, hd, _ => by simp at hd
  | x :: r, d, n, hd, hn => by
    simp only [DataW.weightsAll, List.mem_append]
    rcases List.mem_cons.1 hd with rfl | hd
    · exact .inl hn
    · exact .inr (wAll hd hn)

set_option maxRecDepth 100000 in
theorem openT {H : Type} {enc : TypeId × Value → H} {W : World} {b : Nat} {sp : Nat → Bool} {hd : Bool} : ∀ (k fuel : Nat), fuel ≤ k → ∀ {cs : List Value} {x : DataW H × List MemPlace}, DataW.trod enc Tryz.prog W b sp hd fuel 31 cs = some x →
    (∀ n ∈ DataW.weights Tryz.prog 31 x.1, n ≤ reachBytes) → ∃ t, RwD W (.agg cs.toArray) t := by
  intro k
  induction k with
  | zero =>
    intro fuel hk cs x h _
    obtain rfl : fuel = 0 := by omega
    simp [DataW.trod] at h
  | succ k ih =>
    intro fuel hk cs x h hw
    obtain ⟨xs, n, rfl, rfl, hl, hxs, hf⟩ := DataW.trod_struct Tryz.underlying31 h
    have e3 : Tryz.prog.cellsOf 31 = 3 := by kernel_rfl
    have e1 : Tryz.prog.cellsOf 3 = 1 := by kernel_rfl
    have es1 : Tryz.prog.cellsOf 22 = 1 := by kernel_rfl
    have es2 : Tryz.prog.cellsOf 29 = 1 := by kernel_rfl
    have eb1 : Tryz.prog.bytesOf 3 = 8 := by kernel_rfl
    have eb3 : Tryz.prog.bytesOf 31 = 56 := by kernel_rfl
    rw [e3] at hl
    have f0 := hf 0 _ rfl
    have f1 := hf 1 _ rfl
    have f2 := hf 2 _ rfl
    match cs, hl, xs, hxs, hw, f0, f1, f2 with
    | [c0, c1, c2], _, [y0, y1, y2], _, hw, f0, f1, f2 =>
      simp only [e1, es1, es2, List.drop_zero, List.take_succ_cons, List.take_zero, List.drop_succ_cons, List.getElem?_cons_zero, List.getElem?_cons_succ] at f0 f1 f2
      have hws : ∀ m, (m ∈ DataW.weights Tryz.prog 22 y1.1 ∨ m ∈ DataW.weights Tryz.prog 29 y2.1) → m ≤ reachBytes := by
        intro m hm
        refine hw m ?_
        simp only [List.map_cons, List.map_nil, DataW.weights, Tryz.underlying31, DataW.weightsEach, List.mem_append]
        rcases hm with hm | hm
        · exact .inr (.inl hm)
        · exact .inr (.inr (.inl hm))
      obtain ⟨th, e0, rfl, wth⟩ := DataW.trod_int Tryz.underlying3 f0
      injection e0 with e0 _
      subst e0
      have hth : Wi th := i64_bd wth
      -- the nodes
      obtain ⟨nodes, hn1, hn2, hn3⟩ : ∃ nodes : List Int, SlD W (Dm W none) 1 c1 (nodes.map (Value.int .i64)) ∧ (∀ z ∈ nodes, Wi z) ∧ nodes.length ≤ 17592186044416 := by
        rcases open_ints Tryz.underlying22 Tryz.underlying3 e1 f1 with ⟨hcs, _⟩ | ⟨a, len, cap, zs, hcs, _, hlc, hm, hz, hx, hcell, hwz⟩
        · injection hcs with hcs _
          subst hcs
          exact ⟨[], SlD.nil _ _ _, by simp, by simp⟩
        · injection hcs with hcs _
          subst hcs
          have hlz : len ≤ zs.length := by rw [hz]; split <;> omega
          refine ⟨zs.take len, ⟨_, len, cap, rfl, by simp; omega, hlc, hm, fun hp => ?_⟩, fun z hz => i64_bd (hwz z (List.mem_of_mem_take hz)), ?_⟩
          · obtain ⟨bb, off, spot⟩ := a
            have hc := hcell 0 (by omega)
            have hspot : spot = none := by simpa [Addr.add] using World.cell?_spot hc
            subst hspot
            refine ⟨bb, off, rfl, ⟨?_, by simp⟩, fun j u hu => ?_⟩
            · have h0 : W.cell? ⟨bb, off, none⟩ = some (.int .i64 (zs.getD 0 0)) := by simpa [Addr.add] using hc
              exact World.block_lt_of_cell? W _ h0
            · have hj : j < len := by
                have := (List.getElem?_eq_some_iff.1 hu).1
                simp at this
                omega
              have h1 := hcell j (by omega)
              rw [Addr.add_lit] at h1
              rw [h1, ← hu]
              simp [hj, show j < zs.length by omega]
          · have := hws ((((lits .i64 (zs.take len)) : List (DataW H)).length + ((lits .i64 (zs.drop len)) : List (DataW H)).length) * 8) (.inl (by rw [hx]; simp [DataW.weights, Tryz.underlying22, eb1]))
            unfold reachBytes at this
            have hl2 : ((lits .i64 (zs.take len)) : List (DataW H)).length = (zs.take len).length := by simp [lits]
            omega
      -- the inner trusts
      obtain ⟨inner, cells, hi1, hi2, hi3⟩ : ∃ (inner : List Tr) (cells : List Value), SlD W (Dm W none) 3 c2 cells ∧ RwsD W cells inner ∧ inner.length ≤ 17592186044416 := by
        rcases DataW.trod_slice Tryz.underlying29 f2 with ⟨hcs, _⟩ | ⟨a, len, cap, elems, rest, n', rfl, hcs, hx, _, hlc, hm, hlen, hel, _, _⟩
        · injection hcs with hcs _
          subst hcs
          exact ⟨[], [], SlD.nil _ _ _, by simp [RwsD], by simp⟩
        · injection hcs with hcs _
          subst hcs
          rw [e3] at hel
          have hT : ∀ i, i < len → ∃ t : Tr, ∃ u v w, W.cell? (a.add (i * 3)) = some u ∧ W.cell? (a.add (i * 3 + 1)) = some v ∧ W.cell? (a.add (i * 3 + 2)) = some w ∧ RwD W (.agg #[u, v, w]) t := by
            intro i hi
            have h1 := hel i hi
            rw [List.getElem?_eq_getElem (by omega), Option.bind_eq_some_iff] at h1
            obtain ⟨cs', h2, h3⟩ := h1
            obtain ⟨_, h4, h5⟩ := World.cells?_some h2
            obtain ⟨t, ht⟩ := ih n' (by omega) h3 (fun m hm => hws m (.inr (by
              rw [hx]
              simp only [DataW.weights, Tryz.underlying29, List.mem_cons, List.mem_append]
              exact .inr (.inl (wAll (List.mem_map_of_mem (List.getElem_mem _)) hm)))))
            match cs', h4 with
            | [u, v, w], _ =>
              have g0 := h5 0 (by omega)
              have g1 := h5 1 (by omega)
              have g2 := h5 2 (by omega)
              rw [Go.Deep.add_add] at g0 g1 g2
              exact ⟨t, u, v, w, by simpa using g0, by simpa using g1, by simpa using g2, ht⟩
          have hT2 : ∃ T : Nat → Tr, ∀ i, i < len → ∃ u v w, W.cell? (a.add (i * 3)) = some u ∧ W.cell? (a.add (i * 3 + 1)) = some v ∧ W.cell? (a.add (i * 3 + 2)) = some w ∧ RwD W (.agg #[u, v, w]) (T i) := by
            classical
            exact ⟨fun i => if hi : i < len then Classical.choose (hT i hi) else .mk 0 [] [], fun i hi => by simp only [dif_pos hi]; exact Classical.choose_spec (hT i hi)⟩
          obtain ⟨T, hT⟩ := hT2
          refine ⟨(List.range' 0 len).map T, (List.range' 0 (len * 3)).map (fun j => (W.cell? (a.add j)).getD undef), ⟨_, len, cap, rfl, by simp, hlc, hm, fun hp => ?_⟩, ?_, ?_⟩
          · obtain ⟨u, v, w, g0, _⟩ := hT 0 hp
            obtain ⟨bb, off, spot⟩ := a
            have hspot : spot = none := by simpa [Addr.add] using World.cell?_spot g0
            subst hspot
            refine ⟨bb, off, rfl, ⟨?_, by simp⟩, fun j x hu => ?_⟩
            · have h0 : W.cell? ⟨bb, off, none⟩ = some u := by simpa [Addr.add] using g0
              exact World.block_lt_of_cell? W _ h0
            · have hj : j < len * 3 := by
                have := (List.getElem?_eq_some_iff.1 hu).1
                simpa using this
              rw [List.getElem?_map, List.getElem?_range' (by omega)] at hu
              simp only [Option.map_some, Option.some.injEq] at hu
              rw [show 0 + 1 * j = j by omega, Addr.add_lit] at hu
              obtain ⟨u', v', w', k0, k1, k2, _⟩ := hT (j / 3) (by omega)
              rw [Addr.add_lit] at k0 k1 k2
              have hj3 : j = j / 3 * 3 ∨ j = j / 3 * 3 + 1 ∨ j = j / 3 * 3 + 2 := by omega
              rcases hj3 with e | e | e
              · rw [← e] at k0; rw [k0] at hu ⊢; simpa using hu
              · rw [← e] at k1; rw [k1] at hu ⊢; simpa using hu
              · rw [← e] at k2; rw [k2] at hu ⊢; simpa using hu
          · refine rws_of _ T len 0 0 (fun i hi => ?_)
            obtain ⟨u, v, w, g0, g1, g2, ht⟩ := hT i hi
            simp only [Nat.zero_add, g0, g1, g2, Option.getD_some]
            exact ht
          · have := hws (((elems.map (·.1)).length + (rest.map (·.1)).length) * 56) (.inr (by rw [hx]; simp [DataW.weights, Tryz.underlying29, eb3]))
            unfold reachBytes at this
            simp only [List.length_map] at this
            simp only [List.length_map, List.length_range']
            omega
      refine ⟨.mk th nodes inner, ?_⟩
      simp only [RwD]
      exact ⟨c1, c2, cells, rfl, hth, hn1, hn2, hi1, hn3, hi3, hi2⟩
end Go.Proofs.YtoblhcieidljjaaGreatDoor

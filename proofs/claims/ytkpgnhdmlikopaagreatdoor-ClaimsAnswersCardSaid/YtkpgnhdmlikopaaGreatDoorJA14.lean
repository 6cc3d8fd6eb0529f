/- Some texts of this claim, joined: contracts of the functions that it reaches, and plain laws. -/
import Derived.Test.YtkpgnhdmlikopaaGreatDoorProg
import Derived.Test.YtkpgnhdmlikopaaGreatDoorJA13
import Derived.Test.YtkpgnhdmlikopaaGreatDoorJA11
import Derived.Test.YtkpgnhdmlikopaaGreatDoorJA6

set_option linter.unusedSimpArgs false
set_option linter.unusedVariables false
/- Walks: claims.Put; the reference's Put, Union, Consistent, Text; the law's spoilt. -/
namespace Go.Proofs.YtkpgnhdmlikopaaGreatDoor
open Go.RowKit

/-- append of any slice, as a step of a region that draws its order; the operation may have a guard. -/
theorem step_anyH {P : Program} {t e : TypeId} {size bytes : Nat} (E : EInfo P t e size bytes) {w : World} {ops : Array Oper} {o : Oper} {a : Act} {tm : Array Value} {K : Act → World → Prop} {Q : Exit → Act → World → Prop} {E' : Prop} (hw : Region.wanted o (yielded ops tm) = true) (s x : Operand)
    (ho : o.op = .call { callee := .builtin .append, args := #[s, x], argTypes := #[t, t] })
    (base : Nat) (A : Option Addr) (n c : Nat) (xs : List Value) (hs : a.eval s = .slice A n c) (hown : w.ownsRow base e size (.slice A n c) n xs)
    (B : Option Addr) (m d : Nat) (news : List Value) (hx : a.eval x = .slice B m d) (hr : SlD w (fun _ => True) size (.slice B m d) news) (h1 : ∀ u ∈ news, u.oneCell' = true) (hb : (n + m) * bytes ≤ 140737488355328) (h63 : n + m ≤ maxLen) (hbase : base ≤ w.heap.size)
    (h : ∀ A' c' w', w'.ownsRow base e size (.slice A' (n + m) c') (n + m) (xs ++ news) → Fr (Value.slice A n c).ownBlock w w' → NewOr w.heap.size (.slice A n c) (.slice A' (n + m) c') → K (a.put o.dst (.slice A' (n + m) c')) w') :
    if Region.wanted o (yielded ops tm) = true then Oper.wp P o a w K Q else E' := by
  rw [if_pos hw]
  obtain ⟨A', c', w', hr, h2, h3, h4⟩ := app_run (P := P) (ty := o.type) E w base A n c xs hown B m d news hr h1 hb h63 hbase
  unfold Oper.wp execOp
  simp only [ho, resolve, invoke, builtin, Sem.run_bind, Sem.run_pure, Result.andThen_ok, List.map_toArray, List.map_cons, List.map_nil, hs, hx, hr]
  refine h A' c' w' h2 h3 ?_
  rcases h4 with bl' | bl'
  · exact .inl bl'
  · exact .inr ⟨_, bl', Nat.le_refl _⟩
theorem own_zeroD (w : World) : (w.alloc (.cells #[] 24)).ownsRow w.heap.size 24 2 (.slice (some ⟨w.heap.size, 0, none⟩) 0 0) 0 [] :=
  ⟨rfl, .inr ⟨w.heap.size, 0, #[], rfl, Nat.le_refl _, blk_new _ _, Nat.le_refl _, by unfold maxLen; omega, rfl, rfl⟩⟩
theorem lit_blkD {w : World} {b : Nat} {x : Cl} {T : TypeId} (h : w.heap[b]? = some (.cells #[.int .i64 x.1, .int .i64 x.2] T (0, 0))) : SlD w (fun _ => True) 2 (.slice (some ⟨b, 0, none⟩) 1 1) [.int .i64 x.1, .int .i64 x.2] :=
  ⟨_, 1, 1, rfl, rfl, Nat.le_refl _, by unfold maxLen; omega, fun _ => ⟨b, 0, rfl, trivial, fun j u hu => by
    rw [Nat.zero_add, blk_cell h]
    match j, hu with
    | 0, hu => exact hu
    | 1, hu => exact hu
    | j + 2, hu => simp at hu⟩⟩

def putC (l : List Cl) (x : Cl) : List Cl := uniC l [x]
set_option maxRecDepth 100000 in
theorem cput_any (l : List Cl) (v : Value) (x : Cl) (w : World) (h : SlC w none v l) (hx : Wc x) (hl : l.length ≤ 100000) : Calls Tryz.prog 18 #[v, .agg #[.int .i64 x.1, .int .i64 x.2]] w (NwC (putC l x) w) := by
  obtain ⟨A, c, rfl, q1, q2, _⟩ := h.open_
  go_enter Tryz.func18, Tryz.ntmps18
  go_upto_region 1 with (fail)
  generalize hW : w.alloc _ = w1
  have F1 : Fr none w w1 := hW ▸ (Fr.refl none w).alloc _
  have b3 : CB2 w1 w.heap.size (.int .i64 x.1) (.int .i64 x.2) 24 := by rw [← hW]; exact blk_new _ _
  clear hW
  obtain ⟨r1, r2⟩ := b3.cell
  have hl1 := h.fr F1
  clear h
  have F2 := (Fr.refl none w1).alloc (.cells #[.int .i64 x.1, .int .i64 x.2] 24)
  have hlit : SlC (w1.alloc (.cells #[.int .i64 x.1, .int .i64 x.2] 24)) none (.slice (some ⟨w1.heap.size, 0, none⟩) 1 1) [x] := SlC.lit [x] _ _ rfl (by simp) (by simpa using hx) (by simp) (Fr.refl _ _)
  have HLt := Lib.hid hlit
  clear hlit
  go_wp2_with fail
  refine (cuni_any l [x] _ _ _ (hl1.fr F2) HLt.out (by simp; omega)).mono ?_
  rintro e w3 ⟨v3, rfl, hs3, F3⟩
  have hz1 := F1.size
  have hz2 := F2.size
  go_wp2_with fail
  go_ret
  exact ⟨v3, rfl, hs3.keep (dn_mono (by omega)), (F1.pure F2).pure F3⟩
set_option maxRecDepth 100000 in
set_option maxHeartbeats 2000000 in
theorem rput_any (l : List Cl) (v : Value) (x : Cl) (w : World) (h : SlC w none v l) (hx : Wc x) (hl : l.length ≤ 100000) : Calls Tryz.prog 19 #[v, .agg #[.int .i64 x.1, .int .i64 x.2]] w (NwC (putC l x) w) := by
  obtain ⟨A, c, rfl, q1, q2, _⟩ := h.open_
  have HWl : Hid (∀ c ∈ l ++ [x], Wc c) := snoc_wc h.2 hx
  go_enter Tryz.func19, Tryz.ntmps19
  go_upto_region 1 with (fail)
  generalize hW : w.alloc _ = w1
  have F1 : Fr none w w1 := hW ▸ (Fr.refl none w).alloc _
  have b3 : CB2 w1 w.heap.size (.int .i64 x.1) (.int .i64 x.2) 24 := by rw [← hW]; exact blk_new _ _
  clear hW
  have hl1 := Lib.hid (h.fr F1)
  clear h
  refine wp_region_held_drew (S := fun W => (W.cell? ⟨w.heap.size, 0, none⟩ = some (.int .i64 x.1) ∧ W.cell? ⟨w.heap.size, 1, none⟩ = some (.int .i64 x.2)) ∧ Fr none w1 W) (by kernel_rfl) ⟨b3.cell, (Fr.refl _ _).drew⟩ (fun hH0 => ?_)
  refine wpAnyH_take (i := 1) (v := ?_) rfl (by kernel_rfl) (by kernel_rfl) (by kernel_rfl) (fun _ _ _ h => h) (Or.inl ⟨by rfl, ?_⟩) (by assumption) ?_
  rotate_left
  · (intro W hW; (try dsimp only at hW); go_simp; try with_reducible rfl)
  try simp only [Act.put, List.setIfInBounds_toArray, List.set_cons_zero, List.set_cons_succ, List.getElem_toArray, List.getElem_cons_zero, List.getElem_cons_succ]
  refine wpAnyH_take (i := 3) (v := ?_) rfl (by kernel_rfl) (by kernel_rfl) (by kernel_rfl) (fun _ _ _ h => h) (Or.inl ⟨by rfl, ?_⟩) (by assumption) ?_
  rotate_left
  · (intro W hW; (try dsimp only at hW); go_simp; try with_reducible rfl)
  try simp only [Act.put, List.setIfInBounds_toArray, List.set_cons_zero, List.set_cons_succ, List.getElem_toArray, List.getElem_cons_zero, List.getElem_cons_succ]
  have G0 : Fr none w1 w1.drew := hH0.2
  generalize w1.drew = wN at *
  have hzN := G0.size
  have l3 := blk_lt b3
  refine wpAnyH_ready (rs := [0, 4]) (by kernel_rfl) (by simp) ?_
  refine AllReadyH.cons rfl (fun K hK => ?_) (AllReadyH.cons rfl (fun K hK => ?_) AllReadyH.nil)
  · have G1 := G0.alloc (.cells #[] 24)
    have own0 := own_zeroD wN
    have hz1 : (wN.alloc (.cells #[] 24)).heap.size = wN.heap.size + 1 := by simp
    obtain ⟨BN, hBN⟩ : ∃ BN, wN.heap.size = BN := ⟨_, rfl⟩
    rw [hBN] at own0 hz1 hzN
    simp only [List.getElem_toArray, List.getElem_cons_zero, List.getElem_cons_succ]
    go_simp
    refine hK.out _ _ ⟨(b3.fr G1 (by simp)).cell, G1⟩ (fun hH9 => ?_)
    clear hK K hH0
    have hH0 := hH9
    clear hH9
    try simp only [Act.put, List.setIfInBounds_toArray, List.set_cons_zero, List.set_cons_succ, List.getElem_toArray, List.getElem_cons_zero, List.getElem_cons_succ]
    refine wpAnyH_ready (rs := [2, 4]) (by kernel_rfl) (by simp) ?_
    refine AllReadyH.cons rfl (fun K hK => ?_) (AllReadyH.cons rfl (fun K hK => ?_) AllReadyH.nil)
    · skip
      simp only [List.getElem_toArray, List.getElem_cons_zero, List.getElem_cons_succ]
      refine step_anyH eiClm (by rfl) _ _ rfl BN (some ⟨BN, 0, none⟩) 0 0 [] rfl own0 A l.length c (flC l) rfl ((hl1.out.fr G1).1.any) (flC_one l) (by omega) (by unfold maxLen; omega) (by simp; omega) ?_
      intro A5 c5 w5 own5 F5 _
      simp only [Nat.zero_add, List.nil_append] at own5 ⊢
      have F5 : Fr (some BN) _ w5 := F5
      have G5 := (G1).own F5 (fun q e => by injection e with e; omega)
      refine hK.out _ _ ⟨(b3.fr G5 (by simp)).cell, G5⟩ (fun hH9 => ?_)
      clear hK K hH0
      have hH0 := hH9
      clear hH9
      try simp only [Act.put, List.setIfInBounds_toArray, List.set_cons_zero, List.set_cons_succ, List.getElem_toArray, List.getElem_cons_zero, List.getElem_cons_succ]
      refine wpAnyH_ready (rs := [4]) (by kernel_rfl) (by simp) ?_
      refine AllReadyH.cons rfl (fun K hK => ?_) AllReadyH.nil
      have hz5 := F5.size
      have G6 := G5.alloc (.cells #[.int .i64 x.1, .int .i64 x.2] 24)
      have hsrc := lit_blkD (blk_new w5 (.cells #[.int .i64 x.1, .int .i64 x.2] 24))
      have own6 := own5.alloc (.cells #[.int .i64 x.1, .int .i64 x.2] 24)
      simp only [List.getElem_toArray, List.getElem_cons_zero, List.getElem_cons_succ]
      go_simp
      refine hK.out _ _ ⟨(b3.fr G6 (by simp)).cell, G6⟩ (fun hH9 => ?_)
      clear hK K hH0
      have hH0 := hH9
      clear hH9
      try simp only [Act.put, List.setIfInBounds_toArray, List.set_cons_zero, List.set_cons_succ, List.getElem_toArray, List.getElem_cons_zero, List.getElem_cons_succ]
      refine wpAnyH_ready (rs := [5]) (by kernel_rfl) (by simp) ?_
      refine AllReadyH.cons rfl (fun K hK => ?_) AllReadyH.nil
      simp only [List.getElem_toArray, List.getElem_cons_zero, List.getElem_cons_succ]
      refine step_anyH eiClm (by rfl) _ _ rfl BN A5 l.length c5 (flC l) rfl own6 (some ⟨w5.heap.size, 0, none⟩) 1 1 [.int .i64 x.1, .int .i64 x.2] rfl hsrc (by simp [Value.oneCell']) (by omega) (by unfold maxLen; omega) (by simp; simp at hz5; omega) ?_
      intro A7 c7 w7 own7 F7 _
      have G7 := (G6).own F7 (fun q e => by have := own_blk_ge own6 q e; omega)
      have H7 := Lib.hid (SlC.of_own (r := none) (l := l ++ [x]) (by rw [flC_snoc]; exact own7) (by simp) HWl.out)
      refine hK.out _ _ ⟨(b3.fr G7 (by simp)).cell, G7⟩ (fun hH9 => ?_)
      clear hK K hH0
      have hH0 := hH9
      clear hH9
      try simp only [Act.put, List.setIfInBounds_toArray, List.set_cons_zero, List.set_cons_succ, List.getElem_toArray, List.getElem_cons_zero, List.getElem_cons_succ]
      refine wpAnyH_ready (rs := [6]) (by kernel_rfl) (by simp) ?_
      refine AllReadyH.cons rfl (fun K hK => ?_) AllReadyH.nil
      simp only [List.getElem_toArray, List.getElem_cons_zero, List.getElem_cons_succ]
      go_simp
      go_at_call 7
      refine (rsrt_any (l ++ [x]) _ _ H7.out).mono ?_
      rintro e w8 ⟨v8, rfl, hs8, F8⟩
      have G8 := G7.pure F8
      refine hK.out _ _ ⟨(b3.fr G8 (by simp)).cell, G8⟩ (fun hH9 => ?_)
      clear hK K hH0
      have hH0 := hH9
      clear hH9
      try simp only [Act.put, List.setIfInBounds_toArray, List.set_cons_zero, List.set_cons_succ, List.getElem_toArray, List.getElem_cons_zero, List.getElem_cons_succ]
      have hz7 := F1.size
      have hz8 := G7.size
      refine wpAnyH_take (i := 7) (v := ?_) rfl (by kernel_rfl) (by kernel_rfl) (by kernel_rfl) (fun _ _ _ h => h) (Or.inl ⟨by rfl, ?_⟩) (by assumption) ?_
      rotate_left
      · (intro W hW; (try dsimp only at hW); go_simp; try with_reducible rfl)
      try simp only [Act.put, List.setIfInBounds_toArray, List.set_cons_zero, List.set_cons_succ, List.getElem_toArray, List.getElem_cons_zero, List.getElem_cons_succ]
      refine wpAnyH_done (by kernel_rfl) ?_ _
      go_wp2_with fail
      go_ret
      exact ⟨v8, rfl, hs8.keep (dn_mono (by omega)), F1.pure G8⟩
    · skip
      have G2 := G1.alloc (.cells #[.int .i64 x.1, .int .i64 x.2] 24)
      have own1 := own0.alloc (.cells #[.int .i64 x.1, .int .i64 x.2] 24)
      have hb2 := blk_new (wN.alloc (.cells #[] 24)) (.cells #[.int .i64 x.1, .int .i64 x.2] 24)
      rw [hz1] at hb2
      simp only [List.getElem_toArray, List.getElem_cons_zero, List.getElem_cons_succ]
      go_simp
      refine hK.out _ _ ⟨(b3.fr G2 (by simp)).cell, G2⟩ (fun hH9 => ?_)
      clear hK K hH0
      have hH0 := hH9
      clear hH9
      try simp only [Act.put, List.setIfInBounds_toArray, List.set_cons_zero, List.set_cons_succ, List.getElem_toArray, List.getElem_cons_zero, List.getElem_cons_succ]
      refine wpAnyH_ready (rs := [2]) (by kernel_rfl) (by simp) ?_
      refine AllReadyH.cons rfl (fun K hK => ?_) AllReadyH.nil
      simp only [List.getElem_toArray, List.getElem_cons_zero, List.getElem_cons_succ]
      refine step_anyH eiClm (by rfl) _ _ rfl BN (some ⟨BN, 0, none⟩) 0 0 [] rfl own1 A l.length c (flC l) rfl ((hl1.out.fr G2).1.any) (flC_one l) (by omega) (by unfold maxLen; omega) (by simp; omega) ?_
      intro A5 c5 w5 own5 F5 _
      simp only [Nat.zero_add, List.nil_append] at own5 ⊢
      have F5 : Fr (some BN) _ w5 := F5
      have G5 := (G2).own F5 (fun q e => by injection e with e; omega)
      refine hK.out _ _ ⟨(b3.fr G5 (by simp)).cell, G5⟩ (fun hH9 => ?_)
      clear hK K hH0
      have hH0 := hH9
      clear hH9
      try simp only [Act.put, List.setIfInBounds_toArray, List.set_cons_zero, List.set_cons_succ, List.getElem_toArray, List.getElem_cons_zero, List.getElem_cons_succ]
      have hz5 := F5.size
      have hb3 := blk_fr hb2 F5 (by simp)
      have hsrc := lit_blkD hb3
      refine wpAnyH_ready (rs := [5]) (by kernel_rfl) (by simp) ?_
      refine AllReadyH.cons rfl (fun K hK => ?_) AllReadyH.nil
      simp only [List.getElem_toArray, List.getElem_cons_zero, List.getElem_cons_succ]
      refine step_anyH eiClm (by rfl) _ _ rfl BN A5 l.length c5 (flC l) rfl own5 (some ⟨(BN + 1), 0, none⟩) 1 1 [.int .i64 x.1, .int .i64 x.2] rfl hsrc (by simp [Value.oneCell']) (by omega) (by unfold maxLen; omega) (by simp at hz5; omega) ?_
      intro A7 c7 w7 own7 F7 _
      have G7 := (G5).own F7 (fun q e => by have := own_blk_ge own5 q e; omega)
      have H7 := Lib.hid (SlC.of_own (r := none) (l := l ++ [x]) (by rw [flC_snoc]; exact own7) (by simp) HWl.out)
      refine hK.out _ _ ⟨(b3.fr G7 (by simp)).cell, G7⟩ (fun hH9 => ?_)
      clear hK K hH0
      have hH0 := hH9
      clear hH9
      try simp only [Act.put, List.setIfInBounds_toArray, List.set_cons_zero, List.set_cons_succ, List.getElem_toArray, List.getElem_cons_zero, List.getElem_cons_succ]
      refine wpAnyH_ready (rs := [6]) (by kernel_rfl) (by simp) ?_
      refine AllReadyH.cons rfl (fun K hK => ?_) AllReadyH.nil
      simp only [List.getElem_toArray, List.getElem_cons_zero, List.getElem_cons_succ]
      go_simp
      go_at_call 7
      refine (rsrt_any (l ++ [x]) _ _ H7.out).mono ?_
      rintro e w8 ⟨v8, rfl, hs8, F8⟩
      have G8 := G7.pure F8
      refine hK.out _ _ ⟨(b3.fr G8 (by simp)).cell, G8⟩ (fun hH9 => ?_)
      clear hK K hH0
      have hH0 := hH9
      clear hH9
      try simp only [Act.put, List.setIfInBounds_toArray, List.set_cons_zero, List.set_cons_succ, List.getElem_toArray, List.getElem_cons_zero, List.getElem_cons_succ]
      have hz7 := F1.size
      have hz8 := G7.size
      refine wpAnyH_take (i := 7) (v := ?_) rfl (by kernel_rfl) (by kernel_rfl) (by kernel_rfl) (fun _ _ _ h => h) (Or.inl ⟨by rfl, ?_⟩) (by assumption) ?_
      rotate_left
      · (intro W hW; (try dsimp only at hW); go_simp; try with_reducible rfl)
      try simp only [Act.put, List.setIfInBounds_toArray, List.set_cons_zero, List.set_cons_succ, List.getElem_toArray, List.getElem_cons_zero, List.getElem_cons_succ]
      refine wpAnyH_done (by kernel_rfl) ?_ _
      go_wp2_with fail
      go_ret
      exact ⟨v8, rfl, hs8.keep (dn_mono (by omega)), F1.pure G8⟩
  · have G1 := G0.alloc (.cells #[.int .i64 x.1, .int .i64 x.2] 24)
    have hb1 := blk_new wN (.cells #[.int .i64 x.1, .int .i64 x.2] 24)
    have own0 := own_zeroD (wN.alloc (.cells #[.int .i64 x.1, .int .i64 x.2] 24))
    have hz1 : (wN.alloc (.cells #[.int .i64 x.1, .int .i64 x.2] 24)).heap.size = wN.heap.size + 1 := by simp
    have G2 := G1.alloc (.cells #[] 24)
    have hb2 := blk_fr hb1 ((Fr.refl none (wN.alloc (.cells #[.int .i64 x.1, .int .i64 x.2] 24))).alloc (.cells #[] 24)) (by simp)
    obtain ⟨BN, hBN⟩ : ∃ BN, wN.heap.size = BN := ⟨_, rfl⟩
    rw [hBN] at hz1 hzN hb1 hb2
    rw [hz1] at own0
    simp only [List.getElem_toArray, List.getElem_cons_zero, List.getElem_cons_succ]
    go_simp
    refine hK.out _ _ ⟨(b3.fr G1 (by simp)).cell, G1⟩ (fun hH9 => ?_)
    clear hK K hH0
    have hH0 := hH9
    clear hH9
    try simp only [Act.put, List.setIfInBounds_toArray, List.set_cons_zero, List.set_cons_succ, List.getElem_toArray, List.getElem_cons_zero, List.getElem_cons_succ]
    refine wpAnyH_ready (rs := [0]) (by kernel_rfl) (by simp) ?_
    refine AllReadyH.cons rfl (fun K hK => ?_) AllReadyH.nil
    simp only [List.getElem_toArray, List.getElem_cons_zero, List.getElem_cons_succ]
    go_simp
    refine hK.out _ _ ⟨(b3.fr G2 (by simp)).cell, G2⟩ (fun hH9 => ?_)
    clear hK K hH0
    have hH0 := hH9
    clear hH9
    try simp only [Act.put, List.setIfInBounds_toArray, List.set_cons_zero, List.set_cons_succ, List.getElem_toArray, List.getElem_cons_zero, List.getElem_cons_succ]
    refine wpAnyH_ready (rs := [2]) (by kernel_rfl) (by simp) ?_
    refine AllReadyH.cons rfl (fun K hK => ?_) AllReadyH.nil
    simp only [List.getElem_toArray, List.getElem_cons_zero, List.getElem_cons_succ]
    refine step_anyH eiClm (by rfl) _ _ rfl (BN + 1) (some ⟨(BN + 1), 0, none⟩) 0 0 [] rfl own0 A l.length c (flC l) rfl ((hl1.out.fr G2).1.any) (flC_one l) (by omega) (by unfold maxLen; omega) (by simp; omega) ?_
    intro A5 c5 w5 own5 F5 _
    simp only [Nat.zero_add, List.nil_append] at own5 ⊢
    have F5 : Fr (some (BN + 1)) _ w5 := F5
    have G5 := (G2).own F5 (fun q e => by injection e with e; omega)
    refine hK.out _ _ ⟨(b3.fr G5 (by simp)).cell, G5⟩ (fun hH9 => ?_)
    clear hK K hH0
    have hH0 := hH9
    clear hH9
    try simp only [Act.put, List.setIfInBounds_toArray, List.set_cons_zero, List.set_cons_succ, List.getElem_toArray, List.getElem_cons_zero, List.getElem_cons_succ]
    have hz5 := F5.size
    have hb3 := blk_fr hb2 F5 (by simp)
    have hsrc := lit_blkD hb3
    refine wpAnyH_ready (rs := [5]) (by kernel_rfl) (by simp) ?_
    refine AllReadyH.cons rfl (fun K hK => ?_) AllReadyH.nil
    simp only [List.getElem_toArray, List.getElem_cons_zero, List.getElem_cons_succ]
    refine step_anyH eiClm (by rfl) _ _ rfl (BN + 1) A5 l.length c5 (flC l) rfl own5 (some ⟨BN, 0, none⟩) 1 1 [.int .i64 x.1, .int .i64 x.2] rfl hsrc (by simp [Value.oneCell']) (by omega) (by unfold maxLen; omega) (by simp at hz5; omega) ?_
    intro A7 c7 w7 own7 F7 _
    have G7 := (G5).own F7 (fun q e => by have := own_blk_ge own5 q e; omega)
    have H7 := Lib.hid (SlC.of_own (r := none) (l := l ++ [x]) (by rw [flC_snoc]; exact own7) (by simp) HWl.out)
    refine hK.out _ _ ⟨(b3.fr G7 (by simp)).cell, G7⟩ (fun hH9 => ?_)
    clear hK K hH0
    have hH0 := hH9
    clear hH9
    try simp only [Act.put, List.setIfInBounds_toArray, List.set_cons_zero, List.set_cons_succ, List.getElem_toArray, List.getElem_cons_zero, List.getElem_cons_succ]
    refine wpAnyH_ready (rs := [6]) (by kernel_rfl) (by simp) ?_
    refine AllReadyH.cons rfl (fun K hK => ?_) AllReadyH.nil
    simp only [List.getElem_toArray, List.getElem_cons_zero, List.getElem_cons_succ]
    go_simp
    go_at_call 7
    refine (rsrt_any (l ++ [x]) _ _ H7.out).mono ?_
    rintro e w8 ⟨v8, rfl, hs8, F8⟩
    have G8 := G7.pure F8
    refine hK.out _ _ ⟨(b3.fr G8 (by simp)).cell, G8⟩ (fun hH9 => ?_)
    clear hK K hH0
    have hH0 := hH9
    clear hH9
    try simp only [Act.put, List.setIfInBounds_toArray, List.set_cons_zero, List.set_cons_succ, List.getElem_toArray, List.getElem_cons_zero, List.getElem_cons_succ]
    have hz7 := F1.size
    have hz8 := G7.size
    refine wpAnyH_take (i := 7) (v := ?_) rfl (by kernel_rfl) (by kernel_rfl) (by kernel_rfl) (fun _ _ _ h => h) (Or.inl ⟨by rfl, ?_⟩) (by assumption) ?_
    rotate_left
    · (intro W hW; (try dsimp only at hW); go_simp; try with_reducible rfl)
    try simp only [Act.put, List.setIfInBounds_toArray, List.set_cons_zero, List.set_cons_succ, List.getElem_toArray, List.getElem_cons_zero, List.getElem_cons_succ]
    refine wpAnyH_done (by kernel_rfl) ?_ _
    go_wp2_with fail
    go_ret
    exact ⟨v8, rfl, hs8.keep (dn_mono (by omega)), F1.pure G8⟩
set_option maxRecDepth 100000 in
set_option maxHeartbeats 1000000 in
theorem runi_any (a b : List Cl) (va vb : Value) (w : World) (ha : SlC w none va a) (hb : SlC w none vb b) (hl : a.length + b.length ≤ 1000000) : Calls Tryz.prog 28 #[va, vb] w (NwC (uniC a b) w) := by
  have HW : Hid (∀ c ∈ a ++ b, Wc c) := fun c hc => by
    rcases List.mem_append.1 hc with h | h
    · exact ha.2 c h
    · exact hb.2 c h
  obtain ⟨A, ca, rfl, q1, q2, _⟩ := ha.open_
  obtain ⟨B, cb, rfl, q3, q4, _⟩ := hb.open_
  have F1 := (Fr.refl none w).alloc (.cells #[] 24)
  have HO := Lib.hid (own_zeroD w)
  have HA := Lib.hid (ha.fr F1).1.any
  have HB := Lib.hid (hb.fresh F1 (Nat.le_refl _))
  have hz1 := F1.size
  clear ha hb
  go_enter Tryz.func28, Tryz.ntmps28
  go_wp2_with (first
    | (at_builtin; refine app_any eiClm rfl _ _ rfl w.heap.size (some ⟨w.heap.size, 0, none⟩) 0 0 [] rfl HO.out A a.length ca (flC a) rfl HA.out (flC_one a) (by omega) (by unfold maxLen; omega) (by simp) ?_; intro C' c' w2 own2 F2 _; simp only [Nat.zero_add, List.nil_append] at own2 ⊢; have F2 : Fr (some w.heap.size) _ w2 := F2; have HB2 := Lib.hid (HB.out.fr F2).weak.1.any; have HO2 := Lib.hid own2; have hz2 := F2.size; clear own2)
    | (at_builtin; refine app_any eiClm rfl _ _ rfl w.heap.size C' a.length c' (flC a) rfl HO2.out B b.length cb (flC b) rfl HB2.out (flC_one b) (by omega) (by unfold maxLen; omega) (by omega) ?_; intro D' d' w3 own3 F3 _; have HO3 := Lib.hid own3; clear own3)
    | (go_at_call 7; refine (rsrt_any (a ++ b) _ _ (SlC.of_own (r := none) (by rw [flC_app]; exact HO3.out) (by simp) HW.out)).mono ?_; rintro e w4 ⟨v4, rfl, hs4, F4⟩))
  go_ret
  have F13 := (F1.own F2 (fun q e => by injection e with e; omega)).own F3 (own_blk_ge HO2.out)
  have hz3 := F13.size
  exact ⟨v4, rfl, hs4.keep (dn_mono hz3), F13.pure F4⟩
set_option maxRecDepth 100000 in
set_option maxHeartbeats 1000000 in
theorem rcons_any (l : List Cl) (v : Value) (w : World) (h : SlC w none v l) : Calls Tryz.prog 23 #[v] w fun e w' => e = .returned (.bool (consC l)) ∧ Fr none w w' := by
  obtain ⟨A, c, rfl, q1, q2, hc⟩ := h.open_
  obtain ⟨X, hX⟩ : ∃ X, X = consC l := ⟨_, rfl⟩
  rw [← hX]
  have HX := Lib.hid hX
  have HC := Lib.hid hc
  clear h hX hc
  go_enter Tryz.func23, Tryz.ntmps23
  go_wp2_with fail
  go_loopw [9] (fun s9 wr => ∃ k : Nat, k ≤ l.length ∧ s9 = .int .i64 (k : Int) ∧ Fr none w wr ∧ Hid (∀ i j (hi : i < l.length) (hj : j < l.length), i < j → j < k → conC l[j] l[i] = false)) (fun s9 _ => l.length - (intOf s9).toNat)
  case atStart => exact ⟨0, Nat.zero_le _, rfl, Fr.refl _ _, Lib.hid (fun i j hi hj h1 h2 => by omega)⟩
  case round =>
    obtain ⟨k, hk, rfl, F, HN⟩ := hrel
    obtain ⟨wz, hwz⟩ : ∃ wz : World, wz = wr := ⟨_, rfl⟩
    subst hwz
    by_cases hlt : k < l.length
    · have hd : decide ((k : Int) < (l.length : Int)) = true := decide_eq_true (by omega)
      obtain ⟨b, off, rfl, hb, _, hcc⟩ := HC.out (by omega)
      obtain ⟨c1, c2⟩ := hcc k hlt
      have c1 := F.keep c1 (by simp)
      have c2 := F.keep c2 (by simp)
      obtain ⟨y, hy⟩ : ∃ y, y = l[k] := ⟨_, rfl⟩
      rw [← hy] at c1 c2
      have HY := Lib.hid hy
      have HCC := Lib.hid hcc
      clear hy hcc
      go_upto_region 4 with (fail)
      generalize hW : wz.alloc _ = wa
      have Fa : Fr none wz wa := hW ▸ (Fr.refl none wz).alloc _
      have b4 : CB2 wa wz.heap.size (.int .i64 y.1) (.int .i64 y.2) 24 := by rw [← hW]; exact blk_new _ _
      clear hW c1 c2
      have F0a := F.pure Fa
      go_wp2_with fail
      go_loopw [18] (fun s18 wr => ∃ i : Nat, i ≤ k ∧ s18 = .int .i64 (i : Int) ∧ Fr none wa wr ∧ Hid (∀ j (hj : j < l.length), j < i → conC y l[j] = false)) (fun s18 _ => k - (intOf s18).toNat)
      case atStart => exact ⟨0, Nat.zero_le _, rfl, Fr.refl _ _, Lib.hid (fun j hj h => by omega)⟩
      case round =>
        obtain ⟨i, hi, rfl, G, HM⟩ := hrel
        obtain ⟨wy, hwy⟩ : ∃ wy : World, wy = wr := ⟨_, rfl⟩
        subst hwy
        by_cases hlt2 : i < k
        · have hil : i < l.length := by omega
          obtain ⟨d1, d2⟩ := HCC.out i hil
          have d1 := (F0a.pure G).keep d1 (by simp)
          have d2 := (F0a.pure G).keep d2 (by simp)
          obtain ⟨z, hz⟩ : ∃ z, z = l[i] := ⟨_, rfl⟩
          rw [← hz] at d1 d2
          have HZ := Lib.hid hz
          have b4y := b4.fr G (by simp)
          clear hz
          go_upto_region 7 with (fail)
          generalize hW : wy.alloc _ = wb
          have Fb : Fr none wy wb := hW ▸ (Fr.refl none wy).alloc _
          have b6 : CB2 wb wy.heap.size (.int .i64 z.1) (.int .i64 z.2) 24 := by rw [← hW]; exact blk_new _ _
          clear hW d1 d2
          have b4b := b4y.fr Fb (by simp)
          obtain ⟨r1, r2⟩ := b4b.cell
          obtain ⟨r3, r4⟩ := b6.cell
          have l4 := blk_lt b4b
          have l6 := blk_lt b6
          go_wp2_with fail
          refine (rcon_any y z _).mono ?_
          rintro e w9 ⟨rfl, F9⟩
          cases hcz : conC y z with
          | true =>
            have HE : Hid (X = false) := by
              unfold Hid
              rw [HX.out]
              unfold consC
              rw [decide_eq_false_iff_not, List.pairwise_iff_getElem]
              intro hp
              have := hp i k hil hlt hlt2
              rw [conC_comm, ← HY.out, ← HZ.out, hcz] at this
              cases this
            clear hcz
            go_wp2_with fail
            go_ret
            exact ⟨ret_bool HE.out.symm, (F0a.pure G).pure (Fb.pure F9)⟩
          | false =>
            have HCZ := Lib.hid hcz
            clear hcz
            go_wp2_with fail
            go_roundw
            case rel => exact ⟨i + 1, by omega, by go_num, G.pure (Fb.pure F9), fun j hj hjk => by
              rcases Nat.lt_or_ge j i with hh | hh
              · exact HM.out j hj hh
              · obtain rfl : j = i := by omega
                rw [← HZ.out]; exact HCZ.out⟩
            case measure => simp [intOf]; omega
        · obtain rfl : i = k := by omega
          go_wp2_with fail
          go_roundw
          case rel => exact ⟨i + 1, by omega, by go_num, F0a.pure G, fun p j hp hj h1 h2 => by
            rcases Nat.lt_or_ge j i with hh | hh
            · exact HN.out p j hp hj h1 hh
            · obtain rfl : j = i := by omega
              rw [← HY.out]; exact HM.out p hp h1⟩
          case measure => simp [intOf]; omega
    · obtain rfl : k = l.length := by omega
      have HE : Hid (X = true) := by
        unfold Hid
        rw [HX.out]
        unfold consC
        rw [decide_eq_true_iff, List.pairwise_iff_getElem]
        intro i j hi hj hij
        rw [conC_comm]
        exact HN.out i j hi hj hij hj
      go_wp2_with fail
      go_ret
      exact ⟨ret_bool HE.out.symm, F⟩
/-- Some text, not much longer. -/
def Spt17P (n : Nat) (w : World) (g : Nat) (e : Ending) (w' : World) : Prop := ∃ S : ByteArray, e = .returned (.string S) ∧ S.size ≤ n + 12 ∧ SrcR 51 w' g ∧ Fr (some g) w w'
set_option maxRecDepth 100000 in
set_option maxHeartbeats 4000000 in
theorem spoilt17_any (S : ByteArray) (g : Nat) (w : World) (hS : S.size ≤ 1073741000) (S0 : SrcR 51 w g) : Calls Tryz.prog 32 #[.pointer (some ⟨g, 0, none⟩), .string S] w (Spt17P S.size w g) := by
  have hg := S0.lt
  go_enter Tryz.func32, Tryz.ntmps32
  go_wp2_with fail
  refine (tapeN_any ((S.size : Int) + 1) g _ (by omega) (by omega) S0).mono ?_
  rintro e w1 ⟨k, rfl, k1, k2, S1, F1⟩
  obtain ⟨k, rfl⟩ := Int.eq_ofNat_of_zero_le k1
  have hz1 := F1.size
  go_wp2_with fail
  generalize hW : w1.alloc _ = w2
  have F2 : Fr none w1 w2 := hW ▸ (Fr.refl none w1).alloc _
  have hz2 : w2.heap.size = w1.heap.size + 1 := by rw [← hW]; simp
  have hb : w2.heap[w1.heap.size]? = some (.cells #[.string ⟨#[]⟩, .string ⟨#[32]⟩, .string ⟨#[61]⟩, .string ⟨#[48]⟩, .string ⟨#[57]⟩, .string ⟨#[48, 61, 48, 32]⟩, .string ⟨#[32, 55, 61, 49, 53]⟩, .string ⟨#[49, 54]⟩, .string ⟨#[45]⟩] 9) := by rw [← hW]; exact blk_new _ _
  clear hW
  have S2 := S1.fr F2
  refine (tapeN_any 9 g w2 (by omega) (by omega) S2).mono ?_
  rintro e w3 ⟨a, rfl, a1, a2, S3, F3⟩
  obtain ⟨a, rfl⟩ := Int.eq_ofNat_of_zero_le a1
  obtain ⟨Z, hZ, hzz⟩ : ∃ Z : ByteArray, w2.cell? ⟨w1.heap.size, a, none⟩ = some (.string Z) ∧ Z.size ≤ 12 := by
    have hc := blk_cell hb a
    rcases (show a = 0 ∨ a = 1 ∨ a = 2 ∨ a = 3 ∨ a = 4 ∨ a = 5 ∨ a = 6 ∨ a = 7 ∨ a = 8 by omega) with rfl | rfl | rfl | rfl | rfl | rfl | rfl | rfl | rfl
    all_goals exact ⟨_, hc, by decide⟩
  have hZ := F3.keep hZ (by simp; omega)
  have F03 := (F1.pure F2).same F3
  have hz3 := F3.size
  have ha9 : a < 9 := by omega
  clear hb S2 F2 F1 S1 F3
  have hkS : k ≤ S.size := by omega
  have hk0 : (S.extract 0 k).size ≤ k := by rw [ByteArray.size_extract]; omega
  obtain ⟨X1, H1, z1, r1⟩ := strC_add (S.extract 0 k) Z (by omega) (by omega)
  go_upto_region 3 with (fail)
  refine wp_region_held_drew (S := fun W => Fr (some g) w3 W) (by kernel_rfl) (Fr.refl _ _).drew (fun hH0 => ?_)
  refine wpAnyH_take (i := 0) (v := ?_) rfl (by kernel_rfl) (by kernel_rfl) (by kernel_rfl) (fun _ _ _ h => h) (Or.inl ⟨by rfl, ?_⟩) (by assumption) ?_
  rotate_left
  · (intro W hW; (try dsimp only at hW); go_simp; try with_reducible rfl)
  try simp only [Act.put, List.setIfInBounds_toArray, List.set_cons_zero, List.set_cons_succ, List.getElem_toArray, List.getElem_cons_zero, List.getElem_cons_succ]
  refine wpAnyH_take (i := 1) (v := ?_) rfl (by kernel_rfl) (by kernel_rfl) (by kernel_rfl) (fun _ _ _ h => h) (Or.inl ⟨by rfl, ?_⟩) (by assumption) ?_
  rotate_left
  · (intro W hW; (try dsimp only at hW); go_simp; try with_reducible rfl)
  try simp only [Act.put, List.setIfInBounds_toArray, List.set_cons_zero, List.set_cons_succ, List.getElem_toArray, List.getElem_cons_zero, List.getElem_cons_succ]
  refine wpAnyH_take (i := 2) (v := ?_) rfl (by kernel_rfl) (by kernel_rfl) (by kernel_rfl) (fun _ _ _ h => h) (Or.inl ⟨by rfl, ?_⟩) (by assumption) ?_
  rotate_left
  · (intro W hW; (try dsimp only at hW); go_simp; try with_reducible rfl)
  try simp only [Act.put, List.setIfInBounds_toArray, List.set_cons_zero, List.set_cons_succ, List.getElem_toArray, List.getElem_cons_zero, List.getElem_cons_succ]
  refine wpAnyH_take (i := 3) (v := ?_) rfl (by kernel_rfl) (by kernel_rfl) (by kernel_rfl) (fun _ _ _ h => h) (Or.inl ⟨by rfl, ?_⟩) (by assumption) ?_
  rotate_left
  · (intro W hW; (try dsimp only at hW); go_simp; try with_reducible rfl)
  try simp only [Act.put, List.setIfInBounds_toArray, List.set_cons_zero, List.set_cons_succ, List.getElem_toArray, List.getElem_cons_zero, List.getElem_cons_succ]
  refine wpAnyH_take (i := 4) (v := ?_) rfl (by kernel_rfl) (by kernel_rfl) (by kernel_rfl) (fun _ _ _ h => h) (Or.inl ⟨by rfl, ?_⟩) (by assumption) ?_
  rotate_left
  · (intro W hW; (try dsimp only at hW); go_simp; try with_reducible rfl)
  try simp only [Act.put, List.setIfInBounds_toArray, List.set_cons_zero, List.set_cons_succ, List.getElem_toArray, List.getElem_cons_zero, List.getElem_cons_succ]
  refine wpAnyH_take (i := 5) (v := ?_) rfl (by kernel_rfl) (by kernel_rfl) (by kernel_rfl) (fun _ _ _ h => h) (Or.inl ⟨by rfl, ?_⟩) (by assumption) ?_
  rotate_left
  · (intro W hW; (try dsimp only at hW); go_simp; try with_reducible rfl)
  try simp only [Act.put, List.setIfInBounds_toArray, List.set_cons_zero, List.set_cons_succ, List.getElem_toArray, List.getElem_cons_zero, List.getElem_cons_succ]
  refine wpAnyH_take (i := 6) (v := ?_) rfl (by kernel_rfl) (by kernel_rfl) (by kernel_rfl) (fun _ _ _ h => h) (Or.inl ⟨by rfl, ?_⟩) (by assumption) ?_
  rotate_left
  · (intro W hW; (try dsimp only at hW); go_simp; try with_reducible rfl)
  try simp only [Act.put, List.setIfInBounds_toArray, List.set_cons_zero, List.set_cons_succ, List.getElem_toArray, List.getElem_cons_zero, List.getElem_cons_succ]
  refine wpAnyH_take (i := 7) (v := ?_) rfl (by kernel_rfl) (by kernel_rfl) (by kernel_rfl) (fun _ _ _ h => h) (Or.inl ⟨by rfl, ?_⟩) (by assumption) ?_
  rotate_left
  · (intro W hW; (try dsimp only at hW); go_simp; try with_reducible rfl)
  try simp only [Act.put, List.setIfInBounds_toArray, List.set_cons_zero, List.set_cons_succ, List.getElem_toArray, List.getElem_cons_zero, List.getElem_cons_succ]
  refine wpAnyH_take (i := 8) (v := ?_) rfl (by kernel_rfl) (by kernel_rfl) (by kernel_rfl) (fun _ _ _ h => h) (Or.inl ⟨by rfl, ?_⟩) (by assumption) ?_
  rotate_left
  · (intro W hW; (try dsimp only at hW); go_simp; try with_reducible rfl)
  try simp only [Act.put, List.setIfInBounds_toArray, List.set_cons_zero, List.set_cons_succ, List.getElem_toArray, List.getElem_cons_zero, List.getElem_cons_succ]
  refine wpAnyH_take (i := 9) (v := ?_) rfl (by kernel_rfl) (by kernel_rfl) (by kernel_rfl) (fun _ _ _ h => h) (Or.inl ⟨by rfl, ?_⟩) (by assumption) ?_
  rotate_left
  · (intro W hW; (try dsimp only at hW); go_simp; try with_reducible rfl)
  try simp only [Act.put, List.setIfInBounds_toArray, List.set_cons_zero, List.set_cons_succ, List.getElem_toArray, List.getElem_cons_zero, List.getElem_cons_succ]
  refine wpAnyH_ready (rs := [10]) (by kernel_rfl) (by simp) ?_
  refine AllReadyH.cons rfl (fun K hK => ?_) AllReadyH.nil
  simp only [List.getElem_toArray, List.getElem_cons_zero, List.getElem_cons_succ]
  go_simp
  go_at_call 35
  refine (tapeN_any 3 g _ (by omega) (by omega) S3.drew).mono ?_
  rintro e w4 ⟨d, rfl, d1, d2, S4, F4⟩
  obtain ⟨d, rfl⟩ := Int.eq_ofNat_of_zero_le d1
  have F34 := ((Fr.refl (some g) w3).drew).same F4
  have hd3 : d < 3 := by omega
  refine hK.out _ _ F34 (fun hH1 => ?_)
  clear hK K hH0
  try simp only [Act.put, List.setIfInBounds_toArray, List.set_cons_zero, List.set_cons_succ, List.getElem_toArray, List.getElem_cons_zero, List.getElem_cons_succ]
  have hwr : IntKind.i64.wrap ((k : Int) + (d : Int)) = (k : Int) + (d : Int) := by rw [IntKind.wrap_i64]; omega
  obtain ⟨m, hm, hmS, hmk⟩ : ∃ m : Nat, min (S.size : Int) ((k : Int) + (d : Int)) = (m : Int) ∧ m ≤ S.size ∧ k ≤ m := ⟨min S.size (k + d), by omega, by omega, by omega⟩
  have he0 : (S.extract m S.size).size = S.size - m := by rw [ByteArray.size_extract]; omega
  obtain ⟨X2, H2, z2, r2⟩ := strC_add X1 (S.extract m S.size) (by omega) (by omega)
  refine wpAnyH_take (i := 11) (v := ?_) rfl (by kernel_rfl) (by kernel_rfl) (by kernel_rfl) (fun _ _ _ h => h) (Or.inl ⟨by rfl, ?_⟩) (by assumption) ?_
  rotate_left
  · (intro W hW; (try dsimp only at hW); go_simp; try with_reducible rfl)
  try simp only [Act.put, List.setIfInBounds_toArray, List.set_cons_zero, List.set_cons_succ, List.getElem_toArray, List.getElem_cons_zero, List.getElem_cons_succ]
  refine wpAnyH_take (i := 12) (v := ?_) rfl (by kernel_rfl) (by kernel_rfl) (by kernel_rfl) (fun _ _ _ h => h) (Or.inl ⟨by rfl, ?_⟩) (by assumption) ?_
  rotate_left
  · (intro W hW; (try dsimp only at hW); go_simp; try with_reducible rfl)
  try simp only [Act.put, List.setIfInBounds_toArray, List.set_cons_zero, List.set_cons_succ, List.getElem_toArray, List.getElem_cons_zero, List.getElem_cons_succ]
  refine wpAnyH_take (i := 13) (v := ?_) rfl (by kernel_rfl) (by kernel_rfl) (by kernel_rfl) (fun _ _ _ h => h) (Or.inl ⟨by rfl, ?_⟩) (by assumption) ?_
  rotate_left
  · (intro W hW; (try dsimp only at hW); go_simp; try with_reducible rfl)
  try simp only [Act.put, List.setIfInBounds_toArray, List.set_cons_zero, List.set_cons_succ, List.getElem_toArray, List.getElem_cons_zero, List.getElem_cons_succ]
  refine wpAnyH_take (i := 14) (v := ?_) rfl (by kernel_rfl) (by kernel_rfl) (by kernel_rfl) (fun _ _ _ h => h) (Or.inl ⟨by rfl, ?_⟩) (by assumption) ?_
  rotate_left
  · (intro W hW; (try dsimp only at hW); go_simp; try with_reducible rfl)
  try simp only [Act.put, List.setIfInBounds_toArray, List.set_cons_zero, List.set_cons_succ, List.getElem_toArray, List.getElem_cons_zero, List.getElem_cons_succ]
  refine wpAnyH_take (i := 15) (v := ?_) rfl (by kernel_rfl) (by kernel_rfl) (by kernel_rfl) (fun _ _ _ h => h) (Or.inl ⟨by rfl, ?_⟩) (by assumption) ?_
  rotate_left
  · (intro W hW; (try dsimp only at hW); go_simp; try with_reducible rfl)
  try simp only [Act.put, List.setIfInBounds_toArray, List.set_cons_zero, List.set_cons_succ, List.getElem_toArray, List.getElem_cons_zero, List.getElem_cons_succ]
  refine wpAnyH_done (by kernel_rfl) ?_ _
  have FE := F03.same F34
  go_wp2_with fail
  go_ret
  exact ⟨X2, rfl, by omega, S4, FE⟩
end Go.Proofs.YtkpgnhdmlikopaaGreatDoor

/- Walks: the reference's Text. -/
namespace Go.Proofs.YtkpgnhdmlikopaaGreatDoor
open Go.RowKit

theorem join_snoc1 : ∀ (ws : List (List UInt8)) (x : List UInt8), ws ≠ [] → Lib.join (ws ++ [x]) [32] = Lib.join ws [32] ++ 32 :: x
  | [], x, h => absurd rfl h
  | [a], x, _ => by
    show Lib.join [a, x] [32] = _
    rw [join_cons2, Lib.join_one, Lib.join_one]
  | a :: b :: r, x, _ => by
    have ih := join_snoc1 (b :: r) x (by simp)
    show Lib.join (a :: b :: (r ++ [x])) [32] = _
    rw [join_cons2, join_cons2]
    have : b :: (r ++ [x]) = (b :: r) ++ [x] := rfl
    rw [this, ih]
    simp
theorem join_len5 : ∀ (ws : List (List UInt8)), (∀ w ∈ ws, w.length ≤ 4) → (Lib.join ws [32]).length ≤ 5 * ws.length
  | [], _ => by simp [Lib.join_nil]
  | [a], h => by
    rw [Lib.join_one]
    have := h a (by simp)
    have e : [a].length = 1 := rfl
    omega
  | a :: b :: r, h => by
    have ih := join_len5 (b :: r) (fun w hw => h w (List.mem_cons_of_mem _ hw))
    have ha := h a (by simp)
    rw [join_cons2, List.length_append, List.length_cons]
    have e : (a :: b :: r).length = (b :: r).length + 1 := rfl
    omega
/-- The text of the first k claims. -/
def jnC (m : List Cl) (k : Nat) : List UInt8 := Lib.join ((m.take k).map wrdC) [32]
theorem jnC_zero (m : List Cl) : jnC m 0 = [] := by simp [jnC, Lib.join_nil]
theorem jnC_one (m : List Cl) (h : 0 < m.length) : jnC m 1 = wrdC m[0] := by
  unfold jnC
  rw [List.take_succ_eq_append_getElem h]
  simp [Lib.join_one]
theorem jnC_step (m : List Cl) (p : Nat) (h : p + 1 < m.length) : jnC m (p + 1 + 1) = jnC m (p + 1) ++ 32 :: wrdC m[p + 1] := by
  unfold jnC
  rw [List.take_succ_eq_append_getElem h, List.map_append]
  refine join_snoc1 _ _ ?_
  intro e
  have := congrArg List.length e
  rw [List.length_map, List.length_take, List.length_nil] at this
  omega
theorem jnC_len (m : List Cl) (k : Nat) (hv : ∀ c ∈ m, vCl c = true) : (jnC m k).length ≤ 5 * k := by
  unfold jnC
  refine Nat.le_trans (join_len5 _ (fun w hw => ?_)) ?_
  · obtain ⟨c, hc, rfl⟩ := List.mem_map.1 hw
    exact wrd_len (hv c (List.mem_of_mem_take hc))
  · have e : ((m.take k).map wrdC).length ≤ k := by rw [List.length_map]; exact List.length_take_le _ _
    omega
set_option maxRecDepth 100000 in
set_option maxHeartbeats 2000000 in
theorem rtxt_any (l : List Cl) (v : Value) (w : World) (h : SlC w none v l) : Calls Tryz.prog 25 #[v] w fun e w' => e = .returned (.string (bC (textC l))) ∧ Fr none w w' := by
  have hm0 := srtC_len l
  have hvm : ∀ c ∈ srtC l, vCl c = true := fun c hc => srt_valid hc
  obtain ⟨R, hR⟩ : ∃ R, R = bC (textC l) := ⟨_, rfl⟩
  have HR : Hid (R = bC (jnC (srtC l) (srtC l).length)) := by unfold Hid; rw [hR]; unfold jnC textC; rw [List.take_length]
  rw [← hR]
  clear hR
  obtain ⟨A0, c0, rfl, _, _, _⟩ := h.open_
  go_enter Tryz.func25, Tryz.ntmps25
  go_wp2_with fail
  refine (rsrt_any l _ w h).mono ?_
  rintro e w1 ⟨v1, rfl, hs, F1⟩
  have hm := NwC.sl hs (srtC_wc l) none (by simp)
  clear hs h
  generalize srtC l = m at *
  have HV := Lib.hid hvm
  obtain ⟨A, c, rfl, q1, q2, hc⟩ := hm.open_
  have HC := Lib.hid hc
  clear hc hm hvm
  go_wp2_with fail
  go_loopw [3, 9] (fun s3 s9 wr => ∃ (k : Nat) (O : ByteArray), k ≤ m.length ∧ s9 = .int .i64 (k : Int) ∧ s3 = .string O ∧ Hid (O = bC (jnC m k)) ∧ Fr none w1 wr) (fun _ s9 _ => m.length - (intOf s9).toNat)
  case atStart => exact ⟨0, ⟨#[]⟩, Nat.zero_le _, rfl, rfl, by unfold Hid; rw [jnC_zero]; rfl, Fr.refl _ _⟩
  case round =>
    obtain ⟨k, O, hk, rfl, rfl, HO, F⟩ := hrel
    obtain ⟨wz, hwz⟩ : ∃ wz : World, wz = wr := ⟨_, rfl⟩
    subst hwz
    by_cases hlt : k < m.length
    · obtain ⟨b, off, rfl, hb, _, hcc⟩ := HC.out (by omega)
      obtain ⟨c1, c2⟩ := hcc k hlt
      have c1 := F.keep c1 (by simp)
      have c2 := F.keep c2 (by simp)
      have hv := (vCl_iff _).1 (HV.out _ (List.getElem_mem hlt))
      have HSt : Hid (jnC m (k + 1) = if k = 0 then wrdC m[k] else jnC m k ++ 32 :: wrdC m[k]) := by
        unfold Hid
        rcases Nat.eq_zero_or_pos k with h0 | h0
        · subst h0; rw [if_pos rfl]; exact jnC_one m hlt
        · obtain ⟨p, rfl⟩ : ∃ p, k = p + 1 := ⟨k - 1, by omega⟩
          rw [if_neg (by omega)]; exact jnC_step m p hlt
      have zO : O.size ≤ 5 * k := by rw [HO.out, bC_size]; exact jnC_len m k HV.out
      clear hcc
      generalize m[k] = y at *
      obtain ⟨v1, v2, v3, v4⟩ := hv
      obtain ⟨N, hN⟩ : ∃ N, N = bC (Lib.itoa y.1) := ⟨_, rfl⟩
      obtain ⟨M, hM⟩ : ∃ M, M = bC (Lib.itoa y.2) := ⟨_, rfl⟩
      have z1 : N.size ≤ 2 := by rw [hN, bC_size]; exact itoa_sz v1 (by omega)
      have z2 : M.size ≤ 2 := by rw [hM, bC_size]; exact itoa_sz v3 (by omega)
      have z3 : (⟨#[61]⟩ : ByteArray).size = 1 := rfl
      obtain ⟨X1, HX1, y1, k1⟩ := strC_add N ⟨#[61]⟩ (by omega) (by decide)
      obtain ⟨X2, HX2, y2, k2⟩ := strC_add X1 M (by omega) (by omega)
      have HWd : Hid (X2 = bC (wrdC y)) := by
        unfold Hid
        rw [HX2.out, HX1.out, hN, hM]
        show bC _ ++ bC [61] ++ bC _ = _
        rw [bC_app, bC_app]; rfl
      have HN := Lib.hid hN
      have HM := Lib.hid hM
      clear hN hM
      go_upto_region 5 with (fail)
      generalize hW : wz.alloc _ = wa
      have Fa : Fr none wz wa := hW ▸ (Fr.refl none wz).alloc _
      have b5 : CB2 wa wz.heap.size (.int .i64 y.1) (.int .i64 y.2) 24 := by rw [← hW]; exact blk_new _ _
      clear hW c1 c2
      have F0a := F.pure Fa
      rcases Nat.eq_zero_or_pos k with h0 | h0
      · have hd : decide ((0 : Int) < (k : Int)) = false := decide_eq_false (by omega)
        have hd2 : ¬ 0 < k := by omega
        have hd3 : decide (0 < k) = false := decide_eq_false hd2
        obtain ⟨X3, HX3, y3, k3⟩ := strC_add O X2 (by omega) (by omega)
        have HF : Hid (X3 = bC (jnC m (k + 1))) := by
          unfold Hid
          rw [HX3.out, HSt.out, if_pos h0, HO.out, HWd.out, h0, jnC_zero, bC_app]; rfl
        clear h0 z3 y3 y1 y2
        go_upto_region 7 with (fail)
        refine wp_region_held_drew (S := fun W => (W.cell? ⟨wz.heap.size, 0, none⟩ = some (.int .i64 y.1) ∧ W.cell? ⟨wz.heap.size, 1, none⟩ = some (.int .i64 y.2)) ∧ Fr none wa W) (by kernel_rfl) ⟨b5.cell, (Fr.refl _ _).drew⟩ (fun hH0 => ?_)
        refine wpAnyH_take (i := 0) (v := ?_) rfl (by kernel_rfl) (by kernel_rfl) (by kernel_rfl) (fun _ _ _ h => h) (Or.inl ⟨by rfl, ?_⟩) (by assumption) ?_
        rotate_left
        · (intro W hW; (try dsimp only at hW); go_simp; try with_reducible rfl)
        try simp only [Act.put, List.setIfInBounds_toArray, List.set_cons_zero, List.set_cons_succ, List.getElem_toArray, List.getElem_cons_zero, List.getElem_cons_succ]
        refine wpAnyH_take (i := 1) (v := ?_) rfl (by kernel_rfl) (by kernel_rfl) (by kernel_rfl) (fun _ _ _ h => h) (Or.inl ⟨by rfl, ?_⟩) (by assumption) ?_
        rotate_left
        · (intro W hW; (try dsimp only at hW); go_simp; try with_reducible rfl)
        try simp only [Act.put, List.setIfInBounds_toArray, List.set_cons_zero, List.set_cons_succ, List.getElem_toArray, List.getElem_cons_zero, List.getElem_cons_succ]
        refine wpAnyH_take (i := 2) (v := ?_) rfl (by kernel_rfl) (by kernel_rfl) (by kernel_rfl) (fun _ _ _ h => h) (Or.inl ⟨by rfl, ?_⟩) (by assumption) ?_
        rotate_left
        · (intro W hW; (try dsimp only at hW); go_simp; try with_reducible rfl)
        try simp only [Act.put, List.setIfInBounds_toArray, List.set_cons_zero, List.set_cons_succ, List.getElem_toArray, List.getElem_cons_zero, List.getElem_cons_succ]
        refine wpAnyH_take (i := 5) (v := ?_) rfl (by kernel_rfl) (by kernel_rfl) (by kernel_rfl) (fun _ _ _ h => h) (Or.inl ⟨by rfl, ?_⟩) (by assumption) ?_
        rotate_left
        · (intro W hW; (try dsimp only at hW); go_simp; try with_reducible rfl)
        try simp only [Act.put, List.setIfInBounds_toArray, List.set_cons_zero, List.set_cons_succ, List.getElem_toArray, List.getElem_cons_zero, List.getElem_cons_succ]
        refine wpAnyH_take (i := 6) (v := ?_) rfl (by kernel_rfl) (by kernel_rfl) (by kernel_rfl) (fun _ _ _ h => h) (Or.inl ⟨by rfl, ?_⟩) (by assumption) ?_
        rotate_left
        · (intro W hW; (try dsimp only at hW); go_simp; try with_reducible rfl)
        try simp only [Act.put, List.setIfInBounds_toArray, List.set_cons_zero, List.set_cons_succ, List.getElem_toArray, List.getElem_cons_zero, List.getElem_cons_succ]
        refine wpAnyH_ready (rs := [3]) (by kernel_rfl) (by simp) ?_
        refine AllReadyH.cons rfl (fun K hK => ?_) AllReadyH.nil
        simp only [List.getElem_toArray, List.getElem_cons_zero, List.getElem_cons_succ]
        go_simp
        go_at_call 40
        refine (itC_sm y.1 N HN v1 (by omega) _).mono ?_
        rintro e w2 ⟨rfl, rfl⟩
        refine hK.out _ _ hH0 (fun hH1 => ?_)
        clear hK K hH0
        have hH0 := hH1
        clear hH1
        try simp only [Act.put, List.setIfInBounds_toArray, List.set_cons_zero, List.set_cons_succ, List.getElem_toArray, List.getElem_cons_zero, List.getElem_cons_succ]
        refine wpAnyH_take (i := 4) (v := ?_) rfl (by kernel_rfl) (by kernel_rfl) (by kernel_rfl) (fun _ _ _ h => h) (Or.inl ⟨by rfl, ?_⟩) (by assumption) ?_
        rotate_left
        · (intro W hW; (try dsimp only at hW); go_simp; try with_reducible rfl)
        try simp only [Act.put, List.setIfInBounds_toArray, List.set_cons_zero, List.set_cons_succ, List.getElem_toArray, List.getElem_cons_zero, List.getElem_cons_succ]
        refine wpAnyH_ready (rs := [7]) (by kernel_rfl) (by simp) ?_
        refine AllReadyH.cons rfl (fun K hK => ?_) AllReadyH.nil
        simp only [List.getElem_toArray, List.getElem_cons_zero, List.getElem_cons_succ]
        go_simp
        go_at_call 40
        refine (itC_sm y.2 M HM v3 (by omega) _).mono ?_
        rintro e w2 ⟨rfl, rfl⟩
        refine hK.out _ _ hH0 (fun hH1 => ?_)
        clear hK K hH0
        have hH0 := hH1
        clear hH1
        try simp only [Act.put, List.setIfInBounds_toArray, List.set_cons_zero, List.set_cons_succ, List.getElem_toArray, List.getElem_cons_zero, List.getElem_cons_succ]
        refine wpAnyH_take (i := 8) (v := ?_) rfl (by kernel_rfl) (by kernel_rfl) (by kernel_rfl) (fun _ _ _ h => h) (Or.inl ⟨by rfl, ?_⟩) (by assumption) ?_
        rotate_left
        · (intro W hW; (try dsimp only at hW); go_simp; try with_reducible rfl)
        try simp only [Act.put, List.setIfInBounds_toArray, List.set_cons_zero, List.set_cons_succ, List.getElem_toArray, List.getElem_cons_zero, List.getElem_cons_succ]
        refine wpAnyH_take (i := 9) (v := ?_) rfl (by kernel_rfl) (by kernel_rfl) (by kernel_rfl) (fun _ _ _ h => h) (Or.inl ⟨by rfl, ?_⟩) (by assumption) ?_
        rotate_left
        · (intro W hW; (try dsimp only at hW); go_simp; try with_reducible rfl)
        try simp only [Act.put, List.setIfInBounds_toArray, List.set_cons_zero, List.set_cons_succ, List.getElem_toArray, List.getElem_cons_zero, List.getElem_cons_succ]
        refine wpAnyH_take (i := 10) (v := ?_) rfl (by kernel_rfl) (by kernel_rfl) (by kernel_rfl) (fun _ _ _ h => h) (Or.inl ⟨by rfl, ?_⟩) (by assumption) ?_
        rotate_left
        · (intro W hW; (try dsimp only at hW); go_simp; try with_reducible rfl)
        try simp only [Act.put, List.setIfInBounds_toArray, List.set_cons_zero, List.set_cons_succ, List.getElem_toArray, List.getElem_cons_zero, List.getElem_cons_succ]
        refine wpAnyH_done (by kernel_rfl) ?_ _
        go_wp2_with fail
        go_roundw
        case rel => exact ⟨k + 1, X3, by omega, by go_num, rfl, HF, F0a.pure hH0.2⟩
        case measure => simp [intOf]; omega
      · have hd : decide ((0 : Int) < (k : Int)) = true := decide_eq_true (by omega)
        have hd2 : 0 < k := h0
        have z4 : (⟨#[32]⟩ : ByteArray).size = 1 := rfl
        obtain ⟨X0, HX0, y0, k0⟩ := strC_add O ⟨#[32]⟩ (by omega) (by decide)
        obtain ⟨X3, HX3, y3, k3⟩ := strC_add X0 X2 (by omega) (by omega)
        have HF : Hid (X3 = bC (jnC m (k + 1))) := by
          unfold Hid
          rw [HX3.out, HX0.out, HSt.out, if_neg (by omega), HO.out, HWd.out]
          show bC _ ++ bC [32] ++ bC _ = _
          rw [bC_app, bC_app]; simp
        clear h0 z3 z4 y3 y1 y2 y0
        go_upto_region 7 with (fail)
        refine wp_region_held_drew (S := fun W => (W.cell? ⟨wz.heap.size, 0, none⟩ = some (.int .i64 y.1) ∧ W.cell? ⟨wz.heap.size, 1, none⟩ = some (.int .i64 y.2)) ∧ Fr none wa W) (by kernel_rfl) ⟨b5.cell, (Fr.refl _ _).drew⟩ (fun hH0 => ?_)
        refine wpAnyH_take (i := 0) (v := ?_) rfl (by kernel_rfl) (by kernel_rfl) (by kernel_rfl) (fun _ _ _ h => h) (Or.inl ⟨by rfl, ?_⟩) (by assumption) ?_
        rotate_left
        · (intro W hW; (try dsimp only at hW); go_simp; try with_reducible rfl)
        try simp only [Act.put, List.setIfInBounds_toArray, List.set_cons_zero, List.set_cons_succ, List.getElem_toArray, List.getElem_cons_zero, List.getElem_cons_succ]
        refine wpAnyH_take (i := 1) (v := ?_) rfl (by kernel_rfl) (by kernel_rfl) (by kernel_rfl) (fun _ _ _ h => h) (Or.inl ⟨by rfl, ?_⟩) (by assumption) ?_
        rotate_left
        · (intro W hW; (try dsimp only at hW); go_simp; try with_reducible rfl)
        try simp only [Act.put, List.setIfInBounds_toArray, List.set_cons_zero, List.set_cons_succ, List.getElem_toArray, List.getElem_cons_zero, List.getElem_cons_succ]
        refine wpAnyH_take (i := 2) (v := ?_) rfl (by kernel_rfl) (by kernel_rfl) (by kernel_rfl) (fun _ _ _ h => h) (Or.inl ⟨by rfl, ?_⟩) (by assumption) ?_
        rotate_left
        · (intro W hW; (try dsimp only at hW); go_simp; try with_reducible rfl)
        try simp only [Act.put, List.setIfInBounds_toArray, List.set_cons_zero, List.set_cons_succ, List.getElem_toArray, List.getElem_cons_zero, List.getElem_cons_succ]
        refine wpAnyH_take (i := 5) (v := ?_) rfl (by kernel_rfl) (by kernel_rfl) (by kernel_rfl) (fun _ _ _ h => h) (Or.inl ⟨by rfl, ?_⟩) (by assumption) ?_
        rotate_left
        · (intro W hW; (try dsimp only at hW); go_simp; try with_reducible rfl)
        try simp only [Act.put, List.setIfInBounds_toArray, List.set_cons_zero, List.set_cons_succ, List.getElem_toArray, List.getElem_cons_zero, List.getElem_cons_succ]
        refine wpAnyH_take (i := 6) (v := ?_) rfl (by kernel_rfl) (by kernel_rfl) (by kernel_rfl) (fun _ _ _ h => h) (Or.inl ⟨by rfl, ?_⟩) (by assumption) ?_
        rotate_left
        · (intro W hW; (try dsimp only at hW); go_simp; try with_reducible rfl)
        try simp only [Act.put, List.setIfInBounds_toArray, List.set_cons_zero, List.set_cons_succ, List.getElem_toArray, List.getElem_cons_zero, List.getElem_cons_succ]
        refine wpAnyH_ready (rs := [3]) (by kernel_rfl) (by simp) ?_
        refine AllReadyH.cons rfl (fun K hK => ?_) AllReadyH.nil
        simp only [List.getElem_toArray, List.getElem_cons_zero, List.getElem_cons_succ]
        go_simp
        go_at_call 40
        refine (itC_sm y.1 N HN v1 (by omega) _).mono ?_
        rintro e w2 ⟨rfl, rfl⟩
        refine hK.out _ _ hH0 (fun hH1 => ?_)
        clear hK K hH0
        have hH0 := hH1
        clear hH1
        try simp only [Act.put, List.setIfInBounds_toArray, List.set_cons_zero, List.set_cons_succ, List.getElem_toArray, List.getElem_cons_zero, List.getElem_cons_succ]
        refine wpAnyH_take (i := 4) (v := ?_) rfl (by kernel_rfl) (by kernel_rfl) (by kernel_rfl) (fun _ _ _ h => h) (Or.inl ⟨by rfl, ?_⟩) (by assumption) ?_
        rotate_left
        · (intro W hW; (try dsimp only at hW); go_simp; try with_reducible rfl)
        try simp only [Act.put, List.setIfInBounds_toArray, List.set_cons_zero, List.set_cons_succ, List.getElem_toArray, List.getElem_cons_zero, List.getElem_cons_succ]
        refine wpAnyH_ready (rs := [7]) (by kernel_rfl) (by simp) ?_
        refine AllReadyH.cons rfl (fun K hK => ?_) AllReadyH.nil
        simp only [List.getElem_toArray, List.getElem_cons_zero, List.getElem_cons_succ]
        go_simp
        go_at_call 40
        refine (itC_sm y.2 M HM v3 (by omega) _).mono ?_
        rintro e w2 ⟨rfl, rfl⟩
        refine hK.out _ _ hH0 (fun hH1 => ?_)
        clear hK K hH0
        have hH0 := hH1
        clear hH1
        try simp only [Act.put, List.setIfInBounds_toArray, List.set_cons_zero, List.set_cons_succ, List.getElem_toArray, List.getElem_cons_zero, List.getElem_cons_succ]
        refine wpAnyH_take (i := 8) (v := ?_) rfl (by kernel_rfl) (by kernel_rfl) (by kernel_rfl) (fun _ _ _ h => h) (Or.inl ⟨by rfl, ?_⟩) (by assumption) ?_
        rotate_left
        · (intro W hW; (try dsimp only at hW); go_simp; try with_reducible rfl)
        try simp only [Act.put, List.setIfInBounds_toArray, List.set_cons_zero, List.set_cons_succ, List.getElem_toArray, List.getElem_cons_zero, List.getElem_cons_succ]
        refine wpAnyH_take (i := 9) (v := ?_) rfl (by kernel_rfl) (by kernel_rfl) (by kernel_rfl) (fun _ _ _ h => h) (Or.inl ⟨by rfl, ?_⟩) (by assumption) ?_
        rotate_left
        · (intro W hW; (try dsimp only at hW); go_simp; try with_reducible rfl)
        try simp only [Act.put, List.setIfInBounds_toArray, List.set_cons_zero, List.set_cons_succ, List.getElem_toArray, List.getElem_cons_zero, List.getElem_cons_succ]
        refine wpAnyH_take (i := 10) (v := ?_) rfl (by kernel_rfl) (by kernel_rfl) (by kernel_rfl) (fun _ _ _ h => h) (Or.inl ⟨by rfl, ?_⟩) (by assumption) ?_
        rotate_left
        · (intro W hW; (try dsimp only at hW); go_simp; try with_reducible rfl)
        try simp only [Act.put, List.setIfInBounds_toArray, List.set_cons_zero, List.set_cons_succ, List.getElem_toArray, List.getElem_cons_zero, List.getElem_cons_succ]
        refine wpAnyH_done (by kernel_rfl) ?_ _
        go_wp2_with fail
        go_roundw
        case rel => exact ⟨k + 1, X3, by omega, by go_num, rfl, HF, F0a.pure hH0.2⟩
        case measure => simp [intOf]; omega
    · obtain rfl : k = m.length := by omega
      have HE : Hid (O = R) := by unfold Hid; rw [HO.out, HR.out]
      go_wp2_with fail
      go_ret
      exact ⟨by rw [← HE.out]; rfl, F1.pure F⟩
end Go.Proofs.YtkpgnhdmlikopaaGreatDoor

/- The law ClaimsContradict: its walk. -/
import Derived.Test.YtkpgnhdmlikopaaDoorProg
import Derived.Test.YtkpgnhdmlikopaaDoorJC12
import Derived.Test.YtkpgnhdmlikopaaDoorJC5
set_option linter.unusedSimpArgs false
set_option linter.unusedVariables false
namespace Go.Proofs.YtkpgnhdmlikopaaDoor
open Go.RowKit

/-- append of any slice, as a step of a region that draws its order; the operation may have a guard. -/
theorem step_anyG {P : Program} {t e : TypeId} {size bytes : Nat} (E : EInfo P t e size bytes) {w : World} {ops : Array Oper} {o : Oper} {a : Act} {tm : Array Value} {K : Act → World → Prop} {Q : Exit → Act → World → Prop} {E' : Prop} (hw : Region.wanted o (yielded ops tm) = true) (s x : Operand)
    (ho : o.op = .call { callee := .builtin .append, args := #[s, x], argTypes := #[t, t] })
    (base : Nat) (A : Option Addr) (n c : Nat) (xs : List Value) (hs : a.eval s = .slice A n c) (hown : w.ownsRow base e size (.slice A n c) n xs)
    (B : Option Addr) (m d : Nat) (news : List Value) (hx : a.eval x = .slice B m d) (hr : SlD w (fun _ => True) size (.slice B m d) news) (h1 : ∀ u ∈ news, u.oneCell' = true) (hb : (n + m) * bytes ≤ 140737488355328) (h63 : n + m ≤ maxLen) (hbase : base ≤ w.heap.size)
    (h : ∀ A' c' w', w'.ownsRow base e size (.slice A' (n + m) c') (n + m) (xs ++ news) → Fr (Value.slice A n c).ownBlock w w' → NewOr w.heap.size (.slice A n c) (.slice A' (n + m) c') → K (a.put o.dst (.slice A' (n + m) c')) w') :
    if Region.wanted o (yielded ops tm) = true then Oper.wp P o a w K Q else E' := by
  rw [if_pos hw]
  obtain ⟨A', c', w', hr, h2, h3, h4⟩ := app_run (P := P) (ty := o.type) E w base A n c xs hown B m d news hr h1 hb h63 hbase
  unfold Oper.wp execOp
  simp only [ho, resolve, invoke, builtin, Sem.run_bind, Sem.run_pure, Result.andThen_ok, List.map_toArray, List.map_cons, List.map_nil, hs, hx, hr]
  refine h A' c' w' h2 h3 ?_
  rcases h4 with bl' | bl'
  · exact .inl bl'
  · exact .inr ⟨_, bl', Nat.le_refl _⟩
theorem own_zeroC (w : World) : (w.alloc (.cells #[] 38)).ownsRow w.heap.size 38 2 (.slice (some ⟨w.heap.size, 0, none⟩) 0 0) 0 [] :=
  ⟨rfl, .inr ⟨w.heap.size, 0, #[], rfl, Nat.le_refl _, blk_new _ _, Nat.le_refl _, by unfold maxLen; omega, rfl, rfl⟩⟩
theorem lit_blk {w : World} {b : Nat} {x : Cl} {T : TypeId} (h : w.heap[b]? = some (.cells #[.int .i64 x.1, .int .i64 x.2] T (0, 0))) : SlD w (fun _ => True) 2 (.slice (some ⟨b, 0, none⟩) 1 1) [.int .i64 x.1, .int .i64 x.2] :=
  ⟨_, 1, 1, rfl, rfl, Nat.le_refl _, by unfold maxLen; omega, fun _ => ⟨b, 0, rfl, trivial, fun j u hu => by
    rw [Nat.zero_add, blk_cell h]
    match j, hu with
    | 0, hu => exact hu
    | 1, hu => exact hu
    | j + 2, hu => simp at hu⟩⟩
def oneC (L : List Cl) (j : Nat) : Bool := decide (∀ i : Nat, i < j → (ofC L (i : Int)).length ≤ 1)
theorem oneC_step (L : List Cl) (j : Nat) : oneC L (j + 1) = (oneC L j && decide ((ofC L (j : Int)).length ≤ 1)) := by
  unfold oneC
  rw [Bool.eq_iff_iff, Bool.and_eq_true, decide_eq_true_iff, decide_eq_true_iff, decide_eq_true_iff]
  constructor
  · exact fun h => ⟨fun i hi => h i (by omega), h j (by omega)⟩
  · rintro ⟨h1, h2⟩ i hi
    rcases Nat.lt_or_ge i j with hh | hh
    · exact h1 i hh
    · obtain rfl : i = j := by omega
      exact h2
theorem oneC_all {L : List Cl} (h : srtC L = L) : oneC L 8 = consC L := by
  rw [Bool.eq_iff_iff, cons_of L h]
  unfold oneC
  rw [decide_eq_true_iff]
def agC (L : List Cl) (x : Cl) (k : Nat) : Bool := (L.take k).any fun z => conC z x
theorem agC_step (L : List Cl) (x : Cl) (k : Nat) (hk : k < L.length) : agC L x (k + 1) = (agC L x k || conC L[k] x) := by
  unfold agC
  rw [List.take_succ_eq_append_getElem hk, List.any_append]
  simp
theorem cons_ag (L : List Cl) (x : Cl) : consC (L ++ [x]) = (consC L && !agC L x L.length) := by
  rw [consC_snoc]
  unfold agC
  rw [List.take_length]
  congr 1
  induction L with
  | nil => rfl
  | cons a r ih => simp only [List.all_cons, List.any_cons, Bool.not_or, ih]
set_option maxRecDepth 100000 in
set_option maxHeartbeats 600000 in
theorem lawCc_any (vt : Value) (tl : List Int) (w : World) (ht : SlI w none vt tl) (hE : Errs w) (hM : Mxl w) (hP : Spc w) :
    Calls Tryd.prog 4 #[vt] w fun e w' => e = .returned (.bool true) ∧ Fr none w w' := by
  go_enter Tryd.func4, Tryd.ntmps4
  go_wp2_with fail
  refine (tapeNew_any _ tl _ ht).mono ?_
  rintro e w1 ⟨g, rfl, hg, S1, F1⟩
  have hg1 := S1.lt
  clear ht
  go_wp2_with fail
  refine (mkclms_any g 6 w1 (by omega) S1).mono ?_
  rintro e w2 ⟨v2, m, rfl, hs2, hW2, hl2, S2, F2⟩
  have Hm : SlC w2 none v2 m := ⟨hs2.keep (dn_dm (by simp)), hW2⟩
  have hz2 := F2.size
  clear hs2 hW2 S1
  go_wp2_with fail
  refine (rsrt_any m v2 w2 Hm).mono ?_
  rintro e w3 ⟨v3, rfl, hs3, F3⟩
  have H3 := NwC.sl hs3 (srtC_wc m) (some g) (fun q e => by injection e with e; omega)
  have S3 := S2.fr F3
  have hz3 := F3.size
  have hag : srtC (srtC m) = srtC m := srtC_again m
  have hll := srtC_len m
  generalize srtC m = L at *
  have HAg := Lib.hid hag
  obtain ⟨AL, cL, rfl, _, _, _⟩ := H3.open_
  clear hs3 hag Hm S2
  go_wp2_with fail
  refine (mkclm_any g w3 S3).mono ?_
  rintro e w4 ⟨x, rfl, hwx, S4, F4⟩
  have H4 := H3.fr F4
  have hz4 := F4.size
  have HWx := Lib.hid hwx
  clear S3 H3 hwx
  go_upto_region 3 with (fail)
  generalize hW : w4.alloc _ = w5
  have F5 : Fr none w4 w5 := hW ▸ (Fr.refl none w4).alloc _
  obtain ⟨B5, hB5⟩ : ∃ B5, B5 = w4.heap.size := ⟨_, rfl⟩
  rw [← hB5]
  have b5 : CB2 w5 B5 (.int .i64 x.1) (.int .i64 x.2) 38 := by rw [← hW]; exact blk_new_at hB5 _
  have hB5a : B5 ≤ w4.heap.size := by omega
  have hB5b : w4.heap.size ≤ B5 := by omega
  clear hW hB5
  have S5 := S4.fr F5
  have H5 := H4.fr (F5.mono (r := some g))
  have hz5 := F5.size
  have l5 := blk_lt b5
  have hB5g : B5 ≠ g := by omega
  clear S4 H4
  go_wp2_with fail
  refine (mkclm_any g w5 S5).mono ?_
  rintro e w6 ⟨y, rfl, hwy, S6, F6⟩
  have H6 := H5.fr F6
  have b5 := b5.fr F6 (by simp; omega)
  have hz6 := F6.size
  clear S5 H5 hwy
  go_upto_region 4 with (fail)
  generalize hW : w6.alloc _ = w7
  have F7 : Fr none w6 w7 := hW ▸ (Fr.refl none w6).alloc _
  obtain ⟨B6, hB6⟩ : ∃ B6, B6 = w6.heap.size := ⟨_, rfl⟩
  rw [← hB6]
  have b6 : CB2 w7 B6 (.int .i64 y.1) (.int .i64 y.2) 38 := by rw [← hW]; exact blk_new_at hB6 _
  clear hW hB6
  have HSL := Lib.hid (H6.weak.fr F7)
  have HLl : Hid (L.length ≤ 1000000) := by unfold Hid; omega
  have b5 := b5.fr F7 (by simp)
  have F07 : Fr none w w7 := (((((F1.own F2 (fun q e => by injection e with e; omega)).pure F3).own F4 (fun q e => by injection e with e; omega)).pure F5).own F6 (fun q e => by injection e with e; omega)).pure F7
  have hll2 : L.length ≤ 128 := hll
  clear F1 F2 F3 F4 F5 F6 F7 H6 hz2 hz3 hz4 hz5 hz6 hg hg1 hB5g S6 hl2 l5 hB5a hB5b
  go_cut [32] (fun s32 wq => s32 = .bool false ∧ Fr none w7 wq)
  case first =>
    cases hZ : conC x y with
    | true =>
      have HZ := Lib.hid hZ
      have HZ2 : Hid (conC y x = true) := by unfold Hid; rw [conC_comm]; exact hZ
      clear hZ
      refine wp_region_held_drew (S := fun W => (W.cell? ⟨B5, 0, none⟩ = some (.int .i64 x.1) ∧ W.cell? ⟨B5, 1, none⟩ = some (.int .i64 x.2)) ∧ (W.cell? ⟨B6, 0, none⟩ = some (.int .i64 y.1) ∧ W.cell? ⟨B6, 1, none⟩ = some (.int .i64 y.2)) ∧ Fr none w7 W) (by kernel_rfl) ⟨b5.cell, b6.cell, (Fr.refl _ _).drew⟩ (fun hH0 => ?_)
      refine wpAnyH_take (i := 0) (v := ?_) rfl (by kernel_rfl) (by kernel_rfl) (by kernel_rfl) (fun _ _ _ h => h) (Or.inl ⟨by rfl, ?_⟩) (by assumption) ?_
      rotate_left
      · (intro W hW; (try dsimp only at hW); go_simp; try with_reducible rfl)
      try simp only [Act.put, List.setIfInBounds_toArray, List.set_cons_zero, List.set_cons_succ, List.getElem_toArray, List.getElem_cons_zero, List.getElem_cons_succ]
      refine wpAnyH_take (i := 1) (v := ?_) rfl (by kernel_rfl) (by kernel_rfl) (by kernel_rfl) (fun _ _ _ h => h) (Or.inl ⟨by rfl, ?_⟩) (by assumption) ?_
      rotate_left
      · (intro W hW; (try dsimp only at hW); go_simp; try with_reducible rfl)
      try simp only [Act.put, List.setIfInBounds_toArray, List.set_cons_zero, List.set_cons_succ, List.getElem_toArray, List.getElem_cons_zero, List.getElem_cons_succ]
      refine wpAnyH_take (i := 3) (v := ?_) rfl (by kernel_rfl) (by kernel_rfl) (by kernel_rfl) (fun _ _ _ h => h) (Or.inl ⟨by rfl, ?_⟩) (by assumption) ?_
      rotate_left
      · (intro W hW; (try dsimp only at hW); go_simp; try with_reducible rfl)
      try simp only [Act.put, List.setIfInBounds_toArray, List.set_cons_zero, List.set_cons_succ, List.getElem_toArray, List.getElem_cons_zero, List.getElem_cons_succ]
      refine wpAnyH_take (i := 4) (v := ?_) rfl (by kernel_rfl) (by kernel_rfl) (by kernel_rfl) (fun _ _ _ h => h) (Or.inl ⟨by rfl, ?_⟩) (by assumption) ?_
      rotate_left
      · (intro W hW; (try dsimp only at hW); go_simp; try with_reducible rfl)
      try simp only [Act.put, List.setIfInBounds_toArray, List.set_cons_zero, List.set_cons_succ, List.getElem_toArray, List.getElem_cons_zero, List.getElem_cons_succ]
      refine wpAnyH_ready (rs := [2]) (by kernel_rfl) (by simp) ?_
      refine AllReadyH.cons rfl (fun K hK => ?_) AllReadyH.nil
      simp only [List.getElem_toArray, List.getElem_cons_zero, List.getElem_cons_succ]
      go_simp
      go_at_call 16
      refine (con_any x y _).mono ?_
      rintro e wN ⟨rfl, FN⟩
      have FN := hH0.2.2.pure FN
      refine hK.out _ _ ⟨(b5.fr FN (by simp)).cell, (b6.fr FN (by simp)).cell, FN⟩ (fun hH1 => ?_)
      clear hK K hH0 FN
      have hH0 := hH1
      clear hH1
      rw [HZ.out]
      try simp only [Act.put, List.setIfInBounds_toArray, List.set_cons_zero, List.set_cons_succ, List.getElem_toArray, List.getElem_cons_zero, List.getElem_cons_succ]
      refine wpAnyH_ready (rs := [5]) (by kernel_rfl) (by simp) ?_
      refine AllReadyH.cons rfl (fun K hK => ?_) AllReadyH.nil
      simp only [List.getElem_toArray, List.getElem_cons_zero, List.getElem_cons_succ]
      go_simp
      go_at_call 16
      refine (con_any y x _).mono ?_
      rintro e wN ⟨rfl, FN⟩
      have FN := hH0.2.2.pure FN
      refine hK.out _ _ ⟨(b5.fr FN (by simp)).cell, (b6.fr FN (by simp)).cell, FN⟩ (fun hH1 => ?_)
      clear hK K hH0 FN
      have hH0 := hH1
      clear hH1
      rw [HZ2.out]
      try simp only [Act.put, List.setIfInBounds_toArray, List.set_cons_zero, List.set_cons_succ, List.getElem_toArray, List.getElem_cons_zero, List.getElem_cons_succ]
      refine wpAnyH_take (i := 6) (v := ?_) rfl (by kernel_rfl) (by kernel_rfl) (by kernel_rfl) (fun _ _ _ h => h) (Or.inl ⟨by rfl, ?_⟩) (by assumption) ?_
      rotate_left
      · (intro W hW; (try dsimp only at hW); go_simp; try with_reducible rfl)
      try simp only [Act.put, List.setIfInBounds_toArray, List.set_cons_zero, List.set_cons_succ, List.getElem_toArray, List.getElem_cons_zero, List.getElem_cons_succ]
      refine wpAnyH_take (i := 7) (v := ?_) rfl (by kernel_rfl) (by kernel_rfl) (by kernel_rfl) (fun _ _ _ h => h) (Or.inl ⟨by rfl, ?_⟩) (by assumption) ?_
      rotate_left
      · (intro W hW; (try dsimp only at hW); go_simp; try with_reducible rfl)
      try simp only [Act.put, List.setIfInBounds_toArray, List.set_cons_zero, List.set_cons_succ, List.getElem_toArray, List.getElem_cons_zero, List.getElem_cons_succ]
      refine wpAnyH_take (i := 8) (v := ?_) rfl (by kernel_rfl) (by kernel_rfl) (by kernel_rfl) (fun _ _ _ h => h) (Or.inl ⟨by rfl, ?_⟩) (by assumption) ?_
      rotate_left
      · (intro W hW; (try dsimp only at hW); go_simp; try with_reducible rfl)
      try simp only [Act.put, List.setIfInBounds_toArray, List.set_cons_zero, List.set_cons_succ, List.getElem_toArray, List.getElem_cons_zero, List.getElem_cons_succ]
      refine wpAnyH_take (i := 9) (v := ?_) rfl (by kernel_rfl) (by kernel_rfl) (by kernel_rfl) (fun _ _ _ h => h) (Or.inl ⟨by rfl, ?_⟩) (by assumption) ?_
      rotate_left
      · (intro W hW; (try dsimp only at hW); go_simp; try with_reducible rfl)
      try simp only [Act.put, List.setIfInBounds_toArray, List.set_cons_zero, List.set_cons_succ, List.getElem_toArray, List.getElem_cons_zero, List.getElem_cons_succ]
      refine wpAnyH_ready (rs := [10]) (by kernel_rfl) (by simp) ?_
      refine AllReadyH.cons rfl (fun K hK => ?_) AllReadyH.nil
      simp only [List.getElem_toArray, List.getElem_cons_zero, List.getElem_cons_succ]
      go_simp
      go_at_call 16
      refine (con_any x x _).mono ?_
      rintro e wN ⟨rfl, FN⟩
      have FN := hH0.2.2.pure FN
      refine hK.out _ _ ⟨(b5.fr FN (by simp)).cell, (b6.fr FN (by simp)).cell, FN⟩ (fun hH1 => ?_)
      clear hK K hH0 FN
      have hH0 := hH1
      clear hH1
      rw [conC_self]
      try simp only [Act.put, List.setIfInBounds_toArray, List.set_cons_zero, List.set_cons_succ, List.getElem_toArray, List.getElem_cons_zero, List.getElem_cons_succ]
      refine wpAnyH_take (i := 11) (v := ?_) rfl (by kernel_rfl) (by kernel_rfl) (by kernel_rfl) (fun _ _ _ h => h) (Or.inl ⟨by rfl, ?_⟩) (by assumption) ?_
      rotate_left
      · (intro W hW; (try dsimp only at hW); go_simp; try with_reducible rfl)
      try simp only [Act.put, List.setIfInBounds_toArray, List.set_cons_zero, List.set_cons_succ, List.getElem_toArray, List.getElem_cons_zero, List.getElem_cons_succ]
      refine wpAnyH_done (by kernel_rfl) ?_ _
      go_wp2_with fail
      go_meet
      exact ⟨rfl, hH0.2.2⟩
    | false =>
      have HZ := Lib.hid hZ
      have HZ2 : Hid (conC y x = false) := by unfold Hid; rw [conC_comm]; exact hZ
      clear hZ
      refine wp_region_held_drew (S := fun W => (W.cell? ⟨B5, 0, none⟩ = some (.int .i64 x.1) ∧ W.cell? ⟨B5, 1, none⟩ = some (.int .i64 x.2)) ∧ (W.cell? ⟨B6, 0, none⟩ = some (.int .i64 y.1) ∧ W.cell? ⟨B6, 1, none⟩ = some (.int .i64 y.2)) ∧ Fr none w7 W) (by kernel_rfl) ⟨b5.cell, b6.cell, (Fr.refl _ _).drew⟩ (fun hH0 => ?_)
      refine wpAnyH_take (i := 0) (v := ?_) rfl (by kernel_rfl) (by kernel_rfl) (by kernel_rfl) (fun _ _ _ h => h) (Or.inl ⟨by rfl, ?_⟩) (by assumption) ?_
      rotate_left
      · (intro W hW; (try dsimp only at hW); go_simp; try with_reducible rfl)
      try simp only [Act.put, List.setIfInBounds_toArray, List.set_cons_zero, List.set_cons_succ, List.getElem_toArray, List.getElem_cons_zero, List.getElem_cons_succ]
      refine wpAnyH_take (i := 1) (v := ?_) rfl (by kernel_rfl) (by kernel_rfl) (by kernel_rfl) (fun _ _ _ h => h) (Or.inl ⟨by rfl, ?_⟩) (by assumption) ?_
      rotate_left
      · (intro W hW; (try dsimp only at hW); go_simp; try with_reducible rfl)
      try simp only [Act.put, List.setIfInBounds_toArray, List.set_cons_zero, List.set_cons_succ, List.getElem_toArray, List.getElem_cons_zero, List.getElem_cons_succ]
      refine wpAnyH_take (i := 3) (v := ?_) rfl (by kernel_rfl) (by kernel_rfl) (by kernel_rfl) (fun _ _ _ h => h) (Or.inl ⟨by rfl, ?_⟩) (by assumption) ?_
      rotate_left
      · (intro W hW; (try dsimp only at hW); go_simp; try with_reducible rfl)
      try simp only [Act.put, List.setIfInBounds_toArray, List.set_cons_zero, List.set_cons_succ, List.getElem_toArray, List.getElem_cons_zero, List.getElem_cons_succ]
      refine wpAnyH_take (i := 4) (v := ?_) rfl (by kernel_rfl) (by kernel_rfl) (by kernel_rfl) (fun _ _ _ h => h) (Or.inl ⟨by rfl, ?_⟩) (by assumption) ?_
      rotate_left
      · (intro W hW; (try dsimp only at hW); go_simp; try with_reducible rfl)
      try simp only [Act.put, List.setIfInBounds_toArray, List.set_cons_zero, List.set_cons_succ, List.getElem_toArray, List.getElem_cons_zero, List.getElem_cons_succ]
      refine wpAnyH_ready (rs := [2]) (by kernel_rfl) (by simp) ?_
      refine AllReadyH.cons rfl (fun K hK => ?_) AllReadyH.nil
      simp only [List.getElem_toArray, List.getElem_cons_zero, List.getElem_cons_succ]
      go_simp
      go_at_call 16
      refine (con_any x y _).mono ?_
      rintro e wN ⟨rfl, FN⟩
      have FN := hH0.2.2.pure FN
      refine hK.out _ _ ⟨(b5.fr FN (by simp)).cell, (b6.fr FN (by simp)).cell, FN⟩ (fun hH1 => ?_)
      clear hK K hH0 FN
      have hH0 := hH1
      clear hH1
      rw [HZ.out]
      try simp only [Act.put, List.setIfInBounds_toArray, List.set_cons_zero, List.set_cons_succ, List.getElem_toArray, List.getElem_cons_zero, List.getElem_cons_succ]
      refine wpAnyH_ready (rs := [5]) (by kernel_rfl) (by simp) ?_
      refine AllReadyH.cons rfl (fun K hK => ?_) AllReadyH.nil
      simp only [List.getElem_toArray, List.getElem_cons_zero, List.getElem_cons_succ]
      go_simp
      go_at_call 16
      refine (con_any y x _).mono ?_
      rintro e wN ⟨rfl, FN⟩
      have FN := hH0.2.2.pure FN
      refine hK.out _ _ ⟨(b5.fr FN (by simp)).cell, (b6.fr FN (by simp)).cell, FN⟩ (fun hH1 => ?_)
      clear hK K hH0 FN
      have hH0 := hH1
      clear hH1
      rw [HZ2.out]
      try simp only [Act.put, List.setIfInBounds_toArray, List.set_cons_zero, List.set_cons_succ, List.getElem_toArray, List.getElem_cons_zero, List.getElem_cons_succ]
      refine wpAnyH_take (i := 6) (v := ?_) rfl (by kernel_rfl) (by kernel_rfl) (by kernel_rfl) (fun _ _ _ h => h) (Or.inl ⟨by rfl, ?_⟩) (by assumption) ?_
      rotate_left
      · (intro W hW; (try dsimp only at hW); go_simp; try with_reducible rfl)
      try simp only [Act.put, List.setIfInBounds_toArray, List.set_cons_zero, List.set_cons_succ, List.getElem_toArray, List.getElem_cons_zero, List.getElem_cons_succ]
      refine wpAnyH_take (i := 7) (v := ?_) rfl (by kernel_rfl) (by kernel_rfl) (by kernel_rfl) (fun _ _ _ h => h) (Or.inl ⟨by rfl, ?_⟩) (by assumption) ?_
      rotate_left
      · (intro W hW; (try dsimp only at hW); go_simp; try with_reducible rfl)
      try simp only [Act.put, List.setIfInBounds_toArray, List.set_cons_zero, List.set_cons_succ, List.getElem_toArray, List.getElem_cons_zero, List.getElem_cons_succ]
      refine wpAnyH_take (i := 8) (v := ?_) rfl (by kernel_rfl) (by kernel_rfl) (by kernel_rfl) (fun _ _ _ h => h) (Or.inl ⟨by rfl, ?_⟩) (by assumption) ?_
      rotate_left
      · (intro W hW; (try dsimp only at hW); go_simp; try with_reducible rfl)
      try simp only [Act.put, List.setIfInBounds_toArray, List.set_cons_zero, List.set_cons_succ, List.getElem_toArray, List.getElem_cons_zero, List.getElem_cons_succ]
      refine wpAnyH_take (i := 9) (v := ?_) rfl (by kernel_rfl) (by kernel_rfl) (by kernel_rfl) (fun _ _ _ h => h) (Or.inl ⟨by rfl, ?_⟩) (by assumption) ?_
      rotate_left
      · (intro W hW; (try dsimp only at hW); go_simp; try with_reducible rfl)
      try simp only [Act.put, List.setIfInBounds_toArray, List.set_cons_zero, List.set_cons_succ, List.getElem_toArray, List.getElem_cons_zero, List.getElem_cons_succ]
      refine wpAnyH_ready (rs := [10]) (by kernel_rfl) (by simp) ?_
      refine AllReadyH.cons rfl (fun K hK => ?_) AllReadyH.nil
      simp only [List.getElem_toArray, List.getElem_cons_zero, List.getElem_cons_succ]
      go_simp
      go_at_call 16
      refine (con_any x x _).mono ?_
      rintro e wN ⟨rfl, FN⟩
      have FN := hH0.2.2.pure FN
      refine hK.out _ _ ⟨(b5.fr FN (by simp)).cell, (b6.fr FN (by simp)).cell, FN⟩ (fun hH1 => ?_)
      clear hK K hH0 FN
      have hH0 := hH1
      clear hH1
      rw [conC_self]
      try simp only [Act.put, List.setIfInBounds_toArray, List.set_cons_zero, List.set_cons_succ, List.getElem_toArray, List.getElem_cons_zero, List.getElem_cons_succ]
      refine wpAnyH_take (i := 11) (v := ?_) rfl (by kernel_rfl) (by kernel_rfl) (by kernel_rfl) (fun _ _ _ h => h) (Or.inl ⟨by rfl, ?_⟩) (by assumption) ?_
      rotate_left
      · (intro W hW; (try dsimp only at hW); go_simp; try with_reducible rfl)
      try simp only [Act.put, List.setIfInBounds_toArray, List.set_cons_zero, List.set_cons_succ, List.getElem_toArray, List.getElem_cons_zero, List.getElem_cons_succ]
      refine wpAnyH_done (by kernel_rfl) ?_ _
      go_wp2_with fail
      go_meet
      exact ⟨rfl, hH0.2.2⟩
  case rest =>
    obtain ⟨w8, hw8⟩ : ∃ w8 : World, w8 = wc := ⟨_, rfl⟩
    subst hw8
    obtain ⟨rfl, F78⟩ := hcut
    have F08 := F07.pure F78
    have b5 := b5.fr F78 (by simp)
    have HSL := Lib.hid (HSL.out.fr F78)
    clear b6 F07 F78
    go_wp2_with fail
    go_loopw [7, 8] (fun s7 s8 wr => ∃ (j : Nat) (o : Bool), j ≤ 8 ∧ s8 = .int .i64 (j : Int) ∧ s7 = .bool o ∧ Hid (o = oneC L j) ∧ Fr none w8 wr) (fun _ s8 _ => 8 - (intOf s8).toNat)
    case atStart => exact ⟨0, true, by omega, rfl, rfl, by unfold Hid oneC; simp, Fr.refl _ _⟩
    case round =>
      obtain ⟨j, o, hj, rfl, rfl, HO, F⟩ := hrel
      obtain ⟨wz, hwz⟩ : ∃ wz : World, wz = wr := ⟨_, rfl⟩
      subst hwz
      by_cases hlt : j < 8
      · cases o with
        | false =>
          have HS : Hid (false = oneC L (j + 1)) := by unfold Hid; rw [oneC_step, ← HO.out]; rfl
          go_wp2_with fail
          go_roundw
          case rel => exact ⟨j + 1, false, by omega, by go_num, rfl, HS, F⟩
          case measure => simp [intOf]; omega
        | true =>
          have hof : (ofC L (j : Int)).length ≤ 128 := by
            unfold ofC
            rw [List.length_map]
            exact Nat.le_trans (List.length_filter_le _ _) (srtC_len L)
          go_wp2_with fail
          refine (cof_any L _ (j : Int) wz (HSL.out.fr F) HLl.out).mono ?_
          rintro e w9 ⟨v9, rfl, H9, F9⟩
          have HS : Hid (oneC L (j + 1) = decide ((ofC L (j : Int)).length ≤ 1)) := by unfold Hid; rw [oneC_step, ← HO.out]; rfl
          generalize ofC L (j : Int) = O at *
          obtain ⟨A9, c9, rfl, _, _, _⟩ := H9.open_
          by_cases ho : O.length ≤ 1
          · have hd : decide ((O.length : Int) ≤ 1) = true := decide_eq_true (by omega)
            have HS2 : Hid (true = oneC L (j + 1)) := by unfold Hid; rw [HS.out, decide_eq_true ho]
            clear ho H9
            go_wp2_with fail
            go_roundw
            case rel => exact ⟨j + 1, true, by omega, by go_num, rfl, HS2, F.pure F9⟩
            case measure => simp [intOf]; omega
          · have hd : decide ((O.length : Int) ≤ 1) = false := decide_eq_false (by omega)
            have HS2 : Hid (false = oneC L (j + 1)) := by unfold Hid; rw [HS.out, decide_eq_false ho]
            clear ho H9
            go_wp2_with fail
            go_roundw
            case rel => exact ⟨j + 1, false, by omega, by go_num, rfl, HS2, F.pure F9⟩
            case measure => simp [intOf]; omega
      · obtain rfl : j = 8 := by omega
        rw [show ((8 : Nat) : Int) = 8 from rfl]
        have HO : Hid (consC L = o) := by unfold Hid; rw [HO.out]; exact (oneC_all HAg.out).symm
        have F0z := F08.pure F
        have b5 := b5.fr F (by simp)
        have HSL := Lib.hid (HSL.out.fr F)
        obtain ⟨_, _, e, _, _, hcL⟩ := HSL.out.open_
        injection e with e1 e2 e3
        subst e1 e3
        have HC := Lib.hid hcL
        clear hcL F F08 hlt hj e2
        go_wp2_with fail
        go_loopw [9, 47] (fun s9 s47 wr => ∃ (k : Nat) (u : Bool), k ≤ L.length ∧ s47 = .int .i64 (k : Int) ∧ s9 = .bool u ∧ Hid (u = agC L x k) ∧ Fr none wz wr) (fun _ s47 _ => L.length - (intOf s47).toNat)
        case atStart => exact ⟨0, false, by omega, rfl, rfl, by unfold Hid agC; simp, Fr.refl _ _⟩
        case round =>
          obtain ⟨k, u, hk, rfl, rfl, HU, F⟩ := hrel
          obtain ⟨wk, hwk⟩ : ∃ wk : World, wk = wr := ⟨_, rfl⟩
          subst hwk
          by_cases hlt : k < L.length
          · obtain ⟨b, off, rfl, hb, _, hcc⟩ := HC.out (by omega)
            obtain ⟨c1, c2⟩ := hcc k hlt
            have c1 := F.keep c1 (by simp)
            have c2 := F.keep c2 (by simp)
            have HS : Hid (agC L x (k + 1) = (u || conC L[k] x)) := by unfold Hid; rw [agC_step L x k hlt, ← HU.out]
            clear hcc
            generalize L[k] = z at *
            go_upto_region 15 with (fail)
            generalize hW : wk.alloc _ = wa
            have Fa : Fr none wk wa := hW ▸ (Fr.refl none wk).alloc _
            have b11 : CB2 wa wk.heap.size (.int .i64 z.1) (.int .i64 z.2) 38 := by rw [← hW]; exact blk_new _ _
            clear hW c1 c2
            cases u with
            | true =>
              have HS2 : Hid (true = agC L x (k + 1)) := by unfold Hid; rw [HS.out]; rfl
              go_wp2_with fail
              go_roundw
              case rel => exact ⟨k + 1, true, by omega, by go_num, rfl, HS2, F.pure Fa⟩
              case measure => simp [intOf]; omega
            | false =>
              have b5a := b5.fr (F.pure Fa) (by simp)
              obtain ⟨r1, r2⟩ := b11.cell
              obtain ⟨r3, r4⟩ := b5a.cell
              have l11 := blk_lt b11
              have l5 := blk_lt b5a
              go_wp2_with fail
              refine (con_any z x _).mono ?_
              rintro e w9 ⟨rfl, F9⟩
              have HS2 : Hid (conC z x = agC L x (k + 1)) := by unfold Hid; rw [HS.out]; rfl
              cases hzx : conC z x
              all_goals
                have HS3 := Lib.hid (hzx.symm.trans HS2.out)
                clear hzx HS2
                go_wp2_with fail
                go_roundw
                case rel => exact ⟨k + 1, _, by omega, by go_num, rfl, HS3, (F.pure Fa).pure F9⟩
                case measure => simp [intOf]; omega
          · obtain rfl : k = L.length := by omega
            have F0k := F0z.pure F
            have b5 := b5.fr F (by simp)
            have HSL := Lib.hid (HSL.out.fr F)
            have HCn : Hid (consC (L ++ [x]) = (o && !u)) := by unfold Hid; rw [cons_ag, HO.out, ← HU.out]
            have HWl : Hid (∀ c ∈ L ++ [x], Wc c) := snoc_wc HSL.out.2 HWx.out
            have HLx : Hid ((L ++ [x]).length ≤ 1000000) := by unfold Hid; simp; omega
            have HT := Lib.hid (show Errs wk ∧ Mxl wk ∧ Spc wk from ⟨hE.fr F0k, hM.fr F0k, hP.fr F0k⟩)
            clear F F0z HU hlt hk HC
            go_upto_region 17 with (fail)
            cases o with
            | false =>
              have HCn : Hid (consC (L ++ [x]) = false) := HCn.out
              refine wp_region_held_drew (S := fun W => (W.cell? ⟨B5, 0, none⟩ = some (.int .i64 x.1) ∧ W.cell? ⟨B5, 1, none⟩ = some (.int .i64 x.2)) ∧ Fr none wk W) (by kernel_rfl) ⟨b5.cell, (Fr.refl _ _).drew⟩ (fun hH0 => ?_)
              refine wpAnyH_take (i := 0) (v := ?_) rfl (by kernel_rfl) (by kernel_rfl) (by kernel_rfl) (fun _ _ _ h => h) (Or.inl ⟨by rfl, ?_⟩) (by assumption) ?_
              rotate_left
              · (intro W hW; (try dsimp only at hW); go_simp; try with_reducible rfl)
              try simp only [Act.put, List.setIfInBounds_toArray, List.set_cons_zero, List.set_cons_succ, List.getElem_toArray, List.getElem_cons_zero, List.getElem_cons_succ]
              refine wpAnyH_take (i := 2) (v := ?_) rfl (by kernel_rfl) (by kernel_rfl) (by kernel_rfl) (fun _ _ _ h => h) (Or.inl ⟨by rfl, ?_⟩) (by assumption) ?_
              rotate_left
              · (intro W hW; (try dsimp only at hW); go_simp; try with_reducible rfl)
              try simp only [Act.put, List.setIfInBounds_toArray, List.set_cons_zero, List.set_cons_succ, List.getElem_toArray, List.getElem_cons_zero, List.getElem_cons_succ]
              refine wpAnyH_ready (rs := [1]) (by kernel_rfl) (by simp) ?_
              refine AllReadyH.cons rfl (fun K hK => ?_) AllReadyH.nil
              simp only [List.getElem_toArray, List.getElem_cons_zero, List.getElem_cons_succ]
              go_simp
              go_at_call 18
              refine (ccons_any L _ _ (HSL.out.fr hH0.2) HLl.out).mono ?_
              rintro e wN ⟨rfl, FN⟩
              have FN := hH0.2.pure FN
              refine hK.out _ _ ⟨(b5.fr FN (by simp)).cell, FN⟩ (fun hH1 => ?_)
              clear hK K hH0 FN
              have hH0 := hH1
              clear hH1
              rw [HO.out]
              try simp only [Act.put, List.setIfInBounds_toArray, List.set_cons_zero, List.set_cons_succ, List.getElem_toArray, List.getElem_cons_zero, List.getElem_cons_succ]
              refine wpAnyH_take (i := 3) (v := ?_) rfl (by kernel_rfl) (by kernel_rfl) (by kernel_rfl) (fun _ _ _ h => h) (Or.inl ⟨by rfl, ?_⟩) (by assumption) ?_
              rotate_left
              · (intro W hW; (try dsimp only at hW); go_simp; try with_reducible rfl)
              try simp only [Act.put, List.setIfInBounds_toArray, List.set_cons_zero, List.set_cons_succ, List.getElem_toArray, List.getElem_cons_zero, List.getElem_cons_succ]
              refine wpAnyH_take (i := 4) (v := ?_) rfl (by kernel_rfl) (by kernel_rfl) (by kernel_rfl) (fun _ _ _ h => h) (Or.inl ⟨by rfl, ?_⟩) (by assumption) ?_
              rotate_left
              · (intro W hW; (try dsimp only at hW); go_simp; try with_reducible rfl)
              try simp only [Act.put, List.setIfInBounds_toArray, List.set_cons_zero, List.set_cons_succ, List.getElem_toArray, List.getElem_cons_zero, List.getElem_cons_succ]
              refine wpAnyH_take (i := 6) (v := ?_) rfl (by kernel_rfl) (by kernel_rfl) (by kernel_rfl) (fun _ _ _ h => h) (Or.inl ⟨by rfl, ?_⟩) (by assumption) ?_
              rotate_left
              · (intro W hW; (try dsimp only at hW); go_simp; try with_reducible rfl)
              try simp only [Act.put, List.setIfInBounds_toArray, List.set_cons_zero, List.set_cons_succ, List.getElem_toArray, List.getElem_cons_zero, List.getElem_cons_succ]
              refine wpAnyH_take (i := 8) (v := ?_) rfl (by kernel_rfl) (by kernel_rfl) (by kernel_rfl) (fun _ _ _ h => h) (Or.inl ⟨by rfl, ?_⟩) (by assumption) ?_
              rotate_left
              · (intro W hW; (try dsimp only at hW); go_simp; try with_reducible rfl)
              try simp only [Act.put, List.setIfInBounds_toArray, List.set_cons_zero, List.set_cons_succ, List.getElem_toArray, List.getElem_cons_zero, List.getElem_cons_succ]
              refine wpAnyH_take (i := 12) (v := ?_) rfl (by kernel_rfl) (by kernel_rfl) (by kernel_rfl) (fun _ _ _ h => h) (Or.inl ⟨by rfl, ?_⟩) (by assumption) ?_
              rotate_left
              · (intro W hW; (try dsimp only at hW); go_simp; try with_reducible rfl)
              try simp only [Act.put, List.setIfInBounds_toArray, List.set_cons_zero, List.set_cons_succ, List.getElem_toArray, List.getElem_cons_zero, List.getElem_cons_succ]
              have G0 := hH0.2
              have hzN := G0.size
              refine wpAnyH_ready (rs := [5, 9]) (by kernel_rfl) (by simp) ?_
              refine AllReadyH.cons rfl (fun K hK => ?_) (AllReadyH.cons rfl (fun K hK => ?_) AllReadyH.nil)
              · have G1 := G0.alloc (.cells #[] 38)
                have own0 := own_zeroC wN
                have hz1 : (wN.alloc (.cells #[] 38)).heap.size = wN.heap.size + 1 := by simp
                have hb1 := blk_new wN (.cells #[] 38)
                obtain ⟨BN, hBN⟩ : ∃ BN, wN.heap.size = BN := ⟨_, rfl⟩
                rw [hBN] at own0 hz1 hzN
                simp only [List.getElem_toArray, List.getElem_cons_zero, List.getElem_cons_succ]
                go_simp
                refine hK.out _ _ ⟨(b5.fr G1 (by simp)).cell, G1⟩ (fun hH9 => ?_)
                clear hK K hH0
                have hH0 := hH9
                clear hH9
                try simp only [Act.put, List.setIfInBounds_toArray, List.set_cons_zero, List.set_cons_succ, List.getElem_toArray, List.getElem_cons_zero, List.getElem_cons_succ]
                refine wpAnyH_ready (rs := [7, 9]) (by kernel_rfl) (by simp) ?_
                refine AllReadyH.cons rfl (fun K hK => ?_) (AllReadyH.cons rfl (fun K hK => ?_) AllReadyH.nil)
                · skip
                  simp only [List.getElem_toArray, List.getElem_cons_zero, List.getElem_cons_succ]
                  refine step_anyG eiClm (by rfl) _ _ rfl BN (some ⟨BN, 0, none⟩) 0 0 [] rfl own0 AL L.length cL (flC L) rfl ((HSL.out.fr G1).1.any) (flC_one L) (by omega) (by unfold maxLen; omega) (by omega) ?_
                  intro A5 c5 w5 own5 F5 _
                  simp only [Nat.zero_add, List.nil_append] at own5 ⊢
                  have F5 : Fr (some BN) _ w5 := F5
                  have G5 := (G1).own F5 (fun q e => by injection e with e; omega)
                  refine hK.out _ _ ⟨(b5.fr G5 (by simp)).cell, G5⟩ (fun hH9 => ?_)
                  clear hK K hH0
                  have hH0 := hH9
                  clear hH9
                  try simp only [Act.put, List.setIfInBounds_toArray, List.set_cons_zero, List.set_cons_succ, List.getElem_toArray, List.getElem_cons_zero, List.getElem_cons_succ]
                  refine wpAnyH_ready (rs := [9]) (by kernel_rfl) (by simp) ?_
                  refine AllReadyH.cons rfl (fun K hK => ?_) AllReadyH.nil
                  have hz5 := F5.size
                  have G6 := G5.alloc (.cells #[.int .i64 x.1, .int .i64 x.2] 38)
                  have hsrc := lit_blk (blk_new w5 (.cells #[.int .i64 x.1, .int .i64 x.2] 38))
                  have own6 := own5.alloc (.cells #[.int .i64 x.1, .int .i64 x.2] 38)
                  simp only [List.getElem_toArray, List.getElem_cons_zero, List.getElem_cons_succ]
                  go_simp
                  refine hK.out _ _ ⟨(b5.fr G6 (by simp)).cell, G6⟩ (fun hH9 => ?_)
                  clear hK K hH0
                  have hH0 := hH9
                  clear hH9
                  try simp only [Act.put, List.setIfInBounds_toArray, List.set_cons_zero, List.set_cons_succ, List.getElem_toArray, List.getElem_cons_zero, List.getElem_cons_succ]
                  refine wpAnyH_ready (rs := [10]) (by kernel_rfl) (by simp) ?_
                  refine AllReadyH.cons rfl (fun K hK => ?_) AllReadyH.nil
                  simp only [List.getElem_toArray, List.getElem_cons_zero, List.getElem_cons_succ]
                  refine step_anyG eiClm (by rfl) _ _ rfl BN A5 L.length c5 (flC L) rfl own6 (some ⟨w5.heap.size, 0, none⟩) 1 1 [.int .i64 x.1, .int .i64 x.2] rfl hsrc (by simp [Value.oneCell']) (by omega) (by unfold maxLen; omega) (by simp; omega) ?_
                  intro A7 c7 w7 own7 F7 _
                  have G7 := (G6).own F7 (fun q e => by have := own_blk_ge own6 q e; omega)
                  have H7 := Lib.hid (SlC.of_own (r := none) (l := L ++ [x]) (by rw [flC_snoc]; exact own7) (by simp) HWl.out)
                  refine hK.out _ _ ⟨(b5.fr G7 (by simp)).cell, G7⟩ (fun hH9 => ?_)
                  clear hK K hH0
                  have hH0 := hH9
                  clear hH9
                  try simp only [Act.put, List.setIfInBounds_toArray, List.set_cons_zero, List.set_cons_succ, List.getElem_toArray, List.getElem_cons_zero, List.getElem_cons_succ]
                  refine wpAnyH_ready (rs := [11]) (by kernel_rfl) (by simp) ?_
                  refine AllReadyH.cons rfl (fun K hK => ?_) AllReadyH.nil
                  simp only [List.getElem_toArray, List.getElem_cons_zero, List.getElem_cons_succ]
                  go_simp
                  go_at_call 18
                  refine (ccons_any (L ++ [x]) _ _ H7.out HLx.out).mono ?_
                  rintro e wN ⟨rfl, FN⟩
                  have FN := hH0.2.pure FN
                  refine hK.out _ _ ⟨(b5.fr FN (by simp)).cell, FN⟩ (fun hH1 => ?_)
                  clear hK K hH0 FN
                  have hH0 := hH1
                  clear hH1
                  rw [HCn.out]
                  try simp only [Act.put, List.setIfInBounds_toArray, List.set_cons_zero, List.set_cons_succ, List.getElem_toArray, List.getElem_cons_zero, List.getElem_cons_succ]
                  refine wpAnyH_take (i := 13) (v := ?_) rfl (by kernel_rfl) (by kernel_rfl) (by kernel_rfl) (fun _ _ _ h => h) (Or.inl ⟨by rfl, ?_⟩) (by assumption) ?_
                  rotate_left
                  · (intro W hW; (try dsimp only at hW); go_simp; try with_reducible rfl)
                  try simp only [Act.put, List.setIfInBounds_toArray, List.set_cons_zero, List.set_cons_succ, List.getElem_toArray, List.getElem_cons_zero, List.getElem_cons_succ]
                  refine wpAnyH_take (i := 14) (v := undef) rfl (by kernel_rfl) (by kernel_rfl) (by kernel_rfl) (fun _ _ _ h => h) (Or.inr ⟨by rfl, rfl⟩) (by assumption) ?_
                  try simp only [Act.put, List.setIfInBounds_toArray, List.set_cons_zero, List.set_cons_succ, List.getElem_toArray, List.getElem_cons_zero, List.getElem_cons_succ]
                  refine wpAnyH_take (i := 15) (v := undef) rfl (by kernel_rfl) (by kernel_rfl) (by kernel_rfl) (fun _ _ _ h => h) (Or.inr ⟨by rfl, rfl⟩) (by assumption) ?_
                  try simp only [Act.put, List.setIfInBounds_toArray, List.set_cons_zero, List.set_cons_succ, List.getElem_toArray, List.getElem_cons_zero, List.getElem_cons_succ]
                  refine wpAnyH_take (i := 16) (v := ?_) rfl (by kernel_rfl) (by kernel_rfl) (by kernel_rfl) (fun _ _ _ h => h) (Or.inl ⟨by rfl, ?_⟩) (by assumption) ?_
                  rotate_left
                  · (intro W hW; (try dsimp only at hW); go_simp; try with_reducible rfl)
                  try simp only [Act.put, List.setIfInBounds_toArray, List.set_cons_zero, List.set_cons_succ, List.getElem_toArray, List.getElem_cons_zero, List.getElem_cons_succ]
                  refine wpAnyH_take (i := 17) (v := ?_) rfl (by kernel_rfl) (by kernel_rfl) (by kernel_rfl) (fun _ _ _ h => h) (Or.inl ⟨by rfl, ?_⟩) (by assumption) ?_
                  rotate_left
                  · (intro W hW; (try dsimp only at hW); go_simp; try with_reducible rfl)
                  try simp only [Act.put, List.setIfInBounds_toArray, List.set_cons_zero, List.set_cons_succ, List.getElem_toArray, List.getElem_cons_zero, List.getElem_cons_succ]
                  refine wpAnyH_take (i := 18) (v := ?_) rfl (by kernel_rfl) (by kernel_rfl) (by kernel_rfl) (fun _ _ _ h => h) (Or.inl ⟨by rfl, ?_⟩) (by assumption) ?_
                  rotate_left
                  · (intro W hW; (try dsimp only at hW); go_simp; try with_reducible rfl)
                  try simp only [Act.put, List.setIfInBounds_toArray, List.set_cons_zero, List.set_cons_succ, List.getElem_toArray, List.getElem_cons_zero, List.getElem_cons_succ]
                  refine wpAnyH_take (i := 19) (v := ?_) rfl (by kernel_rfl) (by kernel_rfl) (by kernel_rfl) (fun _ _ _ h => h) (Or.inl ⟨by rfl, ?_⟩) (by assumption) ?_
                  rotate_left
                  · (intro W hW; (try dsimp only at hW); go_simp; try with_reducible rfl)
                  try simp only [Act.put, List.setIfInBounds_toArray, List.set_cons_zero, List.set_cons_succ, List.getElem_toArray, List.getElem_cons_zero, List.getElem_cons_succ]
                  refine wpAnyH_ready (rs := [20]) (by kernel_rfl) (by simp) ?_
                  refine AllReadyH.cons rfl (fun K hK => ?_) AllReadyH.nil
                  simp only [List.getElem_toArray, List.getElem_cons_zero, List.getElem_cons_succ]
                  go_simp
                  go_at_call 6
                  refine (awakeC_any _ (HT.out.1.fr hH0.2) (HT.out.2.1.fr hH0.2) (HT.out.2.2.fr hH0.2)).mono ?_
                  rintro e wN ⟨rfl, FN⟩
                  have FN := hH0.2.pure FN
                  refine hK.out _ _ ⟨(b5.fr FN (by simp)).cell, FN⟩ (fun hH1 => ?_)
                  clear hK K hH0 FN
                  have hH0 := hH1
                  clear hH1
                  try simp only [Act.put, List.setIfInBounds_toArray, List.set_cons_zero, List.set_cons_succ, List.getElem_toArray, List.getElem_cons_zero, List.getElem_cons_succ]
                  refine wpAnyH_take (i := 21) (v := ?_) rfl (by kernel_rfl) (by kernel_rfl) (by kernel_rfl) (fun _ _ _ h => h) (Or.inl ⟨by rfl, ?_⟩) (by assumption) ?_
                  rotate_left
                  · (intro W hW; (try dsimp only at hW); go_simp; try with_reducible rfl)
                  try simp only [Act.put, List.setIfInBounds_toArray, List.set_cons_zero, List.set_cons_succ, List.getElem_toArray, List.getElem_cons_zero, List.getElem_cons_succ]
                  refine wpAnyH_take (i := 22) (v := ?_) rfl (by kernel_rfl) (by kernel_rfl) (by kernel_rfl) (fun _ _ _ h => h) (Or.inl ⟨by rfl, ?_⟩) (by assumption) ?_
                  rotate_left
                  · (intro W hW; (try dsimp only at hW); go_simp; try with_reducible rfl)
                  try simp only [Act.put, List.setIfInBounds_toArray, List.set_cons_zero, List.set_cons_succ, List.getElem_toArray, List.getElem_cons_zero, List.getElem_cons_succ]
                  refine wpAnyH_done (by kernel_rfl) ?_ _
                  go_wp2_with fail
                  go_ret
                  exact ⟨rfl, F0k.pure hH0.2⟩
                · skip
                  have G2 := G1.alloc (.cells #[.int .i64 x.1, .int .i64 x.2] 38)
                  have own1 := own0.alloc (.cells #[.int .i64 x.1, .int .i64 x.2] 38)
                  have hb2 := blk_new (wN.alloc (.cells #[] 38)) (.cells #[.int .i64 x.1, .int .i64 x.2] 38)
                  rw [hz1] at hb2
                  simp only [List.getElem_toArray, List.getElem_cons_zero, List.getElem_cons_succ]
                  go_simp
                  refine hK.out _ _ ⟨(b5.fr G2 (by simp)).cell, G2⟩ (fun hH9 => ?_)
                  clear hK K hH0
                  have hH0 := hH9
                  clear hH9
                  try simp only [Act.put, List.setIfInBounds_toArray, List.set_cons_zero, List.set_cons_succ, List.getElem_toArray, List.getElem_cons_zero, List.getElem_cons_succ]
                  refine wpAnyH_ready (rs := [7]) (by kernel_rfl) (by simp) ?_
                  refine AllReadyH.cons rfl (fun K hK => ?_) AllReadyH.nil
                  simp only [List.getElem_toArray, List.getElem_cons_zero, List.getElem_cons_succ]
                  refine step_anyG eiClm (by rfl) _ _ rfl BN (some ⟨BN, 0, none⟩) 0 0 [] rfl own1 AL L.length cL (flC L) rfl ((HSL.out.fr G2).1.any) (flC_one L) (by omega) (by unfold maxLen; omega) (by simp; omega) ?_
                  intro A5 c5 w5 own5 F5 _
                  simp only [Nat.zero_add, List.nil_append] at own5 ⊢
                  have F5 : Fr (some BN) _ w5 := F5
                  have G5 := (G2).own F5 (fun q e => by injection e with e; omega)
                  refine hK.out _ _ ⟨(b5.fr G5 (by simp)).cell, G5⟩ (fun hH9 => ?_)
                  clear hK K hH0
                  have hH0 := hH9
                  clear hH9
                  try simp only [Act.put, List.setIfInBounds_toArray, List.set_cons_zero, List.set_cons_succ, List.getElem_toArray, List.getElem_cons_zero, List.getElem_cons_succ]
                  have hz5 := F5.size
                  have hb3 := blk_fr hb2 F5 (by simp)
                  have hsrc := lit_blk hb3
                  refine wpAnyH_ready (rs := [10]) (by kernel_rfl) (by simp) ?_
                  refine AllReadyH.cons rfl (fun K hK => ?_) AllReadyH.nil
                  simp only [List.getElem_toArray, List.getElem_cons_zero, List.getElem_cons_succ]
                  refine step_anyG eiClm (by rfl) _ _ rfl BN A5 L.length c5 (flC L) rfl own5 (some ⟨(BN + 1), 0, none⟩) 1 1 [.int .i64 x.1, .int .i64 x.2] rfl hsrc (by simp [Value.oneCell']) (by omega) (by unfold maxLen; omega) (by simp at hz5; omega) ?_
                  intro A7 c7 w7 own7 F7 _
                  have G7 := (G5).own F7 (fun q e => by have := own_blk_ge own5 q e; omega)
                  have H7 := Lib.hid (SlC.of_own (r := none) (l := L ++ [x]) (by rw [flC_snoc]; exact own7) (by simp) HWl.out)
                  refine hK.out _ _ ⟨(b5.fr G7 (by simp)).cell, G7⟩ (fun hH9 => ?_)
                  clear hK K hH0
                  have hH0 := hH9
                  clear hH9
                  try simp only [Act.put, List.setIfInBounds_toArray, List.set_cons_zero, List.set_cons_succ, List.getElem_toArray, List.getElem_cons_zero, List.getElem_cons_succ]
                  refine wpAnyH_ready (rs := [11]) (by kernel_rfl) (by simp) ?_
                  refine AllReadyH.cons rfl (fun K hK => ?_) AllReadyH.nil
                  simp only [List.getElem_toArray, List.getElem_cons_zero, List.getElem_cons_succ]
                  go_simp
                  go_at_call 18
                  refine (ccons_any (L ++ [x]) _ _ H7.out HLx.out).mono ?_
                  rintro e wN ⟨rfl, FN⟩
                  have FN := hH0.2.pure FN
                  refine hK.out _ _ ⟨(b5.fr FN (by simp)).cell, FN⟩ (fun hH1 => ?_)
                  clear hK K hH0 FN
                  have hH0 := hH1
                  clear hH1
                  rw [HCn.out]
                  try simp only [Act.put, List.setIfInBounds_toArray, List.set_cons_zero, List.set_cons_succ, List.getElem_toArray, List.getElem_cons_zero, List.getElem_cons_succ]
                  refine wpAnyH_take (i := 13) (v := ?_) rfl (by kernel_rfl) (by kernel_rfl) (by kernel_rfl) (fun _ _ _ h => h) (Or.inl ⟨by rfl, ?_⟩) (by assumption) ?_
                  rotate_left
                  · (intro W hW; (try dsimp only at hW); go_simp; try with_reducible rfl)
                  try simp only [Act.put, List.setIfInBounds_toArray, List.set_cons_zero, List.set_cons_succ, List.getElem_toArray, List.getElem_cons_zero, List.getElem_cons_succ]
                  refine wpAnyH_take (i := 14) (v := undef) rfl (by kernel_rfl) (by kernel_rfl) (by kernel_rfl) (fun _ _ _ h => h) (Or.inr ⟨by rfl, rfl⟩) (by assumption) ?_
                  try simp only [Act.put, List.setIfInBounds_toArray, List.set_cons_zero, List.set_cons_succ, List.getElem_toArray, List.getElem_cons_zero, List.getElem_cons_succ]
                  refine wpAnyH_take (i := 15) (v := undef) rfl (by kernel_rfl) (by kernel_rfl) (by kernel_rfl) (fun _ _ _ h => h) (Or.inr ⟨by rfl, rfl⟩) (by assumption) ?_
                  try simp only [Act.put, List.setIfInBounds_toArray, List.set_cons_zero, List.set_cons_succ, List.getElem_toArray, List.getElem_cons_zero, List.getElem_cons_succ]
                  refine wpAnyH_take (i := 16) (v := ?_) rfl (by kernel_rfl) (by kernel_rfl) (by kernel_rfl) (fun _ _ _ h => h) (Or.inl ⟨by rfl, ?_⟩) (by assumption) ?_
                  rotate_left
                  · (intro W hW; (try dsimp only at hW); go_simp; try with_reducible rfl)
                  try simp only [Act.put, List.setIfInBounds_toArray, List.set_cons_zero, List.set_cons_succ, List.getElem_toArray, List.getElem_cons_zero, List.getElem_cons_succ]
                  refine wpAnyH_take (i := 17) (v := ?_) rfl (by kernel_rfl) (by kernel_rfl) (by kernel_rfl) (fun _ _ _ h => h) (Or.inl ⟨by rfl, ?_⟩) (by assumption) ?_
                  rotate_left
                  · (intro W hW; (try dsimp only at hW); go_simp; try with_reducible rfl)
                  try simp only [Act.put, List.setIfInBounds_toArray, List.set_cons_zero, List.set_cons_succ, List.getElem_toArray, List.getElem_cons_zero, List.getElem_cons_succ]
                  refine wpAnyH_take (i := 18) (v := ?_) rfl (by kernel_rfl) (by kernel_rfl) (by kernel_rfl) (fun _ _ _ h => h) (Or.inl ⟨by rfl, ?_⟩) (by assumption) ?_
                  rotate_left
                  · (intro W hW; (try dsimp only at hW); go_simp; try with_reducible rfl)
                  try simp only [Act.put, List.setIfInBounds_toArray, List.set_cons_zero, List.set_cons_succ, List.getElem_toArray, List.getElem_cons_zero, List.getElem_cons_succ]
                  refine wpAnyH_take (i := 19) (v := ?_) rfl (by kernel_rfl) (by kernel_rfl) (by kernel_rfl) (fun _ _ _ h => h) (Or.inl ⟨by rfl, ?_⟩) (by assumption) ?_
                  rotate_left
                  · (intro W hW; (try dsimp only at hW); go_simp; try with_reducible rfl)
                  try simp only [Act.put, List.setIfInBounds_toArray, List.set_cons_zero, List.set_cons_succ, List.getElem_toArray, List.getElem_cons_zero, List.getElem_cons_succ]
                  refine wpAnyH_ready (rs := [20]) (by kernel_rfl) (by simp) ?_
                  refine AllReadyH.cons rfl (fun K hK => ?_) AllReadyH.nil
                  simp only [List.getElem_toArray, List.getElem_cons_zero, List.getElem_cons_succ]
                  go_simp
                  go_at_call 6
                  refine (awakeC_any _ (HT.out.1.fr hH0.2) (HT.out.2.1.fr hH0.2) (HT.out.2.2.fr hH0.2)).mono ?_
                  rintro e wN ⟨rfl, FN⟩
                  have FN := hH0.2.pure FN
                  refine hK.out _ _ ⟨(b5.fr FN (by simp)).cell, FN⟩ (fun hH1 => ?_)
                  clear hK K hH0 FN
                  have hH0 := hH1
                  clear hH1
                  try simp only [Act.put, List.setIfInBounds_toArray, List.set_cons_zero, List.set_cons_succ, List.getElem_toArray, List.getElem_cons_zero, List.getElem_cons_succ]
                  refine wpAnyH_take (i := 21) (v := ?_) rfl (by kernel_rfl) (by kernel_rfl) (by kernel_rfl) (fun _ _ _ h => h) (Or.inl ⟨by rfl, ?_⟩) (by assumption) ?_
                  rotate_left
                  · (intro W hW; (try dsimp only at hW); go_simp; try with_reducible rfl)
                  try simp only [Act.put, List.setIfInBounds_toArray, List.set_cons_zero, List.set_cons_succ, List.getElem_toArray, List.getElem_cons_zero, List.getElem_cons_succ]
                  refine wpAnyH_take (i := 22) (v := ?_) rfl (by kernel_rfl) (by kernel_rfl) (by kernel_rfl) (fun _ _ _ h => h) (Or.inl ⟨by rfl, ?_⟩) (by assumption) ?_
                  rotate_left
                  · (intro W hW; (try dsimp only at hW); go_simp; try with_reducible rfl)
                  try simp only [Act.put, List.setIfInBounds_toArray, List.set_cons_zero, List.set_cons_succ, List.getElem_toArray, List.getElem_cons_zero, List.getElem_cons_succ]
                  refine wpAnyH_done (by kernel_rfl) ?_ _
                  go_wp2_with fail
                  go_ret
                  exact ⟨rfl, F0k.pure hH0.2⟩
              · have G1 := G0.alloc (.cells #[.int .i64 x.1, .int .i64 x.2] 38)
                have hb1 := blk_new wN (.cells #[.int .i64 x.1, .int .i64 x.2] 38)
                have own0 := own_zeroC (wN.alloc (.cells #[.int .i64 x.1, .int .i64 x.2] 38))
                have hz1 : (wN.alloc (.cells #[.int .i64 x.1, .int .i64 x.2] 38)).heap.size = wN.heap.size + 1 := by simp
                have G2 := G1.alloc (.cells #[] 38)
                have hb2 := blk_fr hb1 ((Fr.refl none (wN.alloc (.cells #[.int .i64 x.1, .int .i64 x.2] 38))).alloc (.cells #[] 38)) (by simp)
                obtain ⟨BN, hBN⟩ : ∃ BN, wN.heap.size = BN := ⟨_, rfl⟩
                rw [hBN] at hz1 hzN hb1 hb2
                rw [hz1] at own0
                simp only [List.getElem_toArray, List.getElem_cons_zero, List.getElem_cons_succ]
                go_simp
                refine hK.out _ _ ⟨(b5.fr G1 (by simp)).cell, G1⟩ (fun hH9 => ?_)
                clear hK K hH0
                have hH0 := hH9
                clear hH9
                try simp only [Act.put, List.setIfInBounds_toArray, List.set_cons_zero, List.set_cons_succ, List.getElem_toArray, List.getElem_cons_zero, List.getElem_cons_succ]
                refine wpAnyH_ready (rs := [5]) (by kernel_rfl) (by simp) ?_
                refine AllReadyH.cons rfl (fun K hK => ?_) AllReadyH.nil
                simp only [List.getElem_toArray, List.getElem_cons_zero, List.getElem_cons_succ]
                go_simp
                refine hK.out _ _ ⟨(b5.fr G2 (by simp)).cell, G2⟩ (fun hH9 => ?_)
                clear hK K hH0
                have hH0 := hH9
                clear hH9
                try simp only [Act.put, List.setIfInBounds_toArray, List.set_cons_zero, List.set_cons_succ, List.getElem_toArray, List.getElem_cons_zero, List.getElem_cons_succ]
                refine wpAnyH_ready (rs := [7]) (by kernel_rfl) (by simp) ?_
                refine AllReadyH.cons rfl (fun K hK => ?_) AllReadyH.nil
                simp only [List.getElem_toArray, List.getElem_cons_zero, List.getElem_cons_succ]
                refine step_anyG eiClm (by rfl) _ _ rfl (BN + 1) (some ⟨(BN + 1), 0, none⟩) 0 0 [] rfl own0 AL L.length cL (flC L) rfl ((HSL.out.fr G2).1.any) (flC_one L) (by omega) (by unfold maxLen; omega) (by simp; omega) ?_
                intro A5 c5 w5 own5 F5 _
                simp only [Nat.zero_add, List.nil_append] at own5 ⊢
                have F5 : Fr (some (BN + 1)) _ w5 := F5
                have G5 := (G2).own F5 (fun q e => by injection e with e; omega)
                refine hK.out _ _ ⟨(b5.fr G5 (by simp)).cell, G5⟩ (fun hH9 => ?_)
                clear hK K hH0
                have hH0 := hH9
                clear hH9
                try simp only [Act.put, List.setIfInBounds_toArray, List.set_cons_zero, List.set_cons_succ, List.getElem_toArray, List.getElem_cons_zero, List.getElem_cons_succ]
                have hz5 := F5.size
                have hb3 := blk_fr hb2 F5 (by simp)
                have hsrc := lit_blk hb3
                refine wpAnyH_ready (rs := [10]) (by kernel_rfl) (by simp) ?_
                refine AllReadyH.cons rfl (fun K hK => ?_) AllReadyH.nil
                simp only [List.getElem_toArray, List.getElem_cons_zero, List.getElem_cons_succ]
                refine step_anyG eiClm (by rfl) _ _ rfl (BN + 1) A5 L.length c5 (flC L) rfl own5 (some ⟨BN, 0, none⟩) 1 1 [.int .i64 x.1, .int .i64 x.2] rfl hsrc (by simp [Value.oneCell']) (by omega) (by unfold maxLen; omega) (by simp at hz5; omega) ?_
                intro A7 c7 w7 own7 F7 _
                have G7 := (G5).own F7 (fun q e => by have := own_blk_ge own5 q e; omega)
                have H7 := Lib.hid (SlC.of_own (r := none) (l := L ++ [x]) (by rw [flC_snoc]; exact own7) (by simp) HWl.out)
                refine hK.out _ _ ⟨(b5.fr G7 (by simp)).cell, G7⟩ (fun hH9 => ?_)
                clear hK K hH0
                have hH0 := hH9
                clear hH9
                try simp only [Act.put, List.setIfInBounds_toArray, List.set_cons_zero, List.set_cons_succ, List.getElem_toArray, List.getElem_cons_zero, List.getElem_cons_succ]
                refine wpAnyH_ready (rs := [11]) (by kernel_rfl) (by simp) ?_
                refine AllReadyH.cons rfl (fun K hK => ?_) AllReadyH.nil
                simp only [List.getElem_toArray, List.getElem_cons_zero, List.getElem_cons_succ]
                go_simp
                go_at_call 18
                refine (ccons_any (L ++ [x]) _ _ H7.out HLx.out).mono ?_
                rintro e wN ⟨rfl, FN⟩
                have FN := hH0.2.pure FN
                refine hK.out _ _ ⟨(b5.fr FN (by simp)).cell, FN⟩ (fun hH1 => ?_)
                clear hK K hH0 FN
                have hH0 := hH1
                clear hH1
                rw [HCn.out]
                try simp only [Act.put, List.setIfInBounds_toArray, List.set_cons_zero, List.set_cons_succ, List.getElem_toArray, List.getElem_cons_zero, List.getElem_cons_succ]
                refine wpAnyH_take (i := 13) (v := ?_) rfl (by kernel_rfl) (by kernel_rfl) (by kernel_rfl) (fun _ _ _ h => h) (Or.inl ⟨by rfl, ?_⟩) (by assumption) ?_
                rotate_left
                · (intro W hW; (try dsimp only at hW); go_simp; try with_reducible rfl)
                try simp only [Act.put, List.setIfInBounds_toArray, List.set_cons_zero, List.set_cons_succ, List.getElem_toArray, List.getElem_cons_zero, List.getElem_cons_succ]
                refine wpAnyH_take (i := 14) (v := undef) rfl (by kernel_rfl) (by kernel_rfl) (by kernel_rfl) (fun _ _ _ h => h) (Or.inr ⟨by rfl, rfl⟩) (by assumption) ?_
                try simp only [Act.put, List.setIfInBounds_toArray, List.set_cons_zero, List.set_cons_succ, List.getElem_toArray, List.getElem_cons_zero, List.getElem_cons_succ]
                refine wpAnyH_take (i := 15) (v := undef) rfl (by kernel_rfl) (by kernel_rfl) (by kernel_rfl) (fun _ _ _ h => h) (Or.inr ⟨by rfl, rfl⟩) (by assumption) ?_
                try simp only [Act.put, List.setIfInBounds_toArray, List.set_cons_zero, List.set_cons_succ, List.getElem_toArray, List.getElem_cons_zero, List.getElem_cons_succ]
                refine wpAnyH_take (i := 16) (v := ?_) rfl (by kernel_rfl) (by kernel_rfl) (by kernel_rfl) (fun _ _ _ h => h) (Or.inl ⟨by rfl, ?_⟩) (by assumption) ?_
                rotate_left
                · (intro W hW; (try dsimp only at hW); go_simp; try with_reducible rfl)
                try simp only [Act.put, List.setIfInBounds_toArray, List.set_cons_zero, List.set_cons_succ, List.getElem_toArray, List.getElem_cons_zero, List.getElem_cons_succ]
                refine wpAnyH_take (i := 17) (v := ?_) rfl (by kernel_rfl) (by kernel_rfl) (by kernel_rfl) (fun _ _ _ h => h) (Or.inl ⟨by rfl, ?_⟩) (by assumption) ?_
                rotate_left
                · (intro W hW; (try dsimp only at hW); go_simp; try with_reducible rfl)
                try simp only [Act.put, List.setIfInBounds_toArray, List.set_cons_zero, List.set_cons_succ, List.getElem_toArray, List.getElem_cons_zero, List.getElem_cons_succ]
                refine wpAnyH_take (i := 18) (v := ?_) rfl (by kernel_rfl) (by kernel_rfl) (by kernel_rfl) (fun _ _ _ h => h) (Or.inl ⟨by rfl, ?_⟩) (by assumption) ?_
                rotate_left
                · (intro W hW; (try dsimp only at hW); go_simp; try with_reducible rfl)
                try simp only [Act.put, List.setIfInBounds_toArray, List.set_cons_zero, List.set_cons_succ, List.getElem_toArray, List.getElem_cons_zero, List.getElem_cons_succ]
                refine wpAnyH_take (i := 19) (v := ?_) rfl (by kernel_rfl) (by kernel_rfl) (by kernel_rfl) (fun _ _ _ h => h) (Or.inl ⟨by rfl, ?_⟩) (by assumption) ?_
                rotate_left
                · (intro W hW; (try dsimp only at hW); go_simp; try with_reducible rfl)
                try simp only [Act.put, List.setIfInBounds_toArray, List.set_cons_zero, List.set_cons_succ, List.getElem_toArray, List.getElem_cons_zero, List.getElem_cons_succ]
                refine wpAnyH_ready (rs := [20]) (by kernel_rfl) (by simp) ?_
                refine AllReadyH.cons rfl (fun K hK => ?_) AllReadyH.nil
                simp only [List.getElem_toArray, List.getElem_cons_zero, List.getElem_cons_succ]
                go_simp
                go_at_call 6
                refine (awakeC_any _ (HT.out.1.fr hH0.2) (HT.out.2.1.fr hH0.2) (HT.out.2.2.fr hH0.2)).mono ?_
                rintro e wN ⟨rfl, FN⟩
                have FN := hH0.2.pure FN
                refine hK.out _ _ ⟨(b5.fr FN (by simp)).cell, FN⟩ (fun hH1 => ?_)
                clear hK K hH0 FN
                have hH0 := hH1
                clear hH1
                try simp only [Act.put, List.setIfInBounds_toArray, List.set_cons_zero, List.set_cons_succ, List.getElem_toArray, List.getElem_cons_zero, List.getElem_cons_succ]
                refine wpAnyH_take (i := 21) (v := ?_) rfl (by kernel_rfl) (by kernel_rfl) (by kernel_rfl) (fun _ _ _ h => h) (Or.inl ⟨by rfl, ?_⟩) (by assumption) ?_
                rotate_left
                · (intro W hW; (try dsimp only at hW); go_simp; try with_reducible rfl)
                try simp only [Act.put, List.setIfInBounds_toArray, List.set_cons_zero, List.set_cons_succ, List.getElem_toArray, List.getElem_cons_zero, List.getElem_cons_succ]
                refine wpAnyH_take (i := 22) (v := ?_) rfl (by kernel_rfl) (by kernel_rfl) (by kernel_rfl) (fun _ _ _ h => h) (Or.inl ⟨by rfl, ?_⟩) (by assumption) ?_
                rotate_left
                · (intro W hW; (try dsimp only at hW); go_simp; try with_reducible rfl)
                try simp only [Act.put, List.setIfInBounds_toArray, List.set_cons_zero, List.set_cons_succ, List.getElem_toArray, List.getElem_cons_zero, List.getElem_cons_succ]
                refine wpAnyH_done (by kernel_rfl) ?_ _
                go_wp2_with fail
                go_ret
                exact ⟨rfl, F0k.pure hH0.2⟩
            | true =>
              cases u with
              | false =>
                have HCn : Hid (consC (L ++ [x]) = true) := HCn.out
                refine wp_region_held_drew (S := fun W => (W.cell? ⟨B5, 0, none⟩ = some (.int .i64 x.1) ∧ W.cell? ⟨B5, 1, none⟩ = some (.int .i64 x.2)) ∧ Fr none wk W) (by kernel_rfl) ⟨b5.cell, (Fr.refl _ _).drew⟩ (fun hH0 => ?_)
                refine wpAnyH_take (i := 0) (v := ?_) rfl (by kernel_rfl) (by kernel_rfl) (by kernel_rfl) (fun _ _ _ h => h) (Or.inl ⟨by rfl, ?_⟩) (by assumption) ?_
                rotate_left
                · (intro W hW; (try dsimp only at hW); go_simp; try with_reducible rfl)
                try simp only [Act.put, List.setIfInBounds_toArray, List.set_cons_zero, List.set_cons_succ, List.getElem_toArray, List.getElem_cons_zero, List.getElem_cons_succ]
                refine wpAnyH_take (i := 2) (v := ?_) rfl (by kernel_rfl) (by kernel_rfl) (by kernel_rfl) (fun _ _ _ h => h) (Or.inl ⟨by rfl, ?_⟩) (by assumption) ?_
                rotate_left
                · (intro W hW; (try dsimp only at hW); go_simp; try with_reducible rfl)
                try simp only [Act.put, List.setIfInBounds_toArray, List.set_cons_zero, List.set_cons_succ, List.getElem_toArray, List.getElem_cons_zero, List.getElem_cons_succ]
                refine wpAnyH_ready (rs := [1]) (by kernel_rfl) (by simp) ?_
                refine AllReadyH.cons rfl (fun K hK => ?_) AllReadyH.nil
                simp only [List.getElem_toArray, List.getElem_cons_zero, List.getElem_cons_succ]
                go_simp
                go_at_call 18
                refine (ccons_any L _ _ (HSL.out.fr hH0.2) HLl.out).mono ?_
                rintro e wN ⟨rfl, FN⟩
                have FN := hH0.2.pure FN
                refine hK.out _ _ ⟨(b5.fr FN (by simp)).cell, FN⟩ (fun hH1 => ?_)
                clear hK K hH0 FN
                have hH0 := hH1
                clear hH1
                rw [HO.out]
                try simp only [Act.put, List.setIfInBounds_toArray, List.set_cons_zero, List.set_cons_succ, List.getElem_toArray, List.getElem_cons_zero, List.getElem_cons_succ]
                refine wpAnyH_take (i := 3) (v := ?_) rfl (by kernel_rfl) (by kernel_rfl) (by kernel_rfl) (fun _ _ _ h => h) (Or.inl ⟨by rfl, ?_⟩) (by assumption) ?_
                rotate_left
                · (intro W hW; (try dsimp only at hW); go_simp; try with_reducible rfl)
                try simp only [Act.put, List.setIfInBounds_toArray, List.set_cons_zero, List.set_cons_succ, List.getElem_toArray, List.getElem_cons_zero, List.getElem_cons_succ]
                refine wpAnyH_take (i := 4) (v := ?_) rfl (by kernel_rfl) (by kernel_rfl) (by kernel_rfl) (fun _ _ _ h => h) (Or.inl ⟨by rfl, ?_⟩) (by assumption) ?_
                rotate_left
                · (intro W hW; (try dsimp only at hW); go_simp; try with_reducible rfl)
                try simp only [Act.put, List.setIfInBounds_toArray, List.set_cons_zero, List.set_cons_succ, List.getElem_toArray, List.getElem_cons_zero, List.getElem_cons_succ]
                refine wpAnyH_take (i := 6) (v := ?_) rfl (by kernel_rfl) (by kernel_rfl) (by kernel_rfl) (fun _ _ _ h => h) (Or.inl ⟨by rfl, ?_⟩) (by assumption) ?_
                rotate_left
                · (intro W hW; (try dsimp only at hW); go_simp; try with_reducible rfl)
                try simp only [Act.put, List.setIfInBounds_toArray, List.set_cons_zero, List.set_cons_succ, List.getElem_toArray, List.getElem_cons_zero, List.getElem_cons_succ]
                refine wpAnyH_take (i := 8) (v := ?_) rfl (by kernel_rfl) (by kernel_rfl) (by kernel_rfl) (fun _ _ _ h => h) (Or.inl ⟨by rfl, ?_⟩) (by assumption) ?_
                rotate_left
                · (intro W hW; (try dsimp only at hW); go_simp; try with_reducible rfl)
                try simp only [Act.put, List.setIfInBounds_toArray, List.set_cons_zero, List.set_cons_succ, List.getElem_toArray, List.getElem_cons_zero, List.getElem_cons_succ]
                refine wpAnyH_take (i := 12) (v := ?_) rfl (by kernel_rfl) (by kernel_rfl) (by kernel_rfl) (fun _ _ _ h => h) (Or.inl ⟨by rfl, ?_⟩) (by assumption) ?_
                rotate_left
                · (intro W hW; (try dsimp only at hW); go_simp; try with_reducible rfl)
                try simp only [Act.put, List.setIfInBounds_toArray, List.set_cons_zero, List.set_cons_succ, List.getElem_toArray, List.getElem_cons_zero, List.getElem_cons_succ]
                have G0 := hH0.2
                have hzN := G0.size
                refine wpAnyH_ready (rs := [5, 9]) (by kernel_rfl) (by simp) ?_
                refine AllReadyH.cons rfl (fun K hK => ?_) (AllReadyH.cons rfl (fun K hK => ?_) AllReadyH.nil)
                · have G1 := G0.alloc (.cells #[] 38)
                  have own0 := own_zeroC wN
                  have hz1 : (wN.alloc (.cells #[] 38)).heap.size = wN.heap.size + 1 := by simp
                  have hb1 := blk_new wN (.cells #[] 38)
                  obtain ⟨BN, hBN⟩ : ∃ BN, wN.heap.size = BN := ⟨_, rfl⟩
                  rw [hBN] at own0 hz1 hzN
                  simp only [List.getElem_toArray, List.getElem_cons_zero, List.getElem_cons_succ]
                  go_simp
                  refine hK.out _ _ ⟨(b5.fr G1 (by simp)).cell, G1⟩ (fun hH9 => ?_)
                  clear hK K hH0
                  have hH0 := hH9
                  clear hH9
                  try simp only [Act.put, List.setIfInBounds_toArray, List.set_cons_zero, List.set_cons_succ, List.getElem_toArray, List.getElem_cons_zero, List.getElem_cons_succ]
                  refine wpAnyH_ready (rs := [7, 9]) (by kernel_rfl) (by simp) ?_
                  refine AllReadyH.cons rfl (fun K hK => ?_) (AllReadyH.cons rfl (fun K hK => ?_) AllReadyH.nil)
                  · skip
                    simp only [List.getElem_toArray, List.getElem_cons_zero, List.getElem_cons_succ]
                    refine step_anyG eiClm (by rfl) _ _ rfl BN (some ⟨BN, 0, none⟩) 0 0 [] rfl own0 AL L.length cL (flC L) rfl ((HSL.out.fr G1).1.any) (flC_one L) (by omega) (by unfold maxLen; omega) (by omega) ?_
                    intro A5 c5 w5 own5 F5 _
                    simp only [Nat.zero_add, List.nil_append] at own5 ⊢
                    have F5 : Fr (some BN) _ w5 := F5
                    have G5 := (G1).own F5 (fun q e => by injection e with e; omega)
                    refine hK.out _ _ ⟨(b5.fr G5 (by simp)).cell, G5⟩ (fun hH9 => ?_)
                    clear hK K hH0
                    have hH0 := hH9
                    clear hH9
                    try simp only [Act.put, List.setIfInBounds_toArray, List.set_cons_zero, List.set_cons_succ, List.getElem_toArray, List.getElem_cons_zero, List.getElem_cons_succ]
                    refine wpAnyH_ready (rs := [9]) (by kernel_rfl) (by simp) ?_
                    refine AllReadyH.cons rfl (fun K hK => ?_) AllReadyH.nil
                    have hz5 := F5.size
                    have G6 := G5.alloc (.cells #[.int .i64 x.1, .int .i64 x.2] 38)
                    have hsrc := lit_blk (blk_new w5 (.cells #[.int .i64 x.1, .int .i64 x.2] 38))
                    have own6 := own5.alloc (.cells #[.int .i64 x.1, .int .i64 x.2] 38)
                    simp only [List.getElem_toArray, List.getElem_cons_zero, List.getElem_cons_succ]
                    go_simp
                    refine hK.out _ _ ⟨(b5.fr G6 (by simp)).cell, G6⟩ (fun hH9 => ?_)
                    clear hK K hH0
                    have hH0 := hH9
                    clear hH9
                    try simp only [Act.put, List.setIfInBounds_toArray, List.set_cons_zero, List.set_cons_succ, List.getElem_toArray, List.getElem_cons_zero, List.getElem_cons_succ]
                    refine wpAnyH_ready (rs := [10]) (by kernel_rfl) (by simp) ?_
                    refine AllReadyH.cons rfl (fun K hK => ?_) AllReadyH.nil
                    simp only [List.getElem_toArray, List.getElem_cons_zero, List.getElem_cons_succ]
                    refine step_anyG eiClm (by rfl) _ _ rfl BN A5 L.length c5 (flC L) rfl own6 (some ⟨w5.heap.size, 0, none⟩) 1 1 [.int .i64 x.1, .int .i64 x.2] rfl hsrc (by simp [Value.oneCell']) (by omega) (by unfold maxLen; omega) (by simp; omega) ?_
                    intro A7 c7 w7 own7 F7 _
                    have G7 := (G6).own F7 (fun q e => by have := own_blk_ge own6 q e; omega)
                    have H7 := Lib.hid (SlC.of_own (r := none) (l := L ++ [x]) (by rw [flC_snoc]; exact own7) (by simp) HWl.out)
                    refine hK.out _ _ ⟨(b5.fr G7 (by simp)).cell, G7⟩ (fun hH9 => ?_)
                    clear hK K hH0
                    have hH0 := hH9
                    clear hH9
                    try simp only [Act.put, List.setIfInBounds_toArray, List.set_cons_zero, List.set_cons_succ, List.getElem_toArray, List.getElem_cons_zero, List.getElem_cons_succ]
                    refine wpAnyH_ready (rs := [11]) (by kernel_rfl) (by simp) ?_
                    refine AllReadyH.cons rfl (fun K hK => ?_) AllReadyH.nil
                    simp only [List.getElem_toArray, List.getElem_cons_zero, List.getElem_cons_succ]
                    go_simp
                    go_at_call 18
                    refine (ccons_any (L ++ [x]) _ _ H7.out HLx.out).mono ?_
                    rintro e wN ⟨rfl, FN⟩
                    have FN := hH0.2.pure FN
                    refine hK.out _ _ ⟨(b5.fr FN (by simp)).cell, FN⟩ (fun hH1 => ?_)
                    clear hK K hH0 FN
                    have hH0 := hH1
                    clear hH1
                    rw [HCn.out]
                    try simp only [Act.put, List.setIfInBounds_toArray, List.set_cons_zero, List.set_cons_succ, List.getElem_toArray, List.getElem_cons_zero, List.getElem_cons_succ]
                    refine wpAnyH_take (i := 13) (v := ?_) rfl (by kernel_rfl) (by kernel_rfl) (by kernel_rfl) (fun _ _ _ h => h) (Or.inl ⟨by rfl, ?_⟩) (by assumption) ?_
                    rotate_left
                    · (intro W hW; (try dsimp only at hW); go_simp; try with_reducible rfl)
                    try simp only [Act.put, List.setIfInBounds_toArray, List.set_cons_zero, List.set_cons_succ, List.getElem_toArray, List.getElem_cons_zero, List.getElem_cons_succ]
                    refine wpAnyH_take (i := 14) (v := ?_) rfl (by kernel_rfl) (by kernel_rfl) (by kernel_rfl) (fun _ _ _ h => h) (Or.inl ⟨by rfl, ?_⟩) (by assumption) ?_
                    rotate_left
                    · (intro W hW; (try dsimp only at hW); go_simp; try with_reducible rfl)
                    try simp only [Act.put, List.setIfInBounds_toArray, List.set_cons_zero, List.set_cons_succ, List.getElem_toArray, List.getElem_cons_zero, List.getElem_cons_succ]
                    refine wpAnyH_take (i := 15) (v := ?_) rfl (by kernel_rfl) (by kernel_rfl) (by kernel_rfl) (fun _ _ _ h => h) (Or.inl ⟨by rfl, ?_⟩) (by assumption) ?_
                    rotate_left
                    · (intro W hW; (try dsimp only at hW); go_simp; try with_reducible rfl)
                    try simp only [Act.put, List.setIfInBounds_toArray, List.set_cons_zero, List.set_cons_succ, List.getElem_toArray, List.getElem_cons_zero, List.getElem_cons_succ]
                    refine wpAnyH_take (i := 16) (v := ?_) rfl (by kernel_rfl) (by kernel_rfl) (by kernel_rfl) (fun _ _ _ h => h) (Or.inl ⟨by rfl, ?_⟩) (by assumption) ?_
                    rotate_left
                    · (intro W hW; (try dsimp only at hW); go_simp; try with_reducible rfl)
                    try simp only [Act.put, List.setIfInBounds_toArray, List.set_cons_zero, List.set_cons_succ, List.getElem_toArray, List.getElem_cons_zero, List.getElem_cons_succ]
                    refine wpAnyH_take (i := 17) (v := ?_) rfl (by kernel_rfl) (by kernel_rfl) (by kernel_rfl) (fun _ _ _ h => h) (Or.inl ⟨by rfl, ?_⟩) (by assumption) ?_
                    rotate_left
                    · (intro W hW; (try dsimp only at hW); go_simp; try with_reducible rfl)
                    try simp only [Act.put, List.setIfInBounds_toArray, List.set_cons_zero, List.set_cons_succ, List.getElem_toArray, List.getElem_cons_zero, List.getElem_cons_succ]
                    refine wpAnyH_take (i := 18) (v := ?_) rfl (by kernel_rfl) (by kernel_rfl) (by kernel_rfl) (fun _ _ _ h => h) (Or.inl ⟨by rfl, ?_⟩) (by assumption) ?_
                    rotate_left
                    · (intro W hW; (try dsimp only at hW); go_simp; try with_reducible rfl)
                    try simp only [Act.put, List.setIfInBounds_toArray, List.set_cons_zero, List.set_cons_succ, List.getElem_toArray, List.getElem_cons_zero, List.getElem_cons_succ]
                    refine wpAnyH_take (i := 19) (v := ?_) rfl (by kernel_rfl) (by kernel_rfl) (by kernel_rfl) (fun _ _ _ h => h) (Or.inl ⟨by rfl, ?_⟩) (by assumption) ?_
                    rotate_left
                    · (intro W hW; (try dsimp only at hW); go_simp; try with_reducible rfl)
                    try simp only [Act.put, List.setIfInBounds_toArray, List.set_cons_zero, List.set_cons_succ, List.getElem_toArray, List.getElem_cons_zero, List.getElem_cons_succ]
                    refine wpAnyH_ready (rs := [20]) (by kernel_rfl) (by simp) ?_
                    refine AllReadyH.cons rfl (fun K hK => ?_) AllReadyH.nil
                    simp only [List.getElem_toArray, List.getElem_cons_zero, List.getElem_cons_succ]
                    go_simp
                    go_at_call 6
                    refine (awakeC_any _ (HT.out.1.fr hH0.2) (HT.out.2.1.fr hH0.2) (HT.out.2.2.fr hH0.2)).mono ?_
                    rintro e wN ⟨rfl, FN⟩
                    have FN := hH0.2.pure FN
                    refine hK.out _ _ ⟨(b5.fr FN (by simp)).cell, FN⟩ (fun hH1 => ?_)
                    clear hK K hH0 FN
                    have hH0 := hH1
                    clear hH1
                    try simp only [Act.put, List.setIfInBounds_toArray, List.set_cons_zero, List.set_cons_succ, List.getElem_toArray, List.getElem_cons_zero, List.getElem_cons_succ]
                    refine wpAnyH_take (i := 21) (v := ?_) rfl (by kernel_rfl) (by kernel_rfl) (by kernel_rfl) (fun _ _ _ h => h) (Or.inl ⟨by rfl, ?_⟩) (by assumption) ?_
                    rotate_left
                    · (intro W hW; (try dsimp only at hW); go_simp; try with_reducible rfl)
                    try simp only [Act.put, List.setIfInBounds_toArray, List.set_cons_zero, List.set_cons_succ, List.getElem_toArray, List.getElem_cons_zero, List.getElem_cons_succ]
                    refine wpAnyH_take (i := 22) (v := ?_) rfl (by kernel_rfl) (by kernel_rfl) (by kernel_rfl) (fun _ _ _ h => h) (Or.inl ⟨by rfl, ?_⟩) (by assumption) ?_
                    rotate_left
                    · (intro W hW; (try dsimp only at hW); go_simp; try with_reducible rfl)
                    try simp only [Act.put, List.setIfInBounds_toArray, List.set_cons_zero, List.set_cons_succ, List.getElem_toArray, List.getElem_cons_zero, List.getElem_cons_succ]
                    refine wpAnyH_done (by kernel_rfl) ?_ _
                    go_wp2_with fail
                    go_ret
                    exact ⟨rfl, F0k.pure hH0.2⟩
                  · skip
                    have G2 := G1.alloc (.cells #[.int .i64 x.1, .int .i64 x.2] 38)
                    have own1 := own0.alloc (.cells #[.int .i64 x.1, .int .i64 x.2] 38)
                    have hb2 := blk_new (wN.alloc (.cells #[] 38)) (.cells #[.int .i64 x.1, .int .i64 x.2] 38)
                    rw [hz1] at hb2
                    simp only [List.getElem_toArray, List.getElem_cons_zero, List.getElem_cons_succ]
                    go_simp
                    refine hK.out _ _ ⟨(b5.fr G2 (by simp)).cell, G2⟩ (fun hH9 => ?_)
                    clear hK K hH0
                    have hH0 := hH9
                    clear hH9
                    try simp only [Act.put, List.setIfInBounds_toArray, List.set_cons_zero, List.set_cons_succ, List.getElem_toArray, List.getElem_cons_zero, List.getElem_cons_succ]
                    refine wpAnyH_ready (rs := [7]) (by kernel_rfl) (by simp) ?_
                    refine AllReadyH.cons rfl (fun K hK => ?_) AllReadyH.nil
                    simp only [List.getElem_toArray, List.getElem_cons_zero, List.getElem_cons_succ]
                    refine step_anyG eiClm (by rfl) _ _ rfl BN (some ⟨BN, 0, none⟩) 0 0 [] rfl own1 AL L.length cL (flC L) rfl ((HSL.out.fr G2).1.any) (flC_one L) (by omega) (by unfold maxLen; omega) (by simp; omega) ?_
                    intro A5 c5 w5 own5 F5 _
                    simp only [Nat.zero_add, List.nil_append] at own5 ⊢
                    have F5 : Fr (some BN) _ w5 := F5
                    have G5 := (G2).own F5 (fun q e => by injection e with e; omega)
                    refine hK.out _ _ ⟨(b5.fr G5 (by simp)).cell, G5⟩ (fun hH9 => ?_)
                    clear hK K hH0
                    have hH0 := hH9
                    clear hH9
                    try simp only [Act.put, List.setIfInBounds_toArray, List.set_cons_zero, List.set_cons_succ, List.getElem_toArray, List.getElem_cons_zero, List.getElem_cons_succ]
                    have hz5 := F5.size
                    have hb3 := blk_fr hb2 F5 (by simp)
                    have hsrc := lit_blk hb3
                    refine wpAnyH_ready (rs := [10]) (by kernel_rfl) (by simp) ?_
                    refine AllReadyH.cons rfl (fun K hK => ?_) AllReadyH.nil
                    simp only [List.getElem_toArray, List.getElem_cons_zero, List.getElem_cons_succ]
                    refine step_anyG eiClm (by rfl) _ _ rfl BN A5 L.length c5 (flC L) rfl own5 (some ⟨(BN + 1), 0, none⟩) 1 1 [.int .i64 x.1, .int .i64 x.2] rfl hsrc (by simp [Value.oneCell']) (by omega) (by unfold maxLen; omega) (by simp at hz5; omega) ?_
                    intro A7 c7 w7 own7 F7 _
                    have G7 := (G5).own F7 (fun q e => by have := own_blk_ge own5 q e; omega)
                    have H7 := Lib.hid (SlC.of_own (r := none) (l := L ++ [x]) (by rw [flC_snoc]; exact own7) (by simp) HWl.out)
                    refine hK.out _ _ ⟨(b5.fr G7 (by simp)).cell, G7⟩ (fun hH9 => ?_)
                    clear hK K hH0
                    have hH0 := hH9
                    clear hH9
                    try simp only [Act.put, List.setIfInBounds_toArray, List.set_cons_zero, List.set_cons_succ, List.getElem_toArray, List.getElem_cons_zero, List.getElem_cons_succ]
                    refine wpAnyH_ready (rs := [11]) (by kernel_rfl) (by simp) ?_
                    refine AllReadyH.cons rfl (fun K hK => ?_) AllReadyH.nil
                    simp only [List.getElem_toArray, List.getElem_cons_zero, List.getElem_cons_succ]
                    go_simp
                    go_at_call 18
                    refine (ccons_any (L ++ [x]) _ _ H7.out HLx.out).mono ?_
                    rintro e wN ⟨rfl, FN⟩
                    have FN := hH0.2.pure FN
                    refine hK.out _ _ ⟨(b5.fr FN (by simp)).cell, FN⟩ (fun hH1 => ?_)
                    clear hK K hH0 FN
                    have hH0 := hH1
                    clear hH1
                    rw [HCn.out]
                    try simp only [Act.put, List.setIfInBounds_toArray, List.set_cons_zero, List.set_cons_succ, List.getElem_toArray, List.getElem_cons_zero, List.getElem_cons_succ]
                    refine wpAnyH_take (i := 13) (v := ?_) rfl (by kernel_rfl) (by kernel_rfl) (by kernel_rfl) (fun _ _ _ h => h) (Or.inl ⟨by rfl, ?_⟩) (by assumption) ?_
                    rotate_left
                    · (intro W hW; (try dsimp only at hW); go_simp; try with_reducible rfl)
                    try simp only [Act.put, List.setIfInBounds_toArray, List.set_cons_zero, List.set_cons_succ, List.getElem_toArray, List.getElem_cons_zero, List.getElem_cons_succ]
                    refine wpAnyH_take (i := 14) (v := ?_) rfl (by kernel_rfl) (by kernel_rfl) (by kernel_rfl) (fun _ _ _ h => h) (Or.inl ⟨by rfl, ?_⟩) (by assumption) ?_
                    rotate_left
                    · (intro W hW; (try dsimp only at hW); go_simp; try with_reducible rfl)
                    try simp only [Act.put, List.setIfInBounds_toArray, List.set_cons_zero, List.set_cons_succ, List.getElem_toArray, List.getElem_cons_zero, List.getElem_cons_succ]
                    refine wpAnyH_take (i := 15) (v := ?_) rfl (by kernel_rfl) (by kernel_rfl) (by kernel_rfl) (fun _ _ _ h => h) (Or.inl ⟨by rfl, ?_⟩) (by assumption) ?_
                    rotate_left
                    · (intro W hW; (try dsimp only at hW); go_simp; try with_reducible rfl)
                    try simp only [Act.put, List.setIfInBounds_toArray, List.set_cons_zero, List.set_cons_succ, List.getElem_toArray, List.getElem_cons_zero, List.getElem_cons_succ]
                    refine wpAnyH_take (i := 16) (v := ?_) rfl (by kernel_rfl) (by kernel_rfl) (by kernel_rfl) (fun _ _ _ h => h) (Or.inl ⟨by rfl, ?_⟩) (by assumption) ?_
                    rotate_left
                    · (intro W hW; (try dsimp only at hW); go_simp; try with_reducible rfl)
                    try simp only [Act.put, List.setIfInBounds_toArray, List.set_cons_zero, List.set_cons_succ, List.getElem_toArray, List.getElem_cons_zero, List.getElem_cons_succ]
                    refine wpAnyH_take (i := 17) (v := ?_) rfl (by kernel_rfl) (by kernel_rfl) (by kernel_rfl) (fun _ _ _ h => h) (Or.inl ⟨by rfl, ?_⟩) (by assumption) ?_
                    rotate_left
                    · (intro W hW; (try dsimp only at hW); go_simp; try with_reducible rfl)
                    try simp only [Act.put, List.setIfInBounds_toArray, List.set_cons_zero, List.set_cons_succ, List.getElem_toArray, List.getElem_cons_zero, List.getElem_cons_succ]
                    refine wpAnyH_take (i := 18) (v := ?_) rfl (by kernel_rfl) (by kernel_rfl) (by kernel_rfl) (fun _ _ _ h => h) (Or.inl ⟨by rfl, ?_⟩) (by assumption) ?_
                    rotate_left
                    · (intro W hW; (try dsimp only at hW); go_simp; try with_reducible rfl)
                    try simp only [Act.put, List.setIfInBounds_toArray, List.set_cons_zero, List.set_cons_succ, List.getElem_toArray, List.getElem_cons_zero, List.getElem_cons_succ]
                    refine wpAnyH_take (i := 19) (v := ?_) rfl (by kernel_rfl) (by kernel_rfl) (by kernel_rfl) (fun _ _ _ h => h) (Or.inl ⟨by rfl, ?_⟩) (by assumption) ?_
                    rotate_left
                    · (intro W hW; (try dsimp only at hW); go_simp; try with_reducible rfl)
                    try simp only [Act.put, List.setIfInBounds_toArray, List.set_cons_zero, List.set_cons_succ, List.getElem_toArray, List.getElem_cons_zero, List.getElem_cons_succ]
                    refine wpAnyH_ready (rs := [20]) (by kernel_rfl) (by simp) ?_
                    refine AllReadyH.cons rfl (fun K hK => ?_) AllReadyH.nil
                    simp only [List.getElem_toArray, List.getElem_cons_zero, List.getElem_cons_succ]
                    go_simp
                    go_at_call 6
                    refine (awakeC_any _ (HT.out.1.fr hH0.2) (HT.out.2.1.fr hH0.2) (HT.out.2.2.fr hH0.2)).mono ?_
                    rintro e wN ⟨rfl, FN⟩
                    have FN := hH0.2.pure FN
                    refine hK.out _ _ ⟨(b5.fr FN (by simp)).cell, FN⟩ (fun hH1 => ?_)
                    clear hK K hH0 FN
                    have hH0 := hH1
                    clear hH1
                    try simp only [Act.put, List.setIfInBounds_toArray, List.set_cons_zero, List.set_cons_succ, List.getElem_toArray, List.getElem_cons_zero, List.getElem_cons_succ]
                    refine wpAnyH_take (i := 21) (v := ?_) rfl (by kernel_rfl) (by kernel_rfl) (by kernel_rfl) (fun _ _ _ h => h) (Or.inl ⟨by rfl, ?_⟩) (by assumption) ?_
                    rotate_left
                    · (intro W hW; (try dsimp only at hW); go_simp; try with_reducible rfl)
                    try simp only [Act.put, List.setIfInBounds_toArray, List.set_cons_zero, List.set_cons_succ, List.getElem_toArray, List.getElem_cons_zero, List.getElem_cons_succ]
                    refine wpAnyH_take (i := 22) (v := ?_) rfl (by kernel_rfl) (by kernel_rfl) (by kernel_rfl) (fun _ _ _ h => h) (Or.inl ⟨by rfl, ?_⟩) (by assumption) ?_
                    rotate_left
                    · (intro W hW; (try dsimp only at hW); go_simp; try with_reducible rfl)
                    try simp only [Act.put, List.setIfInBounds_toArray, List.set_cons_zero, List.set_cons_succ, List.getElem_toArray, List.getElem_cons_zero, List.getElem_cons_succ]
                    refine wpAnyH_done (by kernel_rfl) ?_ _
                    go_wp2_with fail
                    go_ret
                    exact ⟨rfl, F0k.pure hH0.2⟩
                · have G1 := G0.alloc (.cells #[.int .i64 x.1, .int .i64 x.2] 38)
                  have hb1 := blk_new wN (.cells #[.int .i64 x.1, .int .i64 x.2] 38)
                  have own0 := own_zeroC (wN.alloc (.cells #[.int .i64 x.1, .int .i64 x.2] 38))
                  have hz1 : (wN.alloc (.cells #[.int .i64 x.1, .int .i64 x.2] 38)).heap.size = wN.heap.size + 1 := by simp
                  have G2 := G1.alloc (.cells #[] 38)
                  have hb2 := blk_fr hb1 ((Fr.refl none (wN.alloc (.cells #[.int .i64 x.1, .int .i64 x.2] 38))).alloc (.cells #[] 38)) (by simp)
                  obtain ⟨BN, hBN⟩ : ∃ BN, wN.heap.size = BN := ⟨_, rfl⟩
                  rw [hBN] at hz1 hzN hb1 hb2
                  rw [hz1] at own0
                  simp only [List.getElem_toArray, List.getElem_cons_zero, List.getElem_cons_succ]
                  go_simp
                  refine hK.out _ _ ⟨(b5.fr G1 (by simp)).cell, G1⟩ (fun hH9 => ?_)
                  clear hK K hH0
                  have hH0 := hH9
                  clear hH9
                  try simp only [Act.put, List.setIfInBounds_toArray, List.set_cons_zero, List.set_cons_succ, List.getElem_toArray, List.getElem_cons_zero, List.getElem_cons_succ]
                  refine wpAnyH_ready (rs := [5]) (by kernel_rfl) (by simp) ?_
                  refine AllReadyH.cons rfl (fun K hK => ?_) AllReadyH.nil
                  simp only [List.getElem_toArray, List.getElem_cons_zero, List.getElem_cons_succ]
                  go_simp
                  refine hK.out _ _ ⟨(b5.fr G2 (by simp)).cell, G2⟩ (fun hH9 => ?_)
                  clear hK K hH0
                  have hH0 := hH9
                  clear hH9
                  try simp only [Act.put, List.setIfInBounds_toArray, List.set_cons_zero, List.set_cons_succ, List.getElem_toArray, List.getElem_cons_zero, List.getElem_cons_succ]
                  refine wpAnyH_ready (rs := [7]) (by kernel_rfl) (by simp) ?_
                  refine AllReadyH.cons rfl (fun K hK => ?_) AllReadyH.nil
                  simp only [List.getElem_toArray, List.getElem_cons_zero, List.getElem_cons_succ]
                  refine step_anyG eiClm (by rfl) _ _ rfl (BN + 1) (some ⟨(BN + 1), 0, none⟩) 0 0 [] rfl own0 AL L.length cL (flC L) rfl ((HSL.out.fr G2).1.any) (flC_one L) (by omega) (by unfold maxLen; omega) (by simp; omega) ?_
                  intro A5 c5 w5 own5 F5 _
                  simp only [Nat.zero_add, List.nil_append] at own5 ⊢
                  have F5 : Fr (some (BN + 1)) _ w5 := F5
                  have G5 := (G2).own F5 (fun q e => by injection e with e; omega)
                  refine hK.out _ _ ⟨(b5.fr G5 (by simp)).cell, G5⟩ (fun hH9 => ?_)
                  clear hK K hH0
                  have hH0 := hH9
                  clear hH9
                  try simp only [Act.put, List.setIfInBounds_toArray, List.set_cons_zero, List.set_cons_succ, List.getElem_toArray, List.getElem_cons_zero, List.getElem_cons_succ]
                  have hz5 := F5.size
                  have hb3 := blk_fr hb2 F5 (by simp)
                  have hsrc := lit_blk hb3
                  refine wpAnyH_ready (rs := [10]) (by kernel_rfl) (by simp) ?_
                  refine AllReadyH.cons rfl (fun K hK => ?_) AllReadyH.nil
                  simp only [List.getElem_toArray, List.getElem_cons_zero, List.getElem_cons_succ]
                  refine step_anyG eiClm (by rfl) _ _ rfl (BN + 1) A5 L.length c5 (flC L) rfl own5 (some ⟨BN, 0, none⟩) 1 1 [.int .i64 x.1, .int .i64 x.2] rfl hsrc (by simp [Value.oneCell']) (by omega) (by unfold maxLen; omega) (by simp at hz5; omega) ?_
                  intro A7 c7 w7 own7 F7 _
                  have G7 := (G5).own F7 (fun q e => by have := own_blk_ge own5 q e; omega)
                  have H7 := Lib.hid (SlC.of_own (r := none) (l := L ++ [x]) (by rw [flC_snoc]; exact own7) (by simp) HWl.out)
                  refine hK.out _ _ ⟨(b5.fr G7 (by simp)).cell, G7⟩ (fun hH9 => ?_)
                  clear hK K hH0
                  have hH0 := hH9
                  clear hH9
                  try simp only [Act.put, List.setIfInBounds_toArray, List.set_cons_zero, List.set_cons_succ, List.getElem_toArray, List.getElem_cons_zero, List.getElem_cons_succ]
                  refine wpAnyH_ready (rs := [11]) (by kernel_rfl) (by simp) ?_
                  refine AllReadyH.cons rfl (fun K hK => ?_) AllReadyH.nil
                  simp only [List.getElem_toArray, List.getElem_cons_zero, List.getElem_cons_succ]
                  go_simp
                  go_at_call 18
                  refine (ccons_any (L ++ [x]) _ _ H7.out HLx.out).mono ?_
                  rintro e wN ⟨rfl, FN⟩
                  have FN := hH0.2.pure FN
                  refine hK.out _ _ ⟨(b5.fr FN (by simp)).cell, FN⟩ (fun hH1 => ?_)
                  clear hK K hH0 FN
                  have hH0 := hH1
                  clear hH1
                  rw [HCn.out]
                  try simp only [Act.put, List.setIfInBounds_toArray, List.set_cons_zero, List.set_cons_succ, List.getElem_toArray, List.getElem_cons_zero, List.getElem_cons_succ]
                  refine wpAnyH_take (i := 13) (v := ?_) rfl (by kernel_rfl) (by kernel_rfl) (by kernel_rfl) (fun _ _ _ h => h) (Or.inl ⟨by rfl, ?_⟩) (by assumption) ?_
                  rotate_left
                  · (intro W hW; (try dsimp only at hW); go_simp; try with_reducible rfl)
                  try simp only [Act.put, List.setIfInBounds_toArray, List.set_cons_zero, List.set_cons_succ, List.getElem_toArray, List.getElem_cons_zero, List.getElem_cons_succ]
                  refine wpAnyH_take (i := 14) (v := ?_) rfl (by kernel_rfl) (by kernel_rfl) (by kernel_rfl) (fun _ _ _ h => h) (Or.inl ⟨by rfl, ?_⟩) (by assumption) ?_
                  rotate_left
                  · (intro W hW; (try dsimp only at hW); go_simp; try with_reducible rfl)
                  try simp only [Act.put, List.setIfInBounds_toArray, List.set_cons_zero, List.set_cons_succ, List.getElem_toArray, List.getElem_cons_zero, List.getElem_cons_succ]
                  refine wpAnyH_take (i := 15) (v := ?_) rfl (by kernel_rfl) (by kernel_rfl) (by kernel_rfl) (fun _ _ _ h => h) (Or.inl ⟨by rfl, ?_⟩) (by assumption) ?_
                  rotate_left
                  · (intro W hW; (try dsimp only at hW); go_simp; try with_reducible rfl)
                  try simp only [Act.put, List.setIfInBounds_toArray, List.set_cons_zero, List.set_cons_succ, List.getElem_toArray, List.getElem_cons_zero, List.getElem_cons_succ]
                  refine wpAnyH_take (i := 16) (v := ?_) rfl (by kernel_rfl) (by kernel_rfl) (by kernel_rfl) (fun _ _ _ h => h) (Or.inl ⟨by rfl, ?_⟩) (by assumption) ?_
                  rotate_left
                  · (intro W hW; (try dsimp only at hW); go_simp; try with_reducible rfl)
                  try simp only [Act.put, List.setIfInBounds_toArray, List.set_cons_zero, List.set_cons_succ, List.getElem_toArray, List.getElem_cons_zero, List.getElem_cons_succ]
                  refine wpAnyH_take (i := 17) (v := ?_) rfl (by kernel_rfl) (by kernel_rfl) (by kernel_rfl) (fun _ _ _ h => h) (Or.inl ⟨by rfl, ?_⟩) (by assumption) ?_
                  rotate_left
                  · (intro W hW; (try dsimp only at hW); go_simp; try with_reducible rfl)
                  try simp only [Act.put, List.setIfInBounds_toArray, List.set_cons_zero, List.set_cons_succ, List.getElem_toArray, List.getElem_cons_zero, List.getElem_cons_succ]
                  refine wpAnyH_take (i := 18) (v := ?_) rfl (by kernel_rfl) (by kernel_rfl) (by kernel_rfl) (fun _ _ _ h => h) (Or.inl ⟨by rfl, ?_⟩) (by assumption) ?_
                  rotate_left
                  · (intro W hW; (try dsimp only at hW); go_simp; try with_reducible rfl)
                  try simp only [Act.put, List.setIfInBounds_toArray, List.set_cons_zero, List.set_cons_succ, List.getElem_toArray, List.getElem_cons_zero, List.getElem_cons_succ]
                  refine wpAnyH_take (i := 19) (v := ?_) rfl (by kernel_rfl) (by kernel_rfl) (by kernel_rfl) (fun _ _ _ h => h) (Or.inl ⟨by rfl, ?_⟩) (by assumption) ?_
                  rotate_left
                  · (intro W hW; (try dsimp only at hW); go_simp; try with_reducible rfl)
                  try simp only [Act.put, List.setIfInBounds_toArray, List.set_cons_zero, List.set_cons_succ, List.getElem_toArray, List.getElem_cons_zero, List.getElem_cons_succ]
                  refine wpAnyH_ready (rs := [20]) (by kernel_rfl) (by simp) ?_
                  refine AllReadyH.cons rfl (fun K hK => ?_) AllReadyH.nil
                  simp only [List.getElem_toArray, List.getElem_cons_zero, List.getElem_cons_succ]
                  go_simp
                  go_at_call 6
                  refine (awakeC_any _ (HT.out.1.fr hH0.2) (HT.out.2.1.fr hH0.2) (HT.out.2.2.fr hH0.2)).mono ?_
                  rintro e wN ⟨rfl, FN⟩
                  have FN := hH0.2.pure FN
                  refine hK.out _ _ ⟨(b5.fr FN (by simp)).cell, FN⟩ (fun hH1 => ?_)
                  clear hK K hH0 FN
                  have hH0 := hH1
                  clear hH1
                  try simp only [Act.put, List.setIfInBounds_toArray, List.set_cons_zero, List.set_cons_succ, List.getElem_toArray, List.getElem_cons_zero, List.getElem_cons_succ]
                  refine wpAnyH_take (i := 21) (v := ?_) rfl (by kernel_rfl) (by kernel_rfl) (by kernel_rfl) (fun _ _ _ h => h) (Or.inl ⟨by rfl, ?_⟩) (by assumption) ?_
                  rotate_left
                  · (intro W hW; (try dsimp only at hW); go_simp; try with_reducible rfl)
                  try simp only [Act.put, List.setIfInBounds_toArray, List.set_cons_zero, List.set_cons_succ, List.getElem_toArray, List.getElem_cons_zero, List.getElem_cons_succ]
                  refine wpAnyH_take (i := 22) (v := ?_) rfl (by kernel_rfl) (by kernel_rfl) (by kernel_rfl) (fun _ _ _ h => h) (Or.inl ⟨by rfl, ?_⟩) (by assumption) ?_
                  rotate_left
                  · (intro W hW; (try dsimp only at hW); go_simp; try with_reducible rfl)
                  try simp only [Act.put, List.setIfInBounds_toArray, List.set_cons_zero, List.set_cons_succ, List.getElem_toArray, List.getElem_cons_zero, List.getElem_cons_succ]
                  refine wpAnyH_done (by kernel_rfl) ?_ _
                  go_wp2_with fail
                  go_ret
                  exact ⟨rfl, F0k.pure hH0.2⟩
              | true =>
                have HCn : Hid (consC (L ++ [x]) = false) := HCn.out
                refine wp_region_held_drew (S := fun W => (W.cell? ⟨B5, 0, none⟩ = some (.int .i64 x.1) ∧ W.cell? ⟨B5, 1, none⟩ = some (.int .i64 x.2)) ∧ Fr none wk W) (by kernel_rfl) ⟨b5.cell, (Fr.refl _ _).drew⟩ (fun hH0 => ?_)
                refine wpAnyH_take (i := 0) (v := ?_) rfl (by kernel_rfl) (by kernel_rfl) (by kernel_rfl) (fun _ _ _ h => h) (Or.inl ⟨by rfl, ?_⟩) (by assumption) ?_
                rotate_left
                · (intro W hW; (try dsimp only at hW); go_simp; try with_reducible rfl)
                try simp only [Act.put, List.setIfInBounds_toArray, List.set_cons_zero, List.set_cons_succ, List.getElem_toArray, List.getElem_cons_zero, List.getElem_cons_succ]
                refine wpAnyH_take (i := 2) (v := ?_) rfl (by kernel_rfl) (by kernel_rfl) (by kernel_rfl) (fun _ _ _ h => h) (Or.inl ⟨by rfl, ?_⟩) (by assumption) ?_
                rotate_left
                · (intro W hW; (try dsimp only at hW); go_simp; try with_reducible rfl)
                try simp only [Act.put, List.setIfInBounds_toArray, List.set_cons_zero, List.set_cons_succ, List.getElem_toArray, List.getElem_cons_zero, List.getElem_cons_succ]
                refine wpAnyH_ready (rs := [1]) (by kernel_rfl) (by simp) ?_
                refine AllReadyH.cons rfl (fun K hK => ?_) AllReadyH.nil
                simp only [List.getElem_toArray, List.getElem_cons_zero, List.getElem_cons_succ]
                go_simp
                go_at_call 18
                refine (ccons_any L _ _ (HSL.out.fr hH0.2) HLl.out).mono ?_
                rintro e wN ⟨rfl, FN⟩
                have FN := hH0.2.pure FN
                refine hK.out _ _ ⟨(b5.fr FN (by simp)).cell, FN⟩ (fun hH1 => ?_)
                clear hK K hH0 FN
                have hH0 := hH1
                clear hH1
                rw [HO.out]
                try simp only [Act.put, List.setIfInBounds_toArray, List.set_cons_zero, List.set_cons_succ, List.getElem_toArray, List.getElem_cons_zero, List.getElem_cons_succ]
                refine wpAnyH_take (i := 3) (v := ?_) rfl (by kernel_rfl) (by kernel_rfl) (by kernel_rfl) (fun _ _ _ h => h) (Or.inl ⟨by rfl, ?_⟩) (by assumption) ?_
                rotate_left
                · (intro W hW; (try dsimp only at hW); go_simp; try with_reducible rfl)
                try simp only [Act.put, List.setIfInBounds_toArray, List.set_cons_zero, List.set_cons_succ, List.getElem_toArray, List.getElem_cons_zero, List.getElem_cons_succ]
                refine wpAnyH_take (i := 4) (v := ?_) rfl (by kernel_rfl) (by kernel_rfl) (by kernel_rfl) (fun _ _ _ h => h) (Or.inl ⟨by rfl, ?_⟩) (by assumption) ?_
                rotate_left
                · (intro W hW; (try dsimp only at hW); go_simp; try with_reducible rfl)
                try simp only [Act.put, List.setIfInBounds_toArray, List.set_cons_zero, List.set_cons_succ, List.getElem_toArray, List.getElem_cons_zero, List.getElem_cons_succ]
                refine wpAnyH_take (i := 6) (v := ?_) rfl (by kernel_rfl) (by kernel_rfl) (by kernel_rfl) (fun _ _ _ h => h) (Or.inl ⟨by rfl, ?_⟩) (by assumption) ?_
                rotate_left
                · (intro W hW; (try dsimp only at hW); go_simp; try with_reducible rfl)
                try simp only [Act.put, List.setIfInBounds_toArray, List.set_cons_zero, List.set_cons_succ, List.getElem_toArray, List.getElem_cons_zero, List.getElem_cons_succ]
                refine wpAnyH_take (i := 8) (v := ?_) rfl (by kernel_rfl) (by kernel_rfl) (by kernel_rfl) (fun _ _ _ h => h) (Or.inl ⟨by rfl, ?_⟩) (by assumption) ?_
                rotate_left
                · (intro W hW; (try dsimp only at hW); go_simp; try with_reducible rfl)
                try simp only [Act.put, List.setIfInBounds_toArray, List.set_cons_zero, List.set_cons_succ, List.getElem_toArray, List.getElem_cons_zero, List.getElem_cons_succ]
                refine wpAnyH_take (i := 12) (v := ?_) rfl (by kernel_rfl) (by kernel_rfl) (by kernel_rfl) (fun _ _ _ h => h) (Or.inl ⟨by rfl, ?_⟩) (by assumption) ?_
                rotate_left
                · (intro W hW; (try dsimp only at hW); go_simp; try with_reducible rfl)
                try simp only [Act.put, List.setIfInBounds_toArray, List.set_cons_zero, List.set_cons_succ, List.getElem_toArray, List.getElem_cons_zero, List.getElem_cons_succ]
                have G0 := hH0.2
                have hzN := G0.size
                refine wpAnyH_ready (rs := [5, 9]) (by kernel_rfl) (by simp) ?_
                refine AllReadyH.cons rfl (fun K hK => ?_) (AllReadyH.cons rfl (fun K hK => ?_) AllReadyH.nil)
                · have G1 := G0.alloc (.cells #[] 38)
                  have own0 := own_zeroC wN
                  have hz1 : (wN.alloc (.cells #[] 38)).heap.size = wN.heap.size + 1 := by simp
                  have hb1 := blk_new wN (.cells #[] 38)
                  obtain ⟨BN, hBN⟩ : ∃ BN, wN.heap.size = BN := ⟨_, rfl⟩
                  rw [hBN] at own0 hz1 hzN
                  simp only [List.getElem_toArray, List.getElem_cons_zero, List.getElem_cons_succ]
                  go_simp
                  refine hK.out _ _ ⟨(b5.fr G1 (by simp)).cell, G1⟩ (fun hH9 => ?_)
                  clear hK K hH0
                  have hH0 := hH9
                  clear hH9
                  try simp only [Act.put, List.setIfInBounds_toArray, List.set_cons_zero, List.set_cons_succ, List.getElem_toArray, List.getElem_cons_zero, List.getElem_cons_succ]
                  refine wpAnyH_ready (rs := [7, 9]) (by kernel_rfl) (by simp) ?_
                  refine AllReadyH.cons rfl (fun K hK => ?_) (AllReadyH.cons rfl (fun K hK => ?_) AllReadyH.nil)
                  · skip
                    simp only [List.getElem_toArray, List.getElem_cons_zero, List.getElem_cons_succ]
                    refine step_anyG eiClm (by rfl) _ _ rfl BN (some ⟨BN, 0, none⟩) 0 0 [] rfl own0 AL L.length cL (flC L) rfl ((HSL.out.fr G1).1.any) (flC_one L) (by omega) (by unfold maxLen; omega) (by omega) ?_
                    intro A5 c5 w5 own5 F5 _
                    simp only [Nat.zero_add, List.nil_append] at own5 ⊢
                    have F5 : Fr (some BN) _ w5 := F5
                    have G5 := (G1).own F5 (fun q e => by injection e with e; omega)
                    refine hK.out _ _ ⟨(b5.fr G5 (by simp)).cell, G5⟩ (fun hH9 => ?_)
                    clear hK K hH0
                    have hH0 := hH9
                    clear hH9
                    try simp only [Act.put, List.setIfInBounds_toArray, List.set_cons_zero, List.set_cons_succ, List.getElem_toArray, List.getElem_cons_zero, List.getElem_cons_succ]
                    refine wpAnyH_ready (rs := [9]) (by kernel_rfl) (by simp) ?_
                    refine AllReadyH.cons rfl (fun K hK => ?_) AllReadyH.nil
                    have hz5 := F5.size
                    have G6 := G5.alloc (.cells #[.int .i64 x.1, .int .i64 x.2] 38)
                    have hsrc := lit_blk (blk_new w5 (.cells #[.int .i64 x.1, .int .i64 x.2] 38))
                    have own6 := own5.alloc (.cells #[.int .i64 x.1, .int .i64 x.2] 38)
                    simp only [List.getElem_toArray, List.getElem_cons_zero, List.getElem_cons_succ]
                    go_simp
                    refine hK.out _ _ ⟨(b5.fr G6 (by simp)).cell, G6⟩ (fun hH9 => ?_)
                    clear hK K hH0
                    have hH0 := hH9
                    clear hH9
                    try simp only [Act.put, List.setIfInBounds_toArray, List.set_cons_zero, List.set_cons_succ, List.getElem_toArray, List.getElem_cons_zero, List.getElem_cons_succ]
                    refine wpAnyH_ready (rs := [10]) (by kernel_rfl) (by simp) ?_
                    refine AllReadyH.cons rfl (fun K hK => ?_) AllReadyH.nil
                    simp only [List.getElem_toArray, List.getElem_cons_zero, List.getElem_cons_succ]
                    refine step_anyG eiClm (by rfl) _ _ rfl BN A5 L.length c5 (flC L) rfl own6 (some ⟨w5.heap.size, 0, none⟩) 1 1 [.int .i64 x.1, .int .i64 x.2] rfl hsrc (by simp [Value.oneCell']) (by omega) (by unfold maxLen; omega) (by simp; omega) ?_
                    intro A7 c7 w7 own7 F7 _
                    have G7 := (G6).own F7 (fun q e => by have := own_blk_ge own6 q e; omega)
                    have H7 := Lib.hid (SlC.of_own (r := none) (l := L ++ [x]) (by rw [flC_snoc]; exact own7) (by simp) HWl.out)
                    refine hK.out _ _ ⟨(b5.fr G7 (by simp)).cell, G7⟩ (fun hH9 => ?_)
                    clear hK K hH0
                    have hH0 := hH9
                    clear hH9
                    try simp only [Act.put, List.setIfInBounds_toArray, List.set_cons_zero, List.set_cons_succ, List.getElem_toArray, List.getElem_cons_zero, List.getElem_cons_succ]
                    refine wpAnyH_ready (rs := [11]) (by kernel_rfl) (by simp) ?_
                    refine AllReadyH.cons rfl (fun K hK => ?_) AllReadyH.nil
                    simp only [List.getElem_toArray, List.getElem_cons_zero, List.getElem_cons_succ]
                    go_simp
                    go_at_call 18
                    refine (ccons_any (L ++ [x]) _ _ H7.out HLx.out).mono ?_
                    rintro e wN ⟨rfl, FN⟩
                    have FN := hH0.2.pure FN
                    refine hK.out _ _ ⟨(b5.fr FN (by simp)).cell, FN⟩ (fun hH1 => ?_)
                    clear hK K hH0 FN
                    have hH0 := hH1
                    clear hH1
                    rw [HCn.out]
                    try simp only [Act.put, List.setIfInBounds_toArray, List.set_cons_zero, List.set_cons_succ, List.getElem_toArray, List.getElem_cons_zero, List.getElem_cons_succ]
                    refine wpAnyH_take (i := 13) (v := ?_) rfl (by kernel_rfl) (by kernel_rfl) (by kernel_rfl) (fun _ _ _ h => h) (Or.inl ⟨by rfl, ?_⟩) (by assumption) ?_
                    rotate_left
                    · (intro W hW; (try dsimp only at hW); go_simp; try with_reducible rfl)
                    try simp only [Act.put, List.setIfInBounds_toArray, List.set_cons_zero, List.set_cons_succ, List.getElem_toArray, List.getElem_cons_zero, List.getElem_cons_succ]
                    refine wpAnyH_take (i := 14) (v := ?_) rfl (by kernel_rfl) (by kernel_rfl) (by kernel_rfl) (fun _ _ _ h => h) (Or.inl ⟨by rfl, ?_⟩) (by assumption) ?_
                    rotate_left
                    · (intro W hW; (try dsimp only at hW); go_simp; try with_reducible rfl)
                    try simp only [Act.put, List.setIfInBounds_toArray, List.set_cons_zero, List.set_cons_succ, List.getElem_toArray, List.getElem_cons_zero, List.getElem_cons_succ]
                    refine wpAnyH_take (i := 15) (v := ?_) rfl (by kernel_rfl) (by kernel_rfl) (by kernel_rfl) (fun _ _ _ h => h) (Or.inl ⟨by rfl, ?_⟩) (by assumption) ?_
                    rotate_left
                    · (intro W hW; (try dsimp only at hW); go_simp; try with_reducible rfl)
                    try simp only [Act.put, List.setIfInBounds_toArray, List.set_cons_zero, List.set_cons_succ, List.getElem_toArray, List.getElem_cons_zero, List.getElem_cons_succ]
                    refine wpAnyH_take (i := 16) (v := ?_) rfl (by kernel_rfl) (by kernel_rfl) (by kernel_rfl) (fun _ _ _ h => h) (Or.inl ⟨by rfl, ?_⟩) (by assumption) ?_
                    rotate_left
                    · (intro W hW; (try dsimp only at hW); go_simp; try with_reducible rfl)
                    try simp only [Act.put, List.setIfInBounds_toArray, List.set_cons_zero, List.set_cons_succ, List.getElem_toArray, List.getElem_cons_zero, List.getElem_cons_succ]
                    refine wpAnyH_take (i := 17) (v := ?_) rfl (by kernel_rfl) (by kernel_rfl) (by kernel_rfl) (fun _ _ _ h => h) (Or.inl ⟨by rfl, ?_⟩) (by assumption) ?_
                    rotate_left
                    · (intro W hW; (try dsimp only at hW); go_simp; try with_reducible rfl)
                    try simp only [Act.put, List.setIfInBounds_toArray, List.set_cons_zero, List.set_cons_succ, List.getElem_toArray, List.getElem_cons_zero, List.getElem_cons_succ]
                    refine wpAnyH_take (i := 18) (v := ?_) rfl (by kernel_rfl) (by kernel_rfl) (by kernel_rfl) (fun _ _ _ h => h) (Or.inl ⟨by rfl, ?_⟩) (by assumption) ?_
                    rotate_left
                    · (intro W hW; (try dsimp only at hW); go_simp; try with_reducible rfl)
                    try simp only [Act.put, List.setIfInBounds_toArray, List.set_cons_zero, List.set_cons_succ, List.getElem_toArray, List.getElem_cons_zero, List.getElem_cons_succ]
                    refine wpAnyH_take (i := 19) (v := ?_) rfl (by kernel_rfl) (by kernel_rfl) (by kernel_rfl) (fun _ _ _ h => h) (Or.inl ⟨by rfl, ?_⟩) (by assumption) ?_
                    rotate_left
                    · (intro W hW; (try dsimp only at hW); go_simp; try with_reducible rfl)
                    try simp only [Act.put, List.setIfInBounds_toArray, List.set_cons_zero, List.set_cons_succ, List.getElem_toArray, List.getElem_cons_zero, List.getElem_cons_succ]
                    refine wpAnyH_ready (rs := [20]) (by kernel_rfl) (by simp) ?_
                    refine AllReadyH.cons rfl (fun K hK => ?_) AllReadyH.nil
                    simp only [List.getElem_toArray, List.getElem_cons_zero, List.getElem_cons_succ]
                    go_simp
                    go_at_call 6
                    refine (awakeC_any _ (HT.out.1.fr hH0.2) (HT.out.2.1.fr hH0.2) (HT.out.2.2.fr hH0.2)).mono ?_
                    rintro e wN ⟨rfl, FN⟩
                    have FN := hH0.2.pure FN
                    refine hK.out _ _ ⟨(b5.fr FN (by simp)).cell, FN⟩ (fun hH1 => ?_)
                    clear hK K hH0 FN
                    have hH0 := hH1
                    clear hH1
                    try simp only [Act.put, List.setIfInBounds_toArray, List.set_cons_zero, List.set_cons_succ, List.getElem_toArray, List.getElem_cons_zero, List.getElem_cons_succ]
                    refine wpAnyH_take (i := 21) (v := ?_) rfl (by kernel_rfl) (by kernel_rfl) (by kernel_rfl) (fun _ _ _ h => h) (Or.inl ⟨by rfl, ?_⟩) (by assumption) ?_
                    rotate_left
                    · (intro W hW; (try dsimp only at hW); go_simp; try with_reducible rfl)
                    try simp only [Act.put, List.setIfInBounds_toArray, List.set_cons_zero, List.set_cons_succ, List.getElem_toArray, List.getElem_cons_zero, List.getElem_cons_succ]
                    refine wpAnyH_take (i := 22) (v := ?_) rfl (by kernel_rfl) (by kernel_rfl) (by kernel_rfl) (fun _ _ _ h => h) (Or.inl ⟨by rfl, ?_⟩) (by assumption) ?_
                    rotate_left
                    · (intro W hW; (try dsimp only at hW); go_simp; try with_reducible rfl)
                    try simp only [Act.put, List.setIfInBounds_toArray, List.set_cons_zero, List.set_cons_succ, List.getElem_toArray, List.getElem_cons_zero, List.getElem_cons_succ]
                    refine wpAnyH_done (by kernel_rfl) ?_ _
                    go_wp2_with fail
                    go_ret
                    exact ⟨rfl, F0k.pure hH0.2⟩
                  · skip
                    have G2 := G1.alloc (.cells #[.int .i64 x.1, .int .i64 x.2] 38)
                    have own1 := own0.alloc (.cells #[.int .i64 x.1, .int .i64 x.2] 38)
                    have hb2 := blk_new (wN.alloc (.cells #[] 38)) (.cells #[.int .i64 x.1, .int .i64 x.2] 38)
                    rw [hz1] at hb2
                    simp only [List.getElem_toArray, List.getElem_cons_zero, List.getElem_cons_succ]
                    go_simp
                    refine hK.out _ _ ⟨(b5.fr G2 (by simp)).cell, G2⟩ (fun hH9 => ?_)
                    clear hK K hH0
                    have hH0 := hH9
                    clear hH9
                    try simp only [Act.put, List.setIfInBounds_toArray, List.set_cons_zero, List.set_cons_succ, List.getElem_toArray, List.getElem_cons_zero, List.getElem_cons_succ]
                    refine wpAnyH_ready (rs := [7]) (by kernel_rfl) (by simp) ?_
                    refine AllReadyH.cons rfl (fun K hK => ?_) AllReadyH.nil
                    simp only [List.getElem_toArray, List.getElem_cons_zero, List.getElem_cons_succ]
                    refine step_anyG eiClm (by rfl) _ _ rfl BN (some ⟨BN, 0, none⟩) 0 0 [] rfl own1 AL L.length cL (flC L) rfl ((HSL.out.fr G2).1.any) (flC_one L) (by omega) (by unfold maxLen; omega) (by simp; omega) ?_
                    intro A5 c5 w5 own5 F5 _
                    simp only [Nat.zero_add, List.nil_append] at own5 ⊢
                    have F5 : Fr (some BN) _ w5 := F5
                    have G5 := (G2).own F5 (fun q e => by injection e with e; omega)
                    refine hK.out _ _ ⟨(b5.fr G5 (by simp)).cell, G5⟩ (fun hH9 => ?_)
                    clear hK K hH0
                    have hH0 := hH9
                    clear hH9
                    try simp only [Act.put, List.setIfInBounds_toArray, List.set_cons_zero, List.set_cons_succ, List.getElem_toArray, List.getElem_cons_zero, List.getElem_cons_succ]
                    have hz5 := F5.size
                    have hb3 := blk_fr hb2 F5 (by simp)
                    have hsrc := lit_blk hb3
                    refine wpAnyH_ready (rs := [10]) (by kernel_rfl) (by simp) ?_
                    refine AllReadyH.cons rfl (fun K hK => ?_) AllReadyH.nil
                    simp only [List.getElem_toArray, List.getElem_cons_zero, List.getElem_cons_succ]
                    refine step_anyG eiClm (by rfl) _ _ rfl BN A5 L.length c5 (flC L) rfl own5 (some ⟨(BN + 1), 0, none⟩) 1 1 [.int .i64 x.1, .int .i64 x.2] rfl hsrc (by simp [Value.oneCell']) (by omega) (by unfold maxLen; omega) (by simp at hz5; omega) ?_
                    intro A7 c7 w7 own7 F7 _
                    have G7 := (G5).own F7 (fun q e => by have := own_blk_ge own5 q e; omega)
                    have H7 := Lib.hid (SlC.of_own (r := none) (l := L ++ [x]) (by rw [flC_snoc]; exact own7) (by simp) HWl.out)
                    refine hK.out _ _ ⟨(b5.fr G7 (by simp)).cell, G7⟩ (fun hH9 => ?_)
                    clear hK K hH0
                    have hH0 := hH9
                    clear hH9
                    try simp only [Act.put, List.setIfInBounds_toArray, List.set_cons_zero, List.set_cons_succ, List.getElem_toArray, List.getElem_cons_zero, List.getElem_cons_succ]
                    refine wpAnyH_ready (rs := [11]) (by kernel_rfl) (by simp) ?_
                    refine AllReadyH.cons rfl (fun K hK => ?_) AllReadyH.nil
                    simp only [List.getElem_toArray, List.getElem_cons_zero, List.getElem_cons_succ]
                    go_simp
                    go_at_call 18
                    refine (ccons_any (L ++ [x]) _ _ H7.out HLx.out).mono ?_
                    rintro e wN ⟨rfl, FN⟩
                    have FN := hH0.2.pure FN
                    refine hK.out _ _ ⟨(b5.fr FN (by simp)).cell, FN⟩ (fun hH1 => ?_)
                    clear hK K hH0 FN
                    have hH0 := hH1
                    clear hH1
                    rw [HCn.out]
                    try simp only [Act.put, List.setIfInBounds_toArray, List.set_cons_zero, List.set_cons_succ, List.getElem_toArray, List.getElem_cons_zero, List.getElem_cons_succ]
                    refine wpAnyH_take (i := 13) (v := ?_) rfl (by kernel_rfl) (by kernel_rfl) (by kernel_rfl) (fun _ _ _ h => h) (Or.inl ⟨by rfl, ?_⟩) (by assumption) ?_
                    rotate_left
                    · (intro W hW; (try dsimp only at hW); go_simp; try with_reducible rfl)
                    try simp only [Act.put, List.setIfInBounds_toArray, List.set_cons_zero, List.set_cons_succ, List.getElem_toArray, List.getElem_cons_zero, List.getElem_cons_succ]
                    refine wpAnyH_take (i := 14) (v := ?_) rfl (by kernel_rfl) (by kernel_rfl) (by kernel_rfl) (fun _ _ _ h => h) (Or.inl ⟨by rfl, ?_⟩) (by assumption) ?_
                    rotate_left
                    · (intro W hW; (try dsimp only at hW); go_simp; try with_reducible rfl)
                    try simp only [Act.put, List.setIfInBounds_toArray, List.set_cons_zero, List.set_cons_succ, List.getElem_toArray, List.getElem_cons_zero, List.getElem_cons_succ]
                    refine wpAnyH_take (i := 15) (v := ?_) rfl (by kernel_rfl) (by kernel_rfl) (by kernel_rfl) (fun _ _ _ h => h) (Or.inl ⟨by rfl, ?_⟩) (by assumption) ?_
                    rotate_left
                    · (intro W hW; (try dsimp only at hW); go_simp; try with_reducible rfl)
                    try simp only [Act.put, List.setIfInBounds_toArray, List.set_cons_zero, List.set_cons_succ, List.getElem_toArray, List.getElem_cons_zero, List.getElem_cons_succ]
                    refine wpAnyH_take (i := 16) (v := ?_) rfl (by kernel_rfl) (by kernel_rfl) (by kernel_rfl) (fun _ _ _ h => h) (Or.inl ⟨by rfl, ?_⟩) (by assumption) ?_
                    rotate_left
                    · (intro W hW; (try dsimp only at hW); go_simp; try with_reducible rfl)
                    try simp only [Act.put, List.setIfInBounds_toArray, List.set_cons_zero, List.set_cons_succ, List.getElem_toArray, List.getElem_cons_zero, List.getElem_cons_succ]
                    refine wpAnyH_take (i := 17) (v := ?_) rfl (by kernel_rfl) (by kernel_rfl) (by kernel_rfl) (fun _ _ _ h => h) (Or.inl ⟨by rfl, ?_⟩) (by assumption) ?_
                    rotate_left
                    · (intro W hW; (try dsimp only at hW); go_simp; try with_reducible rfl)
                    try simp only [Act.put, List.setIfInBounds_toArray, List.set_cons_zero, List.set_cons_succ, List.getElem_toArray, List.getElem_cons_zero, List.getElem_cons_succ]
                    refine wpAnyH_take (i := 18) (v := ?_) rfl (by kernel_rfl) (by kernel_rfl) (by kernel_rfl) (fun _ _ _ h => h) (Or.inl ⟨by rfl, ?_⟩) (by assumption) ?_
                    rotate_left
                    · (intro W hW; (try dsimp only at hW); go_simp; try with_reducible rfl)
                    try simp only [Act.put, List.setIfInBounds_toArray, List.set_cons_zero, List.set_cons_succ, List.getElem_toArray, List.getElem_cons_zero, List.getElem_cons_succ]
                    refine wpAnyH_take (i := 19) (v := ?_) rfl (by kernel_rfl) (by kernel_rfl) (by kernel_rfl) (fun _ _ _ h => h) (Or.inl ⟨by rfl, ?_⟩) (by assumption) ?_
                    rotate_left
                    · (intro W hW; (try dsimp only at hW); go_simp; try with_reducible rfl)
                    try simp only [Act.put, List.setIfInBounds_toArray, List.set_cons_zero, List.set_cons_succ, List.getElem_toArray, List.getElem_cons_zero, List.getElem_cons_succ]
                    refine wpAnyH_ready (rs := [20]) (by kernel_rfl) (by simp) ?_
                    refine AllReadyH.cons rfl (fun K hK => ?_) AllReadyH.nil
                    simp only [List.getElem_toArray, List.getElem_cons_zero, List.getElem_cons_succ]
                    go_simp
                    go_at_call 6
                    refine (awakeC_any _ (HT.out.1.fr hH0.2) (HT.out.2.1.fr hH0.2) (HT.out.2.2.fr hH0.2)).mono ?_
                    rintro e wN ⟨rfl, FN⟩
                    have FN := hH0.2.pure FN
                    refine hK.out _ _ ⟨(b5.fr FN (by simp)).cell, FN⟩ (fun hH1 => ?_)
                    clear hK K hH0 FN
                    have hH0 := hH1
                    clear hH1
                    try simp only [Act.put, List.setIfInBounds_toArray, List.set_cons_zero, List.set_cons_succ, List.getElem_toArray, List.getElem_cons_zero, List.getElem_cons_succ]
                    refine wpAnyH_take (i := 21) (v := ?_) rfl (by kernel_rfl) (by kernel_rfl) (by kernel_rfl) (fun _ _ _ h => h) (Or.inl ⟨by rfl, ?_⟩) (by assumption) ?_
                    rotate_left
                    · (intro W hW; (try dsimp only at hW); go_simp; try with_reducible rfl)
                    try simp only [Act.put, List.setIfInBounds_toArray, List.set_cons_zero, List.set_cons_succ, List.getElem_toArray, List.getElem_cons_zero, List.getElem_cons_succ]
                    refine wpAnyH_take (i := 22) (v := ?_) rfl (by kernel_rfl) (by kernel_rfl) (by kernel_rfl) (fun _ _ _ h => h) (Or.inl ⟨by rfl, ?_⟩) (by assumption) ?_
                    rotate_left
                    · (intro W hW; (try dsimp only at hW); go_simp; try with_reducible rfl)
                    try simp only [Act.put, List.setIfInBounds_toArray, List.set_cons_zero, List.set_cons_succ, List.getElem_toArray, List.getElem_cons_zero, List.getElem_cons_succ]
                    refine wpAnyH_done (by kernel_rfl) ?_ _
                    go_wp2_with fail
                    go_ret
                    exact ⟨rfl, F0k.pure hH0.2⟩
                · have G1 := G0.alloc (.cells #[.int .i64 x.1, .int .i64 x.2] 38)
                  have hb1 := blk_new wN (.cells #[.int .i64 x.1, .int .i64 x.2] 38)
                  have own0 := own_zeroC (wN.alloc (.cells #[.int .i64 x.1, .int .i64 x.2] 38))
                  have hz1 : (wN.alloc (.cells #[.int .i64 x.1, .int .i64 x.2] 38)).heap.size = wN.heap.size + 1 := by simp
                  have G2 := G1.alloc (.cells #[] 38)
                  have hb2 := blk_fr hb1 ((Fr.refl none (wN.alloc (.cells #[.int .i64 x.1, .int .i64 x.2] 38))).alloc (.cells #[] 38)) (by simp)
                  obtain ⟨BN, hBN⟩ : ∃ BN, wN.heap.size = BN := ⟨_, rfl⟩
                  rw [hBN] at hz1 hzN hb1 hb2
                  rw [hz1] at own0
                  simp only [List.getElem_toArray, List.getElem_cons_zero, List.getElem_cons_succ]
                  go_simp
                  refine hK.out _ _ ⟨(b5.fr G1 (by simp)).cell, G1⟩ (fun hH9 => ?_)
                  clear hK K hH0
                  have hH0 := hH9
                  clear hH9
                  try simp only [Act.put, List.setIfInBounds_toArray, List.set_cons_zero, List.set_cons_succ, List.getElem_toArray, List.getElem_cons_zero, List.getElem_cons_succ]
                  refine wpAnyH_ready (rs := [5]) (by kernel_rfl) (by simp) ?_
                  refine AllReadyH.cons rfl (fun K hK => ?_) AllReadyH.nil
                  simp only [List.getElem_toArray, List.getElem_cons_zero, List.getElem_cons_succ]
                  go_simp
                  refine hK.out _ _ ⟨(b5.fr G2 (by simp)).cell, G2⟩ (fun hH9 => ?_)
                  clear hK K hH0
                  have hH0 := hH9
                  clear hH9
                  try simp only [Act.put, List.setIfInBounds_toArray, List.set_cons_zero, List.set_cons_succ, List.getElem_toArray, List.getElem_cons_zero, List.getElem_cons_succ]
                  refine wpAnyH_ready (rs := [7]) (by kernel_rfl) (by simp) ?_
                  refine AllReadyH.cons rfl (fun K hK => ?_) AllReadyH.nil
                  simp only [List.getElem_toArray, List.getElem_cons_zero, List.getElem_cons_succ]
                  refine step_anyG eiClm (by rfl) _ _ rfl (BN + 1) (some ⟨(BN + 1), 0, none⟩) 0 0 [] rfl own0 AL L.length cL (flC L) rfl ((HSL.out.fr G2).1.any) (flC_one L) (by omega) (by unfold maxLen; omega) (by simp; omega) ?_
                  intro A5 c5 w5 own5 F5 _
                  simp only [Nat.zero_add, List.nil_append] at own5 ⊢
                  have F5 : Fr (some (BN + 1)) _ w5 := F5
                  have G5 := (G2).own F5 (fun q e => by injection e with e; omega)
                  refine hK.out _ _ ⟨(b5.fr G5 (by simp)).cell, G5⟩ (fun hH9 => ?_)
                  clear hK K hH0
                  have hH0 := hH9
                  clear hH9
                  try simp only [Act.put, List.setIfInBounds_toArray, List.set_cons_zero, List.set_cons_succ, List.getElem_toArray, List.getElem_cons_zero, List.getElem_cons_succ]
                  have hz5 := F5.size
                  have hb3 := blk_fr hb2 F5 (by simp)
                  have hsrc := lit_blk hb3
                  refine wpAnyH_ready (rs := [10]) (by kernel_rfl) (by simp) ?_
                  refine AllReadyH.cons rfl (fun K hK => ?_) AllReadyH.nil
                  simp only [List.getElem_toArray, List.getElem_cons_zero, List.getElem_cons_succ]
                  refine step_anyG eiClm (by rfl) _ _ rfl (BN + 1) A5 L.length c5 (flC L) rfl own5 (some ⟨BN, 0, none⟩) 1 1 [.int .i64 x.1, .int .i64 x.2] rfl hsrc (by simp [Value.oneCell']) (by omega) (by unfold maxLen; omega) (by simp at hz5; omega) ?_
                  intro A7 c7 w7 own7 F7 _
                  have G7 := (G5).own F7 (fun q e => by have := own_blk_ge own5 q e; omega)
                  have H7 := Lib.hid (SlC.of_own (r := none) (l := L ++ [x]) (by rw [flC_snoc]; exact own7) (by simp) HWl.out)
                  refine hK.out _ _ ⟨(b5.fr G7 (by simp)).cell, G7⟩ (fun hH9 => ?_)
                  clear hK K hH0
                  have hH0 := hH9
                  clear hH9
                  try simp only [Act.put, List.setIfInBounds_toArray, List.set_cons_zero, List.set_cons_succ, List.getElem_toArray, List.getElem_cons_zero, List.getElem_cons_succ]
                  refine wpAnyH_ready (rs := [11]) (by kernel_rfl) (by simp) ?_
                  refine AllReadyH.cons rfl (fun K hK => ?_) AllReadyH.nil
                  simp only [List.getElem_toArray, List.getElem_cons_zero, List.getElem_cons_succ]
                  go_simp
                  go_at_call 18
                  refine (ccons_any (L ++ [x]) _ _ H7.out HLx.out).mono ?_
                  rintro e wN ⟨rfl, FN⟩
                  have FN := hH0.2.pure FN
                  refine hK.out _ _ ⟨(b5.fr FN (by simp)).cell, FN⟩ (fun hH1 => ?_)
                  clear hK K hH0 FN
                  have hH0 := hH1
                  clear hH1
                  rw [HCn.out]
                  try simp only [Act.put, List.setIfInBounds_toArray, List.set_cons_zero, List.set_cons_succ, List.getElem_toArray, List.getElem_cons_zero, List.getElem_cons_succ]
                  refine wpAnyH_take (i := 13) (v := ?_) rfl (by kernel_rfl) (by kernel_rfl) (by kernel_rfl) (fun _ _ _ h => h) (Or.inl ⟨by rfl, ?_⟩) (by assumption) ?_
                  rotate_left
                  · (intro W hW; (try dsimp only at hW); go_simp; try with_reducible rfl)
                  try simp only [Act.put, List.setIfInBounds_toArray, List.set_cons_zero, List.set_cons_succ, List.getElem_toArray, List.getElem_cons_zero, List.getElem_cons_succ]
                  refine wpAnyH_take (i := 14) (v := ?_) rfl (by kernel_rfl) (by kernel_rfl) (by kernel_rfl) (fun _ _ _ h => h) (Or.inl ⟨by rfl, ?_⟩) (by assumption) ?_
                  rotate_left
                  · (intro W hW; (try dsimp only at hW); go_simp; try with_reducible rfl)
                  try simp only [Act.put, List.setIfInBounds_toArray, List.set_cons_zero, List.set_cons_succ, List.getElem_toArray, List.getElem_cons_zero, List.getElem_cons_succ]
                  refine wpAnyH_take (i := 15) (v := ?_) rfl (by kernel_rfl) (by kernel_rfl) (by kernel_rfl) (fun _ _ _ h => h) (Or.inl ⟨by rfl, ?_⟩) (by assumption) ?_
                  rotate_left
                  · (intro W hW; (try dsimp only at hW); go_simp; try with_reducible rfl)
                  try simp only [Act.put, List.setIfInBounds_toArray, List.set_cons_zero, List.set_cons_succ, List.getElem_toArray, List.getElem_cons_zero, List.getElem_cons_succ]
                  refine wpAnyH_take (i := 16) (v := ?_) rfl (by kernel_rfl) (by kernel_rfl) (by kernel_rfl) (fun _ _ _ h => h) (Or.inl ⟨by rfl, ?_⟩) (by assumption) ?_
                  rotate_left
                  · (intro W hW; (try dsimp only at hW); go_simp; try with_reducible rfl)
                  try simp only [Act.put, List.setIfInBounds_toArray, List.set_cons_zero, List.set_cons_succ, List.getElem_toArray, List.getElem_cons_zero, List.getElem_cons_succ]
                  refine wpAnyH_take (i := 17) (v := ?_) rfl (by kernel_rfl) (by kernel_rfl) (by kernel_rfl) (fun _ _ _ h => h) (Or.inl ⟨by rfl, ?_⟩) (by assumption) ?_
                  rotate_left
                  · (intro W hW; (try dsimp only at hW); go_simp; try with_reducible rfl)
                  try simp only [Act.put, List.setIfInBounds_toArray, List.set_cons_zero, List.set_cons_succ, List.getElem_toArray, List.getElem_cons_zero, List.getElem_cons_succ]
                  refine wpAnyH_take (i := 18) (v := ?_) rfl (by kernel_rfl) (by kernel_rfl) (by kernel_rfl) (fun _ _ _ h => h) (Or.inl ⟨by rfl, ?_⟩) (by assumption) ?_
                  rotate_left
                  · (intro W hW; (try dsimp only at hW); go_simp; try with_reducible rfl)
                  try simp only [Act.put, List.setIfInBounds_toArray, List.set_cons_zero, List.set_cons_succ, List.getElem_toArray, List.getElem_cons_zero, List.getElem_cons_succ]
                  refine wpAnyH_take (i := 19) (v := ?_) rfl (by kernel_rfl) (by kernel_rfl) (by kernel_rfl) (fun _ _ _ h => h) (Or.inl ⟨by rfl, ?_⟩) (by assumption) ?_
                  rotate_left
                  · (intro W hW; (try dsimp only at hW); go_simp; try with_reducible rfl)
                  try simp only [Act.put, List.setIfInBounds_toArray, List.set_cons_zero, List.set_cons_succ, List.getElem_toArray, List.getElem_cons_zero, List.getElem_cons_succ]
                  refine wpAnyH_ready (rs := [20]) (by kernel_rfl) (by simp) ?_
                  refine AllReadyH.cons rfl (fun K hK => ?_) AllReadyH.nil
                  simp only [List.getElem_toArray, List.getElem_cons_zero, List.getElem_cons_succ]
                  go_simp
                  go_at_call 6
                  refine (awakeC_any _ (HT.out.1.fr hH0.2) (HT.out.2.1.fr hH0.2) (HT.out.2.2.fr hH0.2)).mono ?_
                  rintro e wN ⟨rfl, FN⟩
                  have FN := hH0.2.pure FN
                  refine hK.out _ _ ⟨(b5.fr FN (by simp)).cell, FN⟩ (fun hH1 => ?_)
                  clear hK K hH0 FN
                  have hH0 := hH1
                  clear hH1
                  try simp only [Act.put, List.setIfInBounds_toArray, List.set_cons_zero, List.set_cons_succ, List.getElem_toArray, List.getElem_cons_zero, List.getElem_cons_succ]
                  refine wpAnyH_take (i := 21) (v := ?_) rfl (by kernel_rfl) (by kernel_rfl) (by kernel_rfl) (fun _ _ _ h => h) (Or.inl ⟨by rfl, ?_⟩) (by assumption) ?_
                  rotate_left
                  · (intro W hW; (try dsimp only at hW); go_simp; try with_reducible rfl)
                  try simp only [Act.put, List.setIfInBounds_toArray, List.set_cons_zero, List.set_cons_succ, List.getElem_toArray, List.getElem_cons_zero, List.getElem_cons_succ]
                  refine wpAnyH_take (i := 22) (v := ?_) rfl (by kernel_rfl) (by kernel_rfl) (by kernel_rfl) (fun _ _ _ h => h) (Or.inl ⟨by rfl, ?_⟩) (by assumption) ?_
                  rotate_left
                  · (intro W hW; (try dsimp only at hW); go_simp; try with_reducible rfl)
                  try simp only [Act.put, List.setIfInBounds_toArray, List.set_cons_zero, List.set_cons_succ, List.getElem_toArray, List.getElem_cons_zero, List.getElem_cons_succ]
                  refine wpAnyH_done (by kernel_rfl) ?_ _
                  go_wp2_with fail
                  go_ret
                  exact ⟨rfl, F0k.pure hH0.2⟩
end Go.Proofs.YtkpgnhdmlikopaaDoor

/- Some texts of this claim, joined: contracts of the functions that it reaches, and plain laws. -/
import Derived.Test.YtpdhckbiioobhaaGreatDoorJG5
import Derived.ArgAppend
import Derived.Deep.RegionHeld3

set_option linter.unusedSimpArgs false
set_option linter.unusedVariables false
/- Walks: the reference's with: one trust more, if none is equal to it. -/
namespace Go.Proofs.YtpdhckbiioobhaaGreatDoor
open Go.RowKit

/-- The blocks D, and those laid between w and w'. -/
def Dw (D : Nat → Prop) (w w' : World) : Nat → Prop := fun b => D b ∨ (w.heap.size ≤ b ∧ b < w'.heap.size)
theorem dw_in {D : Nat → Prop} {w w' : World} {r : Option Nat} (hD : ∀ b, D b → b < w.heap.size ∧ r ≠ some b) (F : Fr r w w') : ∀ k, D k → Dw D w w' k ∧ w'.heap[k]? = w.heap[k]? := fun k hk =>
  ⟨.inl hk, F.block k (hD k hk).1 (fun e => (hD k hk).2 e.symm)⟩

theorem step_tm {P : Program} {ops : Array Oper} {o : Oper} {a : Act} {tm : Array Value} {w : World} {K : Act → World → Prop} {Q : Exit → Act → World → Prop} {E' : Prop} (htm : a.tmps = tm) (h : if Region.wanted o (yielded ops a.tmps) = true then Oper.wp P o a w K Q else E') :
    if Region.wanted o (yielded ops tm) = true then Oper.wp P o a w K Q else E' := htm ▸ h
/-- append of a literal that has just been laid, to a slice without room. -/
theorem step_app_full {P : Program} {t e : TypeId} {size bytes : Nat} (E : EInfo P t e size bytes) {w : World} {ops : Array Oper} {o : Oper} {a : Act} {K : Act → World → Prop} {Q : Exit → Act → World → Prop} {E' : Prop} (hgd : o.guard = none) (s x : Operand)
    (ho : o.op = .call { callee := .builtin .append, args := #[s, x], argTypes := #[t, t] })
    (b : Addr) (n : Nat) (olds : List Value) (hs : a.eval s = .slice (some b) n n) (hlo : olds.length = n * size) (holds : ∀ j u, olds[j]? = some u → w.cell? (b.add j) = some u)
    (m : Nat) (cs : List Value) (e' : TypeId) (bk : Nat) (hx : a.eval x = .slice (some ⟨bk, 0, none⟩) m m) (hbk : w.heap.size = bk) (hm : 0 < m) (hcs : cs.length = m * size) (hb : (n + m) * bytes ≤ 140737488355328) (h63 : n + m ≤ maxLen)
    (h : ∀ A' c' w', w'.ownsRow w.heap.size e size (.slice A' (n + m) c') (n + m) (olds ++ cs) → Fr none w w' → K (a.put o.dst (.slice A' (n + m) c')) w') :
    if Region.wanted o (yielded ops a.tmps) = true then Oper.wp P o a (w.alloc (.cells cs.toArray e')) K Q else E' := by
  have hw : Region.wanted o (yielded ops a.tmps) = true := by simp [Region.wanted, hgd]
  rw [if_pos hw]
  subst hbk
  obtain ⟨i, z, ht, hi, hz, hsize, hby, hzs, hsz⟩ := E
  have FA := (Fr.refl none w).alloc (.cells cs.toArray e')
  have hnews : ∀ j u, cs[j]? = some u → (w.alloc (.cells cs.toArray e')).cell? ((⟨w.heap.size, 0, none⟩ : Addr).add j) = some u := fun j u hu => by
    rw [Addr.add_lit, Nat.zero_add, cell_new]
    simpa using hu
  obtain ⟨v', w', hrun, hown, hgr⟩ := run_append_arg_grows (P := P) (w := w.alloc (.cells cs.toArray e')) t o.type e i z size bytes ht hi hz hsize hby hzs hsz b n n olds hlo (fun j u hu => FA.keep (holds j u hu) (by simp)) ⟨w.heap.size, 0, none⟩ m m cs hcs hnews (by omega) h63 hb
  unfold Oper.wp execOp
  simp only [ho, resolve, invoke, builtin, Sem.run_bind, Sem.run_pure, Result.andThen_ok, List.map_toArray, List.map_cons, List.map_nil, hs, hx, hrun]
  have hown' : w'.ownsRow w.heap.size e size v' (n + m) (olds ++ cs) := by
    refine ⟨hown.1, ?_⟩
    rcases hown.2 with h0 | ⟨g, cap, cur, hv, hg, rest⟩
    · exact .inl h0
    · exact .inr ⟨g, cap, cur, hv, by simp at hg; omega, rest⟩
  have hfr : Fr none w w' := FA.pure hgr
  rcases hown'.2 with ⟨rfl, e0⟩ | ⟨g, cap, cur, rfl, _⟩
  · omega
  · exact h _ _ w' hown' hfr

/-- What with hands back. -/
def WithP (w : World) (D : Nat → Prop) (l : List Tr) (t : Tr) (e : Ending) (w' : World) : Prop :=
  ∃ (A : Option Addr) (c : Nat) (cells : List Value), e = .returned (.slice A (withT l t).length c) ∧ (A = none → c = 0) ∧ SlD w' (Dw D w w') 3 (.slice A (withT l t).length c) cells ∧ TrsD w' (Dw D w w') cells (withT l t) ∧ Fr none w w'

set_option maxRecDepth 100000 in
set_option maxHeartbeats 4000000 in
theorem rwith_any (l : List Tr) (t : Tr) (A : Option Addr) (c : Nat) (v : Value) (cells : List Value) (D : Nat → Prop) (w : World) (hD : ∀ b, D b → b < w.heap.size) (hl : l.length ≤ 1000000) (hA : A = none → c = 0) (hs : SlD w D 3 (.slice A l.length c) cells) (hts : TrsD w D cells l) (ht : TrD w D v t) :
    Calls Tryz.prog 203 #[.slice A l.length c, v] w (WithP w D l t) := by
  obtain ⟨th, A1, n1, c1, A2, n2, c2, rfl⟩ := ht.shape
  obtain ⟨A', n', c', e0, hl', hnc, hm, hx⟩ := id hs
  injection e0 with e1 e2 e3
  subst e1 e2 e3
  have hnc' := hnc
  have HM := Lib.hid hm
  have hm9 : c ≤ 9223372036854775807 := by unfold maxLen at hm; omega
  clear hl' hm
  have HD := Lib.hid hD
  clear hD
  go_enter Tryz.func203, Tryz.ntmps203
  go_wp2_with fail
  generalize hW : w.alloc _ = w1
  have F1 : Fr none w w1 := hW ▸ (Fr.refl none w).alloc _
  have b3 : TB w1 w.heap.size (.int .i64 th) (.slice A1 n1 c1) (.slice A2 n2 c2) := by rw [← hW]; exact blk_new _ _
  clear hW
  go_loopw [9] (fun s9 wr => ∃ k : Nat, s9 = .int .i64 (k : Int) ∧ k ≤ l.length ∧ Fr none w1 wr ∧ Hid ((l.any fun x => decide (cmpT x t = 0)) = (l.drop k).any fun x => decide (cmpT x t = 0))) (fun s9 _ => l.length - (intOf s9).toNat)
  case atStart => exact ⟨0, rfl, Nat.zero_le _, Fr.refl _ _, by simp [Hid]⟩
  case round =>
    obtain ⟨k, rfl, hk, F, HK⟩ := hrel
    have F2 := F1.pure F
    have K3 := b3.fr F (by simp)
    have R3 := K3.cell
    have hlt3 := blk_lt K3
    by_cases hlt : k < l.length
    · obtain ⟨b, off, rfl, hb, hcc⟩ := hx (by omega)
      obtain ⟨x, y, z, e0, e1, e2, hy0⟩ := hts.get k hlt
      obtain ⟨ty, B1, m1, d1, B2, m2, d2, hsh⟩ := hy0.shape
      simp only [Value.agg.injEq, Array.mk.injEq, List.cons.injEq, and_true] at hsh
      obtain ⟨rfl, rfl, rfl⟩ := hsh
      have g0 := F2.keep (hcc _ _ e0) (by simp)
      have g1 := F2.keep (hcc _ _ e1) (by simp)
      have g2 := F2.keep (hcc _ _ e2) (by simp)
      rw [← Nat.add_assoc] at g1 g2
      have hyr : TrR wr none (.agg #[.int .i64 ty, .slice B1 m1 d1, .slice B2 m2 d2]) l[k] := TrD.keep (fun q hq => ⟨⟨by have := HD.out q hq; have := F2.size; omega, by simp⟩, F2.block q (HD.out q hq) (by simp)⟩) _ _ hy0
      have htr : TrR wr none (.agg #[.int .i64 th, .slice A1 n1 c1, .slice A2 n2 c2]) t := TrD.keep (fun q hq => ⟨⟨by have := HD.out q hq; have := F2.size; omega, by simp⟩, F2.block q (HD.out q hq) (by simp)⟩) _ _ ht
      have hd2 : l.drop k = l[k] :: l.drop (k + 1) := List.drop_eq_getElem_cons hlt
      obtain ⟨C, hC⟩ : ∃ C, C = cmpT l[k] t := ⟨_, rfl⟩
      have HC := Lib.hid hC
      have HK2 : Hid ((l.any fun x => decide (cmpT x t = 0)) = (decide (C = 0) || (l.drop (k + 1)).any fun x => decide (cmpT x t = 0))) := by unfold Hid; rw [HK.out, hd2, hC]; rfl
      clear hC hd2 e0 e1 e2 hcc hx HK
      go_wp2_with fail
      refine (rcmp_any (l[k]).dep l[k] t _ _ _ none (Nat.le_refl _) (hyr.fr ((Fr.refl none wr).alloc _)) (htr.fr ((Fr.refl none wr).alloc _))).mono ?_
      rintro e w3 ⟨rfl, F3⟩
      rw [← HC.out]
      have F4 := ((Fr.refl none wr).alloc _).pure F3
      clear g0 g1 g2 R3
      by_cases hc : C = 0
      · subst hc
        have HV : Hid (withT l t = l) := by unfold Hid withT; rw [if_pos (by rw [HK2.out]; simp)]
        go_wp2_with fail
        go_ret
        have F5 := F2.pure F4
        refine ⟨some ⟨b, off, none⟩, c, cells, by rw [HV.out]; rfl, by simp, ?_, ?_, F5⟩
        · rw [HV.out]; exact hs.keep (dw_in (r := none) (fun b hb => ⟨HD.out b hb, by simp⟩) F5)
        · rw [HV.out]; exact TrsD.keep (dw_in (r := none) (fun b hb => ⟨HD.out b hb, by simp⟩) F5) _ _ hts
      · have hc0 : (C == 0) = false := by rw [beq_eq_false_iff_ne]; exact hc
        have HC0 := Lib.hid hc
        clear hc
        go_wp2_with fail
        go_roundw
        case rel => exact ⟨k + 1, by go_num, by omega, F.pure F4, by unfold Hid; rw [HK2.out, decide_eq_false HC0.out]; rfl⟩
        case measure => simp [intOf]; omega
    · obtain rfl : k = l.length := by omega
      have HV : Hid (withT l t = l ++ [t]) := by unfold Hid withT; rw [if_neg (by rw [HK.out]; simp)]
      clear HK
      cases A with
      | none =>
        obtain rfl := hA rfl
        have hl0 : l.length = 0 := by
          rcases Nat.eq_zero_or_pos l.length with h | h
          · exact h
          · obtain ⟨_, _, h, _⟩ := hx h; cases h
        obtain rfl : l = [] := List.eq_nil_of_length_eq_zero hl0
        go_upto_region 7 with (fail)
        refine wp_region_held_drew (S := fun W => (∀ i, W.cell? ⟨w.heap.size, i, none⟩ = (#[.int .i64 th, .slice A1 n1 c1, .slice A2 n2 c2] : Array Value)[i]?) ∧ Fr none wr W) (by kernel_rfl) ⟨R3, (Fr.refl _ _).drew⟩ (fun hH0 => ?_)
        have Fd : Fr none wr wr.drew := (Fr.refl _ _).drew
        have Kd : TB wr.drew w.heap.size (.int .i64 th) (.slice A1 n1 c1) (.slice A2 n2 c2) := K3
        generalize wr.drew = wd at *
        refine wpAnyH_take (i := 0) (v := ?_) rfl (by kernel_rfl) (by kernel_rfl) (by kernel_rfl) (fun _ _ _ h => h) (Or.inl ⟨by rfl, ?_⟩) (by assumption) ?_
        rotate_left
        · (intro W hW; (try dsimp only at hW); go_simp; try with_reducible rfl)
        try simp only [Act.put, List.setIfInBounds_toArray, List.set_cons_zero, List.set_cons_succ, List.getElem_toArray, List.getElem_cons_zero, List.getElem_cons_succ]
        refine wpAnyH_take (i := 1) (v := ?_) rfl (by kernel_rfl) (by kernel_rfl) (by kernel_rfl) (fun _ _ _ h => h) (Or.inl ⟨by rfl, ?_⟩) (by assumption) ?_
        rotate_left
        · (intro W hW; (try dsimp only at hW); go_simp; try with_reducible rfl)
        try simp only [Act.put, List.setIfInBounds_toArray, List.set_cons_zero, List.set_cons_succ, List.getElem_toArray, List.getElem_cons_zero, List.getElem_cons_succ]
        refine wpAnyH_take (i := 2) (v := ?_) rfl (by kernel_rfl) (by kernel_rfl) (by kernel_rfl) (fun _ _ _ h => h) (Or.inl ⟨by rfl, ?_⟩) (by assumption) ?_
        rotate_left
        · (intro W hW; (try dsimp only at hW); go_simp; try with_reducible rfl)
        try simp only [Act.put, List.setIfInBounds_toArray, List.set_cons_zero, List.set_cons_succ, List.getElem_toArray, List.getElem_cons_zero, List.getElem_cons_succ]
        refine wpAnyH_take (i := 3) (v := ?_) rfl (by kernel_rfl) (by kernel_rfl) (by kernel_rfl) (fun _ _ _ h => h) (Or.inl ⟨by rfl, ?_⟩) (by assumption) ?_
        rotate_left
        · (intro W hW; (try dsimp only at hW); go_simp; try with_reducible rfl)
        try simp only [Act.put, List.setIfInBounds_toArray, List.set_cons_zero, List.set_cons_succ, List.getElem_toArray, List.getElem_cons_zero, List.getElem_cons_succ]
        refine wpAnyH_take (i := 4) (v := ?_) rfl (by kernel_rfl) (by kernel_rfl) (by kernel_rfl) (fun _ _ _ h => h) (Or.inl ⟨by rfl, ?_⟩) (by assumption) ?_
        rotate_left
        · (intro W hW; (try dsimp only at hW); go_simp; try with_reducible rfl)
        try simp only [Act.put, List.setIfInBounds_toArray, List.set_cons_zero, List.set_cons_succ, List.getElem_toArray, List.getElem_cons_zero, List.getElem_cons_succ]
        refine wpAnyH_take (i := 5) (v := ?_) rfl (by kernel_rfl) (by kernel_rfl) (by kernel_rfl) (fun _ _ _ h => h) (Or.inl ⟨by rfl, ?_⟩) (by assumption) ?_
        rotate_left
        · (intro W hW; (try dsimp only at hW); go_simp; try with_reducible rfl)
        try simp only [Act.put, List.setIfInBounds_toArray, List.set_cons_zero, List.set_cons_succ, List.getElem_toArray, List.getElem_cons_zero, List.getElem_cons_succ]
        refine wpAnyH_take (i := 6) (v := ?_) rfl (by kernel_rfl) (by kernel_rfl) (by kernel_rfl) (fun _ _ _ h => h) (Or.inl ⟨by rfl, ?_⟩) (by assumption) ?_
        rotate_left
        · (intro W hW; (try dsimp only at hW); go_simp; try with_reducible rfl)
        try simp only [Act.put, List.setIfInBounds_toArray, List.set_cons_zero, List.set_cons_succ, List.getElem_toArray, List.getElem_cons_zero, List.getElem_cons_succ]
        refine wpAnyH_ready (rs := [7]) (by kernel_rfl) (by simp) ?_
        refine AllReadyH.cons rfl (fun K hK => ?_) AllReadyH.nil
        simp only [List.getElem_toArray, List.getElem_cons_zero, List.getElem_cons_succ]
        go_simp
        have FL := (Fr.refl none wd).alloc (.cells #[.int .i64 th, .slice A1 n1 c1, .slice A2 n2 c2] 31)
        refine hK.out _ _ ⟨(Kd.fr FL (by simp)).cell, Fd.pure FL⟩ (fun hH1 => ?_)
        clear hK K hH0
        try simp only [Act.put, List.setIfInBounds_toArray, List.set_cons_zero, List.set_cons_succ, List.getElem_toArray, List.getElem_cons_zero, List.getElem_cons_succ]
        refine wpAnyH_ready (rs := [8]) (by kernel_rfl) (by simp) ?_
        refine AllReadyH.cons rfl (fun K hK => ?_) AllReadyH.nil
        simp only [List.getElem_toArray, List.getElem_cons_zero, List.getElem_cons_succ]
        refine step_tm rfl ?_
        refine step_app_lit eiTrust rfl _ _ rfl wd.heap.size none 0 0 [] rfl (World.ownsRow_nil _ _ _ _) 1 [.int .i64 th, .slice A1 n1 c1, .slice A2 n2 c2] 31 _ rfl rfl rfl (by simp [Value.oneCell']) (by omega) (by unfold maxLen; omega) (Nat.le_refl _) ?_
        intro A5 c5 w5 own5 F5 _
        have F5 : Fr none wd w5 := F5
        have F6 := Fd.pure F5
        refine hK.out _ _ ⟨(Kd.fr F5 (by simp)).cell, F6⟩ (fun hH2 => ?_)
        clear hK K hH1
        try simp only [Act.put, List.setIfInBounds_toArray, List.set_cons_zero, List.set_cons_succ, List.getElem_toArray, List.getElem_cons_zero, List.getElem_cons_succ]
        refine wpAnyH_take (i := 9) (v := ?_) rfl (by kernel_rfl) (by kernel_rfl) (by kernel_rfl) (fun _ _ _ h => h) (Or.inl ⟨by rfl, ?_⟩) (by assumption) ?_
        rotate_left
        · (intro W hW; (try dsimp only at hW); go_simp; try with_reducible rfl)
        try simp only [Act.put, List.setIfInBounds_toArray, List.set_cons_zero, List.set_cons_succ, List.getElem_toArray, List.getElem_cons_zero, List.getElem_cons_succ]
        refine wpAnyH_done (by kernel_rfl) ?_ _
        go_wp2_with fail
        go_ret
        have F7 := F2.pure F6
        have hz5 := F5.size
        have hzw := F2.size
        have hzd := Fd.size
        refine ⟨A5, c5, [.int .i64 th, .slice A1 n1 c1, .slice A2 n2 c2], by rw [HV.out]; rfl, fun h => ?_, ?_, ?_, F7⟩
        · subst h
          rcases own5.2 with ⟨h, _⟩ | ⟨_, _, _, h, _⟩
          · injection h
          · injection h with h; cases h
        · rw [HV.out]
          exact (SlD.own_dn own5).keep (fun k hk => ⟨.inr ⟨by have := hk.1; omega, hk.2⟩, rfl⟩)
        · rw [HV.out]
          simp only [List.nil_append, TrsD]
          exact ⟨_, _, _, [], rfl, TrD.keep (dw_in (r := none) (fun b hb => ⟨HD.out b hb, by simp⟩) F7) _ _ ht, rfl⟩
      | some a =>
        go_upto_region 7 with (fail)
        refine wp_region_held_drew (S := fun W => (∀ i, W.cell? ⟨w.heap.size, i, none⟩ = (#[.int .i64 th, .slice A1 n1 c1, .slice A2 n2 c2] : Array Value)[i]?) ∧ Fr none wr W) (by kernel_rfl) ⟨R3, (Fr.refl _ _).drew⟩ (fun hH0 => ?_)
        have Fd : Fr none wr wr.drew := (Fr.refl _ _).drew
        have Kd : TB wr.drew w.heap.size (.int .i64 th) (.slice A1 n1 c1) (.slice A2 n2 c2) := K3
        generalize wr.drew = wd at *
        refine wpAnyH_take (i := 0) (v := ?_) rfl (by kernel_rfl) (by kernel_rfl) (by kernel_rfl) (fun _ _ _ h => h) (Or.inl ⟨by rfl, ?_⟩) (by assumption) ?_
        rotate_left
        · (intro W hW; (try dsimp only at hW); go_simp; try with_reducible rfl)
        try simp only [Act.put, List.setIfInBounds_toArray, List.set_cons_zero, List.set_cons_succ, List.getElem_toArray, List.getElem_cons_zero, List.getElem_cons_succ]
        refine wpAnyH_take (i := 1) (v := ?_) rfl (by kernel_rfl) (by kernel_rfl) (by kernel_rfl) (fun _ _ _ h => h) (Or.inl ⟨by rfl, ?_⟩) (by assumption) ?_
        rotate_left
        · (intro W hW; (try dsimp only at hW); go_simp; try with_reducible rfl)
        try simp only [Act.put, List.setIfInBounds_toArray, List.set_cons_zero, List.set_cons_succ, List.getElem_toArray, List.getElem_cons_zero, List.getElem_cons_succ]
        refine wpAnyH_take (i := 2) (v := ?_) rfl (by kernel_rfl) (by kernel_rfl) (by kernel_rfl) (fun _ _ _ h => h) (Or.inl ⟨by rfl, ?_⟩) (by assumption) ?_
        rotate_left
        · (intro W hW; (try dsimp only at hW); go_simp; try with_reducible rfl)
        try simp only [Act.put, List.setIfInBounds_toArray, List.set_cons_zero, List.set_cons_succ, List.getElem_toArray, List.getElem_cons_zero, List.getElem_cons_succ]
        refine wpAnyH_take (i := 3) (v := ?_) rfl (by kernel_rfl) (by kernel_rfl) (by kernel_rfl) (fun _ _ _ h => h) (Or.inl ⟨by rfl, ?_⟩) (by assumption) ?_
        rotate_left
        · (intro W hW; (try dsimp only at hW); go_simp; try with_reducible rfl)
        try simp only [Act.put, List.setIfInBounds_toArray, List.set_cons_zero, List.set_cons_succ, List.getElem_toArray, List.getElem_cons_zero, List.getElem_cons_succ]
        refine wpAnyH_take (i := 4) (v := ?_) rfl (by kernel_rfl) (by kernel_rfl) (by kernel_rfl) (fun _ _ _ h => h) (Or.inl ⟨by rfl, ?_⟩) (by assumption) ?_
        rotate_left
        · (intro W hW; (try dsimp only at hW); go_simp; try with_reducible rfl)
        try simp only [Act.put, List.setIfInBounds_toArray, List.set_cons_zero, List.set_cons_succ, List.getElem_toArray, List.getElem_cons_zero, List.getElem_cons_succ]
        refine wpAnyH_take (i := 5) (v := ?_) rfl (by kernel_rfl) (by kernel_rfl) (by kernel_rfl) (fun _ _ _ h => h) (Or.inl ⟨by rfl, ?_⟩) (by assumption) ?_
        rotate_left
        · (intro W hW; (try dsimp only at hW); go_simp; try with_reducible rfl)
        try simp only [Act.put, List.setIfInBounds_toArray, List.set_cons_zero, List.set_cons_succ, List.getElem_toArray, List.getElem_cons_zero, List.getElem_cons_succ]
        refine wpAnyH_take (i := 6) (v := ?_) rfl (by kernel_rfl) (by kernel_rfl) (by kernel_rfl) (fun _ _ _ h => h) (Or.inl ⟨by rfl, ?_⟩) (by assumption) ?_
        rotate_left
        · (intro W hW; (try dsimp only at hW); go_simp; try with_reducible rfl)
        try simp only [Act.put, List.setIfInBounds_toArray, List.set_cons_zero, List.set_cons_succ, List.getElem_toArray, List.getElem_cons_zero, List.getElem_cons_succ]
        refine wpAnyH_ready (rs := [7]) (by kernel_rfl) (by simp) ?_
        refine AllReadyH.cons rfl (fun K hK => ?_) AllReadyH.nil
        simp only [List.getElem_toArray, List.getElem_cons_zero, List.getElem_cons_succ]
        go_simp
        have FL := (Fr.refl none wd).alloc (.cells #[.int .i64 th, .slice A1 n1 c1, .slice A2 n2 c2] 31)
        refine hK.out _ _ ⟨(Kd.fr FL (by simp)).cell, Fd.pure FL⟩ (fun hH1 => ?_)
        clear hK K hH0
        try simp only [Act.put, List.setIfInBounds_toArray, List.set_cons_zero, List.set_cons_succ, List.getElem_toArray, List.getElem_cons_zero, List.getElem_cons_succ]
        refine wpAnyH_ready (rs := [8]) (by kernel_rfl) (by simp) ?_
        refine AllReadyH.cons rfl (fun K hK => ?_) AllReadyH.nil
        simp only [List.getElem_toArray, List.getElem_cons_zero, List.getElem_cons_succ]
        have F2d := F2.pure Fd
        have holds : ∀ j u, cells[j]? = some u → wd.cell? (a.add j) = some u := fun j u hu => by
          have hj : 0 < l.length := by
            have := hts.len
            have := (List.getElem?_eq_some_iff.1 hu).1
            omega
          obtain ⟨b, off, h, hb, hc⟩ := hx hj
          injection h with h
          subst h
          rw [Addr.add_lit]
          exact F2d.keep (hc j u hu) (by simp)
        refine step_tm rfl ?_
        refine step_app_full eiTrust rfl _ _ rfl a l.length cells rfl hts.len holds 1 [.int .i64 th, .slice A1 n1 c1, .slice A2 n2 c2] 31 _ rfl rfl (by omega) rfl (by omega) (by unfold maxLen; omega) ?_
        intro A5 c5 w5 own5 F5
        have F6 := Fd.pure F5
        refine hK.out _ _ ⟨(Kd.fr F5 (by simp)).cell, F6⟩ (fun hH2 => ?_)
        clear hK K hH1
        try simp only [Act.put, List.setIfInBounds_toArray, List.set_cons_zero, List.set_cons_succ, List.getElem_toArray, List.getElem_cons_zero, List.getElem_cons_succ]
        refine wpAnyH_take (i := 9) (v := ?_) rfl (by kernel_rfl) (by kernel_rfl) (by kernel_rfl) (fun _ _ _ h => h) (Or.inl ⟨by rfl, ?_⟩) (by assumption) ?_
        rotate_left
        · (intro W hW; (try dsimp only at hW); go_simp; try with_reducible rfl)
        try simp only [Act.put, List.setIfInBounds_toArray, List.set_cons_zero, List.set_cons_succ, List.getElem_toArray, List.getElem_cons_zero, List.getElem_cons_succ]
        refine wpAnyH_done (by kernel_rfl) ?_ _
        go_wp2_with fail
        go_ret
        have F7 := F2.pure F6
        have hz5 := F5.size
        have hzw := F2.size
        have hzd := Fd.size
        have hln : (l ++ [t]).length = l.length + 1 := by simp
        refine ⟨A5, c5, cells ++ [.int .i64 th, .slice A1 n1 c1, .slice A2 n2 c2], by rw [HV.out, hln]; rfl, fun h => ?_, ?_, ?_, F7⟩
        · subst h
          rcases own5.2 with ⟨h, _⟩ | ⟨_, _, _, h, _⟩
          · injection h
          · injection h with h; cases h
        · rw [HV.out, hln]
          exact (SlD.own_dn own5).keep (fun k hk => ⟨.inr ⟨by have := hk.1; omega, hk.2⟩, rfl⟩)
        · rw [HV.out]
          have kk := dw_in (r := none) (fun b hb => ⟨HD.out b hb, by simp⟩) F7
          exact TrsD.append (TrsD.keep kk _ _ hts) (by simp only [TrsD]; exact ⟨_, _, _, [], rfl, TrD.keep kk _ _ ht, rfl⟩)
end Go.Proofs.YtpdhckbiioobhaaGreatDoor

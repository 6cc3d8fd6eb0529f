/- Some texts of this claim, joined: contracts of the functions that it reaches, and plain laws. -/
import Derived.Test.YtonhhnedfjonoaaGreatDoorProg
import Derived.Test.YtonhhnedfjonoaaGreatDoorShelf
import Derived.Test.YtonhhnedfjonoaaGreatDoorJL2

set_option linter.unusedSimpArgs false
set_option linter.unusedVariables false
/- Walks: a strings.Builder that is the only field of ledger.page: copyCheck, WriteString, String. -/
namespace Go.Proofs.YtonhhnedfjonoaaGreatDoor
open Go.RowKit

theorem pg_under : Tryz.prog.underlying 69 = some (.pointer 71) := by kernel_rfl
theorem pg_unsafe : Tryz.prog.underlying 154 = some .unsafePointer := by kernel_rfl
theorem pg_info : ∃ j, Tryz.prog.info? 71 = some j ∧ j.size = 2 := by
  have h : (Tryz.prog.info? 71).map (·.size) = some 2 := by kernel_rfl
  obtain ⟨j, hj, hs⟩ := Option.map_eq_some_iff.1 h
  exact ⟨j, hj, hs⟩
theorem pg_lies : liesAt Tryz.prog Tryz.prog.depth 73 (2 / Tryz.prog.cellsOf 73) 0 71 1 = true := by kernel_rfl
/-- Blocks that are neither bytes nor a page stay as they are. -/
def PgF (w w' : World) : Prop := ∀ (q : Nat) (cs : Array Value) (T : TypeId) (fz : Nat × Nat), w.heap[q]? = some (.cells cs T fz) → T ≠ 5 → T ≠ 73 → w'.heap[q]? = some (.cells cs T fz)
theorem PgF.refl (w : World) : PgF w w := fun _ _ _ _ h _ _ => h
theorem PgF.fr {w w' : World} (F : Fr none w w') : PgF w w' := fun _ _ _ _ h _ _ => blk_fr h F (by simp)
theorem PgF.trans {a b c : World} (h : PgF a b) (k : PgF b c) : PgF a c := fun q cs T fz e h1 h2 => k q cs T fz (h q cs T fz e h1 h2) h1 h2
abbrev PgB (B b : Nat) (l : List UInt8) (w : World) : Prop := Lib.IsBuilder 73 5 B b (Lib.byteCells l) w
theorem PgB.fr {B b : Nat} {l : List UInt8} {w w' : World} (h : PgB B b l w) (F : Fr none w w') : PgB B b l w' := by
  rcases h with ⟨h1, v, h2, h3, h4⟩ | ⟨h1, v, h2, h3, h4⟩
  · exact .inl ⟨h1, v, blk_fr h2 F (by simp), own_fr h3 F (by simp), h4⟩
  · exact .inr ⟨h1, v, blk_fr h2 F (by simp), own_fr h3 F (by simp), h4⟩
set_option maxHeartbeats 2000000 in
set_option maxRecDepth 100000 in
theorem pgcopy_any (B b : Nat) (cs : List Value) (w : World) (h : Lib.IsBuilder 73 5 B b cs w) :
    Calls Tryz.prog 77 #[.pointer (some ⟨b, 0, none⟩)] w fun e w' => e = .returned (.tuple #[]) ∧ Lib.BuilderAt 73 5 B b (.pointer (some ⟨b, 0, none⟩)) cs w' ∧ Below B w w' ∧ Fr (some b) w w' := by
  obtain ⟨j, hj, hjs⟩ := pg_info
  rcases h with h | h
  · have c0 := h.cell0
    have hfz := h.frozen0
    have hsh := h.shape
    go_enter Tryz.func77, Tryz.ntmps77
    go_wp2
    rw [Lib.run_to_unsafe w ⟨b, 0, none⟩ pg_under pg_unsafe hj (by rw [hjs]; decide) hsh (Nat.zero_lt_succ 1)]
    simp only [Result.andThen]
    rw [Oper.upon_value]
    go_wp2
    rw [run_callFunc_extern Tryz.func99 (by kernel_rfl) (by kernel_rfl) (by kernel_rfl) (e := Extern.AbiNoEscape.same) (by kernel_rfl)]
    rw [Lib.run_noEscape]
    simp only [Result.andThen]
    rw [Oper.upon_value]
    go_wp2
    rw [Lib.run_from_unsafe w ⟨b, 0, none⟩ pg_unsafe pg_under hj hsh pg_lies]
    simp only [Result.andThen]
    rw [Oper.upon_value]
    go_wp2
    go_end0
    exact ⟨rfl, h.used _, (Below.refl B w).setCell (p := ⟨b, 0, none⟩) h.1 _, Fr.set1 w ⟨b, 0, none⟩ _⟩
  · have c0 := h.cell0
    go_enter Tryz.func77, Tryz.ntmps77
    go_wp2
    rw [Lib.run_neq_ptr_same w _ pg_under hj]
    go_wp2
    go_end0
    exact ⟨rfl, h, Below.refl B _, Fr.refl _ _⟩
set_option maxHeartbeats 2000000 in
set_option maxRecDepth 100000 in
theorem pgwr_any (B b : Nat) (cs : List Value) (s : ByteArray) (w : World) (h : Lib.IsBuilder 73 5 B b cs w) (hlen : cs.length + s.size ≤ 140737488355328) (hBw : B ≤ w.heap.size) :
    Calls Tryz.prog 53 #[.pointer (some ⟨b, 0, none⟩), .string s] w fun e w' => e = .returned (.tuple #[.int .i64 s.size, .nilIface]) ∧ Lib.BuilderAt 73 5 B b (.pointer (some ⟨b, 0, none⟩)) (cs ++ Lib.strCells s) w' ∧ Below B w w' ∧ PgF w w' := by
  have hty : ∃ cs, w.heap[b]? = some (.cells cs 73 (0, 0)) := by
    rcases h with ⟨_, v, h, _⟩ | ⟨_, v, h, _⟩ <;> exact ⟨_, h⟩
  have hi0 : (Tryz.prog.info? 5).map (fun i => (i.zero, i.size, i.bytes)) = some (some (.int .u8 0), 1, 1) := by kernel_rfl
  obtain ⟨i0, hi, hz0, hz1, hz2⟩ := info_parts hi0
  clear hi0
  go_enter Tryz.func53, Tryz.ntmps53
  go_wp2_with fail
  refine (pgcopy_any B b cs w h).mono ?_
  rintro e w1 ⟨rfl, h1, hb1, F1⟩
  obtain ⟨hB, v, hbk, hown, hne⟩ := h1
  have HT := Lib.hid hty
  clear hty
  have c0 : w1.cell? ⟨b, 0, none⟩ = some (.pointer (some ⟨b, 0, none⟩)) := by rw [Lib.cell_of_heap hbk]; rfl
  have c1 : w1.cell? ⟨b, 1, none⟩ = some v := by rw [Lib.cell_of_heap hbk]; rfl
  go_wp2_with (at_builtin; refine Lib.wpList_append_own_string _ rfl _ _ 42 9 rfl B 5 i0 (by kernel_rfl) (by kernel_rfl) hi hz0 hz1 hz2 _ _ _ rfl hown s rfl ?c3 ?c4 ?c5 ?_)
  case c3 => unfold maxLen; omega
  case c4 => omega
  case c5 => have := hb1.size; omega
  intro v' w2 hown' hgrow _
  have hlt : b < w1.heap.size := by
    rcases Nat.lt_or_ge b w1.heap.size with h' | h'
    · exact h'
    · simp [Array.getElem?_eq_none h'] at hbk
  have hb2 : w2.heap[b]? = some (.cells #[.pointer (some ⟨b, 0, none⟩), v] 73 (0, 0)) := by
    rw [hgrow.block b hlt (fun e => hne e.symm)]
    exact hbk
  have d0 : w2.cell? ⟨b, 0, none⟩ = some (.pointer (some ⟨b, 0, none⟩)) := by rw [Lib.cell_of_heap hb2]; rfl
  have d1 : w2.cell? ⟨b, 1, none⟩ = some v := by rw [Lib.cell_of_heap hb2]; rfl
  have f1 : w2.frozen? ⟨b, 1, none⟩ = false := Lib.frozen_of_heap hb2 1
  obtain ⟨ao, n', cap, rfl⟩ : ∃ ao n' cap, v' = .slice ao n' cap := by
    rcases hown'.2 with ⟨hv, _⟩ | ⟨g, cap, cur, hv, _⟩
    · exact ⟨_, _, _, hv⟩
    · exact ⟨_, _, _, hv⟩
  go_wp2
  go_ret2
  refine ⟨rfl, ?_, ?_, ?_⟩
  · exact Lib.BuilderAt.put (T := 73) (e := 5) hB hb2 (bs' := cs ++ Lib.strCells s) (by simpa [Lib.strCells_length] using hown') (by decide)
  · exact (hb1.grown hgrow (by have := hb1.size; omega) (fun k hk => (hown.lt k hk).1)).setCell (p := ⟨b, 1, none⟩) hB _
  · intro q cs0 T fz hq ht1 ht2
    obtain ⟨cb, hcb⟩ := HT.out
    have hqb : q ≠ b := fun e => by subst e; rw [hcb] at hq; injection hq with hq; injection hq with h1 h2; exact ht2 h2.symm
    have hq1 := blk_fr hq F1 (by intro e; injection e with e; exact hqb e.symm)
    have hqv : some q ≠ v.ownBlock := fun e => by
      rcases hown.2 with ⟨hv, _⟩ | ⟨g, cap, cur, hv, _, hg, _⟩
      · rw [hv] at e; cases e
      · rw [hv] at e
        injection e with e
        subst e
        rw [hg] at hq1
        injection hq1 with hq1
        injection hq1 with h1 h2
        exact ht1 h2.symm
    have hq2 : w2.heap[q]? = some (.cells cs0 T fz) := (hgrow.block q (blk_lt hq1) hqv).trans hq1
    exact blk_fr hq2 (Fr.set1 w2 ⟨b, 1, none⟩ _) (by intro e; injection e with e; exact hqb e.symm)
set_option maxHeartbeats 2000000 in
set_option maxRecDepth 100000 in
theorem pgstr_any (B b : Nat) (l : List UInt8) (w : World) (h : Lib.IsBuilder 73 5 B b (Lib.byteCells l) w) (h0 : l ≠ []) :
    Calls Tryz.prog 30 #[.pointer (some ⟨b, 0, none⟩)] w fun e w' => e = .returned (.string ⟨l.toArray⟩) ∧ Below B w w' := by
  obtain ⟨p, hB, v, hbk, hown, hne⟩ : ∃ p, Lib.BuilderAt 73 5 B b p (Lib.byteCells l) w := by
    rcases h with h | h
    · exact ⟨_, h⟩
    · exact ⟨_, h⟩
  have hl0 : l.length ≠ 0 := by simpa using h0
  rw [Lib.byteCells_length] at hown
  obtain ⟨g, cap, cur, rfl, hbg, hg, hnc, hcm, hcs, htake⟩ : ∃ g cap cur, v = .slice (some ⟨g, 0, none⟩) l.length cap ∧ B ≤ g ∧ w.heap[g]? = some (.cells cur 5 (0, 0)) ∧ l.length ≤ cap ∧ cap ≤ maxLen ∧ cur.size = cap * 1 ∧ cur.toList.take (l.length * 1) = Lib.byteCells l := by
    rcases hown.2 with ⟨_, hz⟩ | ⟨g, cap, cur, hv, r⟩
    · exact absurd hz hl0
    · exact ⟨g, cap, cur, hv, r⟩
  have c1 : w.drew.cell? ⟨b, 1, none⟩ = some (.slice (some ⟨g, 0, none⟩) l.length cap) := by
    have : w.drew.heap[b]? = some (.cells #[p, .slice (some ⟨g, 0, none⟩) l.length cap] 73 (0, 0)) := hbk
    rw [Lib.cell_of_heap this]; rfl
  have hSD : (Builtin.unsafeSliceData_ #[42] 114 #[.slice (some ⟨g, 0, none⟩) l.length cap]).run Tryz.prog w.drew = .ok (.pointer (some ⟨g, 0, none⟩)) w.drew :=
    Lib.run_unsafeSliceData_row _ _ _ _ _ _ (by omega)
  have hUS : (Builtin.unsafeString_ #[114, 3] 9 #[.pointer (some ⟨g, 0, none⟩), .int .i64 l.length]).run Tryz.prog w.drew = .ok (.string ⟨l.toArray⟩) (w.drew.freeze ⟨g, 0, none⟩ l.length) := by
    refine Lib.run_unsafeString_row w.drew 114 3 9 5 (by kernel_rfl) (by kernel_rfl) g cur.size (by have hg' : w.drew.heap[g]? = some (.cells cur 5 (0, 0)) := hg; simp [World.shape?, hg']) l h0 (by omega) (by unfold maxLen at hcm; omega) ?_
    intro j x hx
    exact hown.cells (g := g) rfl j (.int .u8 x.toNat) (by simp [Lib.byteCells, hx])
  have mixed : Tryz.prog.follows .mixedOrders = true := by kernel_rfl
  go_enter Tryz.func30, Tryz.ntmps30
  go_wp2
  go_region_o
  all_goals (go_wp2; go_ret; exact ⟨rfl, Lib.below_freeze (Below.drew (Below.refl B w)) (p := ⟨g, 0, none⟩) hbg _⟩)
def wdsB (ws : List (List UInt8)) : List UInt8 := ws.flatMap fun x => x ++ [32]
theorem wdsB_take (ws : List (List UInt8)) (k : Nat) (hk : k < ws.length) : wdsB (ws.take (k + 1)) = wdsB (ws.take k) ++ (ws[k] ++ [32]) := by
  unfold wdsB
  rw [List.take_succ_eq_append_getElem hk, List.flatMap_append]
  simp
theorem strCells_bL (l : List UInt8) : Lib.strCells (bL l) = Lib.byteCells l := by
  unfold Lib.strCells Lib.byteCells
  rw [bL_list]
theorem byteCells_app (a b : List UInt8) : Lib.byteCells (a ++ b) = Lib.byteCells a ++ Lib.byteCells b := by unfold Lib.byteCells; rw [List.map_append]
theorem wdsB_le (ws : List (List UInt8)) (k : Nat) : (wdsB (ws.take k)).length ≤ (wdsB ws).length := by
  have : wdsB ws = wdsB (ws.take k) ++ wdsB (ws.drop k) := by unfold wdsB; rw [← List.flatMap_append, List.take_append_drop]
  rw [this, List.length_append]
  omega
set_option maxHeartbeats 2000000 in
set_option maxRecDepth 100000 in
theorem pgput_any (B b s : Nat) (l : List UInt8) (ws : List (List UInt8)) (w : World) (h : PgB B b l w) (hw : w.heap[s]? = some (.cells (ws.map fun x => Value.string (bL x)).toArray 9 (0, 0))) (hBw : B ≤ w.heap.size) (hlen : l.length + (wdsB ws).length ≤ 140737488355328) (hn : ws.length ≤ 1000) :
    Calls Tryz.prog 27 #[.pointer (some ⟨b, 0, none⟩), .slice (some ⟨s, 0, none⟩) ws.length ws.length] w fun e w' => e = .returned (.tuple #[]) ∧ PgB B b (l ++ wdsB ws) w' ∧ Below B w w' ∧ PgF w w' := by
  have HW := Lib.hid hw
  have HLen := Lib.hid hlen
  clear hw hlen
  go_enter Tryz.func27, Tryz.ntmps27
  go_wp2_with fail
  go_loopw [8] (fun s8 wr => ∃ k : Nat, k ≤ ws.length ∧ s8 = .int .i64 (k : Int) ∧ PgB B b (l ++ wdsB (ws.take k)) wr ∧ Below B w wr ∧ PgF w wr ∧ B ≤ wr.heap.size) (fun s8 _ => ws.length - (intOf s8).toNat)
  case atStart => exact ⟨0, by omega, rfl, by simpa [wdsB] using h, Below.refl _ _, PgF.refl _, hBw⟩
  case round =>
    clear h
    obtain ⟨k, hk, rfl, hP, hBl, hF, hB1⟩ := hrel
    obtain ⟨wz, hwz⟩ : ∃ wz : World, wz = wr := ⟨_, rfl⟩
    subst hwz
    by_cases hlt : k < ws.length
    · have hw := hF s _ _ _ HW.out (by decide) (by decide)
      have c1 : wz.cell? ⟨s, k, none⟩ = some (.string (bL ws[k])) := by rw [blk_cell hw]; simp [hlt]
      have hls := blk_lt hw
      have hbb : ∃ x y, wz.cell? ⟨b, 0, none⟩ = some x ∧ wz.cell? ⟨b, 1, none⟩ = some y := by
        rcases hP with ⟨_, v, h, _⟩ | ⟨_, v, h, _⟩
        · exact ⟨_, _, by rw [blk_cell h]; rfl, by rw [blk_cell h]; rfl⟩
        · exact ⟨_, _, by rw [blk_cell h]; rfl, by rw [blk_cell h]; rfl⟩
      have hsz : (l ++ wdsB (ws.take k)).length + (ws[k].length + 1) ≤ 140737488355328 := by
        have h1 := wdsB_le ws (k + 1)
        rw [wdsB_take ws k hlt] at h1
        have := HLen.out
        simp only [List.length_append, List.length_cons, List.length_nil] at h1 ⊢
        omega
      have happ : (bL ws[k] ++ (⟨#[32]⟩ : ByteArray)) = bL (ws[k] ++ [32]) := bL_app ws[k] [32]
      have hnx : l ++ wdsB (ws.take (k + 1)) = (l ++ wdsB (ws.take k)) ++ (ws[k] ++ [32]) := by rw [wdsB_take ws k hlt, List.append_assoc]
      have HNX := Lib.hid hnx
      clear hnx
      generalize ws[k] = x at *
      have hsb : (bL x).size ≤ 140737488355328 := by rw [bL_size]; omega
      go_wp2_with fail
      refine (pgwr_any B b _ (bL (x ++ [32])) wz hP (by rw [Lib.byteCells_length, bL_size]; simp only [List.length_append, List.length_cons, List.length_nil] at hsz ⊢; omega) hB1).mono ?_
      rintro e w2 ⟨rfl, h2, hB2, hF2⟩
      go_wp2_with fail
      go_roundw
      case rel =>
        have hP2 : PgB B b (l ++ wdsB (ws.take (k + 1))) w2 := by
          rw [HNX.out]
          refine .inr ?_
          rw [byteCells_app (l ++ wdsB (ws.take k))]
          have : Lib.strCells (bL (x ++ [32])) = Lib.byteCells (x ++ [32]) := strCells_bL _
          rw [← this]
          exact h2
        exact ⟨k + 1, hlt, by go_num, hP2, hBl.trans hB2, hF.trans hF2, by have := hB2.size; omega⟩
      case measure => simp [intOf]; omega
    · obtain rfl : k = ws.length := by omega
      go_wp2_with fail
      go_end0
      exact ⟨rfl, by rw [List.take_length] at hP; exact hP, hBl, hF⟩
end Go.Proofs.YtonhhnedfjonoaaGreatDoor

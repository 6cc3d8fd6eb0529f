/- Walks: declaration.copied: a trust that shares no memory. -/
import Derived.Test.YtpdhckbiioobhaaGreatDoorProg
import Derived.Test.YtpdhckbiioobhaaGreatDoorDeclC
namespace Go.Proofs.YtpdhckbiioobhaaGreatDoor
open Go.RowKit

/-- append of any slice, as a step of a region that draws its order. -/
theorem step_app_any {P : Program} {t e : TypeId} {size bytes : Nat} (E : EInfo P t e size bytes) {w : World} {ops : Array Oper} {o : Oper} {a : Act} {K : Act → World → Prop} {Q : Exit → Act → World → Prop} {E' : Prop} (hgd : o.guard = none) (s x : Operand)
    (ho : o.op = .call { callee := .builtin .append, args := #[s, x], argTypes := #[t, t] })
    (base : Nat) (A : Option Addr) (n c : Nat) (xs : List Value) (hs : a.eval s = .slice A n c) (hown : w.ownsRow base e size (.slice A n c) n xs)
    (B : Option Addr) (m d : Nat) (news : List Value) (hx : a.eval x = .slice B m d) (hr : SlD w (fun _ => True) size (.slice B m d) news) (h1 : ∀ u ∈ news, u.oneCell' = true) (hb : (n + m) * bytes ≤ 140737488355328) (h63 : n + m ≤ maxLen) (hbase : base ≤ w.heap.size)
    (h : ∀ A' c' w', w'.ownsRow base e size (.slice A' (n + m) c') (n + m) (xs ++ news) → Fr (Value.slice A n c).ownBlock w w' → NewOr w.heap.size (.slice A n c) (.slice A' (n + m) c') → K (a.put o.dst (.slice A' (n + m) c')) w') :
    if Region.wanted o (yielded ops a.tmps) = true then Oper.wp P o a w K Q else E' := by
  have hw : Region.wanted o (yielded ops a.tmps) = true := by simp [Region.wanted, hgd]
  rw [if_pos hw]
  obtain ⟨A', c', w', hr, h2, h3, h4⟩ := app_run (P := P) (ty := o.type) E w base A n c xs hown B m d news hr h1 hb h63 hbase
  unfold Oper.wp execOp
  simp only [ho, resolve, invoke, builtin, Sem.run_bind, Sem.run_pure, Result.andThen_ok, List.map_toArray, List.map_cons, List.map_nil, hs, hx, hr]
  refine h A' c' w' h2 h3 ?_
  rcases h4 with bl' | bl'
  · exact .inl bl'
  · exact .inr ⟨_, bl', Nat.le_refl _⟩
/-- A copy of a trust, in memory of its own. -/
def CopyP (w : World) (t : Tr) (e : Ending) (w' : World) : Prop := ∃ v, e = .returned v ∧ TrD w' (Dn w.heap.size w') v t ∧ Fr none w w'

/-- The copy, before its inner trusts are there. -/
def CMid (w1 : World) (thr : Int) (nodes : List Int) (s : Value) (wr : World) : Prop := ∃ (B : Nat) (A5 : Option Addr) (c5 : Nat), s = .pointer (some ⟨B, 0, none⟩) ∧
  Fr none w1 wr ∧ w1.heap.size ≤ B ∧ B < wr.heap.size ∧ TB wr B (.int .i64 thr) (.slice A5 nodes.length c5) (.slice none 0 0) ∧ SlD wr (fun b => w1.heap.size ≤ b ∧ b < wr.heap.size ∧ b ≠ B) 1 (.slice A5 nodes.length c5) (nodes.map (Value.int .i64))
theorem cmid_x {w1 w5 : World} {thr : Int} {nodes : List Int} {A5 : Option Addr} {c5 : Nat} (F : Fr none w1 w5) (own : w5.ownsRow w1.heap.size 3 1 (.slice A5 nodes.length c5) nodes.length (nodes.map (Value.int .i64))) :
    CMid w1 thr nodes (.pointer (some ⟨w5.heap.size, 0, none⟩)) (w5.alloc (.cells #[.int .i64 thr, .slice A5 nodes.length c5, .slice none 0 0] 31)) :=
  ⟨_, A5, c5, rfl, F.alloc _, F.size, by simp, blk_new _ _, (SlD.own_dn own).keep fun k hk => ⟨⟨hk.1, by have := hk.2; simp; omega, by have := hk.2; omega⟩, ((Fr.refl none w5).alloc _).block k hk.2 (by simp)⟩⟩
theorem tb_fill {w : World} {b : Nat} {z0 z1 z2 : Value} (h : TB w b z0 z1 z2) (x0 x1 x2 : Value) : TB (((w.setCell ⟨b, 0, none⟩ x0).setCell ⟨b, 1, none⟩ x1).setCell ⟨b, 2, none⟩ x2) b x0 x1 x2 := by
  have := blk_set (blk_set (blk_set h 0 x0) 1 x1) 2 x2
  simpa [TB] using this
theorem cmid_y {w1 w5 : World} {thr : Int} {nodes : List Int} {A5 : Option Addr} {c5 : Nat} {z0 z1 z2 : Value} (F : Fr none w1 w5) (own : w5.ownsRow (w1.heap.size + 1) 3 1 (.slice A5 nodes.length c5) nodes.length (nodes.map (Value.int .i64))) (hb : TB w5 w1.heap.size z0 z1 z2) :
    CMid w1 thr nodes (.pointer (some ⟨w1.heap.size, 0, none⟩)) (((w5.setCell ⟨w1.heap.size, 0, none⟩ (.int .i64 thr)).setCell ⟨w1.heap.size, 1, none⟩ (.slice A5 nodes.length c5)).setCell ⟨w1.heap.size, 2, none⟩ (.slice none 0 0)) := by
  have G := fr_fill3 w5 w1.heap.size (.int .i64 thr) (.slice A5 nodes.length c5) (.slice none 0 0)
  have hz := G.size
  have hlt := blk_lt hb
  exact ⟨_, A5, c5, rfl, F.own G (by simp), Nat.le_refl _, by omega, tb_fill hb _ _ _, (SlD.own_dn own).keep fun k hk => ⟨⟨by have := hk.1; omega, by have := hk.2; omega, by have := hk.1; omega⟩, G.block k hk.2 (by have := hk.1; simp; omega)⟩⟩

set_option maxRecDepth 100000 in
set_option maxHeartbeats 4000000 in
theorem copied_any (d : Nat) : ∀ (t : Tr) (v : Value) (w : World) (r : Option Nat), t.dep ≤ d → TrR w r v t →
    Calls Tryz.prog 94 #[v] w (CopyP w t) := by
  induction d with
  | zero =>
    intro t v w r hd
    cases t
    simp [Tr.dep] at hd
  | succ d ih =>
    intro t v w r hd h
    obtain ⟨thr, nodes, inner⟩ := t
    obtain ⟨A, c, A', c', rfl, hthr, hn, hn2, hi2, hi3, hi4, hcell⟩ := h.open_
    have hdi : depL inner ≤ d := by simp only [Tr.dep] at hd; omega
    have hn2' := hn.2
    clear hd
    go_enter Tryz.func94, Tryz.ntmps94
    go_upto_region 1 with (fail)
    generalize hW : (w.alloc _).alloc _ = w1
    have hz : w1.heap.size = w.heap.size + 2 := by rw [← hW]; simp
    have F1 : Fr none w w1 := hW ▸ ((Fr.refl _ w).alloc _).alloc _
    have b1 : TB w1 w.heap.size (.int .i64 thr) (.slice A nodes.length c) (.slice A' inner.length c') := by
      rw [← hW]; exact (Below.heap_alloc _ _ _ (by simp)).trans (blk_new _ _)
    have b2 : TB w1 (w.heap.size + 1) (.int .i64 0) (.slice none 0 0) (.slice none 0 0) := by
      rw [← hW]; exact blk_new_at (by simp) _
    have hn' := hn.fr (F1.mono (r := r))
    have hs1 : SlD w1 (fun _ => True) 1 (.slice A nodes.length c) (nodes.map (Value.int .i64)) := hn'.1.any
    have hs1a : SlD (w1.alloc (.cells #[.int .i64 0, .slice none 0 0, .slice none 0 0] 31)).drew (fun _ => True) 1 (.slice A nodes.length c) (nodes.map (Value.int .i64)) := ((hn'.fr ((Fr.refl r w1).alloc _)).1.keep (fun k hk => ⟨trivial, rfl⟩))
    have hs1d : SlD w1.drew (fun _ => True) 1 (.slice A nodes.length c) (nodes.map (Value.int .i64)) := hs1.keep (fun k hk => ⟨trivial, rfl⟩)
    have R1 := b1.cell
    have Z1 := b1.free
    have h1c : ∀ u ∈ nodes.map (Value.int .i64), u.oneCell' = true := fun u hu => by
      obtain ⟨x, _, rfl⟩ := List.mem_map.1 hu
      simp [Value.oneCell']
    have H1C := Lib.hid h1c
    clear hW hn hs1 h1c
    have hlt1 : w.heap.size + 2 ≤ w1.heap.size := by omega
    have hlt0 : w.heap.size < w1.heap.size := by omega
    have hlt2 : w.heap.size + 1 < w1.heap.size := by omega
    clear hz
    go_cut [3, 6, 7, 8, 9, 10, 11] (fun s3 _ _ _ _ _ _ wr => CMid w1 thr nodes s3 wr)
    case first =>
     go_region_law (first
      | (refine step_app_any eiInt rfl _ _ rfl w1.heap.size none 0 0 [] rfl (World.ownsRow_nil _ _ _ _) A nodes.length c _ rfl hs1d H1C.out (by omega) (by unfold maxLen; omega) (by simp) ?_; intro A5 c5 w5 own5 F5 bl5; have F5' : Fr none w1 w5 := (Fr.refl none w1).drew.pure F5; have X1 := (b1.fr F5' (by simp)).cell; have hl5 : w.heap.size < w5.heap.size := (by have := F5'.size; omega))
      | (refine step_app_any eiInt rfl _ _ rfl (w1.heap.size + 1) none 0 0 [] rfl (World.ownsRow_nil _ _ _ _) A nodes.length c _ rfl hs1a H1C.out (by omega) (by unfold maxLen; omega) (by simp) ?_; intro A5 c5 w5 own5 F5 bl5; have b3 : TB w5 w1.heap.size (.int .i64 0) (.slice none 0 0) (.slice none 0 0) := blk_fr (w := (w1.alloc _).drew) (blk_new w1 _) F5 (by simp [Value.ownBlock]); have X3 := b3.cell; have X2 := b3.free; have F5' : Fr none w1 w5 := ((Fr.refl none w1).alloc _).drew.pure F5; have X1 := (b1.fr F5' (by simp)).cell; have hl5 : w.heap.size < w5.heap.size := (by have := F5'.size; omega)))
     all_goals
      go_wp2_with fail
      go_meet
      simp only [Nat.zero_add, List.nil_append] at own5
      first | exact cmid_x F5' own5 | exact cmid_y F5' own5 b3
    case rest =>
      obtain ⟨B, A5, c5, rfl, FM, hB1, hB2, tB, sN⟩ := hcut
      have bM1 := b1.fr FM (by simp)
      have bM2 := b2.fr FM (by simp)
      have RM := bM1.cell
      have hzM := FM.size
      clear R1 Z1 hs1a hs1d H1C hn' b1
      go_wp2_with fail
      go_loopw [15] (fun i wr => ∃ (k : Nat) (A2 : Option Addr) (c2 : Nat) (cells : List Value), k ≤ inner.length ∧ i = .int .i64 k ∧ Fr none w1 wr ∧ wc.heap.size ≤ wr.heap.size ∧ TB wr B (.int .i64 thr) (.slice A5 nodes.length c5) (.slice A2 k c2) ∧ TB wr (w.heap.size + 1) (.int .i64 0) (.slice none 0 0) (.slice none 0 0) ∧ SlD wr (fun b => w1.heap.size ≤ b ∧ b < wc.heap.size ∧ b ≠ B) 1 (.slice A5 nodes.length c5) (nodes.map (Value.int .i64)) ∧ wr.ownsRow wc.heap.size 31 3 (.slice A2 k c2) k cells ∧ TrsD wr (Dx wc.heap.size wr (.slice A2 k c2)) cells (inner.take k)) (fun i _ => inner.length - (intOf i).toNat)
      case atStart => exact ⟨0, none, 0, [], Nat.zero_le _, rfl, FM, Nat.le_refl _, tB, bM2, sN, World.ownsRow_nil _ _ _ _, by simp [TrsD]⟩
      case round =>
        clear FM tB sN bM1 bM2 RM
        obtain ⟨k, A2, c2, cells, hk, rfl, F, hwc, tB, t2, sN, own, hts⟩ := hrel
        by_cases hlt : k < inner.length
        · obtain ⟨gb, off, rfl, hb, hbr, hc⟩ := hcell (by omega)
          obtain ⟨x, y, z, g0, g1, g2, gt⟩ := hc k hlt
          obtain ⟨th, a1, m1, e1, a2, m2, e2, rfl, rfl, rfl⟩ := gt.shape
          have F3 := F1.pure F
          have g0' := F3.keep g0 (by simp)
          have g1' := F3.keep g1 (by simp)
          have g2' := F3.keep g2 (by simp)
          have hdd : (inner[k]).dep ≤ d := by have := depL_get inner k hlt; omega
          have gt' := (gt.fr (F3.mono (r := r)))
          have htk : inner.take (k + 1) = inner.take k ++ [inner[k]] := List.take_succ_eq_append_getElem hlt
          have HTK := Lib.hid htk
          clear g0 g1 g2 hc htk
          go_upto_region 5 with (fail)
          generalize hW : wr.alloc _ = wq
          have Fq : Fr none wr wq := hW ▸ (Fr.refl none wr).alloc _
          have b5 : TB wq wr.heap.size (.int .i64 th) (.slice a1 m1 e1) (.slice a2 m2 e2) := by rw [← hW]; exact blk_new _ _
          have hzq := Fq.size
          have hzl : wr.heap.size < wq.heap.size := blk_lt b5
          have gq : TrR wq.drew r (.agg #[.int .i64 th, .slice a1 m1 e1, .slice a2 m2 e2]) inner[k] := (gt'.fr (Fq.mono (r := r))).fr (Fr.refl _ _).drew
          have K7 := tB.fr Fq (by simp)
          have R5 := b5.cell
          have R7 := K7.cell
          have Z7 := K7.free
          have ownq := own_fr own Fq (by simp)
          clear hW g0' g1' g2' gt gt'
          go_region_law (first
            | (go_simp; go_at_call 94; refine (ih inner[k] _ _ r hdd (by exact gq)).mono ?_; rintro e w3 ⟨v3, rfl, hT3, F3'⟩; obtain ⟨th', a1', n1', e1', a2', n2', e2', rfl⟩ := hT3.shape; have F3' := ((Fr.refl none wq).drew).pure F3'; have T3x := K7.fr F3' (by simp); have R3 := T3x.cell; have Z3 := T3x.free; have own3 := own_fr ownq F3' (by simp); have hz3 := F3'.size; have hB3 : B < w3.heap.size := (by omega))
            | (refine step_app_lit eiTrust rfl _ _ rfl wc.heap.size A2 k c2 _ rfl own3 1 [.int .i64 th', .slice a1' n1' e1', .slice a2' n2' e2'] 31 _ rfl (by simp) rfl (by simp [Value.oneCell']) (by omega) (by unfold maxLen; omega) (by omega) ?_; intro A3 c3 w5 own5 F5 bl5; have T5 := T3x.fr F5 (own_ne own3 (by omega)); have R6 := T5.cell; have Z6 := T5.free))
          all_goals
            go_wp2_with fail
            have FS := Fr.set1 w5 ⟨B, 2, none⟩ (.slice A3 (k + 1) c3)
            have og := own_blk_ge own3
            have ol := own.lt
            have hz5 := F5.size
            have hzS := FS.size
            go_roundw
            case rel =>
              have t1 := (TrsD.keep (dx_fr FS (by simp; omega)) _ _ (TrsD.keep (dx_app F5 bl5) _ _ (TrsD.keep (dx_fr F3' (by simp)) _ _ (TrsD.keep (dx_fr Fq (by simp)) _ _ hts))))
              have t3 := TrD.keep (dx_fr FS (by simp; omega)) _ _ (TrD.keep (dx_app F5 bl5) _ _ (TrD.keep (dn_dx (B := wc.heap.size) (v := .slice A2 k c2) (by simp; omega) (fun q hq => by have := (ol q hq).2; simp; omega)) _ _ hT3))
              refine ⟨k + 1, A3, c3, cells ++ [.int .i64 th', .slice a1' n1' e1', .slice a2' n2' e2'], by omega, by go_num, (((F.pure Fq).pure F3').own F5 (fun q e => by have := og q e; omega)).own FS (by simp; omega), by omega, T5.set2 _, (((t2.fr Fq (by simp)).fr F3' (by simp)).fr F5 (own_ne own3 (by omega))).fr FS (by simp; omega), ?_, own_fr own5 FS (by simp; omega), by rw [HTK.out]; exact TrsD.append t1 (by simp only [TrsD]; exact ⟨_, _, _, [], rfl, t3, rfl⟩)⟩
              exact (((sN.keep (fun q hq => ⟨hq, Fq.block q (by omega) (by simp)⟩)).keep (fun q hq => ⟨hq, F3'.block q (by omega) (by simp)⟩)).keep (fun q hq => ⟨hq, F5.block q (by omega) (fun e => by have := og q e.symm; omega)⟩)).keep (fun q hq => ⟨hq, FS.block q (by omega) (by simp; omega)⟩)
            case measure => simp [intOf]; omega
        · obtain rfl : k = inner.length := by omega
          have R7 := tB.cell
          have R2 := t2.cell
          have Z2 := t2.free
          go_wp2_with fail
          refine bodyPost_ret (v := .agg #[.int .i64 thr, .slice A5 nodes.length c5, .slice A2 inner.length c2]) (by simp [results, Tryz.results94, go_sem, R2]) rfl ?_
          have G := fr_fill3 wr (w.heap.size + 1) (.int .i64 thr) (.slice A5 nodes.length c5) (.slice A2 inner.length c2)
          rw [List.take_length] at hts
          have hzG := G.size
          refine ⟨_, rfl, TrD.mk_ hthr (sN.keep (fun q hq => ⟨⟨by omega, by omega⟩, G.block q (by omega) (by simp; omega)⟩)) hn2' ((SlD.own_dn own).keep (fun q hq => ⟨⟨by have := hq.1; omega, by have := hq.2; omega⟩, G.block q hq.2 (by have := hq.1; simp; omega)⟩)) hn2 hi2 (TrsD.keep (fun q hq => ⟨⟨by have := hq.1; omega, by have := hq.2.1; omega⟩, G.block q hq.2.1 (by have := hq.1; simp; omega)⟩) _ _ hts), ?_⟩
          exact (F1.pure F).own G (by simp)
end Go.Proofs.YtpdhckbiioobhaaGreatDoor

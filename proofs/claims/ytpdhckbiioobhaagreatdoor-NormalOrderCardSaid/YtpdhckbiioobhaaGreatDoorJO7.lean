/- Some texts of this claim, joined: contracts of the functions that it reaches, and plain laws. -/
import Derived.Test.YtpdhckbiioobhaaGreatDoorProg
import Derived.Test.YtpdhckbiioobhaaGreatDoorJO6
import Derived.Test.YtpdhckbiioobhaaGreatDoorJO1
import Derived.Test.YtpdhckbiioobhaaGreatDoorJO5
import Derived.Deep.RegionHeld3
import Derived.Test.YtpdhckbiioobhaaGreatDoorJO4

/- Walks: normal.dissolved, the whole. -/
namespace Go.Proofs.YtpdhckbiioobhaaGreatDoor
open Go.RowKit

/-- Between. -/
structure DisI (E : Nat → Prop) (w1 w : World) (v5 v6 : Value) (thr : Int) (n : List Int) (i : List Tr) (A7 : Option Addr) (c7 : Nat) (A8 : Option Addr) (c8 : Nat) (cs : List Value) (wr : World) : Prop where
  fr : Fr none w1 wr
  hz : w1.heap.size ≤ w.heap.size
  f : Fr v5.ownBlock w wr
  tb : TB wr w.heap.size (.int .i64 thr) (.slice A7 n.length c7) v6
  bz : TB wr (w.heap.size + 1) (.int .i64 0) (.slice none 0 0) (.slice none 0 0)
  box : wr.heap[w.heap.size + 1 + 1]? = some (.cells #[.slice A8 i.length c8] 29 (0, 0))
  own5 : wr.ownsRow w1.heap.size 3 1 (.slice A7 n.length c7) n.length (n.map (Value.int .i64))
  wi : ∀ x ∈ n, Wi x
  nw : Nwr w.heap.size v5 (.slice A7 n.length c7)
  own6 : wr.ownsRow w1.heap.size 31 3 (.slice A8 i.length c8) i.length cs
  n6 : ∀ g, (Value.slice A8 i.length c8).ownBlock = some g → w.heap.size ≤ g
  e5 : ∀ k, (Value.slice A7 n.length c7).ownBlock = some k → k ≠ w.heap.size ∧ k ≠ w.heap.size + 1 ∧ k ≠ w.heap.size + 1 + 1
  e6 : ∀ k, (Value.slice A8 i.length c8).ownBlock = some k → k ≠ w.heap.size ∧ k ≠ w.heap.size + 1 ∧ k ≠ w.heap.size + 1 + 1
  dis : ∀ b, (Value.slice A7 n.length c7).ownBlock = some b → (Value.slice A8 i.length c8).ownBlock ≠ some b
  tr : TrsD wr (Do E w1 w v5 v6) cs i
theorem OwI.dis0 {E : Nat → Prop} {w1 w w' : World} {thr : Int} {n : List Int} {i : List Tr} {A5 : Option Addr} {c5 : Nat} {A6 : Option Addr} {c6 : Nat} {cells : List Value} (h : OwI E w1 n i A5 c5 A6 c6 cells w) (F : Fr none w w') (hb : TB w' w.heap.size (.int .i64 thr) (.slice A5 n.length c5) (.slice A6 i.length c6)) (hz : TB w' (w.heap.size + 1) (.int .i64 0) (.slice none 0 0) (.slice none 0 0))
    (hx : w'.heap[w.heap.size + 1 + 1]? = some (.cells #[.slice none 0 0] 29 (0, 0))) : DisI E w1 w (.slice A5 n.length c5) (.slice A6 i.length c6) thr n [] A5 c5 none 0 [] w' := by
  have hlt := h.own5.lt
  exact ⟨h.fr.pure F, h.fr.size, (Fr.refl _ _).pure F, hb, hz, hx, own_fr h.own5 F (by simp), h.wi, Nwr.refl _ _, World.ownsRow_nil _ _ _ _, by simp [Value.ownBlock], fun k e => by have := (hlt _ e).2; omega, by simp [Value.ownBlock], fun _ _ => by simp [Value.ownBlock], by simp [TrsD]⟩
section
variable {E : Nat → Prop} {w1 w wr w' : World} {v5 v6 : Value} {thr : Int} {n : List Int} {i : List Tr} {A7 : Option Addr} {c7 : Nat} {A8 : Option Addr} {c8 : Nat} {cs : List Value}
theorem DisI.pure (h : DisI E w1 w v5 v6 thr n i A7 c7 A8 c8 cs wr) (F : Fr none wr w') : DisI E w1 w v5 v6 thr n i A7 c7 A8 c8 cs w' :=
  ⟨h.fr.pure F, h.hz, h.f.pure F, h.tb.fr F (by simp), h.bz.fr F (by simp), blk_fr h.box F (by simp), own_fr h.own5 F (by simp), h.wi, h.nw, own_fr h.own6 F (by simp), h.n6, h.e5, h.e6, h.dis, TrsD.keep (do_step h.f.size F (by simp)) _ _ h.tr⟩
theorem DisI.node (h : DisI E w1 w v5 v6 thr n i A7 c7 A8 c8 cs wr) {k : Int} (hk : Wi k) {A9 : Option Addr} {c9 : Nat}
    (own : w'.ownsRow w1.heap.size 3 1 (.slice A9 (n.length + 1) c9) (n.length + 1) (n.map (Value.int .i64) ++ [.int .i64 k])) (F : Fr (Value.slice A7 n.length c7).ownBlock wr w') (nb : NewOr wr.heap.size (.slice A7 n.length c7) (.slice A9 (n.length + 1) c9)) :
    DisI E w1 w v5 v6 thr (n ++ [k]) i A9 c9 A8 c8 cs (w'.setCell ⟨w.heap.size, 1, none⟩ (.slice A9 (n.length + 1) c9)) := by
  have hz := h.f.size
  have hb := blk_lt h.box
  have hn : (n ++ [k]).length = n.length + 1 := by simp
  have G := Fr.set1 w' ⟨w.heap.size, 1, none⟩ (.slice A9 (n.length + 1) c9)
  have hzF := F.size
  have og := own_blk_ge h.own5
  have ol6 := h.own6.lt
  have hzz := h.hz
  have hb1 := (h.tb.fr F (fun e => (h.e5 _ e).1 rfl)).set1 (.slice A9 (n.length + 1) c9)
  have e5' : ∀ x, (Value.slice A9 (n.length + 1) c9).ownBlock = some x → x ≠ w.heap.size ∧ x ≠ w.heap.size + 1 ∧ x ≠ w.heap.size + 1 + 1 := fun x e => by
    rcases nb with e' | ⟨g, e', hg⟩
    · exact h.e5 x (e'.symm.trans e)
    · rw [e'] at e; injection e with e; omega
  refine ⟨(h.fr.own F og).own G (by simp; omega), h.hz, (h.f.nwr h.nw F).own G (by simp), by rw [hn]; exact hb1, (h.bz.fr F (fun e => (h.e5 _ e).2.1 rfl)).fr G (by simp), blk_fr (blk_fr h.box F (fun e => (h.e5 _ e).2.2 rfl)) G (by simp; omega), by rw [hn, List.map_append]; exact own_ne_fr own G (fun e => (e5' _ e).1 rfl), fun x hx => ?_, by rw [hn]; exact h.nw.next hz nb, own_ne_fr (own_keep2 h.own6 F (fun b e6 e5 => h.dis b e5 e6)) G (fun e => (h.e6 _ e).1 rfl), h.n6, by rw [hn]; exact e5', h.e6, ?_, TrsD.keep (do_step (Nat.le_trans hz hzF) G (by simp)) _ _ (TrsD.keep (do_step hz F (fun g e => h.nw.blk e)) _ _ h.tr)⟩
  · rcases List.mem_append.1 hx with hx | hx
    · exact h.wi x hx
    · simp only [List.mem_singleton] at hx; exact hx ▸ hk
  · rw [hn]
    intro b e e6
    rcases nb with e' | ⟨g, e', hg⟩
    · exact h.dis b (e'.symm.trans e) e6
    · rw [e'] at e; injection e with e; have := (ol6 _ e6).2; omega
theorem blk_frS {P : Nat → Prop} {w w' : World} {g : Nat} {o : Obj} (h : w.heap[g]? = some o) (F : FrS P w w') (hp : ¬ P g) : w'.heap[g]? = some o := by
  rw [F.block g (Array.getElem?_eq_some_iff.1 h).1 hp]; exact h
theorem DisI.add {t : Tr} {x0 x1 x2 : Value} {e : Ending} (h : DisI E w1 w v5 v6 thr n i A7 c7 A8 c8 cs wr) (hx : TrD wr (Do E w1 w v5 v6) (.agg #[x0, x1, x2]) t) (hA : AddP w1.heap.size (w.heap.size + 1 + 1) i t (.slice A8 i.length c8) cs x0 x1 x2 wr e w') :
    ∃ u, e = .returned u ∧ ∃ (A9 : Option Addr) (c9 : Nat) (cs' : List Value), DisI E w1 w v5 v6 thr n (withT i t) A7 c7 A9 c9 cs' w' := by
  obtain ⟨u, rfl, F, hA⟩ := hA
  have hz := h.f.size
  have hb := blk_lt h.box
  have hzz := h.hz
  have d1 : ∀ k, Do E w1 w v5 v6 k → Do E w1 w v5 v6 k ∧ w'.heap[k]? = wr.heap[k]? := fun k hk => ⟨hk, F.block k (by have := hk.2.1; omega) (fun e => by
    have := hk.2.1
    rcases e with e | e
    · omega
    · have := h.n6 _ e; omega)⟩
  have fr' : Fr none w1 w' := h.fr.frs F (fun x hx => .inr (by
    rcases hx with e | e
    · omega
    · have := h.n6 _ e; omega))
  have f' : Fr v5.ownBlock w w' := h.f.frs F (fun x hx => .inr (by
    rcases hx with e | e
    · omega
    · exact h.n6 _ e))
  have tb' : TB w' w.heap.size (.int .i64 thr) (.slice A7 n.length c7) v6 := blk_frS h.tb F (fun e => by
    rcases e with e | e
    · omega
    · exact (h.e6 _ e).1 rfl)
  have bz' : TB w' (w.heap.size + 1) (.int .i64 0) (.slice none 0 0) (.slice none 0 0) := blk_frS h.bz F (fun e => by
    rcases e with e | e
    · omega
    · exact (h.e6 _ e).2.1 rfl)
  have own5' := own_keepS h.own5 F (fun b e e2 => by
    rcases e2 with e2 | e2
    · exact (h.e5 _ e).2.2 e2
    · exact h.dis _ e e2)
  have ol5 := h.own5.lt
  refine ⟨u, rfl, ?_⟩
  rcases hA with ⟨ha, own, box⟩ | ⟨ha, A9, c9, nb, own, box⟩
  · have hw : withT i t = i := by unfold withT; rw [if_pos ha]
    rw [hw]
    exact ⟨A8, c8, cs, fr', h.hz, f', tb', bz', box, own5', h.wi, h.nw, own, h.n6, h.e5, h.e6, h.dis, TrsD.keep d1 _ _ h.tr⟩
  · have hw : withT i t = i ++ [t] := by unfold withT; rw [if_neg (by rw [ha]; simp)]
    have hn : (i ++ [t]).length = i.length + 1 := by simp
    rw [hw]
    refine ⟨A9, c9, _, fr', h.hz, f', tb', bz', by rw [hn]; exact box, own5', h.wi, h.nw, by rw [hn]; exact own, ?_, h.e5, ?_, ?_, TrsD.append (TrsD.keep d1 _ _ h.tr) (by simp only [TrsD]; exact ⟨_, _, _, [], rfl, TrD.keep d1 _ _ hx, rfl⟩)⟩
    · rw [hn]; intro g e
      rcases nb with e' | ⟨g', e', hg⟩
      · exact h.n6 g (e'.symm.trans e)
      · rw [e'] at e; injection e with e; omega
    · rw [hn]; intro g e
      rcases nb with e' | ⟨g', e', hg⟩
      · exact h.e6 g (e'.symm.trans e)
      · rw [e'] at e; injection e with e; omega
    · rw [hn]; intro b e5 e
      rcases nb with e' | ⟨g', e', hg⟩
      · exact h.dis b e5 (e'.symm.trans e)
      · rw [e'] at e; injection e with e; have := (ol5 _ e5).2; omega
theorem DisI.addC {t : Tr} {th : Int} {A1 : Option Addr} {n1 c1 : Nat} {A2 : Option Addr} {n2 c2 : Nat} (h : DisI E w1 w v5 v6 thr n i A7 c7 A8 c8 cs wr) (hx : TrD wr (Do E w1 w v5 v6) (.agg #[.int .i64 th, .slice A1 n1 c1, .slice A2 n2 c2]) t) (hil : i.length ≤ 900000) :
    Calls Tryz.prog 179 #[.agg #[.int .i64 th, .slice A1 n1 c1, .slice A2 n2 c2], .pointer (some ⟨w.heap.size + 1 + 1, 0, none⟩)] wr fun e w' => ∃ u, e = .returned u ∧ ∃ (A9 : Option Addr) (c9 : Nat) (cs' : List Value), DisI E w1 w v5 v6 thr n (withT i t) A7 c7 A9 c9 cs' w' := by
  have hz := h.f.size
  have hzz := h.hz
  have kd : ∀ k, Do E w1 w v5 v6 k → Dm wr none k ∧ wr.heap[k]? = wr.heap[k]? := fun k hk => ⟨⟨by have := hk.2.1; omega, by simp⟩, rfl⟩
  refine (add_any w1.heap.size (w.heap.size + 1 + 1) i t A8 c8 cs th A1 n1 c1 A2 n2 c2 wr h.box (blk_lt h.box) h.fr.size h.own6 (fun e => (h.e6 _ e).2.2 rfl) (TsR.of ((SlD.own_eq h.own6).keep (fun k hk => ⟨⟨hk.2.2, by simp⟩, rfl⟩)) (by omega) (TrsD.keep kd _ _ h.tr)) (TrD.keep kd _ _ hx) hil).mono ?_
  intro e w' hA
  exact h.add hx hA
/-- The end: the trust in its block takes the new inner trusts, and the result's cell is filled. -/
theorem DisI.end_ (h : DisI E w1 w v5 v6 thr n i A7 c7 A8 c8 cs wr) : RowsP E thr (n, i) w1 w v5 (.returned (.agg #[.int .i64 thr, .slice A7 n.length c7, .slice A8 i.length c8])) ((((wr.setCell ⟨w.heap.size, 2, none⟩ (.slice A8 i.length c8)).setCell ⟨w.heap.size + 1, 0, none⟩ (.int .i64 thr)).setCell ⟨w.heap.size + 1, 1, none⟩ (.slice A7 n.length c7)).setCell ⟨w.heap.size + 1, 2, none⟩ (.slice A8 i.length c8)) := by
  have hz := h.f.size
  have hzz := h.hz
  have G1 := Fr.set1 wr ⟨w.heap.size, 2, none⟩ (.slice A8 i.length c8)
  generalize World.setCell wr _ _ = wa at *
  have G2 := fr_fill3 wa (w.heap.size + 1) (.int .i64 thr) (.slice A7 n.length c7) (.slice A8 i.length c8)
  generalize World.setCell (World.setCell (World.setCell wa _ _) _ _) _ _ = wb at *
  have hz1 := G1.size
  have hz2 := G2.size
  refine ⟨A7, c7, A8, c8, cs, rfl, ⟨(h.fr.own G1 (by simp; omega)).own G2 (by simp; omega), own_ne_fr (own_ne_fr h.own5 G1 (fun e => (h.e5 _ e).1 rfl)) G2 (fun e => (h.e5 _ e).2.1 rfl), h.wi, own_ne_fr (own_ne_fr h.own6 G1 (fun e => (h.e6 _ e).1 rfl)) G2 (fun e => (h.e6 _ e).2.1 rfl), h.dis, TrsD.keep (fun k hk => ?_) _ _ h.tr⟩, (h.f.own G1 (by simp)).own G2 (by simp), h.nw, h.n6⟩
  have hk2 := hk.2.1
  refine ⟨⟨hk.1, by omega, fun e => ?_, fun e => by have := h.n6 _ e; omega, hk.2.2.2.2⟩, (G2.block k (by omega) (by simp; omega)).trans (G1.block k (by omega) (by simp; omega))⟩
  rcases h.nw.blk e with e | e
  · exact hk.2.2.1 e
  · omega
end

set_option maxRecDepth 100000 in
set_option maxHeartbeats 4000000 in
theorem dissAny_any (E : Nat → Prop) (thr : Int) (n : List Int) (i : List Tr) (A5 : Option Addr) (c5 : Nat) (A6 : Option Addr) (c6 : Nat) (cells : List Value) (w1 w : World) (h : OwI E w1 n i A5 c5 A6 c6 cells w) (hsz : n.length + wgt i ≤ 900000) :
    Calls Tryz.prog 134 #[.agg #[.int .i64 thr, .slice A5 n.length c5, .slice A6 i.length c6], .func (.func 133) #[] #[]] w (RowsP E thr (mergeL false (n, i)) w1 w (.slice A5 n.length c5)) := by
  obtain ⟨Y2, mm, d2, e2, r1, r2, r3, r4⟩ := SlD.own_eq h.own6
  injection e2 with a1 a2 a3
  subst a1 a2 a3
  unfold maxLen at r3
  have hil0 : i.length ≤ 900000 := by unfold wgt at hsz; omega
  have hz0 := h.fr.size
  have HO := Lib.hid h
  clear h r1
  go_enter Tryz.func134, Tryz.ntmps134
  go_wp2_with fail
  generalize hW : ((w.alloc _).alloc _).alloc _ = w0
  have F0 : Fr none w w0 := hW ▸ (((Fr.refl none w).alloc _).alloc _).alloc _
  have hL0 := HO.out.dis0 F0 (thr := thr) (by rw [← hW]; exact (Below.heap_alloc _ _ _ (by simp; omega)).trans ((Below.heap_alloc _ _ _ (by simp)).trans (blk_new _ _))) (by rw [← hW]; exact (Below.heap_alloc _ _ _ (by simp)).trans (blk_new_at (by simp) _)) (by rw [← hW]; exact blk_new_at (by simp) _)
  clear hW F0
  obtain ⟨wo, hwo⟩ : ∃ wo : World, wo = w0 := ⟨_, rfl⟩
  subst hwo
  go_loopw [17, 8, 10, 12] (fun s17 s8 s10 s12 wr => ∃ (j : Nat) (n' : List Int) (i' : List Tr) (A7 : Option Addr) (c7 : Nat) (A8 : Option Addr) (c8 : Nat) (cs : List Value), s17 = .int .i64 (j : Int) ∧ j ≤ i.length ∧ DisI E w1 w (.slice A5 n.length c5) (.slice A6 i.length c6) thr n' i' A7 c7 A8 c8 cs wr ∧
    Hid (i.foldl (mergeS false) (n, []) = (i.drop j).foldl (mergeS false) (n', i')) ∧ n'.length + wgt i' + wgt (i.drop j) ≤ 900000) (fun s17 _ _ _ _ => i.length - (intOf s17).toNat)
  case atStart => exact ⟨0, n, [], A5, c5, none, 0, [], rfl, Nat.zero_le _, hL0, by simp [Hid], by simp [wgt, sizeL] at hsz ⊢; omega⟩
  case round =>
    clear hL0
    obtain ⟨j, n', i', A7, c7, A8, c8, cs, rfl, hj, hL, HJ, hbd⟩ := hrel
    by_cases hlt : j < i.length
    · have hdj : i.drop j = i[j] :: i.drop (j + 1) := List.drop_eq_getElem_cons hlt
      obtain ⟨b, off, rfl, hb, hcc⟩ := r4 (by omega)
      obtain ⟨x0, y0, z0, e0, e1, e2, hy0⟩ := HO.out.trs.get j hlt
      have hdis : (Value.slice A5 n.length c5).ownBlock ≠ some b := fun e => HO.out.dis _ e hb.1
      rw [hdj] at HJ hbd
      rw [wgt_cons] at hbd
      generalize i[j] = x at *
      obtain ⟨tX, nX, iX⟩ := x
      rw [size_mk] at hbd
      have hyd := hy0
      simp only [TrD] at hy0
      obtain ⟨vnx, vix, cx, hsh, k0, q1, q2, q3, q4, q5, q6⟩ := hy0
      simp only [Value.agg.injEq, Array.mk.injEq, List.cons.injEq, and_true] at hsh
      obtain ⟨hsh0, hsh1, hsh2⟩ := hsh
      subst hsh0 hsh1 hsh2
      obtain ⟨X1, m1, k1, rfl, l1, l2, l3, l4⟩ := id q1
      obtain ⟨X2, m2, k2, rfl, r1', r2', r3', r4'⟩ := id q3
      have hlen := q6.len
      obtain rfl : m2 = iX.length := by omega
      obtain rfl : m1 = nX.length := by simpa using l1.symm
      unfold Few at q4 q5
      unfold maxLen at l3 r3'
      have g0 := hL.f.keep (hcc _ _ e0) (Ne.symm hdis)
      have g1 := hL.f.keep (hcc _ _ e1) (Ne.symm hdis)
      have g2 := hL.f.keep (hcc _ _ e2) (Ne.symm hdis)
      rw [← Nat.add_assoc] at g1 g2
      have HDS := Lib.hid hdis
      clear e0 e1 e2 hcc hdj hdis r1' l1 hlen
      go_upto_region 6 with (fail)
      generalize hW : wr.alloc _ = wx
      have Fx : Fr none wr wx := hW ▸ (Fr.refl none wr).alloc _
      have bx : TB wx wr.heap.size (.int .i64 tX) (.slice X1 nX.length k1) (.slice X2 iX.length k2) := by rw [← hW]; exact blk_new _ _
      clear hW g0 g1 g2
      have hLx := hL.pure Fx
      have hTx := TrD.keep (do_step (v5 := .slice A5 n.length c5) (v6 := .slice (some ⟨b, off, none⟩) i.length c6) (E := E) (w1 := w1) (Nat.le_refl _) hLx.f (fun g e => .inl e)) _ _ hyd
      have hlx := blk_lt bx
      have Rx := bx.cell
      have hx5 : (Value.slice A7 n'.length c7).ownBlock ≠ some wr.heap.size := fun e => by have := (hL.own5.lt _ e).2; omega
      have hx6 : (Value.slice A8 i'.length c8).ownBlock ≠ some wr.heap.size := fun e => by have := (hL.own6.lt _ e).2; omega
      have hx2 : w.heap.size + 1 + 1 < wr.heap.size := blk_lt hL.box
      clear hL
      obtain ⟨T, hT⟩ : ∃ T, T = tak false (.mk tX nX iX) := ⟨_, rfl⟩
      have HT := Lib.hid hT
      go_wp2_with fail
      refine (anyOf_any (.mk tX nX iX) _ _ _ hTx).mono ?_
      rintro e w3 ⟨rfl, F3⟩
      rw [← hT]
      have hL3 := hLx.pure F3
      have b3 := bx.fr F3 (by simp)
      have hT3 := TrD.keep (do_step (v5 := .slice A5 n.length c5) (v6 := .slice (some ⟨b, off, none⟩) i.length c6) (E := E) (w1 := w1) hLx.f.size F3 (by simp)) _ _ hTx
      have R3 := b3.cell
      have hl3 := blk_lt b3
      have hnl : n'.length ≤ 900000 := by omega
      have hil : i'.length ≤ 900000 := by unfold wgt at hbd; omega
      have hz3 := F3.size
      clear hT Rx bx hLx hTx hlx
      cases T with
      | false =>
        go_wp2_with fail
        refine (hL3.addC (t := .mk tX nX iX) hT3 hil).mono ?_
        rintro e w4 ⟨u, rfl, A9, c9, cs', h4⟩
        go_wp2_with fail
        go_roundw
        case rel =>
          have hw := wgt_withT i' (.mk tX nX iX)
          rw [size_mk] at hw
          exact ⟨j + 1, n', withT i' (.mk tX nX iX), A7, c7, A9, c9, cs', by go_num, by omega, h4, by unfold Hid; rw [HJ.out, List.foldl_cons]; congr 1; unfold mergeS; rw [if_neg (by rw [← HT.out]; simp)], by omega⟩
        case measure => simp [intOf]; omega
      | true =>
        obtain ⟨wv, hwv⟩ : ∃ wv : World, wv = wr := ⟨_, rfl⟩
        subst hwv
        go_wp2_with fail
        go_loopw [31, 10] (fun s31 s10 wx => ∃ (q : Nat) (n2 : List Int) (A9 : Option Addr) (c9 : Nat), s31 = .int .i64 (q : Int) ∧ q ≤ nX.length ∧ DisI E w1 w (.slice A5 n.length c5) (.slice (some ⟨b, off, none⟩) i.length c6) thr n2 i' A9 c9 A8 c8 cs wx ∧ TB wx wv.heap.size (.int .i64 tX) (.slice X1 nX.length k1) (.slice X2 iX.length k2) ∧ (Value.slice A9 n2.length c9).ownBlock ≠ some wv.heap.size ∧
          Hid (nX.foldl addN n' = (nX.drop q).foldl addN n2) ∧ n2.length ≤ n'.length + q) (fun s31 _ _ => nX.length - (intOf s31).toNat)
        case atStart => exact ⟨0, n', A7, c7, rfl, Nat.zero_le _, hL3, b3, hx5, by simp [Hid], by omega⟩
        case round =>
          clear hL3 b3 hx5 R3 hl3
          obtain ⟨q, n2, A9, c9, rfl, hq, hL, bx, hx5, HN, hnb⟩ := hrel
          have hlx := blk_lt bx
          by_cases hlt2 : q < nX.length
          · obtain ⟨bb, oo, rfl, hbb, hcy⟩ := l4 (by omega)
            have hcx := hL.f.keep (hcy q (.int .i64 nX[q]) (by simp [hlt2])) (fun e => hbb.2.2.1 e.symm)
            have hdq : nX.drop q = nX[q] :: nX.drop (q + 1) := List.drop_eq_getElem_cons hlt2
            have hkw : Wi nX[q] := q2 _ (List.getElem_mem _)
            rw [hdq] at HN
            generalize nX[q] = y at *
            have tb := hL.tb
            have RB := tb.cell
            have ZB := tb.free
            have hBlt := blk_lt tb
            have own5 := hL.own5
            have ne5 : (Value.slice A9 n2.length c9).ownBlock ≠ some w.heap.size := fun e => (hL.e5 _ e).1 rfl
            have hzz := hL.fr.size
            have hl5 : SlI wr none (.slice A9 n2.length c9) n2 := SlI.of_own own5 (by simp) hL.wi
            obtain ⟨hv, hhv⟩ : ∃ hv, hv = n2.any (fun x => decide (x = y)) := ⟨_, rfl⟩
            have HHV := Lib.hid hhv
            clear hcy hdq hhv
            cases hv with
            | true =>
              go_wp2_with (go_at_call 178; refine (contains_any n2 y _ _ none hl5).mono ?_; rintro e w' ⟨rfl, rfl⟩; rw [← HHV.out])
              go_roundw
              case rel =>
                exact ⟨q + 1, n2, A9, c9, by go_num, by omega, hL, bx, hx5, by unfold Hid; rw [HN.out, List.foldl_cons]; congr 1; unfold addN; rw [if_pos HHV.out.symm], by omega⟩
              case measure => simp [intOf]; omega
            | false =>
              go_wp2_with (first | (go_at_call 178; refine (contains_any n2 y _ _ none hl5).mono ?_; rintro e w' ⟨rfl, rfl⟩; rw [← HHV.out]) | (at_builtin; refine app_lit eiInt rfl _ _ rfl w1.heap.size A9 n2.length c9 _ rfl own5 1 [.int .i64 y] _ _ rfl (by simp) rfl (by simp [Value.oneCell']) (by omega) (by unfold maxLen; omega) (by omega) ?_; intro A10 c10 w7 own7 F7 nb7; have K7 := tb.fr F7 ne5; have R7 := K7.cell; have Z7 := K7.free))
              have G := Fr.set1 w7 ⟨w.heap.size, 1, none⟩ (.slice A10 (n2.length + 1) c10)
              go_roundw
              case rel =>
                have hln : (n2 ++ [y]).length = n2.length + 1 := by simp
                exact ⟨q + 1, n2 ++ [y], A10, c10, by go_num, by omega, hL.node hkw own7 F7 nb7, (bx.fr F7 hx5).fr G (by simp; omega), by
                  rw [hln]
                  intro e
                  rcases nb7 with e' | ⟨g, e', hg⟩
                  · exact hx5 (e'.symm.trans e)
                  · rw [e'] at e; injection e with e; omega, by unfold Hid; rw [HN.out, List.foldl_cons]; congr 1; unfold addN; rw [if_neg (by rw [← HHV.out]; simp)], by rw [hln]; omega⟩
              case measure => simp [intOf]; omega
          · obtain rfl : q = nX.length := by omega
            have HN2 : Hid (nX.foldl addN n' = n2) := by unfold Hid; rw [HN.out]; simp
            have Rx := bx.cell
            clear HN
            go_wp2_with fail
            obtain ⟨wu, hwu⟩ : ∃ wu : World, wu = wr := ⟨_, rfl⟩
            subst hwu
            clear Rx bx hlx hx5
            go_loopw [50, 12] (fun s50 s12 wx => ∃ (q : Nat) (i2 : List Tr) (A10 : Option Addr) (c10 : Nat) (cs2 : List Value), s50 = .int .i64 (q : Int) ∧ q ≤ iX.length ∧ DisI E w1 w (.slice A5 n.length c5) (.slice (some ⟨b, off, none⟩) i.length c6) thr n2 i2 A9 c9 A10 c10 cs2 wx ∧ Hid (iX.foldl withT i' = (iX.drop q).foldl withT i2) ∧ wgt i2 + wgt (iX.drop q) ≤ wgt i' + wgt iX) (fun s50 _ _ => iX.length - (intOf s50).toNat)
            case atStart => exact ⟨0, i', A8, c8, cs, rfl, Nat.zero_le _, hL, by simp [Hid], by simp⟩
            case round =>
              clear hL
              obtain ⟨q, i2, A10, c10, cs2, rfl, hq, hL, HI, hib⟩ := hrel
              by_cases hlt3 : q < iX.length
              · obtain ⟨b', off', rfl, hb', hck⟩ := r4' (by omega)
                obtain ⟨x1, y1, z1, e0, e1, e2, hy1⟩ := q6.get q hlt3
                have hdq : iX.drop q = iX[q] :: iX.drop (q + 1) := List.drop_eq_getElem_cons hlt3
                rw [hdq] at HI hib
                rw [wgt_cons] at hib
                generalize iX[q] = y at *
                obtain ⟨ty, B1, m1, v1, B2, m2, v2, hsh⟩ := hy1.shape
                simp only [Value.agg.injEq, Array.mk.injEq, List.cons.injEq, and_true] at hsh
                obtain ⟨rfl, rfl, rfl⟩ := hsh
                have g0 := hL.f.keep (hck _ _ e0) (fun e => hb'.2.2.1 e.symm)
                have g1 := hL.f.keep (hck _ _ e1) (fun e => hb'.2.2.1 e.symm)
                have g2 := hL.f.keep (hck _ _ e2) (fun e => hb'.2.2.1 e.symm)
                rw [← Nat.add_assoc] at g1 g2
                clear e0 e1 e2 hck hdq
                go_wp2_with fail
                generalize hW : wr.alloc _ = ws
                have Fs : Fr none wr ws := hW ▸ (Fr.refl none wr).alloc _
                clear hW g0 g1 g2
                have hLs := hL.pure Fs
                have hTy := TrD.keep (do_step (v5 := .slice A5 n.length c5) (v6 := .slice (some ⟨b, off, none⟩) i.length c6) (E := E) (w1 := w1) (Nat.le_refl _) hLs.f (fun g e => .inl e)) _ _ hy1
                refine (hLs.addC (t := y) hTy (by unfold wgt at hbd hib; omega)).mono ?_
                rintro e w4 ⟨u, rfl, A11, c11, cs', h4⟩
                go_wp2_with fail
                go_roundw
                case rel =>
                  have hw := wgt_withT i2 y
                  exact ⟨q + 1, withT i2 y, A11, c11, cs', by go_num, by omega, h4, by unfold Hid; rw [HI.out, List.foldl_cons], by omega⟩
                case measure => simp [intOf]; omega
              · obtain rfl : q = iX.length := by omega
                have HI2 : Hid (iX.foldl withT i' = i2) := by unfold Hid; rw [HI.out]; simp
                have hw0 : wgt ([] : List Tr) = 0 := by simp [wgt, sizeL]
                rw [List.drop_length, hw0] at hib
                clear hw0 HI
                go_wp2_with fail
                go_roundw
                case rel => exact ⟨j + 1, n2, i2, A9, c9, A10, c10, cs2, by go_num, by omega, hL, by unfold Hid; rw [HJ.out, List.foldl_cons]; congr 1; unfold mergeS; rw [if_pos HT.out.symm]; exact Prod.ext HN2.out HI2.out, by omega⟩
                case measure => simp [intOf]; omega
    · obtain rfl : j = i.length := by omega
      have HF : Hid (mergeL false (n, i) = (n', i')) := by unfold Hid mergeL; rw [HJ.out]; simp
      have hl2 := hL.end_
      have tb := hL.tb
      have RB := tb.cell
      have ZB := tb.free
      have hBlt := blk_lt tb
      have bz := hL.bz
      have Rz := bz.cell
      have Zz := bz.free
      have hlz := blk_lt bz
      have bo := blk_cell hL.box
      have hlb := blk_lt hL.box
      clear HJ
      go_wp2_with fail
      refine bodyPost_ret (v := .agg #[.int .i64 thr, .slice A7 n'.length c7, .slice A8 i'.length c8]) (by simp [results, Tryz.results134, go_sem, RB, Rz]) rfl ?_
      rw [HF.out]
      exact hl2
set_option maxRecDepth 100000 in
set_option maxHeartbeats 4000000 in
theorem dissAll_any (E : Nat → Prop) (thr : Int) (n : List Int) (i : List Tr) (A5 : Option Addr) (c5 : Nat) (A6 : Option Addr) (c6 : Nat) (cells : List Value) (w1 w : World) (h : OwI E w1 n i A5 c5 A6 c6 cells w) (hsz : n.length + wgt i ≤ 900000) :
    Calls Tryz.prog 134 #[.agg #[.int .i64 thr, .slice A5 n.length c5, .slice A6 i.length c6], .func (.func 135) #[] #[]] w (RowsP E thr (mergeL true (n, i)) w1 w (.slice A5 n.length c5)) := by
  obtain ⟨Y2, mm, d2, e2, r1, r2, r3, r4⟩ := SlD.own_eq h.own6
  injection e2 with a1 a2 a3
  subst a1 a2 a3
  unfold maxLen at r3
  have hil0 : i.length ≤ 900000 := by unfold wgt at hsz; omega
  have hz0 := h.fr.size
  have HO := Lib.hid h
  clear h r1
  go_enter Tryz.func134, Tryz.ntmps134
  go_wp2_with fail
  generalize hW : ((w.alloc _).alloc _).alloc _ = w0
  have F0 : Fr none w w0 := hW ▸ (((Fr.refl none w).alloc _).alloc _).alloc _
  have hL0 := HO.out.dis0 F0 (thr := thr) (by rw [← hW]; exact (Below.heap_alloc _ _ _ (by simp; omega)).trans ((Below.heap_alloc _ _ _ (by simp)).trans (blk_new _ _))) (by rw [← hW]; exact (Below.heap_alloc _ _ _ (by simp)).trans (blk_new_at (by simp) _)) (by rw [← hW]; exact blk_new_at (by simp) _)
  clear hW F0
  obtain ⟨wo, hwo⟩ : ∃ wo : World, wo = w0 := ⟨_, rfl⟩
  subst hwo
  go_loopw [17, 8, 10, 12] (fun s17 s8 s10 s12 wr => ∃ (j : Nat) (n' : List Int) (i' : List Tr) (A7 : Option Addr) (c7 : Nat) (A8 : Option Addr) (c8 : Nat) (cs : List Value), s17 = .int .i64 (j : Int) ∧ j ≤ i.length ∧ DisI E w1 w (.slice A5 n.length c5) (.slice A6 i.length c6) thr n' i' A7 c7 A8 c8 cs wr ∧
    Hid (i.foldl (mergeS true) (n, []) = (i.drop j).foldl (mergeS true) (n', i')) ∧ n'.length + wgt i' + wgt (i.drop j) ≤ 900000) (fun s17 _ _ _ _ => i.length - (intOf s17).toNat)
  case atStart => exact ⟨0, n, [], A5, c5, none, 0, [], rfl, Nat.zero_le _, hL0, by simp [Hid], by simp [wgt, sizeL] at hsz ⊢; omega⟩
  case round =>
    clear hL0
    obtain ⟨j, n', i', A7, c7, A8, c8, cs, rfl, hj, hL, HJ, hbd⟩ := hrel
    by_cases hlt : j < i.length
    · have hdj : i.drop j = i[j] :: i.drop (j + 1) := List.drop_eq_getElem_cons hlt
      obtain ⟨b, off, rfl, hb, hcc⟩ := r4 (by omega)
      obtain ⟨x0, y0, z0, e0, e1, e2, hy0⟩ := HO.out.trs.get j hlt
      have hdis : (Value.slice A5 n.length c5).ownBlock ≠ some b := fun e => HO.out.dis _ e hb.1
      rw [hdj] at HJ hbd
      rw [wgt_cons] at hbd
      generalize i[j] = x at *
      obtain ⟨tX, nX, iX⟩ := x
      rw [size_mk] at hbd
      have hyd := hy0
      simp only [TrD] at hy0
      obtain ⟨vnx, vix, cx, hsh, k0, q1, q2, q3, q4, q5, q6⟩ := hy0
      simp only [Value.agg.injEq, Array.mk.injEq, List.cons.injEq, and_true] at hsh
      obtain ⟨hsh0, hsh1, hsh2⟩ := hsh
      subst hsh0 hsh1 hsh2
      obtain ⟨X1, m1, k1, rfl, l1, l2, l3, l4⟩ := id q1
      obtain ⟨X2, m2, k2, rfl, r1', r2', r3', r4'⟩ := id q3
      have hlen := q6.len
      obtain rfl : m2 = iX.length := by omega
      obtain rfl : m1 = nX.length := by simpa using l1.symm
      unfold Few at q4 q5
      unfold maxLen at l3 r3'
      have g0 := hL.f.keep (hcc _ _ e0) (Ne.symm hdis)
      have g1 := hL.f.keep (hcc _ _ e1) (Ne.symm hdis)
      have g2 := hL.f.keep (hcc _ _ e2) (Ne.symm hdis)
      rw [← Nat.add_assoc] at g1 g2
      have HDS := Lib.hid hdis
      clear e0 e1 e2 hcc hdj hdis r1' l1 hlen
      go_upto_region 6 with (fail)
      generalize hW : wr.alloc _ = wx
      have Fx : Fr none wr wx := hW ▸ (Fr.refl none wr).alloc _
      have bx : TB wx wr.heap.size (.int .i64 tX) (.slice X1 nX.length k1) (.slice X2 iX.length k2) := by rw [← hW]; exact blk_new _ _
      clear hW g0 g1 g2
      have hLx := hL.pure Fx
      have hTx := TrD.keep (do_step (v5 := .slice A5 n.length c5) (v6 := .slice (some ⟨b, off, none⟩) i.length c6) (E := E) (w1 := w1) (Nat.le_refl _) hLx.f (fun g e => .inl e)) _ _ hyd
      have hlx := blk_lt bx
      have Rx := bx.cell
      have hx5 : (Value.slice A7 n'.length c7).ownBlock ≠ some wr.heap.size := fun e => by have := (hL.own5.lt _ e).2; omega
      have hx6 : (Value.slice A8 i'.length c8).ownBlock ≠ some wr.heap.size := fun e => by have := (hL.own6.lt _ e).2; omega
      have hx2 : w.heap.size + 1 + 1 < wr.heap.size := blk_lt hL.box
      clear hL
      obtain ⟨T, hT⟩ : ∃ T, T = tak true (.mk tX nX iX) := ⟨_, rfl⟩
      have HT := Lib.hid hT
      go_wp2_with fail
      refine (allOf_any (.mk tX nX iX) _ _ _ (fun q hq => by have := hq.2.1; have := hLx.f.size; omega) hTx).mono ?_
      rintro e w3 ⟨rfl, F3⟩
      rw [← hT]
      have hL3 := hLx.pure F3
      have b3 := bx.fr F3 (by simp)
      have hT3 := TrD.keep (do_step (v5 := .slice A5 n.length c5) (v6 := .slice (some ⟨b, off, none⟩) i.length c6) (E := E) (w1 := w1) hLx.f.size F3 (by simp)) _ _ hTx
      have R3 := b3.cell
      have hl3 := blk_lt b3
      have hnl : n'.length ≤ 900000 := by omega
      have hil : i'.length ≤ 900000 := by unfold wgt at hbd; omega
      have hz3 := F3.size
      clear hT Rx bx hLx hTx hlx
      cases T with
      | false =>
        go_wp2_with fail
        refine (hL3.addC (t := .mk tX nX iX) hT3 hil).mono ?_
        rintro e w4 ⟨u, rfl, A9, c9, cs', h4⟩
        go_wp2_with fail
        go_roundw
        case rel =>
          have hw := wgt_withT i' (.mk tX nX iX)
          rw [size_mk] at hw
          exact ⟨j + 1, n', withT i' (.mk tX nX iX), A7, c7, A9, c9, cs', by go_num, by omega, h4, by unfold Hid; rw [HJ.out, List.foldl_cons]; congr 1; unfold mergeS; rw [if_neg (by rw [← HT.out]; simp)], by omega⟩
        case measure => simp [intOf]; omega
      | true =>
        obtain ⟨wv, hwv⟩ : ∃ wv : World, wv = wr := ⟨_, rfl⟩
        subst hwv
        go_wp2_with fail
        go_loopw [31, 10] (fun s31 s10 wx => ∃ (q : Nat) (n2 : List Int) (A9 : Option Addr) (c9 : Nat), s31 = .int .i64 (q : Int) ∧ q ≤ nX.length ∧ DisI E w1 w (.slice A5 n.length c5) (.slice (some ⟨b, off, none⟩) i.length c6) thr n2 i' A9 c9 A8 c8 cs wx ∧ TB wx wv.heap.size (.int .i64 tX) (.slice X1 nX.length k1) (.slice X2 iX.length k2) ∧ (Value.slice A9 n2.length c9).ownBlock ≠ some wv.heap.size ∧
          Hid (nX.foldl addN n' = (nX.drop q).foldl addN n2) ∧ n2.length ≤ n'.length + q) (fun s31 _ _ => nX.length - (intOf s31).toNat)
        case atStart => exact ⟨0, n', A7, c7, rfl, Nat.zero_le _, hL3, b3, hx5, by simp [Hid], by omega⟩
        case round =>
          clear hL3 b3 hx5 R3 hl3
          obtain ⟨q, n2, A9, c9, rfl, hq, hL, bx, hx5, HN, hnb⟩ := hrel
          have hlx := blk_lt bx
          by_cases hlt2 : q < nX.length
          · obtain ⟨bb, oo, rfl, hbb, hcy⟩ := l4 (by omega)
            have hcx := hL.f.keep (hcy q (.int .i64 nX[q]) (by simp [hlt2])) (fun e => hbb.2.2.1 e.symm)
            have hdq : nX.drop q = nX[q] :: nX.drop (q + 1) := List.drop_eq_getElem_cons hlt2
            have hkw : Wi nX[q] := q2 _ (List.getElem_mem _)
            rw [hdq] at HN
            generalize nX[q] = y at *
            have tb := hL.tb
            have RB := tb.cell
            have ZB := tb.free
            have hBlt := blk_lt tb
            have own5 := hL.own5
            have ne5 : (Value.slice A9 n2.length c9).ownBlock ≠ some w.heap.size := fun e => (hL.e5 _ e).1 rfl
            have hzz := hL.fr.size
            have hl5 : SlI wr none (.slice A9 n2.length c9) n2 := SlI.of_own own5 (by simp) hL.wi
            obtain ⟨hv, hhv⟩ : ∃ hv, hv = n2.any (fun x => decide (x = y)) := ⟨_, rfl⟩
            have HHV := Lib.hid hhv
            clear hcy hdq hhv
            cases hv with
            | true =>
              go_wp2_with (go_at_call 178; refine (contains_any n2 y _ _ none hl5).mono ?_; rintro e w' ⟨rfl, rfl⟩; rw [← HHV.out])
              go_roundw
              case rel =>
                exact ⟨q + 1, n2, A9, c9, by go_num, by omega, hL, bx, hx5, by unfold Hid; rw [HN.out, List.foldl_cons]; congr 1; unfold addN; rw [if_pos HHV.out.symm], by omega⟩
              case measure => simp [intOf]; omega
            | false =>
              go_wp2_with (first | (go_at_call 178; refine (contains_any n2 y _ _ none hl5).mono ?_; rintro e w' ⟨rfl, rfl⟩; rw [← HHV.out]) | (at_builtin; refine app_lit eiInt rfl _ _ rfl w1.heap.size A9 n2.length c9 _ rfl own5 1 [.int .i64 y] _ _ rfl (by simp) rfl (by simp [Value.oneCell']) (by omega) (by unfold maxLen; omega) (by omega) ?_; intro A10 c10 w7 own7 F7 nb7; have K7 := tb.fr F7 ne5; have R7 := K7.cell; have Z7 := K7.free))
              have G := Fr.set1 w7 ⟨w.heap.size, 1, none⟩ (.slice A10 (n2.length + 1) c10)
              go_roundw
              case rel =>
                have hln : (n2 ++ [y]).length = n2.length + 1 := by simp
                exact ⟨q + 1, n2 ++ [y], A10, c10, by go_num, by omega, hL.node hkw own7 F7 nb7, (bx.fr F7 hx5).fr G (by simp; omega), by
                  rw [hln]
                  intro e
                  rcases nb7 with e' | ⟨g, e', hg⟩
                  · exact hx5 (e'.symm.trans e)
                  · rw [e'] at e; injection e with e; omega, by unfold Hid; rw [HN.out, List.foldl_cons]; congr 1; unfold addN; rw [if_neg (by rw [← HHV.out]; simp)], by rw [hln]; omega⟩
              case measure => simp [intOf]; omega
          · obtain rfl : q = nX.length := by omega
            have HN2 : Hid (nX.foldl addN n' = n2) := by unfold Hid; rw [HN.out]; simp
            have Rx := bx.cell
            clear HN
            go_wp2_with fail
            obtain ⟨wu, hwu⟩ : ∃ wu : World, wu = wr := ⟨_, rfl⟩
            subst hwu
            clear Rx bx hlx hx5
            go_loopw [50, 12] (fun s50 s12 wx => ∃ (q : Nat) (i2 : List Tr) (A10 : Option Addr) (c10 : Nat) (cs2 : List Value), s50 = .int .i64 (q : Int) ∧ q ≤ iX.length ∧ DisI E w1 w (.slice A5 n.length c5) (.slice (some ⟨b, off, none⟩) i.length c6) thr n2 i2 A9 c9 A10 c10 cs2 wx ∧ Hid (iX.foldl withT i' = (iX.drop q).foldl withT i2) ∧ wgt i2 + wgt (iX.drop q) ≤ wgt i' + wgt iX) (fun s50 _ _ => iX.length - (intOf s50).toNat)
            case atStart => exact ⟨0, i', A8, c8, cs, rfl, Nat.zero_le _, hL, by simp [Hid], by simp⟩
            case round =>
              clear hL
              obtain ⟨q, i2, A10, c10, cs2, rfl, hq, hL, HI, hib⟩ := hrel
              by_cases hlt3 : q < iX.length
              · obtain ⟨b', off', rfl, hb', hck⟩ := r4' (by omega)
                obtain ⟨x1, y1, z1, e0, e1, e2, hy1⟩ := q6.get q hlt3
                have hdq : iX.drop q = iX[q] :: iX.drop (q + 1) := List.drop_eq_getElem_cons hlt3
                rw [hdq] at HI hib
                rw [wgt_cons] at hib
                generalize iX[q] = y at *
                obtain ⟨ty, B1, m1, v1, B2, m2, v2, hsh⟩ := hy1.shape
                simp only [Value.agg.injEq, Array.mk.injEq, List.cons.injEq, and_true] at hsh
                obtain ⟨rfl, rfl, rfl⟩ := hsh
                have g0 := hL.f.keep (hck _ _ e0) (fun e => hb'.2.2.1 e.symm)
                have g1 := hL.f.keep (hck _ _ e1) (fun e => hb'.2.2.1 e.symm)
                have g2 := hL.f.keep (hck _ _ e2) (fun e => hb'.2.2.1 e.symm)
                rw [← Nat.add_assoc] at g1 g2
                clear e0 e1 e2 hck hdq
                go_wp2_with fail
                generalize hW : wr.alloc _ = ws
                have Fs : Fr none wr ws := hW ▸ (Fr.refl none wr).alloc _
                clear hW g0 g1 g2
                have hLs := hL.pure Fs
                have hTy := TrD.keep (do_step (v5 := .slice A5 n.length c5) (v6 := .slice (some ⟨b, off, none⟩) i.length c6) (E := E) (w1 := w1) (Nat.le_refl _) hLs.f (fun g e => .inl e)) _ _ hy1
                refine (hLs.addC (t := y) hTy (by unfold wgt at hbd hib; omega)).mono ?_
                rintro e w4 ⟨u, rfl, A11, c11, cs', h4⟩
                go_wp2_with fail
                go_roundw
                case rel =>
                  have hw := wgt_withT i2 y
                  exact ⟨q + 1, withT i2 y, A11, c11, cs', by go_num, by omega, h4, by unfold Hid; rw [HI.out, List.foldl_cons], by omega⟩
                case measure => simp [intOf]; omega
              · obtain rfl : q = iX.length := by omega
                have HI2 : Hid (iX.foldl withT i' = i2) := by unfold Hid; rw [HI.out]; simp
                have hw0 : wgt ([] : List Tr) = 0 := by simp [wgt, sizeL]
                rw [List.drop_length, hw0] at hib
                clear hw0 HI
                go_wp2_with fail
                go_roundw
                case rel => exact ⟨j + 1, n2, i2, A9, c9, A10, c10, cs2, by go_num, by omega, hL, by unfold Hid; rw [HJ.out, List.foldl_cons]; congr 1; unfold mergeS; rw [if_pos HT.out.symm]; exact Prod.ext HN2.out HI2.out, by omega⟩
                case measure => simp [intOf]; omega
    · obtain rfl : j = i.length := by omega
      have HF : Hid (mergeL true (n, i) = (n', i')) := by unfold Hid mergeL; rw [HJ.out]; simp
      have hl2 := hL.end_
      have tb := hL.tb
      have RB := tb.cell
      have ZB := tb.free
      have hBlt := blk_lt tb
      have bz := hL.bz
      have Rz := bz.cell
      have Zz := bz.free
      have hlz := blk_lt bz
      have bo := blk_cell hL.box
      have hlb := blk_lt hL.box
      clear HJ
      go_wp2_with fail
      refine bodyPost_ret (v := .agg #[.int .i64 thr, .slice A7 n'.length c7, .slice A8 i'.length c8]) (by simp [results, Tryz.results134, go_sem, RB, Rz]) rfl ?_
      rw [HF.out]
      exact hl2
end Go.Proofs.YtpdhckbiioobhaaGreatDoor

/- Bits of Go's int, plain. -/
namespace Go.Proofs.YtpdhckbiioobhaaGreatDoor
open Go.RowKit

theorem toNat_i64 (a : Nat) (ha : a < 9223372036854775808) : (BitVec.ofInt 64 (a : Int)).toNat = a := by
  rw [BitVec.ofInt_natCast, BitVec.toNat_ofNat]; exact Nat.mod_eq_of_lt (by omega)
theorem and_i64 (a b : Nat) (ha : a < 9223372036854775808) (hb : b < 9223372036854775808) : bits .and .i64 (a : Int) (b : Int) = ((a &&& b : Nat) : Int) := by
  have hx : a &&& b < 2 ^ 63 := Nat.and_lt_two_pow _ (by omega)
  show IntKind.i64.wrap ((BitVec.ofInt 64 (a : Int) &&& BitVec.ofInt 64 (b : Int)).toNat : Int) = _
  rw [BitVec.toNat_and, toNat_i64 a ha, toNat_i64 b hb, IntKind.wrap_i64]
  omega
theorem or_i64 (a b : Nat) (ha : a < 9223372036854775808) (hb : b < 9223372036854775808) : bits .or .i64 (a : Int) (b : Int) = ((a ||| b : Nat) : Int) := by
  have hx : a ||| b < 2 ^ 63 := Nat.or_lt_two_pow (by omega) (by omega)
  show IntKind.i64.wrap ((BitVec.ofInt 64 (a : Int) ||| BitVec.ofInt 64 (b : Int)).toNat : Int) = _
  rw [BitVec.toNat_or, toNat_i64 a ha, toNat_i64 b hb, IntKind.wrap_i64]
  omega
theorem pow2_lt (j : Nat) (hj : j < 62) : 2 ^ j < 4611686018427387904 := by
  have := Nat.pow_lt_pow_right (a := 2) (by omega) hj
  simpa using this
theorem wrap_pow (j : Nat) (hj : j < 62) : wrap64 ((2 : Int) ^ j) = ((2 ^ j : Nat) : Int) := by
  have h := pow2_lt j hj
  have e : (2 : Int) ^ j = ((2 ^ j : Nat) : Int) := by simp
  rw [e]
  generalize 2 ^ j = x at *
  exact IntWalk.wrap64_in _ ⟨by omega, by omega⟩
theorem wrapI (n : Int) : IntKind.i64.wrap n = wrap64 n := by unfold wrap64; exact IntKind.wrap_i64 n
theorem and_pow (m j : Nat) : m &&& 2 ^ j = if m.testBit j then 2 ^ j else 0 := by
  apply Nat.eq_of_testBit_eq
  intro i
  rw [Nat.testBit_and, Nat.testBit_two_pow]
  by_cases h : j = i
  · subst h
    cases hb : m.testBit j <;> simp
  · cases hb : m.testBit j <;> simp [h]
theorem and_pow_ne (m j : Nat) : ((((m &&& 2 ^ j : Nat) : Int)) != 0) = m.testBit j := by
  rw [and_pow]
  have : 0 < 2 ^ j := Nat.two_pow_pos j
  cases h : m.testBit j
  · simp
  · rw [bne_iff_ne.2]
    simp only [if_true]
    omega
/-- s & (1 << j) != 0 -/
theorem bit_test (m j : Nat) (hm : m < 9223372036854775808) (hj : j < 62) : (bits .and .i64 (m : Int) (wrap64 (2 ^ j)) != 0) = m.testBit j := by
  rw [wrap_pow j hj, and_i64 m (2 ^ j) hm (by have := pow2_lt j hj; omega)]
  exact and_pow_ne m j
/-- s >> j & 1 == 1 -/
theorem shr_test (m j : Nat) (hm : m < 9223372036854775808) : (bits .and .i64 ((m : Int) / 2 ^ j) 1 == 1) = m.testBit j := by
  have e : ((m : Int) / 2 ^ j) = ((m / 2 ^ j : Nat) : Int) := by simp
  have hd : m / 2 ^ j ≤ m := Nat.div_le_self _ _
  rw [e]
  have h1 := and_i64 (m / 2 ^ j) 1 (by omega) (by omega)
  have h2 : ((1 : Nat) : Int) = 1 := rfl
  rw [h2] at h1
  rw [h1, Nat.testBit_eq_decide_div_mod_eq, Nat.and_one_is_mod]
  generalize m / 2 ^ j % 2 = x
  rw [Bool.eq_iff_iff]
  simp
  omega
end Go.Proofs.YtpdhckbiioobhaaGreatDoor

/- Walks: nodeset.below, Valid, Has; the reference's Valid, Has. -/
namespace Go.Proofs.YtpdhckbiioobhaaGreatDoor
open Go.RowKit

theorem below10_any (s : Int) (w : World) : Calls Tryz.prog 204 #[.int .i64 s, .int .i64 10] w fun e w' => e = .returned (.bool (validB s)) ∧ w = w' := by
  go_enter Tryz.func204, Tryz.ntmps204
  go_wp2
  all_goals
    go_ret
    exact ⟨ret_bool (by simp only [validB]; by_cases h1 : 0 ≤ s <;> by_cases h2 : s ≤ 1023 <;> simp [h1, h2] <;> omega), rfl⟩

theorem valid_any (s : Int) (w : World) : Calls Tryz.prog 161 #[.int .i64 s] w fun e w' => e = .returned (.bool (validB s)) ∧ w = w' := by
  go_enter Tryz.func161, Tryz.ntmps161
  go_wp2_with (go_at_call 204; refine (below10_any _ _).mono ?_; rintro e w' ⟨rfl, rfl⟩)
  go_ret
  exact ⟨rfl, rfl⟩

theorem rvalid_any (s : Int) (w : World) : Calls Tryz.prog 84 #[.int .i64 s] w fun e w' => e = .returned (.bool (validB s)) ∧ w = w' := by
  go_enter Tryz.func84, Tryz.ntmps84
  go_wp2
  all_goals
    go_ret
    exact ⟨ret_bool (by simp only [validB]; by_cases h1 : 0 ≤ s <;> by_cases h2 : s ≤ 1023 <;> simp [h1, h2] <;> omega), rfl⟩

theorem has_any (s k : Int) (w : World) : Calls Tryz.prog 106 #[.int .i64 s, .int .i64 k] w fun e w' => e = .returned (.bool (hasB s k)) ∧ w = w' := by
  by_cases hv : validB s = true
  · by_cases hk : 0 ≤ k ∧ k < 10
    · have hs : 0 ≤ s ∧ s ≤ 1023 := by simpa [validB] using hv
      obtain ⟨hk0, hk1⟩ := hk
      obtain ⟨hs0, hs1⟩ := hs
      obtain ⟨m, rfl⟩ := Int.eq_ofNat_of_zero_le hs0
      obtain ⟨j, rfl⟩ := Int.eq_ofNat_of_zero_le hk0
      have H := Lib.hid hv
      clear hv
      go_enter Tryz.func106, Tryz.ntmps106
      go_wp2_with (go_at_call 161; refine (valid_any _ _).mono ?_; rintro e w' ⟨rfl, rfl⟩; rw [H.out])
      go_ret
      refine ⟨ret_bool ((bit_test m j (by omega) (by omega)).trans ?_), rfl⟩
      simp [hasB, H.out, hk0, hk1]
    · have hb : hasB s k = false := by simp only [hasB, hv, decide_eq_false hk]; rfl
      have H := Lib.hid hb
      clear hb
      go_enter Tryz.func106, Tryz.ntmps106
      go_wp2_with (go_at_call 161; refine (valid_any _ _).mono ?_; rintro e w' ⟨rfl, rfl⟩)
      all_goals (go_ret; exact ⟨ret_bool H.out.symm, rfl⟩)
  · have hb : hasB s k = false := by simp [hasB, hv]
    have H := Lib.hid hb
    clear hb
    go_enter Tryz.func106, Tryz.ntmps106
    go_wp2_with (go_at_call 161; refine (valid_any _ _).mono ?_; rintro e w' ⟨rfl, rfl⟩)
    all_goals (go_ret; exact ⟨ret_bool H.out.symm, rfl⟩)

theorem rhas_any (s k : Int) (w : World) : Calls Tryz.prog 85 #[.int .i64 s, .int .i64 k] w fun e w' => e = .returned (.bool (hasB s k)) ∧ w = w' := by
  by_cases hv : validB s = true
  · by_cases hk : 0 ≤ k ∧ k < 10
    · have hs : 0 ≤ s ∧ s ≤ 1023 := by simpa [validB] using hv
      obtain ⟨hk0, hk1⟩ := hk
      obtain ⟨hs0, hs1⟩ := hs
      obtain ⟨m, rfl⟩ := Int.eq_ofNat_of_zero_le hs0
      obtain ⟨j, rfl⟩ := Int.eq_ofNat_of_zero_le hk0
      have H := Lib.hid hv
      clear hv
      go_enter Tryz.func85, Tryz.ntmps85
      go_wp2_with (go_at_call 84; refine (rvalid_any _ _).mono ?_; rintro e w' ⟨rfl, rfl⟩; rw [H.out])
      go_ret
      refine ⟨ret_bool ((shr_test m j (by omega)).trans ?_), rfl⟩
      simp [hasB, H.out, hk0, hk1]
    · have hb : hasB s k = false := by simp only [hasB, hv, decide_eq_false hk]; rfl
      have H := Lib.hid hb
      clear hb
      go_enter Tryz.func85, Tryz.ntmps85
      go_wp2_with (go_at_call 84; refine (rvalid_any _ _).mono ?_; rintro e w' ⟨rfl, rfl⟩)
      all_goals (go_ret; exact ⟨ret_bool H.out.symm, rfl⟩)
  · have hb : hasB s k = false := by simp [hasB, hv]
    have H := Lib.hid hb
    clear hb
    go_enter Tryz.func85, Tryz.ntmps85
    go_wp2_with (go_at_call 84; refine (rvalid_any _ _).mono ?_; rintro e w' ⟨rfl, rfl⟩)
    all_goals (go_ret; exact ⟨ret_bool H.out.symm, rfl⟩)

end Go.Proofs.YtpdhckbiioobhaaGreatDoor

/- Walks: nodeset.below at every n, OnesCount at a set, Size, rank, cmp.Compare, cmp.Or, Compare; the reference's Size, Compare. -/
namespace Go.Proofs.YtpdhckbiioobhaaGreatDoor
open Go.RowKit

/-- The number of bits below k. -/
def popB (m : Nat) : Nat → Nat
  | 0 => 0
  | k + 1 => popB m k + (if m.testBit k then 1 else 0)
theorem popB_le (m : Nat) : ∀ k, popB m k ≤ k
  | 0 => by simp [popB]
  | k + 1 => by have := popB_le m k; simp only [popB]; split <;> omega
/-- The number of nodes of a set; 0 at what is none. -/
def sizS (s : Int) : Nat := if validB s then popB s.toNat 10 else 0
theorem sizS_le (s : Int) : sizS s ≤ 10 := by
  unfold sizS; split
  · exact popB_le _ _
  · omega
/-- s is a set of nodes below n. -/
def belB (s n : Int) : Bool := decide (0 ≤ s ∧ s < 2 ^ n.toNat)
def rankI (s : Int) : Int := if validB s then sizS s else -1
def cmpI (a b : Int) : Int := if a < b then -1 else if b < a then 1 else 0
/-- The order of sets. -/
def cmpS (a b : Int) : Int := if cmpI (rankI a) (rankI b) = 0 then cmpI a b else cmpI (rankI a) (rankI b)

theorem below_any (s : Int) (n : Nat) (hn : n ≤ 10) (w : World) : Calls Tryz.prog 204 #[.int .i64 s, .int .i64 n] w fun e w' => e = .returned (.bool (belB s n)) ∧ w = w' := by
  go_enter Tryz.func204, Tryz.ntmps204
  go_wp2
  all_goals
    go_ret
    refine ⟨ret_bool ?_, rfl⟩
    try rw [wrap_pow n (by omega)]
    simp only [belB, Int.toNat_natCast]
    try simp [*]
    try omega

def c1 (x : Int) : Int := IntKind.u64.wrap (bits .and .u64 (x / 2) 6148914691236517205 + bits .and .u64 x 6148914691236517205)
def c2 (x : Int) : Int := IntKind.u64.wrap (bits .and .u64 (x / 4) 3689348814741910323 + bits .and .u64 x 3689348814741910323)
def c3 (x : Int) : Int := bits .and .u64 (IntKind.u64.wrap (x / 16 + x)) 1085102592571150095
def c4 (x : Int) : Int := IntKind.u64.wrap (x + x / 256)
def c5 (x : Int) : Int := IntKind.u64.wrap (x + x / 65536)
def c6 (x : Int) : Int := IntKind.u64.wrap (x + x / 4294967296)
theorem pop64 : ∀ m : Fin 1024, bits .and .i64 (wrap64 (c6 (c5 (c4 (c3 (c2 (c1 (m.val : Int)))))))) 127 = (popB m.val 10 : Int) := by decide +kernel

theorem isNaN_any (a : Int) (w : World) : Calls Tryz.prog 140 #[.int .i64 a] w fun e w' => e = .returned (.bool false) ∧ w = w' := by
  go_enter Tryz.func140, Tryz.ntmps140
  go_wp2_with fail
  go_ret
  exact ⟨ret_bool (by simp), rfl⟩
theorem cmpCompare_any (a b : Int) (w : World) : Calls Tryz.prog 91 #[.int .i64 a, .int .i64 b] w fun e w' => e = .returned (.int .i64 (cmpI a b)) ∧ w = w' := by
  rcases Int.lt_trichotomy a b with h | h | h
  · have e1 : cmpI a b = -1 := by simp [cmpI, h]
    have E := Lib.hid e1
    clear e1
    go_enter Tryz.func91, Tryz.ntmps91
    go_wp2_with (go_at_call 140; refine (isNaN_any _ _).mono ?_; rintro e w' ⟨rfl, rfl⟩)
    all_goals (go_ret; exact ⟨ret_int (by rw [E.out]), rfl⟩)
  · subst h
    have e1 : cmpI a a = 0 := by simp [cmpI]
    have E := Lib.hid e1
    clear e1
    go_enter Tryz.func91, Tryz.ntmps91
    go_wp2_with (go_at_call 140; refine (isNaN_any _ _).mono ?_; rintro e w' ⟨rfl, rfl⟩)
    all_goals (go_ret; exact ⟨ret_int (by rw [E.out]), rfl⟩)
  · have e1 : cmpI a b = 1 := by simp [cmpI, h]; omega
    have h2 : ¬ a < b := by omega
    have E := Lib.hid e1
    clear e1
    go_enter Tryz.func91, Tryz.ntmps91
    go_wp2_with (go_at_call 140; refine (isNaN_any _ _).mono ?_; rintro e w' ⟨rfl, rfl⟩)
    all_goals (go_ret; exact ⟨ret_int (by rw [E.out]), rfl⟩)

end Go.Proofs.YtpdhckbiioobhaaGreatDoor

/- Walks: cmp.Or, nodeset.Compare, Next; the reference's Size, Compare. -/
namespace Go.Proofs.YtpdhckbiioobhaaGreatDoor
open Go.RowKit

/-- The first that is not 0, or 0. -/
def orL : List Int → Int
  | [] => 0
  | x :: r => if x = 0 then orL r else x
theorem orL_skip : ∀ (l : List Int) (k : Nat), (∀ j (hj : j < l.length), j < k → l[j] = 0) → orL l = orL (l.drop k)
  | l, 0, _ => by simp
  | [], k + 1, _ => by simp
  | x :: r, k + 1, h => by
    have h0 := h 0 (by simp) (by omega)
    simp only [List.getElem_cons_zero] at h0
    simp only [orL, h0, List.drop_succ_cons]
    exact orL_skip r k fun j hj hk => by
      have := h (j + 1) (by simpa using hj) (by omega)
      simpa only [List.getElem_cons_succ] using this

set_option maxRecDepth 100000 in
theorem or_any (l : List Int) (v : Value) (w : World) (r : Option Nat) (h : SlI w r v l) : Calls Tryz.prog 90 #[v] w fun e w' => e = .returned (.int .i64 (orL l)) ∧ w = w' := by
  have hwi := h.2
  obtain ⟨A, c, rfl, q1, q2, hc⟩ := h.open_
  go_enter Tryz.func90, Tryz.ntmps90
  go_wp2_with fail
  go_loop [8] (fun i => ∃ k : Nat, k ≤ l.length ∧ i = .int .i64 k ∧ ∀ j (hj : j < l.length), j < k → l[j] = 0) (fun i => l.length - (intOf i).toNat)
  case atStart => exact ⟨0, Nat.zero_le _, rfl, fun j hj h => by omega⟩
  case round =>
    obtain ⟨k, hk, rfl, hno⟩ := hrel
    have HN := Lib.hid hno
    clear hno
    by_cases hlt : k < l.length
    · obtain ⟨b, off, rfl, hb, hbr, hcc⟩ := hc (by omega)
      have hck := hcc k hlt
      clear hcc hc
      by_cases hp : l[k] = 0
      · have HP := Lib.hid hp
        go_wp2_with fail
        go_round
        case rel => exact ⟨k + 1, by omega, by go_num, fun j hj h => by
          by_cases e : j = k
          · subst e; exact HP.out
          · exact HN.out j hj (by omega)⟩
        case measure => simp [intOf]; omega
      · have e1 : orL l = l[k] := by
          rw [orL_skip l k HN.out, List.drop_eq_getElem_cons hlt]
          simp [orL, hp]
        have E := Lib.hid e1
        clear e1
        go_wp2_with fail
        go_ret
        exact ⟨ret_int (by rw [E.out]), rfl⟩
    · obtain rfl : k = l.length := by omega
      have e1 : orL l = 0 := by
        rw [orL_skip l l.length HN.out, List.drop_length]
        rfl
      have E := Lib.hid e1
      clear e1
      go_wp2_with fail
      go_ret
      exact ⟨ret_int (by rw [E.out]), rfl⟩

theorem cmpI_wi (a b : Int) : Wi (cmpI a b) := by
  unfold cmpI Wi
  split
  · omega
  · split <;> omega
theorem cmpS_or (a b : Int) : orL [cmpI (rankI a) (rankI b), cmpI a b] = cmpS a b := by
  unfold cmpS
  simp only [orL]
  by_cases h : cmpI (rankI a) (rankI b) = 0
  · simp only [h, if_true]
    by_cases h2 : cmpI a b = 0 <;> simp [h2]
  · simp only [h, if_false]

/-- The first from t on, among f, of size z. -/
def srch (z : Nat) (t : Nat) : Nat → Option Nat
  | 0 => none
  | f + 1 => if sizS (t : Int) = z then some t else srch z (t + 1) f
def nextR (s n : Nat) : Nat × Bool :=
  match srch (sizS (s : Int)) (s + 1) (2 ^ n - (s + 1)) with
  | some t => (t, true)
  | none => if sizS (s : Int) = n then (0, false) else (2 ^ (sizS (s : Int) + 1) - 1, true)
theorem p10 (n : Nat) (hn : n ≤ 10) : 2 ^ n ≤ 1024 := by
  have := Nat.pow_le_pow_right (n := 2) (by omega) hn
  simpa using this
theorem belB_nat (s n : Nat) : belB (s : Int) n = decide (s < 2 ^ n) := by
  simp only [belB, Int.toNat_natCast]
  have e : ((2 : Int) ^ n) = ((2 ^ n : Nat) : Int) := by simp
  rw [decide_eq_decide, e]
  omega

/-- The reference's Size. -/
def popI (s : Int) (k : Nat) : Nat := popB s.toNat k
theorem shr_bit (m j : Nat) (hm : m < 9223372036854775808) : bits .and .i64 ((m : Int) / 2 ^ j) 1 = ((if m.testBit j then 1 else 0 : Nat) : Int) := by
  have e : ((m : Int) / 2 ^ j) = ((m / 2 ^ j : Nat) : Int) := by simp
  have hd : m / 2 ^ j ≤ m := Nat.div_le_self _ _
  rw [e]
  have h1 := and_i64 (m / 2 ^ j) 1 (by omega) (by omega)
  have h2 : ((1 : Nat) : Int) = 1 := rfl
  rw [h2] at h1
  rw [h1, Nat.testBit_eq_decide_div_mod_eq, Nat.and_one_is_mod]
  generalize m / 2 ^ j = x
  rcases Nat.mod_two_eq_zero_or_one x with h | h <;> simp [h]



end Go.Proofs.YtpdhckbiioobhaaGreatDoor

/- Walks: normal.Compare: slices.Compare at ints, slices.CompareFunc at trusts. -/
namespace Go.Proofs.YtpdhckbiioobhaaGreatDoor
open Go.RowKit

theorem cmpI_sgn (a b : Int) : cmpI a b = sgnI a b := rfl
theorem cmpNs_nil (b : List Int) : cmpNs [] b = if (0 : Int) < b.length then -1 else 0 := by
  cases b with
  | nil => simp [cmpNs]
  | cons y s => simp [cmpNs]
theorem cmpTs_nil (b : List Tr) : cmpTs [] b = if (0 : Int) < b.length then -1 else 0 := by
  cases b with
  | nil => simp [cmpTs]
  | cons y s => simp [cmpTs]
set_option maxRecDepth 100000 in
set_option maxHeartbeats 1000000 in
theorem cmpL_any (a b : List Int) (va vb : Value) (w : World) (r : Option Nat) (ha : SlI w r va a) (hb : SlI w r vb b) :
    Calls Tryz.prog 92 #[va, vb] w fun e w' => e = .returned (.int .i64 (cmpNs a b)) ∧ w = w' := by
  obtain ⟨A, c, rfl, q1, q2, hc⟩ := ha.open_
  obtain ⟨B, d, rfl, q3, q4, hd⟩ := hb.open_
  clear ha hb
  go_enter Tryz.func92, Tryz.ntmps92
  go_wp2_with fail
  go_loop [11] (fun i => ∃ k : Nat, k ≤ a.length ∧ k ≤ b.length ∧ i = .int .i64 k ∧ Hid (cmpNs a b = cmpNs (a.drop k) (b.drop k))) (fun i => a.length - (intOf i).toNat)
  case atStart => exact ⟨0, Nat.zero_le _, Nat.zero_le _, rfl, by simp [Hid]⟩
  case round =>
    obtain ⟨k, hk, hkb, rfl, HK⟩ := hrel
    by_cases hlt : k < a.length
    · obtain ⟨p, o, rfl, _, _, hcc⟩ := hc (by omega)
      have hck := hcc k hlt
      have hd1 : a.drop k = a[k] :: a.drop (k + 1) := List.drop_eq_getElem_cons hlt
      obtain ⟨x, hx⟩ : ∃ x, x = a[k] := ⟨_, rfl⟩
      rw [← hx] at hck hd1
      have HD1 := Lib.hid hd1
      clear hcc hc hx hd1
      by_cases hlb : k < b.length
      · obtain ⟨p2, o2, rfl, _, _, hdd⟩ := hd (by omega)
        have hdk := hdd k hlb
        have hd2 : b.drop k = b[k] :: b.drop (k + 1) := List.drop_eq_getElem_cons hlb
        obtain ⟨y, hy⟩ : ∃ y, y = b[k] := ⟨_, rfl⟩
        rw [← hy] at hdk hd2
        have HD2 := Lib.hid hd2
        clear hdd hd hy hd2
        obtain ⟨C, hC⟩ : ∃ C, C = sgnI x y := ⟨_, rfl⟩
        have HC := Lib.hid hC
        have HK2 : Hid (cmpNs a b = if C ≠ 0 then C else cmpNs (a.drop (k + 1)) (b.drop (k + 1))) := by unfold Hid; rw [HK.out, HD1.out, HD2.out, hC]; simp only [cmpNs]
        clear hC HK
        by_cases hc0 : C = 0
        · subst hc0
          go_wp2_with (go_at_call 91; refine (cmpCompare_any x y _).mono ?_; rintro e w' ⟨rfl, rfl⟩; rw [cmpI_sgn, ← HC.out])
          go_round
          case rel => exact ⟨k + 1, by omega, by omega, by go_num, by unfold Hid; rw [HK2.out, if_neg (by simp)]⟩
          case measure => simp [intOf]; omega
        · have hb4 : (C != 0) = true := by rw [bne_iff_ne]; exact hc0
          have HF : Hid (cmpNs a b = C) := by unfold Hid; rw [HK2.out, if_pos hc0]
          clear hc0
          go_wp2_with (go_at_call 91; refine (cmpCompare_any x y _).mono ?_; rintro e w' ⟨rfl, rfl⟩; rw [cmpI_sgn, ← HC.out])
          go_ret
          exact ⟨ret_int (by rw [HF.out]), rfl⟩
      · have HF : Hid (cmpNs a b = 1) := by
          unfold Hid
          have e0 : b.drop k = [] := List.drop_eq_nil_of_le (by omega)
          rw [HK.out, HD1.out, e0]
          simp [cmpNs]
        have hge : b.length ≤ k := by omega
        clear hlb HK
        go_wp2_with fail
        go_ret
        exact ⟨ret_int (by rw [HF.out]), rfl⟩
    · obtain rfl : k = a.length := by omega
      have HF : Hid (cmpNs a b = if a.length < b.length then -1 else 0) := by
        unfold Hid
        rw [HK.out, List.drop_length, cmpNs_nil, List.length_drop]
        by_cases h : a.length < b.length
        · rw [if_pos h, if_pos (by omega)]
        · rw [if_neg h, if_neg (by omega)]
      clear HK
      by_cases h : a.length < b.length
      · go_wp2_with fail
        go_ret
        exact ⟨ret_int (by rw [HF.out, if_pos h]), rfl⟩
      · go_wp2_with fail
        go_ret
        exact ⟨ret_int (by rw [HF.out, if_neg h]), rfl⟩

/-- What Compare does, of a trust that is not deeper than d. -/
def CmpC (d : Nat) : Prop := ∀ (a b : Tr) (va vb : Value) (w : World) (r : Option Nat), a.dep ≤ d → TrR w r va a → TrR w r vb b →
    Calls Tryz.prog 29 #[va, vb] w fun e w' => e = .returned (.int .i64 (cmpT a b)) ∧ Fr none w w' ∧ w.drawn ≤ w'.drawn
set_option maxRecDepth 100000 in
set_option maxHeartbeats 2000000 in
theorem cmpF_any (d : Nat) (ih : CmpC d) (i1 i2 : List Tr) (v1 v2 : Value) (w : World) (r : Option Nat) (hdi : depL i1 ≤ d) (h1 : TsR w r v1 i1) (h2 : TsR w r v2 i2) :
    Calls Tryz.prog 93 #[v1, v2, .func (.func 29) #[] #[]] w fun e w' => e = .returned (.int .i64 (cmpTs i1 i2)) ∧ Fr none w w' ∧ w.drawn ≤ w'.drawn := by
  have IH := Lib.hid ih
  have hrun : ∀ args w, Sem.run Tryz.prog (callFunc 29 args) w = .ok (.enter 29 args) w := fun _ _ => by kernel_rfl
  obtain ⟨A, c, rfl, a1, a2, a3, hc⟩ := h1
  obtain ⟨B, e, rfl, b1, b2, b3, kc⟩ := h2
  clear ih
  go_enter Tryz.func93, Tryz.ntmps93
  go_wp2_with fail
  go_loopw [13] (fun i wr => ∃ k : Nat, k ≤ i1.length ∧ k ≤ i2.length ∧ i = .int .i64 k ∧ Fr none w wr ∧ w.drawn ≤ wr.drawn ∧ Hid (cmpTs i1 i2 = cmpTs (i1.drop k) (i2.drop k))) (fun i _ => i1.length - (intOf i).toNat)
  case atStart => exact ⟨0, Nat.zero_le _, Nat.zero_le _, rfl, Fr.refl _ _, Nat.le_refl _, by simp [Hid]⟩
  case round =>
    obtain ⟨k, hk, hkb, rfl, F, hdr, HK⟩ := hrel
    have HDR := Lib.hid hdr
    clear hdr
    by_cases hlt : k < i1.length
    · obtain ⟨p, o, rfl, p1, p2, hcc⟩ := hc (by omega)
      obtain ⟨x, y, z, g0, g1, g2, gt⟩ := hcc k hlt
      obtain ⟨th, A1, m1, c1, A2, m2, c2, rfl, rfl, rfl⟩ := gt.shape
      have g0' := F.keep g0 (by simp)
      have g1' := F.keep g1 (by simp)
      have g2' := F.keep g2 (by simp)
      have hd1 : i1.drop k = i1[k] :: i1.drop (k + 1) := List.drop_eq_getElem_cons hlt
      have hdd : (i1[k]).dep ≤ d := by have := depL_get i1 k hlt; omega
      have gt' := gt.fr (F.mono (r := r))
      have hpw : p < wr.heap.size := Nat.lt_of_lt_of_le p1 F.size
      have HD1 := Lib.hid hd1
      clear g0 g1 g2 hcc hc hd1
      by_cases hlb : k < i2.length
      · obtain ⟨q, u, rfl, q1, q2, kcc⟩ := kc (by omega)
        obtain ⟨x', y', z', l0, l1, l2, lt⟩ := kcc k hlb
        obtain ⟨th', x1, v1, e1, x2, v2, e2, rfl, rfl, rfl⟩ := lt.shape
        have l0' := F.keep l0 (by simp)
        have l1' := F.keep l1 (by simp)
        have l2' := F.keep l2 (by simp)
        have lt' := lt.fr (F.mono (r := r))
        have hqw : q < wr.heap.size := Nat.lt_of_lt_of_le q1 F.size
        have hd2 : i2.drop k = i2[k] :: i2.drop (k + 1) := List.drop_eq_getElem_cons hlb
        obtain ⟨C, hC⟩ : ∃ C, C = cmpT i1[k] i2[k] := ⟨_, rfl⟩
        have HC := Lib.hid hC
        have HK2 : Hid (cmpTs i1 i2 = if C ≠ 0 then C else cmpTs (i1.drop (k + 1)) (i2.drop (k + 1))) := by unfold Hid; rw [HK.out, HD1.out, hd2, hC]; simp only [cmpTs]
        clear hC HK l0 l1 l2 kcc kc hd2
        go_wp2_with fail
        have FA := (((Fr.refl none wr).alloc (.cells #[.int .i64 th, .slice A1 m1 c1, .slice A2 m2 c2] 31)).alloc (.cells #[.int .i64 th', .slice x1 v1 e1, .slice x2 v2 e2] 31))
        refine (IH.out i1[k] i2[k] _ _ _ r hdd (gt'.fr (FA.mono (r := r))) (lt'.fr (FA.mono (r := r)))).mono ?_
        rintro e3 w2 ⟨rfl, F2, hdw⟩
        rw [← HC.out]
        have F3 : Fr none wr w2 := FA.pure F2
        have hdw2 : w.drawn ≤ w2.drawn := Nat.le_trans HDR.out hdw
        have HDW := Lib.hid hdw2
        clear g0' g1' g2' l0' l1' l2' hdw hdw2
        by_cases hc0 : C = 0
        · subst hc0
          go_wp2_with fail
          go_roundw
          case rel => exact ⟨k + 1, by omega, by omega, by go_num, F.pure F3, HDW.out, by unfold Hid; rw [HK2.out, if_neg (by simp)]⟩
          case measure => simp [intOf]; omega
        · have hb4 : (C != 0) = true := by rw [bne_iff_ne]; exact hc0
          have HF : Hid (cmpTs i1 i2 = C) := by unfold Hid; rw [HK2.out, if_pos hc0]
          clear hc0
          go_wp2_with fail
          go_ret
          exact ⟨ret_int (by rw [HF.out]), F.pure F3, HDW.out⟩
      · have HF : Hid (cmpTs i1 i2 = 1) := by
          unfold Hid
          have e0 : i2.drop k = [] := List.drop_eq_nil_of_le (by omega)
          rw [HK.out, HD1.out, e0]
          simp [cmpTs]
        have hge : i2.length ≤ k := by omega
        clear hlb HK
        go_wp2_with fail
        go_ret
        exact ⟨ret_int (by rw [HF.out]), F.alloc _, HDR.out⟩
    · obtain rfl : k = i1.length := by omega
      have HF : Hid (cmpTs i1 i2 = if i1.length < i2.length then -1 else 0) := by
        unfold Hid
        rw [HK.out, List.drop_length, cmpTs_nil, List.length_drop]
        by_cases h : i1.length < i2.length
        · rw [if_pos h, if_pos (by omega)]
        · rw [if_neg h, if_neg (by omega)]
      clear HK
      by_cases h : i1.length < i2.length
      · go_wp2_with fail
        go_ret
        exact ⟨ret_int (by rw [HF.out, if_pos h]), F, HDR.out⟩
      · go_wp2_with fail
        go_ret
        exact ⟨ret_int (by rw [HF.out, if_neg h]), F, HDR.out⟩

theorem orL3 (a b c : Int) : orL [a, b, c] = if a ≠ 0 then a else if b ≠ 0 then b else c := by
  by_cases h1 : a = 0
  · subst h1
    by_cases h2 : b = 0
    · subst h2
      by_cases h3 : c = 0 <;> simp [orL, h3]
    · simp [orL, h2]
  · simp [orL, h1]
theorem sgnI_wi (a b : Int) : Wi (sgnI a b) := cmpI_wi a b
theorem cmpNs_wi : ∀ a b : List Int, Wi (cmpNs a b)
  | [], [] => by constructor <;> simp [cmpNs]
  | [], _ :: _ => by constructor <;> simp [cmpNs]
  | _ :: _, [] => by constructor <;> simp [cmpNs]
  | x :: r, y :: s => by
    simp only [cmpNs]
    split
    · exact sgnI_wi x y
    · exact cmpNs_wi r s
mutual
theorem cmpT_wi : ∀ a b : Tr, Wi (cmpT a b)
  | .mk t n i, .mk t' n' i' => by
    simp only [cmpT]
    split
    · exact sgnI_wi _ _
    · split
      · exact cmpNs_wi _ _
      · exact cmpTs_wi i i'
theorem cmpTs_wi : ∀ a b : List Tr, Wi (cmpTs a b)
  | [], [] => by constructor <;> simp [cmpTs]
  | [], _ :: _ => by constructor <;> simp [cmpTs]
  | _ :: _, [] => by constructor <;> simp [cmpTs]
  | x :: r, y :: s => by
    simp only [cmpTs]
    split
    · exact cmpT_wi x y
    · exact cmpTs_wi r s
end
set_option maxRecDepth 100000 in
set_option maxHeartbeats 2000000 in
theorem cmp_any : ∀ d, CmpC d := by
  intro d
  induction d with
  | zero =>
    intro a b va vb w r hd
    cases a
    simp [Tr.dep] at hd
  | succ d ih =>
    intro a b va vb w r hd ha hb
    obtain ⟨t1, n1, i1⟩ := a
    obtain ⟨t2, n2, i2⟩ := b
    obtain ⟨A, c, A', c', rfl, hthr, hn, hi⟩ := ha.ts
    obtain ⟨B, e, B', e', rfl, kthr, kn, ki⟩ := hb.ts
    have hdi : depL i1 ≤ d := by simp only [Tr.dep] at hd; omega
    obtain ⟨C1, h1⟩ : ∃ C, C = sgnI t1 t2 := ⟨_, rfl⟩
    obtain ⟨C2, h2⟩ : ∃ C, C = cmpNs n1 n2 := ⟨_, rfl⟩
    obtain ⟨C3, h3⟩ : ∃ C, C = cmpTs i1 i2 := ⟨_, rfl⟩
    have HE : Hid (orL [C1, C2, C3] = cmpT (.mk t1 n1 i1) (.mk t2 n2 i2)) := by unfold Hid; rw [orL3, h1, h2, h3]; simp only [cmpT]
    have hw : ∀ x ∈ [C1, C2, C3], Wi x := by
      intro x hx
      simp only [List.mem_cons, List.mem_nil_iff, or_false] at hx
      rcases hx with rfl | rfl | rfl
      · rw [h1]; exact sgnI_wi _ _
      · rw [h2]; exact cmpNs_wi _ _
      · rw [h3]; exact cmpTs_wi _ _
    have H1 := Lib.hid h1
    have H2 := Lib.hid h2
    have H3 := Lib.hid h3
    have HW := Lib.hid hw
    have IH := Lib.hid ih
    have HN := Lib.hid hn
    have KN := Lib.hid kn
    have HI := Lib.hid hi
    have KI := Lib.hid ki
    clear h1 h2 h3 hw ih hd ha hb hn kn hi ki
    go_enter Tryz.func29, Tryz.ntmps29
    go_upto_region 1 with (fail)
    generalize hW : (w.alloc _).alloc _ = w1
    have F1 : Fr none w w1 := hW ▸ ((Fr.refl _ w).alloc _).alloc _
    have D1 : w.drawn ≤ w1.drawn := by rw [← hW]; exact Nat.le_refl _
    have b0 : TB w1 w.heap.size (.int .i64 t1) (.slice A n1.length c) (.slice A' i1.length c') := by rw [← hW]; exact (Below.heap_alloc _ _ _ (by simp)).trans (blk_new _ _)
    have b1 : TB w1 (w.heap.size + 1) (.int .i64 t2) (.slice B n2.length e) (.slice B' i2.length e') := by rw [← hW]; exact blk_new_at (by simp) _
    clear hW
    have HB0 := Lib.hid b0
    have HB1 := Lib.hid b1
    refine wp_region_held_drew (S := fun W => (∀ k, W.cell? ⟨w.heap.size, k, none⟩ = (#[.int .i64 t1, .slice A n1.length c, .slice A' i1.length c'] : Array Value)[k]?) ∧ (∀ k, W.cell? ⟨w.heap.size + 1, k, none⟩ = (#[.int .i64 t2, .slice B n2.length e, .slice B' i2.length e'] : Array Value)[k]?) ∧ Fr none w1 W ∧ w.drawn ≤ W.drawn) (by kernel_rfl) ⟨b0.cell, b1.cell, (Fr.refl _ _).drew, Nat.le_succ_of_le D1⟩ (fun hH0 => ?_)
    clear b0 b1
    refine wpAnyH_take (i := 0) (v := ?_) rfl (by kernel_rfl) (by kernel_rfl) (by kernel_rfl) (fun _ _ _ h => h) (Or.inl ⟨by rfl, ?_⟩) (by assumption) ?_
    rotate_left
    · (intro W hW; (try dsimp only at hW); go_simp; try with_reducible rfl)
    try simp only [Act.put, List.setIfInBounds_toArray, List.set_cons_zero, List.set_cons_succ, List.getElem_toArray, List.getElem_cons_zero, List.getElem_cons_succ]
    refine wpAnyH_take (i := 1) (v := ?_) rfl (by kernel_rfl) (by kernel_rfl) (by kernel_rfl) (fun _ _ _ h => h) (Or.inl ⟨by rfl, ?_⟩) (by assumption) ?_
    rotate_left
    · (intro W hW; (try dsimp only at hW); go_simp; try with_reducible rfl)
    try simp only [Act.put, List.setIfInBounds_toArray, List.set_cons_zero, List.set_cons_succ, List.getElem_toArray, List.getElem_cons_zero, List.getElem_cons_succ]
    refine wpAnyH_take (i := 2) (v := ?_) rfl (by kernel_rfl) (by kernel_rfl) (by kernel_rfl) (fun _ _ _ h => h) (Or.inl ⟨by rfl, ?_⟩) (by assumption) ?_
    rotate_left
    · (intro W hW; (try dsimp only at hW); go_simp; try with_reducible rfl)
    try simp only [Act.put, List.setIfInBounds_toArray, List.set_cons_zero, List.set_cons_succ, List.getElem_toArray, List.getElem_cons_zero, List.getElem_cons_succ]
    refine wpAnyH_take (i := 3) (v := ?_) rfl (by kernel_rfl) (by kernel_rfl) (by kernel_rfl) (fun _ _ _ h => h) (Or.inl ⟨by rfl, ?_⟩) (by assumption) ?_
    rotate_left
    · (intro W hW; (try dsimp only at hW); go_simp; try with_reducible rfl)
    try simp only [Act.put, List.setIfInBounds_toArray, List.set_cons_zero, List.set_cons_succ, List.getElem_toArray, List.getElem_cons_zero, List.getElem_cons_succ]
    refine wpAnyH_take (i := 5) (v := ?_) rfl (by kernel_rfl) (by kernel_rfl) (by kernel_rfl) (fun _ _ _ h => h) (Or.inl ⟨by rfl, ?_⟩) (by assumption) ?_
    rotate_left
    · (intro W hW; (try dsimp only at hW); go_simp; try with_reducible rfl)
    try simp only [Act.put, List.setIfInBounds_toArray, List.set_cons_zero, List.set_cons_succ, List.getElem_toArray, List.getElem_cons_zero, List.getElem_cons_succ]
    refine wpAnyH_take (i := 6) (v := ?_) rfl (by kernel_rfl) (by kernel_rfl) (by kernel_rfl) (fun _ _ _ h => h) (Or.inl ⟨by rfl, ?_⟩) (by assumption) ?_
    rotate_left
    · (intro W hW; (try dsimp only at hW); go_simp; try with_reducible rfl)
    try simp only [Act.put, List.setIfInBounds_toArray, List.set_cons_zero, List.set_cons_succ, List.getElem_toArray, List.getElem_cons_zero, List.getElem_cons_succ]
    refine wpAnyH_take (i := 7) (v := ?_) rfl (by kernel_rfl) (by kernel_rfl) (by kernel_rfl) (fun _ _ _ h => h) (Or.inl ⟨by rfl, ?_⟩) (by assumption) ?_
    rotate_left
    · (intro W hW; (try dsimp only at hW); go_simp; try with_reducible rfl)
    try simp only [Act.put, List.setIfInBounds_toArray, List.set_cons_zero, List.set_cons_succ, List.getElem_toArray, List.getElem_cons_zero, List.getElem_cons_succ]
    refine wpAnyH_take (i := 8) (v := ?_) rfl (by kernel_rfl) (by kernel_rfl) (by kernel_rfl) (fun _ _ _ h => h) (Or.inl ⟨by rfl, ?_⟩) (by assumption) ?_
    rotate_left
    · (intro W hW; (try dsimp only at hW); go_simp; try with_reducible rfl)
    try simp only [Act.put, List.setIfInBounds_toArray, List.set_cons_zero, List.set_cons_succ, List.getElem_toArray, List.getElem_cons_zero, List.getElem_cons_succ]
    refine wpAnyH_take (i := 10) (v := ?_) rfl (by kernel_rfl) (by kernel_rfl) (by kernel_rfl) (fun _ _ _ h => h) (Or.inl ⟨by rfl, ?_⟩) (by assumption) ?_
    rotate_left
    · (intro W hW; (try dsimp only at hW); go_simp; try with_reducible rfl)
    try simp only [Act.put, List.setIfInBounds_toArray, List.set_cons_zero, List.set_cons_succ, List.getElem_toArray, List.getElem_cons_zero, List.getElem_cons_succ]
    refine wpAnyH_take (i := 11) (v := ?_) rfl (by kernel_rfl) (by kernel_rfl) (by kernel_rfl) (fun _ _ _ h => h) (Or.inl ⟨by rfl, ?_⟩) (by assumption) ?_
    rotate_left
    · (intro W hW; (try dsimp only at hW); go_simp; try with_reducible rfl)
    try simp only [Act.put, List.setIfInBounds_toArray, List.set_cons_zero, List.set_cons_succ, List.getElem_toArray, List.getElem_cons_zero, List.getElem_cons_succ]
    refine wpAnyH_take (i := 12) (v := ?_) rfl (by kernel_rfl) (by kernel_rfl) (by kernel_rfl) (fun _ _ _ h => h) (Or.inl ⟨by rfl, ?_⟩) (by assumption) ?_
    rotate_left
    · (intro W hW; (try dsimp only at hW); go_simp; try with_reducible rfl)
    try simp only [Act.put, List.setIfInBounds_toArray, List.set_cons_zero, List.set_cons_succ, List.getElem_toArray, List.getElem_cons_zero, List.getElem_cons_succ]
    refine wpAnyH_take (i := 13) (v := ?_) rfl (by kernel_rfl) (by kernel_rfl) (by kernel_rfl) (fun _ _ _ h => h) (Or.inl ⟨by rfl, ?_⟩) (by assumption) ?_
    rotate_left
    · (intro W hW; (try dsimp only at hW); go_simp; try with_reducible rfl)
    try simp only [Act.put, List.setIfInBounds_toArray, List.set_cons_zero, List.set_cons_succ, List.getElem_toArray, List.getElem_cons_zero, List.getElem_cons_succ]
    refine wpAnyH_ready (rs := [4]) (by kernel_rfl) (by simp) ?_
    refine AllReadyH.cons rfl (fun K hK => ?_) AllReadyH.nil
    simp only [List.getElem_toArray, List.getElem_cons_zero, List.getElem_cons_succ]
    go_simp
    go_at_call 91
    refine (cmpCompare_any t1 t2 _).mono ?_
    rintro e2 w2 ⟨rfl, rfl⟩
    rw [cmpI_sgn, ← H1.out]
    refine hK.out _ _ hH0 (fun hH1 => ?_)
    clear hK K
    try simp only [Act.put, List.setIfInBounds_toArray, List.set_cons_zero, List.set_cons_succ, List.getElem_toArray, List.getElem_cons_zero, List.getElem_cons_succ]
    refine wpAnyH_ready (rs := [9]) (by kernel_rfl) (by simp) ?_
    refine AllReadyH.cons rfl (fun K hK => ?_) AllReadyH.nil
    simp only [List.getElem_toArray, List.getElem_cons_zero, List.getElem_cons_succ]
    go_simp
    go_at_call 92
    refine (cmpL_any n1 n2 _ _ _ r (HN.out.fr ((F1.pure hH1.2.2.1).mono (r := r))) (KN.out.fr ((F1.pure hH1.2.2.1).mono (r := r)))).mono ?_
    rintro e3 w3 ⟨rfl, rfl⟩
    rw [← H2.out]
    refine hK.out _ _ hH1 (fun hH2 => ?_)
    clear hK K
    try simp only [Act.put, List.setIfInBounds_toArray, List.set_cons_zero, List.set_cons_succ, List.getElem_toArray, List.getElem_cons_zero, List.getElem_cons_succ]
    refine wpAnyH_ready (rs := [14]) (by kernel_rfl) (by simp) ?_
    refine AllReadyH.cons rfl (fun K hK => ?_) AllReadyH.nil
    simp only [List.getElem_toArray, List.getElem_cons_zero, List.getElem_cons_succ]
    go_simp
    go_at_call 93
    refine (cmpF_any d IH.out i1 i2 _ _ _ r hdi (HI.out.fr ((F1.pure hH2.2.2.1).mono (r := r))) (KI.out.fr ((F1.pure hH2.2.2.1).mono (r := r)))).mono ?_
    rintro e4 w4 ⟨rfl, F4, D4⟩
    rw [← H3.out]
    have F14 := hH2.2.2.1.pure F4
    have hH4 : Hid ((∀ k, w4.cell? ⟨w.heap.size, k, none⟩ = (#[.int .i64 t1, .slice A n1.length c, .slice A' i1.length c'] : Array Value)[k]?) ∧ (∀ k, w4.cell? ⟨w.heap.size + 1, k, none⟩ = (#[.int .i64 t2, .slice B n2.length e, .slice B' i2.length e'] : Array Value)[k]?) ∧ Fr none w1 w4 ∧ w.drawn ≤ w4.drawn) :=
      ⟨(HB0.out.fr F14 (by simp)).cell, (HB1.out.fr F14 (by simp)).cell, F14, Nat.le_trans hH2.2.2.2 D4⟩
    refine hK.out _ _ hH4.out (fun hH3 => ?_)
    clear hK K
    try simp only [Act.put, List.setIfInBounds_toArray, List.set_cons_zero, List.set_cons_succ, List.getElem_toArray, List.getElem_cons_zero, List.getElem_cons_succ]
    refine wpAnyH_ready (rs := [15]) (by kernel_rfl) (by simp) ?_
    refine AllReadyH.cons rfl (fun K hK => ?_) AllReadyH.nil
    simp only [List.getElem_toArray, List.getElem_cons_zero, List.getElem_cons_succ]
    go_simp
    have G5 := (Fr.refl none w4).alloc (.cells #[.int .i64 C1, .int .i64 C2, .int .i64 C3] 3)
    have F15 := F14.pure G5
    refine hK.out _ _ ⟨(HB0.out.fr F15 (by simp)).cell, (HB1.out.fr F15 (by simp)).cell, F15, hH4.out.2.2.2⟩ (fun hH5 => ?_)
    clear hK K
    try simp only [Act.put, List.setIfInBounds_toArray, List.set_cons_zero, List.set_cons_succ, List.getElem_toArray, List.getElem_cons_zero, List.getElem_cons_succ]
    refine wpAnyH_ready (rs := [16]) (by kernel_rfl) (by simp) ?_
    refine AllReadyH.cons rfl (fun K hK => ?_) AllReadyH.nil
    simp only [List.getElem_toArray, List.getElem_cons_zero, List.getElem_cons_succ]
    go_simp
    go_at_call 90
    refine (or_any [C1, C2, C3] _ _ none ⟨SlD.lit_dm (r := none) #[.int .i64 C1, .int .i64 C2, .int .i64 C3] 3 3 1 rfl (by decide) (by simp) (Fr.refl _ _), HW.out⟩).mono ?_
    rintro e5 w5 ⟨rfl, rfl⟩
    rw [HE.out]
    refine hK.out _ _ hH5 (fun hH6 => ?_)
    clear hK K
    try simp only [Act.put, List.setIfInBounds_toArray, List.set_cons_zero, List.set_cons_succ, List.getElem_toArray, List.getElem_cons_zero, List.getElem_cons_succ]
    refine wpAnyH_take (i := 17) (v := ?_) rfl (by kernel_rfl) (by kernel_rfl) (by kernel_rfl) (fun _ _ _ h => h) (Or.inl ⟨by rfl, ?_⟩) (by assumption) ?_
    rotate_left
    · (intro W hW; (try dsimp only at hW); go_simp; try with_reducible rfl)
    try simp only [Act.put, List.setIfInBounds_toArray, List.set_cons_zero, List.set_cons_succ, List.getElem_toArray, List.getElem_cons_zero, List.getElem_cons_succ]
    refine wpAnyH_done (by kernel_rfl) ?_ _
    go_wp2_with fail
    go_ret
    exact ⟨rfl, F1.pure F15, hH6.2.2.2⟩
end Go.Proofs.YtpdhckbiioobhaaGreatDoor

/- Plain: the order of trusts is total (opposite, transitive); sorting by it. -/
namespace Go.Proofs.YtpdhckbiioobhaaGreatDoor

theorem sgnI_neg (a b : Int) : sgnI b a = - sgnI a b := by
  unfold sgnI
  by_cases h1 : a < b
  · simp [h1, show ¬ b < a by omega]
  · by_cases h2 : b < a
    · simp [h1, h2]
    · simp [h1, h2]
theorem sgnI_trans (a b c : Int) : sgnI a b ≤ 0 → sgnI b c ≤ 0 → sgnI a c ≤ 0 := by
  have k : ∀ x y : Int, sgnI x y ≤ 0 ↔ x ≤ y := fun x y => by
    unfold sgnI
    by_cases h1 : x < y
    · rw [if_pos h1]; omega
    · by_cases h2 : y < x
      · rw [if_neg h1, if_pos h2]; omega
      · rw [if_neg h1, if_neg h2]; omega
  rw [k, k, k]
  omega
theorem cmpNs_neg : ∀ a b : List Int, cmpNs b a = - cmpNs a b
  | [], [] => by simp [cmpNs]
  | [], _ :: _ => by simp [cmpNs]
  | _ :: _, [] => by simp [cmpNs]
  | x :: r, y :: s => by
    have h1 := sgnI_neg x y
    have h2 := cmpNs_neg r s
    simp only [cmpNs]
    by_cases h : sgnI x y = 0
    · rw [if_neg (show ¬ sgnI y x ≠ 0 by omega), if_neg (show ¬ sgnI x y ≠ 0 by omega)]; exact h2
    · rw [if_pos (show sgnI y x ≠ 0 by omega), if_pos h]; exact h1
mutual
theorem cmpT_neg : ∀ a b : Tr, cmpT b a = - cmpT a b
  | .mk t n i, .mk t' n' i' => by
    have h1 := sgnI_neg t t'
    have h2 := cmpNs_neg n n'
    have h3 := cmpTs_neg i i'
    simp only [cmpT]
    by_cases h : sgnI t t' = 0
    · rw [if_neg (show ¬ sgnI t' t ≠ 0 by omega), if_neg (show ¬ sgnI t t' ≠ 0 by omega)]
      by_cases h' : cmpNs n n' = 0
      · rw [if_neg (show ¬ cmpNs n' n ≠ 0 by omega), if_neg (show ¬ cmpNs n n' ≠ 0 by omega)]; exact h3
      · rw [if_pos (show cmpNs n' n ≠ 0 by omega), if_pos h']; exact h2
    · rw [if_pos (show sgnI t' t ≠ 0 by omega), if_pos h]; exact h1
theorem cmpTs_neg : ∀ a b : List Tr, cmpTs b a = - cmpTs a b
  | [], [] => by simp [cmpTs]
  | [], _ :: _ => by simp [cmpTs]
  | _ :: _, [] => by simp [cmpTs]
  | x :: r, y :: s => by
    have h1 := cmpT_neg x y
    have h2 := cmpTs_neg r s
    simp only [cmpTs]
    by_cases h : cmpT x y = 0
    · rw [if_neg (show ¬ cmpT y x ≠ 0 by omega), if_neg (show ¬ cmpT x y ≠ 0 by omega)]; exact h2
    · rw [if_pos (show cmpT y x ≠ 0 by omega), if_pos h]; exact h1
end
theorem lex_trans {A B C p q r : Int} (h1 : A ≤ 0 → B ≤ 0 → C ≤ 0) (h2 : A = 0 → C = B) (h3 : B = 0 → C = A) (h4 : C = 0 → B = -A) (hr : p ≤ 0 → q ≤ 0 → r ≤ 0) :
    (if A ≠ 0 then A else p) ≤ 0 → (if B ≠ 0 then B else q) ≤ 0 → (if C ≠ 0 then C else r) ≤ 0 := by
  intro k1 k2
  by_cases hA : A = 0
  · rw [if_neg (show ¬ A ≠ 0 by omega)] at k1
    by_cases hB : B = 0
    · rw [if_neg (show ¬ B ≠ 0 by omega)] at k2
      have := h2 hA
      rw [if_neg (show ¬ C ≠ 0 by omega)]
      exact hr k1 k2
    · rw [if_pos hB] at k2
      have := h2 hA
      rw [if_pos (show C ≠ 0 by omega)]
      omega
  · rw [if_pos hA] at k1
    by_cases hB : B = 0
    · have := h3 hB
      rw [if_pos (show C ≠ 0 by omega)]
      omega
    · rw [if_pos hB] at k2
      have h5 := h1 k1 k2
      have h6 : C ≠ 0 := fun e => by have := h4 e; omega
      rw [if_pos h6]
      exact h5
theorem cmpNs_trans : ∀ a b c : List Int, cmpNs a b ≤ 0 → cmpNs b c ≤ 0 → cmpNs a c ≤ 0
  | [], [], c, _, h => h
  | [], _ :: _, [], _, h => by simp [cmpNs] at h
  | [], _ :: _, _ :: _, _, _ => by simp [cmpNs]
  | _ :: _, [], _, h, _ => by simp [cmpNs] at h
  | _ :: _, _ :: _, [], _, h => by simp [cmpNs] at h
  | x :: r, y :: s, z :: t, h, h' => by
    simp only [cmpNs] at h h' ⊢
    exact lex_trans (sgnI_trans x y z) (fun e => by rw [(sgnI_zero x y).1 e]) (fun e => by rw [(sgnI_zero y z).1 e]) (fun e => by rw [(sgnI_zero x z).1 e]; exact sgnI_neg z y) (cmpNs_trans r s t) h h'
mutual
theorem cmpT_trans : ∀ a b c : Tr, cmpT a b ≤ 0 → cmpT b c ≤ 0 → cmpT a c ≤ 0
  | .mk t n i, .mk t' n' i', .mk t'' n'' i'' => by
    have hr := cmpTs_trans i i' i''
    simp only [cmpT]
    exact lex_trans (sgnI_trans t t' t'') (fun e => by rw [(sgnI_zero t t').1 e]) (fun e => by rw [(sgnI_zero t' t'').1 e]) (fun e => by rw [(sgnI_zero t t'').1 e]; exact sgnI_neg t'' t')
      (lex_trans (cmpNs_trans n n' n'') (fun e => by rw [(cmpNs_zero n n').1 e]) (fun e => by rw [(cmpNs_zero n' n'').1 e]) (fun e => by rw [(cmpNs_zero n n'').1 e]; exact cmpNs_neg n'' n') hr)
theorem cmpTs_trans : ∀ a b c : List Tr, cmpTs a b ≤ 0 → cmpTs b c ≤ 0 → cmpTs a c ≤ 0
  | [], [], c => fun _ h => h
  | [], _ :: _, [] => fun _ h => by simp [cmpTs] at h
  | [], _ :: _, _ :: _ => fun _ _ => by simp [cmpTs]
  | _ :: _, [], _ => fun h _ => by simp [cmpTs] at h
  | _ :: _, _ :: _, [] => fun _ h => by simp [cmpTs] at h
  | x :: r, y :: s, z :: t => by
    have hr := cmpTs_trans r s t
    have h1 := cmpT_trans x y z
    simp only [cmpTs]
    exact lex_trans h1 (fun e => by rw [(cmpT_zero x y).1 e]) (fun e => by rw [(cmpT_zero y z).1 e]) (fun e => by rw [(cmpT_zero x z).1 e]; exact cmpT_neg z y) hr
end
theorem cmpT_self (a : Tr) : cmpT a a = 0 := (cmpT_zero a a).2 rfl

/-- Ascending. -/
def Asc (l : List Tr) : Prop := l.Pairwise fun x y => cmpT x y ≤ 0
theorem asc_uniq {l m : List Tr} (h : Asc l) (k : Asc m) (p : l.Perm m) : l = m := by
  induction l generalizing m with
  | nil => exact (List.nil_perm.1 p).symm
  | cons x r ih =>
    cases m with
    | nil => exact absurd p.length_eq (by simp)
    | cons y s =>
      obtain ⟨h1, h2⟩ := List.pairwise_cons.1 h
      obtain ⟨k1, k2⟩ := List.pairwise_cons.1 k
      have e : x = y := by
        have hx : x ∈ y :: s := p.mem_iff.1 (by simp)
        have hy : y ∈ x :: r := p.mem_iff.2 (by simp)
        rcases List.mem_cons.1 hx with e | hx
        · exact e
        rcases List.mem_cons.1 hy with e | hy
        · exact e.symm
        have a := k1 x hx
        have b := h1 y hy
        have c := cmpT_neg x y
        exact (cmpT_zero x y).1 (by omega)
      subst e
      rw [ih h2 k2 (List.Perm.cons_inv p)]
theorem insT_form (l : List Tr) (x : Tr) : insT l x = (l.reverse.dropWhile fun y => decide (0 < cmpT y x)).reverse ++ x :: (l.reverse.takeWhile fun y => decide (0 < cmpT y x)).reverse := by
  have e := List.takeWhile_append_dropWhile (p := fun y => decide (0 < cmpT y x)) (l := l.reverse)
  unfold insT
  generalize ht : l.reverse.takeWhile (fun y => decide (0 < cmpT y x)) = tw at *
  generalize hd : l.reverse.dropWhile (fun y => decide (0 < cmpT y x)) = dw at *
  have hl : l = dw.reverse ++ tw.reverse := by rw [← List.reverse_append, e, List.reverse_reverse]
  have hn : l.length - tw.length = dw.reverse.length := by rw [hl]; simp
  rw [hn]
  conv => lhs; rw [hl]
  rw [List.take_left, List.drop_left]
theorem dropWhile_head {p : Tr → Bool} : ∀ (l : List Tr) (y : Tr) (r : List Tr), l.dropWhile p = y :: r → p y = false
  | [], y, r, h => by simp at h
  | x :: l, y, r, h => by
    rw [List.dropWhile_cons] at h
    split at h
    · exact dropWhile_head l y r h
    · rename_i hp
      injection h with h1 h2
      subst h1
      simpa using hp
theorem takeWhile_mem {p : Tr → Bool} : ∀ (l : List Tr) (y : Tr), y ∈ l.takeWhile p → p y = true
  | [], y, h => by simp at h
  | x :: l, y, h => by
    rw [List.takeWhile_cons] at h
    split at h
    · rename_i hp
      rcases List.mem_cons.1 h with rfl | h
      · exact hp
      · exact takeWhile_mem l y h
    · simp at h
theorem insT_asc {l : List Tr} (h : Asc l) (x : Tr) : Asc (insT l x) := by
  rw [insT_form]
  have e := List.takeWhile_append_dropWhile (p := fun y => decide (0 < cmpT y x)) (l := l.reverse)
  have ht := takeWhile_mem (p := fun y => decide (0 < cmpT y x)) l.reverse
  have hd := dropWhile_head (p := fun y => decide (0 < cmpT y x)) l.reverse
  generalize l.reverse.takeWhile (fun y => decide (0 < cmpT y x)) = tw at *
  generalize l.reverse.dropWhile (fun y => decide (0 < cmpT y x)) = dw at *
  have hl : l = dw.reverse ++ tw.reverse := by rw [← List.reverse_append, e, List.reverse_reverse]
  have h' := h
  unfold Asc at h'
  rw [hl] at h'
  obtain ⟨a1, a2, a3⟩ := List.pairwise_append.1 h'
  have hdx : ∀ y ∈ dw, cmpT y x ≤ 0 := by
    intro y hy
    cases dw with
    | nil => cases hy
    | cons z r =>
      have hz : cmpT z x ≤ 0 := by have := hd z r rfl; simp at this; exact this
      rcases List.mem_cons.1 hy with rfl | hy
      · exact hz
      · rw [List.reverse_cons] at a1
        obtain ⟨_, _, b3⟩ := List.pairwise_append.1 a1
        exact cmpT_trans y z x (b3 y (by simpa using hy) z (by simp)) hz
  have htx : ∀ y ∈ tw, cmpT x y ≤ 0 := fun y hy => by
    have h1 := ht y hy
    have h2 := cmpT_neg x y
    simp at h1
    omega
  refine List.pairwise_append.2 ⟨a1, List.pairwise_cons.2 ⟨fun y hy => htx y (by simpa using hy), a2⟩, fun y hy z hz => ?_⟩
  rcases List.mem_cons.1 hz with rfl | hz
  · exact hdx y (by simpa using hy)
  · exact a3 y hy z hz
theorem sortT_asc (l : List Tr) : Asc (sortT l) := by
  have : ∀ (L l : List Tr), Asc l → Asc (L.foldl insT l) := by
    intro L
    induction L with
    | nil => exact fun l h => h
    | cons x r ih => exact fun l h => ih _ (insT_asc h x)
  exact this l [] List.Pairwise.nil
theorem sortT_congr {l m : List Tr} (p : l.Perm m) : sortT l = sortT m := asc_uniq (sortT_asc l) (sortT_asc m) ((sortT_perm l).trans (p.trans (sortT_perm m).symm))
theorem sortT_fix {l : List Tr} (h : Asc l) : sortT l = l := asc_uniq (sortT_asc l) h (sortT_perm l)
theorem sortN_congr {l m : List Int} (h : ∀ k, k ∈ l ↔ k ∈ m) : sortN l = sortN m := by
  unfold sortN
  congr 1
  funext k
  rw [Bool.eq_iff_iff, List.any_eq_true, List.any_eq_true]
  constructor
  · rintro ⟨x, hx, e⟩
    exact ⟨x, (h x).1 hx, e⟩
  · rintro ⟨x, hx, e⟩
    exact ⟨x, (h x).2 hx, e⟩
end Go.Proofs.YtpdhckbiioobhaaGreatDoor

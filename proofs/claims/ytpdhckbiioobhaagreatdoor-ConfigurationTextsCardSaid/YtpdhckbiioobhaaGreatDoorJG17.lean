/- Some texts of this claim, joined: contracts of the functions that it reaches, and plain laws. -/
import Derived.Test.YtpdhckbiioobhaaGreatDoorProg
import Derived.Test.YtpdhckbiioobhaaGreatDoorJG11
import Derived.Test.YtpdhckbiioobhaaGreatDoorJG15

set_option linter.unusedSimpArgs false
set_option linter.unusedVariables false
/- Walks: normal.lifted. -/
namespace Go.Proofs.YtpdhckbiioobhaaGreatDoor
open Go.RowKit

/-- No block. -/
def Nob : Nat → Prop := fun _ => False
theorem nob_lt {n : Nat} : ∀ b, Nob b → b < n := fun _ h => h.elim
/-- The blocks laid since w1 but for two rows. -/
def Do (E : Nat → Prop) (w1 w : World) (v v' : Value) : Nat → Prop := fun b => w1.heap.size ≤ b ∧ b < w.heap.size ∧ v.ownBlock ≠ some b ∧ v'.ownBlock ≠ some b ∧ ¬ E b
/-- A trust with two rows of the call's own, as a value. -/
structure OwI (E : Nat → Prop) (w1 : World) (n : List Int) (i : List Tr) (A5 : Option Addr) (c5 : Nat) (A6 : Option Addr) (c6 : Nat) (cells : List Value) (w : World) : Prop where
  fr : Fr none w1 w
  own5 : w.ownsRow w1.heap.size 3 1 (.slice A5 n.length c5) n.length (n.map (Value.int .i64))
  wi : ∀ x ∈ n, Wi x
  own6 : w.ownsRow w1.heap.size 31 3 (.slice A6 i.length c6) i.length cells
  dis : ∀ b, (Value.slice A5 n.length c5).ownBlock = some b → (Value.slice A6 i.length c6).ownBlock ≠ some b
  trs : TrsD w (Do E w1 w (.slice A5 n.length c5) (.slice A6 i.length c6)) cells i
theorem NrmI.ow {w1 wr : World} {thr : Int} {B : Nat} {n : List Int} {i : List Tr} {A5 : Option Addr} {c5 : Nat} {A6 : Option Addr} {c6 : Nat} {cells : List Value} (h : NrmI Nob w1 thr B n i A5 c5 A6 c6 cells wr) : OwI (fun b => b = B) w1 n i A5 c5 A6 c6 cells wr :=
  ⟨h.fr, h.own5, h.wi, h.own6, h.dis, TrsD.keep (fun k hk => by
    rcases hk with hk | hk
    · exact hk.elim
    · exact ⟨⟨hk.1, hk.2.1, hk.2.2.2.1, hk.2.2.2.2, hk.2.2.1⟩, rfl⟩) _ _ h.trs⟩
/-- Behind a frame that may change another block only. -/
theorem OwI.frs {E : Nat → Prop} {w1 w w' : World} {n : List Int} {i : List Tr} {A5 : Option Addr} {c5 : Nat} {A6 : Option Addr} {c6 : Nat} {cells : List Value} {g : Nat} (h : OwI E w1 n i A5 c5 A6 c6 cells w) (F : Fr (some g) w w') (hg : w.heap.size ≤ g) : OwI E w1 n i A5 c5 A6 c6 cells w' := by
  have hz := F.size
  refine ⟨h.fr.own F (by intro q e; injection e with e; have := h.fr.size; omega), own_keep2 h.own5 F (fun b e e2 => by injection e2 with e2; have := (h.own5.lt _ e).2; omega), h.wi, own_keep2 h.own6 F (fun b e e2 => by injection e2 with e2; have := (h.own6.lt _ e).2; omega), h.dis, TrsD.keep (fun k hk => ⟨⟨hk.1, by have := hk.2.1; omega, hk.2.2⟩, F.block k hk.2.1 (by intro e; injection e with e; have := hk.2.1; omega)⟩) _ _ h.trs⟩
theorem OwI.pure {E : Nat → Prop} {w1 w w' : World} {n : List Int} {i : List Tr} {A5 : Option Addr} {c5 : Nat} {A6 : Option Addr} {c6 : Nat} {cells : List Value} (h : OwI E w1 n i A5 c5 A6 c6 cells w) (F : Fr none w w') : OwI E w1 n i A5 c5 A6 c6 cells w' := by
  have hz := F.size
  refine ⟨h.fr.pure F, own_fr h.own5 F (by simp), h.wi, own_fr h.own6 F (by simp), h.dis, TrsD.keep (fun k hk => ⟨⟨hk.1, by have := hk.2.1; omega, hk.2.2⟩, F.block k hk.2.1 (by simp)⟩) _ _ h.trs⟩
/-- The row of nodes as it was, or in a new block. -/
def Nwr (s : Nat) (v v' : Value) : Prop := v'.ownBlock = v.ownBlock ∨ ∃ g, v'.ownBlock = some g ∧ s ≤ g
theorem Nwr.refl (s : Nat) (v : Value) : Nwr s v v := .inl rfl
theorem Nwr.next {s s' : Nat} {v v' v'' : Value} (h : Nwr s v v') (hs : s ≤ s') (k : NewOr s' v' v'') : Nwr s v v'' := by
  rcases k with e | ⟨g, e, hg⟩
  · rcases h with h | ⟨g, h, hg⟩
    · exact .inl (e.trans h)
    · exact .inr ⟨g, e.trans h, hg⟩
  · exact .inr ⟨g, e, by omega⟩
/-- What lifted (or dissolved) leaves. -/
def RowsP (E : Nat → Prop) (thr : Int) (st : List Int × List Tr) (w1 w : World) (v5 : Value) (e : Ending) (w' : World) : Prop :=
  ∃ (A7 : Option Addr) (c7 : Nat) (A8 : Option Addr) (c8 : Nat) (cs : List Value), e = .returned (.agg #[.int .i64 thr, .slice A7 st.1.length c7, .slice A8 st.2.length c8]) ∧ OwI E w1 st.1 st.2 A7 c7 A8 c8 cs w' ∧
    Fr v5.ownBlock w w' ∧ Nwr w.heap.size v5 (.slice A7 st.1.length c7) ∧ ∀ g, (Value.slice A8 st.2.length c8).ownBlock = some g → w.heap.size ≤ g
theorem Nwr.blk {s : Nat} {v v' : Value} (h : Nwr s v v') {g : Nat} (e : v'.ownBlock = some g) : v.ownBlock = some g ∨ s ≤ g := by
  rcases h with h | ⟨g', h, hg⟩
  · exact .inl (h.symm.trans e)
  · rw [h] at e; injection e with e; exact .inr (by omega)
/-- A frame in which the row of nodes may be a new one. -/
theorem Fr.nwr {w wr w' : World} {v v' : Value} (F : Fr v.ownBlock w wr) (h : Nwr w.heap.size v v') (G : Fr v'.ownBlock wr w') : Fr v.ownBlock w w' :=
  F.trans G (fun g e hg => by
    rcases h.blk e with h | h
    · exact h
    · omega)

/-- Between: t's block is the first that the call lays, the result's the second. -/
structure LifI (E : Nat → Prop) (w1 w : World) (v5 v6 : Value) (thr : Int) (n : List Int) (i : List Tr) (A7 : Option Addr) (c7 : Nat) (A8 : Option Addr) (c8 : Nat) (cs : List Value) (wr : World) : Prop where
  nrm : NrmI Nob w1 thr w.heap.size n i A7 c7 A8 c8 cs wr
  f : Fr v5.ownBlock w wr
  nw : Nwr w.heap.size v5 (.slice A7 n.length c7)
  n6 : ∀ g, (Value.slice A8 i.length c8).ownBlock = some g → w.heap.size ≤ g
  bz : TB wr (w.heap.size + 1) (.int .i64 0) (.slice none 0 0) (.slice none 0 0)
  e5 : (Value.slice A7 n.length c7).ownBlock ≠ some (w.heap.size + 1)
  e6 : (Value.slice A8 i.length c8).ownBlock ≠ some (w.heap.size + 1)
  tr : TrsD wr (Do E w1 w v5 v6) cs i
theorem do_step {E : Nat → Prop} {w1 w wr w' : World} {v5 v6 : Value} {r : Option Nat} (hz : w.heap.size ≤ wr.heap.size) (F : Fr r wr w') (hr : ∀ g, r = some g → v5.ownBlock = some g ∨ w.heap.size ≤ g) : ∀ k, Do E w1 w v5 v6 k → Do E w1 w v5 v6 k ∧ w'.heap[k]? = wr.heap[k]? := fun k hk =>
  ⟨hk, F.block k (by have := hk.2.1; omega) (fun e => by
    rcases hr k e.symm with h | h
    · exact hk.2.2.1 h
    · have := hk.2.1; omega)⟩
theorem LifI.pure {E : Nat → Prop} {w1 w wr w' : World} {v5 v6 : Value} {thr : Int} {n : List Int} {i : List Tr} {A7 : Option Addr} {c7 : Nat} {A8 : Option Addr} {c8 : Nat} {cs : List Value} (h : LifI E w1 w v5 v6 thr n i A7 c7 A8 c8 cs wr) (F : Fr none wr w') : LifI E w1 w v5 v6 thr n i A7 c7 A8 c8 cs w' :=
  ⟨h.nrm.pure nob_lt F, h.f.pure F, h.nw, h.n6, h.bz.fr F (by simp), h.e5, h.e6, TrsD.keep (do_step h.f.size F (by simp)) _ _ h.tr⟩
theorem LifI.node {E : Nat → Prop} {w1 w wr w' : World} {v5 v6 : Value} {thr : Int} {n : List Int} {i : List Tr} {A7 : Option Addr} {c7 : Nat} {A8 : Option Addr} {c8 : Nat} {cs : List Value} (h : LifI E w1 w v5 v6 thr n i A7 c7 A8 c8 cs wr) {k : Int} (hk : Wi k) {A9 : Option Addr} {c9 : Nat}
    (own : w'.ownsRow w1.heap.size 3 1 (.slice A9 (n.length + 1) c9) (n.length + 1) (n.map (Value.int .i64) ++ [.int .i64 k])) (F : Fr (Value.slice A7 n.length c7).ownBlock wr w') (nb : NewOr wr.heap.size (.slice A7 n.length c7) (.slice A9 (n.length + 1) c9)) :
    LifI E w1 w v5 v6 thr (n ++ [k]) i A9 c9 A8 c8 cs (w'.setCell ⟨w.heap.size, 1, none⟩ (.slice A9 (n.length + 1) c9)) := by
  have hz := h.f.size
  have hb := blk_lt h.bz
  have hn : (n ++ [k]).length = n.length + 1 := by simp
  have G := Fr.set1 w' ⟨w.heap.size, 1, none⟩ (.slice A9 (n.length + 1) c9)
  have hzF := F.size
  refine ⟨h.nrm.node nob_lt hk own F nb, (h.f.nwr h.nw F).own G (by simp), by rw [hn]; exact h.nw.next hz nb, h.n6, (h.bz.fr F h.e5).fr G (by simp), ?_, h.e6, TrsD.keep (do_step (Nat.le_trans hz hzF) G (by simp)) _ _ (TrsD.keep (do_step hz F (fun g e => h.nw.blk e)) _ _ h.tr)⟩
  rw [hn]
  intro e
  rcases nb with e' | ⟨g, e', hg⟩
  · exact h.e5 (e'.symm.trans e)
  · rw [e'] at e; injection e with e; omega
theorem LifI.inner {E : Nat → Prop} {w1 w wr w' : World} {v5 v6 : Value} {thr : Int} {n : List Int} {i : List Tr} {A7 : Option Addr} {c7 : Nat} {A8 : Option Addr} {c8 : Nat} {cs : List Value} (h : LifI E w1 w v5 v6 thr n i A7 c7 A8 c8 cs wr) {a b c : Value} {x : Tr} (hx : TrD wr (Do E w1 w v5 v6) (.agg #[a, b, c]) x) {A9 : Option Addr} {c9 : Nat}
    (own : w'.ownsRow w1.heap.size 31 3 (.slice A9 (i.length + 1) c9) (i.length + 1) (cs ++ [a, b, c])) (F : Fr (Value.slice A8 i.length c8).ownBlock wr w') (nb : NewOr wr.heap.size (.slice A8 i.length c8) (.slice A9 (i.length + 1) c9)) :
    LifI E w1 w v5 v6 thr n (i ++ [x]) A7 c7 A9 c9 (cs ++ [a, b, c]) (w'.setCell ⟨w.heap.size, 2, none⟩ (.slice A9 (i.length + 1) c9)) := by
  have hz := h.f.size
  have hb := blk_lt h.bz
  have hn : (i ++ [x]).length = i.length + 1 := by simp
  have G := Fr.set1 w' ⟨w.heap.size, 2, none⟩ (.slice A9 (i.length + 1) c9)
  have hzF := F.size
  have d1 := do_step (E := E) (w1 := w1) (v5 := v5) (v6 := v6) hz F (fun g e => .inr (h.n6 g e))
  have d2 := do_step (E := E) (w1 := w1) (v5 := v5) (v6 := v6) (Nat.le_trans hz hzF) G (by simp)
  have hx' : TrD wr (Dn2 Nob w1 wr w.heap.size (.slice A7 n.length c7) (.slice A8 i.length c8)) (.agg #[a, b, c]) x := TrD.keep (fun q hq => ⟨.inr ⟨hq.1, by have := hq.2.1; omega, by have := hq.2.1; omega, fun e => by
      rcases h.nw.blk e with e | e
      · exact hq.2.2.1 e
      · have := hq.2.1; omega, fun e => by have := h.n6 _ e; have := hq.2.1; omega⟩, rfl⟩) _ _ hx
  refine ⟨h.nrm.inner nob_lt hx' own F nb, (h.f.own F h.n6).own G (by simp), h.nw, ?_, (h.bz.fr F h.e6).fr G (by simp), h.e5, ?_, TrsD.append (TrsD.keep d2 _ _ (TrsD.keep d1 _ _ h.tr)) (by simp only [TrsD]; exact ⟨_, _, _, [], rfl, TrD.keep d2 _ _ (TrD.keep d1 _ _ hx), rfl⟩)⟩
  · rw [hn]
    intro g e
    rcases nb with e' | ⟨g', e', hg⟩
    · exact h.n6 g (e'.symm.trans e)
    · rw [e'] at e; injection e with e; omega
  · rw [hn]
    intro e
    rcases nb with e' | ⟨g, e', hg⟩
    · exact h.e6 (e'.symm.trans e)
    · rw [e'] at e; injection e with e; omega
theorem OwI.lif {E : Nat → Prop} {w1 w w' : World} {thr : Int} {n : List Int} {i : List Tr} {A5 : Option Addr} {c5 : Nat} {A6 : Option Addr} {c6 : Nat} {cells : List Value} (h : OwI E w1 n i A5 c5 A6 c6 cells w) (F : Fr none w w') (hb : TB w' w.heap.size (.int .i64 thr) (.slice A5 n.length c5) (.slice none 0 0)) (hz : TB w' (w.heap.size + 1) (.int .i64 0) (.slice none 0 0) (.slice none 0 0)) :
    LifI E w1 w (.slice A5 n.length c5) (.slice A6 i.length c6) thr n [] A5 c5 none 0 [] w' := by
  have hlt := h.own5.lt
  refine ⟨⟨h.fr.pure F, h.fr.size, hb, own_fr h.own5 F (by simp), fun e => by have := (hlt _ e).2; omega, h.wi, World.ownsRow_nil _ _ _ _, by simp [Value.ownBlock], fun _ _ => by simp [Value.ownBlock], by simp [TrsD]⟩, ?_, Nwr.refl _ _, by simp [Value.ownBlock], hz, fun e => by have := (hlt _ e).2; omega, by simp [Value.ownBlock], by simp [TrsD]⟩
  exact (Fr.refl _ _).pure F
theorem LifI.fin {E : Nat → Prop} {w1 w wr w' : World} {v5 v6 : Value} {thr : Int} {n : List Int} {i : List Tr} {A7 : Option Addr} {c7 : Nat} {A8 : Option Addr} {c8 : Nat} {cs : List Value} (h : LifI E w1 w v5 v6 thr n i A7 c7 A8 c8 cs wr) (G : Fr (some (w.heap.size + 1)) wr w') :
    RowsP E thr (n, i) w1 w v5 (.returned (.agg #[.int .i64 thr, .slice A7 n.length c7, .slice A8 i.length c8])) w' := by
  have hz := h.f.size
  have hz2 := G.size
  have hz1 := h.nrm.fr.size
  have hB := h.nrm.hB
  refine ⟨A7, c7, A8, c8, cs, rfl, ⟨h.nrm.fr.own G (by simp; omega), own_ne_fr h.nrm.own5 G (by simpa using h.e5), h.nrm.wi, own_ne_fr h.nrm.own6 G (by simpa using h.e6), h.nrm.dis, TrsD.keep (fun k hk => ?_) _ _ h.tr⟩, h.f.own G (by simp), h.nw, h.n6⟩
  have hk2 := hk.2.1
  refine ⟨⟨hk.1, by omega, fun e => ?_, fun e => by have := h.n6 _ e; omega, hk.2.2.2.2⟩, G.block k (by omega) (by simp; omega)⟩
  rcases h.nw.blk e with e | e
  · exact hk.2.2.1 e
  · omega

set_option maxRecDepth 100000 in
set_option maxHeartbeats 4000000 in
theorem lifted_any (E : Nat → Prop) (thr : Int) (n : List Int) (i : List Tr) (A5 : Option Addr) (c5 : Nat) (A6 : Option Addr) (c6 : Nat) (cells : List Value) (w1 w : World) (h : OwI E w1 n i A5 c5 A6 c6 cells w) (hsz : n.length + wgt i ≤ 900000) :
    Calls Tryz.prog 132 #[.agg #[.int .i64 thr, .slice A5 n.length c5, .slice A6 i.length c6]] w (RowsP E thr (i.foldl liftS (n, [])) w1 w (.slice A5 n.length c5)) := by
  obtain ⟨Y2, mm, d2, e2, r1, r2, r3, r4⟩ := SlD.own_eq h.own6
  injection e2 with a1 a2 a3
  subst a1 a2 a3
  unfold maxLen at r3
  have hil0 : i.length ≤ 900000 := by unfold wgt at hsz; omega
  have hz0 := h.fr.size
  have HO := Lib.hid h
  clear h r1
  go_enter Tryz.func132, Tryz.ntmps132
  go_wp2_with fail
  generalize hW : (w.alloc _).alloc _ = w0
  have F0 : Fr none w w0 := hW ▸ ((Fr.refl none w).alloc _).alloc _
  have hL0 := HO.out.lif F0 (thr := thr) (by rw [← hW]; exact (Below.heap_alloc _ _ _ (by simp)).trans (blk_new _ _)) (by rw [← hW]; exact blk_new_at (by simp) _)
  clear hW F0
  obtain ⟨wo, hwo⟩ : ∃ wo : World, wo = w0 := ⟨_, rfl⟩
  subst hwo
  go_loopw [11, 5] (fun s11 s5 wr => ∃ (j : Nat) (n' : List Int) (i' : List Tr) (A7 : Option Addr) (c7 : Nat) (A8 : Option Addr) (c8 : Nat) (cs : List Value), s11 = .int .i64 (j : Int) ∧ j ≤ i.length ∧ LifI E w1 w (.slice A5 n.length c5) (.slice A6 i.length c6) thr n' i' A7 c7 A8 c8 cs wr ∧
    Hid (i.foldl liftS (n, []) = (i.drop j).foldl liftS (n', i')) ∧ n'.length + wgt i' + wgt (i.drop j) ≤ 900000) (fun s11 _ _ => i.length - (intOf s11).toNat)
  case atStart => exact ⟨0, n, [], A5, c5, none, 0, [], rfl, Nat.zero_le _, hL0, by simp [Hid], by simp [wgt, sizeL] at hsz ⊢; omega⟩
  case round =>
    clear hL0
    obtain ⟨j, n', i', A7, c7, A8, c8, cs, rfl, hj, hL, HJ, hbd⟩ := hrel
    by_cases hlt : j < i.length
    · have hdj : i.drop j = i[j] :: i.drop (j + 1) := List.drop_eq_getElem_cons hlt
      obtain ⟨b, off, rfl, hb, hcc⟩ := r4 (by omega)
      obtain ⟨x0, y0, z0, e0, e1, e2, hy0⟩ := HO.out.trs.get j hlt
      have hdis : (Value.slice A5 n.length c5).ownBlock ≠ some b := fun e => HO.out.dis _ e hb.1
      rw [hdj] at HJ hbd
      rw [wgt_cons] at hbd
      generalize i[j] = x at *
      obtain ⟨tX, nX, iX⟩ := x
      rw [size_mk] at hbd
      have hyd := hy0
      simp only [TrD] at hy0
      obtain ⟨vnx, vix, cx, hsh, k0, q1, q2, q3, q4, q5, q6⟩ := hy0
      simp only [Value.agg.injEq, Array.mk.injEq, List.cons.injEq, and_true] at hsh
      obtain ⟨hsh0, hsh1, hsh2⟩ := hsh
      subst hsh0 hsh1 hsh2
      obtain ⟨X1, m1, k1, rfl, l1, l2, l3, l4⟩ := id q1
      obtain ⟨X2, m2, k2, rfl, r1', r2', r3', r4'⟩ := id q3
      have hlen := q6.len
      obtain rfl : m2 = iX.length := by omega
      obtain rfl : m1 = nX.length := by simpa using l1.symm
      unfold Few at q4 q5
      unfold maxLen at l3 r3'
      have g0 := hL.f.keep (hcc _ _ e0) (Ne.symm hdis)
      have g1 := hL.f.keep (hcc _ _ e1) (Ne.symm hdis)
      have g2 := hL.f.keep (hcc _ _ e2) (Ne.symm hdis)
      rw [← Nat.add_assoc] at g1 g2
      have HDS := Lib.hid hdis
      clear e0 e1 e2 hcc hdj hdis r1' r4' l1 hlen
      go_upto_region 6 with (fail)
      generalize hW : wr.alloc _ = wx
      have Fx : Fr none wr wx := hW ▸ (Fr.refl none wr).alloc _
      have bx : TB wx wr.heap.size (.int .i64 tX) (.slice X1 nX.length k1) (.slice X2 iX.length k2) := by rw [← hW]; exact blk_new _ _
      have hBr := blk_lt hL.bz
      clear hW g0 g1 g2
      have hLx := hL.pure Fx
      have hTx := TrD.keep (do_step (v5 := .slice A5 n.length c5) (v6 := .slice (some ⟨b, off, none⟩) i.length c6) (E := E) (w1 := w1) (Nat.le_refl _) hL.f (fun g e => .inl e)) _ _ hyd
      have hTx := TrD.keep (do_step (v5 := .slice A5 n.length c5) (v6 := .slice (some ⟨b, off, none⟩) i.length c6) (E := E) (w1 := w1) hL.f.size Fx (by simp)) _ _ hTx
      have hq1 := hL.f.size
      have hkd := fun k (hk : Do E w1 w (.slice A5 n.length c5) (.slice (some ⟨b, off, none⟩) i.length c6) k) => do_step (Nat.le_refl _) hL.f (fun g e => .inl e) k hk
      have HKD := Lib.hid hkd
      have bB := hLx.nrm.tb
      have hlx := blk_lt bx
      have hBx : w.heap.size < wx.heap.size := blk_lt bB
      have l4x : 0 < nX.length → ∃ bb oo, X1 = some ⟨bb, oo, none⟩ ∧ ∀ k u, (nX.map (Value.int .i64))[k]? = some u → wx.cell? ⟨bb, oo + k, none⟩ = some u := fun hn => by
        obtain ⟨bb, oo, e, hbb, hcy⟩ := l4 hn
        refine ⟨bb, oo, e, fun k u hu => ?_⟩
        have h1 := hL.f.keep (hcy k u hu) (fun e => hbb.2.2.1 e.symm)
        exact Fx.keep h1 (by simp)
      clear hL hkd l4 HKD
      obtain ⟨T, hT⟩ : ∃ T, T = lft n' (.mk tX nX iX) := ⟨_, rfl⟩
      go_cut [34] (fun s34 wq => ∃ U, s34 = .bool U ∧ U = T ∧ Fr none wx wq)
      case first =>
        by_cases hn1 : nX.length = 1
        · obtain ⟨y, rfl⟩ := List.length_eq_one_iff.1 hn1
          obtain ⟨bb, oo, rfl, hcy⟩ := l4x (by simp)
          have hcy0 := hcy 0 _ (by rfl)
          by_cases hi0 : iX.length = 0
          · obtain rfl : iX = [] := List.eq_nil_of_length_eq_zero hi0
            obtain ⟨hv, hhv⟩ : ∃ hv, hv = n'.any (fun x => decide (x = y)) := ⟨_, rfl⟩
            have hT2 : T = !hv := by rw [hT, hhv]; rfl
            have HHV := Lib.hid hhv
            have HT2 := Lib.hid hT2
            clear hhv hT hT2
            refine wp_region_held_drew (S := fun W => (∀ i, W.cell? ⟨wr.heap.size, i, none⟩ = (#[.int .i64 tX, .slice (some ⟨bb, oo, none⟩) 1 k1, .slice X2 0 k2] : Array Value)[i]?) ∧ (∀ k, W.cell? ⟨w.heap.size, k, none⟩ = (#[.int .i64 thr, .slice A7 n'.length c7, .slice A8 i'.length c8] : Array Value)[k]?) ∧ W.cell? ⟨bb, oo, none⟩ = some (.int .i64 y) ∧ Fr none wx W) (by kernel_rfl) ⟨bx.cell, bB.cell, hcy0, (Fr.refl _ _).drew⟩ (fun hH0 => ?_)
            refine wpAnyH_take (i := 0) (v := ?_) rfl (by kernel_rfl) (by kernel_rfl) (by kernel_rfl) (fun _ _ _ h => h) (Or.inl ⟨by rfl, ?_⟩) (by assumption) ?_
            rotate_left
            · (intro W hW; (try dsimp only at hW); go_simp; try with_reducible rfl)
            try simp only [Act.put, List.setIfInBounds_toArray, List.set_cons_zero, List.set_cons_succ, List.getElem_toArray, List.getElem_cons_zero, List.getElem_cons_succ]
            refine wpAnyH_take (i := 1) (v := ?_) rfl (by kernel_rfl) (by kernel_rfl) (by kernel_rfl) (fun _ _ _ h => h) (Or.inl ⟨by rfl, ?_⟩) (by assumption) ?_
            rotate_left
            · (intro W hW; (try dsimp only at hW); go_simp; try with_reducible rfl)
            try simp only [Act.put, List.setIfInBounds_toArray, List.set_cons_zero, List.set_cons_succ, List.getElem_toArray, List.getElem_cons_zero, List.getElem_cons_succ]
            refine wpAnyH_take (i := 2) (v := ?_) rfl (by kernel_rfl) (by kernel_rfl) (by kernel_rfl) (fun _ _ _ h => h) (Or.inl ⟨by rfl, ?_⟩) (by assumption) ?_
            rotate_left
            · (intro W hW; (try dsimp only at hW); go_simp; try with_reducible rfl)
            try simp only [Act.put, List.setIfInBounds_toArray, List.set_cons_zero, List.set_cons_succ, List.getElem_toArray, List.getElem_cons_zero, List.getElem_cons_succ]
            refine wpAnyH_take (i := 3) (v := ?_) rfl (by kernel_rfl) (by kernel_rfl) (by kernel_rfl) (fun _ _ _ h => h) (Or.inl ⟨by rfl, ?_⟩) (by assumption) ?_
            rotate_left
            · (intro W hW; (try dsimp only at hW); go_simp; try with_reducible rfl)
            try simp only [Act.put, List.setIfInBounds_toArray, List.set_cons_zero, List.set_cons_succ, List.getElem_toArray, List.getElem_cons_zero, List.getElem_cons_succ]
            refine wpAnyH_take (i := 4) (v := ?_) rfl (by kernel_rfl) (by kernel_rfl) (by kernel_rfl) (fun _ _ _ h => h) (Or.inl ⟨by rfl, ?_⟩) (by assumption) ?_
            rotate_left
            · (intro W hW; (try dsimp only at hW); go_simp; try with_reducible rfl)
            try simp only [Act.put, List.setIfInBounds_toArray, List.set_cons_zero, List.set_cons_succ, List.getElem_toArray, List.getElem_cons_zero, List.getElem_cons_succ]
            refine wpAnyH_take (i := 5) (v := ?_) rfl (by kernel_rfl) (by kernel_rfl) (by kernel_rfl) (fun _ _ _ h => h) (Or.inl ⟨by rfl, ?_⟩) (by assumption) ?_
            rotate_left
            · (intro W hW; (try dsimp only at hW); go_simp; try with_reducible rfl)
            try simp only [Act.put, List.setIfInBounds_toArray, List.set_cons_zero, List.set_cons_succ, List.getElem_toArray, List.getElem_cons_zero, List.getElem_cons_succ]
            refine wpAnyH_take (i := 6) (v := ?_) rfl (by kernel_rfl) (by kernel_rfl) (by kernel_rfl) (fun _ _ _ h => h) (Or.inl ⟨by rfl, ?_⟩) (by assumption) ?_
            rotate_left
            · (intro W hW; (try dsimp only at hW); go_simp; try with_reducible rfl)
            try simp only [Act.put, List.setIfInBounds_toArray, List.set_cons_zero, List.set_cons_succ, List.getElem_toArray, List.getElem_cons_zero, List.getElem_cons_succ]
            refine wpAnyH_take (i := 7) (v := ?_) rfl (by kernel_rfl) (by kernel_rfl) (by kernel_rfl) (fun _ _ _ h => h) (Or.inl ⟨by rfl, ?_⟩) (by assumption) ?_
            rotate_left
            · (intro W hW; (try dsimp only at hW); go_simp; try with_reducible rfl)
            try simp only [Act.put, List.setIfInBounds_toArray, List.set_cons_zero, List.set_cons_succ, List.getElem_toArray, List.getElem_cons_zero, List.getElem_cons_succ]
            refine wpAnyH_take (i := 8) (v := ?_) rfl (by kernel_rfl) (by kernel_rfl) (by kernel_rfl) (fun _ _ _ h => h) (Or.inl ⟨by rfl, ?_⟩) (by assumption) ?_
            rotate_left
            · (intro W hW; (try dsimp only at hW); go_simp; try with_reducible rfl)
            try simp only [Act.put, List.setIfInBounds_toArray, List.set_cons_zero, List.set_cons_succ, List.getElem_toArray, List.getElem_cons_zero, List.getElem_cons_succ]
            refine wpAnyH_take (i := 9) (v := ?_) rfl (by kernel_rfl) (by kernel_rfl) (by kernel_rfl) (fun _ _ _ h => h) (Or.inl ⟨by rfl, ?_⟩) (by assumption) ?_
            rotate_left
            · (intro W hW; (try dsimp only at hW); go_simp; try with_reducible rfl)
            try simp only [Act.put, List.setIfInBounds_toArray, List.set_cons_zero, List.set_cons_succ, List.getElem_toArray, List.getElem_cons_zero, List.getElem_cons_succ]
            refine wpAnyH_take (i := 10) (v := ?_) rfl (by kernel_rfl) (by kernel_rfl) (by kernel_rfl) (fun _ _ _ h => h) (Or.inl ⟨by rfl, ?_⟩) (by assumption) ?_
            rotate_left
            · (intro W hW; (try dsimp only at hW); go_simp; try with_reducible rfl)
            try simp only [Act.put, List.setIfInBounds_toArray, List.set_cons_zero, List.set_cons_succ, List.getElem_toArray, List.getElem_cons_zero, List.getElem_cons_succ]
            refine wpAnyH_take (i := 11) (v := ?_) rfl (by kernel_rfl) (by kernel_rfl) (by kernel_rfl) (fun _ _ _ h => h) (Or.inl ⟨by rfl, ?_⟩) (by assumption) ?_
            rotate_left
            · (intro W hW; (try dsimp only at hW); go_simp; try with_reducible rfl)
            try simp only [Act.put, List.setIfInBounds_toArray, List.set_cons_zero, List.set_cons_succ, List.getElem_toArray, List.getElem_cons_zero, List.getElem_cons_succ]
            refine wpAnyH_take (i := 12) (v := ?_) rfl (by kernel_rfl) (by kernel_rfl) (by kernel_rfl) (fun _ _ _ h => h) (Or.inl ⟨by rfl, ?_⟩) (by assumption) ?_
            rotate_left
            · (intro W hW; (try dsimp only at hW); go_simp; try with_reducible rfl)
            try simp only [Act.put, List.setIfInBounds_toArray, List.set_cons_zero, List.set_cons_succ, List.getElem_toArray, List.getElem_cons_zero, List.getElem_cons_succ]
            refine wpAnyH_take (i := 13) (v := ?_) rfl (by kernel_rfl) (by kernel_rfl) (by kernel_rfl) (fun _ _ _ h => h) (Or.inl ⟨by rfl, ?_⟩) (by assumption) ?_
            rotate_left
            · (intro W hW; (try dsimp only at hW); go_simp; try with_reducible rfl)
            try simp only [Act.put, List.setIfInBounds_toArray, List.set_cons_zero, List.set_cons_succ, List.getElem_toArray, List.getElem_cons_zero, List.getElem_cons_succ]
            refine wpAnyH_take (i := 14) (v := ?_) rfl (by kernel_rfl) (by kernel_rfl) (by kernel_rfl) (fun _ _ _ h => h) (Or.inl ⟨by rfl, ?_⟩) (by assumption) ?_
            rotate_left
            · (intro W hW; (try dsimp only at hW); go_simp; try with_reducible rfl)
            try simp only [Act.put, List.setIfInBounds_toArray, List.set_cons_zero, List.set_cons_succ, List.getElem_toArray, List.getElem_cons_zero, List.getElem_cons_succ]
            refine wpAnyH_take (i := 15) (v := ?_) rfl (by kernel_rfl) (by kernel_rfl) (by kernel_rfl) (fun _ _ _ h => h) (Or.inl ⟨by rfl, ?_⟩) (by assumption) ?_
            rotate_left
            · (intro W hW; (try dsimp only at hW); go_simp; try with_reducible rfl)
            try simp only [Act.put, List.setIfInBounds_toArray, List.set_cons_zero, List.set_cons_succ, List.getElem_toArray, List.getElem_cons_zero, List.getElem_cons_succ]
            refine wpAnyH_take (i := 16) (v := ?_) rfl (by kernel_rfl) (by kernel_rfl) (by kernel_rfl) (fun _ _ _ h => h) (Or.inl ⟨by rfl, ?_⟩) (by assumption) ?_
            rotate_left
            · (intro W hW; (try dsimp only at hW); go_simp; try with_reducible rfl)
            try simp only [Act.put, List.setIfInBounds_toArray, List.set_cons_zero, List.set_cons_succ, List.getElem_toArray, List.getElem_cons_zero, List.getElem_cons_succ]
            refine wpAnyH_ready (rs := [17]) (by kernel_rfl) (by simp) ?_
            refine AllReadyH.cons rfl (fun K hK => ?_) AllReadyH.nil
            simp only [List.getElem_toArray, List.getElem_cons_zero, List.getElem_cons_succ]
            go_simp
            go_at_call 178
            refine (contains_any n' y _ _ none (SlI.of_own (own_fr hLx.nrm.own5 hH0.2.2.2 (by simp)) (by simp) hLx.nrm.wi)).mono ?_
            rintro e wq ⟨rfl, rfl⟩
            rw [← HHV.out]
            refine hK.out _ _ hH0 (fun hH1 => ?_)
            clear hK K hH0
            try simp only [Act.put, List.setIfInBounds_toArray, List.set_cons_zero, List.set_cons_succ, List.getElem_toArray, List.getElem_cons_zero, List.getElem_cons_succ]
            refine wpAnyH_take (i := 18) (v := ?_) rfl (by kernel_rfl) (by kernel_rfl) (by kernel_rfl) (fun _ _ _ h => h) (Or.inl ⟨by rfl, ?_⟩) (by assumption) ?_
            rotate_left
            · (intro W hW; (try dsimp only at hW); go_simp; try with_reducible rfl)
            try simp only [Act.put, List.setIfInBounds_toArray, List.set_cons_zero, List.set_cons_succ, List.getElem_toArray, List.getElem_cons_zero, List.getElem_cons_succ]
            refine wpAnyH_take (i := 19) (v := ?_) rfl (by kernel_rfl) (by kernel_rfl) (by kernel_rfl) (fun _ _ _ h => h) (Or.inl ⟨by rfl, ?_⟩) (by assumption) ?_
            rotate_left
            · (intro W hW; (try dsimp only at hW); go_simp; try with_reducible rfl)
            try simp only [Act.put, List.setIfInBounds_toArray, List.set_cons_zero, List.set_cons_succ, List.getElem_toArray, List.getElem_cons_zero, List.getElem_cons_succ]
            refine wpAnyH_done (by kernel_rfl) ?_ _
            go_wp2_with fail
            go_meet
            exact ⟨_, rfl, HT2.out.symm, hH1.2.2.2⟩
          · have hb0 : ((iX.length : Int) == 0) = false := by rw [beq_eq_false_iff_ne]; omega
            have hT2 : T = false := by
              rw [hT]
              cases iX with
              | nil => exact absurd rfl hi0
              | cons a r => rfl
            subst hT2
            clear hi0 hT
            refine wp_region_held_drew (S := fun W => (∀ i, W.cell? ⟨wr.heap.size, i, none⟩ = (#[.int .i64 tX, .slice (some ⟨bb, oo, none⟩) 1 k1, .slice X2 iX.length k2] : Array Value)[i]?) ∧ Fr none wx W) (by kernel_rfl) ⟨bx.cell, (Fr.refl _ _).drew⟩ (fun hH0 => ?_)
            refine wpAnyH_take (i := 0) (v := ?_) rfl (by kernel_rfl) (by kernel_rfl) (by kernel_rfl) (fun _ _ _ h => h) (Or.inl ⟨by rfl, ?_⟩) (by assumption) ?_
            rotate_left
            · (intro W hW; (try dsimp only at hW); go_simp; try with_reducible rfl)
            try simp only [Act.put, List.setIfInBounds_toArray, List.set_cons_zero, List.set_cons_succ, List.getElem_toArray, List.getElem_cons_zero, List.getElem_cons_succ]
            refine wpAnyH_take (i := 1) (v := ?_) rfl (by kernel_rfl) (by kernel_rfl) (by kernel_rfl) (fun _ _ _ h => h) (Or.inl ⟨by rfl, ?_⟩) (by assumption) ?_
            rotate_left
            · (intro W hW; (try dsimp only at hW); go_simp; try with_reducible rfl)
            try simp only [Act.put, List.setIfInBounds_toArray, List.set_cons_zero, List.set_cons_succ, List.getElem_toArray, List.getElem_cons_zero, List.getElem_cons_succ]
            refine wpAnyH_take (i := 2) (v := ?_) rfl (by kernel_rfl) (by kernel_rfl) (by kernel_rfl) (fun _ _ _ h => h) (Or.inl ⟨by rfl, ?_⟩) (by assumption) ?_
            rotate_left
            · (intro W hW; (try dsimp only at hW); go_simp; try with_reducible rfl)
            try simp only [Act.put, List.setIfInBounds_toArray, List.set_cons_zero, List.set_cons_succ, List.getElem_toArray, List.getElem_cons_zero, List.getElem_cons_succ]
            refine wpAnyH_take (i := 3) (v := ?_) rfl (by kernel_rfl) (by kernel_rfl) (by kernel_rfl) (fun _ _ _ h => h) (Or.inl ⟨by rfl, ?_⟩) (by assumption) ?_
            rotate_left
            · (intro W hW; (try dsimp only at hW); go_simp; try with_reducible rfl)
            try simp only [Act.put, List.setIfInBounds_toArray, List.set_cons_zero, List.set_cons_succ, List.getElem_toArray, List.getElem_cons_zero, List.getElem_cons_succ]
            refine wpAnyH_take (i := 4) (v := ?_) rfl (by kernel_rfl) (by kernel_rfl) (by kernel_rfl) (fun _ _ _ h => h) (Or.inl ⟨by rfl, ?_⟩) (by assumption) ?_
            rotate_left
            · (intro W hW; (try dsimp only at hW); go_simp; try with_reducible rfl)
            try simp only [Act.put, List.setIfInBounds_toArray, List.set_cons_zero, List.set_cons_succ, List.getElem_toArray, List.getElem_cons_zero, List.getElem_cons_succ]
            refine wpAnyH_take (i := 5) (v := ?_) rfl (by kernel_rfl) (by kernel_rfl) (by kernel_rfl) (fun _ _ _ h => h) (Or.inl ⟨by rfl, ?_⟩) (by assumption) ?_
            rotate_left
            · (intro W hW; (try dsimp only at hW); go_simp; try with_reducible rfl)
            try simp only [Act.put, List.setIfInBounds_toArray, List.set_cons_zero, List.set_cons_succ, List.getElem_toArray, List.getElem_cons_zero, List.getElem_cons_succ]
            refine wpAnyH_take (i := 6) (v := ?_) rfl (by kernel_rfl) (by kernel_rfl) (by kernel_rfl) (fun _ _ _ h => h) (Or.inl ⟨by rfl, ?_⟩) (by assumption) ?_
            rotate_left
            · (intro W hW; (try dsimp only at hW); go_simp; try with_reducible rfl)
            try simp only [Act.put, List.setIfInBounds_toArray, List.set_cons_zero, List.set_cons_succ, List.getElem_toArray, List.getElem_cons_zero, List.getElem_cons_succ]
            refine wpAnyH_take (i := 7) (v := ?_) rfl (by kernel_rfl) (by kernel_rfl) (by kernel_rfl) (fun _ _ _ h => h) (Or.inl ⟨by rfl, ?_⟩) (by assumption) ?_
            rotate_left
            · (intro W hW; (try dsimp only at hW); go_simp; try with_reducible rfl)
            try simp only [Act.put, List.setIfInBounds_toArray, List.set_cons_zero, List.set_cons_succ, List.getElem_toArray, List.getElem_cons_zero, List.getElem_cons_succ]
            refine wpAnyH_take (i := 8) (v := ?_) rfl (by kernel_rfl) (by kernel_rfl) (by kernel_rfl) (fun _ _ _ h => h) (Or.inl ⟨by rfl, ?_⟩) (by assumption) ?_
            rotate_left
            · (intro W hW; (try dsimp only at hW); go_simp; try with_reducible rfl)
            try simp only [Act.put, List.setIfInBounds_toArray, List.set_cons_zero, List.set_cons_succ, List.getElem_toArray, List.getElem_cons_zero, List.getElem_cons_succ]
            refine wpAnyH_take (i := 9) (v := ?_) rfl (by kernel_rfl) (by kernel_rfl) (by kernel_rfl) (fun _ _ _ h => h) (Or.inl ⟨by rfl, ?_⟩) (by assumption) ?_
            rotate_left
            · (intro W hW; (try dsimp only at hW); go_simp; try with_reducible rfl)
            try simp only [Act.put, List.setIfInBounds_toArray, List.set_cons_zero, List.set_cons_succ, List.getElem_toArray, List.getElem_cons_zero, List.getElem_cons_succ]
            refine wpAnyH_take (i := 10) (v := ?_) rfl (by kernel_rfl) (by kernel_rfl) (by kernel_rfl) (fun _ _ _ h => h) (Or.inl ⟨by rfl, ?_⟩) (by assumption) ?_
            rotate_left
            · (intro W hW; (try dsimp only at hW); go_simp; try with_reducible rfl)
            try simp only [Act.put, List.setIfInBounds_toArray, List.set_cons_zero, List.set_cons_succ, List.getElem_toArray, List.getElem_cons_zero, List.getElem_cons_succ]
            refine wpAnyH_take (i := 11) (v := undef) rfl (by kernel_rfl) (by kernel_rfl) (by kernel_rfl) (fun _ _ _ h => h) (Or.inr ⟨by rfl, rfl⟩) (by assumption) ?_
            try simp only [Act.put, List.setIfInBounds_toArray, List.set_cons_zero, List.set_cons_succ, List.getElem_toArray, List.getElem_cons_zero, List.getElem_cons_succ]
            refine wpAnyH_take (i := 12) (v := undef) rfl (by kernel_rfl) (by kernel_rfl) (by kernel_rfl) (fun _ _ _ h => h) (Or.inr ⟨by rfl, rfl⟩) (by assumption) ?_
            try simp only [Act.put, List.setIfInBounds_toArray, List.set_cons_zero, List.set_cons_succ, List.getElem_toArray, List.getElem_cons_zero, List.getElem_cons_succ]
            refine wpAnyH_take (i := 13) (v := undef) rfl (by kernel_rfl) (by kernel_rfl) (by kernel_rfl) (fun _ _ _ h => h) (Or.inr ⟨by rfl, rfl⟩) (by assumption) ?_
            try simp only [Act.put, List.setIfInBounds_toArray, List.set_cons_zero, List.set_cons_succ, List.getElem_toArray, List.getElem_cons_zero, List.getElem_cons_succ]
            refine wpAnyH_take (i := 14) (v := undef) rfl (by kernel_rfl) (by kernel_rfl) (by kernel_rfl) (fun _ _ _ h => h) (Or.inr ⟨by rfl, rfl⟩) (by assumption) ?_
            try simp only [Act.put, List.setIfInBounds_toArray, List.set_cons_zero, List.set_cons_succ, List.getElem_toArray, List.getElem_cons_zero, List.getElem_cons_succ]
            refine wpAnyH_take (i := 15) (v := undef) rfl (by kernel_rfl) (by kernel_rfl) (by kernel_rfl) (fun _ _ _ h => h) (Or.inr ⟨by rfl, rfl⟩) (by assumption) ?_
            try simp only [Act.put, List.setIfInBounds_toArray, List.set_cons_zero, List.set_cons_succ, List.getElem_toArray, List.getElem_cons_zero, List.getElem_cons_succ]
            refine wpAnyH_take (i := 16) (v := undef) rfl (by kernel_rfl) (by kernel_rfl) (by kernel_rfl) (fun _ _ _ h => h) (Or.inr ⟨by rfl, rfl⟩) (by assumption) ?_
            try simp only [Act.put, List.setIfInBounds_toArray, List.set_cons_zero, List.set_cons_succ, List.getElem_toArray, List.getElem_cons_zero, List.getElem_cons_succ]
            refine wpAnyH_take (i := 17) (v := undef) rfl (by kernel_rfl) (by kernel_rfl) (by kernel_rfl) (fun _ _ _ h => h) (Or.inr ⟨by rfl, rfl⟩) (by assumption) ?_
            try simp only [Act.put, List.setIfInBounds_toArray, List.set_cons_zero, List.set_cons_succ, List.getElem_toArray, List.getElem_cons_zero, List.getElem_cons_succ]
            refine wpAnyH_take (i := 18) (v := undef) rfl (by kernel_rfl) (by kernel_rfl) (by kernel_rfl) (fun _ _ _ h => h) (Or.inr ⟨by rfl, rfl⟩) (by assumption) ?_
            try simp only [Act.put, List.setIfInBounds_toArray, List.set_cons_zero, List.set_cons_succ, List.getElem_toArray, List.getElem_cons_zero, List.getElem_cons_succ]
            refine wpAnyH_take (i := 19) (v := ?_) rfl (by kernel_rfl) (by kernel_rfl) (by kernel_rfl) (fun _ _ _ h => h) (Or.inl ⟨by rfl, ?_⟩) (by assumption) ?_
            rotate_left
            · (intro W hW; (try dsimp only at hW); go_simp; try with_reducible rfl)
            try simp only [Act.put, List.setIfInBounds_toArray, List.set_cons_zero, List.set_cons_succ, List.getElem_toArray, List.getElem_cons_zero, List.getElem_cons_succ]
            refine wpAnyH_done (by kernel_rfl) ?_ _
            go_wp2_with fail
            go_meet
            exact ⟨_, rfl, rfl, hH0.2⟩
        · have hb1 : ((nX.length : Int) == 1) = false := by rw [beq_eq_false_iff_ne]; omega
          have hT2 : T = false := by
            rw [hT]
            rcases nX with _ | ⟨k, _ | ⟨k2, r⟩⟩
            · rfl
            · exact absurd rfl hn1
            · rfl
          subst hT2
          clear hn1 hT
          refine wp_region_held_drew (S := fun W => (∀ i, W.cell? ⟨wr.heap.size, i, none⟩ = (#[.int .i64 tX, .slice X1 nX.length k1, .slice X2 iX.length k2] : Array Value)[i]?) ∧ Fr none wx W) (by kernel_rfl) ⟨bx.cell, (Fr.refl _ _).drew⟩ (fun hH0 => ?_)
          refine wpAnyH_take (i := 0) (v := ?_) rfl (by kernel_rfl) (by kernel_rfl) (by kernel_rfl) (fun _ _ _ h => h) (Or.inl ⟨by rfl, ?_⟩) (by assumption) ?_
          rotate_left
          · (intro W hW; (try dsimp only at hW); go_simp; try with_reducible rfl)
          try simp only [Act.put, List.setIfInBounds_toArray, List.set_cons_zero, List.set_cons_succ, List.getElem_toArray, List.getElem_cons_zero, List.getElem_cons_succ]
          refine wpAnyH_take (i := 1) (v := ?_) rfl (by kernel_rfl) (by kernel_rfl) (by kernel_rfl) (fun _ _ _ h => h) (Or.inl ⟨by rfl, ?_⟩) (by assumption) ?_
          rotate_left
          · (intro W hW; (try dsimp only at hW); go_simp; try with_reducible rfl)
          try simp only [Act.put, List.setIfInBounds_toArray, List.set_cons_zero, List.set_cons_succ, List.getElem_toArray, List.getElem_cons_zero, List.getElem_cons_succ]
          refine wpAnyH_take (i := 2) (v := ?_) rfl (by kernel_rfl) (by kernel_rfl) (by kernel_rfl) (fun _ _ _ h => h) (Or.inl ⟨by rfl, ?_⟩) (by assumption) ?_
          rotate_left
          · (intro W hW; (try dsimp only at hW); go_simp; try with_reducible rfl)
          try simp only [Act.put, List.setIfInBounds_toArray, List.set_cons_zero, List.set_cons_succ, List.getElem_toArray, List.getElem_cons_zero, List.getElem_cons_succ]
          refine wpAnyH_take (i := 3) (v := ?_) rfl (by kernel_rfl) (by kernel_rfl) (by kernel_rfl) (fun _ _ _ h => h) (Or.inl ⟨by rfl, ?_⟩) (by assumption) ?_
          rotate_left
          · (intro W hW; (try dsimp only at hW); go_simp; try with_reducible rfl)
          try simp only [Act.put, List.setIfInBounds_toArray, List.set_cons_zero, List.set_cons_succ, List.getElem_toArray, List.getElem_cons_zero, List.getElem_cons_succ]
          refine wpAnyH_take (i := 4) (v := ?_) rfl (by kernel_rfl) (by kernel_rfl) (by kernel_rfl) (fun _ _ _ h => h) (Or.inl ⟨by rfl, ?_⟩) (by assumption) ?_
          rotate_left
          · (intro W hW; (try dsimp only at hW); go_simp; try with_reducible rfl)
          try simp only [Act.put, List.setIfInBounds_toArray, List.set_cons_zero, List.set_cons_succ, List.getElem_toArray, List.getElem_cons_zero, List.getElem_cons_succ]
          refine wpAnyH_take (i := 5) (v := undef) rfl (by kernel_rfl) (by kernel_rfl) (by kernel_rfl) (fun _ _ _ h => h) (Or.inr ⟨by rfl, rfl⟩) (by assumption) ?_
          try simp only [Act.put, List.setIfInBounds_toArray, List.set_cons_zero, List.set_cons_succ, List.getElem_toArray, List.getElem_cons_zero, List.getElem_cons_succ]
          refine wpAnyH_take (i := 6) (v := undef) rfl (by kernel_rfl) (by kernel_rfl) (by kernel_rfl) (fun _ _ _ h => h) (Or.inr ⟨by rfl, rfl⟩) (by assumption) ?_
          try simp only [Act.put, List.setIfInBounds_toArray, List.set_cons_zero, List.set_cons_succ, List.getElem_toArray, List.getElem_cons_zero, List.getElem_cons_succ]
          refine wpAnyH_take (i := 7) (v := undef) rfl (by kernel_rfl) (by kernel_rfl) (by kernel_rfl) (fun _ _ _ h => h) (Or.inr ⟨by rfl, rfl⟩) (by assumption) ?_
          try simp only [Act.put, List.setIfInBounds_toArray, List.set_cons_zero, List.set_cons_succ, List.getElem_toArray, List.getElem_cons_zero, List.getElem_cons_succ]
          refine wpAnyH_take (i := 8) (v := undef) rfl (by kernel_rfl) (by kernel_rfl) (by kernel_rfl) (fun _ _ _ h => h) (Or.inr ⟨by rfl, rfl⟩) (by assumption) ?_
          try simp only [Act.put, List.setIfInBounds_toArray, List.set_cons_zero, List.set_cons_succ, List.getElem_toArray, List.getElem_cons_zero, List.getElem_cons_succ]
          refine wpAnyH_take (i := 9) (v := ?_) rfl (by kernel_rfl) (by kernel_rfl) (by kernel_rfl) (fun _ _ _ h => h) (Or.inl ⟨by rfl, ?_⟩) (by assumption) ?_
          rotate_left
          · (intro W hW; (try dsimp only at hW); go_simp; try with_reducible rfl)
          try simp only [Act.put, List.setIfInBounds_toArray, List.set_cons_zero, List.set_cons_succ, List.getElem_toArray, List.getElem_cons_zero, List.getElem_cons_succ]
          refine wpAnyH_take (i := 10) (v := ?_) rfl (by kernel_rfl) (by kernel_rfl) (by kernel_rfl) (fun _ _ _ h => h) (Or.inl ⟨by rfl, ?_⟩) (by assumption) ?_
          rotate_left
          · (intro W hW; (try dsimp only at hW); go_simp; try with_reducible rfl)
          try simp only [Act.put, List.setIfInBounds_toArray, List.set_cons_zero, List.set_cons_succ, List.getElem_toArray, List.getElem_cons_zero, List.getElem_cons_succ]
          refine wpAnyH_take (i := 11) (v := undef) rfl (by kernel_rfl) (by kernel_rfl) (by kernel_rfl) (fun _ _ _ h => h) (Or.inr ⟨by rfl, rfl⟩) (by assumption) ?_
          try simp only [Act.put, List.setIfInBounds_toArray, List.set_cons_zero, List.set_cons_succ, List.getElem_toArray, List.getElem_cons_zero, List.getElem_cons_succ]
          refine wpAnyH_take (i := 12) (v := undef) rfl (by kernel_rfl) (by kernel_rfl) (by kernel_rfl) (fun _ _ _ h => h) (Or.inr ⟨by rfl, rfl⟩) (by assumption) ?_
          try simp only [Act.put, List.setIfInBounds_toArray, List.set_cons_zero, List.set_cons_succ, List.getElem_toArray, List.getElem_cons_zero, List.getElem_cons_succ]
          refine wpAnyH_take (i := 13) (v := undef) rfl (by kernel_rfl) (by kernel_rfl) (by kernel_rfl) (fun _ _ _ h => h) (Or.inr ⟨by rfl, rfl⟩) (by assumption) ?_
          try simp only [Act.put, List.setIfInBounds_toArray, List.set_cons_zero, List.set_cons_succ, List.getElem_toArray, List.getElem_cons_zero, List.getElem_cons_succ]
          refine wpAnyH_take (i := 14) (v := undef) rfl (by kernel_rfl) (by kernel_rfl) (by kernel_rfl) (fun _ _ _ h => h) (Or.inr ⟨by rfl, rfl⟩) (by assumption) ?_
          try simp only [Act.put, List.setIfInBounds_toArray, List.set_cons_zero, List.set_cons_succ, List.getElem_toArray, List.getElem_cons_zero, List.getElem_cons_succ]
          refine wpAnyH_take (i := 15) (v := undef) rfl (by kernel_rfl) (by kernel_rfl) (by kernel_rfl) (fun _ _ _ h => h) (Or.inr ⟨by rfl, rfl⟩) (by assumption) ?_
          try simp only [Act.put, List.setIfInBounds_toArray, List.set_cons_zero, List.set_cons_succ, List.getElem_toArray, List.getElem_cons_zero, List.getElem_cons_succ]
          refine wpAnyH_take (i := 16) (v := undef) rfl (by kernel_rfl) (by kernel_rfl) (by kernel_rfl) (fun _ _ _ h => h) (Or.inr ⟨by rfl, rfl⟩) (by assumption) ?_
          try simp only [Act.put, List.setIfInBounds_toArray, List.set_cons_zero, List.set_cons_succ, List.getElem_toArray, List.getElem_cons_zero, List.getElem_cons_succ]
          refine wpAnyH_take (i := 17) (v := undef) rfl (by kernel_rfl) (by kernel_rfl) (by kernel_rfl) (fun _ _ _ h => h) (Or.inr ⟨by rfl, rfl⟩) (by assumption) ?_
          try simp only [Act.put, List.setIfInBounds_toArray, List.set_cons_zero, List.set_cons_succ, List.getElem_toArray, List.getElem_cons_zero, List.getElem_cons_succ]
          refine wpAnyH_take (i := 18) (v := undef) rfl (by kernel_rfl) (by kernel_rfl) (by kernel_rfl) (fun _ _ _ h => h) (Or.inr ⟨by rfl, rfl⟩) (by assumption) ?_
          try simp only [Act.put, List.setIfInBounds_toArray, List.set_cons_zero, List.set_cons_succ, List.getElem_toArray, List.getElem_cons_zero, List.getElem_cons_succ]
          refine wpAnyH_take (i := 19) (v := ?_) rfl (by kernel_rfl) (by kernel_rfl) (by kernel_rfl) (fun _ _ _ h => h) (Or.inl ⟨by rfl, ?_⟩) (by assumption) ?_
          rotate_left
          · (intro W hW; (try dsimp only at hW); go_simp; try with_reducible rfl)
          try simp only [Act.put, List.setIfInBounds_toArray, List.set_cons_zero, List.set_cons_succ, List.getElem_toArray, List.getElem_cons_zero, List.getElem_cons_succ]
          refine wpAnyH_done (by kernel_rfl) ?_ _
          go_wp2_with fail
          go_meet
          exact ⟨_, rfl, rfl, hH0.2⟩
      case rest =>
        obtain ⟨U, rfl, hU, Fq⟩ := hcut
        obtain ⟨wq, hwq⟩ : ∃ wq : World, wq = wc := ⟨_, rfl⟩
        subst hwq
        have hLq := hLx.pure Fq
        have bxq := bx.fr Fq (by simp)
        have hlxq := blk_lt bxq
        have hTq := TrD.keep (do_step hLx.f.size Fq (by simp)) _ _ hTx
        have tb := hLq.nrm.tb
        have hBq := blk_lt tb
        have RB := tb.cell
        have ZB := tb.free
        have Rx := bxq.cell
        have hnl : n'.length ≤ 900000 := by omega
        have hil : i'.length ≤ 900000 := by unfold wgt at hbd; omega
        have hz1q := hLq.nrm.fr.size
        subst hU
        have HT := Lib.hid hT
        clear hT bx hLx hTx bB
        cases U with
        | false =>
          have own6 := hLq.nrm.own6
          have ne6 := hLq.nrm.ne6
          go_wp2_with (at_builtin; refine app_lit eiTrust rfl _ _ rfl w1.heap.size A8 i'.length c8 _ rfl own6 1 [.int .i64 tX, .slice X1 nX.length k1, .slice X2 iX.length k2] _ _ rfl (by simp) rfl (by simp [Value.oneCell']) (by omega) (by unfold maxLen; omega) (by omega) ?_; intro A9 c9 w7 own7 F7 nb7; have K7 := tb.fr F7 ne6; have R7 := K7.cell; have Z7 := K7.free)
          go_roundw
          case rel =>
            exact ⟨j + 1, n', i' ++ [.mk tX nX iX], A7, c7, A9, c9, _, by go_num, by omega, hLq.inner hTq own7 F7 nb7, by unfold Hid; rw [HJ.out, List.foldl_cons, liftS_at, if_neg (by rw [← HT.out]; simp)], by rw [wgt_append, wgt_one, size_mk]; omega⟩
          case measure => simp [intOf]; omega
        | true =>
          obtain ⟨y, rfl, rfl, hny⟩ : ∃ y, nX = [y] ∧ iX = [] ∧ n'.any (fun z => decide (z = y)) = false := by
            have h := HT.out
            unfold lft at h
            simp only [Tr.nodes, Tr.inner] at h
            rcases nX with _ | ⟨y, _ | ⟨y2, r⟩⟩
            · simp at h
            · cases iX with
              | nil => exact ⟨y, rfl, rfl, by simpa using h⟩
              | cons a r => simp at h
            · simp at h
          obtain ⟨bb, oo, rfl, hcy⟩ := l4x (by simp)
          have hcx : wq.cell? ⟨bb, oo, none⟩ = some (.int .i64 y) := Fq.keep (hcy 0 _ rfl) (by simp)
          have hyw : Wi y := q2 y (by simp)
          have own5 := hLq.nrm.own5.drew
          have hLd := hLq.pure ((Fr.refl none wq).drew)
          have ne5 := hLq.nrm.ne5
          have hsh : TB wq.drew w.heap.size (.int .i64 thr) (.slice A7 n'.length c7) (.slice A8 i'.length c8) := hLd.nrm.tb
          clear hcy hny
          go_upto_region 7 with (fail)
          go_region_law (refine step_app_lit eiInt rfl _ _ rfl w1.heap.size A7 n'.length c7 _ rfl own5 1 [.int .i64 y] 3 _ rfl (by simp) rfl (by simp [Value.oneCell']) (by omega) (by unfold maxLen; omega) (by have := hLd.nrm.fr.size; omega) ?_; intro A9 c9 w7 own7 F7 nb7; have K7 := hsh.fr F7 ne5; have R7 := K7.cell; have Z7 := K7.free)
          all_goals
            go_wp2_with fail
            go_roundw
            case rel =>
              have hln : (n' ++ [y]).length = n'.length + 1 := by simp
              exact ⟨j + 1, n' ++ [y], i', A9, c9, A8, c8, cs, by go_num, by omega, hLd.node hyw own7 F7 nb7, by unfold Hid; rw [HJ.out, List.foldl_cons, liftS_at, if_pos HT.out.symm]; rfl, by rw [hln]; simp at hbd; omega⟩
            case measure => simp [intOf]; omega
    · obtain rfl : j = i.length := by omega
      have HF : Hid (i.foldl liftS (n, []) = (n', i')) := by unfold Hid; rw [HJ.out]; simp
      have tb := hL.nrm.tb
      have RB := tb.cell
      have hBlt := blk_lt tb
      have bz := hL.bz
      have Rz := bz.cell
      have Zz := bz.free
      have hlz := blk_lt bz
      clear HJ
      go_wp2_with fail
      refine bodyPost_ret (v := .agg #[.int .i64 thr, .slice A7 n'.length c7, .slice A8 i'.length c8]) (by simp [results, Tryz.results132, go_sem, RB, Rz]) rfl ?_
      rw [HF.out]
      exact hL.fin (fr_fill3 wr (w.heap.size + 1) _ _ _)
end Go.Proofs.YtpdhckbiioobhaaGreatDoor

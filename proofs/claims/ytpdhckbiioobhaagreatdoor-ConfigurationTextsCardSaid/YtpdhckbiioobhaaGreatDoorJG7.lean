/- Some texts of this claim, joined: contracts of the functions that it reaches, and plain laws. -/
import Derived.Test.YtpdhckbiioobhaaGreatDoorJG6

set_option linter.unusedSimpArgs false
set_option linter.unusedVariables false
/- Walks: the reference's count and merged. -/
namespace Go.Proofs.YtpdhckbiioobhaaGreatDoor
open Go.RowKit

theorem size_mk' (thr : Int) (n : List Int) (i : List Tr) : (Tr.mk thr n i).size = n.length + wgt i := by simp only [Tr.size, wgt]; omega
theorem TrD.drew' {w : World} {D : Nat → Prop} {v : Value} {t : Tr} (h : TrD w D v t) : TrD w.drew D v t := TrD.keep (w := w) (w' := w.drew) (fun q (hq : D q) => ⟨hq, (rfl : w.drew.heap[q]? = w.heap[q]?)⟩) t v h
theorem rcount_any (t : Tr) (v : Value) (w : World) (D : Nat → Prop) (h : TrD w D v t) : Calls Tryz.prog 157 #[v] w fun e w' => e = .returned (.int .i64 ((cnt1 t : Nat) : Int)) ∧ Fr none w w' := by
  obtain ⟨thr, nodes, inner⟩ := t
  simp only [TrD] at h
  obtain ⟨vn, vi, cells, rfl, h0, h1, h2, h3, h4, h5, h6⟩ := h
  obtain ⟨A, n, c, rfl, hl, hnc, hm, hx⟩ := h1
  obtain ⟨A', n', c', rfl, hl', hnc', hm', hx'⟩ := h3
  have hlen := h6.len
  obtain rfl : n' = inner.length := by omega
  obtain rfl : n = nodes.length := by simpa using hl.symm
  unfold Few at h4 h5
  have HE : Hid (cnt1 (.mk thr nodes inner) = nodes.length + inner.length) := rfl
  clear hl hl' hlen hx hx' hm hm'
  go_enter Tryz.func157, Tryz.ntmps157
  go_wp2
  go_ret
  exact ⟨ret_int (by rw [HE.out]; omega), (Fr.refl _ _).alloc _⟩

theorem own_base {w : World} {b b' : Nat} {e : TypeId} {size n : Nat} {v : Value} {xs : List Value} (h : w.ownsRow b e size v n xs) (hb : b' ≤ b) : w.ownsRow b' e size v n xs := by
  refine ⟨h.1, ?_⟩
  rcases h.2 with h0 | ⟨g, cap, cur, hv, hg, rest⟩
  · exact .inl h0
  · exact .inr ⟨g, cap, cur, hv, by omega, rest⟩
theorem own_ne_fr {w w' : World} {base : Nat} {e : TypeId} {size n g : Nat} {v : Value} {xs : List Value} (h : w.ownsRow base e size v n xs) (f : Fr (some g) w w') (hr : v.ownBlock ≠ some g) : w'.ownsRow base e size v n xs := by
  refine h.kept f ?_
  cases hv : v.ownBlock with
  | none => exact .inl rfl
  | some k => exact .inr fun e => hr (hv.trans e)
theorem tb_fill3 {w : World} {b : Nat} {z0 z1 z2 : Value} (h : TB w b z0 z1 z2) (x0 x1 x2 : Value) : TB (((w.setCell ⟨b, 0, none⟩ x0).setCell ⟨b, 1, none⟩ x1).setCell ⟨b, 2, none⟩ x2) b x0 x1 x2 := by
  have := blk_set (blk_set (blk_set h 0 x0) 1 x1) 2 x2
  simpa [TB] using this
/-- A trust that is being made: its block, its own row of nodes. -/
def OutI (w1 : World) (thr : Int) (nodes : List Int) (s : Value) (wr : World) : Prop := ∃ (B : Nat) (A5 : Option Addr) (c5 : Nat), s = .pointer (some ⟨B, 0, none⟩) ∧
  Fr none w1 wr ∧ w1.heap.size ≤ B ∧ TB wr B (.int .i64 thr) (.slice A5 nodes.length c5) (.slice none 0 0) ∧ wr.ownsRow w1.heap.size 3 1 (.slice A5 nodes.length c5) nodes.length (nodes.map (Value.int .i64)) ∧ (Value.slice A5 nodes.length c5).ownBlock ≠ some B
theorem own_lit0' {w : World} {e : TypeId} {size B g : Nat} (h : w.heap[g]? = some (.cells #[] e (0, 0))) (hB : B ≤ g) : w.ownsRow B e size (.slice (some ⟨g, 0, none⟩) 0 0) 0 [] :=
  ⟨by simp, .inr ⟨g, 0, #[], rfl, hB, h, Nat.le_refl _, by unfold maxLen; omega, by simp, by simp⟩⟩
theorem step_app_copy {P : Program} {t e : TypeId} {size bytes : Nat} (E : EInfo P t e size bytes) {w : World} {ops : Array Oper} {o : Oper} {a : Act} {K : Act → World → Prop} {Q : Exit → Act → World → Prop} {E' : Prop} (hgd : o.guard = none) (s x : Operand)
    (ho : o.op = .call { callee := .builtin .append, args := #[s, x], argTypes := #[t, t] })
    (g : Nat) (hs : a.eval s = .slice (some ⟨g, 0, none⟩) 0 0) (hg : w.heap[g]? = some (.cells #[] e (0, 0)))
    (B : Option Addr) (m d : Nat) (news : List Value) (hx : a.eval x = .slice B m d) (hr : SlD w (fun _ => True) size (.slice B m d) news) (h1 : ∀ u ∈ news, u.oneCell' = true) (hb : m * bytes ≤ 140737488355328) (h63 : m ≤ maxLen)
    (h : ∀ A' c' w', w'.ownsRow g e size (.slice A' m c') m news → Fr (some g) w w' → NewOr w.heap.size (.slice (some ⟨g, 0, none⟩) 0 0) (.slice A' m c') → K (a.put o.dst (.slice A' m c')) w') :
    if Region.wanted o (yielded ops a.tmps) = true then Oper.wp P o a w K Q else E' := by
  have hw : Region.wanted o (yielded ops a.tmps) = true := by simp [Region.wanted, hgd]
  rw [if_pos hw]
  have hgl := blk_lt hg
  obtain ⟨A', c', w', hr, h2, h3, h4⟩ := app_run (P := P) (ty := o.type) E w g (some ⟨g, 0, none⟩) 0 0 [] (own_lit0' hg (Nat.le_refl _)) B m d news hr h1 (by rw [Nat.zero_add]; exact hb) (by omega) (by omega)
  rw [Nat.zero_add] at hr h2 h4
  unfold Oper.wp execOp
  simp only [ho, resolve, invoke, builtin, Sem.run_bind, Sem.run_pure, Result.andThen_ok, List.map_toArray, List.map_cons, List.map_nil, hs, hx, hr]
  refine h A' c' w' (by simpa using h2) h3 ?_
  rcases h4 with bl' | bl'
  · exact .inl bl'
  · exact .inr ⟨_, bl', Nat.le_refl _⟩

/-- The blocks D, and those laid since w1 but for B and the row of v. -/
def Dv (D : Nat → Prop) (w1 wr : World) (B : Nat) (v : Value) : Nat → Prop := fun b => D b ∨ (w1.heap.size ≤ b ∧ b < wr.heap.size ∧ b ≠ B ∧ v.ownBlock ≠ some b)
/-- The trust that is being made, with its row of nodes and its inner trusts. -/
def MrgI (D : Nat → Prop) (w1 : World) (thr : Int) (B : Nat) (n : List Int) (i : List Tr) (A5 : Option Addr) (c5 : Nat) (A6 : Option Addr) (c6 : Nat) (wr : World) : Prop :=
  Fr none w1 wr ∧ w1.heap.size ≤ B ∧ TB wr B (.int .i64 thr) (.slice A5 n.length c5) (.slice A6 i.length c6) ∧ wr.ownsRow w1.heap.size 3 1 (.slice A5 n.length c5) n.length (n.map (Value.int .i64)) ∧ (Value.slice A5 n.length c5).ownBlock ≠ some B ∧ (∀ x ∈ n, Wi x) ∧ (A6 = none → c6 = 0) ∧
    ∃ cells, SlD wr (Dv D w1 wr B (.slice A5 n.length c5)) 3 (.slice A6 i.length c6) cells ∧ TrsD wr (Dv D w1 wr B (.slice A5 n.length c5)) cells i
theorem MrgI.pure {D : Nat → Prop} {w1 wr w' : World} {thr : Int} {B : Nat} {n : List Int} {i : List Tr} {A5 : Option Addr} {c5 : Nat} {A6 : Option Addr} {c6 : Nat} (hD : ∀ b, D b → b < w1.heap.size) (h : MrgI D w1 thr B n i A5 c5 A6 c6 wr) (F : Fr none wr w') : MrgI D w1 thr B n i A5 c5 A6 c6 w' := by
  obtain ⟨h1, h2, h3, h4, h5, h6, h7, cells, h8, h9⟩ := h
  have k : ∀ b, Dv D w1 wr B (.slice A5 n.length c5) b → Dv D w1 w' B (.slice A5 n.length c5) b ∧ w'.heap[b]? = wr.heap[b]? := fun b hb => by
    have hz := F.size
    have hz1 := h1.size
    refine ⟨?_, F.block b ?_ (by simp)⟩
    · rcases hb with hb | hb
      · exact .inl hb
      · exact .inr ⟨hb.1, by omega, hb.2.2⟩
    · rcases hb with hb | hb
      · have := hD b hb; omega
      · exact hb.2.1
  exact ⟨h1.pure F, h2, h3.fr F (by simp), own_fr h4 F (by simp), h5, h6, h7, cells, h8.keep k, TrsD.keep k _ _ h9⟩
/-- One node more. -/
theorem MrgI.node {D : Nat → Prop} {w1 wr w' : World} {thr : Int} {B : Nat} {n : List Int} {i : List Tr} {A5 : Option Addr} {c5 : Nat} {A6 : Option Addr} {c6 : Nat} (hD : ∀ b, D b → b < w1.heap.size) (h : MrgI D w1 thr B n i A5 c5 A6 c6 wr) {k : Int} (hk : Wi k) {A7 : Option Addr} {c7 : Nat}
    (own : w'.ownsRow w1.heap.size 3 1 (.slice A7 (n.length + 1) c7) (n.length + 1) (n.map (Value.int .i64) ++ [.int .i64 k])) (F : Fr (Value.slice A5 n.length c5).ownBlock wr w') (nb : NewOr wr.heap.size (.slice A5 n.length c5) (.slice A7 (n.length + 1) c7)) :
    MrgI D w1 thr B (n ++ [k]) i A7 c7 A6 c6 (w'.setCell ⟨B, 1, none⟩ (.slice A7 (n.length + 1) c7)) := by
  obtain ⟨h1, h2, h3, h4, h5, h6, h7, cells, h8, h9⟩ := h
  have hlt := blk_lt h3
  have hn : (n ++ [k]).length = n.length + 1 := by simp
  have og := own_blk_ge h4
  have ol := h4.lt
  have b1 := h3.fr F h5
  have G := Fr.set1 w' ⟨B, 1, none⟩ (.slice A7 (n.length + 1) c7)
  have hne : (Value.slice A7 (n.length + 1) c7).ownBlock ≠ some B := fun e => by
    rcases nb with e' | ⟨g, e', hg⟩
    · exact h5 (e'.symm.trans e)
    · rw [e'] at e; injection e with e; omega
  have b2 : TB (w'.setCell ⟨B, 1, none⟩ (.slice A7 (n.length + 1) c7)) B (.int .i64 thr) (.slice A7 (n.length + 1) c7) (.slice A6 i.length c6) := b1.set1 _
  have hz := F.size
  have hz1 := h1.size
  have hz2 := G.size
  have own2 := own_ne_fr own G (by simpa using hne)
  generalize World.setCell w' _ _ = w2 at *
  have kk : ∀ b, Dv D w1 wr B (.slice A5 n.length c5) b → Dv D w1 w2 B (.slice A7 (n.length + 1) c7) b ∧ w2.heap[b]? = wr.heap[b]? := fun b hb => by
    have hb2 : b < wr.heap.size ∧ (Value.slice A5 n.length c5).ownBlock ≠ some b ∧ b ≠ B := by
      rcases hb with hb | hb
      · have := hD b hb
        exact ⟨by omega, fun e => by have := og b e; omega, by omega⟩
      · exact ⟨hb.2.1, hb.2.2.2, hb.2.2.1⟩
    refine ⟨?_, (G.block b (by omega) (fun e => hb2.2.2 (by injection e))).trans (F.block b hb2.1 (fun e => hb2.2.1 e.symm))⟩
    rcases hb with hb | hb
    · exact .inl hb
    · refine .inr ⟨hb.1, by omega, hb.2.2.1, fun e => ?_⟩
      rcases nb with e' | ⟨g, e', hg⟩
      · exact hb2.2.1 (e'.symm.trans e)
      · rw [e'] at e; injection e with e; omega
  refine ⟨(h1.own F (fun g hg => by have := og g hg; omega)).own G (by simp; omega), h2, by rw [hn]; exact b2, by rw [hn, List.map_append]; exact own2, by rw [hn]; exact hne, fun x hx => ?_, h7, cells, by rw [hn]; exact h8.keep kk, by rw [hn]; exact TrsD.keep kk _ _ h9⟩
  rcases List.mem_append.1 hx with hx | hx
  · exact h6 x hx
  · simp only [List.mem_singleton] at hx; exact hx ▸ hk
/-- The inner trusts anew. -/
theorem MrgI.with_ {D : Nat → Prop} {w1 wr w' : World} {thr : Int} {B : Nat} {n : List Int} {i : List Tr} {A5 : Option Addr} {c5 : Nat} {A6 : Option Addr} {c6 : Nat} (hD : ∀ b, D b → b < w1.heap.size) (h : MrgI D w1 thr B n i A5 c5 A6 c6 wr) {x : Tr} {A7 : Option Addr} {c7 : Nat} {cells : List Value} (hA : A7 = none → c7 = 0)
    (hs : SlD w' (Dw (Dv D w1 wr B (.slice A5 n.length c5)) wr w') 3 (.slice A7 (withT i x).length c7) cells) (ht : TrsD w' (Dw (Dv D w1 wr B (.slice A5 n.length c5)) wr w') cells (withT i x)) (F : Fr none wr w') :
    MrgI D w1 thr B n (withT i x) A5 c5 A7 c7 (w'.setCell ⟨B, 2, none⟩ (.slice A7 (withT i x).length c7)) := by
  obtain ⟨h1, h2, h3, h4, h5, h6, h7, _, _, _⟩ := h
  have hlt := blk_lt h3
  have og := own_blk_ge h4
  have ol := h4.lt
  have b1 := h3.fr F (by simp)
  have own1 := own_fr h4 F (by simp)
  have G := Fr.set1 w' ⟨B, 2, none⟩ (.slice A7 (withT i x).length c7)
  have b2 : TB (w'.setCell ⟨B, 2, none⟩ (.slice A7 (withT i x).length c7)) B (.int .i64 thr) (.slice A5 n.length c5) (.slice A7 (withT i x).length c7) := b1.set2 _
  have hz := F.size
  have hz1 := h1.size
  have hz2 := G.size
  have own2 := own_ne_fr own1 G (by simpa using h5)
  generalize World.setCell w' _ _ = w2 at *
  have kk : ∀ b, Dw (Dv D w1 wr B (.slice A5 n.length c5)) wr w' b → Dv D w1 w2 B (.slice A5 n.length c5) b ∧ w2.heap[b]? = w'.heap[b]? := fun b hb => by
    have hb2 : b < w'.heap.size ∧ b ≠ B ∧ Dv D w1 w2 B (.slice A5 n.length c5) b := by
      rcases hb with (hb | hb) | hb
      · have := hD b hb
        exact ⟨by omega, by omega, .inl hb⟩
      · exact ⟨by omega, hb.2.2.1, .inr ⟨hb.1, by omega, hb.2.2⟩⟩
      · exact ⟨hb.2, by omega, .inr ⟨by omega, by omega, by omega, fun e => by have := (ol b e).2; omega⟩⟩
    exact ⟨hb2.2.2, G.block b hb2.1 (fun e => hb2.2.1 (by injection e))⟩
  exact ⟨(h1.pure F).own G (by simp; omega), h2, b2, own2, h5, h6, hA, cells, hs.keep kk, TrsD.keep kk _ _ ht⟩

theorem MrgI.fin {D : Nat → Prop} {w w1 wr wz : World} {thr th : Int} {B : Nat} {n : List Int} {i : List Tr} {A5 : Option Addr} {c5 : Nat} {A6 : Option Addr} {c6 : Nat} {r : Option Nat} (hD : ∀ b, D b → b < w.heap.size) (hz : w.heap.size + 2 ≤ w1.heap.size) (F1 : Fr none w w1) (h : MrgI D w1 thr B n i A5 c5 A6 c6 wr)
    (FS : Fr r wr wz) (hr : ∀ b, r = some b → b = B) (hth : Wi th) (hn : n.length ≤ 1073741824) (hi : i.length ≤ 1073741824) {w6 : World} (G : Fr (some (w.heap.size + 1)) wz w6) :
    TrD w6 (Dw D w w6) (.agg #[.int .i64 th, .slice A5 n.length c5, .slice A6 i.length c6]) (.mk th n i) ∧ Fr none w w6 := by
  obtain ⟨h1, h2, h3, h4, h5, h6, h7, cells, h8, h9⟩ := h
  have hlt := blk_lt h3
  have og := own_blk_ge h4
  have ol := h4.lt
  have z1 := h1.size
  have z2 := FS.size
  have z3 := G.size
  have z0 := F1.size
  have k2 : ∀ b, Dv D w1 wr B (.slice A5 n.length c5) b → Dw D w w6 b ∧ w6.heap[b]? = wr.heap[b]? := fun b hb => by
    have hb2 : b < wr.heap.size ∧ b ≠ B ∧ b ≠ w.heap.size + 1 ∧ Dw D w w6 b := by
      rcases hb with hb | hb
      · have := hD b hb
        exact ⟨by omega, by omega, by omega, .inl hb⟩
      · exact ⟨hb.2.1, hb.2.2.1, by omega, .inr ⟨by omega, by omega⟩⟩
    exact ⟨hb2.2.2.2, (G.block b (by omega) (fun e => hb2.2.2.1 (by injection e))).trans (FS.block b hb2.1 (fun e => hb2.2.1 (hr b e.symm)))⟩
  have own2 : w6.ownsRow w1.heap.size 3 1 (.slice A5 n.length c5) n.length (n.map (Value.int .i64)) := by
    have a1 : wz.ownsRow w1.heap.size 3 1 (.slice A5 n.length c5) n.length (n.map (Value.int .i64)) := by
      cases r with
      | none => exact own_fr h4 FS (by simp)
      | some g => exact own_ne_fr h4 FS (by rw [hr g rfl]; exact h5)
    exact own_ne_fr a1 G (fun e => by have := og _ e; omega)
  refine ⟨TrD.mk_ hth ((SlD.own_dn own2).keep (fun k hk => ⟨.inr ⟨by have := hk.1; omega, hk.2⟩, rfl⟩)) h6 (h8.keep k2) hn hi (TrsD.keep k2 _ _ h9), ((F1.pure h1).own FS (fun b hb => by have := hr b hb; omega)).own G (by simp)⟩

set_option maxRecDepth 100000 in
set_option maxHeartbeats 4000000 in
theorem rmerged_any (thr : Int) (nodes : List Int) (inner : List Tr) (all : Bool) (v : Value) (D : Nat → Prop) (w : World) (hD : ∀ b, D b → b < w.heap.size) (hsz : nodes.length + wgt inner ≤ 1000000) (ht : TrD w D v (.mk thr nodes inner)) :
    Calls Tryz.prog 156 #[v, .bool all] w fun e w' => ∃ v', e = .returned v' ∧ TrD w' (Dw D w w') v' (mergedT thr (nodes, inner) all) ∧ Fr none w w' := by
  simp only [TrD] at ht
  obtain ⟨vn, vi, cells, rfl, h0, h1, h2, h3, h4, h5, h6⟩ := ht
  obtain ⟨A, n, c, rfl, hl, hnc, hm, hx⟩ := id h1
  obtain ⟨A', n', c', rfl, hl', hnc', hm', hx'⟩ := id h3
  have hlen := h6.len
  obtain rfl : n' = inner.length := by omega
  obtain rfl : n = nodes.length := by simpa using hl.symm
  unfold Few at h4 h5
  unfold maxLen at hm hm'
  have HD := Lib.hid hD
  clear hl hl' hlen hD hx
  go_enter Tryz.func156, Tryz.ntmps156
  go_upto_region 1 with (fail)
  generalize hW : (w.alloc _).alloc _ = w1
  have hz1 : w.heap.size + 2 ≤ w1.heap.size := by rw [← hW]; simp
  have F1 : Fr none w w1 := hW ▸ ((Fr.refl none w).alloc _).alloc _
  have b2 : TB w1 w.heap.size (.int .i64 thr) (.slice A nodes.length c) (.slice A' inner.length c') := by rw [← hW]; exact (Below.heap_alloc _ _ _ (by simp)).trans (blk_new _ _)
  have b4 : TB w1 (w.heap.size + 1) (.int .i64 0) (.slice none 0 0) (.slice none 0 0) := by rw [← hW]; exact blk_new_at (by simp) _
  clear hW
  have hs1 : SlD w1 (fun b => b < w1.heap.size) 1 (.slice A nodes.length c) (nodes.map (Value.int .i64)) := h1.keep (fun q hq => ⟨by have := HD.out q hq; omega, F1.block q (HD.out q hq) (by simp)⟩)
  have h1c : ∀ u ∈ nodes.map (Value.int .i64), u.oneCell' = true := fun u hu => by
    obtain ⟨x, _, rfl⟩ := List.mem_map.1 hu
    simp [Value.oneCell']
  have H1C := Lib.hid h1c
  clear h1c
  go_cut [5, 12, 13, 14, 15, 16, 17, 18] (fun s5 _ _ _ _ _ _ _ wr => OutI w1 thr nodes s5 wr)
  case first =>
    refine wp_region_held_drew (S := fun W => (∀ i, W.cell? ⟨w.heap.size, i, none⟩ = (#[.int .i64 thr, .slice A nodes.length c, .slice A' inner.length c'] : Array Value)[i]?) ∧ Fr none w1 W) (by kernel_rfl) ⟨b2.cell, (Fr.refl _ _).drew⟩ (fun hH0 => ?_)
    have Fd : Fr none w1 w1.drew := (Fr.refl _ _).drew
    have Kd : TB w1.drew w.heap.size (.int .i64 thr) (.slice A nodes.length c) (.slice A' inner.length c') := b2
    have hsd : SlD w1.drew (fun b => b < w1.heap.size) 1 (.slice A nodes.length c) (nodes.map (Value.int .i64)) := hs1.keep (w := w1) (w' := w1.drew) (fun q (hq : q < w1.heap.size) => ⟨hq, (rfl : w1.drew.heap[q]? = w1.heap[q]?)⟩)
    have hzd1 : w1.heap.size ≤ w1.drew.heap.size := Nat.le_refl w1.heap.size
    have hzd2 : w1.drew.heap.size ≤ w1.heap.size := Nat.le_refl w1.heap.size
    generalize w1.drew = wd at *
    refine wpAnyH_take (i := 0) (v := ?_) rfl (by kernel_rfl) (by kernel_rfl) (by kernel_rfl) (fun _ _ _ h => h) (Or.inl ⟨by rfl, ?_⟩) (by assumption) ?_
    rotate_left
    · (intro W hW; (try dsimp only at hW); go_simp; try with_reducible rfl)
    try simp only [Act.put, List.setIfInBounds_toArray, List.set_cons_zero, List.set_cons_succ, List.getElem_toArray, List.getElem_cons_zero, List.getElem_cons_succ]
    refine wpAnyH_take (i := 1) (v := ?_) rfl (by kernel_rfl) (by kernel_rfl) (by kernel_rfl) (fun _ _ _ h => h) (Or.inl ⟨by rfl, ?_⟩) (by assumption) ?_
    rotate_left
    · (intro W hW; (try dsimp only at hW); go_simp; try with_reducible rfl)
    try simp only [Act.put, List.setIfInBounds_toArray, List.set_cons_zero, List.set_cons_succ, List.getElem_toArray, List.getElem_cons_zero, List.getElem_cons_succ]
    refine wpAnyH_take (i := 3) (v := ?_) rfl (by kernel_rfl) (by kernel_rfl) (by kernel_rfl) (fun _ _ _ h => h) (Or.inl ⟨by rfl, ?_⟩) (by assumption) ?_
    rotate_left
    · (intro W hW; (try dsimp only at hW); go_simp; try with_reducible rfl)
    try simp only [Act.put, List.setIfInBounds_toArray, List.set_cons_zero, List.set_cons_succ, List.getElem_toArray, List.getElem_cons_zero, List.getElem_cons_succ]
    refine wpAnyH_take (i := 4) (v := ?_) rfl (by kernel_rfl) (by kernel_rfl) (by kernel_rfl) (fun _ _ _ h => h) (Or.inl ⟨by rfl, ?_⟩) (by assumption) ?_
    rotate_left
    · (intro W hW; (try dsimp only at hW); go_simp; try with_reducible rfl)
    try simp only [Act.put, List.setIfInBounds_toArray, List.set_cons_zero, List.set_cons_succ, List.getElem_toArray, List.getElem_cons_zero, List.getElem_cons_succ]
    refine wpAnyH_ready (rs := [2, 7]) (by kernel_rfl) (by simp) ?_
    refine AllReadyH.cons rfl (fun K hK => ?_) (AllReadyH.cons rfl (fun K hK => ?_) AllReadyH.nil)
    · -- the empty row first
      simp only [List.getElem_toArray, List.getElem_cons_zero, List.getElem_cons_succ]
      go_simp
      have FL := (Fr.refl none wd).alloc (.cells #[] 3)
      refine hK.out _ _ ⟨(Kd.fr FL (by simp)).cell, Fd.pure FL⟩ (fun hH1 => ?_)
      clear hK K hH0
      try simp only [Act.put, List.setIfInBounds_toArray, List.set_cons_zero, List.set_cons_succ, List.getElem_toArray, List.getElem_cons_zero, List.getElem_cons_succ]
      refine wpAnyH_ready (rs := [5, 7]) (by kernel_rfl) (by simp) ?_
      refine AllReadyH.cons rfl (fun K hK => ?_) (AllReadyH.cons rfl (fun K hK => ?_) AllReadyH.nil)
      · simp only [List.getElem_toArray, List.getElem_cons_zero, List.getElem_cons_succ]
        refine step_tm rfl ?_
        refine step_app_copy eiInt rfl _ _ rfl wd.heap.size rfl (blk_new wd _) A nodes.length c _ rfl (hsd.keep (fun q hq => ⟨trivial, FL.block q (by omega) (by simp)⟩)) H1C.out (by omega) (by unfold maxLen; omega) ?_
        intro A5 c5 w5 own5 F5 nb5
        have F6 : Fr none wd w5 := FL.own F5 (by simp)
        have F7 := Fd.pure F6
        refine hK.out _ _ ⟨(Kd.fr F6 (by simp)).cell, F7⟩ (fun hH2 => ?_)
        clear hK K hH1
        try simp only [Act.put, List.setIfInBounds_toArray, List.set_cons_zero, List.set_cons_succ, List.getElem_toArray, List.getElem_cons_zero, List.getElem_cons_succ]
        refine wpAnyH_take (i := 6) (v := ?_) rfl (by kernel_rfl) (by kernel_rfl) (by kernel_rfl) (fun _ _ _ h => h) (Or.inl ⟨by rfl, ?_⟩) (by assumption) ?_
        rotate_left
        · (intro W hW; (try dsimp only at hW); go_simp; try with_reducible rfl)
        try simp only [Act.put, List.setIfInBounds_toArray, List.set_cons_zero, List.set_cons_succ, List.getElem_toArray, List.getElem_cons_zero, List.getElem_cons_succ]
        refine wpAnyH_ready (rs := [7]) (by kernel_rfl) (by simp) ?_
        refine AllReadyH.cons rfl (fun K hK => ?_) AllReadyH.nil
        simp only [List.getElem_toArray, List.getElem_cons_zero, List.getElem_cons_succ]
        go_simp
        have FA := F7.alloc (.cells #[.int .i64 0, .slice none 0 0, .slice none 0 0] 31)
        refine hK.out _ _ ⟨(b2.fr FA (by simp)).cell, FA⟩ (fun hH3 => ?_)
        clear hK K hH2
        try simp only [Act.put, List.setIfInBounds_toArray, List.set_cons_zero, List.set_cons_succ, List.getElem_toArray, List.getElem_cons_zero, List.getElem_cons_succ]
        refine wpAnyH_ready (rs := [8]) (by kernel_rfl) (by simp) ?_
        refine AllReadyH.cons rfl (fun K hK => ?_) AllReadyH.nil
        simp only [List.getElem_toArray, List.getElem_cons_zero, List.getElem_cons_succ]
        go_simp
        have FB := F7.alloc (.cells #[.int .i64 thr, .slice A5 nodes.length c5, .slice none 0 0] 31)
        refine hK.out _ _ ⟨(b2.fr FB (by simp)).cell, FB⟩ (fun hH4 => ?_)
        clear hK K hH3
        try simp only [Act.put, List.setIfInBounds_toArray, List.set_cons_zero, List.set_cons_succ, List.getElem_toArray, List.getElem_cons_zero, List.getElem_cons_succ]
        refine wpAnyH_done (by kernel_rfl) ?_ _
        go_wp2_with fail
        go_meet
        exact ⟨w5.heap.size, A5, c5, rfl, FB, F7.size, blk_new _ _, own_base (own5.alloc _) (by omega), fun h => by have := (own5.lt _ h).2; omega⟩
      · simp only [List.getElem_toArray, List.getElem_cons_zero, List.getElem_cons_succ]
        go_simp
        have FA := FL.alloc (.cells #[.int .i64 0, .slice none 0 0, .slice none 0 0] 31)
        refine hK.out _ _ ⟨(Kd.fr FA (by simp)).cell, Fd.pure FA⟩ (fun hH2 => ?_)
        clear hK K hH1
        try simp only [Act.put, List.setIfInBounds_toArray, List.set_cons_zero, List.set_cons_succ, List.getElem_toArray, List.getElem_cons_zero, List.getElem_cons_succ]
        refine wpAnyH_ready (rs := [5]) (by kernel_rfl) (by simp) ?_
        refine AllReadyH.cons rfl (fun K hK => ?_) AllReadyH.nil
        simp only [List.getElem_toArray, List.getElem_cons_zero, List.getElem_cons_succ]
        refine step_tm rfl ?_
        refine step_app_copy eiInt rfl _ _ rfl wd.heap.size rfl ((Below.heap_alloc _ _ _ (by simp)).trans (blk_new wd _)) A nodes.length c _ rfl (hsd.keep (fun q hq => ⟨trivial, FA.block q (by omega) (by simp)⟩)) H1C.out (by omega) (by unfold maxLen; omega) ?_
        intro A5 c5 w5 own5 F5 nb5
        have F6 : Fr none wd w5 := FA.own F5 (by simp)
        have F7 := Fd.pure F6
        have hb0 : TB w5 (wd.heap.size + 1) (.int .i64 0) (.slice none 0 0) (.slice none 0 0) := blk_fr (blk_new_at (by simp) _) F5 (by simp)
        have hne : (Value.slice A5 nodes.length c5).ownBlock ≠ some (wd.heap.size + 1) := fun h => by
          rcases nb5 with e | ⟨g, e, hg⟩
          · rw [e] at h; simp [Value.ownBlock] at h
          · rw [e] at h; injection h with h; simp at hg; omega
        refine hK.out _ _ ⟨(Kd.fr F6 (by simp)).cell, F7⟩ (fun hH3 => ?_)
        clear hK K hH2
        try simp only [Act.put, List.setIfInBounds_toArray, List.set_cons_zero, List.set_cons_succ, List.getElem_toArray, List.getElem_cons_zero, List.getElem_cons_succ]
        refine wpAnyH_take (i := 6) (v := ?_) rfl (by kernel_rfl) (by kernel_rfl) (by kernel_rfl) (fun _ _ _ h => h) (Or.inl ⟨by rfl, ?_⟩) (by assumption) ?_
        rotate_left
        · (intro W hW; (try dsimp only at hW); go_simp; try with_reducible rfl)
        try simp only [Act.put, List.setIfInBounds_toArray, List.set_cons_zero, List.set_cons_succ, List.getElem_toArray, List.getElem_cons_zero, List.getElem_cons_succ]
        have Rz := hb0.cell
        have Zz := hb0.free
        refine wpAnyH_ready (rs := [8]) (by kernel_rfl) (by simp) ?_
        refine AllReadyH.cons rfl (fun K hK => ?_) AllReadyH.nil
        simp only [List.getElem_toArray, List.getElem_cons_zero, List.getElem_cons_succ]
        go_simp
        have G := fr_fill3 w5 (wd.heap.size + 1) (.int .i64 thr) (.slice A5 nodes.length c5) (.slice none 0 0)
        have hbf := tb_fill3 hb0 (.int .i64 thr) (.slice A5 nodes.length c5) (.slice none 0 0)
        have FB := F7.own G (by simp; omega)
        refine hK.out _ _ ⟨(b2.fr FB (by simp)).cell, FB⟩ (fun hH4 => ?_)
        clear hK K hH3 Rz Zz
        try simp only [Act.put, List.setIfInBounds_toArray, List.set_cons_zero, List.set_cons_succ, List.getElem_toArray, List.getElem_cons_zero, List.getElem_cons_succ]
        refine wpAnyH_done (by kernel_rfl) ?_ _
        go_wp2_with fail
        go_meet
        exact ⟨wd.heap.size + 1, A5, c5, rfl, FB, by omega, hbf, own_base (own_ne_fr own5 G (by simpa using hne)) (by omega), hne⟩
    · simp only [List.getElem_toArray, List.getElem_cons_zero, List.getElem_cons_succ]
      go_simp
      have FA := (Fr.refl none wd).alloc (.cells #[.int .i64 0, .slice none 0 0, .slice none 0 0] 31)
      refine hK.out _ _ ⟨(Kd.fr FA (by simp)).cell, Fd.pure FA⟩ (fun hH1 => ?_)
      clear hK K hH0
      try simp only [Act.put, List.setIfInBounds_toArray, List.set_cons_zero, List.set_cons_succ, List.getElem_toArray, List.getElem_cons_zero, List.getElem_cons_succ]
      refine wpAnyH_ready (rs := [2]) (by kernel_rfl) (by simp) ?_
      refine AllReadyH.cons rfl (fun K hK => ?_) AllReadyH.nil
      simp only [List.getElem_toArray, List.getElem_cons_zero, List.getElem_cons_succ]
      go_simp
      have FL := FA.alloc (.cells #[] 3)
      refine hK.out _ _ ⟨(Kd.fr FL (by simp)).cell, Fd.pure FL⟩ (fun hH2 => ?_)
      clear hK K hH1
      try simp only [Act.put, List.setIfInBounds_toArray, List.set_cons_zero, List.set_cons_succ, List.getElem_toArray, List.getElem_cons_zero, List.getElem_cons_succ]
      refine wpAnyH_ready (rs := [5]) (by kernel_rfl) (by simp) ?_
      refine AllReadyH.cons rfl (fun K hK => ?_) AllReadyH.nil
      simp only [List.getElem_toArray, List.getElem_cons_zero, List.getElem_cons_succ]
      refine step_tm rfl ?_
      refine step_app_copy eiInt rfl _ _ rfl (wd.heap.size + 1) rfl (blk_new_at (by simp) _) A nodes.length c _ rfl (hsd.keep (fun q hq => ⟨trivial, FL.block q (by omega) (by simp)⟩)) H1C.out (by omega) (by unfold maxLen; omega) ?_
      intro A5 c5 w5 own5 F5 nb5
      have F6 : Fr none wd w5 := FL.own F5 (fun q h => by injection h with h; omega)
      have F7 := Fd.pure F6
      have hb0 : TB w5 wd.heap.size (.int .i64 0) (.slice none 0 0) (.slice none 0 0) := blk_fr ((Below.heap_alloc _ _ _ (by simp)).trans (blk_new wd _)) F5 (by simp)
      have hne : (Value.slice A5 nodes.length c5).ownBlock ≠ some wd.heap.size := fun h => by
        rcases nb5 with e | ⟨g, e, hg⟩
        · rw [e] at h; simp [Value.ownBlock] at h
        · rw [e] at h; injection h with h; simp at hg; omega
      refine hK.out _ _ ⟨(Kd.fr F6 (by simp)).cell, F7⟩ (fun hH3 => ?_)
      clear hK K hH2
      try simp only [Act.put, List.setIfInBounds_toArray, List.set_cons_zero, List.set_cons_succ, List.getElem_toArray, List.getElem_cons_zero, List.getElem_cons_succ]
      refine wpAnyH_take (i := 6) (v := ?_) rfl (by kernel_rfl) (by kernel_rfl) (by kernel_rfl) (fun _ _ _ h => h) (Or.inl ⟨by rfl, ?_⟩) (by assumption) ?_
      rotate_left
      · (intro W hW; (try dsimp only at hW); go_simp; try with_reducible rfl)
      try simp only [Act.put, List.setIfInBounds_toArray, List.set_cons_zero, List.set_cons_succ, List.getElem_toArray, List.getElem_cons_zero, List.getElem_cons_succ]
      have Rz := hb0.cell
      have Zz := hb0.free
      refine wpAnyH_ready (rs := [8]) (by kernel_rfl) (by simp) ?_
      refine AllReadyH.cons rfl (fun K hK => ?_) AllReadyH.nil
      simp only [List.getElem_toArray, List.getElem_cons_zero, List.getElem_cons_succ]
      go_simp
      have G := fr_fill3 w5 wd.heap.size (.int .i64 thr) (.slice A5 nodes.length c5) (.slice none 0 0)
      have hbf := tb_fill3 hb0 (.int .i64 thr) (.slice A5 nodes.length c5) (.slice none 0 0)
      have FB := F7.own G (by simp; omega)
      refine hK.out _ _ ⟨(b2.fr FB (by simp)).cell, FB⟩ (fun hH4 => ?_)
      clear hK K hH3 Rz Zz
      try simp only [Act.put, List.setIfInBounds_toArray, List.set_cons_zero, List.set_cons_succ, List.getElem_toArray, List.getElem_cons_zero, List.getElem_cons_succ]
      refine wpAnyH_done (by kernel_rfl) ?_ _
      go_wp2_with fail
      go_meet
      exact ⟨wd.heap.size, A5, c5, rfl, FB, by omega, hbf, own_base (own_ne_fr own5 G (by simpa using hne)) (by omega), hne⟩
  case rest =>
    obtain ⟨B, A5, c5, rfl, F, hB, bB, own, hne⟩ := hcut
    have hD1 : ∀ b, D b → b < w1.heap.size := fun b hb => by have := HD.out b hb; omega
    have HD1 := Lib.hid hD1
    have hM0 : MrgI D w1 thr B nodes [] A5 c5 none 0 wc := ⟨F, hB, bB, own, hne, h2, fun _ => rfl, [], SlD.nil _ _ _, by simp [TrsD]⟩
    have b2c := b2.fr F (by simp)
    have b4c := b4.fr F (by simp)
    have R2 := b2c.cell
    have Fc := F1.pure F
    clear hD1 bB own hne hs1 H1C h1 F
    obtain ⟨wo, hwo⟩ : ∃ wo : World, wo = wc := ⟨_, rfl⟩
    subst hwo
    go_wp2_with fail
    go_loopw [22, 7, 9, 11] (fun s22 s7 s9 s11 wr => ∃ (j : Nat) (n : List Int) (i : List Tr) (A5 : Option Addr) (c5 : Nat) (A6 : Option Addr) (c6 : Nat), s22 = .int .i64 (j : Int) ∧ j ≤ inner.length ∧ MrgI D w1 thr B n i A5 c5 A6 c6 wr ∧
      Hid (inner.foldl (mergeS all) (nodes, []) = (inner.drop j).foldl (mergeS all) (n, i)) ∧ n.length + wgt i + wgt (inner.drop j) ≤ 1000000) (fun s22 _ _ _ _ => inner.length - (intOf s22).toNat)
    case atStart => exact ⟨0, nodes, [], A5, c5, none, 0, rfl, Nat.zero_le _, hM0, by simp [Hid], by simp [wgt, sizeL] at hsz ⊢; omega⟩
    case round =>
      clear hM0 R2
      obtain ⟨j, n, i, A5, c5, A6, c6, rfl, hj, hM, HJ, hbd⟩ := hrel
      have Fwr := F1.pure hM.1
      by_cases hlt : j < inner.length
      · have hdj : inner.drop j = inner[j] :: inner.drop (j + 1) := List.drop_eq_getElem_cons hlt
        obtain ⟨b, off, rfl, hb, hcc⟩ := hx' (by omega)
        obtain ⟨x0, y0, z0, e0, e1, e2, hy0⟩ := h6.get j hlt
        rw [hdj] at HJ hbd
        rw [wgt_cons] at hbd
        generalize inner[j] = x at *
        obtain ⟨tx, nx, ix⟩ := x
        have hyD := hy0
        simp only [TrD] at hy0
        obtain ⟨vnx, vix, cx, hsh, k0, k1, k2, k3, k4, k5, k6⟩ := hy0
        simp only [Value.agg.injEq, Array.mk.injEq, List.cons.injEq, and_true] at hsh
        obtain ⟨rfl, rfl, rfl⟩ := hsh
        obtain ⟨B1, nn, d1, rfl, l1, l2, l3, l4⟩ := id k1
        obtain ⟨B2, mm, d2, rfl, q1, q2, q3, q4⟩ := id k3
        have hlen := k6.len
        obtain rfl : mm = ix.length := by omega
        obtain rfl : nn = nx.length := by simpa using l1.symm
        unfold Few at k4 k5
        unfold maxLen at l3 q3
        have g0 := Fwr.keep (hcc _ _ e0) (by simp)
        have g1 := Fwr.keep (hcc _ _ e1) (by simp)
        have g2 := Fwr.keep (hcc _ _ e2) (by simp)
        rw [← Nat.add_assoc] at g1 g2
        rw [size_mk'] at hbd
        clear e0 e1 e2 hcc l1 q1 hlen hdj l4
        go_upto_region 5 with (fail)
        generalize hW : wr.alloc _ = wa
        have Fa : Fr none wr wa := hW ▸ (Fr.refl none wr).alloc _
        have bx : TB wa wr.heap.size (.int .i64 tx) (.slice B1 nx.length d1) (.slice B2 ix.length d2) := by rw [← hW]; exact blk_new _ _
        clear hW g0 g1 g2
        have hMa := hM.pure HD1.out Fa
        have hlx := blk_lt bx
        have Fwa := Fwr.pure Fa
        have hyDa : TrD wa D (.agg #[.int .i64 tx, .slice B1 nx.length d1, .slice B2 ix.length d2]) (.mk tx nx ix) := TrD.keep (fun q hq => ⟨hq, Fwa.block q (HD.out q hq) (by simp)⟩) _ _ hyD
        obtain ⟨T, hT⟩ : ∃ T, T = tak all (.mk tx nx ix) := ⟨_, rfl⟩
        go_cut [42] (fun s42 wq => ∃ U, s42 = .bool U ∧ U = (!T) ∧ Fr none wa wq)
        case first =>
          cases all with
          | false =>
            have hT2 : T = decide (tx = 1) := by rw [hT]; rfl
            have HTK := Lib.hid hT
            clear hT
            by_cases h1 : tx = 1
            · subst h1
              rw [decide_eq_true rfl] at hT2
              subst hT2
              refine wp_region_held_drew (S := fun W => (∀ i, W.cell? ⟨wr.heap.size, i, none⟩ = (#[.int .i64 1, .slice B1 nx.length d1, .slice B2 ix.length d2] : Array Value)[i]?) ∧ Fr none wa W) (by kernel_rfl) ⟨bx.cell, (Fr.refl _ _).drew⟩ (fun hH0 => ?_)
              refine wpAnyH_take (i := 0) (v := ?_) rfl (by kernel_rfl) (by kernel_rfl) (by kernel_rfl) (fun _ _ _ h => h) (Or.inl ⟨by rfl, ?_⟩) (by assumption) ?_
              rotate_left
              · (intro W hW; (try dsimp only at hW); go_simp; try with_reducible rfl)
              try simp only [Act.put, List.setIfInBounds_toArray, List.set_cons_zero, List.set_cons_succ, List.getElem_toArray, List.getElem_cons_zero, List.getElem_cons_succ]
              refine wpAnyH_take (i := 1) (v := ?_) rfl (by kernel_rfl) (by kernel_rfl) (by kernel_rfl) (fun _ _ _ h => h) (Or.inl ⟨by rfl, ?_⟩) (by assumption) ?_
              rotate_left
              · (intro W hW; (try dsimp only at hW); go_simp; try with_reducible rfl)
              try simp only [Act.put, List.setIfInBounds_toArray, List.set_cons_zero, List.set_cons_succ, List.getElem_toArray, List.getElem_cons_zero, List.getElem_cons_succ]
              refine wpAnyH_take (i := 2) (v := ?_) rfl (by kernel_rfl) (by kernel_rfl) (by kernel_rfl) (fun _ _ _ h => h) (Or.inl ⟨by rfl, ?_⟩) (by assumption) ?_
              rotate_left
              · (intro W hW; (try dsimp only at hW); go_simp; try with_reducible rfl)
              try simp only [Act.put, List.setIfInBounds_toArray, List.set_cons_zero, List.set_cons_succ, List.getElem_toArray, List.getElem_cons_zero, List.getElem_cons_succ]
              refine wpAnyH_take (i := 3) (v := ?_) rfl (by kernel_rfl) (by kernel_rfl) (by kernel_rfl) (fun _ _ _ h => h) (Or.inl ⟨by rfl, ?_⟩) (by assumption) ?_
              rotate_left
              · (intro W hW; (try dsimp only at hW); go_simp; try with_reducible rfl)
              try simp only [Act.put, List.setIfInBounds_toArray, List.set_cons_zero, List.set_cons_succ, List.getElem_toArray, List.getElem_cons_zero, List.getElem_cons_succ]
              refine wpAnyH_take (i := 4) (v := ?_) rfl (by kernel_rfl) (by kernel_rfl) (by kernel_rfl) (fun _ _ _ h => h) (Or.inl ⟨by rfl, ?_⟩) (by assumption) ?_
              rotate_left
              · (intro W hW; (try dsimp only at hW); go_simp; try with_reducible rfl)
              try simp only [Act.put, List.setIfInBounds_toArray, List.set_cons_zero, List.set_cons_succ, List.getElem_toArray, List.getElem_cons_zero, List.getElem_cons_succ]
              refine wpAnyH_take (i := 5) (v := ?_) rfl (by kernel_rfl) (by kernel_rfl) (by kernel_rfl) (fun _ _ _ h => h) (Or.inl ⟨by rfl, ?_⟩) (by assumption) ?_
              rotate_left
              · (intro W hW; (try dsimp only at hW); go_simp; try with_reducible rfl)
              try simp only [Act.put, List.setIfInBounds_toArray, List.set_cons_zero, List.set_cons_succ, List.getElem_toArray, List.getElem_cons_zero, List.getElem_cons_succ]
              refine wpAnyH_take (i := 6) (v := ?_) rfl (by kernel_rfl) (by kernel_rfl) (by kernel_rfl) (fun _ _ _ h => h) (Or.inl ⟨by rfl, ?_⟩) (by assumption) ?_
              rotate_left
              · (intro W hW; (try dsimp only at hW); go_simp; try with_reducible rfl)
              try simp only [Act.put, List.setIfInBounds_toArray, List.set_cons_zero, List.set_cons_succ, List.getElem_toArray, List.getElem_cons_zero, List.getElem_cons_succ]
              refine wpAnyH_take (i := 7) (v := ?_) rfl (by kernel_rfl) (by kernel_rfl) (by kernel_rfl) (fun _ _ _ h => h) (Or.inl ⟨by rfl, ?_⟩) (by assumption) ?_
              rotate_left
              · (intro W hW; (try dsimp only at hW); go_simp; try with_reducible rfl)
              try simp only [Act.put, List.setIfInBounds_toArray, List.set_cons_zero, List.set_cons_succ, List.getElem_toArray, List.getElem_cons_zero, List.getElem_cons_succ]
              refine wpAnyH_take (i := 8) (v := ?_) rfl (by kernel_rfl) (by kernel_rfl) (by kernel_rfl) (fun _ _ _ h => h) (Or.inl ⟨by rfl, ?_⟩) (by assumption) ?_
              rotate_left
              · (intro W hW; (try dsimp only at hW); go_simp; try with_reducible rfl)
              try simp only [Act.put, List.setIfInBounds_toArray, List.set_cons_zero, List.set_cons_succ, List.getElem_toArray, List.getElem_cons_zero, List.getElem_cons_succ]
              refine wpAnyH_take (i := 9) (v := ?_) rfl (by kernel_rfl) (by kernel_rfl) (by kernel_rfl) (fun _ _ _ h => h) (Or.inl ⟨by rfl, ?_⟩) (by assumption) ?_
              rotate_left
              · (intro W hW; (try dsimp only at hW); go_simp; try with_reducible rfl)
              try simp only [Act.put, List.setIfInBounds_toArray, List.set_cons_zero, List.set_cons_succ, List.getElem_toArray, List.getElem_cons_zero, List.getElem_cons_succ]
              refine wpAnyH_take (i := 10) (v := undef) rfl (by kernel_rfl) (by kernel_rfl) (by kernel_rfl) (fun _ _ _ h => h) (Or.inr ⟨by rfl, rfl⟩) (by assumption) ?_
              try simp only [Act.put, List.setIfInBounds_toArray, List.set_cons_zero, List.set_cons_succ, List.getElem_toArray, List.getElem_cons_zero, List.getElem_cons_succ]
              refine wpAnyH_take (i := 11) (v := undef) rfl (by kernel_rfl) (by kernel_rfl) (by kernel_rfl) (fun _ _ _ h => h) (Or.inr ⟨by rfl, rfl⟩) (by assumption) ?_
              try simp only [Act.put, List.setIfInBounds_toArray, List.set_cons_zero, List.set_cons_succ, List.getElem_toArray, List.getElem_cons_zero, List.getElem_cons_succ]
              refine wpAnyH_take (i := 12) (v := undef) rfl (by kernel_rfl) (by kernel_rfl) (by kernel_rfl) (fun _ _ _ h => h) (Or.inr ⟨by rfl, rfl⟩) (by assumption) ?_
              try simp only [Act.put, List.setIfInBounds_toArray, List.set_cons_zero, List.set_cons_succ, List.getElem_toArray, List.getElem_cons_zero, List.getElem_cons_succ]
              refine wpAnyH_take (i := 13) (v := undef) rfl (by kernel_rfl) (by kernel_rfl) (by kernel_rfl) (fun _ _ _ h => h) (Or.inr ⟨by rfl, rfl⟩) (by assumption) ?_
              try simp only [Act.put, List.setIfInBounds_toArray, List.set_cons_zero, List.set_cons_succ, List.getElem_toArray, List.getElem_cons_zero, List.getElem_cons_succ]
              refine wpAnyH_take (i := 14) (v := undef) rfl (by kernel_rfl) (by kernel_rfl) (by kernel_rfl) (fun _ _ _ h => h) (Or.inr ⟨by rfl, rfl⟩) (by assumption) ?_
              try simp only [Act.put, List.setIfInBounds_toArray, List.set_cons_zero, List.set_cons_succ, List.getElem_toArray, List.getElem_cons_zero, List.getElem_cons_succ]
              refine wpAnyH_take (i := 15) (v := ?_) rfl (by kernel_rfl) (by kernel_rfl) (by kernel_rfl) (fun _ _ _ h => h) (Or.inl ⟨by rfl, ?_⟩) (by assumption) ?_
              rotate_left
              · (intro W hW; (try dsimp only at hW); go_simp; try with_reducible rfl)
              try simp only [Act.put, List.setIfInBounds_toArray, List.set_cons_zero, List.set_cons_succ, List.getElem_toArray, List.getElem_cons_zero, List.getElem_cons_succ]
              refine wpAnyH_take (i := 16) (v := ?_) rfl (by kernel_rfl) (by kernel_rfl) (by kernel_rfl) (fun _ _ _ h => h) (Or.inl ⟨by rfl, ?_⟩) (by assumption) ?_
              rotate_left
              · (intro W hW; (try dsimp only at hW); go_simp; try with_reducible rfl)
              try simp only [Act.put, List.setIfInBounds_toArray, List.set_cons_zero, List.set_cons_succ, List.getElem_toArray, List.getElem_cons_zero, List.getElem_cons_succ]
              refine wpAnyH_done (by kernel_rfl) ?_ _
              go_wp2_with fail
              go_meet
              exact ⟨_, rfl, rfl, hH0.2⟩
            · rw [decide_eq_false h1] at hT2
              subst hT2
              have hb1 : (tx != 1) = true := by rw [bne_iff_ne]; exact h1
              clear h1
              refine wp_region_held_drew (S := fun W => (∀ i, W.cell? ⟨wr.heap.size, i, none⟩ = (#[.int .i64 tx, .slice B1 nx.length d1, .slice B2 ix.length d2] : Array Value)[i]?) ∧ Fr none wa W) (by kernel_rfl) ⟨bx.cell, (Fr.refl _ _).drew⟩ (fun hH0 => ?_)
              refine wpAnyH_take (i := 0) (v := ?_) rfl (by kernel_rfl) (by kernel_rfl) (by kernel_rfl) (fun _ _ _ h => h) (Or.inl ⟨by rfl, ?_⟩) (by assumption) ?_
              rotate_left
              · (intro W hW; (try dsimp only at hW); go_simp; try with_reducible rfl)
              try simp only [Act.put, List.setIfInBounds_toArray, List.set_cons_zero, List.set_cons_succ, List.getElem_toArray, List.getElem_cons_zero, List.getElem_cons_succ]
              refine wpAnyH_take (i := 1) (v := ?_) rfl (by kernel_rfl) (by kernel_rfl) (by kernel_rfl) (fun _ _ _ h => h) (Or.inl ⟨by rfl, ?_⟩) (by assumption) ?_
              rotate_left
              · (intro W hW; (try dsimp only at hW); go_simp; try with_reducible rfl)
              try simp only [Act.put, List.setIfInBounds_toArray, List.set_cons_zero, List.set_cons_succ, List.getElem_toArray, List.getElem_cons_zero, List.getElem_cons_succ]
              refine wpAnyH_take (i := 2) (v := ?_) rfl (by kernel_rfl) (by kernel_rfl) (by kernel_rfl) (fun _ _ _ h => h) (Or.inl ⟨by rfl, ?_⟩) (by assumption) ?_
              rotate_left
              · (intro W hW; (try dsimp only at hW); go_simp; try with_reducible rfl)
              try simp only [Act.put, List.setIfInBounds_toArray, List.set_cons_zero, List.set_cons_succ, List.getElem_toArray, List.getElem_cons_zero, List.getElem_cons_succ]
              refine wpAnyH_take (i := 3) (v := ?_) rfl (by kernel_rfl) (by kernel_rfl) (by kernel_rfl) (fun _ _ _ h => h) (Or.inl ⟨by rfl, ?_⟩) (by assumption) ?_
              rotate_left
              · (intro W hW; (try dsimp only at hW); go_simp; try with_reducible rfl)
              try simp only [Act.put, List.setIfInBounds_toArray, List.set_cons_zero, List.set_cons_succ, List.getElem_toArray, List.getElem_cons_zero, List.getElem_cons_succ]
              refine wpAnyH_take (i := 4) (v := ?_) rfl (by kernel_rfl) (by kernel_rfl) (by kernel_rfl) (fun _ _ _ h => h) (Or.inl ⟨by rfl, ?_⟩) (by assumption) ?_
              rotate_left
              · (intro W hW; (try dsimp only at hW); go_simp; try with_reducible rfl)
              try simp only [Act.put, List.setIfInBounds_toArray, List.set_cons_zero, List.set_cons_succ, List.getElem_toArray, List.getElem_cons_zero, List.getElem_cons_succ]
              refine wpAnyH_take (i := 5) (v := ?_) rfl (by kernel_rfl) (by kernel_rfl) (by kernel_rfl) (fun _ _ _ h => h) (Or.inl ⟨by rfl, ?_⟩) (by assumption) ?_
              rotate_left
              · (intro W hW; (try dsimp only at hW); go_simp; try with_reducible rfl)
              try simp only [Act.put, List.setIfInBounds_toArray, List.set_cons_zero, List.set_cons_succ, List.getElem_toArray, List.getElem_cons_zero, List.getElem_cons_succ]
              refine wpAnyH_take (i := 6) (v := ?_) rfl (by kernel_rfl) (by kernel_rfl) (by kernel_rfl) (fun _ _ _ h => h) (Or.inl ⟨by rfl, ?_⟩) (by assumption) ?_
              rotate_left
              · (intro W hW; (try dsimp only at hW); go_simp; try with_reducible rfl)
              try simp only [Act.put, List.setIfInBounds_toArray, List.set_cons_zero, List.set_cons_succ, List.getElem_toArray, List.getElem_cons_zero, List.getElem_cons_succ]
              refine wpAnyH_take (i := 7) (v := ?_) rfl (by kernel_rfl) (by kernel_rfl) (by kernel_rfl) (fun _ _ _ h => h) (Or.inl ⟨by rfl, ?_⟩) (by assumption) ?_
              rotate_left
              · (intro W hW; (try dsimp only at hW); go_simp; try with_reducible rfl)
              try simp only [Act.put, List.setIfInBounds_toArray, List.set_cons_zero, List.set_cons_succ, List.getElem_toArray, List.getElem_cons_zero, List.getElem_cons_succ]
              refine wpAnyH_take (i := 8) (v := undef) rfl (by kernel_rfl) (by kernel_rfl) (by kernel_rfl) (fun _ _ _ h => h) (Or.inr ⟨by rfl, rfl⟩) (by assumption) ?_
              try simp only [Act.put, List.setIfInBounds_toArray, List.set_cons_zero, List.set_cons_succ, List.getElem_toArray, List.getElem_cons_zero, List.getElem_cons_succ]
              refine wpAnyH_take (i := 9) (v := undef) rfl (by kernel_rfl) (by kernel_rfl) (by kernel_rfl) (fun _ _ _ h => h) (Or.inr ⟨by rfl, rfl⟩) (by assumption) ?_
              try simp only [Act.put, List.setIfInBounds_toArray, List.set_cons_zero, List.set_cons_succ, List.getElem_toArray, List.getElem_cons_zero, List.getElem_cons_succ]
              refine wpAnyH_take (i := 10) (v := undef) rfl (by kernel_rfl) (by kernel_rfl) (by kernel_rfl) (fun _ _ _ h => h) (Or.inr ⟨by rfl, rfl⟩) (by assumption) ?_
              try simp only [Act.put, List.setIfInBounds_toArray, List.set_cons_zero, List.set_cons_succ, List.getElem_toArray, List.getElem_cons_zero, List.getElem_cons_succ]
              refine wpAnyH_take (i := 11) (v := undef) rfl (by kernel_rfl) (by kernel_rfl) (by kernel_rfl) (fun _ _ _ h => h) (Or.inr ⟨by rfl, rfl⟩) (by assumption) ?_
              try simp only [Act.put, List.setIfInBounds_toArray, List.set_cons_zero, List.set_cons_succ, List.getElem_toArray, List.getElem_cons_zero, List.getElem_cons_succ]
              refine wpAnyH_take (i := 12) (v := undef) rfl (by kernel_rfl) (by kernel_rfl) (by kernel_rfl) (fun _ _ _ h => h) (Or.inr ⟨by rfl, rfl⟩) (by assumption) ?_
              try simp only [Act.put, List.setIfInBounds_toArray, List.set_cons_zero, List.set_cons_succ, List.getElem_toArray, List.getElem_cons_zero, List.getElem_cons_succ]
              refine wpAnyH_take (i := 13) (v := undef) rfl (by kernel_rfl) (by kernel_rfl) (by kernel_rfl) (fun _ _ _ h => h) (Or.inr ⟨by rfl, rfl⟩) (by assumption) ?_
              try simp only [Act.put, List.setIfInBounds_toArray, List.set_cons_zero, List.set_cons_succ, List.getElem_toArray, List.getElem_cons_zero, List.getElem_cons_succ]
              refine wpAnyH_take (i := 14) (v := undef) rfl (by kernel_rfl) (by kernel_rfl) (by kernel_rfl) (fun _ _ _ h => h) (Or.inr ⟨by rfl, rfl⟩) (by assumption) ?_
              try simp only [Act.put, List.setIfInBounds_toArray, List.set_cons_zero, List.set_cons_succ, List.getElem_toArray, List.getElem_cons_zero, List.getElem_cons_succ]
              refine wpAnyH_take (i := 15) (v := undef) rfl (by kernel_rfl) (by kernel_rfl) (by kernel_rfl) (fun _ _ _ h => h) (Or.inr ⟨by rfl, rfl⟩) (by assumption) ?_
              try simp only [Act.put, List.setIfInBounds_toArray, List.set_cons_zero, List.set_cons_succ, List.getElem_toArray, List.getElem_cons_zero, List.getElem_cons_succ]
              refine wpAnyH_take (i := 16) (v := ?_) rfl (by kernel_rfl) (by kernel_rfl) (by kernel_rfl) (fun _ _ _ h => h) (Or.inl ⟨by rfl, ?_⟩) (by assumption) ?_
              rotate_left
              · (intro W hW; (try dsimp only at hW); go_simp; try with_reducible rfl)
              try simp only [Act.put, List.setIfInBounds_toArray, List.set_cons_zero, List.set_cons_succ, List.getElem_toArray, List.getElem_cons_zero, List.getElem_cons_succ]
              refine wpAnyH_done (by kernel_rfl) ?_ _
              go_wp2_with fail
              go_meet
              exact ⟨_, rfl, rfl, hH0.2⟩
          | true =>
            obtain ⟨cn, hcn⟩ : ∃ cn, cn = cnt1 (.mk tx nx ix) := ⟨_, rfl⟩
            have hT2 : T = decide (tx = (cn : Int)) := by rw [hT, hcn]; rfl
            have HCN := Lib.hid hcn
            have hb1 : (tx != (cn : Int)) = !T := by rw [hT2]; rfl
            clear hcn hT hT2
            refine wp_region_held_drew (S := fun W => (∀ i, W.cell? ⟨wr.heap.size, i, none⟩ = (#[.int .i64 tx, .slice B1 nx.length d1, .slice B2 ix.length d2] : Array Value)[i]?) ∧ Fr none wa W) (by kernel_rfl) ⟨bx.cell, (Fr.refl _ _).drew⟩ (fun hH0 => ?_)
            refine wpAnyH_take (i := 0) (v := ?_) rfl (by kernel_rfl) (by kernel_rfl) (by kernel_rfl) (fun _ _ _ h => h) (Or.inl ⟨by rfl, ?_⟩) (by assumption) ?_
            rotate_left
            · (intro W hW; (try dsimp only at hW); go_simp; try with_reducible rfl)
            try simp only [Act.put, List.setIfInBounds_toArray, List.set_cons_zero, List.set_cons_succ, List.getElem_toArray, List.getElem_cons_zero, List.getElem_cons_succ]
            refine wpAnyH_take (i := 1) (v := ?_) rfl (by kernel_rfl) (by kernel_rfl) (by kernel_rfl) (fun _ _ _ h => h) (Or.inl ⟨by rfl, ?_⟩) (by assumption) ?_
            rotate_left
            · (intro W hW; (try dsimp only at hW); go_simp; try with_reducible rfl)
            try simp only [Act.put, List.setIfInBounds_toArray, List.set_cons_zero, List.set_cons_succ, List.getElem_toArray, List.getElem_cons_zero, List.getElem_cons_succ]
            refine wpAnyH_take (i := 2) (v := ?_) rfl (by kernel_rfl) (by kernel_rfl) (by kernel_rfl) (fun _ _ _ h => h) (Or.inl ⟨by rfl, ?_⟩) (by assumption) ?_
            rotate_left
            · (intro W hW; (try dsimp only at hW); go_simp; try with_reducible rfl)
            try simp only [Act.put, List.setIfInBounds_toArray, List.set_cons_zero, List.set_cons_succ, List.getElem_toArray, List.getElem_cons_zero, List.getElem_cons_succ]
            refine wpAnyH_take (i := 3) (v := undef) rfl (by kernel_rfl) (by kernel_rfl) (by kernel_rfl) (fun _ _ _ h => h) (Or.inr ⟨by rfl, rfl⟩) (by assumption) ?_
            try simp only [Act.put, List.setIfInBounds_toArray, List.set_cons_zero, List.set_cons_succ, List.getElem_toArray, List.getElem_cons_zero, List.getElem_cons_succ]
            refine wpAnyH_take (i := 4) (v := undef) rfl (by kernel_rfl) (by kernel_rfl) (by kernel_rfl) (fun _ _ _ h => h) (Or.inr ⟨by rfl, rfl⟩) (by assumption) ?_
            try simp only [Act.put, List.setIfInBounds_toArray, List.set_cons_zero, List.set_cons_succ, List.getElem_toArray, List.getElem_cons_zero, List.getElem_cons_succ]
            refine wpAnyH_take (i := 5) (v := undef) rfl (by kernel_rfl) (by kernel_rfl) (by kernel_rfl) (fun _ _ _ h => h) (Or.inr ⟨by rfl, rfl⟩) (by assumption) ?_
            try simp only [Act.put, List.setIfInBounds_toArray, List.set_cons_zero, List.set_cons_succ, List.getElem_toArray, List.getElem_cons_zero, List.getElem_cons_succ]
            refine wpAnyH_take (i := 6) (v := ?_) rfl (by kernel_rfl) (by kernel_rfl) (by kernel_rfl) (fun _ _ _ h => h) (Or.inl ⟨by rfl, ?_⟩) (by assumption) ?_
            rotate_left
            · (intro W hW; (try dsimp only at hW); go_simp; try with_reducible rfl)
            try simp only [Act.put, List.setIfInBounds_toArray, List.set_cons_zero, List.set_cons_succ, List.getElem_toArray, List.getElem_cons_zero, List.getElem_cons_succ]
            refine wpAnyH_take (i := 7) (v := ?_) rfl (by kernel_rfl) (by kernel_rfl) (by kernel_rfl) (fun _ _ _ h => h) (Or.inl ⟨by rfl, ?_⟩) (by assumption) ?_
            rotate_left
            · (intro W hW; (try dsimp only at hW); go_simp; try with_reducible rfl)
            try simp only [Act.put, List.setIfInBounds_toArray, List.set_cons_zero, List.set_cons_succ, List.getElem_toArray, List.getElem_cons_zero, List.getElem_cons_succ]
            refine wpAnyH_take (i := 8) (v := ?_) rfl (by kernel_rfl) (by kernel_rfl) (by kernel_rfl) (fun _ _ _ h => h) (Or.inl ⟨by rfl, ?_⟩) (by assumption) ?_
            rotate_left
            · (intro W hW; (try dsimp only at hW); go_simp; try with_reducible rfl)
            try simp only [Act.put, List.setIfInBounds_toArray, List.set_cons_zero, List.set_cons_succ, List.getElem_toArray, List.getElem_cons_zero, List.getElem_cons_succ]
            refine wpAnyH_take (i := 9) (v := ?_) rfl (by kernel_rfl) (by kernel_rfl) (by kernel_rfl) (fun _ _ _ h => h) (Or.inl ⟨by rfl, ?_⟩) (by assumption) ?_
            rotate_left
            · (intro W hW; (try dsimp only at hW); go_simp; try with_reducible rfl)
            try simp only [Act.put, List.setIfInBounds_toArray, List.set_cons_zero, List.set_cons_succ, List.getElem_toArray, List.getElem_cons_zero, List.getElem_cons_succ]
            refine wpAnyH_take (i := 10) (v := ?_) rfl (by kernel_rfl) (by kernel_rfl) (by kernel_rfl) (fun _ _ _ h => h) (Or.inl ⟨by rfl, ?_⟩) (by assumption) ?_
            rotate_left
            · (intro W hW; (try dsimp only at hW); go_simp; try with_reducible rfl)
            try simp only [Act.put, List.setIfInBounds_toArray, List.set_cons_zero, List.set_cons_succ, List.getElem_toArray, List.getElem_cons_zero, List.getElem_cons_succ]
            refine wpAnyH_take (i := 11) (v := ?_) rfl (by kernel_rfl) (by kernel_rfl) (by kernel_rfl) (fun _ _ _ h => h) (Or.inl ⟨by rfl, ?_⟩) (by assumption) ?_
            rotate_left
            · (intro W hW; (try dsimp only at hW); go_simp; try with_reducible rfl)
            try simp only [Act.put, List.setIfInBounds_toArray, List.set_cons_zero, List.set_cons_succ, List.getElem_toArray, List.getElem_cons_zero, List.getElem_cons_succ]
            refine wpAnyH_take (i := 12) (v := ?_) rfl (by kernel_rfl) (by kernel_rfl) (by kernel_rfl) (fun _ _ _ h => h) (Or.inl ⟨by rfl, ?_⟩) (by assumption) ?_
            rotate_left
            · (intro W hW; (try dsimp only at hW); go_simp; try with_reducible rfl)
            try simp only [Act.put, List.setIfInBounds_toArray, List.set_cons_zero, List.set_cons_succ, List.getElem_toArray, List.getElem_cons_zero, List.getElem_cons_succ]
            refine wpAnyH_ready (rs := [13]) (by kernel_rfl) (by simp) ?_
            refine AllReadyH.cons rfl (fun K hK => ?_) AllReadyH.nil
            simp only [List.getElem_toArray, List.getElem_cons_zero, List.getElem_cons_succ]
            go_simp
            go_at_call 157
            refine (rcount_any (.mk tx nx ix) _ _ D hyDa.drew').mono ?_
            rintro e wq ⟨rfl, Fq⟩
            rw [← HCN.out]
            have Fq := hH0.2.pure Fq
            refine hK.out _ _ ⟨(bx.fr Fq (by simp)).cell, Fq⟩ (fun hH1 => ?_)
            clear hK K hH0
            try simp only [Act.put, List.setIfInBounds_toArray, List.set_cons_zero, List.set_cons_succ, List.getElem_toArray, List.getElem_cons_zero, List.getElem_cons_succ]
            refine wpAnyH_take (i := 14) (v := ?_) rfl (by kernel_rfl) (by kernel_rfl) (by kernel_rfl) (fun _ _ _ h => h) (Or.inl ⟨by rfl, ?_⟩) (by assumption) ?_
            rotate_left
            · (intro W hW; (try dsimp only at hW); go_simp; try with_reducible rfl)
            try simp only [Act.put, List.setIfInBounds_toArray, List.set_cons_zero, List.set_cons_succ, List.getElem_toArray, List.getElem_cons_zero, List.getElem_cons_succ]
            refine wpAnyH_take (i := 15) (v := ?_) rfl (by kernel_rfl) (by kernel_rfl) (by kernel_rfl) (fun _ _ _ h => h) (Or.inl ⟨by rfl, ?_⟩) (by assumption) ?_
            rotate_left
            · (intro W hW; (try dsimp only at hW); go_simp; try with_reducible rfl)
            try simp only [Act.put, List.setIfInBounds_toArray, List.set_cons_zero, List.set_cons_succ, List.getElem_toArray, List.getElem_cons_zero, List.getElem_cons_succ]
            refine wpAnyH_take (i := 16) (v := ?_) rfl (by kernel_rfl) (by kernel_rfl) (by kernel_rfl) (fun _ _ _ h => h) (Or.inl ⟨by rfl, ?_⟩) (by assumption) ?_
            rotate_left
            · (intro W hW; (try dsimp only at hW); go_simp; try with_reducible rfl)
            try simp only [Act.put, List.setIfInBounds_toArray, List.set_cons_zero, List.set_cons_succ, List.getElem_toArray, List.getElem_cons_zero, List.getElem_cons_succ]
            refine wpAnyH_done (by kernel_rfl) ?_ _
            go_wp2_with fail
            go_meet
            exact ⟨_, rfl, rfl, hH1.2⟩
        case rest =>
          obtain ⟨U, rfl, hU, Fq⟩ := hcut
          obtain ⟨wq, hwq⟩ : ∃ wq : World, wq = wc := ⟨_, rfl⟩
          subst hwq
          have hMq := hMa.pure HD1.out Fq
          have bxq := bx.fr Fq (by simp)
          have hlxq := blk_lt bxq
          have Fwq := Fwa.pure Fq
          have hyDq : TrD wq D (.agg #[.int .i64 tx, .slice B1 nx.length d1, .slice B2 ix.length d2]) (.mk tx nx ix) := TrD.keep (fun q hq => ⟨hq, Fq.block q (by have := HD.out q hq; have := Fwa.size; omega) (by simp)⟩) _ _ hyDa
          have HT := Lib.hid hT
          have hMr := hM
          clear hT bx hMa hM hyDa
          cases T with
          | false =>
            obtain rfl : U = true := hU
            obtain ⟨m1, m2, m3, m4, m5, m6, m7, cells6, m8, m9⟩ := id hMq
            have RB := m3.cell
            have Rx := bxq.cell
            have hDv : ∀ b, Dv D w1 wq B (.slice A5 n.length c5) b → b < wq.heap.size := fun b hb => by
              rcases hb with hb | hb
              · have := HD.out b hb; have := Fwq.size; omega
              · exact hb.2.1
            go_wp2_with fail
            refine (rwith_any i (.mk tx nx ix) A6 c6 _ cells6 (Dv D w1 wq B (.slice A5 n.length c5)) _ hDv (by unfold wgt at hbd; omega) m7 m8 m9 (TrD.keep (fun q hq => ⟨.inl hq, rfl⟩) _ _ hyDq)).mono ?_
            rintro e w3 ⟨A7, c7, cells7, rfl, hA7, hs7, ht7, F7⟩
            have b7 := m3.fr F7 (by simp)
            have R7 := b7.cell
            have Z7 := b7.free
            clear RB Rx
            go_wp2_with fail
            go_roundw
            case rel =>
              have hw := wgt_withT i (.mk tx nx ix)
              rw [size_mk'] at hw
              exact ⟨j + 1, n, withT i (.mk tx nx ix), A5, c5, A7, c7, by go_num, by omega, hMq.with_ HD1.out hA7 hs7 ht7 F7, by unfold Hid; rw [HJ.out, List.foldl_cons]; congr 1; unfold mergeS; rw [if_neg (by rw [← HT.out]; simp)], by omega⟩
            case measure => simp [intOf]; omega
          | true =>
            obtain rfl : U = false := hU
            obtain ⟨wv, hwv⟩ : ∃ wv : World, wv = wr := ⟨_, rfl⟩
            subst hwv
            have Rx := bxq.cell
            have hBlt : B < wq.heap.size := blk_lt hMq.2.2.1
            have hBx : B ≠ wv.heap.size := by have := Fa.size; have := blk_lt (show wv.heap[B]? = _ from hMr.2.2.1); omega
            have hx5 : (Value.slice A5 n.length c5).ownBlock ≠ some wv.heap.size := fun e => by have := (hMr.2.2.2.1.lt _ e).2; omega
            have HM := Lib.hid hMr
            clear hMr
            go_wp2_with fail
            go_loopw [51, 9] (fun s51 s9 wx => ∃ (q : Nat) (n' : List Int) (A5' : Option Addr) (c5' : Nat), s51 = .int .i64 (q : Int) ∧ q ≤ nx.length ∧ MrgI D w1 thr B n' i A5' c5' A6 c6 wx ∧ TB wx wv.heap.size (.int .i64 tx) (.slice B1 nx.length d1) (.slice B2 ix.length d2) ∧ (Value.slice A5' n'.length c5').ownBlock ≠ some wv.heap.size ∧ wv.heap.size < wx.heap.size ∧
              Hid (nx.foldl addN n = (nx.drop q).foldl addN n') ∧ n'.length ≤ n.length + q) (fun s51 _ _ => nx.length - (intOf s51).toNat)
            case atStart => exact ⟨0, n, A5, c5, rfl, Nat.zero_le _, hMq, bxq, hx5, hlxq, by simp [Hid], by omega⟩
            case round =>
              clear hMq bxq hx5 hlxq Rx hBlt
              obtain ⟨q, n', A5', c5', rfl, hq, hM, bx, hx5, hlx, HN, hnb⟩ := hrel
              have Fwr := F1.pure hM.1
              by_cases hlt2 : q < nx.length
              · obtain ⟨b', off', rfl, hb', hck⟩ := k1.cellI q hlt2
                have hcx := Fwr.keep hck (by simp)
                have hdq : nx.drop q = nx[q] :: nx.drop (q + 1) := List.drop_eq_getElem_cons hlt2
                have hkw : Wi nx[q] := k2 _ (List.getElem_mem _)
                rw [hdq] at HN
                generalize nx[q] = y at *
                obtain ⟨m1, m2, m3, m4, m5, m6, m7, cells6, m8, m9⟩ := id hM
                have RB := m3.cell
                have hl5 : SlI wr none (.slice A5' n'.length c5') n' := SlI.of_own m4 (by simp) m6
                obtain ⟨hv, hhv⟩ : ∃ hv, hv = n'.any (fun x => decide (x = y)) := ⟨_, rfl⟩
                have HHV := Lib.hid hhv
                clear hck hdq hhv
                cases hv with
                | true =>
                  go_wp2_with (go_at_call 155; refine (rhasn_any n' y _ _ hl5).mono ?_; rintro e w' ⟨rfl, rfl⟩; rw [← HHV.out])
                  go_roundw
                  case rel =>
                    exact ⟨q + 1, n', A5', c5', by go_num, by omega, hM, bx, hx5, hlx, by unfold Hid; rw [HN.out, List.foldl_cons]; congr 1; unfold addN; rw [if_pos HHV.out.symm], by omega⟩
                  case measure => simp [intOf]; omega
                | false =>
                  go_wp2_with (first | (go_at_call 155; refine (rhasn_any n' y _ _ hl5).mono ?_; rintro e w' ⟨rfl, rfl⟩; rw [← HHV.out]) | (at_builtin; refine app_lit eiInt rfl _ _ rfl w1.heap.size A5' n'.length c5' _ rfl m4 1 [.int .i64 y] _ _ rfl (by simp) rfl (by simp [Value.oneCell']) (by omega) (by unfold maxLen; omega) (by have := m1.size; omega) ?_; intro A7 c7 w7 own7 F7 nb7; have K7 := m3.fr F7 m5; have R7 := K7.cell; have Z7 := K7.free))
                  have G := Fr.set1 w7 ⟨B, 1, none⟩ (.slice A7 (n'.length + 1) c7)
                  go_roundw
                  case rel =>
                    have hln : (n' ++ [y]).length = n'.length + 1 := by simp
                    exact ⟨q + 1, n' ++ [y], A7, c7, by go_num, by omega, hM.node HD1.out hkw own7 F7 nb7, (bx.fr F7 hx5).fr G (by simp; omega), by
                      rw [hln]
                      intro e
                      rcases nb7 with e' | ⟨g, e', hg⟩
                      · exact hx5 (e'.symm.trans e)
                      · rw [e'] at e; injection e with e; omega, by have := F7.size; have := G.size; omega, by unfold Hid; rw [HN.out, List.foldl_cons]; congr 1; unfold addN; rw [if_neg (by rw [← HHV.out]; simp)], by rw [hln]; omega⟩
                  case measure => simp [intOf]; omega
              · obtain rfl : q = nx.length := by omega
                have HN2 : Hid (nx.foldl addN n = n') := by unfold Hid; rw [HN.out]; simp
                have Rx := bx.cell
                have Fq0 := F1.pure hM.1
                clear HN
                go_wp2_with fail
                obtain ⟨wu, hwu⟩ : ∃ wu : World, wu = wr := ⟨_, rfl⟩
                subst hwu
                clear Rx bx hlx hx5
                go_loopw [70, 11] (fun s70 s11 wx => ∃ (q : Nat) (i' : List Tr) (A6' : Option Addr) (c6' : Nat), s70 = .int .i64 (q : Int) ∧ q ≤ ix.length ∧ MrgI D w1 thr B n' i' A5' c5' A6' c6' wx ∧ Hid (ix.foldl withT i = (ix.drop q).foldl withT i') ∧ wgt i' + wgt (ix.drop q) ≤ wgt i + wgt ix) (fun s70 _ _ => ix.length - (intOf s70).toNat)
                case atStart => exact ⟨0, i, A6, c6, rfl, Nat.zero_le _, hM, by simp [Hid], by simp⟩
                case round =>
                  clear hM
                  obtain ⟨q, i', A6', c6', rfl, hq, hM, HI, hib⟩ := hrel
                  have Fwr := F1.pure hM.1
                  by_cases hlt3 : q < ix.length
                  · obtain ⟨b', off', rfl, hb', hck⟩ := q4 (by omega)
                    obtain ⟨x1, y1, z1, e0, e1, e2, hy1⟩ := k6.get q hlt3
                    have hdq : ix.drop q = ix[q] :: ix.drop (q + 1) := List.drop_eq_getElem_cons hlt3
                    rw [hdq] at HI hib
                    rw [wgt_cons] at hib
                    generalize ix[q] = y at *
                    obtain ⟨ty, X1, m1, v1, X2, m2, v2, hsh⟩ := hy1.shape
                    simp only [Value.agg.injEq, Array.mk.injEq, List.cons.injEq, and_true] at hsh
                    obtain ⟨rfl, rfl, rfl⟩ := hsh
                    have g0 := Fwr.keep (hck _ _ e0) (by simp)
                    have g1 := Fwr.keep (hck _ _ e1) (by simp)
                    have g2 := Fwr.keep (hck _ _ e2) (by simp)
                    rw [← Nat.add_assoc] at g1 g2
                    have hBlt : B < wr.heap.size := blk_lt hM.2.2.1
                    have RB := hM.2.2.1.cell
                    clear e0 e1 e2 hck hdq
                    go_wp2_with fail
                    generalize hW : wr.alloc _ = ws
                    have Fs : Fr none wr ws := hW ▸ (Fr.refl none wr).alloc _
                    clear hW g0 g1 g2 RB
                    have hMs := hM.pure HD1.out Fs
                    obtain ⟨m1', m2', m3, m4, m5, m6, m7, cells6, m8, m9⟩ := id hMs
                    have Fws := Fwr.pure Fs
                    have hDv : ∀ b, Dv D w1 ws B (.slice A5' n'.length c5') b → b < ws.heap.size := fun b hb => by
                      rcases hb with hb | hb
                      · have := HD.out b hb; have := Fws.size; omega
                      · exact hb.2.1
                    refine (rwith_any i' y A6' c6' _ cells6 (Dv D w1 ws B (.slice A5' n'.length c5')) _ hDv (by unfold wgt at hbd hib; omega) m7 m8 m9 (TrD.keep (fun q hq => ⟨.inl hq, Fws.block q (HD.out q hq) (by simp)⟩) _ _ hy1)).mono ?_
                    rintro e w3 ⟨A7, c7, cells7, rfl, hA7, hs7, ht7, F7⟩
                    have b7 := m3.fr F7 (by simp)
                    have R7 := b7.cell
                    have Z7 := b7.free
                    go_wp2_with fail
                    go_roundw
                    case rel =>
                      have hw := wgt_withT i' y
                      exact ⟨q + 1, withT i' y, A7, c7, by go_num, by omega, hMs.with_ HD1.out hA7 hs7 ht7 F7, by unfold Hid; rw [HI.out, List.foldl_cons], by omega⟩
                    case measure => simp [intOf]; omega
                  · obtain rfl : q = ix.length := by omega
                    have HI2 : Hid (ix.foldl withT i = i') := by unfold Hid; rw [HI.out]; simp
                    have hw0 : wgt ([] : List Tr) = 0 := by simp [wgt, sizeL]
                    rw [List.drop_length, hw0] at hib
                    clear hw0
                    clear HI
                    go_wp2_with fail
                    go_roundw
                    case rel => exact ⟨j + 1, n', i', A5', c5', A6', c6', by go_num, by omega, hM, by unfold Hid; rw [HJ.out, List.foldl_cons]; congr 1; unfold mergeS; rw [if_pos HT.out.symm]; exact Prod.ext HN2.out HI2.out, by omega⟩
                    case measure => simp [intOf]; omega
      · obtain rfl : j = inner.length := by omega
        have HF : Hid (mergeL all (nodes, inner) = (n, i)) := by unfold Hid mergeL; rw [HJ.out]; simp
        have HG : Hid (mergedT thr (nodes, inner) all = .mk (if all then ((n.length + i.length : Nat) : Int) else thr) n i) := by unfold Hid mergedT; rw [HF.out]
        have hB' := hM.2.2.1
        have R5 := hB'.cell
        have Z5 := hB'.free
        have b4r := b4.fr hM.1 (by simp)
        have R4 := b4r.cell
        have Z4 := b4r.free
        have hBlt := blk_lt hB'
        have h4lt := blk_lt b4r
        have hnl : n.length ≤ 1000000 := by omega
        have hil : i.length ≤ 1000000 := by unfold wgt at hbd; omega
        clear HJ HF
        cases all with
        | false =>
          go_wp2_with fail
          refine bodyPost_ret (v := .agg #[.int .i64 thr, .slice A5 n.length c5, .slice A6 i.length c6]) (by simp [results, Tryz.results156, go_sem, R4, R5]) rfl ?_
          obtain ⟨t1, t2⟩ := hM.fin HD.out hz1 F1 (Fr.refl none wr) (by simp) h0 (by omega) (by omega) (fr_fill3 wr (w.heap.size + 1) (.int .i64 thr) (.slice A5 n.length c5) (.slice A6 i.length c6))
          exact ⟨_, rfl, by rw [HG.out]; exact t1, t2⟩
        | true =>
          have hDD : TrD wr (fun b => b < wr.heap.size) (.agg #[.int .i64 thr, .slice A5 n.length c5, .slice A6 i.length c6]) (.mk thr n i) := by
            obtain ⟨m1, m2, m3, m4, m5, m6, m7, cells6, m8, m9⟩ := id hM
            have k : ∀ b, Dv D w1 wr B (.slice A5 n.length c5) b → b < wr.heap.size ∧ wr.heap[b]? = wr.heap[b]? := fun b hb => ⟨by
              rcases hb with hb | hb
              · have := HD.out b hb; have := Fwr.size; omega
              · exact hb.2.1, rfl⟩
            exact TrD.mk_ h0 ((SlD.own_dn m4).keep (fun k hk => ⟨hk.2, rfl⟩)) m6 (m8.keep k) (by omega) (by omega) (TrsD.keep k _ _ m9)
          go_wp2_with fail
          refine (rcount_any (.mk thr n i) _ _ _ hDD).mono ?_
          rintro e w3 ⟨rfl, F3⟩
          have hM3 := hM.pure HD1.out F3
          have hB3 := hB'.fr F3 (by simp)
          have b43 := b4r.fr F3 (by simp)
          obtain ⟨cn, hcn⟩ : ∃ cn : Int, cn = ((n.length + i.length : Nat) : Int) := ⟨_, rfl⟩
          have hcw : Wi cn := by constructor <;> omega
          have ec : ((cnt1 (.mk thr n i) : Nat) : Int) = cn := hcn.symm
          rw [ec]
          have HCN := Lib.hid hcn
          clear hcn ec
          have G0 := Fr.set1 w3 ⟨B, 0, none⟩ (.int .i64 cn)
          have hBs := hB3.set0 (.int .i64 cn)
          have b4s := b43.fr G0 (by simp; omega)
          have R6 := hB3.cell
          have Z6 := hB3.free
          have R7 := hBs.cell
          have R8 := b4s.cell
          have Z8 := b4s.free
          have hz3 := F3.size
          have hs3 : B < w3.heap.size := by omega
          clear R5 Z5 R4 Z4
          go_wp2_with fail
          refine bodyPost_ret (v := .agg #[.int .i64 cn, .slice A5 n.length c5, .slice A6 i.length c6]) (by simp [results, Tryz.results156, go_sem, R8, R7]) rfl ?_
          obtain ⟨t1, t2⟩ := hM3.fin HD.out hz1 F1 G0 (fun b hb => by injection hb with hb; exact hb.symm) hcw (by omega) (by omega) (fr_fill3 (w3.setCell ⟨B, 0, none⟩ (.int .i64 cn)) (w.heap.size + 1) (.int .i64 cn) (.slice A5 n.length c5) (.slice A6 i.length c6))
          exact ⟨_, rfl, by rw [HG.out, if_pos trivial, ← HCN.out]; exact t1, t2⟩
end Go.Proofs.YtpdhckbiioobhaaGreatDoor

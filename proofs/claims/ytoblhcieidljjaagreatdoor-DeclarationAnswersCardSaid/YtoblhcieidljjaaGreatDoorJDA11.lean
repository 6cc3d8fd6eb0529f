/- Some texts of this claim, joined: contracts of the functions that it reaches, and plain laws. -/
import Derived.Test.YtoblhcieidljjaaGreatDoorJDA10
import Derived.Test.YtoblhcieidljjaaGreatDoorProg
import Derived.Test.YtoblhcieidljjaaGreatDoorJDA2
import Derived.Test.YtoblhcieidljjaaGreatDoorJDA9

set_option linter.unusedSimpArgs false
set_option linter.unusedVariables false
/- Walks: mk.BentTrust: a trust in which one thing is changed. -/
namespace Go.Proofs.YtoblhcieidljjaaGreatDoor
open Go.RowKit

theorem TrD.drew {w : World} {D : Nat → Prop} {v : Value} {t : Tr} (h : TrD w D v t) : TrD w.drew D v t := TrD.keep (w := w) (w' := w.drew) (fun q (hq : D q) => ⟨hq, (rfl : w.drew.heap[q]? = w.heap[q]?)⟩) t v h
/-- The blocks D (old ones), and those from B on but for q. -/
def Dd (D : Nat → Prop) (B q : Nat) (w : World) : Nat → Prop := fun b => D b ∨ (B ≤ b ∧ b < w.heap.size ∧ b ≠ q)
theorem dd_fr {D : Nat → Prop} {B q : Nat} {w w' : World} {r : Option Nat} (hD : ∀ b, D b → b < w.heap.size) (F : Fr r w w') (hr : ∀ b, r = some b → ¬ D b ∧ (b < B ∨ b = q)) : ∀ k, Dd D B q w k → Dd D B q w' k ∧ w'.heap[k]? = w.heap[k]? := fun k hk => by
  have hz := F.size
  refine ⟨?_, F.block k ?_ fun e => ?_⟩
  · rcases hk with h | h
    · exact .inl h
    · exact .inr ⟨h.1, by omega, h.2.2⟩
  · rcases hk with h | h
    · exact hD k h
    · exact h.2.1
  · have := hr k e.symm
    rcases hk with h | h
    · exact this.1 h
    · rcases this.2 with h' | h' <;> omega
theorem own_lit0 (w : World) (e : TypeId) (size B : Nat) (hB : B ≤ w.heap.size) : (w.alloc (.cells #[] e)).ownsRow B e size (.slice (some ⟨w.heap.size, 0, none⟩) 0 0) 0 [] :=
  ⟨by simp, .inr ⟨w.heap.size, 0, #[], rfl, hB, heap_alloc_new w _, Nat.le_refl _, by unfold maxLen; omega, by simp, by simp⟩⟩
mutual
theorem TrD.one {w : World} {D : Nat → Prop} : ∀ (t : Tr) (v : Value), TrD w D v t → ∃ a b c, v = .agg #[a, b, c] ∧ a.oneCell' = true ∧ b.oneCell' = true ∧ c.oneCell' = true
  | .mk thr nodes inner, v, h => by
    simp only [TrD] at h
    obtain ⟨vn, vi, cells, rfl, h0, h1, h2, h3, _⟩ := h
    obtain ⟨A, n, c, rfl, _⟩ := h1
    obtain ⟨A', n', c', rfl, _⟩ := h3
    exact ⟨_, _, _, rfl, by simp [Value.oneCell'], by simp [Value.oneCell'], by simp [Value.oneCell']⟩
end
theorem TrsD.one {w : World} {D : Nat → Prop} : ∀ {l : List Tr} {cells : List Value}, TrsD w D cells l → ∀ u ∈ cells, u.oneCell' = true
  | [], cells, h, u, hu => by simp only [TrsD] at h; subst h; simp at hu
  | x :: r, cells, h, u, hu => by
    simp only [TrsD] at h
    obtain ⟨a, b, c, rest, rfl, h1, h2⟩ := h
    obtain ⟨a', b', c', e, o1, o2, o3⟩ := TrD.one x _ h1
    simp only [Value.agg.injEq, Array.mk.injEq, List.cons.injEq, and_true] at e
    obtain ⟨rfl, rfl, rfl⟩ := e
    simp only [List.mem_cons] at hu
    rcases hu with rfl | rfl | rfl | hu
    · exact o1
    · exact o2
    · exact o3
    · exact TrsD.one h2 u hu

theorem TrsD.set {w : World} {D : Nat → Prop} : ∀ {l : List Tr} {cells : List Value}, TrsD w D cells l → ∀ (k : Nat), k < l.length → ∀ (x y z : Value) (T : Tr), TrD w D (.agg #[x, y, z]) T →
    TrsD w D (((cells.set (k * 3) x).set (k * 3 + 1) y).set (k * 3 + 2) z) (l.set k T)
  | [], cells, h, k, hk, _, _, _, _, _ => absurd hk (by simp)
  | t :: r, cells, h, k, hk, x, y, z, T, hT => by
    simp only [TrsD] at h
    obtain ⟨a, b, c, rest, rfl, h1, h2⟩ := h
    cases k with
    | zero =>
      simp only [Nat.zero_mul, Nat.zero_add, List.set_cons_zero, List.set_cons_succ, TrsD]
      exact ⟨x, y, z, rest, rfl, hT, h2⟩
    | succ k =>
      have := TrsD.set h2 k (by simpa using hk) x y z T hT
      rw [show (k + 1) * 3 = k * 3 + 1 + 1 + 1 from by omega]
      simp only [List.set_cons_succ, TrsD]
      exact ⟨a, b, c, _, rfl, h1, this⟩
theorem sizeL_set : ∀ (l : List Tr) (k : Nat) (hk : k < l.length) (T : Tr), sizeL (l.set k T) + (l[k]).size = sizeL l + T.size
  | [], k, hk, T => absurd hk (by simp)
  | x :: r, 0, hk, T => by simp only [List.set_cons_zero, List.getElem_cons_zero, sizeL]; omega
  | x :: r, k + 1, hk, T => by
    have := sizeL_set r k (by simpa using hk) T
    simp only [List.set_cons_succ, List.getElem_cons_succ, sizeL]
    omega
/-- Three cells of a row of one's own are set. -/
theorem row_set3 {w : World} {b : Nat} {cur : Array Value} {e : TypeId} {n c : Nat} (h : w.heap[b]? = some (.cells cur e (0, 0))) (hn : n ≤ c) (hc : c ≤ maxLen) (hs : cur.size = c * 3) (k : Nat) (x y z : Value) {D : Nat → Prop} (hD : D b) :
    SlD (((w.setCell ⟨b, k * 3, none⟩ x).setCell ⟨b, k * 3 + 1, none⟩ y).setCell ⟨b, k * 3 + 2, none⟩ z) D 3 (.slice (some ⟨b, 0, none⟩) n c) ((((cur.toList.take (n * 3)).set (k * 3) x).set (k * 3 + 1) y).set (k * 3 + 2) z) := by
  have h3 := blk_set (blk_set (blk_set h (k * 3) x) (k * 3 + 1) y) (k * 3 + 2) z
  refine ⟨_, n, c, rfl, ?_, hn, hc, fun _ => ⟨b, 0, rfl, hD, fun j u hu => ?_⟩⟩
  · simp only [List.length_set, List.length_take, Array.length_toList, hs]
    exact Nat.min_eq_left (Nat.mul_le_mul_right 3 hn)
  · rw [Nat.zero_add, blk_cell h3]
    rw [← List.take_set, ← List.take_set, ← List.take_set, List.getElem?_take] at hu
    split at hu
    · rw [← Array.getElem?_toList, Array.toList_setIfInBounds, Array.toList_setIfInBounds, Array.toList_setIfInBounds]; exact hu
    · cases hu
theorem fr_row3 (w : World) (b o : Nat) (x y z : Value) : Fr (some b) w (((w.setCell ⟨b, o, none⟩ x).setCell ⟨b, o + 1, none⟩ y).setCell ⟨b, o + 2, none⟩ z) :=
  Fr.setRow (p := ⟨b, o + 2, none⟩) (Fr.setRow (p := ⟨b, o + 1, none⟩) (Fr.set1 w ⟨b, o, none⟩ x) rfl y) rfl z

/-- What BentTrust hands back: a trust, whichever. -/
def BentP (w : World) (g : Nat) (D : Nat → Prop) (N : Nat) (e : Ending) (w' : World) : Prop :=
  ∃ v T, e = .returned v ∧ TrD w' (fun b => D b ∨ (w.heap.size ≤ b ∧ b < w'.heap.size)) v T ∧ T.size ≤ N + 210 ∧ SrcR 84 w' g ∧ Fr (some g) w w'
theorem dd_in {D : Nat → Prop} {B q g : Nat} {w w' : World} (hD : ∀ b, D b → b < w.heap.size ∧ b ≠ g) (F : Fr (some g) w w') : ∀ k, D k → Dd D B q w' k ∧ w'.heap[k]? = w.heap[k]? := fun k hk =>
  ⟨.inl hk, F.block k (hD k hk).1 (fun e => (hD k hk).2 (by injection e))⟩
theorem bent_fin {w w4 w5 : World} {g q N : Nat} {D : Nat → Prop} {r : Option Nat} {x y z : Value} {T : Tr} (hD : ∀ b, D b → b < w.heap.size ∧ b ≠ g) (hg : g < w.heap.size) (hT : TrD w4 (Dd D (w.heap.size + 2) q w4) (.agg #[x, y, z]) T) (hs : T.size ≤ N + 210) (S : SrcR 84 w4 g)
    (F : Fr (some g) w w4) (FS : Fr r w4 w5) (hr : ∀ b, r = some b → w.heap.size ≤ b ∧ (b < w.heap.size + 2 ∨ b = q)) :
    BentP w g D N (.returned (.agg #[x, y, z])) (((w5.setCell ⟨w.heap.size + 1, 0, none⟩ x).setCell ⟨w.heap.size + 1, 1, none⟩ y).setCell ⟨w.heap.size + 1, 2, none⟩ z) := by
  have G := fr_fill3 w5 (w.heap.size + 1) x y z
  generalize World.setCell (World.setCell (World.setCell w5 _ _) _ _) _ _ = w6 at *
  have hz := F.size
  have hz2 := FS.size
  have hz3 := G.size
  have k1 := TrD.keep (dd_fr (fun b hb => by have := (hD b hb).1; omega) FS (fun b hb => ⟨fun h => by have := (hD b h).1; have := hr b hb; omega, (hr b hb).2⟩)) _ _ hT
  have k2 := TrD.keep (dd_fr (q := q) (B := w.heap.size + 2) (fun b hb => by have := (hD b hb).1; omega) G (fun b hb => by injection hb with hb; subst hb; exact ⟨fun h => by have := (hD _ h).1; omega, .inl (by omega)⟩)) _ _ k1
  refine ⟨_, T, rfl, TrD.keep (fun k hk => ⟨?_, rfl⟩) _ _ k2, hs, (S.frs FS (fun b hb => by have := (hr b hb).1; omega)).frs G (fun b hb => by injection hb with hb; omega), (F.own FS (fun b hb => by have := (hr b hb).1; omega)).own G (fun b hb => by injection hb with hb; omega)⟩
  rcases hk with h | h
  · exact .inl h
  · exact .inr ⟨by omega, h.2.1⟩
/-- append of a slice to an empty literal that has just been laid. -/
theorem app_copy {P : Program} {t e : TypeId} {size bytes : Nat} (E : EInfo P t e size bytes) {w : World} {ops : Array Oper} {rest : List Oper} {o : Oper} {a : Act} {Q : Exit → Act → World → Prop} (hgd : o.guard = none) (s x : Operand)
    (ho : o.op = .call { callee := .builtin .append, args := #[s, x], argTypes := #[t, t] })
    (bk : Nat) (hs : a.eval s = .slice (some ⟨bk, 0, none⟩) 0 0) (hbk : w.heap.size = bk)
    (B : Option Addr) (m d : Nat) (news : List Value) (hx : a.eval x = .slice B m d) (hr : SlD w (fun _ => True) size (.slice B m d) news) (h1 : ∀ u ∈ news, u.oneCell' = true) (hb : m * bytes ≤ 140737488355328) (h63 : m ≤ maxLen)
    (h : ∀ A' c' w', w'.ownsRow w.heap.size e size (.slice A' m c') m news → Fr none w w' → wpList P ops Q rest (a.put o.dst (.slice A' m c')) w') :
    wpList P ops Q (o :: rest) a (w.alloc (.cells #[] e)) := by
  subst hbk
  have FA := (Fr.refl none w).alloc (.cells #[] e)
  have hr' : SlD (w.alloc (.cells #[] e)) (fun _ => True) size (.slice B m d) news := by
    obtain ⟨B', m', d', e0, hl, hmd, hd, hx⟩ := hr
    injection e0 with e1 e2 e3
    subst e1 e2 e3
    refine ⟨B, m, d, rfl, hl, hmd, hd, fun hp => ?_⟩
    obtain ⟨b, off, rfl, _, hc⟩ := hx hp
    exact ⟨b, off, rfl, trivial, fun j u hu => FA.keep (hc j u hu) (by simp)⟩
  refine app_any E hgd s x ho w.heap.size _ 0 0 [] hs (own_lit0 w e size _ (Nat.le_refl _)) B m d news hx hr' h1 (by rw [Nat.zero_add]; exact hb) (by omega) (by simp) ?_
  intro A' c' w' own gr bl
  rw [Nat.zero_add] at own bl ⊢
  exact h A' c' w' (by simpa using own) (FA.own gr (fun b hb => by simp [Value.ownBlock] at hb; omega))

set_option maxRecDepth 100000 in
set_option maxHeartbeats 4000000 in
theorem bent_any (d : Nat) : ∀ (t : Tr) (v : Value) (g : Nat) (w : World) (D : Nat → Prop), t.dep ≤ d → t.size ≤ 1000000 → (∀ b, D b → b < w.heap.size ∧ b ≠ g) → TrD w D v t → SrcR 84 w g →
    Calls Tryz.prog 70 #[.pointer (some ⟨g, 0, none⟩), v] w (BentP w g D t.size) := by
  induction d with
  | zero =>
    intro t v g w D hd
    cases t
    simp [Tr.dep] at hd
  | succ d ih =>
    intro t v g w D hd hs hD h S0
    obtain ⟨thr, nodes, inner⟩ := t
    simp only [TrD] at h
    obtain ⟨vn, vi, cells, rfl, h0, h1, h2, h3, h4, h5, h6⟩ := h
    obtain ⟨A, n, c, rfl, hl, hnc, hm, hx⟩ := id h1
    obtain ⟨A', n', c', rfl, hl', hnc', hm', hx'⟩ := id h3
    have hlen := h6.len
    obtain rfl : n' = inner.length := by omega
    obtain rfl : n = nodes.length := by simpa using hl.symm
    unfold maxLen at hm hm'
    unfold Few at h4 h5
    have hg := S0.lt
    simp only [Tr.size] at hs
    clear hx hx' hl hl'
    have HL := Lib.hid hlen
    clear hlen
    have HD := Lib.hid hD
    clear hD
    go_enter Tryz.func70, Tryz.ntmps70
    go_upto_region 1 with (fail)
    generalize hW : (w.alloc _).alloc _ = w1
    have hz : w1.heap.size = w.heap.size + 2 := by rw [← hW]; simp
    have F1 : Fr none w w1 := hW ▸ ((Fr.refl none w).alloc _).alloc _
    have b3 : TB w1 w.heap.size (.int .i64 thr) (.slice A nodes.length c) (.slice A' inner.length c') := by
      rw [← hW]; exact (Below.heap_alloc _ _ _ (by simp)).trans (blk_new _ _)
    have b4 : TB w1 (w.heap.size + 1) (.int .i64 0) (.slice none 0 0) (.slice none 0 0) := by
      rw [← hW]; exact blk_new_at (by simp) _
    clear hW
    have S1 := S0.fr F1
    have hz1 : w.heap.size + 2 ≤ w1.heap.size := by omega
    have R3 := b3.cell
    clear hz S0
    go_cut [18] (fun s18 wr => ∃ bb, s18 = .bool bb ∧ (bb = true → 0 < inner.length) ∧ Fr (some g) w wr ∧ w.heap.size + 2 ≤ wr.heap.size ∧ SrcR 84 wr g ∧ TB wr w.heap.size (.int .i64 thr) (.slice A nodes.length c) (.slice A' inner.length c') ∧ TB wr (w.heap.size + 1) (.int .i64 0) (.slice none 0 0) (.slice none 0 0))
    case first =>
      by_cases hin : 0 < inner.length
      · go_wp2_with fail
        refine (tapeN_any 2 g _ (by omega) (by omega) S1).mono ?_
        rintro e w3 ⟨x, rfl, x1, x2, S3, F3⟩
        have hz3 := F3.size
        go_wp2_with fail
        go_meet
        exact ⟨_, rfl, fun _ => hin, (F1.mono (r := some g)).same F3, by omega, S3, b3.fr F3 (by simp; omega), b4.fr F3 (by simp; omega)⟩
      · go_wp2_with fail
        go_meet
        exact ⟨_, rfl, fun h => (by simp at h), F1.mono, hz1, S1, b3, b4⟩
    case rest =>
      clear R3 b3 b4 S1 F1 hz1 w1
      obtain ⟨bb, rfl, hbb, F, hs2, S, K3, K4⟩ := hcut
      have hD2 : ∀ b, D b → b < wc.heap.size := fun b hb => by have := (HD.out b hb).1; omega
      have HD2 := Lib.hid hD2
      clear hD2
      have R3 := K3.cell
      have Z3 := K3.free
      cases bb with
      | true =>
        have hin := hbb rfl
        clear hbb
        have kD := dd_in (B := w.heap.size + 2) (q := w.heap.size) HD.out F
        have h3' := h3.keep kD
        have H1C := Lib.hid (TrsD.one h6)
        have hpc : w.heap.size < wc.heap.size := by omega
        clear kD
        go_wp2_with (at_builtin; refine app_copy eiTrust rfl _ _ rfl wc.heap.size rfl rfl A' inner.length c' _ rfl h3'.any H1C.out (by omega) (by unfold maxLen; omega) ?_; intro A5 c5 w5 own5 F5; have hz5 := F5.size; have K53 := K3.fr F5 (by simp); have K54 := K4.fr F5 (by simp); have S5 := S.fr F5; have hpp : w.heap.size < w5.heap.size := (by omega); have R5 := K53.cell; have Z5 := K53.free)
        generalize hW : w5.setCell _ _ = w6
        have F6 : Fr (some w.heap.size) w5 w6 := hW ▸ Fr.set1 w5 ⟨w.heap.size, 2, none⟩ (.slice A5 inner.length c5)
        have K63 : TB w6 w.heap.size (.int .i64 thr) (.slice A nodes.length c) (.slice A5 inner.length c5) := hW ▸ K53.set2 (.slice A5 inner.length c5)
        have K64 := K54.fr F6 (by simp)
        have S6 := S5.frs F6 (fun b hb => by injection hb with hb; omega)
        have own6 := own_fr own5 F6 (fun b hb => by injection hb with hb; omega)
        have Fw6 := (F.pure F5).own F6 (fun b hb => by injection hb with hb; omega)
        have hz6 := F6.size
        clear hW R5 Z5 K53 K54 S5 F6 own5 h3' K3 K4 S
        refine (tapeN_any (inner.length : Int) g _ (by omega) (by omega) S6).mono ?_
        rintro e w7 ⟨x, rfl, x1, x2, S7, F7⟩
        obtain ⟨k, rfl⟩ := Int.eq_ofNat_of_zero_le x1
        have hk : k < inner.length := by omega
        have own7 := own_fr own6 F7 (fun b hb => by injection hb with hb; omega)
        have hz7 := F7.size
        have K73 := K63.fr F7 (by simp; omega)
        have K74 := K64.fr F7 (by simp; omega)
        have Fw7 := Fw6.same F7
        clear K63 K64 S6 own6 F7 Fw6 x1 x2
        obtain ⟨b5, rfl, hb5, cur, hcur, hcl, hct⟩ : ∃ b5, A5 = some ⟨b5, 0, none⟩ ∧ wc.heap.size ≤ b5 ∧ ∃ cur, w7.heap[b5]? = some (.cells cur 31 (0, 0)) ∧ cur.size = c5 * 3 ∧ cur.toList.take (inner.length * 3) = cells := by
          rcases own7.2 with ⟨_, h⟩ | ⟨b5, cap, cur, hv, hb, hh, hnc, _, hsz, htk⟩
          · omega
          · injection hv with e1 e2 e3
            subst e1 e3
            exact ⟨b5, rfl, hb, cur, hh, hsz, htk⟩
        obtain ⟨ka, kb, kc, e0, e1, e2, hTk⟩ := h6.get k hk
        obtain ⟨th, A1, n1, c1, A2, n2, c2, hsh⟩ := hTk.shape
        simp only [Value.agg.injEq, Array.mk.injEq, List.cons.injEq, and_true] at hsh
        obtain ⟨rfl, rfl, rfl⟩ := hsh
        have hcc := blk_cell hcur
        have hcf := blk_free hcur
        have hce : ∀ i u, cells[i]? = some u → w7.cell? ⟨b5, i, none⟩ = some u := fun i u hu => by
          rw [hcc]
          rw [← hct, List.getElem?_take] at hu
          split at hu
          · simpa using hu
          · cases hu
        have g0 := hce _ _ e0
        have g1 := hce _ _ e1
        have g2 := hce _ _ e2
        have hTk7 : TrD w7 D (.agg #[.int .i64 th, .slice A1 n1 c1, .slice A2 n2 c2]) inner[k] := TrD.keep (fun q hq => ⟨hq, Fw7.block q (HD.out q hq).1 (fun e => (HD.out q hq).2 (by injection e))⟩) _ _ hTk
        have hdk : (inner[k]).dep ≤ d := by have := depL_get inner k hk; simp only [Tr.dep] at hd; omega
        have hsk := sizeL_get inner k hk
        have R7 := K73.cell
        have Z7 := K73.free
        have hb57 := blk_lt hcur
        have hn7 : inner.length ≤ c5 := by
          rcases own7.2 with ⟨h, _⟩ | ⟨_, cap, _, hv, _, _, hnc, _⟩
          · cases h
          · injection hv with _ _ e3; omega
        have hm7 : c5 ≤ maxLen := by
          rcases own7.2 with ⟨h, _⟩ | ⟨_, cap, _, hv, _, _, _, hm, _⟩
          · cases h
          · injection hv with _ _ e3; omega
        have HM7 := Lib.hid hm7
        have HCT := Lib.hid hct
        have HCL := Lib.hid hcl
        have HCU := Lib.hid hcur
        clear hce e0 e1 e2 hTk hcc hcf hm7 hct hcl hcur own7
        have hTkd : TrD w7.drew D (.agg #[.int .i64 th, .slice A1 n1 c1, .slice A2 n2 c2]) inner[k] := TrD.keep (w := w7) (w' := w7.drew) (D' := D) (fun q (hq : D q) => ⟨hq, (rfl : w7.drew.heap[q]? = w7.heap[q]?)⟩) inner[k] _ hTk7
        have hDd : ∀ b, D b → b < w7.drew.heap.size ∧ b ≠ g := fun b hb => ⟨by have := (HD.out b hb).1; show b < w7.heap.size; omega, (HD.out b hb).2⟩
        have HDd := Lib.hid hDd
        have hsk2 : (inner[k]).size ≤ 1000000 := by omega
        clear hDd hTk7
        go_upto_region 4 with (fail)
        go_region_law (go_simp; go_at_call 70; refine (ih inner[k] (.agg #[.int .i64 th, .slice A1 n1 c1, .slice A2 n2 c2]) g _ D hdk hsk2 HDd.out hTkd S7.drew).mono ?_; rintro e w9 ⟨v9, T9, rfl, hT9, hs9, S9, F9⟩; obtain ⟨th', a1, m1, e1, a2, m2, e2, rfl⟩ := hT9.shape; have F9 := ((Fr.refl (some g) w7).drew).same F9; have K93 := K73.fr F9 (by simp; omega); have R9 := K93.cell; have Z9 := K93.free; have HB9 := blk_fr HCU.out F9 (by simp; omega); have C9 := blk_free HB9; have q0 := F9.keep g0 (by simp; omega); have q1 := F9.keep g1 (by simp; omega); have q2 := F9.keep g2 (by simp; omega); have HB9 := Lib.hid HB9; have hz9 := F9.size)
        all_goals
          have G := fr_row3 w9 b5 (k * 3) (.int .i64 th') (.slice a1 m1 e1) (.slice a2 m2 e2)
          have hrow := row_set3 HB9.out hn7 HM7.out HCL.out k (.int .i64 th') (.slice a1 m1 e1) (.slice a2 m2 e2) (D := fun b => D b ∨ (w.heap.size + 2 ≤ b ∧ b < w9.heap.size ∧ b ≠ w.heap.size)) (.inr ⟨by omega, by omega, by omega⟩)
          rw [HCT.out] at hrow
          generalize World.setCell (World.setCell (World.setCell w9 _ _) _ _) _ _ = w10 at *
          have hz10 := G.size
          have K103 := K93.fr G (by simp; omega)
          have K104 := (K74.fr F9 (by simp; omega)).fr G (by simp; omega)
          have Fw9 := Fw7.same F9
          have Fw10 := Fw9.own G (fun b hb => by injection hb with hb; omega)
          have S10 := S9.frs G (fun b hb => by injection hb with hb; omega)
          have hd7 : w7.drew.heap.size = w7.heap.size := rfl
          have t9 : TrD w10 (Dd D (w.heap.size + 2) w.heap.size w10) (.agg #[.int .i64 th', .slice a1 m1 e1, .slice a2 m2 e2]) T9 := TrD.keep (fun q hq => by
            have hq' : q < w9.heap.size ∧ q ≠ b5 ∧ Dd D (w.heap.size + 2) w.heap.size w10 q := by
              rcases hq with h | h
              · have := (HD.out q h).1
                exact ⟨by omega, by omega, .inl h⟩
              · exact ⟨h.2, by omega, .inr ⟨by omega, by omega, by omega⟩⟩
            exact ⟨hq'.2.2, G.block q hq'.1 (fun e => hq'.2.1 (by injection e))⟩) _ _ hT9
          have kD := dd_in (B := w.heap.size + 2) (q := w.heap.size) HD.out Fw10
          have hts := TrsD.set (TrsD.keep kD _ _ h6) k hk _ _ _ _ t9
          have hss := sizeL_set inner k hk T9
          have R10 := K103.cell
          have R11 := K104.cell
          have Z11 := K104.free
          clear q0 q1 q2 R9 Z9 C9 R7 Z7 g0 g1 g2
          go_wp2_with fail
          refine bodyPost_ret (v := .agg #[.int .i64 thr, .slice A nodes.length c, .slice (some ⟨b5, 0, none⟩) inner.length c5]) (by simp [results, Tryz.results70, go_sem, R11, R10]) rfl ?_
          exact bent_fin HD.out hg (TrD.mk_ h0 (h1.keep kD) h2 (hrow.keep (fun q hq => ⟨hq.imp id (fun h => ⟨h.1, by omega, h.2.2⟩), rfl⟩)) h4 (by simpa using h5) hts) (T := .mk thr nodes (inner.set k T9)) (by simp only [Tr.size, List.length_set]; omega) S10 Fw10 (Fr.refl none _) (fun b hb => by cases hb)
      | false =>
        clear hbb
        go_wp2_with fail
        refine (tapeN_any 6 g _ (by omega) (by omega) S).mono ?_
        rintro e w3 ⟨x, rfl, x1, x2, S3, F3⟩
        have hz3 := F3.size
        have K3' := K3.fr F3 (by simp; omega)
        have K4' := K4.fr F3 (by simp; omega)
        have F' := F.same F3
        clear R3 Z3 K3 K4 S
        have R3 := K3'.cell
        have Z3 := K3'.free
        have R4 := K4'.cell
        have Z4 := K4'.free
        have hp3 : w.heap.size < w3.heap.size := by omega
        have hp4 : w.heap.size + 1 < w3.heap.size := by omega
        obtain rfl | rfl | rfl | rfl | rfl | rfl : x = 0 ∨ x = 1 ∨ x = 2 ∨ x = 3 ∨ x = 4 ∨ x = 5 := by omega
        · -- 0: another threshold
          go_wp2_with fail
          have FA := (Fr.refl none w3).alloc (.cells #[.int .i64 0, .int .i64 (-1), .int .i64 ((nodes.length : Int) + inner.length), .int .i64 ((nodes.length : Int) + inner.length + 1)] 3)
          have hlit : SlI (w3.alloc (.cells #[.int .i64 0, .int .i64 (-1), .int .i64 ((nodes.length : Int) + inner.length), .int .i64 ((nodes.length : Int) + inner.length + 1)] 3)) (some g) (.slice (some ⟨w3.heap.size, 0, none⟩) 4 4) [0, -1, (nodes.length : Int) + inner.length, (nodes.length : Int) + inner.length + 1] :=
            ⟨SlD.lit_dm #[.int .i64 0, .int .i64 (-1), .int .i64 ((nodes.length : Int) + inner.length), .int .i64 ((nodes.length : Int) + inner.length + 1)] 3 4 1 rfl (by unfold maxLen; omega) (by simp; omega) (Fr.refl _ _), by intro x hx; simp at hx; constructor <;> omega⟩
          refine (tapePick_any _ [0, -1, (nodes.length : Int) + inner.length, (nodes.length : Int) + inner.length + 1] g _ hlit (by simp) (by simp) (S3.fr FA)).mono ?_
          rintro e wp ⟨x, rfl, hx, Sp, Fp⟩
          have hxw : Wi x := by simp at hx; constructor <;> omega
          have Fp := FA.mono.same Fp
          have Fw := F'.same Fp
          have hzp := Fp.size
          have Kp3 := K3'.fr Fp (by simp; omega)
          have Kp4 := K4'.fr Fp (by simp; omega)
          have hpp : w.heap.size < wp.heap.size := by omega
          have hpq : w.heap.size + 1 < wp.heap.size := by omega
          clear hx hlit FA R3 Z3 R4 Z4
          have R3 := Kp3.cell
          have Z3 := Kp3.free
          have R4 := Kp4.cell
          have Z4 := Kp4.free
          go_wp2_with fail
          refine bodyPost_ret (v := .agg #[.int .i64 x, .slice A nodes.length c, .slice A' inner.length c']) (by simp [results, Tryz.results70, go_sem, R4, R3]) rfl ?_
          have kD := dd_in (B := w.heap.size + 2) (q := w.heap.size) HD.out Fw
          exact bent_fin HD.out hg (TrD.mk_ hxw (h1.keep kD) h2 (h3.keep kD) h4 h5 (TrsD.keep kD _ _ h6)) (T := .mk x nodes inner) (by simp only [Tr.size]; omega) Sp Fw (Fr.set1 wp ⟨w.heap.size, 0, none⟩ (.int .i64 x)) (fun b hb => by injection hb with hb; subst hb; simp)
        · -- 1: one node more
          have kD := dd_in (B := w.heap.size + 2) (q := w.heap.size) HD.out F'
          have h1' := h1.keep kD
          have h1c : ∀ u ∈ nodes.map (Value.int .i64), u.oneCell' = true := fun u hu => by
            obtain ⟨x, _, rfl⟩ := List.mem_map.1 hu
            simp [Value.oneCell']
          have H1C := Lib.hid h1c
          clear h1c
          go_wp2_with (at_builtin; refine app_copy eiInt rfl _ _ rfl w3.heap.size rfl rfl A nodes.length c _ rfl h1'.any H1C.out (by omega) (by unfold maxLen; omega) ?_; intro A5 c5 w5 own5 F5)
          have hz5 := F5.size
          have K53 := K3'.fr F5 (by simp)
          have K54 := K4'.fr F5 (by simp)
          have F5' := F'.pure F5
          have S5 := S3.fr F5
          clear R3 Z3 R4 Z4 kD h1'
          have FA := (Fr.refl none w5).alloc (.cells #[.int .i64 (-1), .int .i64 0, .int .i64 9, .int .i64 10] 3)
          have hlit : SlI (w5.alloc (.cells #[.int .i64 (-1), .int .i64 0, .int .i64 9, .int .i64 10] 3)) (some g) (.slice (some ⟨w5.heap.size, 0, none⟩) 4 4) [-1, 0, 9, 10] :=
            ⟨SlD.lit_dm #[.int .i64 (-1), .int .i64 0, .int .i64 9, .int .i64 10] 3 4 1 rfl (by unfold maxLen; omega) (by simp; omega) (Fr.refl _ _), by intro x hx; simp at hx; constructor <;> omega⟩
          refine (tapePick_any _ [-1, 0, 9, 10] g _ hlit (by simp) (by simp) (S5.fr FA)).mono ?_
          rintro e wp ⟨x, rfl, hx, Sp, Fp⟩
          have hxw : Wi x := by simp at hx; constructor <;> omega
          have Fp := FA.mono.same Fp
          have Fw := F5'.same Fp
          have hzp := Fp.size
          have Kp3 := K53.fr Fp (by simp; omega)
          have Kp4 := K54.fr Fp (by simp; omega)
          have own6 := own_fr own5 Fp (by simp; omega)
          have hpp : w.heap.size < wp.heap.size := by omega
          have hpq : w.heap.size + 1 < wp.heap.size := by omega
          clear hx hlit FA S5 F5'
          go_wp2_with (at_builtin; refine app_lit eiInt rfl _ _ rfl w3.heap.size A5 nodes.length c5 _ rfl own6 1 [.int .i64 x] _ _ rfl (by simp) rfl (by simp [Value.oneCell']) (by omega) (by unfold maxLen; omega) (by omega) ?_; intro A7 c7 w7 own7 F7 bl7; have K73 := Kp3.fr F7 (own_ne own6 (by omega)); have K74 := Kp4.fr F7 (own_ne own6 (by omega)); have R3 := K73.cell; have Z3 := K73.free; have R4 := K74.cell; have Z4 := K74.free; have hz7 := F7.size)
          have og := own_blk_ge own6
          refine bodyPost_ret (v := .agg #[.int .i64 thr, .slice A7 (nodes.length + 1) c7, .slice A' inner.length c']) (by simp [results, Tryz.results70, go_sem, R4, R3]) rfl ?_
          have Fw7 := Fw.own F7 (fun b hb => by have := og b hb; omega)
          have kD := dd_in (B := w.heap.size + 2) (q := w.heap.size) HD.out Fw7
          exact bent_fin HD.out hg (TrD.mk_ h0 (by simpa using (SlD.own_dn own7).keep (fun k hk => ⟨.inr ⟨by have := hk.1; omega, hk.2, by have := hk.1; omega⟩, rfl⟩)) (by intro y hy; simp at hy; rcases hy with hy | rfl; exact h2 y hy; exact hxw) (h3.keep kD) (by simp; omega) h5 (TrsD.keep kD _ _ h6)) (T := .mk thr (nodes ++ [x]) inner) (by simp only [Tr.size, List.length_append, List.length_singleton]; omega) (Sp.frs F7 (fun b hb => by have := og b hb; omega)) Fw7 (Fr.set1 w7 ⟨w.heap.size, 1, none⟩ (.slice A7 (nodes.length + 1) c7)) (fun b hb => by injection hb with hb; subst hb; simp)
        · -- 2: no nodes
          go_wp2_with fail
          refine bodyPost_ret (v := .agg #[.int .i64 thr, .slice none 0 0, .slice A' inner.length c']) (by simp [results, Tryz.results70, go_sem, R4, R3]) rfl ?_
          have kD := dd_in (B := w.heap.size + 2) (q := w.heap.size) HD.out F'
          exact bent_fin HD.out hg (TrD.mk_ h0 (SlD.nil _ _ _) (by simp) (h3.keep kD) (by simp) h5 (TrsD.keep kD _ _ h6)) (T := .mk thr [] inner) (by simp only [Tr.size, List.length_nil]; omega) S3 F' (Fr.set1 w3 ⟨w.heap.size, 1, none⟩ (.slice none 0 0)) (fun b hb => by injection hb with hb; subst hb; simp)
        · -- 3: an empty trust more
          have kD := dd_in (B := w.heap.size + 2) (q := w.heap.size) HD.out F'
          have h3' := h3.keep kD
          have H1C := Lib.hid (TrsD.one h6)
          go_wp2_with (first | (at_builtin; refine app_copy eiTrust rfl _ _ rfl w3.heap.size rfl rfl A' inner.length c' _ rfl h3'.any H1C.out (by omega) (by unfold maxLen; omega) ?_; intro A5 c5 w5 own5 F5; have hz5 := F5.size; have K53 := K3'.fr F5 (by simp); have K54 := K4'.fr F5 (by simp); have S5 := S3.fr F5; have hpp : w.heap.size < w5.heap.size := (by omega); have hpq : w.heap.size + 1 < w5.heap.size := (by omega)) | (at_builtin; refine app_lit eiTrust rfl _ _ rfl w3.heap.size A5 inner.length c5 _ rfl own5 1 [.int .i64 0, .slice none 0 0, .slice none 0 0] _ _ rfl (by simp) rfl (by simp [Value.oneCell']) (by omega) (by unfold maxLen; omega) (by omega) ?_; intro A7 c7 w7 own7 F7 bl7; have K73 := K53.fr F7 (own_ne own5 (by omega)); have K74 := K54.fr F7 (own_ne own5 (by omega)); have R7 := K73.cell; have Z7 := K73.free; have R8 := K74.cell; have Z8 := K74.free; have hz7 := F7.size))
          have og := own_blk_ge own5
          refine bodyPost_ret (v := .agg #[.int .i64 thr, .slice A nodes.length c, .slice A7 (inner.length + 1) c7]) (by simp [results, Tryz.results70, go_sem, R8, R7]) rfl ?_
          have Fw7 := (F'.pure F5).own F7 (fun b hb => by have := og b hb; omega)
          have kD := dd_in (B := w.heap.size + 2) (q := w.heap.size) HD.out Fw7
          exact bent_fin HD.out hg (TrD.mk_ h0 (h1.keep kD) h2 ((SlD.own_dn own7).keep (fun k hk => ⟨.inr ⟨by have := hk.1; omega, hk.2, by have := hk.1; omega⟩, rfl⟩)) h4 (by simp; omega) (TrsD.append (TrsD.keep kD _ _ h6) (by simp only [TrsD]; exact ⟨_, _, _, [], rfl, TrD.mk_ (by constructor <;> omega) (SlD.nil _ _ _) (by simp) (SlD.nil _ _ _) (by simp) (by simp) (by simp [TrsD]), rfl⟩))) (T := .mk thr nodes (inner ++ [.mk 0 [] []])) (by simp only [Tr.size, List.length_append, List.length_singleton, sizeL_append, sizeL, List.length_nil]; omega) (S5.frs F7 (fun b hb => by have := og b hb; omega)) Fw7 (Fr.set1 w7 ⟨w.heap.size, 2, none⟩ (.slice A7 (inner.length + 1) c7)) (fun b hb => by injection hb with hb; subst hb; simp)
        · -- 4: more levels
          go_wp2_with fail
          generalize hW : w3.alloc _ = w4
          have F4 : Fr none w3 w4 := hW ▸ (Fr.refl none w3).alloc _
          have hz4 : w4.heap.size = w3.heap.size + 1 := by rw [← hW]; simp
          have b6 : TB w4 w3.heap.size (.int .i64 thr) (.slice A nodes.length c) (.slice A' inner.length c') := by rw [← hW]; exact blk_new _ _
          clear hW
          refine (tapeRange_any 1 4 g _ (by omega) (by omega) (by omega) (S3.fr F4)).mono ?_
          rintro e wp ⟨i0, rfl, hi1, hi2, Sp, Fp⟩
          have hzp := Fp.size
          have b6 := b6.fr Fp (by simp; omega)
          have Kp3 := (K3'.fr F4 (by simp)).fr Fp (by simp; omega)
          have Kp4 := (K4'.fr F4 (by simp)).fr Fp (by simp; omega)
          have Fw := (F'.pure F4).same Fp
          have kD := dd_in (B := w.heap.size + 2) (q := w3.heap.size) HD.out Fw
          have hT0 : TrD wp (Dd D (w.heap.size + 2) w3.heap.size wp) (.agg #[.int .i64 thr, .slice A nodes.length c, .slice A' inner.length c']) (.mk thr nodes inner) := TrD.mk_ h0 (h1.keep kD) h2 (h3.keep kD) h4 h5 (TrsD.keep kD _ _ h6)
          have hp6 : w3.heap.size < wp.heap.size := by omega
          have hq6 : w.heap.size + 2 ≤ w3.heap.size := by omega
          clear R3 Z3 R4 Z4 K3' K4' S3 F' F4 Fp hz4 kD hzp hz3
          go_wp2_with fail
          go_loopw [7] (fun s7 wr => ∃ (i th : Int) (A1 : Option Addr) (n1 c1 : Nat) (A2 : Option Addr) (n2 c2 : Nat) (T : Tr), s7 = .int .i64 i ∧ 0 ≤ i ∧ i ≤ 4 ∧ Fr (some g) w wr ∧ w3.heap.size < wr.heap.size ∧ SrcR 84 wr g ∧ TB wr w.heap.size (.int .i64 thr) (.slice A nodes.length c) (.slice A' inner.length c') ∧ TB wr (w.heap.size + 1) (.int .i64 0) (.slice none 0 0) (.slice none 0 0) ∧
            TB wr w3.heap.size (.int .i64 th) (.slice A1 n1 c1) (.slice A2 n2 c2) ∧ TrD wr (Dd D (w.heap.size + 2) w3.heap.size wr) (.agg #[.int .i64 th, .slice A1 n1 c1, .slice A2 n2 c2]) T ∧ (T.size : Int) + i ≤ (nodes.length + inner.length + sizeL inner : Nat) + 4) (fun s7 _ => (intOf s7).toNat)
          case atStart => exact ⟨i0, thr, A, _, c, A', _, c', _, rfl, by omega, hi2, Fw, hp6, Sp, Kp3, Kp4, b6, hT0, by simp only [Tr.size]; omega⟩
          case round =>
            clear hT0 b6 Kp3 Kp4 Sp hp6 Fw
            obtain ⟨i, th, A1, n1, c1, A2, n2, c2, T, rfl, hi0, hi4, Fw, hp6, Sr, K3r, K4r, K6r, hT, hTs⟩ := hrel
            have R6 := K6r.cell
            have Z6 := K6r.free
            by_cases hi : 0 < i
            · go_wp2_with fail
              go_roundw
              case rel =>
                have G := fr_fill3 wr w3.heap.size (.int .i64 1) (.slice none 0 0) (.slice (some ⟨wr.heap.size, 0, none⟩) 1 1)
                have K6s : TB (((wr.setCell ⟨w3.heap.size, 0, none⟩ (.int .i64 1)).setCell ⟨w3.heap.size, 1, none⟩ (.slice none 0 0)).setCell ⟨w3.heap.size, 2, none⟩ (.slice (some ⟨wr.heap.size, 0, none⟩) 1 1)) w3.heap.size (.int .i64 1) (.slice none 0 0) (.slice (some ⟨wr.heap.size, 0, none⟩) 1 1) := by
                  have := blk_set (blk_set (blk_set K6r 0 (.int .i64 1)) 1 (.slice none 0 0)) 2 (.slice (some ⟨wr.heap.size, 0, none⟩) 1 1)
                  simpa [TB] using this
                have hzs : (((wr.setCell ⟨w3.heap.size, 0, none⟩ (.int .i64 1)).setCell ⟨w3.heap.size, 1, none⟩ (.slice none 0 0)).setCell ⟨w3.heap.size, 2, none⟩ (.slice (some ⟨wr.heap.size, 0, none⟩) 1 1)).heap.size = wr.heap.size := by simp [World.setCell]
                generalize World.setCell (World.setCell (World.setCell wr _ _) _ _) _ _ = ws at *
                have FA := (Fr.refl none ws).alloc (.cells #[.int .i64 th, .slice A1 n1 c1, .slice A2 n2 c2] 31)
                have hdB : ∀ b, D b → b < wr.heap.size := fun b hb => by have := (HD.out b hb).1; omega
                have kT := TrD.keep (dd_fr (q := w3.heap.size) (B := w.heap.size + 2) (fun b hb => by have := hdB b hb; omega) FA (fun b hb => by cases hb)) _ _ (TrD.keep (dd_fr (q := w3.heap.size) (B := w.heap.size + 2) hdB G (fun b hb => by injection hb with hb; subst hb; exact ⟨fun h => by have := (HD.out _ h).1; omega, .inr rfl⟩)) _ _ hT)
                have hL := SlD.lit_dn (w := ws) #[.int .i64 th, .slice A1 n1 c1, .slice A2 n2 c2] 31 1 3 wr.heap.size rfl (by unfold maxLen; omega) (by omega) (Fr.refl none _)
                rw [hzs] at hL
                exact ⟨i - 1, 1, none, 0, 0, _, 1, 1, .mk 1 [] [T], by go_num, by omega, by omega, (Fw.own G (fun b hb => by injection hb with hb; omega)).pure FA, by simp; omega, (Sr.frs G (fun b hb => by injection hb with hb; omega)).fr FA, (K3r.fr G (by simp; omega)).fr FA (by simp), (K4r.fr G (by simp; omega)).fr FA (by simp), K6s.fr FA (by simp),
                  TrD.mk_ (by constructor <;> omega) (SlD.nil _ _ _) (by simp) (hL.keep (fun k hk => ⟨.inr ⟨by have := hk.1; omega, hk.2, by have := hk.1; omega⟩, rfl⟩)) (by simp) (by simp) (by simp only [TrsD]; exact ⟨_, _, _, [], rfl, kT, rfl⟩), by simp only [Tr.size, sizeL, List.length_nil, List.length_singleton]; omega⟩
              case measure => simp [intOf]; omega
            · have R4 := K4r.cell
              have Z4 := K4r.free
              go_wp2_with fail
              refine bodyPost_ret (v := .agg #[.int .i64 th, .slice A1 n1 c1, .slice A2 n2 c2]) (by simp [results, Tryz.results70, go_sem, R4, R6]) rfl ?_
              exact bent_fin HD.out hg hT (by simp only [Tr.size]; omega) Sr Fw (Fr.refl none _) (fun b hb => by cases hb)
        · -- 5: many more
          go_wp2_with fail
          have FA := (Fr.refl none w3).alloc (.cells #[.int .i64 20, .int .i64 60, .int .i64 101] 3)
          have hlit : SlI (w3.alloc (.cells #[.int .i64 20, .int .i64 60, .int .i64 101] 3)) (some g) (.slice (some ⟨w3.heap.size, 0, none⟩) 3 3) [20, 60, 101] :=
            ⟨SlD.lit_dm #[.int .i64 20, .int .i64 60, .int .i64 101] 3 3 1 rfl (by unfold maxLen; omega) (by simp; omega) (Fr.refl _ _), by intro x hx; simp at hx; constructor <;> omega⟩
          refine (tapePick_any _ [20, 60, 101] g _ hlit (by simp) (by simp) (S3.fr FA)).mono ?_
          rintro e wp ⟨i0, rfl, hx, Sp, Fp⟩
          have hi1 : 0 ≤ i0 ∧ i0 ≤ 101 := by simp at hx; omega
          have Fp := FA.mono.same Fp
          have Fw := F'.same Fp
          have hzp := Fp.size
          have Kp3 := K3'.fr Fp (by simp; omega)
          have Kp4 := K4'.fr Fp (by simp; omega)
          have hpp : w.heap.size + 2 ≤ wp.heap.size := by omega
          clear hx hlit FA R3 Z3 R4 Z4 K3' K4' S3 F' Fp hp3 hp4 hz3 hzp
          go_wp2_with fail
          go_loopw [8, 9] (fun s8 s9 wr => ∃ (i : Int) (A8 : Option Addr) (c8 : Nat) (L : List Tr) (cs : List Value), s9 = .int .i64 i ∧ s8 = .slice A8 L.length c8 ∧ 0 ≤ i ∧ L.length + i ≤ 101 ∧ Fr (some g) w wr ∧ wp.heap.size ≤ wr.heap.size ∧ SrcR 84 wr g ∧ TB wr w.heap.size (.int .i64 thr) (.slice A nodes.length c) (.slice A' inner.length c') ∧ TB wr (w.heap.size + 1) (.int .i64 0) (.slice none 0 0) (.slice none 0 0) ∧
            wr.ownsRow wp.heap.size 31 3 (.slice A8 L.length c8) L.length cs ∧ TrsD wr (Dx wp.heap.size wr (.slice A8 L.length c8)) cs L ∧ sizeL L = L.length) (fun _ s9 _ => (intOf s9).toNat)
          case atStart => exact ⟨i0, none, 0, [], [], rfl, rfl, hi1.1, by simp; omega, Fw, Nat.le_refl _, Sp, Kp3, Kp4, World.ownsRow_nil _ _ _ _, by simp [TrsD], by simp [sizeL]⟩
          case round =>
            clear Kp3 Kp4 Sp Fw
            obtain ⟨i, A8, c8, L, cs, rfl, rfl, hi0, hi2, Fw, hpw, Sr, K3r, K4r, own, hts, hsz⟩ := hrel
            have og := own_blk_ge own
            have HSZ := Lib.hid hsz
            clear hsz
            by_cases hi : 0 < i
            · have FA := (Fr.refl none wr).alloc (.cells #[.int .i64 (i % 10)] 3)
              have own1 := own_fr own FA (by simp)
              go_wp2_with (at_builtin; refine app_lit eiTrust rfl _ _ rfl wp.heap.size A8 L.length c8 _ rfl own1 1 [.int .i64 1, .slice (some ⟨wr.heap.size, 0, none⟩) 1 1, .slice none 0 0] _ _ rfl (by simp) rfl (by simp [Value.oneCell']) (by omega) (by unfold maxLen; omega) (by simp; omega) ?_; intro A7 c7 w7 own7 F7 bl7; have hz7 := F7.size; simp only [World.size_alloc] at hz7)
              go_roundw
              case rel =>
                have ol := own.lt
                have hlit := SlD.lit_dn (w := wr) #[.int .i64 (i % 10)] 3 1 1 wr.heap.size rfl (by unfold maxLen; omega) (by omega) (Fr.refl none _)
                have hx1 : ∀ k, Dn wr.heap.size (wr.alloc (.cells #[.int .i64 (i % 10)] 3)) k → Dx wp.heap.size (wr.alloc (.cells #[.int .i64 (i % 10)] 3)) (.slice A8 L.length c8) k ∧ (wr.alloc (.cells #[.int .i64 (i % 10)] 3)).heap[k]? = (wr.alloc (.cells #[.int .i64 (i % 10)] 3)).heap[k]? := fun k hk => ⟨⟨by have := hk.1; omega, hk.2, fun e => by have := (ol k e).2; have := hk.1; omega⟩, rfl⟩
                have t1 := TrsD.keep (dx_app F7 bl7) _ _ (TrsD.keep (dx_fr FA (by simp)) _ _ hts)
                have t2 : TrD w7 (Dx wp.heap.size w7 (.slice A7 (L.length + 1) c7)) (.agg #[.int .i64 1, .slice (some ⟨wr.heap.size, 0, none⟩) 1 1, .slice none 0 0]) (.mk 1 [i % 10] []) := TrD.mk_ (by constructor <;> omega) ((hlit.keep hx1).keep (dx_app F7 bl7)) (by intro y hy; simp at hy; constructor <;> omega) (SlD.nil _ _ _) (by simp) (by simp) (by simp [TrsD])
                have hln : (L ++ [Tr.mk 1 [i % 10] []]).length = L.length + 1 := by simp
                exact ⟨i - 1, A7, c7, L ++ [.mk 1 [i % 10] []], cs ++ [.int .i64 1, .slice (some ⟨wr.heap.size, 0, none⟩) 1 1, .slice none 0 0], by go_num, by rw [hln], by omega, by rw [hln]; omega, (Fw.pure FA).own F7 (fun b hb => by have := og b hb; omega), by omega, (Sr.fr FA).frs F7 (fun b hb => by have := og b hb; omega), (K3r.fr FA (by simp)).fr F7 (own_ne own1 (by omega)), (K4r.fr FA (by simp)).fr F7 (own_ne own1 (by omega)), by rw [hln]; exact own7, by rw [hln]; exact TrsD.append t1 (by simp only [TrsD]; exact ⟨_, _, _, [], rfl, t2, rfl⟩), by rw [sizeL_append, hln]; simp only [sizeL, Tr.size, List.length_singleton, List.length_nil]; have := HSZ.out; omega⟩
              case measure => simp [intOf]; omega
            · have R3 := K3r.cell
              have Z3 := K3r.free
              have R4 := K4r.cell
              have Z4 := K4r.free
              have kD := dd_in (B := w.heap.size + 2) (q := w.heap.size) HD.out Fw
              have h3' := h3.keep kD
              have H1C := Lib.hid (TrsD.one h6)
              clear kD
              go_wp2_with (at_builtin; refine app_any eiTrust rfl _ _ rfl wp.heap.size A8 L.length c8 _ rfl own A' inner.length c' _ rfl h3'.any H1C.out (by omega) (by unfold maxLen; omega) (by omega) ?_; intro A7 c7 w7 own7 F7 bl7; have K73 := K3r.fr F7 (own_ne own (by omega)); have K74 := K4r.fr F7 (own_ne own (by omega)); have R7 := K73.cell; have Z7 := K73.free; have R8 := K74.cell; have Z8 := K74.free; have hz7 := World.grownBy.size F7)
              refine bodyPost_ret (v := .agg #[.int .i64 thr, .slice A nodes.length c, .slice A7 (L.length + inner.length) c7]) (by simp [results, Tryz.results70, go_sem, R8, R7]) rfl ?_
              have F7 : Fr (Value.slice A8 L.length c8).ownBlock wr w7 := F7
              have nb7 : NewOr wr.heap.size (.slice A8 L.length c8) (.slice A7 (L.length + inner.length) c7) := by
                rcases bl7 with h | h
                · exact .inl h
                · exact .inr ⟨_, h, Nat.le_refl _⟩
              have Fw7 := Fw.own F7 (fun b hb => by have := og b hb; omega)
              have kD := dd_in (B := w.heap.size + 2) (q := w.heap.size) HD.out Fw7
              have t1 := TrsD.keep (D' := Dd D (w.heap.size + 2) w.heap.size w7) (fun k hk => ⟨.inr ⟨by have := hk.1; omega, hk.2.1, by have := hk.1; omega⟩, rfl⟩) _ _ (TrsD.keep (dx_app F7 nb7) _ _ hts)
              exact bent_fin HD.out hg (TrD.mk_ h0 (h1.keep kD) h2 (by simpa using (SlD.own_dn own7).keep (fun k hk => ⟨.inr ⟨by have := hk.1; omega, hk.2, by have := hk.1; omega⟩, rfl⟩)) h4 (by simp; omega) (TrsD.append t1 (TrsD.keep kD _ _ h6))) (T := .mk thr nodes (L ++ inner)) (by simp only [Tr.size, List.length_append, sizeL_append]; have := HSZ.out; omega) (Sr.frs F7 (fun b hb => by have := og b hb; omega)) Fw7 (Fr.set1 w7 ⟨w.heap.size, 2, none⟩ (.slice A7 (L.length + inner.length) c7)) (fun b hb => by injection hb with hb; subst hb; simp)
end Go.Proofs.YtoblhcieidljjaaGreatDoor

/- Walks: mk.entries, mk.SmallTrust at trusts as they come in. -/
namespace Go.Proofs.YtoblhcieidljjaaGreatDoor
open Go.RowKit

/-- What entries hands back: up to 400 it is the count. -/
def EntP (n : Nat) (t : Tr) (w : World) (e : Ending) (w' : World) : Prop :=
  ∃ m : Nat, e = .returned (.int .i64 (m : Int)) ∧ m ≤ 17592186044900 ∧ (m ≤ 400 → m = n + 1 + t.size) ∧ Fr none w w'

set_option maxRecDepth 100000 in
set_option maxHeartbeats 1000000 in
theorem entries_any (d : Nat) : ∀ (t : Tr) (v : Value) (n : Nat) (w : World), t.dep ≤ d → n ≤ 400 → RwD w v t →
    Calls Tryz.prog 100 #[v, .int .i64 (n : Int)] w (EntP n t w) := by
  induction d with
  | zero =>
    intro t v n w hd
    cases t
    simp [Tr.dep] at hd
  | succ d ih =>
    intro t v n w hd hn h
    obtain ⟨thr, nodes, inner⟩ := t
    obtain ⟨A, c, A', c', rfl, hthr, hl1, hl2, hi2, hi3, hcell⟩ := h.open_
    clear h
    go_enter Tryz.func100, Tryz.ntmps100
    go_wp2_with fail
    generalize hW : w.alloc _ = w1
    have F1 : Fr none w w1 := hW ▸ (Fr.refl none w).alloc _
    have b1 : TB w1 w.heap.size (.int .i64 thr) (.slice A nodes.length c) (.slice A' inner.length c') := by rw [← hW]; exact blk_new _ _
    clear hW
    go_loopw [1, 5] (fun s1 s5 wr => ∃ (m k : Nat), s1 = .int .i64 (m : Int) ∧ s5 = .int .i64 (k : Int) ∧ k ≤ inner.length ∧ m ≤ 17592186044900 ∧ (m ≤ 400 → m = n + 1 + nodes.length + k + sizeL (inner.take k)) ∧ (400 < m ∨ n + 1 + nodes.length + k ≤ m) ∧ Fr none w1 wr) (fun _ s5 _ => inner.length - (intOf s5).toNat)
    case atStart => exact ⟨n + (1 + nodes.length), 0, by go_num, rfl, Nat.zero_le _, by omega, fun _ => by simp [sizeL]; omega, by omega, Fr.refl _ _⟩
    case round =>
      obtain ⟨m, k, rfl, rfl, hk, hm, hm1, hm2, F2⟩ := hrel
      have K2 := b1.fr F2 (by simp)
      have R2 := K2.cell
      by_cases hq : m ≤ 400
      · by_cases hlt : k < inner.length
        · obtain ⟨b, off, rfl, hb, hc⟩ := hcell (by omega)
          obtain ⟨x, y, z, g0, g1, g2, gt⟩ := hc k hlt
          obtain ⟨th, A1, n1, c1, A2, n2, c2, rfl, rfl, rfl⟩ := gt.shape3
          have F3 := F1.pure F2
          have g0' := F3.keep g0 (by simp)
          have g1' := F3.keep g1 (by simp)
          have g2' := F3.keep g2 (by simp)
          have hdd : (inner[k]).dep ≤ d := by have := depL_get inner k hlt; simp only [Tr.dep] at hd; omega
          have gt' := gt.fr F3
          have hs := sizeL_take inner k hlt
          have HM := Lib.hid hm1
          have HS := Lib.hid hs
          clear g0 g1 g2 hc hcell hm1 hs
          go_wp2_with fail
          refine (ih inner[k] _ m _ hdd hq gt').mono ?_
          rintro e w2 ⟨m', rfl, hm', hm1', F4⟩
          go_wp2_with fail
          go_roundw
          case rel => exact ⟨m', k + 1, rfl, by go_num, by omega, hm', fun h => by have h1 := hm1' h; have h2 := HM.out hq; rw [HS.out]; omega, by have h2 := HM.out hq; omega, F2.pure F4⟩
          case measure => simp [intOf]; omega
        · obtain rfl : k = inner.length := by omega
          have HM := Lib.hid hm1
          clear hm1
          go_wp2_with fail
          go_ret
          exact ⟨m, rfl, hm, fun h => by have h2 := HM.out h; rw [List.take_length] at h2; simp only [Tr.size]; omega, F1.pure F2⟩
      · clear hm1 hm2
        by_cases hlt : k < inner.length
        all_goals
          go_wp2_with fail
          go_ret
          exact ⟨m, rfl, hm, fun h => absurd h hq, F1.pure F2⟩
/-- Is a trust small? If so it reads as one. -/
def SmallP (t : Tr) (w : World) (e : Ending) (w' : World) : Prop := ∃ b, e = .returned (.bool b) ∧ (b = true → t.size ≤ 400) ∧ Fr none w w'
theorem small_any (t : Tr) (v : Value) (w : World) (h : RwD w v t) : Calls Tryz.prog 67 #[v] w (SmallP t w) := by
  obtain ⟨th, A1, n1, c1, A2, n2, c2, rfl⟩ := h.shape
  go_enter Tryz.func67, Tryz.ntmps67
  go_wp2_with fail
  generalize hW : w.alloc _ = w1
  have F1 : Fr none w w1 := hW ▸ (Fr.refl none w).alloc _
  have h1 := h.fr F1
  clear hW
  refine (entries_any t.dep t _ 0 _ (Nat.le_refl _) (by omega) h1).mono ?_
  rintro e w2 ⟨m, rfl, hm, hm1, F2⟩
  go_wp2_with fail
  go_ret
  exact ⟨_, rfl, fun hb => by have hb := of_decide_eq_true hb; have := hm1 (by omega); omega, F1.pure F2⟩
end Go.Proofs.YtoblhcieidljjaaGreatDoor

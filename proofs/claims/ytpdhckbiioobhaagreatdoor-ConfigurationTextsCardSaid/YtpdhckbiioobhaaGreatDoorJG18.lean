/- Some texts of this claim, joined: contracts of the functions that it reaches, and plain laws. -/
import Derived.Test.YtpdhckbiioobhaaGreatDoorProg
import Derived.Test.YtpdhckbiioobhaaGreatDoorJG17

set_option linter.unusedSimpArgs false
set_option linter.unusedVariables false
/- Walks: normal.dissolved. -/
namespace Go.Proofs.YtpdhckbiioobhaaGreatDoor
open Go.RowKit

/-- Only blocks of P may change. -/
structure FrS (P : Nat → Prop) (w w' : World) : Prop where
  os : w'.os = w.os
  tape : w'.tape = w.tape
  output : w'.output = w.output
  size : w.heap.size ≤ w'.heap.size
  block : ∀ k, k < w.heap.size → ¬ P k → w'.heap[k]? = w.heap[k]?
theorem FrS.of {P : Nat → Prop} {r : Option Nat} {w w' : World} (F : Fr r w w') (hr : ∀ g, r = some g → P g ∨ w.heap.size ≤ g) : FrS P w w' :=
  ⟨World.grownBy.os F, World.grownBy.tape F, World.grownBy.output F, F.size, fun k hk hp => F.block k hk (fun e => by
    rcases hr k e.symm with h | h
    · exact hp h
    · omega)⟩
theorem FrS.trans {P : Nat → Prop} {a b c : World} (h : FrS P a b) (k : FrS (fun x => P x ∨ a.heap.size ≤ x) b c) : FrS P a c :=
  ⟨k.os.trans h.os, k.tape.trans h.tape, k.output.trans h.output, Nat.le_trans h.size k.size, fun i hi hp => (k.block i (Nat.lt_of_lt_of_le hi h.size) (fun e => by
    rcases e with e | e
    · exact hp e
    · omega)).trans (h.block i hi hp)⟩
theorem FrS.mono {P Q : Nat → Prop} {a b : World} (h : FrS P a b) (hq : ∀ x, P x → Q x) : FrS Q a b := ⟨h.os, h.tape, h.output, h.size, fun k hk hp => h.block k hk (fun e => hp (hq k e))⟩
/-- A frame, when what may change is fresh to it or its own row. -/
theorem Fr.frs {P : Nat → Prop} {r : Option Nat} {w0 w w' : World} (h : Fr r w0 w) (k : FrS P w w') (hp : ∀ x, P x → r = some x ∨ w0.heap.size ≤ x) : Fr r w0 w' :=
  ⟨k.os.trans (World.grownBy.os h), k.tape.trans (World.grownBy.tape h), k.output.trans (World.grownBy.output h), Nat.le_trans h.size k.size, fun i hi hne => (k.block i (Nat.lt_of_lt_of_le hi h.size) (fun e => by
    rcases hp i e with e | e
    · exact hne e.symm
    · omega)).trans (h.block i hi hne)⟩
theorem own_keepS {w w' : World} {base : Nat} {e : TypeId} {size n : Nat} {v : Value} {xs : List Value} {P : Nat → Prop} (h : w.ownsRow base e size v n xs) (f : FrS P w w') (hr : ∀ b, v.ownBlock = some b → ¬ P b) : w'.ownsRow base e size v n xs := by
  have hl := h.lt
  obtain ⟨h1, h2⟩ := h
  refine ⟨h1, ?_⟩
  rcases h2 with h2 | ⟨g, cap, cur, rfl, hg, hh, r⟩
  · exact .inl h2
  · exact .inr ⟨g, cap, cur, rfl, hg, by rw [f.block g (hl g rfl).2 (hr g rfl)]; exact hh, r⟩
/-- The last element of a row of one's own is put anew. -/
theorem own_last {w : World} {base n c : Nat} {e : TypeId} {A : Option Addr} {cs : List Value} {z0 z1 z2 : Value} (h : w.ownsRow base e 3 (.slice A (n + 1) c) (n + 1) (cs ++ [z0, z1, z2])) (x0 x1 x2 : Value) :
    ∃ g, A = some ⟨g, 0, none⟩ ∧ (∀ i, w.frozen? ⟨g, i, none⟩ = false) ∧ w.cell? ⟨g, n * 3, none⟩ = some z0 ∧ w.cell? ⟨g, n * 3 + 1, none⟩ = some z1 ∧ w.cell? ⟨g, n * 3 + 2, none⟩ = some z2 ∧
      (((w.setCell ⟨g, n * 3, none⟩ x0).setCell ⟨g, n * 3 + 1, none⟩ x1).setCell ⟨g, n * 3 + 2, none⟩ x2).ownsRow base e 3 (.slice A (n + 1) c) (n + 1) (cs ++ [x0, x1, x2]) := by
  have hn : cs.length = n * 3 := by have := h.1; simp at this; omega
  rcases h.2 with ⟨e, e2⟩ | ⟨g, cap, cur, e, hg, hh, hnc, hm, hs, ht⟩
  · omega
  · injection e with e1 e2 e3
    subst e1 e3
    obtain ⟨rest, hr⟩ : ∃ rest, cur.toList = cs ++ z0 :: z1 :: z2 :: rest := ⟨cur.toList.drop ((n + 1) * 3), by
      have := List.take_append_drop ((n + 1) * 3) cur.toList
      rw [ht] at this
      exact this.symm.trans (by simp)⟩
    obtain rfl : cur = (cs ++ z0 :: z1 :: z2 :: rest).toArray := by rw [← hr]
    have b3 := blk_set (blk_set (blk_set hh (n * 3) x0) (n * 3 + 1) x1) (n * 3 + 2) x2
    have hc := blk_cell hh
    refine ⟨g, rfl, blk_free hh, by rw [hc]; simp [← hn], by rw [hc]; simp [← hn], by rw [hc]; simp [← hn], ?_⟩
    refine ⟨by simp; omega, .inr ⟨g, c, _, rfl, hg, b3, hnc, hm, by simp at hs ⊢; omega, ?_⟩⟩
    rw [← hn]
    have e1 : (n + 1) * 3 = cs.length + 3 := by omega
    rw [e1]
    simp [List.set_append, List.take_append]
    exact List.take_of_length_le (by omega)
theorem add_ne {s g g9 n c : Nat} {v : Value} (hne : v.ownBlock ≠ some g) (hg : g < s) (nb : NewOr s v (.slice (some ⟨g9, 0, none⟩) n c)) : g9 ≠ g := fun e => by
  subst e
  rcases nb with e' | ⟨x, e', hx⟩
  · exact hne (e'.symm.trans rfl)
  · injection e' with e'
    have : g9 = x := e'
    omega
/-- What dissolved's closure leaves. -/
def AddP (base g : Nat) (i : List Tr) (t : Tr) (v8 : Value) (cs : List Value) (x0 x1 x2 : Value) (w : World) (e : Ending) (w' : World) : Prop :=
  ∃ u, e = .returned u ∧ FrS (fun k => k = g ∨ v8.ownBlock = some k) w w' ∧
    ((i.any (fun x => decide (cmpT x t = 0)) = true ∧ w'.ownsRow base 31 3 v8 i.length cs ∧ w'.heap[g]? = some (.cells #[v8] 29 (0, 0))) ∨
     (i.any (fun x => decide (cmpT x t = 0)) = false ∧ ∃ (A9 : Option Addr) (c9 : Nat), NewOr w.heap.size v8 (.slice A9 (i.length + 1) c9) ∧ w'.ownsRow base 31 3 (.slice A9 (i.length + 1) c9) (i.length + 1) (cs ++ [x0, x1, x2]) ∧ w'.heap[g]? = some (.cells #[.slice A9 (i.length + 1) c9] 29 (0, 0))))
theorem fr_fillAt (w : World) (b k : Nat) (x y z : Value) : Fr (some b) w (((w.setCell ⟨b, k, none⟩ x).setCell ⟨b, k + 1, none⟩ y).setCell ⟨b, k + 2, none⟩ z) :=
  Fr.setRow (p := ⟨b, k + 2, none⟩) (Fr.setRow (p := ⟨b, k + 1, none⟩) (Fr.set1 w ⟨b, k, none⟩ x) rfl y) rfl z
theorem add_fin1 {base g g9 c9 : Nat} {i : List Tr} {t : Tr} {v8 : Value} {cs : List Value} {x0 x1 x2 : Value} {w wd w7 : World} (F3 : Fr none w wd) (hf : i.any (fun x => decide (cmpT x t = 0)) = false) (K7 : w7.heap[g]? = some (.cells #[v8] 29 (0, 0)))
    (own9 : (((w7.setCell ⟨g9, i.length * 3, none⟩ x0).setCell ⟨g9, i.length * 3 + 1, none⟩ x1).setCell ⟨g9, i.length * 3 + 2, none⟩ x2).ownsRow base 31 3 (.slice (some ⟨g9, 0, none⟩) (i.length + 1) c9) (i.length + 1) (cs ++ [x0, x1, x2]))
    (F7 : Fr v8.ownBlock wd w7) (nb : NewOr wd.heap.size v8 (.slice (some ⟨g9, 0, none⟩) (i.length + 1) c9)) (hgg : g9 ≠ g) :
    AddP base g i t v8 cs x0 x1 x2 w (.returned (.tuple #[])) ((((w7.setCell ⟨g9, i.length * 3, none⟩ x0).setCell ⟨g9, i.length * 3 + 1, none⟩ x1).setCell ⟨g9, i.length * 3 + 2, none⟩ x2).setCell ⟨g, 0, none⟩ (.slice (some ⟨g9, 0, none⟩) (i.length + 1) c9)) := by
  have G := fr_fillAt w7 g9 (i.length * 3) x0 x1 x2
  have hz3 := F3.size
  generalize World.setCell (World.setCell (World.setCell w7 _ _) _ _) _ _ = w8 at *
  have G2 := Fr.set1 w8 ⟨g, 0, none⟩ (.slice (some ⟨g9, 0, none⟩) (i.length + 1) c9)
  have hg9 : v8.ownBlock = some g9 ∨ w.heap.size ≤ g9 := by
    rcases nb with e | ⟨x, e, hx⟩
    · exact .inl (e.symm.trans rfl)
    · injection e with e
      have : g9 = x := e
      exact .inr (by omega)
  refine ⟨_, rfl, ((((FrS.of F3 (by simp)).trans (FrS.of F7 (fun k e => .inl (.inl (.inr e))))).trans (FrS.of G (fun k e => ?_))).trans (FrS.of G2 (fun k e => .inl (.inl (.inl (by injection e with e; exact e.symm)))))), .inr ⟨hf, _, c9, ?_, own_ne_fr own9 G2 (by simpa [Value.ownBlock] using hgg), ?_⟩⟩
  · injection e with e
    subst e
    rcases hg9 with h | h
    · exact .inl (.inl (.inr h))
    · exact .inl (.inr h)
  · rcases nb with e | ⟨x, e, hx⟩
    · exact .inl e
    · exact .inr ⟨x, e, by omega⟩
  · have := blk_set (blk_fr K7 G (by simpa using hgg)) 0 (.slice (some ⟨g9, 0, none⟩) (i.length + 1) c9)
    simpa using this
theorem add_fin2 {base g g9 c9 : Nat} {i : List Tr} {t : Tr} {v8 : Value} {cs : List Value} {x0 x1 x2 z0 z1 z2 : Value} {w wd w7 : World} (F3 : Fr none w wd) (hf : i.any (fun x => decide (cmpT x t = 0)) = false) (K7 : w7.heap[g]? = some (.cells #[v8] 29 (0, 0)))
    (own7 : w7.ownsRow base 31 3 (.slice (some ⟨g9, 0, none⟩) (i.length + 1) c9) (i.length + 1) (cs ++ [z0, z1, z2]))
    (F7 : Fr v8.ownBlock wd w7) (nb : NewOr wd.heap.size v8 (.slice (some ⟨g9, 0, none⟩) (i.length + 1) c9)) (hgg : g9 ≠ g) :
    AddP base g i t v8 cs x0 x1 x2 w (.returned (.tuple #[])) ((((w7.setCell ⟨g, 0, none⟩ (.slice (some ⟨g9, 0, none⟩) (i.length + 1) c9)).setCell ⟨g9, i.length * 3, none⟩ x0).setCell ⟨g9, i.length * 3 + 1, none⟩ x1).setCell ⟨g9, i.length * 3 + 2, none⟩ x2) := by
  have G2 := Fr.set1 w7 ⟨g, 0, none⟩ (.slice (some ⟨g9, 0, none⟩) (i.length + 1) c9)
  have own8 := own_ne_fr own7 G2 (by simpa [Value.ownBlock] using hgg)
  have K8 := blk_set K7 0 (.slice (some ⟨g9, 0, none⟩) (i.length + 1) c9)
  have hz3 := F3.size
  generalize World.setCell w7 _ _ = w8 at *
  obtain ⟨g', e, -, -, -, -, own9⟩ := own_last own8 x0 x1 x2
  injection e with e
  injection e with e
  subst e
  have G := fr_fillAt w8 g9 (i.length * 3) x0 x1 x2
  generalize World.setCell (World.setCell (World.setCell w8 _ _) _ _) _ _ = w9 at *
  have hg9 : v8.ownBlock = some g9 ∨ w.heap.size ≤ g9 := by
    rcases nb with e | ⟨x, e, hx⟩
    · exact .inl (e.symm.trans rfl)
    · injection e with e
      have : g9 = x := e
      exact .inr (by omega)
  refine ⟨_, rfl, ((((FrS.of F3 (by simp)).trans (FrS.of F7 (fun k e => .inl (.inl (.inr e))))).trans (FrS.of G2 (fun k e => .inl (.inl (.inl (by injection e with e; exact e.symm)))))).trans (FrS.of G (fun k e => ?_))), .inr ⟨hf, _, c9, ?_, own9, ?_⟩⟩
  · injection e with e
    subst e
    rcases hg9 with h | h
    · exact .inl (.inl (.inr h))
    · exact .inl (.inr h)
  · rcases nb with e | ⟨x, e, hx⟩
    · exact .inl e
    · exact .inr ⟨x, e, by omega⟩
  · have := blk_fr K8 G (by simpa using hgg)
    simpa using this

set_option maxRecDepth 100000 in
set_option maxHeartbeats 4000000 in
theorem add_any (base g : Nat) (i : List Tr) (t : Tr) (A8 : Option Addr) (c8 : Nat) (cs : List Value) (th : Int) (A1 : Option Addr) (n1 c1 : Nat) (A2 : Option Addr) (n2 c2 : Nat) (w : World) (hb : w.heap[g]? = some (.cells #[.slice A8 i.length c8] 29 (0, 0))) (hg : g < w.heap.size) (hbase : base ≤ w.heap.size)
    (own : w.ownsRow base 31 3 (.slice A8 i.length c8) i.length cs) (hne : (Value.slice A8 i.length c8).ownBlock ≠ some g) (hi : TsR w none (.slice A8 i.length c8) i) (hx : TrR w none (.agg #[.int .i64 th, .slice A1 n1 c1, .slice A2 n2 c2]) t) (hil : i.length ≤ 900000) :
    Calls Tryz.prog 179 #[.agg #[.int .i64 th, .slice A1 n1 c1, .slice A2 n2 c2], .pointer (some ⟨g, 0, none⟩)] w (AddP base g i t (.slice A8 i.length c8) cs (.int .i64 th) (.slice A1 n1 c1) (.slice A2 n2 c2) w) := by
  have hb0 := blk_cell hb
  have F1 := (Fr.refl none w).alloc (.cells #[.int .i64 th, .slice A1 n1 c1, .slice A2 n2 c2] 31)
  have HI := Lib.hid (hi.fr F1)
  have HX := Lib.hid (TrR.fr hx F1)
  clear hi hx
  have HOW := Lib.hid own
  have HNE := Lib.hid hne
  clear own hne
  go_enter Tryz.func179, Tryz.ntmps179
  go_wp2_with fail
  refine (equal_any i t _ _ _ none HI.out HX.out).mono ?_
  rintro e wa ⟨rfl, F2⟩
  have bx := blk_fr (blk_new w (.cells #[.int .i64 th, .slice A1 n1 c1, .slice A2 n2 c2] 31)) F2 (by simp)
  have F3 := F1.pure F2
  have bg := blk_fr hb F3 (by simp)
  obtain ⟨T, hT⟩ : ∃ T, T = i.any (fun x => decide (cmpT x t = 0)) := ⟨_, rfl⟩
  have HT := Lib.hid hT
  rw [← hT]
  clear hT F2 HI HX hb0
  cases T with
  | true =>
    go_wp2_with fail
    refine bodyPost_end (v := .tuple #[]) (by simp [results, Tryz.results179]) rfl ?_
    refine ⟨_, rfl, FrS.of F3 (by simp), .inl ⟨HT.out.symm, own_fr HOW.out F3 (by simp), bg⟩⟩
  | false =>
    have own := own_fr HOW.out F3 (by simp)
    have owd := own.drew
    have hzz := F3.size
    have hbd : wa.drew.heap[w.heap.size]? = some (.cells #[.int .i64 th, .slice A1 n1 c1, .slice A2 n2 c2] 31 (0, 0)) := bx
    have bgd : wa.drew.heap[g]? = some (.cells #[.slice A8 i.length c8] 29 (0, 0)) := bg
    have hne := HNE.out
    have hgd : g < wa.drew.heap.size := Nat.lt_of_lt_of_le hg hzz
    have hzd : base ≤ wa.drew.heap.size := Nat.le_trans hbase hzz
    have hbx := blk_lt bx
    have hgx : g < wa.heap.size := Nat.lt_of_lt_of_le hg hzz
    have Rx := blk_cell bx
    have Rg := blk_cell bg
    have hlt1 : (i.length : Int) < (i.length : Int) + 1 := by omega
    go_upto_region 2 with (fail)
    go_region_law (refine step_app_lit eiTrust rfl _ _ rfl base A8 i.length c8 _ rfl owd 1 [.int .i64 0, .slice none 0 0, .slice none 0 0] _ _ rfl (by simp) rfl (by simp [Value.oneCell']) (by omega) (by unfold maxLen; omega) hzd ?_; intro A9 c9 w7 own7 F7 nb7; have K7 := blk_fr bgd F7 hne; have R7 := blk_cell K7; have Z7 := blk_free K7; obtain ⟨g9, rfl, Z9, q0, q1, q2, own9⟩ := own_last own7 (.int .i64 th) (.slice A1 n1 c1) (.slice A2 n2 c2); have hgg := add_ne hne hgd nb7; have hgg2 := hgg.symm)
    all_goals
      have FD := F3.pure (Fr.refl none wa).drew
      have HTO := HT.out.symm
      refine bodyPost_end (v := .tuple #[]) (by simp [results, Tryz.results179]) rfl ?_
      first
        | with_reducible exact add_fin1 FD HTO K7 own9 F7 nb7 hgg
        | with_reducible exact add_fin2 FD HTO K7 own7 F7 nb7 hgg
end Go.Proofs.YtpdhckbiioobhaaGreatDoor

/- Walks: normal.dissolved, the whole. -/
namespace Go.Proofs.YtpdhckbiioobhaaGreatDoor
open Go.RowKit

/-- Between. -/
structure DisI (E : Nat → Prop) (w1 w : World) (v5 v6 : Value) (thr : Int) (n : List Int) (i : List Tr) (A7 : Option Addr) (c7 : Nat) (A8 : Option Addr) (c8 : Nat) (cs : List Value) (wr : World) : Prop where
  fr : Fr none w1 wr
  hz : w1.heap.size ≤ w.heap.size
  f : Fr v5.ownBlock w wr
  tb : TB wr w.heap.size (.int .i64 thr) (.slice A7 n.length c7) v6
  bz : TB wr (w.heap.size + 1) (.int .i64 0) (.slice none 0 0) (.slice none 0 0)
  box : wr.heap[w.heap.size + 1 + 1]? = some (.cells #[.slice A8 i.length c8] 29 (0, 0))
  own5 : wr.ownsRow w1.heap.size 3 1 (.slice A7 n.length c7) n.length (n.map (Value.int .i64))
  wi : ∀ x ∈ n, Wi x
  nw : Nwr w.heap.size v5 (.slice A7 n.length c7)
  own6 : wr.ownsRow w1.heap.size 31 3 (.slice A8 i.length c8) i.length cs
  n6 : ∀ g, (Value.slice A8 i.length c8).ownBlock = some g → w.heap.size ≤ g
  e5 : ∀ k, (Value.slice A7 n.length c7).ownBlock = some k → k ≠ w.heap.size ∧ k ≠ w.heap.size + 1 ∧ k ≠ w.heap.size + 1 + 1
  e6 : ∀ k, (Value.slice A8 i.length c8).ownBlock = some k → k ≠ w.heap.size ∧ k ≠ w.heap.size + 1 ∧ k ≠ w.heap.size + 1 + 1
  dis : ∀ b, (Value.slice A7 n.length c7).ownBlock = some b → (Value.slice A8 i.length c8).ownBlock ≠ some b
  tr : TrsD wr (Do E w1 w v5 v6) cs i
theorem OwI.dis0 {E : Nat → Prop} {w1 w w' : World} {thr : Int} {n : List Int} {i : List Tr} {A5 : Option Addr} {c5 : Nat} {A6 : Option Addr} {c6 : Nat} {cells : List Value} (h : OwI E w1 n i A5 c5 A6 c6 cells w) (F : Fr none w w') (hb : TB w' w.heap.size (.int .i64 thr) (.slice A5 n.length c5) (.slice A6 i.length c6)) (hz : TB w' (w.heap.size + 1) (.int .i64 0) (.slice none 0 0) (.slice none 0 0))
    (hx : w'.heap[w.heap.size + 1 + 1]? = some (.cells #[.slice none 0 0] 29 (0, 0))) : DisI E w1 w (.slice A5 n.length c5) (.slice A6 i.length c6) thr n [] A5 c5 none 0 [] w' := by
  have hlt := h.own5.lt
  exact ⟨h.fr.pure F, h.fr.size, (Fr.refl _ _).pure F, hb, hz, hx, own_fr h.own5 F (by simp), h.wi, Nwr.refl _ _, World.ownsRow_nil _ _ _ _, by simp [Value.ownBlock], fun k e => by have := (hlt _ e).2; omega, by simp [Value.ownBlock], fun _ _ => by simp [Value.ownBlock], by simp [TrsD]⟩
section
variable {E : Nat → Prop} {w1 w wr w' : World} {v5 v6 : Value} {thr : Int} {n : List Int} {i : List Tr} {A7 : Option Addr} {c7 : Nat} {A8 : Option Addr} {c8 : Nat} {cs : List Value}
theorem DisI.pure (h : DisI E w1 w v5 v6 thr n i A7 c7 A8 c8 cs wr) (F : Fr none wr w') : DisI E w1 w v5 v6 thr n i A7 c7 A8 c8 cs w' :=
  ⟨h.fr.pure F, h.hz, h.f.pure F, h.tb.fr F (by simp), h.bz.fr F (by simp), blk_fr h.box F (by simp), own_fr h.own5 F (by simp), h.wi, h.nw, own_fr h.own6 F (by simp), h.n6, h.e5, h.e6, h.dis, TrsD.keep (do_step h.f.size F (by simp)) _ _ h.tr⟩
theorem DisI.node (h : DisI E w1 w v5 v6 thr n i A7 c7 A8 c8 cs wr) {k : Int} (hk : Wi k) {A9 : Option Addr} {c9 : Nat}
    (own : w'.ownsRow w1.heap.size 3 1 (.slice A9 (n.length + 1) c9) (n.length + 1) (n.map (Value.int .i64) ++ [.int .i64 k])) (F : Fr (Value.slice A7 n.length c7).ownBlock wr w') (nb : NewOr wr.heap.size (.slice A7 n.length c7) (.slice A9 (n.length + 1) c9)) :
    DisI E w1 w v5 v6 thr (n ++ [k]) i A9 c9 A8 c8 cs (w'.setCell ⟨w.heap.size, 1, none⟩ (.slice A9 (n.length + 1) c9)) := by
  have hz := h.f.size
  have hb := blk_lt h.box
  have hn : (n ++ [k]).length = n.length + 1 := by simp
  have G := Fr.set1 w' ⟨w.heap.size, 1, none⟩ (.slice A9 (n.length + 1) c9)
  have hzF := F.size
  have og := own_blk_ge h.own5
  have ol6 := h.own6.lt
  have hzz := h.hz
  have hb1 := (h.tb.fr F (fun e => (h.e5 _ e).1 rfl)).set1 (.slice A9 (n.length + 1) c9)
  have e5' : ∀ x, (Value.slice A9 (n.length + 1) c9).ownBlock = some x → x ≠ w.heap.size ∧ x ≠ w.heap.size + 1 ∧ x ≠ w.heap.size + 1 + 1 := fun x e => by
    rcases nb with e' | ⟨g, e', hg⟩
    · exact h.e5 x (e'.symm.trans e)
    · rw [e'] at e; injection e with e; omega
  refine ⟨(h.fr.own F og).own G (by simp; omega), h.hz, (h.f.nwr h.nw F).own G (by simp), by rw [hn]; exact hb1, (h.bz.fr F (fun e => (h.e5 _ e).2.1 rfl)).fr G (by simp), blk_fr (blk_fr h.box F (fun e => (h.e5 _ e).2.2 rfl)) G (by simp; omega), by rw [hn, List.map_append]; exact own_ne_fr own G (fun e => (e5' _ e).1 rfl), fun x hx => ?_, by rw [hn]; exact h.nw.next hz nb, own_ne_fr (own_keep2 h.own6 F (fun b e6 e5 => h.dis b e5 e6)) G (fun e => (h.e6 _ e).1 rfl), h.n6, by rw [hn]; exact e5', h.e6, ?_, TrsD.keep (do_step (Nat.le_trans hz hzF) G (by simp)) _ _ (TrsD.keep (do_step hz F (fun g e => h.nw.blk e)) _ _ h.tr)⟩
  · rcases List.mem_append.1 hx with hx | hx
    · exact h.wi x hx
    · simp only [List.mem_singleton] at hx; exact hx ▸ hk
  · rw [hn]
    intro b e e6
    rcases nb with e' | ⟨g, e', hg⟩
    · exact h.dis b (e'.symm.trans e) e6
    · rw [e'] at e; injection e with e; have := (ol6 _ e6).2; omega
theorem blk_frS {P : Nat → Prop} {w w' : World} {g : Nat} {o : Obj} (h : w.heap[g]? = some o) (F : FrS P w w') (hp : ¬ P g) : w'.heap[g]? = some o := by
  rw [F.block g (Array.getElem?_eq_some_iff.1 h).1 hp]; exact h
theorem DisI.add {t : Tr} {x0 x1 x2 : Value} {e : Ending} (h : DisI E w1 w v5 v6 thr n i A7 c7 A8 c8 cs wr) (hx : TrD wr (Do E w1 w v5 v6) (.agg #[x0, x1, x2]) t) (hA : AddP w1.heap.size (w.heap.size + 1 + 1) i t (.slice A8 i.length c8) cs x0 x1 x2 wr e w') :
    ∃ u, e = .returned u ∧ ∃ (A9 : Option Addr) (c9 : Nat) (cs' : List Value), DisI E w1 w v5 v6 thr n (withT i t) A7 c7 A9 c9 cs' w' := by
  obtain ⟨u, rfl, F, hA⟩ := hA
  have hz := h.f.size
  have hb := blk_lt h.box
  have hzz := h.hz
  have d1 : ∀ k, Do E w1 w v5 v6 k → Do E w1 w v5 v6 k ∧ w'.heap[k]? = wr.heap[k]? := fun k hk => ⟨hk, F.block k (by have := hk.2.1; omega) (fun e => by
    have := hk.2.1
    rcases e with e | e
    · omega
    · have := h.n6 _ e; omega)⟩
  have fr' : Fr none w1 w' := h.fr.frs F (fun x hx => .inr (by
    rcases hx with e | e
    · omega
    · have := h.n6 _ e; omega))
  have f' : Fr v5.ownBlock w w' := h.f.frs F (fun x hx => .inr (by
    rcases hx with e | e
    · omega
    · exact h.n6 _ e))
  have tb' : TB w' w.heap.size (.int .i64 thr) (.slice A7 n.length c7) v6 := blk_frS h.tb F (fun e => by
    rcases e with e | e
    · omega
    · exact (h.e6 _ e).1 rfl)
  have bz' : TB w' (w.heap.size + 1) (.int .i64 0) (.slice none 0 0) (.slice none 0 0) := blk_frS h.bz F (fun e => by
    rcases e with e | e
    · omega
    · exact (h.e6 _ e).2.1 rfl)
  have own5' := own_keepS h.own5 F (fun b e e2 => by
    rcases e2 with e2 | e2
    · exact (h.e5 _ e).2.2 e2
    · exact h.dis _ e e2)
  have ol5 := h.own5.lt
  refine ⟨u, rfl, ?_⟩
  rcases hA with ⟨ha, own, box⟩ | ⟨ha, A9, c9, nb, own, box⟩
  · have hw : withT i t = i := by unfold withT; rw [if_pos ha]
    rw [hw]
    exact ⟨A8, c8, cs, fr', h.hz, f', tb', bz', box, own5', h.wi, h.nw, own, h.n6, h.e5, h.e6, h.dis, TrsD.keep d1 _ _ h.tr⟩
  · have hw : withT i t = i ++ [t] := by unfold withT; rw [if_neg (by rw [ha]; simp)]
    have hn : (i ++ [t]).length = i.length + 1 := by simp
    rw [hw]
    refine ⟨A9, c9, _, fr', h.hz, f', tb', bz', by rw [hn]; exact box, own5', h.wi, h.nw, by rw [hn]; exact own, ?_, h.e5, ?_, ?_, TrsD.append (TrsD.keep d1 _ _ h.tr) (by simp only [TrsD]; exact ⟨_, _, _, [], rfl, TrD.keep d1 _ _ hx, rfl⟩)⟩
    · rw [hn]; intro g e
      rcases nb with e' | ⟨g', e', hg⟩
      · exact h.n6 g (e'.symm.trans e)
      · rw [e'] at e; injection e with e; omega
    · rw [hn]; intro g e
      rcases nb with e' | ⟨g', e', hg⟩
      · exact h.e6 g (e'.symm.trans e)
      · rw [e'] at e; injection e with e; omega
    · rw [hn]; intro b e5 e
      rcases nb with e' | ⟨g', e', hg⟩
      · exact h.dis b e5 (e'.symm.trans e)
      · rw [e'] at e; injection e with e; have := (ol5 _ e5).2; omega
theorem DisI.addC {t : Tr} {th : Int} {A1 : Option Addr} {n1 c1 : Nat} {A2 : Option Addr} {n2 c2 : Nat} (h : DisI E w1 w v5 v6 thr n i A7 c7 A8 c8 cs wr) (hx : TrD wr (Do E w1 w v5 v6) (.agg #[.int .i64 th, .slice A1 n1 c1, .slice A2 n2 c2]) t) (hil : i.length ≤ 900000) :
    Calls Tryz.prog 179 #[.agg #[.int .i64 th, .slice A1 n1 c1, .slice A2 n2 c2], .pointer (some ⟨w.heap.size + 1 + 1, 0, none⟩)] wr fun e w' => ∃ u, e = .returned u ∧ ∃ (A9 : Option Addr) (c9 : Nat) (cs' : List Value), DisI E w1 w v5 v6 thr n (withT i t) A7 c7 A9 c9 cs' w' := by
  have hz := h.f.size
  have hzz := h.hz
  have kd : ∀ k, Do E w1 w v5 v6 k → Dm wr none k ∧ wr.heap[k]? = wr.heap[k]? := fun k hk => ⟨⟨by have := hk.2.1; omega, by simp⟩, rfl⟩
  refine (add_any w1.heap.size (w.heap.size + 1 + 1) i t A8 c8 cs th A1 n1 c1 A2 n2 c2 wr h.box (blk_lt h.box) h.fr.size h.own6 (fun e => (h.e6 _ e).2.2 rfl) (TsR.of ((SlD.own_eq h.own6).keep (fun k hk => ⟨⟨hk.2.2, by simp⟩, rfl⟩)) (by omega) (TrsD.keep kd _ _ h.tr)) (TrD.keep kd _ _ hx) hil).mono ?_
  intro e w' hA
  exact h.add hx hA
/-- The end: the trust in its block takes the new inner trusts, and the result's cell is filled. -/
theorem DisI.end_ (h : DisI E w1 w v5 v6 thr n i A7 c7 A8 c8 cs wr) : RowsP E thr (n, i) w1 w v5 (.returned (.agg #[.int .i64 thr, .slice A7 n.length c7, .slice A8 i.length c8])) ((((wr.setCell ⟨w.heap.size, 2, none⟩ (.slice A8 i.length c8)).setCell ⟨w.heap.size + 1, 0, none⟩ (.int .i64 thr)).setCell ⟨w.heap.size + 1, 1, none⟩ (.slice A7 n.length c7)).setCell ⟨w.heap.size + 1, 2, none⟩ (.slice A8 i.length c8)) := by
  have hz := h.f.size
  have hzz := h.hz
  have G1 := Fr.set1 wr ⟨w.heap.size, 2, none⟩ (.slice A8 i.length c8)
  generalize World.setCell wr _ _ = wa at *
  have G2 := fr_fill3 wa (w.heap.size + 1) (.int .i64 thr) (.slice A7 n.length c7) (.slice A8 i.length c8)
  generalize World.setCell (World.setCell (World.setCell wa _ _) _ _) _ _ = wb at *
  have hz1 := G1.size
  have hz2 := G2.size
  refine ⟨A7, c7, A8, c8, cs, rfl, ⟨(h.fr.own G1 (by simp; omega)).own G2 (by simp; omega), own_ne_fr (own_ne_fr h.own5 G1 (fun e => (h.e5 _ e).1 rfl)) G2 (fun e => (h.e5 _ e).2.1 rfl), h.wi, own_ne_fr (own_ne_fr h.own6 G1 (fun e => (h.e6 _ e).1 rfl)) G2 (fun e => (h.e6 _ e).2.1 rfl), h.dis, TrsD.keep (fun k hk => ?_) _ _ h.tr⟩, (h.f.own G1 (by simp)).own G2 (by simp), h.nw, h.n6⟩
  have hk2 := hk.2.1
  refine ⟨⟨hk.1, by omega, fun e => ?_, fun e => by have := h.n6 _ e; omega, hk.2.2.2.2⟩, (G2.block k (by omega) (by simp; omega)).trans (G1.block k (by omega) (by simp; omega))⟩
  rcases h.nw.blk e with e | e
  · exact hk.2.2.1 e
  · omega
end

set_option maxRecDepth 100000 in
set_option maxHeartbeats 4000000 in
theorem dissAny_any (E : Nat → Prop) (thr : Int) (n : List Int) (i : List Tr) (A5 : Option Addr) (c5 : Nat) (A6 : Option Addr) (c6 : Nat) (cells : List Value) (w1 w : World) (h : OwI E w1 n i A5 c5 A6 c6 cells w) (hsz : n.length + wgt i ≤ 900000) :
    Calls Tryz.prog 134 #[.agg #[.int .i64 thr, .slice A5 n.length c5, .slice A6 i.length c6], .func (.func 133) #[] #[]] w (RowsP E thr (mergeL false (n, i)) w1 w (.slice A5 n.length c5)) := by
  obtain ⟨Y2, mm, d2, e2, r1, r2, r3, r4⟩ := SlD.own_eq h.own6
  injection e2 with a1 a2 a3
  subst a1 a2 a3
  unfold maxLen at r3
  have hil0 : i.length ≤ 900000 := by unfold wgt at hsz; omega
  have hz0 := h.fr.size
  have HO := Lib.hid h
  clear h r1
  go_enter Tryz.func134, Tryz.ntmps134
  go_wp2_with fail
  generalize hW : ((w.alloc _).alloc _).alloc _ = w0
  have F0 : Fr none w w0 := hW ▸ (((Fr.refl none w).alloc _).alloc _).alloc _
  have hL0 := HO.out.dis0 F0 (thr := thr) (by rw [← hW]; exact (Below.heap_alloc _ _ _ (by simp; omega)).trans ((Below.heap_alloc _ _ _ (by simp)).trans (blk_new _ _))) (by rw [← hW]; exact (Below.heap_alloc _ _ _ (by simp)).trans (blk_new_at (by simp) _)) (by rw [← hW]; exact blk_new_at (by simp) _)
  clear hW F0
  obtain ⟨wo, hwo⟩ : ∃ wo : World, wo = w0 := ⟨_, rfl⟩
  subst hwo
  go_loopw [17, 8, 10, 12] (fun s17 s8 s10 s12 wr => ∃ (j : Nat) (n' : List Int) (i' : List Tr) (A7 : Option Addr) (c7 : Nat) (A8 : Option Addr) (c8 : Nat) (cs : List Value), s17 = .int .i64 (j : Int) ∧ j ≤ i.length ∧ DisI E w1 w (.slice A5 n.length c5) (.slice A6 i.length c6) thr n' i' A7 c7 A8 c8 cs wr ∧
    Hid (i.foldl (mergeS false) (n, []) = (i.drop j).foldl (mergeS false) (n', i')) ∧ n'.length + wgt i' + wgt (i.drop j) ≤ 900000) (fun s17 _ _ _ _ => i.length - (intOf s17).toNat)
  case atStart => exact ⟨0, n, [], A5, c5, none, 0, [], rfl, Nat.zero_le _, hL0, by simp [Hid], by simp [wgt, sizeL] at hsz ⊢; omega⟩
  case round =>
    clear hL0
    obtain ⟨j, n', i', A7, c7, A8, c8, cs, rfl, hj, hL, HJ, hbd⟩ := hrel
    by_cases hlt : j < i.length
    · have hdj : i.drop j = i[j] :: i.drop (j + 1) := List.drop_eq_getElem_cons hlt
      obtain ⟨b, off, rfl, hb, hcc⟩ := r4 (by omega)
      obtain ⟨x0, y0, z0, e0, e1, e2, hy0⟩ := HO.out.trs.get j hlt
      have hdis : (Value.slice A5 n.length c5).ownBlock ≠ some b := fun e => HO.out.dis _ e hb.1
      rw [hdj] at HJ hbd
      rw [wgt_cons] at hbd
      generalize i[j] = x at *
      obtain ⟨tX, nX, iX⟩ := x
      rw [size_mk] at hbd
      have hyd := hy0
      simp only [TrD] at hy0
      obtain ⟨vnx, vix, cx, hsh, k0, q1, q2, q3, q4, q5, q6⟩ := hy0
      simp only [Value.agg.injEq, Array.mk.injEq, List.cons.injEq, and_true] at hsh
      obtain ⟨hsh0, hsh1, hsh2⟩ := hsh
      subst hsh0 hsh1 hsh2
      obtain ⟨X1, m1, k1, rfl, l1, l2, l3, l4⟩ := id q1
      obtain ⟨X2, m2, k2, rfl, r1', r2', r3', r4'⟩ := id q3
      have hlen := q6.len
      obtain rfl : m2 = iX.length := by omega
      obtain rfl : m1 = nX.length := by simpa using l1.symm
      unfold Few at q4 q5
      unfold maxLen at l3 r3'
      have g0 := hL.f.keep (hcc _ _ e0) (Ne.symm hdis)
      have g1 := hL.f.keep (hcc _ _ e1) (Ne.symm hdis)
      have g2 := hL.f.keep (hcc _ _ e2) (Ne.symm hdis)
      rw [← Nat.add_assoc] at g1 g2
      have HDS := Lib.hid hdis
      clear e0 e1 e2 hcc hdj hdis r1' l1 hlen
      go_upto_region 6 with (fail)
      generalize hW : wr.alloc _ = wx
      have Fx : Fr none wr wx := hW ▸ (Fr.refl none wr).alloc _
      have bx : TB wx wr.heap.size (.int .i64 tX) (.slice X1 nX.length k1) (.slice X2 iX.length k2) := by rw [← hW]; exact blk_new _ _
      clear hW g0 g1 g2
      have hLx := hL.pure Fx
      have hTx := TrD.keep (do_step (v5 := .slice A5 n.length c5) (v6 := .slice (some ⟨b, off, none⟩) i.length c6) (E := E) (w1 := w1) (Nat.le_refl _) hLx.f (fun g e => .inl e)) _ _ hyd
      have hlx := blk_lt bx
      have Rx := bx.cell
      have hx5 : (Value.slice A7 n'.length c7).ownBlock ≠ some wr.heap.size := fun e => by have := (hL.own5.lt _ e).2; omega
      have hx6 : (Value.slice A8 i'.length c8).ownBlock ≠ some wr.heap.size := fun e => by have := (hL.own6.lt _ e).2; omega
      have hx2 : w.heap.size + 1 + 1 < wr.heap.size := blk_lt hL.box
      clear hL
      obtain ⟨T, hT⟩ : ∃ T, T = tak false (.mk tX nX iX) := ⟨_, rfl⟩
      have HT := Lib.hid hT
      go_wp2_with fail
      refine (anyOf_any (.mk tX nX iX) _ _ _ hTx).mono ?_
      rintro e w3 ⟨rfl, F3⟩
      rw [← hT]
      have hL3 := hLx.pure F3
      have b3 := bx.fr F3 (by simp)
      have hT3 := TrD.keep (do_step (v5 := .slice A5 n.length c5) (v6 := .slice (some ⟨b, off, none⟩) i.length c6) (E := E) (w1 := w1) hLx.f.size F3 (by simp)) _ _ hTx
      have R3 := b3.cell
      have hl3 := blk_lt b3
      have hnl : n'.length ≤ 900000 := by omega
      have hil : i'.length ≤ 900000 := by unfold wgt at hbd; omega
      have hz3 := F3.size
      clear hT Rx bx hLx hTx hlx
      cases T with
      | false =>
        go_wp2_with fail
        refine (hL3.addC (t := .mk tX nX iX) hT3 hil).mono ?_
        rintro e w4 ⟨u, rfl, A9, c9, cs', h4⟩
        go_wp2_with fail
        go_roundw
        case rel =>
          have hw := wgt_withT i' (.mk tX nX iX)
          rw [size_mk] at hw
          exact ⟨j + 1, n', withT i' (.mk tX nX iX), A7, c7, A9, c9, cs', by go_num, by omega, h4, by unfold Hid; rw [HJ.out, List.foldl_cons]; congr 1; unfold mergeS; rw [if_neg (by rw [← HT.out]; simp)], by omega⟩
        case measure => simp [intOf]; omega
      | true =>
        obtain ⟨wv, hwv⟩ : ∃ wv : World, wv = wr := ⟨_, rfl⟩
        subst hwv
        go_wp2_with fail
        go_loopw [31, 10] (fun s31 s10 wx => ∃ (q : Nat) (n2 : List Int) (A9 : Option Addr) (c9 : Nat), s31 = .int .i64 (q : Int) ∧ q ≤ nX.length ∧ DisI E w1 w (.slice A5 n.length c5) (.slice (some ⟨b, off, none⟩) i.length c6) thr n2 i' A9 c9 A8 c8 cs wx ∧ TB wx wv.heap.size (.int .i64 tX) (.slice X1 nX.length k1) (.slice X2 iX.length k2) ∧ (Value.slice A9 n2.length c9).ownBlock ≠ some wv.heap.size ∧
          Hid (nX.foldl addN n' = (nX.drop q).foldl addN n2) ∧ n2.length ≤ n'.length + q) (fun s31 _ _ => nX.length - (intOf s31).toNat)
        case atStart => exact ⟨0, n', A7, c7, rfl, Nat.zero_le _, hL3, b3, hx5, by simp [Hid], by omega⟩
        case round =>
          clear hL3 b3 hx5 R3 hl3
          obtain ⟨q, n2, A9, c9, rfl, hq, hL, bx, hx5, HN, hnb⟩ := hrel
          have hlx := blk_lt bx
          by_cases hlt2 : q < nX.length
          · obtain ⟨bb, oo, rfl, hbb, hcy⟩ := l4 (by omega)
            have hcx := hL.f.keep (hcy q (.int .i64 nX[q]) (by simp [hlt2])) (fun e => hbb.2.2.1 e.symm)
            have hdq : nX.drop q = nX[q] :: nX.drop (q + 1) := List.drop_eq_getElem_cons hlt2
            have hkw : Wi nX[q] := q2 _ (List.getElem_mem _)
            rw [hdq] at HN
            generalize nX[q] = y at *
            have tb := hL.tb
            have RB := tb.cell
            have ZB := tb.free
            have hBlt := blk_lt tb
            have own5 := hL.own5
            have ne5 : (Value.slice A9 n2.length c9).ownBlock ≠ some w.heap.size := fun e => (hL.e5 _ e).1 rfl
            have hzz := hL.fr.size
            have hl5 : SlI wr none (.slice A9 n2.length c9) n2 := SlI.of_own own5 (by simp) hL.wi
            obtain ⟨hv, hhv⟩ : ∃ hv, hv = n2.any (fun x => decide (x = y)) := ⟨_, rfl⟩
            have HHV := Lib.hid hhv
            clear hcy hdq hhv
            cases hv with
            | true =>
              go_wp2_with (go_at_call 178; refine (contains_any n2 y _ _ none hl5).mono ?_; rintro e w' ⟨rfl, rfl⟩; rw [← HHV.out])
              go_roundw
              case rel =>
                exact ⟨q + 1, n2, A9, c9, by go_num, by omega, hL, bx, hx5, by unfold Hid; rw [HN.out, List.foldl_cons]; congr 1; unfold addN; rw [if_pos HHV.out.symm], by omega⟩
              case measure => simp [intOf]; omega
            | false =>
              go_wp2_with (first | (go_at_call 178; refine (contains_any n2 y _ _ none hl5).mono ?_; rintro e w' ⟨rfl, rfl⟩; rw [← HHV.out]) | (at_builtin; refine app_lit eiInt rfl _ _ rfl w1.heap.size A9 n2.length c9 _ rfl own5 1 [.int .i64 y] _ _ rfl (by simp) rfl (by simp [Value.oneCell']) (by omega) (by unfold maxLen; omega) (by omega) ?_; intro A10 c10 w7 own7 F7 nb7; have K7 := tb.fr F7 ne5; have R7 := K7.cell; have Z7 := K7.free))
              have G := Fr.set1 w7 ⟨w.heap.size, 1, none⟩ (.slice A10 (n2.length + 1) c10)
              go_roundw
              case rel =>
                have hln : (n2 ++ [y]).length = n2.length + 1 := by simp
                exact ⟨q + 1, n2 ++ [y], A10, c10, by go_num, by omega, hL.node hkw own7 F7 nb7, (bx.fr F7 hx5).fr G (by simp; omega), by
                  rw [hln]
                  intro e
                  rcases nb7 with e' | ⟨g, e', hg⟩
                  · exact hx5 (e'.symm.trans e)
                  · rw [e'] at e; injection e with e; omega, by unfold Hid; rw [HN.out, List.foldl_cons]; congr 1; unfold addN; rw [if_neg (by rw [← HHV.out]; simp)], by rw [hln]; omega⟩
              case measure => simp [intOf]; omega
          · obtain rfl : q = nX.length := by omega
            have HN2 : Hid (nX.foldl addN n' = n2) := by unfold Hid; rw [HN.out]; simp
            have Rx := bx.cell
            clear HN
            go_wp2_with fail
            obtain ⟨wu, hwu⟩ : ∃ wu : World, wu = wr := ⟨_, rfl⟩
            subst hwu
            clear Rx bx hlx hx5
            go_loopw [50, 12] (fun s50 s12 wx => ∃ (q : Nat) (i2 : List Tr) (A10 : Option Addr) (c10 : Nat) (cs2 : List Value), s50 = .int .i64 (q : Int) ∧ q ≤ iX.length ∧ DisI E w1 w (.slice A5 n.length c5) (.slice (some ⟨b, off, none⟩) i.length c6) thr n2 i2 A9 c9 A10 c10 cs2 wx ∧ Hid (iX.foldl withT i' = (iX.drop q).foldl withT i2) ∧ wgt i2 + wgt (iX.drop q) ≤ wgt i' + wgt iX) (fun s50 _ _ => iX.length - (intOf s50).toNat)
            case atStart => exact ⟨0, i', A8, c8, cs, rfl, Nat.zero_le _, hL, by simp [Hid], by simp⟩
            case round =>
              clear hL
              obtain ⟨q, i2, A10, c10, cs2, rfl, hq, hL, HI, hib⟩ := hrel
              by_cases hlt3 : q < iX.length
              · obtain ⟨b', off', rfl, hb', hck⟩ := r4' (by omega)
                obtain ⟨x1, y1, z1, e0, e1, e2, hy1⟩ := q6.get q hlt3
                have hdq : iX.drop q = iX[q] :: iX.drop (q + 1) := List.drop_eq_getElem_cons hlt3
                rw [hdq] at HI hib
                rw [wgt_cons] at hib
                generalize iX[q] = y at *
                obtain ⟨ty, B1, m1, v1, B2, m2, v2, hsh⟩ := hy1.shape
                simp only [Value.agg.injEq, Array.mk.injEq, List.cons.injEq, and_true] at hsh
                obtain ⟨rfl, rfl, rfl⟩ := hsh
                have g0 := hL.f.keep (hck _ _ e0) (fun e => hb'.2.2.1 e.symm)
                have g1 := hL.f.keep (hck _ _ e1) (fun e => hb'.2.2.1 e.symm)
                have g2 := hL.f.keep (hck _ _ e2) (fun e => hb'.2.2.1 e.symm)
                rw [← Nat.add_assoc] at g1 g2
                clear e0 e1 e2 hck hdq
                go_wp2_with fail
                generalize hW : wr.alloc _ = ws
                have Fs : Fr none wr ws := hW ▸ (Fr.refl none wr).alloc _
                clear hW g0 g1 g2
                have hLs := hL.pure Fs
                have hTy := TrD.keep (do_step (v5 := .slice A5 n.length c5) (v6 := .slice (some ⟨b, off, none⟩) i.length c6) (E := E) (w1 := w1) (Nat.le_refl _) hLs.f (fun g e => .inl e)) _ _ hy1
                refine (hLs.addC (t := y) hTy (by unfold wgt at hbd hib; omega)).mono ?_
                rintro e w4 ⟨u, rfl, A11, c11, cs', h4⟩
                go_wp2_with fail
                go_roundw
                case rel =>
                  have hw := wgt_withT i2 y
                  exact ⟨q + 1, withT i2 y, A11, c11, cs', by go_num, by omega, h4, by unfold Hid; rw [HI.out, List.foldl_cons], by omega⟩
                case measure => simp [intOf]; omega
              · obtain rfl : q = iX.length := by omega
                have HI2 : Hid (iX.foldl withT i' = i2) := by unfold Hid; rw [HI.out]; simp
                have hw0 : wgt ([] : List Tr) = 0 := by simp [wgt, sizeL]
                rw [List.drop_length, hw0] at hib
                clear hw0 HI
                go_wp2_with fail
                go_roundw
                case rel => exact ⟨j + 1, n2, i2, A9, c9, A10, c10, cs2, by go_num, by omega, hL, by unfold Hid; rw [HJ.out, List.foldl_cons]; congr 1; unfold mergeS; rw [if_pos HT.out.symm]; exact Prod.ext HN2.out HI2.out, by omega⟩
                case measure => simp [intOf]; omega
    · obtain rfl : j = i.length := by omega
      have HF : Hid (mergeL false (n, i) = (n', i')) := by unfold Hid mergeL; rw [HJ.out]; simp
      have hl2 := hL.end_
      have tb := hL.tb
      have RB := tb.cell
      have ZB := tb.free
      have hBlt := blk_lt tb
      have bz := hL.bz
      have Rz := bz.cell
      have Zz := bz.free
      have hlz := blk_lt bz
      have bo := blk_cell hL.box
      have hlb := blk_lt hL.box
      clear HJ
      go_wp2_with fail
      refine bodyPost_ret (v := .agg #[.int .i64 thr, .slice A7 n'.length c7, .slice A8 i'.length c8]) (by simp [results, Tryz.results134, go_sem, RB, Rz]) rfl ?_
      rw [HF.out]
      exact hl2
set_option maxRecDepth 100000 in
set_option maxHeartbeats 4000000 in
theorem dissAll_any (E : Nat → Prop) (thr : Int) (n : List Int) (i : List Tr) (A5 : Option Addr) (c5 : Nat) (A6 : Option Addr) (c6 : Nat) (cells : List Value) (w1 w : World) (h : OwI E w1 n i A5 c5 A6 c6 cells w) (hsz : n.length + wgt i ≤ 900000) :
    Calls Tryz.prog 134 #[.agg #[.int .i64 thr, .slice A5 n.length c5, .slice A6 i.length c6], .func (.func 135) #[] #[]] w (RowsP E thr (mergeL true (n, i)) w1 w (.slice A5 n.length c5)) := by
  obtain ⟨Y2, mm, d2, e2, r1, r2, r3, r4⟩ := SlD.own_eq h.own6
  injection e2 with a1 a2 a3
  subst a1 a2 a3
  unfold maxLen at r3
  have hil0 : i.length ≤ 900000 := by unfold wgt at hsz; omega
  have hz0 := h.fr.size
  have HO := Lib.hid h
  clear h r1
  go_enter Tryz.func134, Tryz.ntmps134
  go_wp2_with fail
  generalize hW : ((w.alloc _).alloc _).alloc _ = w0
  have F0 : Fr none w w0 := hW ▸ (((Fr.refl none w).alloc _).alloc _).alloc _
  have hL0 := HO.out.dis0 F0 (thr := thr) (by rw [← hW]; exact (Below.heap_alloc _ _ _ (by simp; omega)).trans ((Below.heap_alloc _ _ _ (by simp)).trans (blk_new _ _))) (by rw [← hW]; exact (Below.heap_alloc _ _ _ (by simp)).trans (blk_new_at (by simp) _)) (by rw [← hW]; exact blk_new_at (by simp) _)
  clear hW F0
  obtain ⟨wo, hwo⟩ : ∃ wo : World, wo = w0 := ⟨_, rfl⟩
  subst hwo
  go_loopw [17, 8, 10, 12] (fun s17 s8 s10 s12 wr => ∃ (j : Nat) (n' : List Int) (i' : List Tr) (A7 : Option Addr) (c7 : Nat) (A8 : Option Addr) (c8 : Nat) (cs : List Value), s17 = .int .i64 (j : Int) ∧ j ≤ i.length ∧ DisI E w1 w (.slice A5 n.length c5) (.slice A6 i.length c6) thr n' i' A7 c7 A8 c8 cs wr ∧
    Hid (i.foldl (mergeS true) (n, []) = (i.drop j).foldl (mergeS true) (n', i')) ∧ n'.length + wgt i' + wgt (i.drop j) ≤ 900000) (fun s17 _ _ _ _ => i.length - (intOf s17).toNat)
  case atStart => exact ⟨0, n, [], A5, c5, none, 0, [], rfl, Nat.zero_le _, hL0, by simp [Hid], by simp [wgt, sizeL] at hsz ⊢; omega⟩
  case round =>
    clear hL0
    obtain ⟨j, n', i', A7, c7, A8, c8, cs, rfl, hj, hL, HJ, hbd⟩ := hrel
    by_cases hlt : j < i.length
    · have hdj : i.drop j = i[j] :: i.drop (j + 1) := List.drop_eq_getElem_cons hlt
      obtain ⟨b, off, rfl, hb, hcc⟩ := r4 (by omega)
      obtain ⟨x0, y0, z0, e0, e1, e2, hy0⟩ := HO.out.trs.get j hlt
      have hdis : (Value.slice A5 n.length c5).ownBlock ≠ some b := fun e => HO.out.dis _ e hb.1
      rw [hdj] at HJ hbd
      rw [wgt_cons] at hbd
      generalize i[j] = x at *
      obtain ⟨tX, nX, iX⟩ := x
      rw [size_mk] at hbd
      have hyd := hy0
      simp only [TrD] at hy0
      obtain ⟨vnx, vix, cx, hsh, k0, q1, q2, q3, q4, q5, q6⟩ := hy0
      simp only [Value.agg.injEq, Array.mk.injEq, List.cons.injEq, and_true] at hsh
      obtain ⟨hsh0, hsh1, hsh2⟩ := hsh
      subst hsh0 hsh1 hsh2
      obtain ⟨X1, m1, k1, rfl, l1, l2, l3, l4⟩ := id q1
      obtain ⟨X2, m2, k2, rfl, r1', r2', r3', r4'⟩ := id q3
      have hlen := q6.len
      obtain rfl : m2 = iX.length := by omega
      obtain rfl : m1 = nX.length := by simpa using l1.symm
      unfold Few at q4 q5
      unfold maxLen at l3 r3'
      have g0 := hL.f.keep (hcc _ _ e0) (Ne.symm hdis)
      have g1 := hL.f.keep (hcc _ _ e1) (Ne.symm hdis)
      have g2 := hL.f.keep (hcc _ _ e2) (Ne.symm hdis)
      rw [← Nat.add_assoc] at g1 g2
      have HDS := Lib.hid hdis
      clear e0 e1 e2 hcc hdj hdis r1' l1 hlen
      go_upto_region 6 with (fail)
      generalize hW : wr.alloc _ = wx
      have Fx : Fr none wr wx := hW ▸ (Fr.refl none wr).alloc _
      have bx : TB wx wr.heap.size (.int .i64 tX) (.slice X1 nX.length k1) (.slice X2 iX.length k2) := by rw [← hW]; exact blk_new _ _
      clear hW g0 g1 g2
      have hLx := hL.pure Fx
      have hTx := TrD.keep (do_step (v5 := .slice A5 n.length c5) (v6 := .slice (some ⟨b, off, none⟩) i.length c6) (E := E) (w1 := w1) (Nat.le_refl _) hLx.f (fun g e => .inl e)) _ _ hyd
      have hlx := blk_lt bx
      have Rx := bx.cell
      have hx5 : (Value.slice A7 n'.length c7).ownBlock ≠ some wr.heap.size := fun e => by have := (hL.own5.lt _ e).2; omega
      have hx6 : (Value.slice A8 i'.length c8).ownBlock ≠ some wr.heap.size := fun e => by have := (hL.own6.lt _ e).2; omega
      have hx2 : w.heap.size + 1 + 1 < wr.heap.size := blk_lt hL.box
      clear hL
      obtain ⟨T, hT⟩ : ∃ T, T = tak true (.mk tX nX iX) := ⟨_, rfl⟩
      have HT := Lib.hid hT
      go_wp2_with fail
      refine (allOf_any (.mk tX nX iX) _ _ _ (fun q hq => by have := hq.2.1; have := hLx.f.size; omega) hTx).mono ?_
      rintro e w3 ⟨rfl, F3⟩
      rw [← hT]
      have hL3 := hLx.pure F3
      have b3 := bx.fr F3 (by simp)
      have hT3 := TrD.keep (do_step (v5 := .slice A5 n.length c5) (v6 := .slice (some ⟨b, off, none⟩) i.length c6) (E := E) (w1 := w1) hLx.f.size F3 (by simp)) _ _ hTx
      have R3 := b3.cell
      have hl3 := blk_lt b3
      have hnl : n'.length ≤ 900000 := by omega
      have hil : i'.length ≤ 900000 := by unfold wgt at hbd; omega
      have hz3 := F3.size
      clear hT Rx bx hLx hTx hlx
      cases T with
      | false =>
        go_wp2_with fail
        refine (hL3.addC (t := .mk tX nX iX) hT3 hil).mono ?_
        rintro e w4 ⟨u, rfl, A9, c9, cs', h4⟩
        go_wp2_with fail
        go_roundw
        case rel =>
          have hw := wgt_withT i' (.mk tX nX iX)
          rw [size_mk] at hw
          exact ⟨j + 1, n', withT i' (.mk tX nX iX), A7, c7, A9, c9, cs', by go_num, by omega, h4, by unfold Hid; rw [HJ.out, List.foldl_cons]; congr 1; unfold mergeS; rw [if_neg (by rw [← HT.out]; simp)], by omega⟩
        case measure => simp [intOf]; omega
      | true =>
        obtain ⟨wv, hwv⟩ : ∃ wv : World, wv = wr := ⟨_, rfl⟩
        subst hwv
        go_wp2_with fail
        go_loopw [31, 10] (fun s31 s10 wx => ∃ (q : Nat) (n2 : List Int) (A9 : Option Addr) (c9 : Nat), s31 = .int .i64 (q : Int) ∧ q ≤ nX.length ∧ DisI E w1 w (.slice A5 n.length c5) (.slice (some ⟨b, off, none⟩) i.length c6) thr n2 i' A9 c9 A8 c8 cs wx ∧ TB wx wv.heap.size (.int .i64 tX) (.slice X1 nX.length k1) (.slice X2 iX.length k2) ∧ (Value.slice A9 n2.length c9).ownBlock ≠ some wv.heap.size ∧
          Hid (nX.foldl addN n' = (nX.drop q).foldl addN n2) ∧ n2.length ≤ n'.length + q) (fun s31 _ _ => nX.length - (intOf s31).toNat)
        case atStart => exact ⟨0, n', A7, c7, rfl, Nat.zero_le _, hL3, b3, hx5, by simp [Hid], by omega⟩
        case round =>
          clear hL3 b3 hx5 R3 hl3
          obtain ⟨q, n2, A9, c9, rfl, hq, hL, bx, hx5, HN, hnb⟩ := hrel
          have hlx := blk_lt bx
          by_cases hlt2 : q < nX.length
          · obtain ⟨bb, oo, rfl, hbb, hcy⟩ := l4 (by omega)
            have hcx := hL.f.keep (hcy q (.int .i64 nX[q]) (by simp [hlt2])) (fun e => hbb.2.2.1 e.symm)
            have hdq : nX.drop q = nX[q] :: nX.drop (q + 1) := List.drop_eq_getElem_cons hlt2
            have hkw : Wi nX[q] := q2 _ (List.getElem_mem _)
            rw [hdq] at HN
            generalize nX[q] = y at *
            have tb := hL.tb
            have RB := tb.cell
            have ZB := tb.free
            have hBlt := blk_lt tb
            have own5 := hL.own5
            have ne5 : (Value.slice A9 n2.length c9).ownBlock ≠ some w.heap.size := fun e => (hL.e5 _ e).1 rfl
            have hzz := hL.fr.size
            have hl5 : SlI wr none (.slice A9 n2.length c9) n2 := SlI.of_own own5 (by simp) hL.wi
            obtain ⟨hv, hhv⟩ : ∃ hv, hv = n2.any (fun x => decide (x = y)) := ⟨_, rfl⟩
            have HHV := Lib.hid hhv
            clear hcy hdq hhv
            cases hv with
            | true =>
              go_wp2_with (go_at_call 178; refine (contains_any n2 y _ _ none hl5).mono ?_; rintro e w' ⟨rfl, rfl⟩; rw [← HHV.out])
              go_roundw
              case rel =>
                exact ⟨q + 1, n2, A9, c9, by go_num, by omega, hL, bx, hx5, by unfold Hid; rw [HN.out, List.foldl_cons]; congr 1; unfold addN; rw [if_pos HHV.out.symm], by omega⟩
              case measure => simp [intOf]; omega
            | false =>
              go_wp2_with (first | (go_at_call 178; refine (contains_any n2 y _ _ none hl5).mono ?_; rintro e w' ⟨rfl, rfl⟩; rw [← HHV.out]) | (at_builtin; refine app_lit eiInt rfl _ _ rfl w1.heap.size A9 n2.length c9 _ rfl own5 1 [.int .i64 y] _ _ rfl (by simp) rfl (by simp [Value.oneCell']) (by omega) (by unfold maxLen; omega) (by omega) ?_; intro A10 c10 w7 own7 F7 nb7; have K7 := tb.fr F7 ne5; have R7 := K7.cell; have Z7 := K7.free))
              have G := Fr.set1 w7 ⟨w.heap.size, 1, none⟩ (.slice A10 (n2.length + 1) c10)
              go_roundw
              case rel =>
                have hln : (n2 ++ [y]).length = n2.length + 1 := by simp
                exact ⟨q + 1, n2 ++ [y], A10, c10, by go_num, by omega, hL.node hkw own7 F7 nb7, (bx.fr F7 hx5).fr G (by simp; omega), by
                  rw [hln]
                  intro e
                  rcases nb7 with e' | ⟨g, e', hg⟩
                  · exact hx5 (e'.symm.trans e)
                  · rw [e'] at e; injection e with e; omega, by unfold Hid; rw [HN.out, List.foldl_cons]; congr 1; unfold addN; rw [if_neg (by rw [← HHV.out]; simp)], by rw [hln]; omega⟩
              case measure => simp [intOf]; omega
          · obtain rfl : q = nX.length := by omega
            have HN2 : Hid (nX.foldl addN n' = n2) := by unfold Hid; rw [HN.out]; simp
            have Rx := bx.cell
            clear HN
            go_wp2_with fail
            obtain ⟨wu, hwu⟩ : ∃ wu : World, wu = wr := ⟨_, rfl⟩
            subst hwu
            clear Rx bx hlx hx5
            go_loopw [50, 12] (fun s50 s12 wx => ∃ (q : Nat) (i2 : List Tr) (A10 : Option Addr) (c10 : Nat) (cs2 : List Value), s50 = .int .i64 (q : Int) ∧ q ≤ iX.length ∧ DisI E w1 w (.slice A5 n.length c5) (.slice (some ⟨b, off, none⟩) i.length c6) thr n2 i2 A9 c9 A10 c10 cs2 wx ∧ Hid (iX.foldl withT i' = (iX.drop q).foldl withT i2) ∧ wgt i2 + wgt (iX.drop q) ≤ wgt i' + wgt iX) (fun s50 _ _ => iX.length - (intOf s50).toNat)
            case atStart => exact ⟨0, i', A8, c8, cs, rfl, Nat.zero_le _, hL, by simp [Hid], by simp⟩
            case round =>
              clear hL
              obtain ⟨q, i2, A10, c10, cs2, rfl, hq, hL, HI, hib⟩ := hrel
              by_cases hlt3 : q < iX.length
              · obtain ⟨b', off', rfl, hb', hck⟩ := r4' (by omega)
                obtain ⟨x1, y1, z1, e0, e1, e2, hy1⟩ := q6.get q hlt3
                have hdq : iX.drop q = iX[q] :: iX.drop (q + 1) := List.drop_eq_getElem_cons hlt3
                rw [hdq] at HI hib
                rw [wgt_cons] at hib
                generalize iX[q] = y at *
                obtain ⟨ty, B1, m1, v1, B2, m2, v2, hsh⟩ := hy1.shape
                simp only [Value.agg.injEq, Array.mk.injEq, List.cons.injEq, and_true] at hsh
                obtain ⟨rfl, rfl, rfl⟩ := hsh
                have g0 := hL.f.keep (hck _ _ e0) (fun e => hb'.2.2.1 e.symm)
                have g1 := hL.f.keep (hck _ _ e1) (fun e => hb'.2.2.1 e.symm)
                have g2 := hL.f.keep (hck _ _ e2) (fun e => hb'.2.2.1 e.symm)
                rw [← Nat.add_assoc] at g1 g2
                clear e0 e1 e2 hck hdq
                go_wp2_with fail
                generalize hW : wr.alloc _ = ws
                have Fs : Fr none wr ws := hW ▸ (Fr.refl none wr).alloc _
                clear hW g0 g1 g2
                have hLs := hL.pure Fs
                have hTy := TrD.keep (do_step (v5 := .slice A5 n.length c5) (v6 := .slice (some ⟨b, off, none⟩) i.length c6) (E := E) (w1 := w1) (Nat.le_refl _) hLs.f (fun g e => .inl e)) _ _ hy1
                refine (hLs.addC (t := y) hTy (by unfold wgt at hbd hib; omega)).mono ?_
                rintro e w4 ⟨u, rfl, A11, c11, cs', h4⟩
                go_wp2_with fail
                go_roundw
                case rel =>
                  have hw := wgt_withT i2 y
                  exact ⟨q + 1, withT i2 y, A11, c11, cs', by go_num, by omega, h4, by unfold Hid; rw [HI.out, List.foldl_cons], by omega⟩
                case measure => simp [intOf]; omega
              · obtain rfl : q = iX.length := by omega
                have HI2 : Hid (iX.foldl withT i' = i2) := by unfold Hid; rw [HI.out]; simp
                have hw0 : wgt ([] : List Tr) = 0 := by simp [wgt, sizeL]
                rw [List.drop_length, hw0] at hib
                clear hw0 HI
                go_wp2_with fail
                go_roundw
                case rel => exact ⟨j + 1, n2, i2, A9, c9, A10, c10, cs2, by go_num, by omega, hL, by unfold Hid; rw [HJ.out, List.foldl_cons]; congr 1; unfold mergeS; rw [if_pos HT.out.symm]; exact Prod.ext HN2.out HI2.out, by omega⟩
                case measure => simp [intOf]; omega
    · obtain rfl : j = i.length := by omega
      have HF : Hid (mergeL true (n, i) = (n', i')) := by unfold Hid mergeL; rw [HJ.out]; simp
      have hl2 := hL.end_
      have tb := hL.tb
      have RB := tb.cell
      have ZB := tb.free
      have hBlt := blk_lt tb
      have bz := hL.bz
      have Rz := bz.cell
      have Zz := bz.free
      have hlz := blk_lt bz
      have bo := blk_cell hL.box
      have hlb := blk_lt hL.box
      clear HJ
      go_wp2_with fail
      refine bodyPost_ret (v := .agg #[.int .i64 thr, .slice A7 n'.length c7, .slice A8 i'.length c8]) (by simp [results, Tryz.results134, go_sem, RB, Rz]) rfl ?_
      rw [HF.out]
      exact hl2
end Go.Proofs.YtpdhckbiioobhaaGreatDoor

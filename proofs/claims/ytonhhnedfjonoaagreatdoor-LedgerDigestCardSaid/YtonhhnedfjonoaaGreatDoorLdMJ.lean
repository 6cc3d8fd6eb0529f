/- The law LedgerDigest: what its copy keeps, in plain words. -/
import Derived.Test.YtonhhnedfjonoaaGreatDoorProg
import Derived.Test.YtonhhnedfjonoaaGreatDoorJL26
import Derived.Test.YtonhhnedfjonoaaGreatDoorLgMoJ
import Derived.Test.YtonhhnedfjonoaaGreatDoorJL28
import Derived.Test.YtonhhnedfjonoaaGreatDoorLgDgJ
set_option linter.unusedSimpArgs false
set_option linter.unusedVariables false
namespace Go.Proofs.YtonhhnedfjonoaaGreatDoor
open Go.RowKit

theorem vAst_len {a : Ast} (h : vAst a = true) : a.code.length ≤ 1000 := by
  unfold vAst at h
  rw [Bool.or_eq_true, decide_eq_true_iff, Bool.and_eq_true, decide_eq_true_iff] at h
  rcases h with rfl | h
  · decide
  · omega
theorem LedOK.sm {G : Lgr} (h : LedOK G) : SmG G := by
  have h1 := h.ok
  unfold chkOf at h1
  split at h1
  · contradiction
  · rename_i hl
    have hl : chkLn G.lines G.accs = 0 := by simpa using hl
    split at h1
    · cases h1
    · split at h1
      · rename_i h40 hok
        unfold chkLn at hl
        split at hl
        · contradiction
        · split at hl
          · cases hl
          · split at hl
            · rename_i h60 hln
              have hln := (okAll_true _ _ _).1 hln
              have hof := (okAll_true _ _ _).1 hok.2
              refine ⟨by have := h.len; omega, by omega, by omega, fun x hx => ?_, fun x hx => ?_⟩
              · obtain ⟨k, hk, rfl⟩ := List.getElem_of_mem hx
                have := hln k hk
                unfold okLn at this
                simp only [Bool.and_eq_true] at this
                exact vAst_len this.2.1
              · obtain ⟨k, hk, rfl⟩ := List.getElem_of_mem hx
                have := hof k hk
                unfold okOf at this
                simp only [Bool.and_eq_true] at this
                exact ⟨vAst_len this.2.2.2.1, vAst_len this.2.2.2.2.1⟩
            · cases hl
      · cases h1
/-- The copy of a ledger, each of its slices in a row of its own; the source below. -/
structure DigM (w0 W : World) (G : Lgr) (va vl vo : Value) (sb gb xb s4 s5 : Nat) (A1 : Option Addr) (c1 : Nat) (A2 : Option Addr) (c2 : Nat) (A3 : Option Addr) (c3 : Nat) : Prop where
  gc : W.heap[gb]? = some (.cells #[.int .i64 G.num, va, vl, vo, .int .i64 G.nid, .int .i64 G.fees, .int .u64 (G.link : Int)] 30 (0, 0))
  xc : W.heap[xb]? = some (.cells #[.int .i64 G.num, .slice A1 G.accs.length c1, .slice A2 G.lines.length c2, .slice A3 G.offers.length c3, .int .i64 G.nid, .int .i64 G.fees, .int .u64 (G.link : Int)] 30 (0, 0))
  ga : SlD W (fun b => sb < b ∧ b < xb) 3 va (flR accR G.accs)
  gl : SlD W (fun b => sb < b ∧ b < xb) 5 vl (flR lnR G.lines)
  go : SlD W (fun b => sb < b ∧ b < xb) 9 vo (flR ofR G.offers)
  xa : W.ownsRow (xb + 1) 34 3 (.slice A1 G.accs.length c1) G.accs.length (flR accR G.accs)
  xl : W.ownsRow s4 39 5 (.slice A2 G.lines.length c2) G.lines.length (flR lnR G.lines)
  xo : W.ownsRow s5 41 9 (.slice A3 G.offers.length c3) G.offers.length (flR ofR G.offers)
  b1 : ∀ g, (Value.slice A1 G.accs.length c1).ownBlock = some g → g < s4
  b2 : ∀ g, (Value.slice A2 G.lines.length c2).ownBlock = some g → g < s5
  lt : w0.heap.size ≤ sb ∧ sb < gb ∧ gb < xb ∧ xb < s4 ∧ s4 ≤ s5 ∧ s5 ≤ W.heap.size
  fr : Fr none w0 W
  sr : SrcR 63 W sb
  ok : LedOK G
  oa : ∀ x ∈ G.accs, accR.ok x
  ol : ∀ x ∈ G.lines, lnR.ok x
  oo : ∀ x ∈ G.offers, ofR.ok x
  wi : Wi G.nid
theorem sld_fr {w w' : World} {D : Nat → Prop} {n : Nat} {v : Value} {xs : List Value} {r : Option Nat} (h : SlD w D n v xs) (F : Fr r w w') (hr : ∀ b, D b → b < w.heap.size ∧ some b ≠ r) : SlD w' D n v xs := h.keep fun b hb => ⟨hb, F.block b (hr b hb).1 (hr b hb).2⟩
/-- A ledger's slices, in blocks between the source and the copy. -/
structure LgBel (sb xb : Nat) (W : World) (G : Lgr) (va vl vo : Value) : Prop where
  ga : SlD W (fun b => sb < b ∧ b < xb) 3 va (flR accR G.accs)
  gl : SlD W (fun b => sb < b ∧ b < xb) 5 vl (flR lnR G.lines)
  go : SlD W (fun b => sb < b ∧ b < xb) 9 vo (flR ofR G.offers)
theorem LgBel.fr {sb xb : Nat} {W W' : World} {G : Lgr} {va vl vo : Value} {r : Option Nat} (h : LgBel sb xb W G va vl vo) (F : Fr r W W') (hz : xb ≤ W.heap.size) (hr : ∀ g, r = some g → xb ≤ g) : LgBel sb xb W' G va vl vo := by
  have hd : ∀ b : Nat, (sb < b ∧ b < xb) → b < W.heap.size ∧ some b ≠ r := fun b hb => ⟨by omega, fun e => by have := hr b e.symm; omega⟩
  exact ⟨sld_fr h.ga F hd, sld_fr h.gl F hd, sld_fr h.go F hd⟩
theorem LgBel.of {sb xb B : Nat} {W : World} {G : Lgr} {va vl vo : Value} (h : LgX B W G va vl vo) (h1 : sb < B) (h2 : W.heap.size ≤ xb) : LgBel sb xb W G va vl vo := by
  have hd : ∀ b : Nat, Dn B W b → (sb < b ∧ b < xb) ∧ W.heap[b]? = W.heap[b]? := fun b hb => ⟨⟨by have := hb.1; omega, by have := hb.2; omega⟩, rfl⟩
  exact ⟨h.a.keep hd, h.l.keep hd, h.o.keep hd⟩
theorem LgBel.low {sb xb z : Nat} {W : World} {G : Lgr} {va vl vo : Value} (h : LgBel sb z W G va vl vo) (hz : z ≤ xb) : LgBel sb xb W G va vl vo := by
  have hd : ∀ b : Nat, (sb < b ∧ b < z) → (sb < b ∧ b < xb) ∧ W.heap[b]? = W.heap[b]? := fun b hb => ⟨⟨hb.1, by omega⟩, rfl⟩
  exact ⟨h.ga.keep hd, h.gl.keep hd, h.go.keep hd⟩
/-- The source's draws. -/
theorem DigM.src {w0 W W' : World} {G : Lgr} {va vl vo : Value} {sb gb xb s4 s5 : Nat} {A1 A2 A3 : Option Addr} {c1 c2 c3 : Nat} (h : DigM w0 W G va vl vo sb gb xb s4 s5 A1 c1 A2 c2 A3 c3) (F : Fr (some sb) W W') (S : SrcR 63 W' sb) : DigM w0 W' G va vl vo sb gb xb s4 s5 A1 c1 A2 c2 A3 c3 := by
  have hl := h.lt
  have hd : ∀ b : Nat, (sb < b ∧ b < xb) → b < W.heap.size ∧ some b ≠ some sb := fun b hb => ⟨by omega, fun e => by injection e with e; omega⟩
  exact { h with
    gc := blk_fr h.gc F (by intro e; injection e with e; omega)
    xc := blk_fr h.xc F (by intro e; injection e with e; omega)
    ga := sld_fr h.ga F hd
    gl := sld_fr h.gl F hd
    go := sld_fr h.go F hd
    xa := own_fr h.xa F (fun g hg => by injection hg with hg; omega)
    xl := own_fr h.xl F (fun g hg => by injection hg with hg; omega)
    xo := own_fr h.xo F (fun g hg => by injection hg with hg; omega)
    lt := ⟨hl.1, hl.2.1, hl.2.2.1, hl.2.2.2.1, hl.2.2.2.2.1, Nat.le_trans hl.2.2.2.2.2 F.size⟩
    fr := h.fr.new F hl.1
    sr := S }
theorem lgcells {w : World} {b : Nat} {v0 v1 v2 v3 v4 v5 v6 : Value} {T : TypeId} (h : w.heap[b]? = some (.cells #[v0, v1, v2, v3, v4, v5, v6] T (0, 0))) : w.cell? ⟨b, 0, none⟩ = some v0 ∧ w.cell? ⟨b, 1, none⟩ = some v1 ∧ w.cell? ⟨b, 2, none⟩ = some v2 ∧ w.cell? ⟨b, 3, none⟩ = some v3 ∧ w.cell? ⟨b, 4, none⟩ = some v4 ∧ w.cell? ⟨b, 5, none⟩ = some v5 ∧ w.cell? ⟨b, 6, none⟩ = some v6 := by
  refine ⟨?_, ?_, ?_, ?_, ?_, ?_, ?_⟩ <;> (rw [blk_cell h]; rfl)
/-- Two ledgers whose bytes differ. -/
structure DigS (w0 W : World) (G G' : Lgr) (va vl vo xa xl xo : Value) (gb xb : Nat) : Prop where
  gc : W.heap[gb]? = some (.cells #[.int .i64 G.num, va, vl, vo, .int .i64 G.nid, .int .i64 G.fees, .int .u64 (G.link : Int)] 30 (0, 0))
  xc : W.heap[xb]? = some (.cells #[.int .i64 G'.num, xa, xl, xo, .int .i64 G'.nid, .int .i64 G'.fees, .int .u64 (G'.link : Int)] 30 (0, 0))
  gs : LgS W none G va vl vo
  xs : LgS W none G' xa xl xo
  sg : SmG G
  sx : SmG G'
  ne : bytesG G' ≠ bytesG G
  fr : Fr none w0 W
def DigE (w0 : World) (gb xb : Nat) (W : World) : Prop := ∃ (G G' : Lgr) (va vl vo xa xl xo : Value), DigS w0 W G G' va vl vo xa xl xo gb xb
theorem sld_dm {w : World} {D : Nat → Prop} {n : Nat} {v : Value} {xs : List Value} (h : SlD w D n v xs) (hr : ∀ b, D b → b < w.heap.size) : SlD w (Dm w none) n v xs := h.keep fun b hb => ⟨⟨hr b hb, by simp⟩, rfl⟩
/-- A change of the copy that keeps what lies below: what the end wants of it. -/
theorem DigM.fin {w0 W W' : World} {G : Lgr} {va vl vo : Value} {sb gb xb s4 s5 : Nat} {A1 A2 A3 : Option Addr} {c1 c2 c3 : Nat} (h : DigM w0 W G va vl vo sb gb xb s4 s5 A1 c1 A2 c2 A3 c3) (F : ∀ k, k < xb → W'.heap[k]? = W.heap[k]?) (Fr' : Fr none w0 W') (hz : W.heap.size ≤ W'.heap.size) (G' : Lgr) (xa xl xo : Value)
    (xc : W'.heap[xb]? = some (.cells #[.int .i64 G'.num, xa, xl, xo, .int .i64 G'.nid, .int .i64 G'.fees, .int .u64 (G'.link : Int)] 30 (0, 0))) (xs : LgS W' none G' xa xl xo) (sx : SmG G') (ne : bytesG G' ≠ bytesG G) : DigE w0 gb xb W' := by
  have hl := h.lt
  have hk := h.ok
  have dm : ∀ b, (sb < b ∧ b < xb) → Dm W' none b ∧ W'.heap[b]? = W.heap[b]? := fun b hb => ⟨⟨by omega, by simp⟩, F b hb.2⟩
  refine ⟨G, G', va, vl, vo, xa, xl, xo, (F gb (by omega)).trans h.gc, xc, ⟨⟨h.ga.keep dm, h.oa⟩, ⟨h.gl.keep dm, h.ol⟩, ⟨h.go.keep dm, h.oo⟩, ?_, h.wi, ?_, ?_⟩, xs, hk.sm, sx, ne, Fr'⟩
  · have := hk.num; constructor <;> omega
  · have := hk.fees; constructor <;> omega
  · have := hk.link; omega
theorem LedOK.lims {G : Lgr} (h : LedOK G) : G.lines.length ≤ 60 ∧ G.offers.length ≤ 40 := by
  have h1 := h.ok
  unfold chkOf at h1
  split at h1
  · contradiction
  · rename_i hl
    have hl : chkLn G.lines G.accs = 0 := by simpa using hl
    split at h1
    · cases h1
    · unfold chkLn at hl
      split at hl
      · contradiction
      · split at hl
        · cases hl
        · omega
theorem LedOK.ne {G : Lgr} (h : LedOK G) (c k : Nat) (x : Ln) (o : Ofr) (hk : k < G.accs.length) : bytesG (digG G c k G.accs[k] x o) ≠ bytesG G := dig_ne G c k x o hk h.num.1 h.fees.1 (h.ga k hk).2.1 (h.ga k hk).2.2.2.1
theorem LedOK.wi {G : Lgr} (h : LedOK G) : Wi G.num ∧ Wi G.fees ∧ Wi (G.num + 1) ∧ Wi (G.fees + 1) ∧ G.link < 18446744073709551616 := by
  have h1 := h.num
  have h2 := h.fees
  have h3 := h.link
  refine ⟨?_, ?_, ?_, ?_, by omega⟩ <;> constructor <;> omega
def x00 : Ln := ⟨9, usd, 0, 4⟩
def o00 : Ofr := ⟨77, 0, nat, nat, 0, 0, 0⟩
/-- The number, one more. -/
theorem DigM.num {w0 W W' : World} {G : Lgr} {va vl vo : Value} {sb gb xb s4 s5 : Nat} {A1 A2 A3 : Option Addr} {c1 c2 c3 : Nat} (h : DigM w0 W G va vl vo sb gb xb s4 s5 A1 c1 A2 c2 A3 c3) (F : Fr (some xb) W W') (xc : W'.heap[xb]? = some (.cells #[.int .i64 (G.num + 1), .slice A1 G.accs.length c1, .slice A2 G.lines.length c2, .slice A3 G.offers.length c3, .int .i64 G.nid, .int .i64 G.fees, .int .u64 (G.link : Int)] 30 (0, 0))) : DigE w0 gb xb W' := by
  have hl := h.lt
  have hk := h.ok
  have hw := hk.wi
  have hs := hk.sm
  have hr : ∀ g, some xb = some g → g < xb + 1 := fun g e => by injection e with e; omega
  exact h.fin (fun k hk => F.block k (by omega) (by intro e; injection e with e; omega)) (h.fr.new F (by omega)) F.size { G with num := G.num + 1 } _ _ _ xc ⟨SlR.of_own (own_fr h.xa F hr) (by simp) h.oa, SlR.of_own (own_fr h.xl F (fun g e => by have := hr g e; omega)) (by simp) h.ol, SlR.of_own (own_fr h.xo F (fun g e => by have := hr g e; omega)) (by simp) h.oo, hw.2.2.1, h.wi, hw.2.1, hw.2.2.2.2⟩ ⟨hs.a, hs.l, hs.o, hs.lc, hs.oc⟩ (hk.ne 5 0 x00 o00 (by have := hk.len; omega))
theorem DigM.fees {w0 W W' : World} {G : Lgr} {va vl vo : Value} {sb gb xb s4 s5 : Nat} {A1 A2 A3 : Option Addr} {c1 c2 c3 : Nat} (h : DigM w0 W G va vl vo sb gb xb s4 s5 A1 c1 A2 c2 A3 c3) (F : Fr (some xb) W W') (xc : W'.heap[xb]? = some (.cells #[.int .i64 G.num, .slice A1 G.accs.length c1, .slice A2 G.lines.length c2, .slice A3 G.offers.length c3, .int .i64 G.nid, .int .i64 (G.fees + 1), .int .u64 (G.link : Int)] 30 (0, 0))) : DigE w0 gb xb W' := by
  have hl := h.lt
  have hk := h.ok
  have hw := hk.wi
  have hs := hk.sm
  have hr : ∀ g, some xb = some g → g < xb + 1 := fun g e => by injection e with e; omega
  exact h.fin (fun k hk => F.block k (by omega) (by intro e; injection e with e; omega)) (h.fr.new F (by omega)) F.size { G with fees := G.fees + 1 } _ _ _ xc ⟨SlR.of_own (own_fr h.xa F hr) (by simp) h.oa, SlR.of_own (own_fr h.xl F (fun g e => by have := hr g e; omega)) (by simp) h.ol, SlR.of_own (own_fr h.xo F (fun g e => by have := hr g e; omega)) (by simp) h.oo, hw.1, h.wi, hw.2.2.2.1, hw.2.2.2.2⟩ ⟨hs.a, hs.l, hs.o, hs.lc, hs.oc⟩ (hk.ne 4 0 x00 o00 (by have := hk.len; omega))
theorem DigM.bal {w0 W : World} {G : Lgr} {va vl vo : Value} {sb gb xb s4 s5 : Nat} {A1 A2 A3 : Option Addr} {c1 c2 c3 : Nat} (h : DigM w0 W G va vl vo sb gb xb s4 s5 A1 c1 A2 c2 A3 c3) (b k : Nat) (hA : A1 = some ⟨b, 0, none⟩) (hk : k < G.accs.length) : DigE w0 gb xb (W.setCell ⟨b, k * 3 + 1, none⟩ (.int .i64 (G.accs[k].bal + 1))) := by
  subst hA
  have hl := h.lt
  have ho := h.ok
  have hw := ho.wi
  have hs := ho.sm
  have hg := ho.ga k hk
  have hB : Wi (G.accs[k].bal + 1) := by constructor <;> omega
  have hQ : Wi (G.accs[k].seq + 1) := by constructor <;> omega
  have hb1 := h.b1 b rfl
  have hb0 := own_blk_ge h.xa b rfl
  have F : Fr (some b) W _ := Fr.set1 W ⟨b, k * 3 + 1, none⟩ (.int .i64 (G.accs[k].bal + 1))
  have own := own_set7 h.xa (k * 3 + 1) (.int .i64 (G.accs[k].bal + 1))
  rw [show (flR accR G.accs).set (k * 3 + 1) (.int .i64 (G.accs[k].bal + 1)) = flR accR (G.accs.set k { G.accs[k] with bal := G.accs[k].bal + 1 }) from flR_set accR _ _ 1 (by decide) G.accs k hk rfl] at own
  have hr : ∀ g, some b = some g → g < s4 := fun g e => by injection e with e; omega
  have hoa : ∀ x ∈ G.accs.set k { G.accs[k] with bal := G.accs[k].bal + 1 }, accR.ok x := fun x hx => by
    rcases List.mem_or_eq_of_mem_set hx with hx | rfl
    · exact h.oa x hx
    · have h1 := h.oa _ (List.getElem_mem hk)
      refine ⟨h1.1, ?_, ?_⟩
      · first | exact h1.2.1 | exact hB
      · first | exact h1.2.2 | exact hQ
  exact h.fin (fun k hk => F.block k (by omega) (by intro e; injection e with e; omega)) (h.fr.new F (by omega)) F.size { G with accs := G.accs.set k { G.accs[k] with bal := G.accs[k].bal + 1 } } _ _ _ (blk_fr h.xc F (by intro e; injection e with e; omega)) ⟨SlR.of_own own (by simp) hoa, SlR.of_own (own_fr h.xl F hr) (by simp) h.ol, SlR.of_own (own_fr h.xo F (fun g e => by have := hr g e; omega)) (by simp) h.oo, hw.1, h.wi, hw.2.1, hw.2.2.2.2⟩ ⟨by simpa using hs.a, hs.l, hs.o, hs.lc, hs.oc⟩ (ho.ne 0 k x00 o00 hk)
theorem DigM.seq {w0 W : World} {G : Lgr} {va vl vo : Value} {sb gb xb s4 s5 : Nat} {A1 A2 A3 : Option Addr} {c1 c2 c3 : Nat} (h : DigM w0 W G va vl vo sb gb xb s4 s5 A1 c1 A2 c2 A3 c3) (b k : Nat) (hA : A1 = some ⟨b, 0, none⟩) (hk : k < G.accs.length) : DigE w0 gb xb (W.setCell ⟨b, k * 3 + 2, none⟩ (.int .i64 (G.accs[k].seq + 1))) := by
  subst hA
  have hl := h.lt
  have ho := h.ok
  have hw := ho.wi
  have hs := ho.sm
  have hg := ho.ga k hk
  have hB : Wi (G.accs[k].bal + 1) := by constructor <;> omega
  have hQ : Wi (G.accs[k].seq + 1) := by constructor <;> omega
  have hb1 := h.b1 b rfl
  have hb0 := own_blk_ge h.xa b rfl
  have F : Fr (some b) W _ := Fr.set1 W ⟨b, k * 3 + 2, none⟩ (.int .i64 (G.accs[k].seq + 1))
  have own := own_set7 h.xa (k * 3 + 2) (.int .i64 (G.accs[k].seq + 1))
  rw [show (flR accR G.accs).set (k * 3 + 2) (.int .i64 (G.accs[k].seq + 1)) = flR accR (G.accs.set k { G.accs[k] with seq := G.accs[k].seq + 1 }) from flR_set accR _ _ 2 (by decide) G.accs k hk rfl] at own
  have hr : ∀ g, some b = some g → g < s4 := fun g e => by injection e with e; omega
  have hoa : ∀ x ∈ G.accs.set k { G.accs[k] with seq := G.accs[k].seq + 1 }, accR.ok x := fun x hx => by
    rcases List.mem_or_eq_of_mem_set hx with hx | rfl
    · exact h.oa x hx
    · have h1 := h.oa _ (List.getElem_mem hk)
      refine ⟨h1.1, ?_, ?_⟩
      · first | exact h1.2.1 | exact hB
      · first | exact h1.2.2 | exact hQ
  exact h.fin (fun k hk => F.block k (by omega) (by intro e; injection e with e; omega)) (h.fr.new F (by omega)) F.size { G with accs := G.accs.set k { G.accs[k] with seq := G.accs[k].seq + 1 } } _ _ _ (blk_fr h.xc F (by intro e; injection e with e; omega)) ⟨SlR.of_own own (by simp) hoa, SlR.of_own (own_fr h.xl F hr) (by simp) h.ol, SlR.of_own (own_fr h.xo F (fun g e => by have := hr g e; omega)) (by simp) h.oo, hw.1, h.wi, hw.2.1, hw.2.2.2.2⟩ ⟨by simpa using hs.a, hs.l, hs.o, hs.lc, hs.oc⟩ (ho.ne 1 k x00 o00 hk)
theorem DigM.lin {w0 W : World} {G : Lgr} {va vl vo : Value} {sb gb xb s4 s5 : Nat} {A1 A2 A3 : Option Addr} {c1 c2 c3 : Nat} (h : DigM w0 W G va vl vo sb gb xb s4 s5 A1 c1 A2 c2 A3 c3) : G.lines.length ≤ 60 ∧ G.offers.length ≤ 40 := h.ok.lims
theorem DigM.line {w0 W W' : World} {G : Lgr} {va vl vo : Value} {sb gb xb s4 s5 : Nat} {A1 A2 A3 : Option Addr} {c1 c2 c3 : Nat} (h : DigM w0 W G va vl vo sb gb xb s4 s5 A1 c1 A2 c2 A3 c3) (F : Fr (Value.slice A2 G.lines.length c2).ownBlock W W') (A' : Option Addr) (c' : Nat) (own : W'.ownsRow s4 39 5 (.slice A' (G.lines.length + 1) c') (G.lines.length + 1) (flR lnR G.lines ++ [.int .i64 9, .string (bL usd.code), .int .i64 usd.iss, .int .i64 0, .int .i64 4])) : DigE w0 gb xb (W'.setCell ⟨xb, 2, none⟩ (.slice A' (G.lines.length + 1) c')) := by
  have hl := h.lt
  have ho := h.ok
  have hw := ho.wi
  have hs := ho.sm
  have hge := own_blk_ge h.xl
  have ha := h.xa.kept F (by
    cases hv : (Value.slice A1 G.accs.length c1).ownBlock with
    | none => exact .inl rfl
    | some g => exact .inr (fun e => by have := h.b1 g hv; have := hge g e.symm; omega))
  have hoff := own_fr h.xo F h.b2
  have hx := blk_fr h.xc F (fun e => by have := hge xb e; omega)
  have hlow : ∀ k, k < xb → W'.heap[k]? = W.heap[k]? := fun k hk => F.block k (by omega) (fun e => by have := hge k e.symm; omega)
  have G9 : Fr (some xb) W' _ := Fr.set1 W' ⟨xb, 2, none⟩ (.slice A' (G.lines.length + 1) c')
  have hr : ∀ g, some xb = some g → g < xb + 1 := fun g e => by injection e with e; omega
  have own : W'.ownsRow s4 39 5 (.slice A' (G.lines.length + 1) c') (G.lines.length + 1) (flR lnR (G.lines ++ [x00])) := by rw [flR_snoc]; exact own
  have hsz := F.size
  have hol : ∀ x ∈ G.lines ++ [x00], lnR.ok x := fun x hx => by
    rcases List.mem_append.1 hx with hx | hx
    · exact h.ol x hx
    · rw [List.mem_singleton.1 hx]
      refine ⟨?_, ?_, ?_, ?_⟩ <;> (constructor <;> decide)
  refine h.fin (fun k hk => (G9.block k (by omega) (by intro e; injection e with e; omega)).trans (hlow k hk)) ((h.fr.own F (fun g e => by have := hge g e; omega)).new G9 (by omega)) (Nat.le_trans hsz G9.size) { G with lines := G.lines ++ [x00] } _ _ _ (blk_set hx 2 _) ⟨SlR.of_own (own_fr ha G9 hr) (by simp) h.oa, SlR.of_own (own_fr own G9 (fun g e => by have := hr g e; omega)) (by simp) hol, SlR.of_own (own_fr hoff G9 (fun g e => by have := hr g e; omega)) (by simp) h.oo, hw.1, h.wi, hw.2.1, hw.2.2.2.2⟩ ⟨hs.a, ?_, hs.o, fun x hx => ?_, hs.oc⟩ (ho.ne 2 0 x00 o00 (by have := ho.len; omega))
  · have := h.lin
    simp only [List.length_append, List.length_cons, List.length_nil]
    omega
  · rcases List.mem_append.1 hx with hx | hx
    · exact hs.lc x hx
    · rw [List.mem_singleton.1 hx]; decide
theorem DigM.offer {w0 W W' : World} {G : Lgr} {va vl vo : Value} {sb gb xb s4 s5 : Nat} {A1 A2 A3 : Option Addr} {c1 c2 c3 : Nat} (h : DigM w0 W G va vl vo sb gb xb s4 s5 A1 c1 A2 c2 A3 c3) (F : Fr (Value.slice A3 G.offers.length c3).ownBlock W W') (A' : Option Addr) (c' : Nat) (own : W'.ownsRow s5 41 9 (.slice A' (G.offers.length + 1) c') (G.offers.length + 1) (flR ofR G.offers ++ ofR.enc o00)) : DigE w0 gb xb (W'.setCell ⟨xb, 3, none⟩ (.slice A' (G.offers.length + 1) c')) := by
  have hl := h.lt
  have ho := h.ok
  have hw := ho.wi
  have hs := ho.sm
  have hge := own_blk_ge h.xo
  have ha := h.xa.kept F (by
    cases hv : (Value.slice A1 G.accs.length c1).ownBlock with
    | none => exact .inl rfl
    | some g => exact .inr (fun e => by have := h.b1 g hv; have := hge g e.symm; omega))
  have hli := h.xl.kept F (by
    cases hv : (Value.slice A2 G.lines.length c2).ownBlock with
    | none => exact .inl rfl
    | some g => exact .inr (fun e => by have := h.b2 g hv; have := hge g e.symm; omega))
  have hx := blk_fr h.xc F (fun e => by have := hge xb e; omega)
  have hlow : ∀ k, k < xb → W'.heap[k]? = W.heap[k]? := fun k hk => F.block k (by omega) (fun e => by have := hge k e.symm; omega)
  have G9 : Fr (some xb) W' _ := Fr.set1 W' ⟨xb, 3, none⟩ (.slice A' (G.offers.length + 1) c')
  have hr : ∀ g, some xb = some g → g < xb + 1 := fun g e => by injection e with e; omega
  have own : W'.ownsRow s5 41 9 (.slice A' (G.offers.length + 1) c') (G.offers.length + 1) (flR ofR (G.offers ++ [o00])) := by rw [flR_snoc]; exact own
  have hsz := F.size
  have hoo : ∀ x ∈ G.offers ++ [o00], ofR.ok x := fun x hx => by
    rcases List.mem_append.1 hx with hx | hx
    · exact h.oo x hx
    · rw [List.mem_singleton.1 hx]
      refine ⟨?_, ?_, ?_, ?_, ?_, ?_, ?_⟩ <;> (constructor <;> decide)
  refine h.fin (fun k hk => (G9.block k (by omega) (by intro e; injection e with e; omega)).trans (hlow k hk)) ((h.fr.own F (fun g e => by have := hge g e; omega)).new G9 (by omega)) (Nat.le_trans hsz G9.size) { G with offers := G.offers ++ [o00] } _ _ _ (blk_set hx 3 _) ⟨SlR.of_own (own_fr ha G9 hr) (by simp) h.oa, SlR.of_own (own_fr hli G9 (fun g e => by have := hr g e; omega)) (by simp) h.ol, SlR.of_own (own_fr own G9 (fun g e => by have := hr g e; omega)) (by simp) hoo, hw.1, h.wi, hw.2.1, hw.2.2.2.2⟩ ⟨hs.a, hs.l, ?_, hs.lc, fun x hx => ?_⟩ (ho.ne 3 0 x00 o00 (by have := ho.len; omega))
  · have := h.lin
    simp only [List.length_append, List.length_cons, List.length_nil]
    omega
  · rcases List.mem_append.1 hx with hx | hx
    · exact hs.oc x hx
    · rw [List.mem_singleton.1 hx]; decide
theorem DigM.acc {w0 W : World} {G : Lgr} {va vl vo : Value} {sb gb xb s4 s5 b : Nat} {A2 A3 : Option Addr} {c1 c2 c3 : Nat} (h : DigM w0 W G va vl vo sb gb xb s4 s5 (some ⟨b, 0, none⟩) c1 A2 c2 A3 c3) (k : Nat) (hk : k < G.accs.length) : W.cell? ⟨b, k * 3 + 1, none⟩ = some (.int .i64 G.accs[k].bal) ∧ W.cell? ⟨b, k * 3 + 2, none⟩ = some (.int .i64 G.accs[k].seq) ∧ ∀ i, W.frozen? ⟨b, i, none⟩ = false := by
  obtain ⟨h1, h2, _⟩ := own_free7 h.xa
  have e1 := flR_get accR G.accs k hk 1 (by decide)
  have e2 := flR_get accR G.accs k hk 2 (by decide)
  exact ⟨h2 (k * 3 + 1) _ e1, h2 (k * 3 + 2) _ e2, h1⟩
end Go.Proofs.YtonhhnedfjonoaaGreatDoor

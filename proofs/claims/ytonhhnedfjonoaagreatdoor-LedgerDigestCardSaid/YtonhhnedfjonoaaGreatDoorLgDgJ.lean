/- Walks: the digest of a ledger. -/
import Derived.Test.YtonhhnedfjonoaaGreatDoorProg
import Derived.Test.YtonhhnedfjonoaaGreatDoorLgZJ
import Derived.Test.YtonhhnedfjonoaaGreatDoorHashWJ
set_option linter.unusedSimpArgs false
set_option linter.unusedVariables false
namespace Go.Proofs.YtonhhnedfjonoaaGreatDoor
open Go.RowKit

theorem bytesG_len {G : Lgr} (h : SmG G) (ha : ∀ x ∈ G.accs, accR.ok x) (hl : ∀ x ∈ G.lines, lnR.ok x) (ho : ∀ x ∈ G.offers, ofR.ok x) (h1 : Wi G.num) (h2 : Wi G.nid) (h3 : Wi G.fees) (h4 : G.link < 18446744073709551616) : (bytesG G).length ≤ 4000000 := by
  have e1 := nwB_len h1
  have e2 := nwB_len h2
  have e3 := nwB_len h3
  have e4 : (nwB (G.link : Int)).length ≤ 21 := by
    unfold nwB wdB
    rw [Lib.itoa_nonneg, List.length_append, Lib.decDigits_length]
    have := Lib.nDigits_le20 _ h4
    simp
    omega
  have e5 : (nwB (G.accs.length : Int)).length ≤ 22 := nwB_len (by have := h.a; constructor <;> omega)
  have e6 : (nwB (G.lines.length : Int)).length ≤ 22 := nwB_len (by have := h.l; constructor <;> omega)
  have e7 : (nwB (G.offers.length : Int)).length ≤ 22 := nwB_len (by have := h.o; constructor <;> omega)
  have f1 := flat_len accB 66 G.accs (fun x hx => accB_len (ha x hx))
  have f2 := flat_len lnB 1088 G.lines (fun x hx => lnB_len (hl x hx) (h.lc x hx))
  have f3 := flat_len ofB 2154 G.offers (fun x hx => ofB_len (ho x hx) (h.oc x hx))
  have g1 := h.a
  have g2 := h.l
  have g3 := h.o
  unfold bytesG
  simp only [List.length_append]
  omega
/-- []byte to string. -/
theorem conv_back {w : World} {D : Nat → Prop} {v : Value} {l : List UInt8} (h : SlD w D 1 v (Lib.byteCells l)) (hne : l ≠ []) : (convert 42 9 v).run Tryz.prog w = .ok (.string (bL l)) w := by
  obtain ⟨A, n, c, rfl, hl, hc, hm, hx⟩ := h
  rw [Lib.byteCells_length, Nat.mul_one] at hl
  subst hl
  obtain ⟨b, off, rfl, hb, hx⟩ := hx (List.length_pos_iff.2 hne)
  exact run_convert_bytes_back (P := Tryz.prog) w 42 9 5 ⟨b, off, none⟩ c l (by kernel_rfl) (by kernel_rfl) (by kernel_rfl) (fun j hj => by
    rw [Lib.add_plain]
    exact hx j _ (by simp [Lib.byteCells, hj]))
theorem bytesG_ne (G : Lgr) : bytesG G ≠ [] := by
  intro e
  have := congrArg List.length e
  simp [bytesG, nwB, wdB] at this
set_option maxRecDepth 100000 in
theorem pdig_any (G : Lgr) (va vl vo : Value) (w : World) (h : LgS w none G va vl vo) (hm : SmG G) (hT : Tab w) :
    Calls Tryz.prog 11 #[.agg #[.int .i64 G.num, va, vl, vo, .int .i64 G.nid, .int .i64 G.fees, .int .u64 (G.link : Int)]] w fun e w' => e = .returned (.int .u64 (hashS (bytesG G) : Nat)) ∧ Fr none w w' := by
  obtain ⟨A1, ca, rfl, _, _, _⟩ := accR_open h.1
  obtain ⟨A2, cl, rfl, _, _, _⟩ := lnR_open h.2.1
  obtain ⟨A3, co, rfl, _, _, _⟩ := ofR_open h.2.2.1
  have HG := Lib.hid h
  have hbl := bytesG_len hm h.1.2 h.2.1.2 h.2.2.1.2 h.2.2.2.1 h.2.2.2.2.1 h.2.2.2.2.2.1 h.2.2.2.2.2.2
  clear h
  go_enter Tryz.func11, Tryz.ntmps11
  go_upto_region 1 with (fail)
  generalize hW : w.alloc _ = w1
  have F1 : Fr none w w1 := hW ▸ (Fr.refl none w).alloc _
  have b1 : w1.heap[w.heap.size]? = some (.cells #[.int .i64 G.num, .slice A1 G.accs.length ca, .slice A2 G.lines.length cl, .slice A3 G.offers.length co, .int .i64 G.nid, .int .i64 G.fees, .int .u64 (G.link : Int)] 30 (0, 0)) := by rw [← hW]; exact blk_new _ _
  clear hW
  have k0 : w1.cell? ⟨w.heap.size, 0, none⟩ = some (.int .i64 G.num) := by rw [blk_cell b1]; rfl
  have k1 : w1.cell? ⟨w.heap.size, 1, none⟩ = some (.slice A1 G.accs.length ca) := by rw [blk_cell b1]; rfl
  have k2 : w1.cell? ⟨w.heap.size, 2, none⟩ = some (.slice A2 G.lines.length cl) := by rw [blk_cell b1]; rfl
  have k3 : w1.cell? ⟨w.heap.size, 3, none⟩ = some (.slice A3 G.offers.length co) := by rw [blk_cell b1]; rfl
  have k4 : w1.cell? ⟨w.heap.size, 4, none⟩ = some (.int .i64 G.nid) := by rw [blk_cell b1]; rfl
  have k5 : w1.cell? ⟨w.heap.size, 5, none⟩ = some (.int .i64 G.fees) := by rw [blk_cell b1]; rfl
  have k6 : w1.cell? ⟨w.heap.size, 6, none⟩ = some (.int .u64 (G.link : Int)) := by rw [blk_cell b1]; rfl
  go_wp2_with fail
  refine (pbytes_any G _ _ _ w1 (HG.out.fr F1) hm (hT.fr F1)).mono ?_
  rintro e w2 ⟨v, rfl, hv, F2⟩
  have hcv := conv_back hv (bytesG_ne G)
  clear k0 k1 k2 k3 k4 k5 k6 b1 hv
  go_wp2_with fail
  refine (hash_any (bL (bytesG G)) w2 (by rw [bL_size]; omega)).mono ?_
  rintro e w3 ⟨rfl, F3⟩
  go_wp2_with fail
  go_ret
  exact ⟨rfl, (F1.pure F2).pure F3⟩
end Go.Proofs.YtonhhnedfjonoaaGreatDoor

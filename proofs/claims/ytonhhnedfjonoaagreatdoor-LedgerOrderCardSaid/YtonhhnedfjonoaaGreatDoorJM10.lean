/- Some texts of this claim, joined: contracts of the functions that it reaches, and plain laws. -/
import Derived.Test.YtonhhnedfjonoaaGreatDoorProg
import Derived.Test.YtonhhnedfjonoaaGreatDoorJM9
import Derived.Test.YtonhhnedfjonoaaGreatDoorShelf
import Derived.Lib.ItoaLen
import Derived.Test.YtonhhnedfjonoaaGreatDoorJM1
import Derived.Test.YtonhhnedfjonoaaGreatDoorJM2
import Derived.Lib.ItoaMem
import Derived.Lib.ItoaNum
import Derived.Test.YtonhhnedfjonoaaGreatDoorJM27
import Derived.Test.YtonhhnedfjonoaaGreatDoorJM28
import Derived.Test.YtonhhnedfjonoaaGreatDoorJM6
import Derived.Test.YtonhhnedfjonoaaGreatDoorJM29
import Derived.Laws.RangeAny
import Derived.Laws.RangeString

set_option linter.unusedSimpArgs false
set_option linter.unusedVariables false
/- Walk: ledger.transaction, the transaction with a text. -/
namespace Go.Proofs.YtonhhnedfjonoaaGreatDoor
open Go.RowKit

def tx0 : TxX := ⟨0, 0, 0, [], none, 0⟩
theorem txw4 {w : World} {b : Nat} {t : TxX} (h : TxB w b t) (t' : TxX) (w' : World) (hw : w' = (((w.setCell ⟨b, 0, none⟩ (.int .i64 t'.src)).setCell ⟨b, 1, none⟩ (.int .i64 t'.seq)).setCell ⟨b, 2, none⟩ (.int .i64 t'.fee)).setCell ⟨b, 3, none⟩ (.slice t'.A t'.ops.length t'.c)) : TxB w' b t' ∧ Fr (some b) w w' := by
  have F0 : Fr (some b) w _ := Fr.set1 w ⟨b, 0, none⟩ (.int .i64 t'.src)
  have F1 : Fr (some b) w _ := F0.setRow (p := ⟨b, 1, none⟩) rfl (.int .i64 t'.seq)
  have F2 : Fr (some b) w _ := F1.setRow (p := ⟨b, 2, none⟩) rfl (.int .i64 t'.fee)
  have F3 : Fr (some b) w _ := F2.setRow (p := ⟨b, 3, none⟩) rfl (.slice t'.A t'.ops.length t'.c)
  rw [hw]
  exact ⟨blk_set (blk_set (blk_set (blk_set h 0 _) 1 _) 2 _) 3 _, F3⟩
theorem txw4d {w : World} {b : Nat} {t : TxX} (h : TxB w b t) (t' : TxX) (w' : World) (hw : w' = ((((w.setCell ⟨b, 0, none⟩ (.int .i64 t'.src)).setCell ⟨b, 1, none⟩ (.int .i64 t'.seq)).setCell ⟨b, 2, none⟩ (.int .i64 t'.fee)).setCell ⟨b, 3, none⟩ (.slice t'.A t'.ops.length t'.c)).drew) : TxB w' b t' ∧ Fr (some b) w w' := by
  obtain ⟨R, G⟩ := txw4 h t' _ rfl
  rw [hw]
  exact ⟨R, G.drew⟩
theorem txfrees {w : World} {b : Nat} {t : TxX} (h : TxB w b t) : ∀ k, w.frozen? ⟨b, k, none⟩ = false := fun k => h.free k
/-- What transaction hands back. -/
def TrP (s : List UInt8) (t : TxX) (ok : Bool) : Prop := (ok = true → rdT s = some t.pl) ∧ (ok = false → rdT s = none)
/-- A transaction whose memory is new: in blocks from B on. -/
def TxN (B : Nat) (w : World) (t : TxX) : Prop := SlN opR B w t.v t.ops ∧ ∀ x ∈ t.ops, SlN astR B w x.v x.o.path
theorem TxN.fr {B : Nat} {r : Option Nat} {w w' : World} {t : TxX} (h : TxN B w t) (f : Fr r w w') (hr : ∀ g, r = some g → g < B) : TxN B w' t := ⟨h.1.fr f hr, fun x hx => (h.2 x hx).fr f hr⟩
theorem TxN.mono {B B' : Nat} {w : World} {t : TxX} (h : TxN B w t) (hB : B' ≤ B) : TxN B' w t := ⟨h.1.mono hB, fun x hx => (h.2 x hx).mono hB⟩
theorem TxN.d {B : Nat} {w : World} {t : TxX} (h : TxN B w t) (r : Option Nat) (hr : ∀ g, r = some g → g < B) : TxD w r t := ⟨h.1.sl r hr, fun x hx => (h.2 x hx).sl r hr⟩
theorem sld_take {w : World} {D : Nat → Prop} {A : Option Addr} {n c : Nat} {xs : List Value} (h : SlD w D 1 (.slice A n c) xs) (m : Nat) (hm : m ≤ n) : SlD w D 1 (.slice A m c) (xs.take m) := by
  have := h.take m hm
  rwa [Nat.mul_one] at this
theorem rdT_few {s : List UInt8} (h : (splL 32 s).length < 4) : rdT s = none := by
  unfold rdT
  simp only
  rw [if_pos h]
theorem eiOp : EInfo Tryz.prog 55 92 12 128 := EInfo.mk_ (z := .agg #[.int .i64 0, .int .i64 0, .int .i64 0, .int .i64 0, .string ⟨#[]⟩, .int .i64 0, .string ⟨#[]⟩, .int .i64 0, .int .i64 0, .int .i64 0, .int .i64 0, .slice none 0 0]) (by kernel_rfl) (by kernel_rfl) rfl (by omega)
theorem allO_snoc : ∀ (L : List (List UInt8)) (x : List UInt8) (l : List Opr) (o : Opr), allO L = some l → rdO x = some o → allO (L ++ [x]) = some (l ++ [o])
  | [], x, l, o, h, k => by
    have : l = [] := by simpa [allO] using h.symm
    subst this
    show allO [x] = _
    unfold allO
    rw [k]
    rfl
  | y :: L, x, l, o, h, k => by
    unfold allO at h
    cases hy : rdO y with
    | none => rw [hy] at h; simp at h
    | some a =>
      cases hL : allO L with
      | none => rw [hy, hL] at h; simp at h
      | some b =>
        rw [hy, hL] at h
        have : l = a :: b := by simpa using h.symm
        subst this
        show allO (y :: (L ++ [x])) = _
        unfold allO
        rw [hy, allO_snoc L x b o hL k]
        rfl
theorem allO_none : ∀ (L : List (List UInt8)) (k : Nat) (hk : k < L.length), rdO L[k] = none → allO L = none
  | y :: L, 0, _, h => by
    unfold allO
    have : rdO y = none := h
    rw [this]
  | y :: L, k + 1, hk, h => by
    unfold allO
    rw [allO_none L k (by simpa using hk) (by simpa using h)]
    cases rdO y <;> rfl
theorem fd_tk {W : List (List UInt8)} {i : Nat} (h : i < 3) (hW : 4 ≤ W.length) : fdN ((W.take 3).drop i) = fdN (W.drop i) := by
  match W, hW with
  | a :: b :: c :: d :: r, _ =>
    have : i = 0 ∨ i = 1 ∨ i = 2 := by omega
    rcases this with rfl | rfl | rfl <;> rfl
theorem rdT_ok {s : List UInt8} {W : List (List UInt8)} {n1 n2 n3 : Int} {b1 b2 b3 : Bool} {l : List OpX} (hW : W = splL 32 s) (h4 : 4 ≤ W.length) (h1 : NumF ((W.take 3).drop 0) false n1 b1) (h2 : NumF ((W.take 3).drop 1) b1 n2 b2) (h3 : NumF ((W.take 3).drop 2) b2 n3 b3) (ho : allO (W.drop 3) = some (l.map (·.o))) (A : Option Addr) (c : Nat) : TrP s ⟨n1, n2, n3, l, A, c⟩ (!b3) := by
  have g1 := fd_tk (i := 0) (by omega) h4
  have g2 := fd_tk (i := 1) (by omega) h4
  have g3 := fd_tk (i := 2) (by omega) h4
  unfold rdT at *
  unfold TrP
  unfold NumF at h1 h2 h3
  rw [g1] at h1
  rw [g2] at h2
  rw [g3] at h3
  unfold rdT
  simp only
  rw [← hW, if_neg (by omega)]
  constructor
  · intro hb
    have hb3 : b3 = false := by simpa using hb
    obtain ⟨e2, f3⟩ := h3.1 hb3
    obtain ⟨e1, f2⟩ := h2.1 e2
    obtain ⟨_, f1⟩ := h1.1 e1
    rw [List.drop_zero] at f1
    rw [f1, f2, f3, ho]
    rfl
  · intro hb
    have hb3 : b3 = true := by simpa using hb
    have : fdN W = none ∨ fdN (W.drop 1) = none ∨ fdN (W.drop 2) = none := by
      rcases h3.2 hb3 with h | h
      · rcases h2.2 h with h | h
        · rcases h1.2 h with h | h
          · cases h
          · rw [List.drop_zero] at h; exact .inl h
        · exact .inr (.inl h)
      · exact .inr (.inr h)
    rcases this with h | h | h
    · rw [h]
    · rw [h]; split <;> simp_all
    · rw [h]; split <;> simp_all
theorem rdT_bad {s : List UInt8} {W : List (List UInt8)} (hW : W = splL 32 s) (h4 : 4 ≤ W.length) (k : Nat) (hk : k < (W.drop 3).length) (h : rdO (W.drop 3)[k] = none) : rdT s = none := by
  unfold rdT
  simp only
  rw [← hW, if_neg (by omega), allO_none _ k hk h]
  split <;> simp_all
set_option maxRecDepth 100000 in
set_option maxHeartbeats 8000000 in
theorem ptran_any (s : List UInt8) (w : World) (hE : Errs w) (hM : Mxl w) (hL : s.length ≤ 1000000) (hA : ∀ c ∈ s, c.toNat < 128) (hmx : 1 < w.heap.size) : Calls Tryz.prog 35 #[.string (bL s)] w fun e w' => ∃ t ok, e = .returned (.tuple #[txV t, .bool ok]) ∧ TrP s t ok ∧ TxN w.heap.size w' t ∧ TxW t ∧ Fr none w w' := by
  have HA := Lib.hid hA
  have hew := hE.lt
  have HEW : Hid (6 < w.heap.size ∧ 7 < w.heap.size ∧ 1 < w.heap.size) := ⟨hew.1, hew.2, hmx⟩
  clear hA hew hmx
  go_enter Tryz.func35, Tryz.ntmps35
  go_upto_region 1 with (fail)
  generalize hW : w.alloc _ = w0
  have F0 : Fr none w w0 := hW ▸ (Fr.refl none w).alloc _
  have hR : TxB w0 w.heap.size tx0 := by rw [← hW]; exact blk_new _ _
  have hE0 := hE.frs F0 (by simp) (by simp)
  have hM0 := hM.frs F0 (by simp)
  clear hW hE hM
  go_wp2_with fail
  refine (split_any 32 s w0 hM0 hL).mono ?_
  rintro e w1 ⟨A, n, c, rfl, hn, hs, F1⟩
  have hR := hR.fr F1 (by simp)
  have hE1 := hE0.frs F1 (by simp) (by simp)
  have hM1 := hM0.frs F1 (by simp)
  have FF := F0.pure F1
  have hs0 := F0.size
  have hrl := hR.lt
  have hfz := txfrees hR
  obtain ⟨e0, e1, e2, e3⟩ := txcells hR
  simp only [tx0, List.length_nil] at e0 e1 e2 e3
  obtain ⟨W, hWs⟩ : ∃ W, W = splL 32 s := ⟨_, rfl⟩
  rw [← hWs] at hn hs
  have HN := Lib.hid hn
  have HWs := Lib.hid hWs
  clear hn hWs hE0 hM0 F0
  by_cases h4 : (n : Int) < 4
  · have H4 := Lib.hid h4
    go_wp2_with fail
    generalize hW5 : World.setCell _ _ _ = w9
    obtain ⟨R9, G9⟩ := txw4 hR tx0 w9 hW5.symm
    clear hW5 e0 e1 e2 e3
    obtain ⟨e0, e1, e2, e3⟩ := txcells R9
    try dsimp only at e0 e1 e2 e3
    refine bodyPost_ret (v := .tuple #[txV tx0, .bool false]) (by simp [results, Tryz.results35, go_sem, txV, tx0, e0, e1, e2, e3]) rfl ?_
    exact ⟨tx0, false, rfl, ⟨(fun e => by cases e), fun _ => rdT_few (by rw [← HWs.out, ← HN.out]; have := H4.out; omega)⟩, ⟨SlN.nil _ _ _, (fun x hx => by cases hx)⟩, ⟨wi0, wi0, wi0⟩, FF.new G9 (Nat.le_refl _)⟩
  · have H4 : Hid (4 ≤ n) := by unfold Hid; omega
    have hc4 : n ≤ c ∧ c ≤ 9223372036854775807 := by obtain ⟨A', n', c', e, _, hc, hm, _⟩ := hs; injection e with e1 e2 e3; subst e2 e3; exact ⟨hc, hm⟩
    have hq4 : 4 ≤ n := H4.out
    obtain ⟨q, off, hAq, hqD⟩ : ∃ q off, A = some ⟨q, off, none⟩ ∧ (w0.heap.size ≤ q ∧ q < w1.heap.size) := by
      obtain ⟨A', n', c', e, _, hc, hm, hx⟩ := hs
      injection e with e1 e2 e3
      subst e1 e2 e3
      obtain ⟨q, off, h1, h2, _⟩ := hx (by omega)
      exact ⟨q, off, h1, h2⟩
    subst hAq
    clear e0 e1 e2 e3 hfz hrl
    go_upto_region 6 with (fail)
    obtain ⟨fb, hfb0⟩ : ∃ fb, fb = w1.heap.size := ⟨_, rfl⟩
    rw [← hfb0]
    have b1 : (w1.alloc (.cells #[.slice (some ⟨q, off, none⟩) 3 c, .bool false] 121)).heap[fb]? = some (.cells #[.slice (some ⟨q, off, none⟩) 3 c, .bool false] 121 (0, 0)) := by rw [hfb0]; exact blk_new _ _
    generalize hW1 : w1.alloc _ = w2 at b1 ⊢
    have F2 : Fr none w1 w2 := hW1 ▸ (Fr.refl none w1).alloc _
    have s2 : w2.heap.size = fb + 1 := by rw [← hW1, hfb0]; exact Array.size_push _
    clear hW1
    generalize hW2 : w2.alloc _ = wn0
    have b2 : TxB wn0 (fb + 1) tx0 := by rw [← hW2, ← s2]; exact blk_new _ _
    have F3 : Fr none w2 wn0 := hW2 ▸ (Fr.refl none w2).alloc _
    clear hW2
    obtain ⟨tb, htb0⟩ : ∃ tb, tb = fb + 1 := ⟨_, rfl⟩
    rw [← htb0] at b2 ⊢
    have hft : fb < tb := by omega
    have hwf : w.heap.size < fb := by have := hR.lt; omega
    have hqf : q < fb := by omega
    have F23 := F2.pure F3
    have FF := FF.pure F23
    have hT : TxB wn0 tb ⟨0, 0, 0, [], none, 0⟩ := b2
    have hR := hR.fr F23 (by simp)
    have hE : Errs wn0 := hE1.frs F23 (by simp) (by simp)
    have hM : Mxl wn0 := hM1.frs F23 (by simp)
    have hF : FdB wn0 fb fb ((W.take 3).drop 0) false := by
      have hs2 := s2
      have hs3 := F3.size
      have hlen : (W.take 3).length = 3 := by rw [List.length_take]; have := HN.out; omega
      rw [List.drop_zero]
      refine ⟨by omega, some ⟨q, off, none⟩, c, by rw [hlen]; exact blk_fr b1 F3 (by simp), ?_⟩
      rw [hlen, List.map_take]
      exact (sld_take hs 3 (by omega)).keep (D' := Db fb fb) (fun j hj => ⟨⟨by omega, by omega⟩, by rw [F3.block j (by omega) (by simp), F2.block j (by omega) (by simp)]⟩)
    have hcells : ∀ k (hk : k < W.length), wn0.cell? ⟨q, off + k, none⟩ = some (.string (bL W[k])) := by
      intro k hk
      obtain ⟨A', n', c', e, _, hc, hm, hx⟩ := hs
      injection e with e1 e2 e3
      subst e2 e3
      obtain ⟨q', off', h1, h2, h3⟩ := hx (by omega)
      rw [← e1] at h1
      injection h1 with h1
      injection h1 with h1 h1'
      subst h1 h1'
      have := h3 k (.string (bL W[k])) (by simp [hk])
      exact F23.keep this (by simp)
    have hC := hcells
    have hqf' : some q ≠ some fb := fun e => by have := Option.some.inj e; omega
    have hqt' : some q ≠ some tb := fun e => by have := Option.some.inj e; omega
    have hnb1 : fb ≠ 6 ∧ tb ≠ 6 := by have := HEW.out.1; exact ⟨by omega, by omega⟩
    have hnb2 : fb ≠ 7 ∧ tb ≠ 7 := by have := HEW.out.2.1; exact ⟨by omega, by omega⟩
    have hnb3 : fb ≠ 1 ∧ tb ≠ 1 := by have := HEW.out.2.2; exact ⟨by omega, by omega⟩
    have HLn : Hid (∀ i, ∀ x ∈ (W.take 3).drop i, x.length ≤ 1000000 ∧ ∀ c ∈ x, c.toNat < 128) := fun i x hx => by
      have hx' := List.mem_of_mem_take (List.mem_of_mem_drop hx)
      rw [HWs.out] at hx'
      have := splL_mem hx'
      exact ⟨by omega, fun c hc => HA.out c (this.2 c hc)⟩
    have HLw : Hid (∀ x ∈ W, x.length ≤ 1000000 ∧ ∀ c ∈ x, c.toNat < 128) := fun x hx => by
      rw [HWs.out] at hx
      have := splL_mem hx
      exact ⟨by omega, fun c hc => HA.out c (this.2 c hc)⟩
    have hne : some fb ≠ some tb := fun e => by have := Option.some.inj e; omega
    have hne' : some tb ≠ some fb := fun e => by have := Option.some.inj e; omega
    have hnr : some fb ≠ some w.heap.size := fun e => by have := Option.some.inj e; omega
    have hnr' : some tb ≠ some w.heap.size := fun e => by have := Option.some.inj e; omega
    have hfb : w.heap.size ≤ fb := by omega
    have htb : w.heap.size ≤ tb := by omega
    have htb' : fb ≤ tb := by omega
    have Z1 : some fb ≠ some 6 := fun e => hnb1.1 (Option.some.inj e)
    have Z2 : some fb ≠ some 7 := fun e => hnb2.1 (Option.some.inj e)
    have Z3 : some tb ≠ some 6 := fun e => hnb1.2 (Option.some.inj e)
    have Z4 : some tb ≠ some 7 := fun e => hnb2.2 (Option.some.inj e)
    have ZM1 : some fb ≠ some 1 := fun e => hnb3.1 (Option.some.inj e)
    have ZM2 : some tb ≠ some 1 := fun e => hnb3.2 (Option.some.inj e)
    obtain ⟨wz, hwz⟩ : ∃ wz : World, wz = wn0 := ⟨_, rfl⟩
    have HWZ : Hid (Fr none wn0 wn0) := Fr.refl _ _
    clear hs b1 b2 s2 hfb0 htb0 F1 F2 F3 F23 hE1 hM1 hcells hqD hwz wz
    go_wp2_with fail
    refine (fdnum_any fb fb ((W.take 3).drop 0) false _ hF hE (fun x hx => (HLn.out 0 x hx).1) hnb1.1 hnb2.1).mono ?_
    rintro e wn1 ⟨n1, b1, rfl, hf, hN1, hW1, F⟩
    have hF2 : FdB wn1 fb fb ((W.take 3).drop 1) b1 := by rw [List.drop_drop] at hf; exact hf
    have hT2 := hT.fr F hne
    have hE2 := hE.frs F Z1 Z2
    have hM2 := hM.frs F ZM1
    have hR2 := hR.fr F hnr
    have FF2 := FF.new F hfb
    have hC2 := fun k hk => F.keep (hC k hk) hqf'
    have HN1 := Lib.hid hN1
    have HW1 := Lib.hid hW1
    clear hf hT hF hE hM hR FF hC F hN1 hW1
    have hT := hT2
    have hF := hF2
    have hE := hE2
    have hM := hM2
    have hR := hR2
    have FF := FF2
    have hC := hC2
    clear hT2 hF2 hE2 hM2 hR2 FF2 hC2
    have zc := TxB.free hT 0
    have ec : World.cell? wn1 ⟨tb, 0, none⟩ = _ := TxB.cell hT 0
    have elc := TxB.lt hT
    simp only [txC, List.getElem?_cons_zero, List.getElem?_cons_succ] at ec
    go_wp2_with fail
    generalize hW : World.setCell _ _ _ = wn2
    have G : Fr (some tb) wn1 wn2 := hW ▸ Fr.set1 wn1 ⟨tb, 0, none⟩ (.int .i64 n1)
    have hT2 : TxB wn2 tb ⟨n1, 0, 0, [], none, 0⟩ := by rw [← hW]; exact blk_set hT 0 (.int .i64 n1)
    have hF2 := hF.fr G hne' (fun g e => by rw [← Option.some.inj e]; exact htb')
    have hE2 := hE.frs G Z3 Z4
    have hM2 := hM.frs G ZM2
    have hR2 := hR.fr G hnr'
    have FF2 := FF.new G htb
    have hC2 := fun k hk => G.keep (hC k hk) hqt'
    clear hW G hT hF hE hM hR FF hC zc ec elc
    have hT := hT2
    have hF := hF2
    have hE := hE2
    have hM := hM2
    have hR := hR2
    have FF := FF2
    have hC := hC2
    clear hT2 hF2 hE2 hM2 hR2 FF2 hC2
    refine (fdnum_any fb fb ((W.take 3).drop 1) b1 _ hF hE (fun x hx => (HLn.out 1 x hx).1) hnb1.1 hnb2.1).mono ?_
    rintro e wn3 ⟨n2, b2, rfl, hf, hN2, hW2, F⟩
    have hF2 : FdB wn3 fb fb ((W.take 3).drop 2) b2 := by rw [List.drop_drop] at hf; exact hf
    have hT2 := hT.fr F hne
    have hE2 := hE.frs F Z1 Z2
    have hM2 := hM.frs F ZM1
    have hR2 := hR.fr F hnr
    have FF2 := FF.new F hfb
    have hC2 := fun k hk => F.keep (hC k hk) hqf'
    have HN2 := Lib.hid hN2
    have HW2 := Lib.hid hW2
    clear hf hT hF hE hM hR FF hC F hN2 hW2
    have hT := hT2
    have hF := hF2
    have hE := hE2
    have hM := hM2
    have hR := hR2
    have FF := FF2
    have hC := hC2
    clear hT2 hF2 hE2 hM2 hR2 FF2 hC2
    have zc := TxB.free hT 1
    have ec : World.cell? wn3 ⟨tb, 1, none⟩ = _ := TxB.cell hT 1
    have elc := TxB.lt hT
    simp only [txC, List.getElem?_cons_zero, List.getElem?_cons_succ] at ec
    go_wp2_with fail
    generalize hW : World.setCell _ _ _ = wn4
    have G : Fr (some tb) wn3 wn4 := hW ▸ Fr.set1 wn3 ⟨tb, 1, none⟩ (.int .i64 n2)
    have hT2 : TxB wn4 tb ⟨n1, n2, 0, [], none, 0⟩ := by rw [← hW]; exact blk_set hT 1 (.int .i64 n2)
    have hF2 := hF.fr G hne' (fun g e => by rw [← Option.some.inj e]; exact htb')
    have hE2 := hE.frs G Z3 Z4
    have hM2 := hM.frs G ZM2
    have hR2 := hR.fr G hnr'
    have FF2 := FF.new G htb
    have hC2 := fun k hk => G.keep (hC k hk) hqt'
    clear hW G hT hF hE hM hR FF hC zc ec elc
    have hT := hT2
    have hF := hF2
    have hE := hE2
    have hM := hM2
    have hR := hR2
    have FF := FF2
    have hC := hC2
    clear hT2 hF2 hE2 hM2 hR2 FF2 hC2
    refine (fdnum_any fb fb ((W.take 3).drop 2) b2 _ hF hE (fun x hx => (HLn.out 2 x hx).1) hnb1.1 hnb2.1).mono ?_
    rintro e wn5 ⟨n3, b3, rfl, hf, hN3, hW3, F⟩
    have hF2 : FdB wn5 fb fb ((W.take 3).drop 3) b3 := by rw [List.drop_drop] at hf; exact hf
    have hT2 := hT.fr F hne
    have hE2 := hE.frs F Z1 Z2
    have hM2 := hM.frs F ZM1
    have hR2 := hR.fr F hnr
    have FF2 := FF.new F hfb
    have hC2 := fun k hk => F.keep (hC k hk) hqf'
    have HN3 := Lib.hid hN3
    have HW3 := Lib.hid hW3
    clear hf hT hF hE hM hR FF hC F hN3 hW3
    have hT := hT2
    have hF := hF2
    have hE := hE2
    have hM := hM2
    have hR := hR2
    have FF := FF2
    have hC := hC2
    clear hT2 hF2 hE2 hM2 hR2 FF2 hC2
    have zc := TxB.free hT 2
    have ec : World.cell? wn5 ⟨tb, 2, none⟩ = _ := TxB.cell hT 2
    have elc := TxB.lt hT
    simp only [txC, List.getElem?_cons_zero, List.getElem?_cons_succ] at ec
    go_upto_region 9 with (fail)
    generalize hW : World.setCell _ _ _ = wn6
    have G : Fr (some tb) wn5 wn6 := hW ▸ Fr.set1 wn5 ⟨tb, 2, none⟩ (.int .i64 n3)
    have hT2 : TxB wn6 tb ⟨n1, n2, n3, [], none, 0⟩ := by rw [← hW]; exact blk_set hT 2 (.int .i64 n3)
    have hF2 := hF.fr G hne' (fun g e => by rw [← Option.some.inj e]; exact htb')
    have hE2 := hE.frs G Z3 Z4
    have hM2 := hM.frs G ZM2
    have hR2 := hR.fr G hnr'
    have FF2 := FF.new G htb
    have hC2 := fun k hk => G.keep (hC k hk) hqt'
    clear hW G hT hF hE hM hR FF hC zc ec elc
    have hT := hT2
    have hF := hF2
    have hE := hE2
    have hM := hM2
    have hR := hR2
    have FF := FF2
    have hC := hC2
    clear hT2 hF2 hE2 hM2 hR2 FF2 hC2
    go_wp2_with fail
    have HNM : Hid (W.length = (n - 3) + 3) := by unfold Hid; have := HN.out; omega
    have hmn : n - 3 ≤ 1000000 := by
      have h1 := splL_le 32 s
      have h2 := HN.out
      have h3 := congrArg List.length HWs.out
      omega
    generalize n - 3 = m at *
    have hts := hT.lt
    have HCW : Hid (∀ k (hk : k < W.length), wn6.cell? ⟨q, off + k, none⟩ = some (.string (bL W[k]))) := hC
    clear hC
    go_loopw [33] (fun s33 wr => ∃ (k : Nat) (l : List OpX) (Ap : Option Addr) (cp : Nat), k ≤ m ∧ s33 = .int .i64 (k : Int) ∧ Hid (allO ((W.drop 3).take k) = some (l.map (·.o))) ∧ Hid (l.length = k) ∧ TxB wr tb ⟨n1, n2, n3, l, Ap, cp⟩ ∧ FdB wr fb fb ((W.take 3).drop 3) b3 ∧ Errs wr ∧ Mxl wr ∧ TxB wr w.heap.size tx0 ∧ Fr none w wr ∧ Hid (∀ k (hk : k < W.length), wr.cell? ⟨q, off + k, none⟩ = some (.string (bL W[k]))) ∧ wr.ownsRow (tb + 1) 92 12 (.slice Ap l.length cp) l.length (flR opR l) ∧ Hid (∀ x ∈ l, OpW x.o ∧ SlD wr (Dx (tb + 1) wr (.slice Ap l.length cp)) 2 x.v (flR astR x.o.path) ∧ ∀ a ∈ x.o.path, Wi a.iss) ∧ Hid (tb < wr.heap.size)) (fun s33 _ => m - (intOf s33).toNat)
    case atStart => exact ⟨0, [], none, 0, Nat.zero_le _, rfl, rfl, rfl, hT, hF, hE, hM, hR, FF, HCW.out, World.ownsRow_nil _ _ _ _, (fun x hx => by cases hx), hts⟩
    case round =>
      clear hT hF hE hM hR FF HCW hts
      obtain ⟨k, l, Ap, cp, hk, rfl, HAL, HLK, hT, hF, hE, hM, hR, FF, HCW, own, HPs, HTS⟩ := hrel
      have htk : (k : Int) ≤ 1000000 := by omega
      by_cases hlt : k < m
      · have hk3 : 3 + k < W.length := by have := HNM.out; omega
        have hd3 : k < (W.drop 3).length := by rw [List.length_drop]; omega
        have hgd : (W.drop 3)[k] = W[3 + k] := List.getElem_drop ..
        have d0 := HCW.out (3 + k) hk3
        have HLx := Lib.hid (HLw.out _ (List.getElem_mem hk3))
        have HSt : Hid ((W.drop 3).take (k + 1) = (W.drop 3).take k ++ [W[3 + k]]) := by unfold Hid; rw [List.take_succ_eq_append_getElem hd3, hgd]
        have HBad : Hid (rdO W[3 + k] = none → rdT s = none) := fun h => rdT_bad HWs.out (by omega) k hd3 (by rw [hgd]; exact h)
        rw [show off + (3 + k) = off + 3 + k by omega] at d0
        obtain ⟨word, hword⟩ : ∃ word, word = W[3 + k] := ⟨_, rfl⟩
        rw [← hword] at d0 HLx HSt HBad
        clear hk3 hd3 hgd hword
        go_wp2_with fail
        refine (pread_any word wr hE hM HLx.out.1 HLx.out.2).mono ?_
        rintro e w5 ⟨o, Ao, co, ok, rfl, hRP, hSN, hOW, F5⟩
        have hR5 := hR.fr F5 (by simp)
        have hT5 := hT.fr F5 (by simp)
        cases ok with
        | false =>
          have HRT := Lib.hid (HBad.out (hRP.2 rfl))
          have hfz := txfrees hR5
          have hrl := hR5.lt
          obtain ⟨e0, e1, e2, e3⟩ := txcells hR5
          simp only [tx0, List.length_nil] at e0 e1 e2 e3
          have FF5 := FF.pure F5
          clear own HPs hT hF hE hM hT5 hRP
          unfold opL
          go_wp2_with fail
          generalize hW5 : World.setCell _ _ _ = w9
          obtain ⟨R9, G9⟩ := txw4 hR5 tx0 w9 hW5.symm
          clear hW5 e0 e1 e2 e3
          generalize hW6 : w9.alloc _ = w10
          have G10 : Fr none w9 w10 := hW6 ▸ (Fr.refl none w9).alloc _
          have R10 := R9.fr G10 (by simp)
          clear hW6
          obtain ⟨e0, e1, e2, e3⟩ := txcells R10
          try dsimp only at e0 e1 e2 e3
          refine bodyPost_ret (v := .tuple #[txV tx0, .bool false]) (by simp [results, Tryz.results35, go_sem, txV, tx0, e0, e1, e2, e3]) rfl ?_
          exact ⟨tx0, false, rfl, ⟨(fun e => by cases e), fun _ => HRT.out⟩, ⟨SlN.nil _ _ _, (fun x hx => by cases hx)⟩, ⟨wi0, wi0, wi0⟩, (FF5.new G9 (Nat.le_refl _)).pure G10⟩
        | true =>
          have HOp := Lib.hid (hRP.1 rfl)
          have HSN := Lib.hid hSN
          have HOW := Lib.hid hOW
          unfold opL
          go_upto_region 15 with (fail)
          generalize hW6 : w5.alloc _ = w6
          have F6 : Fr none w5 w6 := hW6 ▸ (Fr.refl none w5).alloc _
          have b9 : OpB w6 w5.heap.size o (.slice Ao o.path.length co) := by rw [← hW6]; exact blk_new _ _
          have hT6 := hT5.fr F6 (by simp)
          have F56 := F5.pure F6
          have hF6 : FdB w6 fb fb ((W.take 3).drop 3) b3 := hF.fr F56 (by simp) (fun g e => by cases e)
          have hE6 := hE.frs F56 (by simp) (by simp)
          have hM6 := hM.frs F56 (by simp)
          have hR6 := hR5.fr F6 (by simp)
          have FF6 := FF.pure F56
          have HC6 : Hid (∀ k (hk : k < W.length), w6.cell? ⟨q, off + k, none⟩ = some (.string (bL W[k]))) := fun k hk => F56.keep (HCW.out k hk) (by simp)
          have own6 := own_fr own F56 (by simp)
          have HSN6 : Hid (SlN astR wr.heap.size w6 (.slice Ao o.path.length co) o.path) := HSN.out.fr F6 (fun g e => by cases e)
          have hle : wr.heap.size ≤ w6.heap.size := F56.size
          have HPs6 : Hid (∀ x ∈ l, OpW x.o ∧ SlD w6 (Dx (tb + 1) w6 (.slice Ap l.length cp)) 2 x.v (flR astR x.o.path) ∧ ∀ a ∈ x.o.path, Wi a.iss) := fun x hx => ⟨(HPs.out x hx).1, (HPs.out x hx).2.1.keep (dx_fr F56 (fun g e => by cases e)), (HPs.out x hx).2.2⟩
          have HOB : Hid (∀ g, (Value.slice Ap l.length cp).ownBlock = some g → g < wr.heap.size) := fun g hg => (own.lt g hg).2
          have hts6 : tb < w6.heap.size := by have := HTS.out; omega
          have hlk : l.length ≤ 1000000 := by have := HLK.out; omega
          clear hW6 own HPs hT hF hE hM hR hT5 hR5 hRP hSN hOW F5 F6 FF HCW HSN
          obtain ⟨c0, c1, c2, c3, c4, c5, c6, c7, c8, c9, c10, c11⟩ := b9.cells
          obtain ⟨e0, e1, e2, e3⟩ := txcells hT6
          dsimp only at e0 e1 e2 e3
          have hfz := txfrees hT6
          have b9l := b9.lt
          go_wp2_with (at_builtin; refine app_lit eiOp rfl _ _ rfl (tb + 1) Ap l.length cp _ rfl own6 1 (opL o (.slice Ao o.path.length co)) _ _ rfl (by simp) rfl (opL_one _ _ _ _) (by omega) (by unfold maxLen; omega) (by omega) ?_; intro A7 c7' w7 own7 F7 nb7; have hT7 := hT6.fr F7 (own_ne own6 (by omega)); have hfz7 := txfrees hT7; obtain ⟨g0, g1, g2, g3⟩ := txcells hT7; dsimp only at g0 g1 g2 g3; have hl7 := hT7.lt)
          have ho7 : ∀ g, (Value.slice Ap l.length cp).ownBlock = some g → tb + 1 ≤ g := fun g hg => own_blk_ge own6 g hg
          go_roundw
          case rel =>
            generalize hW9 : World.setCell _ _ _ = w9
            have G : Fr (some tb) w7 w9 := hW9 ▸ Fr.set1 w7 ⟨tb, 3, none⟩ (.slice A7 (l.length + 1) c7')
            have hT9 : TxB w9 tb ⟨n1, n2, n3, l ++ [⟨o, Ao, co⟩], A7, c7'⟩ := by
              rw [← hW9]
              have := blk_set hT7 3 (.slice A7 (l.length + 1) c7')
              unfold TxB txC TxX.v
              simp only [List.length_append, List.length_cons, List.length_nil]
              exact this
            clear hW9
            have hF9 := (hF6.fr F7 (own_ne own6 (by omega)) (fun g e => by have := ho7 g e; omega)).fr G hne' (fun g e => by rw [← Option.some.inj e]; exact htb')
            have hE9 := (hE6.frs F7 (own_ne own6 (by have := HEW.out.1; omega)) (own_ne own6 (by have := HEW.out.2.1; omega))).frs G Z3 Z4
            have hM9 := (hM6.frs F7 (own_ne own6 (by have := HEW.out.2.2; omega))).frs G ZM2
            have hR9 := (hR6.fr F7 (own_ne own6 (by omega))).fr G hnr'
            have FF9 := (FF6.own F7 (fun g e => by have := ho7 g e; omega)).new G htb
            have own9 := own_fr own7 G (fun g hg => by injection hg with hg; omega)
            refine ⟨k + 1, l ++ [⟨o, Ao, co⟩], A7, c7', by omega, by go_num, ?_, ?_, hT9, hF9, hE9, hM9, hR9, FF9, ?_, ?_, ?_, ?_⟩
            · unfold Hid
              rw [HSt.out, allO_snoc _ _ _ _ HAL.out HOp.out, List.map_append]
              rfl
            · have := HLK.out
              unfold Hid
              rw [List.length_append]
              simp only [List.length_cons, List.length_nil]
              omega
            · exact fun j hj => G.keep (F7.keep (HC6.out j hj) (fun e => own_ne (g := q) own6 (by omega) e.symm)) hqt'
            · rw [List.length_append]
              simp only [List.length_cons, List.length_nil]
              rw [flR_snoc]
              exact own9
            · rw [List.length_append]
              simp only [List.length_cons, List.length_nil]
              have hdx : ∀ z : Nat, Dx (tb + 1) w6 (.slice Ap l.length cp) z → Dx (tb + 1) w9 (.slice A7 (l.length + 1) c7') z ∧ w9.heap[z]? = w6.heap[z]? := fun z hz => by
                obtain ⟨h1, h2⟩ := dx_app F7 nb7 z hz
                obtain ⟨h3, h4⟩ := dx_fr G (fun g hg => by injection hg with hg; omega) z h1
                exact ⟨h3, h4.trans h2⟩
              intro y hy
              rcases List.mem_append.1 hy with hy | hy
              · exact ⟨(HPs6.out y hy).1, (HPs6.out y hy).2.1.keep hdx, (HPs6.out y hy).2.2⟩
              · rw [List.mem_singleton.1 hy]
                refine ⟨HOW.out, ?_, HSN6.out.2⟩
                have h1 := HSN6.out.1.keep (dn_dx (B := tb + 1) (by have := HTS.out; omega) HOB.out)
                exact h1.keep hdx
            · have := hT9.lt
              exact this
          case measure => simp [intOf]; omega
      · obtain rfl : k = m := by omega
        have hF' := hF
        obtain ⟨_, A1, c1, hb1, _⟩ := hF'
        have f1 : World.cell? wr ⟨fb, 1, none⟩ = some (.bool b3) := by rw [blk_cell hb1]; rfl
        have fl := hF.lt
        clear hb1
        obtain ⟨e0, e1, e2, e3⟩ := txcells hT
        dsimp only at e0 e1 e2 e3
        obtain ⟨g0, g1, g2, g3⟩ := txcells hR
        simp only [tx0, List.length_nil] at g0 g1 g2 g3
        have hfz := txfrees hR
        have hrl := hR.lt
        have htl := hT.lt
        have HRT : Hid (TrP s ⟨n1, n2, n3, l, Ap, cp⟩ (!b3)) := rdT_ok HWs.out (by have := HNM.out; have := H4.out; have := HN.out; omega) HN1.out HN2.out HN3.out (by have := HAL.out; rwa [List.take_of_length_le (by rw [List.length_drop]; have := HNM.out; omega)] at this) Ap cp
        have HN9 : Hid (TxN (tb + 1) wr ⟨n1, n2, n3, l, Ap, cp⟩) := ⟨SlN.of_own (R := opR) own (fun x hx => (HPs.out x hx).1), fun x hx => ⟨(HPs.out x hx).2.1.keep dx_dn, (HPs.out x hx).2.2⟩⟩
        clear own HPs
        go_upto_region 17 with (fail)
        go_region
        go_wp2_with fail
        clear e0 e1 e2 e3 g0 g1 g2 g3
        generalize hW5 : World.drew _ = w9
        obtain ⟨R9, G9⟩ := txw4d hR ⟨n1, n2, n3, l, Ap, cp⟩ w9 hW5.symm
        clear hW5
        obtain ⟨e0, e1, e2, e3⟩ := txcells R9
        try dsimp only at e0 e1 e2 e3
        refine bodyPost_ret (v := .tuple #[txV ⟨n1, n2, n3, l, Ap, cp⟩, .bool (!b3)]) (by simp [results, Tryz.results35, go_sem, txV, e0, e1, e2, e3]) rfl ?_
        exact ⟨⟨n1, n2, n3, l, Ap, cp⟩, !b3, rfl, HRT.out, (HN9.out.fr G9 (fun g hg => by injection hg with hg; omega)).mono (by omega), ⟨HW1.out, HW2.out, HW3.out⟩, FF.new G9 (Nat.le_refl _)⟩
end Go.Proofs.YtonhhnedfjonoaaGreatDoor

/- The table that strconv.Itoa reads, carried along; Itoa at every int. -/
namespace Go.Proofs.YtonhhnedfjonoaaGreatDoor
open Go.RowKit

/-- strconv's table of the powers of ten reads as it should. -/
def Tab (w : World) : Prop := Lib.TabIs Tryz.prog w "internal/strconv.uint64pow10" .u64 Lib.pow10Tab
theorem tab_named : Tryz.prog.globalNamed "internal/strconv.uint64pow10" = some 0 := by kernel_rfl
theorem Tab.cells {w : World} (h : Tab w) : 0 < w.heap.size ∧ ∃ cs t fz, w.heap[0]? = some (.cells cs t fz) ∧ cs.size = 20 := by
  unfold Tab Lib.TabIs World.var? at h
  rw [tab_named] at h
  simp only [Option.bind_some] at h
  have hlt : 0 < w.heap.size := by
    rcases Nat.lt_or_ge 0 w.heap.size with h' | h'
    · exact h'
    · rw [Array.getElem?_eq_none h'] at h; cases h
  refine ⟨hlt, ?_⟩
  generalize w.heap[0]? = o at h
  cases o with
  | none => cases h
  | some o =>
    cases o with
    | cells cs t fz =>
      refine ⟨cs, t, fz, rfl, ?_⟩
      simp at h
      rw [h]
      simp [Lib.pow10Tab]
    | _ => simp at h
theorem Tab.frs {r : Option Nat} {w w' : World} (h : Tab w) (f : Fr r w w') (hr : r ≠ some 0) : Tab w' := by
  have hlt := h.cells.1
  unfold Tab Lib.TabIs World.var? at h ⊢
  rw [tab_named] at h ⊢
  simp only [Option.bind_some] at h ⊢
  rw [f.block _ hlt (fun e => hr e.symm)]
  exact h
theorem Tab.fr {w w' : World} (h : Tab w) (f : Fr none w w') : Tab w' := h.frs f (by simp)
theorem Tab.new {w w0 w' : World} {g : Nat} (h : Tab w0) (hg : w0.heap.size ≤ g) (f : Fr (some g) w w') (k : Tab w) : Tab w' := k.frs f (by have := h.cells.1; simp; omega)
theorem Tab.src {w w' : World} {T : TypeId} {g : Nat} (h : Tab w) (s : SrcR T w g) (f : Fr (some g) w w') : Tab w' := by
  refine h.frs f ?_
  intro e
  injection e with e
  subst e
  obtain ⟨_, cs, t, fz, h1, h2⟩ := h.cells
  obtain ⟨v, l, k, h3, _⟩ := s
  rw [h3] at h1
  injection h1 with h1
  injection h1 with h1 _ _
  rw [← h1] at h2
  simp at h2

theorem fr_grow (w : World) (k : Nat) (os : Array Obj) : Fr none w (Sort.grow (w.drewN k) os) :=
  ⟨rfl, rfl, rfl, by simp [Sort.grow, World.drewN], fun i hi _ => by
    rw [Sort.heap_grow_old _ _ (by simpa [World.drewN] using hi)]
    rfl⟩
theorem itoa_any (n : Int) (hn : Wi n) (w : World) (hT : Tab w) : Calls Tryz.prog 52 #[.int .i64 n] w fun e w' => ∃ S : ByteArray, e = .returned (.string S) ∧ S = ⟨(Lib.itoa n).toArray⟩ ∧ S.size ≤ 21 ∧ Fr none w w' := by
  refine (Tryz.strconv_Itoa n hn.1 hn.2 w hT).mono ?_
  rintro e w' ⟨rfl, k, os, rfl⟩
  refine ⟨_, rfl, rfl, ?_, fr_grow _ _ _⟩
  have := Lib.itoa_length_le n hn.1 hn.2
  simpa [ByteArray.size] using this
end Go.Proofs.YtonhhnedfjonoaaGreatDoor

/- Walks: strconv.FormatUint at base 10. -/
namespace Go.Proofs.YtonhhnedfjonoaaGreatDoor
open Go.RowKit Go.Sort

end Go.Proofs.YtonhhnedfjonoaaGreatDoor

/- Walks: the program's Native, asset (text); a page's numbers. -/
namespace Go.Proofs.YtonhhnedfjonoaaGreatDoor
open Go.RowKit

theorem Tab.below {B : Nat} {w w' : World} (h : Tab w) (f : Below B w w') (hb : 0 < B) : Tab w' := by
  unfold Tab Lib.TabIs World.var? at h ⊢
  rw [tab_named] at h ⊢
  simp only [Option.bind_some] at h ⊢
  rw [f.block _ hb]
  exact h
theorem pnat_any (a : Ast) (w : World) : Calls Tryz.prog 55 #[.agg #[.string (bL a.code), .int .i64 a.iss]] w fun e w' => e = .returned (.bool (decide (a = nat))) ∧ Fr none w w' := by
  go_enter Tryz.func55, Tryz.ntmps55
  go_wp2_with fail
  all_goals
    go_ret
    refine ⟨ret_bool ?_, (Fr.refl _ _).alloc _⟩
    obtain ⟨c, i⟩ := a
    simp_all [nat, bL_tl]
theorem itoaL_any (n : Int) (hn : Wi n) (w : World) (hT : Tab w) : Calls Tryz.prog 52 #[.int .i64 n] w fun e w' => e = .returned (.string (bL (Lib.itoa n))) ∧ Fr none w w' := by
  refine (itoa_any n hn w hT).mono ?_
  rintro e w' ⟨S, rfl, rfl, _, F⟩
  exact ⟨rfl, F⟩
theorem itoaL_len {n : Int} (hn : Wi n) : (Lib.itoa n).length ≤ 21 := Lib.itoa_length_le n hn.1 hn.2
set_option maxRecDepth 100000 in
theorem past_any (a : Ast) (ha : Wi a.iss) (hc : a.code.length ≤ 1000000) (w : World) (hT : Tab w) : Calls Tryz.prog 29 #[.agg #[.string (bL a.code), .int .i64 a.iss]] w fun e w' => e = .returned (.string (bL (astT a))) ∧ Fr none w w' := by
  go_enter Tryz.func29, Tryz.ntmps29
  go_upto_region 1 with (fail)
  generalize hW : w.alloc _ = w1
  have F1 : Fr none w w1 := hW ▸ (Fr.refl none w).alloc _
  have b1 : w1.heap[w.heap.size]? = some (.cells #[.string (bL a.code), .int .i64 a.iss] 36 (0, 0)) := by rw [← hW]; exact blk_new _ _
  clear hW
  have c0 : w1.cell? ⟨w.heap.size, 0, none⟩ = some (.string (bL a.code)) := by rw [blk_cell b1]; rfl
  have c1 : w1.cell? ⟨w.heap.size, 1, none⟩ = some (.int .i64 a.iss) := by rw [blk_cell b1]; rfl
  go_wp2_with fail
  refine (pnat_any a w1).mono ?_
  rintro e w2 ⟨rfl, F2⟩
  have F02 := F1.pure F2
  by_cases hn : a = nat
  · rw [decide_eq_true hn]
    have HX : Hid (astT a = [45]) := by unfold Hid astT; rw [if_pos hn]
    clear hn
    go_wp2_with fail
    go_ret
    exact ⟨by rw [HX.out]; rfl, F02⟩
  · rw [decide_eq_false hn]
    have HX : Hid (astT a = a.code ++ Lib.itoa a.iss) := by unfold Hid astT; rw [if_neg hn]
    clear hn c0 c1
    have b2 := blk_fr b1 F2 (by simp)
    go_upto_region 3 with (fail)
    have HS : Hid (∀ W, Fr none w2 W → (W.cell? ⟨w.heap.size, 0, none⟩ = some (.string (bL a.code)) ∧ W.cell? ⟨w.heap.size, 1, none⟩ = some (.int .i64 a.iss)) ∧ Fr none w2 W) := fun W F => ⟨⟨by rw [blk_cell (blk_fr b2 F (by simp))]; rfl, by rw [blk_cell (blk_fr b2 F (by simp))]; rfl⟩, F⟩
    have hl := itoaL_len ha
    have hs1 : (bL a.code).size ≤ 1000000 := by rw [bL_size]; exact hc
    have hs2 : (bL (Lib.itoa a.iss)).size ≤ 21 := by rw [bL_size]; exact hl
    have hsum : ¬ 9223372036854775807 < (bL a.code).size + (bL (Lib.itoa a.iss)).size := by omega
    have happ : bL a.code ++ bL (Lib.itoa a.iss) = bL (astT a) := by rw [bL_app, HX.out]
    refine wp_region_held_drew (S := fun W => (W.cell? ⟨w.heap.size, 0, none⟩ = some (.string (bL a.code)) ∧ W.cell? ⟨w.heap.size, 1, none⟩ = some (.int .i64 a.iss)) ∧ Fr none w2 W) (by kernel_rfl) (HS.out _ (Fr.refl _ _).drew) (fun hH0 => ?_)
    refine wpAnyH_take (i := 0) (v := ?_) rfl (by kernel_rfl) (by kernel_rfl) (by kernel_rfl) (fun _ _ _ h => h) (Or.inl ⟨by rfl, ?_⟩) (by assumption) ?_
    rotate_left
    · (intro W hW; (try dsimp only at hW); go_simp; try with_reducible rfl)
    try simp only [Act.put, List.setIfInBounds_toArray, List.set_cons_zero, List.set_cons_succ, List.getElem_toArray, List.getElem_cons_zero, List.getElem_cons_succ]
    refine wpAnyH_take (i := 1) (v := ?_) rfl (by kernel_rfl) (by kernel_rfl) (by kernel_rfl) (fun _ _ _ h => h) (Or.inl ⟨by rfl, ?_⟩) (by assumption) ?_
    rotate_left
    · (intro W hW; (try dsimp only at hW); go_simp; try with_reducible rfl)
    try simp only [Act.put, List.setIfInBounds_toArray, List.set_cons_zero, List.set_cons_succ, List.getElem_toArray, List.getElem_cons_zero, List.getElem_cons_succ]
    refine wpAnyH_take (i := 2) (v := ?_) rfl (by kernel_rfl) (by kernel_rfl) (by kernel_rfl) (fun _ _ _ h => h) (Or.inl ⟨by rfl, ?_⟩) (by assumption) ?_
    rotate_left
    · (intro W hW; (try dsimp only at hW); go_simp; try with_reducible rfl)
    try simp only [Act.put, List.setIfInBounds_toArray, List.set_cons_zero, List.set_cons_succ, List.getElem_toArray, List.getElem_cons_zero, List.getElem_cons_succ]
    refine wpAnyH_take (i := 3) (v := ?_) rfl (by kernel_rfl) (by kernel_rfl) (by kernel_rfl) (fun _ _ _ h => h) (Or.inl ⟨by rfl, ?_⟩) (by assumption) ?_
    rotate_left
    · (intro W hW; (try dsimp only at hW); go_simp; try with_reducible rfl)
    try simp only [Act.put, List.setIfInBounds_toArray, List.set_cons_zero, List.set_cons_succ, List.getElem_toArray, List.getElem_cons_zero, List.getElem_cons_succ]
    have G0 : Fr none w2 w2.drew := (Fr.refl _ _).drew
    generalize w2.drew = wN at *
    refine wpAnyH_ready (rs := [4]) (by kernel_rfl) (by simp) ?_
    refine AllReadyH.cons rfl (fun K hK => ?_) AllReadyH.nil
    simp only [List.getElem_toArray, List.getElem_cons_zero, List.getElem_cons_succ]
    go_simp
    go_at_call 52
    refine (itoaL_any a.iss ha _ ((hT.fr F02).fr G0)).mono ?_
    rintro e w3 ⟨rfl, F3⟩
    have G3 := G0.pure F3
    refine hK.out _ _ (HS.out _ G3) (fun hH9 => ?_)
    clear hK K hH0
    have hH0 := hH9
    clear hH9
    try simp only [Act.put, List.setIfInBounds_toArray, List.set_cons_zero, List.set_cons_succ, List.getElem_toArray, List.getElem_cons_zero, List.getElem_cons_succ]
    refine wpAnyH_take (i := 5) (v := ?_) rfl (by kernel_rfl) (by kernel_rfl) (by kernel_rfl) (fun _ _ _ h => h) (Or.inl ⟨by rfl, ?_⟩) (by assumption) ?_
    rotate_left
    · (intro W hW; (try dsimp only at hW); go_simp; try with_reducible rfl)
    try simp only [Act.put, List.setIfInBounds_toArray, List.set_cons_zero, List.set_cons_succ, List.getElem_toArray, List.getElem_cons_zero, List.getElem_cons_succ]
    refine wpAnyH_take (i := 6) (v := ?_) rfl (by kernel_rfl) (by kernel_rfl) (by kernel_rfl) (fun _ _ _ h => h) (Or.inl ⟨by rfl, ?_⟩) (by assumption) ?_
    rotate_left
    · (intro W hW; (try dsimp only at hW); go_simp; try with_reducible rfl)
    try simp only [Act.put, List.setIfInBounds_toArray, List.set_cons_zero, List.set_cons_succ, List.getElem_toArray, List.getElem_cons_zero, List.getElem_cons_succ]
    refine wpAnyH_done (by kernel_rfl) ?_ _
    go_wp2_with fail
    go_ret
    exact ⟨rfl, F02.pure G3⟩
end Go.Proofs.YtonhhnedfjonoaaGreatDoor

/- Walks: strings.Join at one byte; sums of strings. -/
namespace Go.Proofs.YtonhhnedfjonoaaGreatDoor
open Go.RowKit

theorem eiStrL : EInfo Tryz.prog 82 9 1 16 := EInfo.mk_ (z := .string ⟨#[]⟩) (by kernel_rfl) (by kernel_rfl) rfl (by omega)
theorem padd (c : UInt8) (x : List UInt8) (hx : x.length ≤ 1000000) (w : World) : (Op.stringOp .add ⟨#[c]⟩ (bL x)).run Tryz.prog w = .ok (.string (bL (c :: x))) w := by
  have h := run_string_add_sum (P := Tryz.prog) w ⟨#[c]⟩ (bL x) (by rw [bL_size]; have : (⟨#[c]⟩ : ByteArray).size = 1 := rfl; omega)
  rw [h, show (⟨#[c]⟩ : ByteArray) = bL [c] from rfl, bL_app]
  rfl
theorem ljoin_any (c : UInt8) (l : List (List UInt8)) (v : Value) (D : Nat → Prop) (w : World) (h : SlD w D 1 v (l.map fun x => Value.string (bL x))) (hD : ∀ b, D b → b < w.heap.size) (hN : l.length ≤ 1000000) (hlen : (Lib.join l [c]).length ≤ 1000000000) :
    Calls Tryz.prog 58 #[v, .string ⟨#[c]⟩] w fun e w' => e = .returned (.string (bL (Lib.join l [c]))) ∧ Fr none w w' := by
  obtain ⟨A, n, k, rfl, hl, hnc, hm, hx⟩ := h
  simp only [List.length_map, Nat.mul_one] at hl
  subst hl
  have hmap : (l.map bL).map (·.data.toList) = l := by
    rw [List.map_map]
    exact (List.map_congr_left (fun x _ => bL_list x)).trans (List.map_id l)
  rcases Nat.eq_zero_or_pos l.length with h0 | h0
  · have hl0 : l = [] := List.eq_nil_of_length_eq_zero h0
    subst hl0
    refine (Tryz.strings_Join_none A k ⟨#[c]⟩ w).mono ?_
    rintro e w' ⟨rfl, rfl⟩
    exact ⟨rfl, Fr.refl _ _⟩
  · obtain ⟨b, off, rfl, hb, hc⟩ := hx h0
    have main := Tryz.strings_Join b off k (l.map bL) ⟨#[c]⟩ w (fun j x hj => hc j _ (by
      rw [List.getElem?_map] at hj ⊢
      cases hq : l[j]? with
      | none => rw [hq] at hj; cases hj
      | some y => rw [hq] at hj; injection hj with hj; rw [← hj]; rfl)) (hD b hb) (by simp; omega) (by simpa using hnc) (by rw [hmap]; show (Lib.join l [c]).length ≤ _; omega)
    rw [hmap, List.length_map] at main
    refine main.mono ?_
    rintro e w' ⟨rfl, F⟩
    exact ⟨rfl, Fr.of_below F⟩
theorem join_le (sep : List UInt8) (hs : sep.length ≤ 1) (m : Nat) : ∀ l : List (List UInt8), (∀ x ∈ l, x.length ≤ m) → (Lib.join l sep).length ≤ l.length * (m + 1)
  | [], _ => by rw [Lib.join_nil]; simp
  | x :: r, h => by
    rw [Lib.join_cons, List.length_append, List.length_cons]
    have h1 := h x (by simp)
    have : (Lib.joinTail sep r).length ≤ r.length * (m + 1) := by
      have key : ∀ r : List (List UInt8), (∀ y ∈ r, y.length ≤ m) → (Lib.joinTail sep r).length ≤ r.length * (m + 1) := by
        intro r
        induction r with
        | nil => intro _; simp [Lib.joinTail]
        | cons y t ih =>
          intro hr
          have h2 := ih (fun z hz => hr z (by simp [hz]))
          have h3 := hr y (by simp)
          unfold Lib.joinTail at h2 ⊢
          simp only [List.map_cons, List.flatten_cons, List.length_append, List.length_cons]
          rw [Nat.succ_mul]
          omega
      exact key r (fun y hy => h y (by simp [hy]))
    rw [Nat.succ_mul]
    omega
end Go.Proofs.YtonhhnedfjonoaaGreatDoor

/- Walks: the program's Asset (is an asset valid?), for every text of a code. -/
namespace Go.Proofs.YtonhhnedfjonoaaGreatDoor
open Go.RowKit

theorem bL_get (l : List UInt8) (k : Nat) (h : k < (bL l).size) : (bL l)[k]'h = l[k]'(by rw [bL_size] at h; exact h) := by
  rfl
set_option maxRecDepth 100000 in
set_option maxHeartbeats 2000000 in
theorem pvast_any (a : Ast) (w : World) : Calls Tryz.prog 115 #[.agg #[.string (bL a.code), .int .i64 a.iss]] w fun e w' => e = .returned (.bool (vAst a)) ∧ Fr none w w' := by
  obtain ⟨V, hV⟩ : ∃ V, V = vAst a := ⟨_, rfl⟩
  rw [← hV]
  have HV := Lib.hid hV
  clear hV
  go_enter Tryz.func115, Tryz.ntmps115
  go_upto_region 1 with (fail)
  generalize hW : w.alloc _ = w1
  have F1 : Fr none w w1 := hW ▸ (Fr.refl none w).alloc _
  have b1 : w1.heap[w.heap.size]? = some (.cells #[.string (bL a.code), .int .i64 a.iss] 36 (0, 0)) := by rw [← hW]; exact blk_new _ _
  clear hW
  have c0 : w1.cell? ⟨w.heap.size, 0, none⟩ = some (.string (bL a.code)) := by rw [blk_cell b1]; rfl
  have c1 : w1.cell? ⟨w.heap.size, 1, none⟩ = some (.int .i64 a.iss) := by rw [blk_cell b1]; rfl
  go_wp2_with fail
  refine (pnat_any a w1).mono ?_
  rintro e w2 ⟨rfl, F2⟩
  have FF := F1.pure F2
  by_cases hn : a = nat
  · rw [decide_eq_true hn]
    have HX : Hid (V = true) := by unfold Hid; rw [HV.out]; unfold vAst; rw [decide_eq_true hn]; rfl
    clear hn
    go_wp2_with fail
    go_ret
    exact ⟨ret_b HX.out.symm, FF⟩
  · rw [decide_eq_false hn]
    have HV2 : Hid (V = (decide (1 ≤ a.code.length ∧ a.code.length ≤ 4 ∧ 1 ≤ a.iss ∧ a.iss ≤ 1000) && a.code.all fun c => decide (65 ≤ c.toNat ∧ c.toNat ≤ 90))) := by unfold Hid; rw [HV.out]; unfold vAst; rw [decide_eq_false hn]; rfl
    clear hn c0 c1 HV
    have b2 := blk_fr b1 F2 (by simp)
    have c0 : w2.cell? ⟨w.heap.size, 0, none⟩ = some (.string (bL a.code)) := by rw [blk_cell b2]; rfl
    have hsz0 : Hid ((bL a.code).size = a.code.length) := bL_size _
    go_wp2_with fail
    clear c0
    go_loopw [] (fun wr => ∃ k : Nat, k ≤ a.code.length ∧ wr = w2.iter (bL a.code) k ∧ Hid (∀ c ∈ a.code.take k, 65 ≤ c.toNat ∧ c.toNat ≤ 90)) (fun wr => a.code.length - wr.iterPos w2.heap.size)
    case atStart => exact ⟨0, by omega, rfl, Lib.hid (by simp)⟩
    case round =>
      obtain ⟨k, hk, rfl, HA⟩ := hrel
      have FI : Fr none w2 (w2.iter (bL a.code) k) := (Fr.refl none w2).alloc _
      by_cases hlt : k < a.code.length
      · have hks : k < (bL a.code).size := by rw [hsz0.out]; exact hlt
        have hge := bL_get a.code k hks
        have HBad : Hid (¬ (65 ≤ (a.code[k]).toNat ∧ (a.code[k]).toNat ≤ 90) → V = false) := fun h => by
          rw [HV2.out]
          have : (a.code.all fun c => decide (65 ≤ c.toNat ∧ c.toNat ≤ 90)) = false := by
            rw [List.all_eq_false]
            exact ⟨a.code[k], List.getElem_mem hlt, by simpa using h⟩
          rw [this, Bool.and_false]
        have HGood : Hid ((65 ≤ (a.code[k]).toNat ∧ (a.code[k]).toNat ≤ 90) → ∀ c ∈ a.code.take (k + 1), 65 ≤ c.toNat ∧ c.toNat ≤ 90) := fun h c hc => by
          rw [List.take_succ_eq_append_getElem hlt] at hc
          rcases List.mem_append.1 hc with hc | hc
          · exact HA.out c hc
          · obtain rfl := List.mem_singleton.1 hc
            exact h
        by_cases ha : (a.code[k]).toNat < 128
        · have hnx := fun ty => run_next_ascii (P := Tryz.prog) w2 (bL a.code) k ty hks (by rw [hge]; exact ha)
          rw [hge] at hnx
          generalize a.code[k] = x at *
          by_cases h1 : 65 ≤ x.toNat
          · by_cases h2 : x.toNat ≤ 90
            · have HX := Lib.hid (HGood.out ⟨h1, h2⟩)
              go_wp2_with fail
              go_roundw
              case rel => exact ⟨k + 1, hlt, rfl, HX⟩
              case measure => simp; omega
            · have HX := Lib.hid (HBad.out (fun e => h2 e.2))
              have FF := FF.pure ((Fr.refl none w2).alloc (.stringIter (bL a.code) (k + 1)))
              go_wp2_with fail
              go_ret
              exact ⟨ret_b HX.out.symm, FF⟩
          · have HX := Lib.hid (HBad.out (fun e => h1 e.1))
            have FF := FF.pure ((Fr.refl none w2).alloc (.stringIter (bL a.code) (k + 1)))
            go_wp2_with fail
            go_ret
            exact ⟨ret_b HX.out.symm, FF⟩
        · have hnx := fun ty => run_next_any (P := Tryz.prog) w2 (bL a.code) k ty hks
          have hd := (decode_high (bL a.code) k hks (by rw [hge]; omega)).1
          have hd2 := decode_le (bL a.code) k
          have HX := Lib.hid (HBad.out (fun e => by omega))
          have FF := FF.pure ((Fr.refl none w2).alloc (.stringIter (bL a.code) (k + (Utf8.decode (bL a.code) k).2)))
          generalize (Utf8.decode (bL a.code) k) = D at *
          obtain ⟨r, d⟩ := D
          simp only at hd hd2 hnx FF
          clear hge ha HBad HGood hks
          go_wp2_with fail
          go_ret
          exact ⟨ret_b HX.out.symm, FF⟩
      · obtain rfl : k = a.code.length := by omega
        have hnx := fun ty => run_next_end (P := Tryz.prog) w2 (bL a.code) a.code.length ty (by rw [hsz0.out]; omega)
        have hall : (a.code.all fun c => decide (65 ≤ c.toNat ∧ c.toNat ≤ 90)) = true := by
          rw [List.all_eq_true]
          intro c hc
          rw [decide_eq_true_iff]
          exact HA.out c (by rw [List.take_length]; exact hc)
        have HV3 : Hid (V = decide (1 ≤ a.code.length ∧ a.code.length ≤ 4 ∧ 1 ≤ a.iss ∧ a.iss ≤ 1000)) := by unfold Hid; rw [HV2.out, hall, Bool.and_true]
        have b3 := blk_fr b2 FI (by simp)
        have c0 : (w2.iter (bL a.code) a.code.length).cell? ⟨w.heap.size, 0, none⟩ = some (.string (bL a.code)) := by rw [blk_cell b3]; rfl
        have c1 : (w2.iter (bL a.code) a.code.length).cell? ⟨w.heap.size, 1, none⟩ = some (.int .i64 a.iss) := by rw [blk_cell b3]; rfl
        have FF := FF.pure FI
        have hsz := hsz0.out
        clear hall HA HV2 b3 FI hlt hk
        by_cases h1 : 1 ≤ a.code.length
        · by_cases h2 : a.code.length ≤ 4
          · by_cases h3 : 1 ≤ a.iss
            · by_cases h4 : a.iss ≤ 1000
              · have HX : Hid (V = true) := by unfold Hid; rw [HV3.out]; exact decide_eq_true ⟨h1, h2, h3, h4⟩
                go_wp2_with fail
                go_ret
                exact ⟨ret_b HX.out.symm, FF⟩
              · have HX : Hid (V = false) := by unfold Hid; rw [HV3.out]; exact decide_eq_false (fun e => h4 e.2.2.2)
                go_wp2_with fail
                go_ret
                exact ⟨ret_b HX.out.symm, FF⟩
            · have HX : Hid (V = false) := by unfold Hid; rw [HV3.out]; exact decide_eq_false (fun e => h3 e.2.2.1)
              go_wp2_with fail
              go_ret
              exact ⟨ret_b HX.out.symm, FF⟩
          · have HX : Hid (V = false) := by unfold Hid; rw [HV3.out]; exact decide_eq_false (fun e => h2 e.2.1)
            go_wp2_with fail
            go_ret
            exact ⟨ret_b HX.out.symm, FF⟩
        · have HX : Hid (V = false) := by unfold Hid; rw [HV3.out]; exact decide_eq_false (fun e => h1 e.1)
          go_wp2_with fail
          go_ret
          exact ⟨ret_b HX.out.symm, FF⟩
end Go.Proofs.YtonhhnedfjonoaaGreatDoor

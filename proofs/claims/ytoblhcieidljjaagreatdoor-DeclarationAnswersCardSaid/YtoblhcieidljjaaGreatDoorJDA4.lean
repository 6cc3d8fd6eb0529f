/- Some texts of this claim, joined: contracts of the functions that it reaches, and plain laws. -/
import Derived.Test.YtoblhcieidljjaaGreatDoorProg
import Derived.Test.YtoblhcieidljjaaGreatDoorShelf
import Derived.Lib.ItoaLen
import Derived.Test.YtoblhcieidljjaaGreatDoorJDA1
import Derived.Test.YtoblhcieidljjaaGreatDoorJDA3
import Derived.Test.YtoblhcieidljjaaGreatDoorJDA6
import Derived.Test.YtoblhcieidljjaaGreatDoorJDA12
import Derived.Test.YtoblhcieidljjaaGreatDoorJDA9
import Derived.Lib.ConvBytes
import Derived.Lib.IndexBytes
import Derived.Lib.Bytealg
import Derived.StillTailTactics
import Derived.Lib.AtoiErrMem

set_option linter.unusedSimpArgs false
set_option linter.unusedVariables false
/- The table that strconv.Itoa reads, carried along; Itoa at every int. -/
namespace Go.Proofs.YtoblhcieidljjaaGreatDoor
open Go.RowKit

/-- strconv's table of the powers of ten reads as it should. -/
def Tab (w : World) : Prop := Lib.TabIs Tryz.prog w "internal/strconv.uint64pow10" .u64 Lib.pow10Tab
theorem tab_named : Tryz.prog.globalNamed "internal/strconv.uint64pow10" = some 1 := by kernel_rfl
theorem Tab.cells {w : World} (h : Tab w) : 1 < w.heap.size ∧ ∃ cs t fz, w.heap[1]? = some (.cells cs t fz) ∧ cs.size = 20 := by
  unfold Tab Lib.TabIs World.var? at h
  rw [tab_named] at h
  simp only [Option.bind_some] at h
  have hlt : 1 < w.heap.size := by
    rcases Nat.lt_or_ge 1 w.heap.size with h' | h'
    · exact h'
    · rw [Array.getElem?_eq_none h'] at h; cases h
  refine ⟨hlt, ?_⟩
  generalize w.heap[1]? = o at h
  cases o with
  | none => cases h
  | some o =>
    cases o with
    | cells cs t fz =>
      refine ⟨cs, t, fz, rfl, ?_⟩
      simp at h
      rw [h]
      simp [Lib.pow10Tab]
    | _ => simp at h
theorem Tab.frs {r : Option Nat} {w w' : World} (h : Tab w) (f : Fr r w w') (hr : r ≠ some 1) : Tab w' := by
  have hlt := h.cells.1
  unfold Tab Lib.TabIs World.var? at h ⊢
  rw [tab_named] at h ⊢
  simp only [Option.bind_some] at h ⊢
  rw [f.block _ hlt (fun e => hr e.symm)]
  exact h
theorem Tab.fr {w w' : World} (h : Tab w) (f : Fr none w w') : Tab w' := h.frs f (by simp)
theorem Tab.new {w w0 w' : World} {g : Nat} (h : Tab w0) (hg : w0.heap.size ≤ g) (f : Fr (some g) w w') (k : Tab w) : Tab w' := k.frs f (by have := h.cells.1; simp; omega)
theorem Tab.src {w w' : World} {T : TypeId} {g : Nat} (h : Tab w) (s : SrcR T w g) (f : Fr (some g) w w') : Tab w' := by
  refine h.frs f ?_
  intro e
  injection e with e
  subst e
  obtain ⟨_, cs, t, fz, h1, h2⟩ := h.cells
  obtain ⟨v, l, k, h3, _⟩ := s
  rw [h3] at h1
  injection h1 with h1
  injection h1 with h1 _ _
  rw [← h1] at h2
  simp at h2

theorem fr_grow (w : World) (k : Nat) (os : Array Obj) : Fr none w (Sort.grow (w.drewN k) os) :=
  ⟨rfl, rfl, rfl, by simp [Sort.grow, World.drewN], fun i hi _ => by
    rw [Sort.heap_grow_old _ _ (by simpa [World.drewN] using hi)]
    rfl⟩
theorem itoa_any (n : Int) (hn : Wi n) (w : World) (hT : Tab w) : Calls Tryz.prog 61 #[.int .i64 n] w fun e w' => ∃ S : ByteArray, e = .returned (.string S) ∧ S = ⟨(Lib.itoa n).toArray⟩ ∧ S.size ≤ 21 ∧ Fr none w w' := by
  refine (Tryz.strconv_Itoa n hn.1 hn.2 w hT).mono ?_
  rintro e w' ⟨rfl, k, os, rfl⟩
  refine ⟨_, rfl, rfl, ?_, fr_grow _ _ _⟩
  have := Lib.itoa_length_le n hn.1 hn.2
  simpa [ByteArray.size] using this
end Go.Proofs.YtoblhcieidljjaaGreatDoor

/- Walks: notation.write, Text; the reference's text, Text. -/
namespace Go.Proofs.YtoblhcieidljjaaGreatDoor
open Go.RowKit

/-- Bytes as a string. -/
def bs (l : List UInt8) : ByteArray := ⟨l.toArray⟩
def strV (l : List UInt8) : Value := .string (bs l)
theorem bs_list (l : List UInt8) : (bs l).data.toList = l := by simp [bs]
theorem bs_size (l : List UInt8) : (bs l).size = l.length := by simp [bs, ByteArray.size]
theorem bs_app (a b : List UInt8) : bs a ++ bs b = bs (a ++ b) := by
  apply ByteArray.ext
  simp [bs]
theorem bs_inj {a b : List UInt8} (h : bs a = bs b) : a = b := by
  have := congrArg (fun x : ByteArray => x.data.toList) h
  simpa [bs_list] using this
theorem joinB_bs (l : List (List UInt8)) (sep : List UInt8) : joinB (l.map bs) sep = Lib.join l sep := by
  unfold joinB
  rw [List.map_map]
  congr 1
  conv => rhs; rw [← List.map_id l]
  exact List.map_congr_left fun x _ => bs_list x
/-- What a call that returns a text leaves. -/
def TxtE (l : List UInt8) (B : Nat) (w : World) (e : Ending) (w' : World) : Prop := ∃ S : ByteArray, e = .returned (.string S) ∧ S = bs l ∧ S.size ≤ B ∧ Fr none w w'

set_option maxHeartbeats 2000000 in
set_option maxRecDepth 100000 in
theorem write_any (d : Nat) : ∀ (t : Tr) (v : Value) (w : World) (r : Option Nat), t.dep ≤ d → t.size ≤ 1073741824 → TrR w r v t → Tab w →
    Calls Tryz.prog 121 #[v] w (TxtE (txT t) 34359738368 w) := by
  induction d with
  | zero =>
    intro t v w r hd
    cases t
    simp [Tr.dep] at hd
  | succ d ih =>
    intro t v w r hd hsz h hT
    obtain ⟨thr, nodes, inner⟩ := t
    have hwi := h.wi
    simp only [wiT] at hwi
    have htl := txT_len (.mk thr nodes inner) h.wi
    obtain ⟨A, c, A', c', rfl, hthr, hn, hn2, hi2, hi3, hi4, hcell⟩ := h.open_
    have hjl : (Lib.join (wdT nodes inner) [44, 32]).length ≤ 34359738368 := by
      have h1 := wdT_lens nodes inner hwi.2.1 hwi.2.2
      simp only [Tr.size] at hsz
      omega
    have hfin : bs (txT (.mk thr nodes inner)) = bs (Lib.itoa thr) ++ ⟨#[32, 111, 102, 32, 40]⟩ ++ bs (Lib.join (wdT nodes inner) [44, 32]) ++ ⟨#[41]⟩ := by
      apply ByteArray.ext
      simp [bs, txT, wdT]
    have hfl : (bs (txT (.mk thr nodes inner))).size ≤ 34359738368 := by
      rw [bs_size]
      omega
    have HJ := Lib.hid hjl
    have HF := Lib.hid hfin
    have HFL := Lib.hid hfl
    have hszi : sizeL inner ≤ 1073741824 := by simp only [Tr.size] at hsz; omega
    have hdi : depL inner ≤ d := by simp only [Tr.dep] at hd; omega
    clear hjl hfin hfl htl hsz hd
    go_enter Tryz.func121, Tryz.ntmps121
    go_wp2_with fail
    generalize hW : w.alloc _ = w1
    have F1 : Fr none w w1 := hW ▸ (Fr.refl _ _).alloc _
    have B1 : Hid (w1.heap[w.heap.size]? = some (.cells #[.int .i64 thr, .slice A nodes.length c, .slice A' inner.length c'] 31 (0, 0))) := by rw [← hW]; exact blk_new _ _
    clear hW
    have hn' := hn.fr (F1.mono (r := r))
    have T1 := hT.fr F1
    have R1 := blk_cell B1.out
    have hlt1 : w.heap.size < w1.heap.size := blk_lt B1.out
    go_loopw [3, 11] (fun s i wr => ∃ (j : Nat) (B : Option Addr) (b : Nat), j ≤ nodes.length ∧ i = .int .i64 j ∧ s = .slice B j b ∧ Fr none w1 wr ∧ wr.ownsRow w1.heap.size 9 1 (.slice B j b) j ((ndW (nodes.take j)).map strV)) (fun _ i _ => nodes.length - (intOf i).toNat)
    case atStart => exact ⟨0, none, 0, Nat.zero_le _, rfl, rfl, Fr.refl _ _, World.ownsRow_nil _ _ _ _⟩
    case round =>
      obtain ⟨j, B, b, hj, rfl, rfl, F, own⟩ := hrel
      have hz := F.size
      have Tr := T1.fr F
      by_cases hlt : j < nodes.length
      · obtain ⟨A0, c0, e0, q1, q2, hc1⟩ := hn'.open_
        injection e0 with e1 _ e3
        subst e1 e3
        obtain ⟨gb, off, rfl, hb, hbr, hcc⟩ := hc1 (by omega)
        have hck := F.keep (hcc j hlt) (by simp)
        have hw := hwi.2.1 nodes[j] (List.getElem_mem _)
        have hst := ndW_take nodes j hlt
        obtain ⟨x, hx⟩ : ∃ x, x = nodes[j] := ⟨_, rfl⟩
        rw [← hx] at hck hw hst
        have HST := Lib.hid hst
        have HWI := Lib.hid hwi
        clear hcc hc1 hx hst hwi R1
        go_wp2_with (first | (go_at_call 61; refine (itoa_any x hw _ Tr).mono ?_; rintro e w2 ⟨S, rfl, hS, hSs, F2⟩; have own2 := own_fr own F2 (by simp); have hz2 := F2.size; have HS := Lib.hid hS; clear hS) | (at_builtin; refine app_lit eiStr rfl _ _ rfl w1.heap.size B j b _ rfl own2 1 [.string S] _ _ rfl (by simp) rfl (by simp [Value.oneCell']) (by omega) (by unfold maxLen; omega) (by omega) ?_; intro A5 c5 w5 own5 F5 bl5))
        have og := own_blk_ge own2
        go_roundw
        case rel => exact ⟨j + 1, A5, c5, by omega, by go_num, rfl, (F.pure F2).own F5 og, by rw [HST.out, List.map_append]; simpa [strV, bs, HS.out] using own5⟩
        case measure => simp [intOf]; omega
      · obtain rfl : j = nodes.length := by omega
        rw [List.take_length] at own
        have R2 := blk_cell (blk_fr B1.out F (by simp))
        have HWI := Lib.hid hwi
        clear R1 hn' hwi
        go_wp2_with fail
        obtain ⟨wo, rfl⟩ : ∃ wo : World, wo = wr := ⟨_, rfl⟩
        go_loopw [3, 24] (fun s i wl => ∃ (k : Nat) (B : Option Addr) (b : Nat), k ≤ inner.length ∧ i = .int .i64 k ∧ s = .slice B (nodes.length + k) b ∧ Fr none w1 wl ∧ wl.ownsRow w1.heap.size 9 1 (.slice B (nodes.length + k) b) (nodes.length + k) ((ndW nodes ++ txL (inner.take k)).map strV)) (fun _ i _ => inner.length - (intOf i).toNat)
        case atStart => exact ⟨0, B, b, Nat.zero_le _, rfl, rfl, F, by simpa [txL] using own⟩
        case round =>
          clear F own R2 hz
          obtain ⟨k, B, b, hk, rfl, rfl, F, own⟩ := hrel
          have hz := F.size
          have Tr := T1.fr F
          by_cases hlt : k < inner.length
          · obtain ⟨gb, off, rfl, hb, hbr, hc⟩ := hcell (by omega)
            obtain ⟨x, y, z, g0, g1, g2, gt⟩ := hc k hlt
            obtain ⟨th, A1, n1, c1, A2, n2, c2, rfl, rfl, rfl⟩ := gt.shape
            have F3 := F1.pure F
            have g0' := F3.keep g0 (by simp)
            have g1' := F3.keep g1 (by simp)
            have g2' := F3.keep g2 (by simp)
            have hdd : (inner[k]).dep ≤ d := by have := depL_get inner k hlt; omega
            have hss : (inner[k]).size ≤ 1073741824 := by have := sizeL_get inner k hlt; omega
            have hst := txL_take inner k hlt
            have gt' := (gt.fr (F3.mono (r := r)))
            have HST := Lib.hid hst
            clear g0 g1 g2 hst hc
            go_wp2_with (first | (go_at_call 121; refine (ih inner[k] _ _ r hdd hss (gt'.fr ((Fr.refl _ _).alloc _)) (Tr.fr ((Fr.refl _ _).alloc _))).mono ?_; rintro e w2 ⟨S, rfl, hS, hSs, F2⟩; have own2 := own_fr (own.alloc _) F2 (by simp); have hz2 := F2.size; have HS := Lib.hid hS; clear hS) | (at_builtin; refine app_lit eiStr rfl _ _ rfl w1.heap.size B (nodes.length + k) b _ rfl own2 1 [.string S] _ _ rfl (by simp) rfl (by simp [Value.oneCell']) (by omega) (by unfold maxLen; omega) (by simp at hz2; omega) ?_; intro A5 c5 w5 own5 F5 bl5))
            have og := own_blk_ge own2
            go_roundw
            case rel => exact ⟨k + 1, A5, c5, by omega, by go_num, rfl, ((F.alloc _).pure F2).own F5 og, by rw [HST.out, ← List.append_assoc, List.map_append, ← Nat.add_assoc]; simpa [strV, bs, HS.out] using own5⟩
            case measure => simp [intOf]; omega
          · obtain rfl : k = inner.length := by omega
            rw [List.take_length] at own
            have R2 := blk_cell (blk_fr B1.out F (by simp))
            have hsl : SlD wr (Dm wr none) 1 (.slice B (nodes.length + inner.length) b) (((wdT nodes inner).map bs).map Value.string) := by
              have := SlD.of_own (r := none) own (by simp)
              rw [List.map_map]
              exact this
            have HSL := Lib.hid hsl
            have hl1 : ((wdT nodes inner).map bs).length ≤ 140737488355328 := by
              rw [List.length_map]
              unfold wdT
              rw [List.length_append, ndW_len, txL_len]
              omega
            have hl2 : (joinB ((wdT nodes inner).map bs) [44, 32]).length ≤ 140737488355328 := by
              rw [joinB_bs]
              have := HJ.out
              omega
            have HL1 := Lib.hid hl1
            have HL2 := Lib.hid hl2
            clear hsl hl1 hl2 own
            go_wp2_with (first | (go_at_call 61; refine (itoa_any thr hthr _ Tr).mono ?_; rintro e w2 ⟨S, rfl, hS, hSs, F2⟩; have HS := Lib.hid hS; clear hS; have HSL2 := Lib.hid (HSL.out.keep (fr_dm F2))) | (go_at_call 160; refine (join_any ((wdT nodes inner).map bs) ⟨#[44, 32]⟩ _ _ HSL2.out HL1.out HL2.out).mono ?_; rintro e w3 ⟨X, rfl, hX, hXs, F4⟩; have HX := Lib.hid hX; clear hX))
            go_ret
            refine ⟨_, rfl, ?_, ?_, ((F1.pure F).pure F2).pure F4⟩
            · rw [HF.out, HS.out, HX.out]
              simp only [joinB_bs]
              rfl
            · have := HFL.out
              rw [HF.out] at this
              rw [HS.out, HX.out]
              simp only [joinB_bs]
              exact this

/-- What Text returns. -/
def textT (t : Tr) : List UInt8 := if validE t = 0 then txT t else [63]
theorem text3_any (t : Tr) (v : Value) (w : World) (r : Option Nat) (hsz : t.size ≤ 1073741000) (h : TrR w r v t) (hT : Tab w) :
    Calls Tryz.prog 77 #[v] w (TxtE (textT t) 34359738368 w) := by
  obtain ⟨th, A1, n1, c1, A2, n2, c2, rfl⟩ := TrD.shape h
  have h1 := h.fr ((Fr.refl r w).alloc (.cells #[.int .i64 th, .slice A1 n1 c1, .slice A2 n2 c2] 31))
  have T1 := hT.fr ((Fr.refl none w).alloc (.cells #[.int .i64 th, .slice A1 n1 c1, .slice A2 n2 c2] 31))
  by_cases hv : validE t = 0
  · have hv0 : (validE t != 0) = false := by rw [bne_eq_false_iff_eq]; exact hv
    have HE : Hid (textT t = txT t) := by unfold Hid textT; rw [if_pos hv]
    clear hv
    go_enter Tryz.func77, Tryz.ntmps77
    go_wp2_with fail
    generalize hW : w.alloc _ = w1 at *
    have B1 : Hid (w1.heap[w.heap.size]? = some (.cells #[.int .i64 th, .slice A1 n1 c1, .slice A2 n2 c2] 31 (0, 0))) := by rw [← hW]; exact blk_new _ _
    have F1 : Fr none w w1 := hW ▸ (Fr.refl _ _).alloc _
    clear hW
    have R1 := blk_cell B1.out
    refine (validT_any t _ _ r hsz h1).mono ?_
    rintro e w2 ⟨rfl, F2⟩
    have R2 := blk_cell (blk_fr B1.out F2 (by simp))
    clear R1
    go_wp2_with fail
    refine (write_any t.dep t _ _ r (Nat.le_refl _) (by omega) (h1.fr (F2.mono (r := r))) (T1.fr F2)).mono ?_
    rintro e w3 ⟨S, rfl, hS, hSs, F3⟩
    have HS := Lib.hid hS
    clear hS
    go_wp2_with fail
    go_ret
    exact ⟨S, rfl, by rw [HE.out]; exact HS.out, hSs, (F1.pure F2).pure F3⟩
  · have hv0 : (validE t != 0) = true := by rw [bne_iff_ne]; exact hv
    have HE : Hid (textT t = [63]) := by unfold Hid textT; rw [if_neg hv]
    clear hv
    go_enter Tryz.func77, Tryz.ntmps77
    go_wp2_with fail
    generalize hW : w.alloc _ = w1 at *
    have F1 : Fr none w w1 := hW ▸ (Fr.refl _ _).alloc _
    clear hW
    refine (validT_any t _ _ r hsz h1).mono ?_
    rintro e w2 ⟨rfl, F2⟩
    go_wp2_with fail
    go_ret
    exact ⟨_, rfl, by rw [HE.out]; rfl, by decide, F1.pure F2⟩

/-- A text up to some of its entries. -/
def pref (thr : Int) (nodes : List Int) (inner : List Tr) : List UInt8 := Lib.itoa thr ++ [32, 111, 102, 32, 40] ++ Lib.join (wdT nodes inner) [44, 32]
theorem pref_len {thr : Int} {nodes : List Int} {inner : List Tr} (h0 : Wi thr) (h1 : ∀ x ∈ nodes, Wi x) (h2 : wiL inner) (h3 : nodes.length + inner.length + sizeL inner ≤ 1073741824) : (bs (pref thr nodes inner)).size ≤ 34359738368 := by
  have h4 := wdT_lens nodes inner h1 h2
  have h5 := itoa_len h0
  rw [bs_size]
  simp only [pref, List.length_append, List.length_cons, List.length_nil]
  omega
theorem pref_node (thr : Int) (nodes : List Int) (j : Nat) (hj : j < nodes.length) : bs (pref thr (nodes.take (j + 1)) []) = bs (pref thr (nodes.take j) []) ++ bs (if j = 0 then [] else [44, 32]) ++ bs (Lib.itoa nodes[j]) := by
  rw [bs_app, bs_app]
  congr 1
  unfold pref wdT
  rw [ndW_take nodes j hj]
  simp only [txL, List.append_nil]
  rw [join_snoc]
  by_cases h0 : j = 0
  · subst h0; simp [ndW]
  · have h1 : ndW (nodes.take j) ≠ [] := fun e => by
      have := congrArg List.length e
      rw [ndW_len, List.length_take] at this
      simp only [List.length_nil] at this
      omega
    rw [if_neg h1, if_neg h0]
    simp
theorem pref_inner (thr : Int) (nodes : List Int) (inner : List Tr) (k : Nat) (hk : k < inner.length) : bs (pref thr nodes (inner.take (k + 1))) = bs (pref thr nodes (inner.take k)) ++ bs (if nodes.length + k = 0 then [] else [44, 32]) ++ bs (txT inner[k]) := by
  rw [bs_app, bs_app]
  congr 1
  unfold pref wdT
  rw [txL_take inner k hk, ← List.append_assoc, join_snoc]
  by_cases h0 : nodes.length + k = 0
  · have h1 : ndW nodes ++ txL (inner.take k) = [] := by
      apply List.eq_nil_of_length_eq_zero
      rw [List.length_append, ndW_len, txL_len, List.length_take]
      omega
    rw [if_pos h1, if_pos h0]
    simp
  · have h1 : ndW nodes ++ txL (inner.take k) ≠ [] := fun e => by
      have := congrArg List.length e
      rw [List.length_append, ndW_len, txL_len, List.length_take] at this
      simp only [List.length_nil] at this
      omega
    rw [if_neg h1, if_neg h0]
    simp
theorem bs_44 : (⟨#[44, 32]⟩ : ByteArray) = bs [44, 32] := rfl

set_option maxHeartbeats 2000000 in
set_option maxRecDepth 100000 in
theorem rtext_any (d : Nat) : ∀ (t : Tr) (v : Value) (w : World) (r : Option Nat), t.dep ≤ d → t.size ≤ 1073741824 → TrR w r v t → Tab w →
    Calls Tryz.prog 113 #[v] w (TxtE (txT t) 34359738368 w) := by
  induction d with
  | zero =>
    intro t v w r hd
    cases t
    simp [Tr.dep] at hd
  | succ d ih =>
    intro t v w r hd hsz h hT
    obtain ⟨thr, nodes, inner⟩ := t
    have hwi := h.wi
    simp only [wiT] at hwi
    have htl := txT_len (.mk thr nodes inner) h.wi
    obtain ⟨A, c, A', c', rfl, hthr, hn, hn2, hi2, hi3, hi4, hcell⟩ := h.open_
    have hfin : bs (txT (.mk thr nodes inner)) = bs (pref thr nodes inner) ++ ⟨#[41]⟩ := by
      apply ByteArray.ext
      simp [bs, txT, pref, wdT]
    have hfl : (bs (txT (.mk thr nodes inner))).size ≤ 34359738368 := by
      rw [bs_size]
      omega
    have HF := Lib.hid hfin
    have HFL := Lib.hid hfl
    have hszn : nodes.length + inner.length + sizeL inner ≤ 1073741824 := by simp only [Tr.size] at hsz; omega
    have HSZ := Lib.hid hszn
    have hszi : sizeL inner ≤ 1073741824 := by omega
    have hdi : depL inner ≤ d := by simp only [Tr.dep] at hd; omega
    have hp0 : bs (pref thr [] []) = bs (Lib.itoa thr) ++ ⟨#[32, 111, 102, 32, 40]⟩ := by
      apply ByteArray.ext
      simp [bs, pref, wdT, ndW, txL, Lib.join_nil]
    have HP0 := Lib.hid hp0
    have HWI := Lib.hid hwi
    clear hfin hfl htl hsz hd hszn hp0 hwi
    go_enter Tryz.func113, Tryz.ntmps113
    go_wp2_with fail
    generalize hW : w.alloc _ = w0
    have F1 : Fr none w w0 := hW ▸ (Fr.refl _ _).alloc _
    have B1 : Hid (w0.heap[w.heap.size]? = some (.cells #[.int .i64 thr, .slice A nodes.length c, .slice A' inner.length c'] 31 (0, 0))) := by rw [← hW]; exact blk_new _ _
    clear hW
    have T1 := hT.fr F1
    have R1 := blk_cell B1.out
    refine (itoa_any thr hthr _ T1).mono ?_
    rintro e w1 ⟨S0, rfl, hS0, hSs0, F01⟩
    have B2 : Hid (w1.heap[w.heap.size]? = some (.cells #[.int .i64 thr, .slice A nodes.length c, .slice A' inner.length c'] 31 (0, 0))) := blk_fr B1.out F01 (by simp)
    have F1 := F1.pure F01
    have hn' := hn.fr (F1.mono (r := r))
    have T1 := T1.fr F01
    have R1 := blk_cell B2.out
    have hlt1 : w.heap.size < w1.heap.size := blk_lt B2.out
    have HS0 := Lib.hid hS0
    clear hS0 B1 F01
    go_wp2_with fail
    go_loopw [3, 4, 16] (fun s p i wr => ∃ (j : Nat) (O P : ByteArray), j ≤ nodes.length ∧ i = .int .i64 j ∧ s = .string O ∧ p = .string P ∧ O.size ≤ 34359738368 ∧ P.size ≤ 2 ∧ Hid (O = bs (pref thr (nodes.take j) [])) ∧ Hid (P = bs (if j = 0 then [] else [44, 32])) ∧ Fr none w1 wr) (fun _ _ i _ => nodes.length - (intOf i).toNat)
    case atStart => exact ⟨0, _, _, Nat.zero_le _, rfl, rfl, rfl, by have h5 : (⟨#[32, 111, 102, 32, 40]⟩ : ByteArray).size = 5 := rfl; rw [ByteArray.size_append, h5]; omega, by decide, Lib.hid (by rw [HS0.out]; exact HP0.out.symm), Lib.hid rfl, Fr.refl _ _⟩
    case round =>
      obtain ⟨j, O, P, hj, rfl, rfl, rfl, hO, hP, HO, HP, F⟩ := hrel
      have Tr := T1.fr F
      by_cases hlt : j < nodes.length
      · obtain ⟨A0, c0, e0, q1, q2, hc1⟩ := hn'.open_
        injection e0 with e1 _ e3
        subst e1 e3
        obtain ⟨gb, off, rfl, hb, hbr, hcc⟩ := hc1 (by omega)
        have hck := F.keep (hcc j hlt) (by simp)
        have hw := HWI.out.2.1 nodes[j] (List.getElem_mem _)
        have hst := pref_node thr nodes j hlt
        have hsz' : (bs (pref thr (nodes.take (j + 1)) [])).size ≤ 34359738368 := pref_len HWI.out.1 (fun x hx => HWI.out.2.1 x (List.mem_of_mem_take hx)) (by simp only [wiL]) (by
          have := HSZ.out
          simp only [List.length_take, List.length_nil, sizeL]
          omega)
        obtain ⟨x, hx⟩ : ∃ x, x = nodes[j] := ⟨_, rfl⟩
        rw [← hx] at hck hw hst
        have HST := Lib.hid hst
        have HSZ' := Lib.hid hsz'
        clear hcc hc1 hx hst R1 hsz'
        go_wp2_with (go_at_call 61; refine (itoa_any x hw _ Tr).mono ?_; rintro e w2 ⟨S, rfl, hS, hSs, F2⟩; have HS := Lib.hid hS; clear hS)
        go_roundw
        case rel =>
          refine ⟨j + 1, _, _, by omega, by go_num, rfl, rfl, ?_, by decide, ?_, ?_, F.pure F2⟩
          · have := HSZ'.out
            rw [HST.out, ← HO.out, ← HP.out] at this
            rw [HS.out]
            exact this
          · refine Lib.hid ?_
            rw [HST.out, ← HO.out, ← HP.out, HS.out]
            rfl
          · exact Lib.hid (by rw [if_neg (by omega)]; rfl)
        case measure => simp [intOf]; omega
      · obtain rfl : j = nodes.length := by omega
        have R2 := blk_cell (blk_fr B2.out F (by simp))
        clear R1 hn'
        go_wp2_with fail
        obtain ⟨wo, rfl⟩ : ∃ wo : World, wo = wr := ⟨_, rfl⟩
        go_loopw [3, 4, 30] (fun s p i wl => ∃ (k : Nat) (O P : ByteArray), k ≤ inner.length ∧ i = .int .i64 k ∧ s = .string O ∧ p = .string P ∧ O.size ≤ 34359738368 ∧ P.size ≤ 2 ∧ Hid (O = bs (pref thr nodes (inner.take k))) ∧ Hid (P = bs (if nodes.length + k = 0 then [] else [44, 32])) ∧ Fr none w1 wl) (fun _ _ i _ => inner.length - (intOf i).toNat)
        case atStart => exact ⟨0, O, P, Nat.zero_le _, rfl, rfl, rfl, hO, hP, Lib.hid (by rw [HO.out, List.take_length]; rfl), Lib.hid (by rw [HP.out]; rfl), F⟩
        case round =>
          clear F R2 hO hP HO HP Tr
          obtain ⟨k, O, P, hk, rfl, rfl, rfl, hO, hP, HO, HP, F⟩ := hrel
          have Tr := T1.fr F
          by_cases hlt : k < inner.length
          · obtain ⟨gb, off, rfl, hb, hbr, hc⟩ := hcell (by omega)
            obtain ⟨x, y, z, g0, g1, g2, gt⟩ := hc k hlt
            obtain ⟨th, A1, n1, c1, A2, n2, c2, rfl, rfl, rfl⟩ := gt.shape
            have F3 := F1.pure F
            have g0' := F3.keep g0 (by simp)
            have g1' := F3.keep g1 (by simp)
            have g2' := F3.keep g2 (by simp)
            have hdd : (inner[k]).dep ≤ d := by have := depL_get inner k hlt; omega
            have hss : (inner[k]).size ≤ 1073741824 := by have := sizeL_get inner k hlt; omega
            have hst := pref_inner thr nodes inner k hlt
            have hsz' : (bs (pref thr nodes (inner.take (k + 1)))).size ≤ 34359738368 := pref_len HWI.out.1 HWI.out.2.1 (wiL_take _ _ HWI.out.2.2) (by
              have h1 := HSZ.out
              have h2 := sizeL_take_le inner (k + 1)
              simp only [List.length_take]
              omega)
            have gt' := (gt.fr (F3.mono (r := r)))
            have HST := Lib.hid hst
            have HSZ' := Lib.hid hsz'
            clear g0 g1 g2 hst hc hsz'
            go_wp2_with (go_at_call 113; refine (ih inner[k] _ _ r hdd hss (gt'.fr ((Fr.refl _ _).alloc _)) (Tr.fr ((Fr.refl _ _).alloc _))).mono ?_; rintro e w2 ⟨S, rfl, hS, hSs, F2⟩; have HS := Lib.hid hS; clear hS)
            go_roundw
            case rel =>
              refine ⟨k + 1, _, _, by omega, by go_num, rfl, rfl, ?_, by decide, ?_, ?_, (F.alloc _).pure F2⟩
              · have := HSZ'.out
                rw [HST.out, ← HO.out, ← HP.out] at this
                rw [HS.out]
                exact this
              · refine Lib.hid ?_
                rw [HST.out, ← HO.out, ← HP.out, HS.out]
              · exact Lib.hid (by rw [if_neg (by omega)]; rfl)
            case measure => simp [intOf]; omega
          · obtain rfl : k = inner.length := by omega
            go_wp2_with fail
            go_ret
            refine ⟨_, rfl, ?_, ?_, F1.pure F⟩
            · rw [HF.out, HO.out, List.take_length]
            · have := HFL.out
              rw [HF.out] at this
              rw [HO.out, List.take_length]
              exact this
theorem rtext3_any (t : Tr) (v : Value) (w : World) (r : Option Nat) (hsz : t.size ≤ 1073741000) (h : TrR w r v t) (hT : Tab w) :
    Calls Tryz.prog 62 #[v] w (TxtE (textT t) 34359738368 w) := by
  obtain ⟨th, A1, n1, c1, A2, n2, c2, rfl⟩ := TrD.shape h
  have h1 := h.fr ((Fr.refl r w).alloc (.cells #[.int .i64 th, .slice A1 n1 c1, .slice A2 n2 c2] 31))
  have T1 := hT.fr ((Fr.refl none w).alloc (.cells #[.int .i64 th, .slice A1 n1 c1, .slice A2 n2 c2] 31))
  by_cases hv : validE t = 0
  · have hv0 : (validE t != 0) = false := by rw [bne_eq_false_iff_eq]; exact hv
    have HE : Hid (textT t = txT t) := by unfold Hid textT; rw [if_pos hv]
    clear hv
    go_enter Tryz.func62, Tryz.ntmps62
    go_wp2_with fail
    generalize hW : w.alloc _ = w1 at *
    have B1 : Hid (w1.heap[w.heap.size]? = some (.cells #[.int .i64 th, .slice A1 n1 c1, .slice A2 n2 c2] 31 (0, 0))) := by rw [← hW]; exact blk_new _ _
    have F1 : Fr none w w1 := hW ▸ (Fr.refl _ _).alloc _
    clear hW
    have R1 := blk_cell B1.out
    refine (rvalidT_any t _ _ r hsz h1).mono ?_
    rintro e w2 ⟨rfl, F2⟩
    have R2 := blk_cell (blk_fr B1.out F2 (by simp))
    clear R1
    go_wp2_with fail
    refine (rtext_any t.dep t _ _ r (Nat.le_refl _) (by omega) (h1.fr (F2.mono (r := r))) (T1.fr F2)).mono ?_
    rintro e w3 ⟨S, rfl, hS, hSs, F3⟩
    have HS := Lib.hid hS
    clear hS
    go_wp2_with fail
    go_ret
    exact ⟨S, rfl, by rw [HE.out]; exact HS.out, hSs, (F1.pure F2).pure F3⟩
  · have hv0 : (validE t != 0) = true := by rw [bne_iff_ne]; exact hv
    have HE : Hid (textT t = [63]) := by unfold Hid textT; rw [if_neg hv]
    clear hv
    go_enter Tryz.func62, Tryz.ntmps62
    go_wp2_with fail
    generalize hW : w.alloc _ = w1 at *
    have F1 : Fr none w w1 := hW ▸ (Fr.refl _ _).alloc _
    clear hW
    refine (rvalidT_any t _ _ r hsz h1).mono ?_
    rintro e w2 ⟨rfl, F2⟩
    go_wp2_with fail
    go_ret
    exact ⟨_, rfl, by rw [HE.out]; rfl, by decide, F1.pure F2⟩
end Go.Proofs.YtoblhcieidljjaaGreatDoor

/- Walks: the reader of notation: next. -/
namespace Go.Proofs.YtoblhcieidljjaaGreatDoor
open Go.RowKit

/-- The reader in block g: its text, its token, its place. -/
def RdB (w : World) (g : Nat) (S T : ByteArray) (k : Nat) : Prop := w.heap[g]? = some (.cells #[.string S, .string T, .int .i64 (k : Int)] 154 (0, 0))
theorem RdB.fr {w w' : World} {g : Nat} {S T : ByteArray} {k : Nat} {r : Option Nat} (h : RdB w g S T k) (f : Fr r w w') (hr : r ≠ some g) : RdB w' g S T k := blk_fr h f hr
theorem RdB.cell {w : World} {g : Nat} {S T : ByteArray} {k : Nat} (h : RdB w g S T k) (i : Nat) : w.cell? ⟨g, i, none⟩ = (#[.string S, .string T, .int .i64 (k : Int)] : Array Value)[i]? := blk_cell h i
theorem RdB.free {w : World} {g : Nat} {S T : ByteArray} {k : Nat} (h : RdB w g S T k) (i : Nat) : w.frozen? ⟨g, i, none⟩ = false := blk_free h i
/-- The reader's place. -/
def atOf (w : World) (g : Nat) : Nat := match w.cell? ⟨g, 2, none⟩ with
  | some (.int _ i) => i.toNat
  | _ => 0
theorem RdB.atOf {w : World} {g : Nat} {S T : ByteArray} {k : Nat} (h : RdB w g S T k) : atOf w g = k := by
  unfold Proofs.YtoblhcieidljjaaGreatDoor.atOf
  rw [h.cell 2]
  simp
theorem digit_any (c : UInt8) (w : World) : Calls Tryz.prog 178 #[.int .u8 (c.toNat : Int)] w fun e w' => e = .returned (.bool (isDg c)) ∧ w = w' := by
  have H : Hid (isDg c = decide (48 ≤ (c.toNat : Int) ∧ (c.toNat : Int) ≤ 57)) := by unfold Hid isDg; rw [decide_eq_decide]; omega
  go_enter Tryz.func178, Tryz.ntmps178
  go_wp2
  all_goals
    go_ret
    exact ⟨ret_bool (by rw [H.out]; by_cases h1 : 48 ≤ (c.toNat : Int) <;> by_cases h2 : (c.toNat : Int) ≤ 57 <;> simp [h1, h2] <;> omega), rfl⟩

/-- What next leaves: the reader stands at the next token. -/
def NextP (w : World) (g : Nat) (S : ByteArray) (u : List UInt8) (e : Ending) (w' : World) : Prop :=
  ∃ (k : Nat) (T : ByteArray), e = .returned (.tuple #[]) ∧ k ≤ S.size ∧ S.data.toList.drop k = skp u ∧ T.data.toList = tok (skp u) ∧ T.size ≤ S.size ∧ RdB w' g S T k ∧ Fr (some g) w w'

theorem RdB.bump {w : World} {g : Nat} {S T : ByteArray} {j : Nat} (h : RdB w g S T j) (n : Nat) : RdB ((w.drewN n).setCell ⟨g, 2, none⟩ (.int .i64 ((j : Int) + 1))) g S T (j + 1) := by
  have := blk_set (i := 2) (u := .int .i64 ((j : Int) + 1)) (show (w.drewN n).heap[g]? = some _ from h)
  simpa [RdB] using this
theorem RdB.token {w : World} {g : Nat} {S T : ByteArray} {j : Nat} (h : RdB w g S T j) (T' : ByteArray) : RdB (w.setCell ⟨g, 1, none⟩ (.string T')) g S T' j := by
  have := blk_set (i := 1) (u := .string T') (show w.heap[g]? = some _ from h)
  simpa [RdB] using this

theorem ext_all (R : ByteArray) : R.extract 0 R.size = R := by
  rw [Lib.extract_eq, List.drop_zero, List.take_of_length_le (by simp)]
theorem tokN_of {u : List UInt8} (h : Lib.hasPrefix u [111, 102] = true) : tokN u = 2 := by
  unfold Lib.hasPrefix at h
  rw [List.isPrefixOf_iff_prefix] at h
  obtain ⟨r, rfl⟩ := h
  simp [tokN]
theorem not_of {u : List UInt8} (h : Lib.hasPrefix u [111, 102] = false) : u.take 2 ≠ [111, 102] := by
  intro e
  have : Lib.hasPrefix u [111, 102] = true := by
    unfold Lib.hasPrefix
    rw [List.isPrefixOf_iff_prefix, ← e]
    exact List.take_prefix _ _
  rw [this] at h
  cases h
theorem idx_sign (c : UInt8) : 0 ≤ Lib.indexByte [40, 41, 44] c ↔ (c = 40 ∨ c = 41 ∨ c = 44) := by
  by_cases h1 : c = 40
  · subst h1; decide
  · by_cases h2 : c = 41
    · subst h2; decide
    · by_cases h3 : c = 44
      · subst h3; decide
      · have e1 : ((40 : UInt8) == c) = false := by rw [beq_eq_false_iff_ne]; exact Ne.symm h1
        have e2 : ((41 : UInt8) == c) = false := by rw [beq_eq_false_iff_ne]; exact Ne.symm h2
        have e3 : ((44 : UInt8) == c) = false := by rw [beq_eq_false_iff_ne]; exact Ne.symm h3
        simp [Lib.indexByte, e1, e2, e3, h1, h2, h3]
theorem tokN_sign {c : UInt8} {r : List UInt8} (h : Lib.hasPrefix (c :: r) [111, 102] = false) (hc : c = 40 ∨ c = 41 ∨ c = 44) : tokN (c :: r) = 1 := by
  unfold tokN
  rw [if_neg (not_of h)]
  simp only
  rw [if_pos hc]
theorem tokN_num {u : List UInt8} (h : Lib.hasPrefix u [111, 102] = false) (hc : ∀ c r, u = c :: r → ¬ (c = 40 ∨ c = 41 ∨ c = 44)) : tokN u = (u.takeWhile isDg).length := by
  unfold tokN
  rw [if_neg (not_of h)]
  cases u with
  | nil => rfl
  | cons c r => simp only; rw [if_neg (hc c r rfl)]

set_option maxRecDepth 100000 in
set_option maxHeartbeats 2000000 in
theorem next_any (g k q : Nat) (S T : ByteArray) (w : World) (h : RdB w g S T k) (hq : k + T.size = q) (hk : q ≤ S.size) (hS : S.size ≤ 6001) :
    Calls Tryz.prog 136 #[.pointer (some ⟨g, 0, none⟩)] w (NextP w g S (S.data.toList.drop q)) := by
  have HQ := Lib.hid hq
  have hk' : k + T.size ≤ S.size := by omega
  clear hq
  have R0 := h.cell
  have Z0 := h.free
  have H := Lib.hid h
  clear h
  go_enter Tryz.func136, Tryz.ntmps136
  go_wp2_with fail
  go_still_tail 12, (by kernel_rfl)
  change wpList _ _ _ _ _ w.drew
  go_wp2_with fail
  generalize hW : World.setCell _ _ _ = w1
  have b1 : RdB w1 g S T q := by
    rw [← hW, ← HQ.out]
    have := blk_set (i := 2) (u := .int .i64 ((k : Int) + T.size)) (show w.heap[g]? = some _ from H.out)
    simpa [RdB] using this
  have F1 : Fr (some g) w w1 := by
    rw [← hW]
    exact Fr.set1 w ⟨g, 2, none⟩ _
  clear hW R0 Z0 H hk'
  go_loopw [37] (fun s wr => ∃ j : Nat, j ≤ S.size ∧ (∃ T, RdB wr g S T j) ∧ Hid (skp (S.data.toList.drop j) = skp (S.data.toList.drop q)) ∧ Fr (some g) w wr) (fun _ wr => S.size - atOf wr g)
  case atStart => exact ⟨q, hk, ⟨T, b1⟩, rfl, F1.drew⟩
  case round =>
    obtain ⟨j, hj, ⟨T, B⟩, HJ, F⟩ := hrel
    have RC := B.cell
    have Z := B.free
    by_cases hgo : ∃ h : j < S.size, S[j] = 32
    · obtain ⟨hlt, hc⟩ := hgo
      have h32' : ((S[j].toNat : Int) == 32) = true := by rw [hc]; rfl
      have hd : decide ((j : Int) < S.size) = true := by simpa using hlt
      have HC := Lib.hid hc
      clear hc
      go_wp2_with fail
      go_quiet (fail)
      go_wp2_with fail
      go_roundw
      case rel =>
        refine ⟨j + 1, by omega, ⟨T, ?_⟩, ?_, ?_⟩
        · exact B.bump _
        · unfold Hid
          rw [← HJ.out, List.drop_eq_getElem_cons (i := j) (by simpa using hlt)]
          rw [show S.data.toList[j] = (32 : UInt8) from HC.out]
          simp [skp]
        · exact F.same (Fr.setRow (p := ⟨g, 2, none⟩) ((Fr.refl _ _).drewN _) rfl _)
      case measure =>
        rw [(B.bump _).atOf, B.atOf]
        omega
    · have hc : j = S.size ∨ ∃ h : j < S.size, S[j] ≠ 32 := by
        rcases Nat.lt_or_ge j S.size with h | h
        · exact .inr ⟨h, fun e => hgo ⟨h, e⟩⟩
        · exact .inl (by omega)
      have hK : S.data.toList.drop j = skp (S.data.toList.drop q) := by
        rw [← HJ.out]
        rcases hc with h | ⟨h, hne⟩
        · rw [List.drop_eq_nil_of_le (by rw [h]; simp)]; rfl
        · rw [List.drop_eq_getElem_cons (i := j) (by simpa using h)]
          have : S.data.toList[j] = S[j] := rfl
          rw [this]
          simp [skp, hne]
      have HK := Lib.hid hK
      clear hgo HJ
      obtain ⟨R, hR⟩ : ∃ R, R = S.extract j S.size := ⟨_, rfl⟩
      have hRl : R.data.toList = skp (S.data.toList.drop q) := by rw [hR, Lib.extract_to_end, hK]
      have hRz : R.size + j = S.size := by
        have : R.size = R.data.toList.length := (Array.length_toList).symm
        rw [this, hR, Lib.extract_to_end, List.length_drop]
        have e2 : S.size = S.data.toList.length := (Array.length_toList).symm
        omega
      have HR := Lib.hid hR
      have HRL := Lib.hid hRl
      have hRz1 : R.size + j ≤ S.size := by omega
      have HRZ := Lib.hid hRz
      clear hR hRl hRz hK
      have hend : ∀ (wl : World) (n : Nat), Fr (some g) wr wl → RdB wl g S T j → n = tokN R.data.toList → NextP w g S (S.data.toList.drop q) (.returned (.tuple #[])) (wl.setCell ⟨g, 1, none⟩ (.string (R.extract 0 n))) := fun wl n Fl Bl hn => by
        have hz : (R.extract 0 n).data.toList = tok (skp (S.data.toList.drop q)) := by
          rw [Lib.extract_data, ← HRL.out, hn]
          simp [tok]
        refine ⟨j, R.extract 0 n, rfl, hj, HK.out, hz, ?_, Bl.token _, (F.same Fl).same (Fr.set1 wl ⟨g, 1, none⟩ _)⟩
        have : (R.extract 0 n).size = (R.extract 0 n).data.toList.length := (Array.length_toList).symm
        rw [this, Lib.extract_data, List.length_take, List.length_drop]
        have e2 : R.size = R.data.toList.length := (Array.length_toList).symm
        omega
      have HEND := Lib.hid hend
      clear hend
      have hst : (∃ b, Lib.hasPrefix R.data.toList [111, 102] = b) := ⟨_, rfl⟩
      obtain ⟨b, hb⟩ := hst
      have HB := Lib.hid hb
      clear hb
      rcases hc with hje | ⟨hlt, hne⟩
      · have hd : decide (j < S.size) = false := by simp; omega
        have hge : S.size ≤ j := by omega
        clear hje
        go_wp2_with fail
        go_quiet (fail)
        go_wp2_with fail
        go_quiet (fail)
        go_wp2_with fail
        rw [← HR.out]
        refine (Tryz.strings_HasPrefix R _ _).mono ?_
        rintro e w2 ⟨rfl, rfl⟩
        rw [show (⟨#[111, 102]⟩ : ByteArray).data.toList = [111, 102] from rfl, HB.out]
        generalize hwq : World.drewN wr _ = wq
        have Bq : RdB wq g S T j := by rw [← hwq]; exact B
        have Fq : Fr (some g) wr wq := by rw [← hwq]; exact (Fr.refl _ _).drewN _
        have Rq := Bq.cell
        have Zq := Bq.free
        clear hwq B Z RC
        have hz0 : R.size = 0 := by omega
        have hnil : R.data.toList = [] := List.eq_nil_of_length_eq_zero (by simpa using hz0)
        have HTN : Hid (tokN R.data.toList = (R.data.toList.takeWhile isDg).length) := by unfold Hid; rw [hnil]; rfl
        obtain rfl : b = false := by
          have := HB.out
          rw [hnil] at this
          exact this.symm
        clear hge hnil
        have he0 : R.toList.isEmpty = true := by
          rw [ByteArray.toList_eq, List.isEmpty_iff]
          apply List.eq_nil_of_length_eq_zero
          simpa using hz0
        have HZ0 := Lib.hid hz0
        clear hz0
        go_wp2_with fail
        go_loop [3] (fun n => ∃ i : Nat, i ≤ R.size ∧ n = .int .i64 i ∧ Hid ((R.data.toList.takeWhile isDg).length = i + ((R.data.toList.drop i).takeWhile isDg).length)) (fun n => R.size - (intOf n).toNat)
        case atStart => exact ⟨0, Nat.zero_le _, rfl, by simp [Hid]⟩
        case round =>
          obtain ⟨i, hi, rfl, HI⟩ := hrel
          by_cases hli : i < R.size
          · have hdr : R.data.toList.drop i = R[i] :: R.data.toList.drop (i + 1) := List.drop_eq_getElem_cons (by simpa using hli)
            obtain ⟨dg, hdg⟩ : ∃ dg, dg = isDg R[i] := ⟨_, rfl⟩
            have HDR := Lib.hid hdr
            have HDG := Lib.hid hdg
            clear hdr hdg
            cases dg with
            | true =>
              go_wp2_with (go_at_call 178; refine (digit_any R[i] _).mono ?_; rintro e w' ⟨rfl, rfl⟩; rw [← HDG.out])
              go_round
              case rel => exact ⟨i + 1, by omega, by go_num, by unfold Hid; rw [HI.out, HDR.out, List.takeWhile_cons, ← HDG.out]; simp; omega⟩
              case measure => simp [intOf]; omega
            | false =>
              go_wp2_with (go_at_call 178; refine (digit_any R[i] _).mono ?_; rintro e w' ⟨rfl, rfl⟩; rw [← HDG.out])
              go_end0
              exact HEND.out wq i Fq Bq (by rw [HTN.out, HI.out, HDR.out, List.takeWhile_cons, ← HDG.out]; simp)
          · obtain rfl : i = R.size := by omega
            go_wp2_with fail
            go_end0
            have hfin := HEND.out wq R.size Fq Bq (by rw [HTN.out, HI.out, List.drop_eq_nil_of_le (by simp)]; simp); rw [ext_all] at hfin; exact hfin
      · have h32' : ((S[j].toNat : Int) == 32) = false := by
          rw [beq_eq_false_iff_ne]
          intro h
          apply hne
          apply UInt8.toNat_inj.1
          have : S[j].toNat = 32 := by omega
          exact this
        have hd : decide ((j : Int) < S.size) = true := by simpa using hlt
        clear hne
        go_wp2_with fail
        go_quiet (fail)
        go_wp2_with fail
        go_quiet (fail)
        go_wp2_with fail
        rw [← HR.out]
        refine (Tryz.strings_HasPrefix R _ _).mono ?_
        rintro e w2 ⟨rfl, rfl⟩
        rw [show (⟨#[111, 102]⟩ : ByteArray).data.toList = [111, 102] from rfl, HB.out]
        generalize hwq : World.drewN wr _ = wq
        have Bq : RdB wq g S T j := by rw [← hwq]; exact B
        have Fq : Fr (some g) wr wq := by rw [← hwq]; exact (Fr.refl _ _).drewN _
        have Rq := Bq.cell
        have Zq := Bq.free
        have h2R : b = true → 2 ≤ R.size := fun h => by
          have e1 := HB.out
          rw [h] at e1
          unfold Lib.hasPrefix at e1
          rw [List.isPrefixOf_iff_prefix] at e1
          have := e1.length_le
          simpa using this
        clear hwq B Z RC
        cases b with
        | true =>
          have h2 := h2R rfl
          clear h2R
          go_wp2_with fail
          go_end0
          exact HEND.out wq 2 Fq Bq (tokN_of HB.out).symm
        | false =>
          clear h2R
          by_cases hsg : ∃ c r, R.data.toList = c :: r ∧ (c = 40 ∨ c = 41 ∨ c = 44)
          · obtain ⟨c, r, hcr, hc⟩ := hsg
            have hz0 : 0 < R.size := by
              have : R.size = R.data.toList.length := (Array.length_toList).symm
              rw [this, hcr]; simp
            have he0 : R.toList.isEmpty = false := by
              rw [ByteArray.toList_eq, hcr]; rfl
            have hR0 : R[0] = c := by
              have : R[0] = R.data.toList[0]'(by simpa using hz0) := rfl
              rw [this]
              simp [hcr]
            have hix : Lib.indexByte [40, 41, 44] c = Lib.indexByte [40, 41, 44] c := rfl
            obtain ⟨ix, hix⟩ : ∃ ix, ix = Lib.indexByte [40, 41, 44] R[0] := ⟨_, rfl⟩
            have hix0 : 0 ≤ ix := by rw [hix, hR0]; exact (idx_sign c).2 hc
            have HIX := Lib.hid hix
            have HTN : Hid (tokN R.data.toList = 1) := by
              unfold Hid
              have := HB.out
              rw [hcr] at this ⊢
              exact tokN_sign this hc
            clear hcr hc hR0 hix
            go_wp2_with (go_at_call 177; refine (Tryz.strings_IndexByte _ _ _).mono ?_; rintro e w' ⟨rfl, hw⟩; rw [hw]; clear hw w'; rw [show (⟨#[40, 41, 44]⟩ : ByteArray).data.toList = [40, 41, 44] from rfl, show ((R[0].toNat : Int)).toNat.toUInt8 = R[0] from by simp, ← HIX.out])
            go_end0
            exact HEND.out wq 1 Fq Bq HTN.out.symm
          · have HTN : Hid (tokN R.data.toList = (R.data.toList.takeWhile isDg).length) := tokN_num HB.out fun c r e h => hsg ⟨c, r, e, h⟩
            by_cases hz0 : R.size = 0
            · have he0 : R.toList.isEmpty = true := by
                rw [ByteArray.toList_eq, List.isEmpty_iff]
                apply List.eq_nil_of_length_eq_zero
                simpa using hz0
              have HZ0 := Lib.hid hz0
              clear hz0 hsg
              go_wp2_with fail
              go_loop [3] (fun n => ∃ i : Nat, i ≤ R.size ∧ n = .int .i64 i ∧ Hid ((R.data.toList.takeWhile isDg).length = i + ((R.data.toList.drop i).takeWhile isDg).length)) (fun n => R.size - (intOf n).toNat)
              case atStart => exact ⟨0, Nat.zero_le _, rfl, by simp [Hid]⟩
              case round =>
                obtain ⟨i, hi, rfl, HI⟩ := hrel
                by_cases hli : i < R.size
                · have hdr : R.data.toList.drop i = R[i] :: R.data.toList.drop (i + 1) := List.drop_eq_getElem_cons (by simpa using hli)
                  obtain ⟨dg, hdg⟩ : ∃ dg, dg = isDg R[i] := ⟨_, rfl⟩
                  have HDR := Lib.hid hdr
                  have HDG := Lib.hid hdg
                  clear hdr hdg
                  cases dg with
                  | true =>
                    go_wp2_with (go_at_call 178; refine (digit_any R[i] _).mono ?_; rintro e w' ⟨rfl, rfl⟩; rw [← HDG.out])
                    go_round
                    case rel => exact ⟨i + 1, by omega, by go_num, by unfold Hid; rw [HI.out, HDR.out, List.takeWhile_cons, ← HDG.out]; simp; omega⟩
                    case measure => simp [intOf]; omega
                  | false =>
                    go_wp2_with (go_at_call 178; refine (digit_any R[i] _).mono ?_; rintro e w' ⟨rfl, rfl⟩; rw [← HDG.out])
                    go_end0
                    exact HEND.out wq i Fq Bq (by rw [HTN.out, HI.out, HDR.out, List.takeWhile_cons, ← HDG.out]; simp)
                · obtain rfl : i = R.size := by omega
                  go_wp2_with fail
                  go_end0
                  have hfin := HEND.out wq R.size Fq Bq (by rw [HTN.out, HI.out, List.drop_eq_nil_of_le (by simp)]; simp); rw [ext_all] at hfin; exact hfin
            · have hz1 : 0 < R.size := by omega
              have he0 : R.toList.isEmpty = false := by
                rw [ByteArray.toList_eq]
                cases h : R.data.toList with
                | nil =>
                  have : R.size = R.data.toList.length := (Array.length_toList).symm
                  rw [h] at this
                  simp only [List.length_nil] at this
                  omega
                | cons c r => rfl
              obtain ⟨ix, hix⟩ : ∃ ix, ix = Lib.indexByte [40, 41, 44] R[0] := ⟨_, rfl⟩
              have hix0 : ix < 0 := by
                rw [hix]
                apply Int.not_le.1
                intro h
                have h2 := (idx_sign R[0]).1 h
                refine hsg ⟨R[0], R.data.toList.drop 1, ?_, h2⟩
                have := List.drop_eq_getElem_cons (l := R.data.toList) (i := 0) (by simpa using hz1)
                rw [List.drop_zero] at this
                exact this
              have HIX := Lib.hid hix
              clear hz0 hsg hix
              go_wp2_with (go_at_call 177; refine (Tryz.strings_IndexByte _ _ _).mono ?_; rintro e w' ⟨rfl, hw⟩; rw [hw]; clear hw w'; rw [show (⟨#[40, 41, 44]⟩ : ByteArray).data.toList = [40, 41, 44] from rfl, show ((R[0].toNat : Int)).toNat.toUInt8 = R[0] from by simp, ← HIX.out])
              go_loop [3] (fun n => ∃ i : Nat, i ≤ R.size ∧ n = .int .i64 i ∧ Hid ((R.data.toList.takeWhile isDg).length = i + ((R.data.toList.drop i).takeWhile isDg).length)) (fun n => R.size - (intOf n).toNat)
              case atStart => exact ⟨0, Nat.zero_le _, rfl, by simp [Hid]⟩
              case round =>
                obtain ⟨i, hi, rfl, HI⟩ := hrel
                by_cases hli : i < R.size
                · have hdr : R.data.toList.drop i = R[i] :: R.data.toList.drop (i + 1) := List.drop_eq_getElem_cons (by simpa using hli)
                  obtain ⟨dg, hdg⟩ : ∃ dg, dg = isDg R[i] := ⟨_, rfl⟩
                  have HDR := Lib.hid hdr
                  have HDG := Lib.hid hdg
                  clear hdr hdg
                  cases dg with
                  | true =>
                    go_wp2_with (go_at_call 178; refine (digit_any R[i] _).mono ?_; rintro e w' ⟨rfl, rfl⟩; rw [← HDG.out])
                    go_round
                    case rel => exact ⟨i + 1, by omega, by go_num, by unfold Hid; rw [HI.out, HDR.out, List.takeWhile_cons, ← HDG.out]; simp; omega⟩
                    case measure => simp [intOf]; omega
                  | false =>
                    go_wp2_with (go_at_call 178; refine (digit_any R[i] _).mono ?_; rintro e w' ⟨rfl, rfl⟩; rw [← HDG.out])
                    go_end0
                    exact HEND.out wq i Fq Bq (by rw [HTN.out, HI.out, HDR.out, List.takeWhile_cons, ← HDG.out]; simp)
                · obtain rfl : i = R.size := by omega
                  go_wp2_with fail
                  go_end0
                  have hfin := HEND.out wq R.size Fq Bq (by rw [HTN.out, HI.out, List.drop_eq_nil_of_le (by simp)]; simp); rw [ext_all] at hfin; exact hfin
end Go.Proofs.YtoblhcieidljjaaGreatDoor

/- Walks: the reader of notation: take, number. -/
namespace Go.Proofs.YtoblhcieidljjaaGreatDoor
open Go.RowKit

/-- The reader in block g stands before what is left, u, of its text S. -/
def RdS (w : World) (g : Nat) (S : ByteArray) (u : List UInt8) : Prop :=
  ∃ (k : Nat) (T : ByteArray), RdB w g S T k ∧ k ≤ S.size ∧ S.data.toList.drop k = u ∧ T.data.toList = tok u
theorem RdS.fr {w w' : World} {g : Nat} {S : ByteArray} {u : List UInt8} {r : Option Nat} (h : RdS w g S u) (f : Fr r w w') (hr : r ≠ some g) : RdS w' g S u := by
  obtain ⟨k, T, h1, h2⟩ := h
  exact ⟨k, T, h1.fr f hr, h2⟩
theorem RdS.lt {w : World} {g : Nat} {S : ByteArray} {u : List UInt8} (h : RdS w g S u) : g < w.heap.size := by
  obtain ⟨k, T, h1, h2⟩ := h
  exact blk_lt h1
theorem RdS.parts {w : World} {g : Nat} {S : ByteArray} {u : List UInt8} (h : RdS w g S u) :
    ∃ (k : Nat) (T : ByteArray), RdB w g S T k ∧ k + u.length = S.size ∧ S.data.toList.drop k = u ∧ T.data.toList = tok u ∧ T.size = tokN u ∧ k + T.size ≤ S.size := by
  obtain ⟨k, T, h1, h2, h3, h4⟩ := h
  have e1 : u.length + k = S.size := by
    rw [← h3, List.length_drop, size_list] at *
    omega
  have e2 : T.size = tokN u := by rw [size_list, h4, tok_len]
  have := tokN_le u
  exact ⟨k, T, h1, by omega, h3, h4, e2, by omega⟩
theorem RdS.le {w : World} {g : Nat} {S : ByteArray} {u : List UInt8} (h : RdS w g S u) : u.length ≤ S.size := by
  obtain ⟨k, T, _, h, _⟩ := h.parts
  omega
/-- The reader goes on. -/
def StepP (w : World) (g : Nat) (S : ByteArray) (u : List UInt8) (e : Ending) (w' : World) : Prop :=
  e = .returned (.tuple #[]) ∧ RdS w' g S (nxt u) ∧ Fr (some g) w w'
theorem step_any (g : Nat) (S : ByteArray) (u : List UInt8) (w : World) (h : RdS w g S u) (hS : S.size ≤ 6001) :
    Calls Tryz.prog 136 #[.pointer (some ⟨g, 0, none⟩)] w (StepP w g S u) := by
  obtain ⟨k, T, h1, h2, h3, h4, h5, h6⟩ := h.parts
  refine (next_any g k (k + T.size) S T w h1 rfl h6 hS).mono ?_
  rintro e w' ⟨k', T', rfl, a1, a2, a3, a4, a5, a6⟩
  refine ⟨rfl, ⟨k', T', a5, a1, ?_, ?_⟩, a6⟩
  · rw [a2]
    unfold nxt
    rw [← h3, List.drop_drop, h5, h3]
  · rw [a3]
    unfold nxt
    rw [← h3, List.drop_drop, h5, h3]

theorem str_eq_iff (T : ByteArray) (l : List UInt8) : (T.toList == l) = (T.data.toList == l) := by rw [ByteArray.toList_eq]
theorem take_yes (g : Nat) (S P : ByteArray) (u : List UInt8) (w : World) (h : RdS w g S u) (hS : S.size ≤ 6001) (hp : tok u = P.data.toList) :
    Calls Tryz.prog 179 #[.pointer (some ⟨g, 0, none⟩), .string P] w fun e w' => e = .returned (.bool true) ∧ RdS w' g S (nxt u) ∧ Fr (some g) w w' := by
  obtain ⟨k, T, h1, h2, h3, h4, h5, h6⟩ := h.parts
  have R := h1.cell
  obtain rfl : T = P := by
    apply ByteArray.ext
    apply Array.toList_inj.1
    rw [h4, hp]
  clear h3 h4 hp
  go_enter Tryz.func179, Tryz.ntmps179
  go_wp2_with fail
  refine (step_any g S u _ h hS).mono ?_
  rintro e w' ⟨rfl, S1, F1⟩
  go_wp2_with fail
  go_ret
  exact ⟨rfl, S1, F1⟩
theorem take_no (g : Nat) (S P : ByteArray) (u : List UInt8) (w : World) (h : RdS w g S u) (hp : tok u ≠ P.data.toList) :
    Calls Tryz.prog 179 #[.pointer (some ⟨g, 0, none⟩), .string P] w fun e w' => e = .returned (.bool false) ∧ w = w' := by
  obtain ⟨k, T, h1, h2, h3, h4, h5, h6⟩ := h.parts
  have R := h1.cell
  have hne : (T.toList == P.toList) = false := by
    rw [ByteArray.toList_eq, ByteArray.toList_eq, h4, beq_eq_false_iff_ne]
    exact hp
  clear h3 h4 hp
  go_enter Tryz.func179, Tryz.ntmps179
  go_wp2_with fail
  go_ret
  exact ⟨rfl, rfl⟩

theorem number_no (g : Nat) (S : ByteArray) (u : List UInt8) (w : World) (h : RdS w g S u) (hn : numP u = none) :
    Calls Tryz.prog 137 #[.pointer (some ⟨g, 0, none⟩)] w fun e w' => e = .returned (.tuple #[.int .i64 0, .bool false]) ∧ w = w' := by
  obtain ⟨k, T, h1, h2, h3, h4, h5, h6⟩ := h.parts
  have R := h1.cell
  have hb : numB T.data.toList = false := by
    rw [numP_eq, h4.symm] at hn
    cases hc : numB T.data.toList
    · rfl
    · rw [if_pos hc] at hn; cases hn
  clear h3 h4 hn
  cases hT : T.data.toList with
  | nil =>
    have he0 : T.toList.isEmpty = true := by rw [ByteArray.toList_eq, hT]; rfl
    clear hT hb
    go_enter Tryz.func137, Tryz.ntmps137
    go_wp2_with fail
    go_ret2
    exact ⟨rfl, rfl⟩
  | cons c r =>
    have he0 : T.toList.isEmpty = false := by rw [ByteArray.toList_eq, hT]; rfl
    have hz := head_size hT
    have hz0 : 0 < T.size := by omega
    have hg := head_get hT hz0
    rw [hT] at hb
    simp only [numB, Bool.and_eq_false_iff, Bool.not_eq_false', Bool.and_eq_true, decide_eq_false_iff_not, decide_eq_true_eq, beq_iff_eq] at hb
    obtain ⟨m, hm⟩ : ∃ m, m = r.length := ⟨_, rfl⟩
    rw [← hm] at hz hb
    obtain ⟨dg, hdg⟩ : ∃ dg, dg = isDg T[0] := ⟨_, rfl⟩
    have HDG := Lib.hid hdg
    rw [← hg] at hb
    rw [← hdg] at hb
    have HG := Lib.hid hg
    have hm0 : m + 1 ≤ T.size := by omega
    have hm1 : T.size ≤ m + 1 := by omega
    clear hT hdg hg hm hz
    cases dg with
    | false =>
      clear hb
      go_enter Tryz.func137, Tryz.ntmps137
      go_wp2_with (go_at_call 178; refine (digit_any T[0] _).mono ?_; rintro e w' ⟨rfl, rfl⟩; rw [← HDG.out])
      go_ret2
      exact ⟨rfl, rfl⟩
    | true =>
      by_cases h3 : 3 < m
      · clear hb
        go_enter Tryz.func137, Tryz.ntmps137
        go_wp2_with (go_at_call 178; refine (digit_any T[0] _).mono ?_; rintro e w' ⟨rfl, rfl⟩; rw [← HDG.out])
        go_ret2
        exact ⟨rfl, rfl⟩
      · have hb2 : 1 ≤ m ∧ T[0] = 48 := by
          rcases hb with hb | hb
          · rcases hb with hb | hb
            · cases hb
            · omega
          · exact hb
        obtain ⟨hb3, hb4⟩ := hb2
        have hb5 : ((T[0].toNat : Int) == 48) = true := by rw [hb4]; rfl
        clear hb hb4
        go_enter Tryz.func137, Tryz.ntmps137
        go_wp2_with (go_at_call 178; refine (digit_any T[0] _).mono ?_; rintro e w' ⟨rfl, rfl⟩; rw [← HDG.out])
        go_ret2
        exact ⟨rfl, rfl⟩

theorem decFrom_num : ∀ (l : List UInt8) (a : Nat), (∀ c ∈ l, isDg c = true) → Lib.decFrom a l = some (numV a l)
  | [], a, _ => rfl
  | c :: r, a, h => by
    have hc := h c (by simp)
    simp only [isDg, decide_eq_true_eq] at hc
    have ih := decFrom_num r (a * 10 + (c.toNat - 48)) fun x hx => h x (List.mem_cons_of_mem _ hx)
    simp only [Lib.decFrom, Lib.digitVal]
    rw [if_pos hc]
    simp only
    rw [ih, Nat.mul_comm]
    rfl
theorem atoi_num {l : List UInt8} (h0 : l ≠ []) (h : ∀ c ∈ l, isDg c = true) : Lib.atoi l = some ((numV 0 l : Nat) : Int) := by
  cases l with
  | nil => exact absurd rfl h0
  | cons c r =>
    have hc := h c (by simp)
    simp only [isDg, decide_eq_true_eq] at hc
    have e1 : (c == 45) = false := by rw [beq_eq_false_iff_ne]; rintro rfl; exact absurd hc (by decide)
    have e2 : (c == 43) = false := by rw [beq_eq_false_iff_ne]; rintro rfl; exact absurd hc (by decide)
    have e3 := decFrom_num (c :: r) 0 h
    simp only [Lib.atoi, e1, e2, Lib.decNat, List.isEmpty_cons, Bool.false_eq_true, if_false]
    rw [e3]
    rfl
/-- What number leaves where there is one. -/
def NrP (w : World) (g : Nat) (S : ByteArray) (u : List UInt8) (n : Nat) (e : Ending) (w' : World) : Prop :=
  e = .returned (.tuple #[.int .i64 (n : Int), .bool true]) ∧ RdS w' g S (nxt u) ∧ Fr (some g) w w'
theorem number_yes (g : Nat) (S : ByteArray) (u : List UInt8) (n : Nat) (w : World) (h : RdS w g S u) (hS : S.size ≤ 6001) (hn : numP u = some n) :
    Calls Tryz.prog 137 #[.pointer (some ⟨g, 0, none⟩)] w (NrP w g S u n) := by
  obtain ⟨k, T, h1, h2, h3, h4, h5, h6⟩ := h.parts
  have R := h1.cell
  rw [numP_eq] at hn
  cases hb : numB (tok u) with
  | false => rw [hb] at hn; simp at hn
  | true =>
    rw [if_pos hb] at hn
    injection hn with hn
    have hdg := tok_dg hb
    rw [← h4] at hb hdg hn
    have hat := atoi_num (numB_ne hb) hdg
    rw [hn] at hat
    cases hT : T.data.toList with
    | nil => rw [hT] at hb; simp [numB] at hb
    | cons c r =>
      have he0 : T.toList.isEmpty = false := by rw [ByteArray.toList_eq, hT]; rfl
      have hz := head_size hT
      have hz0 : 0 < T.size := by omega
      have hg := head_get hT hz0
      rw [hT] at hb hdg
      have hd0 := hdg c (by simp)
      simp only [numB, Bool.and_eq_true, Bool.not_eq_true', Bool.and_eq_false_iff, decide_eq_false_iff_not, decide_eq_true_eq, beq_eq_false_iff_ne] at hb
      obtain ⟨⟨_, hb1⟩, hb2⟩ := hb
      obtain ⟨m, hm⟩ : ∃ m, m = r.length := ⟨_, rfl⟩
      rw [← hm] at hz hb1 hb2
      rw [← hg] at hb2 hd0
      have HDG := Lib.hid hd0
      have HAT := Lib.hid hat
      have hs18 : T.size ≤ 18 := by omega
      have hs4 : T.size ≤ 4 := by omega
      have hm1 : T.size ≤ m + 1 := by omega
      have hm0 : m + 1 ≤ T.size := by omega
      have hcase : T.size ≤ 1 ∨ (1 < T.size ∧ ((T[0].toNat : Int) == 48) = false) := by
        rcases Nat.lt_or_ge 1 T.size with hh | hh
        · right
          refine ⟨hh, ?_⟩
          rw [beq_eq_false_iff_ne]
          intro e
          rcases hb2 with hb2 | hb2
          · omega
          · apply hb2
            apply UInt8.toNat_inj.1
            have : T[0].toNat = 48 := by omega
            exact this
        · exact .inl hh
      clear hT hdg hg hm hz hb2 hd0 hat hn h4 h3 h5
      rcases hcase with hc | ⟨hc, hne⟩
      all_goals
        go_enter Tryz.func137, Tryz.ntmps137
        go_wp2_with (first | (go_at_call 178; refine (digit_any T[0] _).mono ?_; rintro e w' ⟨rfl, rfl⟩; rw [HDG.out]) | (go_at_call 132; refine (Tryz.strconv_Atoi T n hs18 HAT.out _).mono ?_; rintro e w1 ⟨rfl, t, hw1⟩; have F1 : Fr none w w1 := (hw1 ▸ Fr.of_below (Lib.bytesWorld_below _ _ _)); clear hw1) | (go_at_call 136; refine (step_any g S u _ (h.fr F1 (by simp)) hS).mono ?_; rintro e w2 ⟨rfl, S2, F2⟩))
        go_ret2
        exact ⟨rfl, S2, F1.mono.same F2⟩
end Go.Proofs.YtoblhcieidljjaaGreatDoor

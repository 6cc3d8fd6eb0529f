/- Some texts of this claim, joined: contracts of the functions that it reaches, and plain laws. -/
import Derived.Test.YtpdhckbiioobhaaGreatDoorProg
import Derived.Test.YtpdhckbiioobhaaGreatDoorShelf
import Derived.Lib.ItoaLen
import Derived.Test.YtpdhckbiioobhaaGreatDoorJN2
import Derived.Test.YtpdhckbiioobhaaGreatDoorJN3
import Derived.Test.YtpdhckbiioobhaaGreatDoorJN12
import Derived.Test.YtpdhckbiioobhaaGreatDoorJN27
import Derived.Test.YtpdhckbiioobhaaGreatDoorJN6

set_option linter.unusedSimpArgs false
set_option linter.unusedVariables false
/- The table that strconv.Itoa reads, carried along; Itoa at every int. -/
namespace Go.Proofs.YtpdhckbiioobhaaGreatDoor
open Go.RowKit

/-- strconv's table of the powers of ten reads as it should. -/
def Tab (w : World) : Prop := Lib.TabIs Tryz.prog w "internal/strconv.uint64pow10" .u64 Lib.pow10Tab
theorem tab_named : Tryz.prog.globalNamed "internal/strconv.uint64pow10" = some 3 := by kernel_rfl
theorem Tab.cells {w : World} (h : Tab w) : 3 < w.heap.size ∧ ∃ cs t fz, w.heap[3]? = some (.cells cs t fz) ∧ cs.size = 20 := by
  unfold Tab Lib.TabIs World.var? at h
  rw [tab_named] at h
  simp only [Option.bind_some] at h
  have hlt : 3 < w.heap.size := by
    rcases Nat.lt_or_ge 3 w.heap.size with h' | h'
    · exact h'
    · rw [Array.getElem?_eq_none h'] at h; cases h
  refine ⟨hlt, ?_⟩
  generalize w.heap[3]? = o at h
  cases o with
  | none => cases h
  | some o =>
    cases o with
    | cells cs t fz =>
      refine ⟨cs, t, fz, rfl, ?_⟩
      simp at h
      rw [h]
      simp [Lib.pow10Tab]
    | _ => simp at h
theorem Tab.frs {r : Option Nat} {w w' : World} (h : Tab w) (f : Fr r w w') (hr : r ≠ some 3) : Tab w' := by
  have hlt := h.cells.1
  unfold Tab Lib.TabIs World.var? at h ⊢
  rw [tab_named] at h ⊢
  simp only [Option.bind_some] at h ⊢
  rw [f.block _ hlt (fun e => hr e.symm)]
  exact h
theorem Tab.fr {w w' : World} (h : Tab w) (f : Fr none w w') : Tab w' := h.frs f (by simp)
theorem Tab.new {w w0 w' : World} {g : Nat} (h : Tab w0) (hg : w0.heap.size ≤ g) (f : Fr (some g) w w') (k : Tab w) : Tab w' := k.frs f (by have := h.cells.1; simp; omega)
theorem Tab.src {w w' : World} {T : TypeId} {g : Nat} (h : Tab w) (s : SrcR T w g) (f : Fr (some g) w w') : Tab w' := by
  refine h.frs f ?_
  intro e
  injection e with e
  subst e
  obtain ⟨_, cs, t, fz, h1, h2⟩ := h.cells
  obtain ⟨v, l, k, h3, _⟩ := s
  rw [h3] at h1
  injection h1 with h1
  injection h1 with h1 _ _
  rw [← h1] at h2
  simp at h2

theorem fr_grow (w : World) (k : Nat) (os : Array Obj) : Fr none w (Sort.grow (w.drewN k) os) :=
  ⟨rfl, rfl, rfl, by simp [Sort.grow, World.drewN], fun i hi _ => by
    rw [Sort.heap_grow_old _ _ (by simpa [World.drewN] using hi)]
    rfl⟩
theorem itoa_any (n : Int) (hn : Wi n) (w : World) (hT : Tab w) : Calls Tryz.prog 74 #[.int .i64 n] w fun e w' => ∃ S : ByteArray, e = .returned (.string S) ∧ S = ⟨(Lib.itoa n).toArray⟩ ∧ S.size ≤ 21 ∧ Fr none w w' := by
  refine (Tryz.strconv_Itoa n hn.1 hn.2 w hT).mono ?_
  rintro e w' ⟨rfl, k, os, rfl⟩
  refine ⟨_, rfl, rfl, ?_, fr_grow _ _ _⟩
  have := Lib.itoa_length_le n hn.1 hn.2
  simpa [ByteArray.size] using this
end Go.Proofs.YtpdhckbiioobhaaGreatDoor

/- Walks: notation.write, Text; the reference's text, Text. -/
namespace Go.Proofs.YtpdhckbiioobhaaGreatDoor
open Go.RowKit

/-- Bytes as a string. -/
def bs (l : List UInt8) : ByteArray := ⟨l.toArray⟩
def strV (l : List UInt8) : Value := .string (bs l)
theorem bs_list (l : List UInt8) : (bs l).data.toList = l := by simp [bs]
theorem bs_size (l : List UInt8) : (bs l).size = l.length := by simp [bs, ByteArray.size]
theorem bs_app (a b : List UInt8) : bs a ++ bs b = bs (a ++ b) := by
  apply ByteArray.ext
  simp [bs]
theorem bs_inj {a b : List UInt8} (h : bs a = bs b) : a = b := by
  have := congrArg (fun x : ByteArray => x.data.toList) h
  simpa [bs_list] using this
theorem joinB_bs (l : List (List UInt8)) (sep : List UInt8) : joinB (l.map bs) sep = Lib.join l sep := by
  unfold joinB
  rw [List.map_map]
  congr 1
  conv => rhs; rw [← List.map_id l]
  exact List.map_congr_left fun x _ => bs_list x
/-- What a call that returns a text leaves. -/
def TxtE (l : List UInt8) (B : Nat) (w : World) (e : Ending) (w' : World) : Prop := ∃ S : ByteArray, e = .returned (.string S) ∧ S = bs l ∧ S.size ≤ B ∧ Fr none w w'

set_option maxHeartbeats 2000000 in
set_option maxRecDepth 100000 in
theorem write_any (d : Nat) : ∀ (t : Tr) (v : Value) (w : World) (r : Option Nat), t.dep ≤ d → t.size ≤ 1073741824 → TrR w r v t → Tab w →
    Calls Tryz.prog 162 #[v] w (TxtE (txT t) 34359738368 w) := by
  induction d with
  | zero =>
    intro t v w r hd
    cases t
    simp [Tr.dep] at hd
  | succ d ih =>
    intro t v w r hd hsz h hT
    obtain ⟨thr, nodes, inner⟩ := t
    have hwi := h.wi
    simp only [wiT] at hwi
    have htl := txT_len (.mk thr nodes inner) h.wi
    obtain ⟨A, c, A', c', rfl, hthr, hn, hn2, hi2, hi3, hi4, hcell⟩ := h.open_
    have hjl : (Lib.join (wdT nodes inner) [44, 32]).length ≤ 34359738368 := by
      have h1 := wdT_lens nodes inner hwi.2.1 hwi.2.2
      simp only [Tr.size] at hsz
      omega
    have hfin : bs (txT (.mk thr nodes inner)) = bs (Lib.itoa thr) ++ ⟨#[32, 111, 102, 32, 40]⟩ ++ bs (Lib.join (wdT nodes inner) [44, 32]) ++ ⟨#[41]⟩ := by
      apply ByteArray.ext
      simp [bs, txT, wdT]
    have hfl : (bs (txT (.mk thr nodes inner))).size ≤ 34359738368 := by
      rw [bs_size]
      omega
    have HJ := Lib.hid hjl
    have HF := Lib.hid hfin
    have HFL := Lib.hid hfl
    have hszi : sizeL inner ≤ 1073741824 := by simp only [Tr.size] at hsz; omega
    have hdi : depL inner ≤ d := by simp only [Tr.dep] at hd; omega
    clear hjl hfin hfl htl hsz hd
    go_enter Tryz.func162, Tryz.ntmps162
    go_wp2_with fail
    generalize hW : w.alloc _ = w1
    have F1 : Fr none w w1 := hW ▸ (Fr.refl _ _).alloc _
    have B1 : Hid (w1.heap[w.heap.size]? = some (.cells #[.int .i64 thr, .slice A nodes.length c, .slice A' inner.length c'] 31 (0, 0))) := by rw [← hW]; exact blk_new _ _
    clear hW
    have hn' := hn.fr (F1.mono (r := r))
    have T1 := hT.fr F1
    have R1 := blk_cell B1.out
    have hlt1 : w.heap.size < w1.heap.size := blk_lt B1.out
    go_loopw [3, 11] (fun s i wr => ∃ (j : Nat) (B : Option Addr) (b : Nat), j ≤ nodes.length ∧ i = .int .i64 j ∧ s = .slice B j b ∧ Fr none w1 wr ∧ wr.ownsRow w1.heap.size 9 1 (.slice B j b) j ((ndW (nodes.take j)).map strV)) (fun _ i _ => nodes.length - (intOf i).toNat)
    case atStart => exact ⟨0, none, 0, Nat.zero_le _, rfl, rfl, Fr.refl _ _, World.ownsRow_nil _ _ _ _⟩
    case round =>
      obtain ⟨j, B, b, hj, rfl, rfl, F, own⟩ := hrel
      have hz := F.size
      have Tr := T1.fr F
      by_cases hlt : j < nodes.length
      · obtain ⟨A0, c0, e0, q1, q2, hc1⟩ := hn'.open_
        injection e0 with e1 _ e3
        subst e1 e3
        obtain ⟨gb, off, rfl, hb, hbr, hcc⟩ := hc1 (by omega)
        have hck := F.keep (hcc j hlt) (by simp)
        have hw := hwi.2.1 nodes[j] (List.getElem_mem _)
        have hst := ndW_take nodes j hlt
        obtain ⟨x, hx⟩ : ∃ x, x = nodes[j] := ⟨_, rfl⟩
        rw [← hx] at hck hw hst
        have HST := Lib.hid hst
        have HWI := Lib.hid hwi
        clear hcc hc1 hx hst hwi R1
        go_wp2_with (first | (go_at_call 74; refine (itoa_any x hw _ Tr).mono ?_; rintro e w2 ⟨S, rfl, hS, hSs, F2⟩; have own2 := own_fr own F2 (by simp); have hz2 := F2.size; have HS := Lib.hid hS; clear hS) | (at_builtin; refine app_lit eiStr rfl _ _ rfl w1.heap.size B j b _ rfl own2 1 [.string S] _ _ rfl (by simp) rfl (by simp [Value.oneCell']) (by omega) (by unfold maxLen; omega) (by omega) ?_; intro A5 c5 w5 own5 F5 bl5))
        have og := own_blk_ge own2
        go_roundw
        case rel => exact ⟨j + 1, A5, c5, by omega, by go_num, rfl, (F.pure F2).own F5 og, by rw [HST.out, List.map_append]; simpa [strV, bs, HS.out] using own5⟩
        case measure => simp [intOf]; omega
      · obtain rfl : j = nodes.length := by omega
        rw [List.take_length] at own
        have R2 := blk_cell (blk_fr B1.out F (by simp))
        have HWI := Lib.hid hwi
        clear R1 hn' hwi
        go_wp2_with fail
        obtain ⟨wo, rfl⟩ : ∃ wo : World, wo = wr := ⟨_, rfl⟩
        go_loopw [3, 24] (fun s i wl => ∃ (k : Nat) (B : Option Addr) (b : Nat), k ≤ inner.length ∧ i = .int .i64 k ∧ s = .slice B (nodes.length + k) b ∧ Fr none w1 wl ∧ wl.ownsRow w1.heap.size 9 1 (.slice B (nodes.length + k) b) (nodes.length + k) ((ndW nodes ++ txL (inner.take k)).map strV)) (fun _ i _ => inner.length - (intOf i).toNat)
        case atStart => exact ⟨0, B, b, Nat.zero_le _, rfl, rfl, F, by simpa [txL] using own⟩
        case round =>
          clear F own R2 hz
          obtain ⟨k, B, b, hk, rfl, rfl, F, own⟩ := hrel
          have hz := F.size
          have Tr := T1.fr F
          by_cases hlt : k < inner.length
          · obtain ⟨gb, off, rfl, hb, hbr, hc⟩ := hcell (by omega)
            obtain ⟨x, y, z, g0, g1, g2, gt⟩ := hc k hlt
            obtain ⟨th, A1, n1, c1, A2, n2, c2, rfl, rfl, rfl⟩ := gt.shape
            have F3 := F1.pure F
            have g0' := F3.keep g0 (by simp)
            have g1' := F3.keep g1 (by simp)
            have g2' := F3.keep g2 (by simp)
            have hdd : (inner[k]).dep ≤ d := by have := depL_get inner k hlt; omega
            have hss : (inner[k]).size ≤ 1073741824 := by have := sizeL_get inner k hlt; omega
            have hst := txL_take inner k hlt
            have gt' := (gt.fr (F3.mono (r := r)))
            have HST := Lib.hid hst
            clear g0 g1 g2 hst hc
            go_wp2_with (first | (go_at_call 162; refine (ih inner[k] _ _ r hdd hss (gt'.fr ((Fr.refl _ _).alloc _)) (Tr.fr ((Fr.refl _ _).alloc _))).mono ?_; rintro e w2 ⟨S, rfl, hS, hSs, F2⟩; have own2 := own_fr (own.alloc _) F2 (by simp); have hz2 := F2.size; have HS := Lib.hid hS; clear hS) | (at_builtin; refine app_lit eiStr rfl _ _ rfl w1.heap.size B (nodes.length + k) b _ rfl own2 1 [.string S] _ _ rfl (by simp) rfl (by simp [Value.oneCell']) (by omega) (by unfold maxLen; omega) (by simp at hz2; omega) ?_; intro A5 c5 w5 own5 F5 bl5))
            have og := own_blk_ge own2
            go_roundw
            case rel => exact ⟨k + 1, A5, c5, by omega, by go_num, rfl, ((F.alloc _).pure F2).own F5 og, by rw [HST.out, ← List.append_assoc, List.map_append, ← Nat.add_assoc]; simpa [strV, bs, HS.out] using own5⟩
            case measure => simp [intOf]; omega
          · obtain rfl : k = inner.length := by omega
            rw [List.take_length] at own
            have R2 := blk_cell (blk_fr B1.out F (by simp))
            have hsl : SlD wr (Dm wr none) 1 (.slice B (nodes.length + inner.length) b) (((wdT nodes inner).map bs).map Value.string) := by
              have := SlD.of_own (r := none) own (by simp)
              rw [List.map_map]
              exact this
            have HSL := Lib.hid hsl
            have hl1 : ((wdT nodes inner).map bs).length ≤ 140737488355328 := by
              rw [List.length_map]
              unfold wdT
              rw [List.length_append, ndW_len, txL_len]
              omega
            have hl2 : (joinB ((wdT nodes inner).map bs) [44, 32]).length ≤ 140737488355328 := by
              rw [joinB_bs]
              have := HJ.out
              omega
            have HL1 := Lib.hid hl1
            have HL2 := Lib.hid hl2
            clear hsl hl1 hl2 own
            go_wp2_with (first | (go_at_call 74; refine (itoa_any thr hthr _ Tr).mono ?_; rintro e w2 ⟨S, rfl, hS, hSs, F2⟩; have HS := Lib.hid hS; clear hS; have HSL2 := Lib.hid (HSL.out.keep (fr_dm F2))) | (go_at_call 205; refine (join_any ((wdT nodes inner).map bs) ⟨#[44, 32]⟩ _ _ HSL2.out HL1.out HL2.out).mono ?_; rintro e w3 ⟨X, rfl, hX, hXs, F4⟩; have HX := Lib.hid hX; clear hX))
            go_ret
            refine ⟨_, rfl, ?_, ?_, ((F1.pure F).pure F2).pure F4⟩
            · rw [HF.out, HS.out, HX.out]
              simp only [joinB_bs]
              rfl
            · have := HFL.out
              rw [HF.out] at this
              rw [HS.out, HX.out]
              simp only [joinB_bs]
              exact this

/-- What Text returns. -/
def textT (t : Tr) : List UInt8 := if validE t = 0 then txT t else [63]
theorem text3_any (t : Tr) (v : Value) (w : World) (r : Option Nat) (hsz : t.size ≤ 1073741000) (h : TrR w r v t) (hT : Tab w) :
    Calls Tryz.prog 109 #[v] w (TxtE (textT t) 34359738368 w) := by
  obtain ⟨th, A1, n1, c1, A2, n2, c2, rfl⟩ := TrD.shape h
  have h1 := h.fr ((Fr.refl r w).alloc (.cells #[.int .i64 th, .slice A1 n1 c1, .slice A2 n2 c2] 31))
  have T1 := hT.fr ((Fr.refl none w).alloc (.cells #[.int .i64 th, .slice A1 n1 c1, .slice A2 n2 c2] 31))
  by_cases hv : validE t = 0
  · have hv0 : (validE t != 0) = false := by rw [bne_eq_false_iff_eq]; exact hv
    have HE : Hid (textT t = txT t) := by unfold Hid textT; rw [if_pos hv]
    clear hv
    go_enter Tryz.func109, Tryz.ntmps109
    go_wp2_with fail
    generalize hW : w.alloc _ = w1 at *
    have B1 : Hid (w1.heap[w.heap.size]? = some (.cells #[.int .i64 th, .slice A1 n1 c1, .slice A2 n2 c2] 31 (0, 0))) := by rw [← hW]; exact blk_new _ _
    have F1 : Fr none w w1 := hW ▸ (Fr.refl _ _).alloc _
    clear hW
    have R1 := blk_cell B1.out
    refine (validT_any t _ _ r hsz h1).mono ?_
    rintro e w2 ⟨rfl, F2⟩
    have R2 := blk_cell (blk_fr B1.out F2 (by simp))
    clear R1
    go_wp2_with fail
    refine (write_any t.dep t _ _ r (Nat.le_refl _) (by omega) (h1.fr (F2.mono (r := r))) (T1.fr F2)).mono ?_
    rintro e w3 ⟨S, rfl, hS, hSs, F3⟩
    have HS := Lib.hid hS
    clear hS
    go_wp2_with fail
    go_ret
    exact ⟨S, rfl, by rw [HE.out]; exact HS.out, hSs, (F1.pure F2).pure F3⟩
  · have hv0 : (validE t != 0) = true := by rw [bne_iff_ne]; exact hv
    have HE : Hid (textT t = [63]) := by unfold Hid textT; rw [if_neg hv]
    clear hv
    go_enter Tryz.func109, Tryz.ntmps109
    go_wp2_with fail
    generalize hW : w.alloc _ = w1 at *
    have F1 : Fr none w w1 := hW ▸ (Fr.refl _ _).alloc _
    clear hW
    refine (validT_any t _ _ r hsz h1).mono ?_
    rintro e w2 ⟨rfl, F2⟩
    go_wp2_with fail
    go_ret
    exact ⟨_, rfl, by rw [HE.out]; rfl, by decide, F1.pure F2⟩

/-- A text up to some of its entries. -/
def pref (thr : Int) (nodes : List Int) (inner : List Tr) : List UInt8 := Lib.itoa thr ++ [32, 111, 102, 32, 40] ++ Lib.join (wdT nodes inner) [44, 32]
theorem pref_len {thr : Int} {nodes : List Int} {inner : List Tr} (h0 : Wi thr) (h1 : ∀ x ∈ nodes, Wi x) (h2 : wiL inner) (h3 : nodes.length + inner.length + sizeL inner ≤ 1073741824) : (bs (pref thr nodes inner)).size ≤ 34359738368 := by
  have h4 := wdT_lens nodes inner h1 h2
  have h5 := itoa_len h0
  rw [bs_size]
  simp only [pref, List.length_append, List.length_cons, List.length_nil]
  omega
theorem pref_node (thr : Int) (nodes : List Int) (j : Nat) (hj : j < nodes.length) : bs (pref thr (nodes.take (j + 1)) []) = bs (pref thr (nodes.take j) []) ++ bs (if j = 0 then [] else [44, 32]) ++ bs (Lib.itoa nodes[j]) := by
  rw [bs_app, bs_app]
  congr 1
  unfold pref wdT
  rw [ndW_take nodes j hj]
  simp only [txL, List.append_nil]
  rw [join_snoc]
  by_cases h0 : j = 0
  · subst h0; simp [ndW]
  · have h1 : ndW (nodes.take j) ≠ [] := fun e => by
      have := congrArg List.length e
      rw [ndW_len, List.length_take] at this
      simp only [List.length_nil] at this
      omega
    rw [if_neg h1, if_neg h0]
    simp
theorem pref_inner (thr : Int) (nodes : List Int) (inner : List Tr) (k : Nat) (hk : k < inner.length) : bs (pref thr nodes (inner.take (k + 1))) = bs (pref thr nodes (inner.take k)) ++ bs (if nodes.length + k = 0 then [] else [44, 32]) ++ bs (txT inner[k]) := by
  rw [bs_app, bs_app]
  congr 1
  unfold pref wdT
  rw [txL_take inner k hk, ← List.append_assoc, join_snoc]
  by_cases h0 : nodes.length + k = 0
  · have h1 : ndW nodes ++ txL (inner.take k) = [] := by
      apply List.eq_nil_of_length_eq_zero
      rw [List.length_append, ndW_len, txL_len, List.length_take]
      omega
    rw [if_pos h1, if_pos h0]
    simp
  · have h1 : ndW nodes ++ txL (inner.take k) ≠ [] := fun e => by
      have := congrArg List.length e
      rw [List.length_append, ndW_len, txL_len, List.length_take] at this
      simp only [List.length_nil] at this
      omega
    rw [if_neg h1, if_neg h0]
    simp
theorem bs_44 : (⟨#[44, 32]⟩ : ByteArray) = bs [44, 32] := rfl

set_option maxHeartbeats 2000000 in
set_option maxRecDepth 100000 in
theorem rtext_any (d : Nat) : ∀ (t : Tr) (v : Value) (w : World) (r : Option Nat), t.dep ≤ d → t.size ≤ 1073741824 → TrR w r v t → Tab w →
    Calls Tryz.prog 124 #[v] w (TxtE (txT t) 34359738368 w) := by
  induction d with
  | zero =>
    intro t v w r hd
    cases t
    simp [Tr.dep] at hd
  | succ d ih =>
    intro t v w r hd hsz h hT
    obtain ⟨thr, nodes, inner⟩ := t
    have hwi := h.wi
    simp only [wiT] at hwi
    have htl := txT_len (.mk thr nodes inner) h.wi
    obtain ⟨A, c, A', c', rfl, hthr, hn, hn2, hi2, hi3, hi4, hcell⟩ := h.open_
    have hfin : bs (txT (.mk thr nodes inner)) = bs (pref thr nodes inner) ++ ⟨#[41]⟩ := by
      apply ByteArray.ext
      simp [bs, txT, pref, wdT]
    have hfl : (bs (txT (.mk thr nodes inner))).size ≤ 34359738368 := by
      rw [bs_size]
      omega
    have HF := Lib.hid hfin
    have HFL := Lib.hid hfl
    have hszn : nodes.length + inner.length + sizeL inner ≤ 1073741824 := by simp only [Tr.size] at hsz; omega
    have HSZ := Lib.hid hszn
    have hszi : sizeL inner ≤ 1073741824 := by omega
    have hdi : depL inner ≤ d := by simp only [Tr.dep] at hd; omega
    have hp0 : bs (pref thr [] []) = bs (Lib.itoa thr) ++ ⟨#[32, 111, 102, 32, 40]⟩ := by
      apply ByteArray.ext
      simp [bs, pref, wdT, ndW, txL, Lib.join_nil]
    have HP0 := Lib.hid hp0
    have HWI := Lib.hid hwi
    clear hfin hfl htl hsz hd hszn hp0 hwi
    go_enter Tryz.func124, Tryz.ntmps124
    go_wp2_with fail
    generalize hW : w.alloc _ = w0
    have F1 : Fr none w w0 := hW ▸ (Fr.refl _ _).alloc _
    have B1 : Hid (w0.heap[w.heap.size]? = some (.cells #[.int .i64 thr, .slice A nodes.length c, .slice A' inner.length c'] 31 (0, 0))) := by rw [← hW]; exact blk_new _ _
    clear hW
    have T1 := hT.fr F1
    have R1 := blk_cell B1.out
    refine (itoa_any thr hthr _ T1).mono ?_
    rintro e w1 ⟨S0, rfl, hS0, hSs0, F01⟩
    have B2 : Hid (w1.heap[w.heap.size]? = some (.cells #[.int .i64 thr, .slice A nodes.length c, .slice A' inner.length c'] 31 (0, 0))) := blk_fr B1.out F01 (by simp)
    have F1 := F1.pure F01
    have hn' := hn.fr (F1.mono (r := r))
    have T1 := T1.fr F01
    have R1 := blk_cell B2.out
    have hlt1 : w.heap.size < w1.heap.size := blk_lt B2.out
    have HS0 := Lib.hid hS0
    clear hS0 B1 F01
    go_wp2_with fail
    go_loopw [3, 4, 16] (fun s p i wr => ∃ (j : Nat) (O P : ByteArray), j ≤ nodes.length ∧ i = .int .i64 j ∧ s = .string O ∧ p = .string P ∧ O.size ≤ 34359738368 ∧ P.size ≤ 2 ∧ Hid (O = bs (pref thr (nodes.take j) [])) ∧ Hid (P = bs (if j = 0 then [] else [44, 32])) ∧ Fr none w1 wr) (fun _ _ i _ => nodes.length - (intOf i).toNat)
    case atStart => exact ⟨0, _, _, Nat.zero_le _, rfl, rfl, rfl, by have h5 : (⟨#[32, 111, 102, 32, 40]⟩ : ByteArray).size = 5 := rfl; rw [ByteArray.size_append, h5]; omega, by decide, Lib.hid (by rw [HS0.out]; exact HP0.out.symm), Lib.hid rfl, Fr.refl _ _⟩
    case round =>
      obtain ⟨j, O, P, hj, rfl, rfl, rfl, hO, hP, HO, HP, F⟩ := hrel
      have Tr := T1.fr F
      by_cases hlt : j < nodes.length
      · obtain ⟨A0, c0, e0, q1, q2, hc1⟩ := hn'.open_
        injection e0 with e1 _ e3
        subst e1 e3
        obtain ⟨gb, off, rfl, hb, hbr, hcc⟩ := hc1 (by omega)
        have hck := F.keep (hcc j hlt) (by simp)
        have hw := HWI.out.2.1 nodes[j] (List.getElem_mem _)
        have hst := pref_node thr nodes j hlt
        have hsz' : (bs (pref thr (nodes.take (j + 1)) [])).size ≤ 34359738368 := pref_len HWI.out.1 (fun x hx => HWI.out.2.1 x (List.mem_of_mem_take hx)) (by simp only [wiL]) (by
          have := HSZ.out
          simp only [List.length_take, List.length_nil, sizeL]
          omega)
        obtain ⟨x, hx⟩ : ∃ x, x = nodes[j] := ⟨_, rfl⟩
        rw [← hx] at hck hw hst
        have HST := Lib.hid hst
        have HSZ' := Lib.hid hsz'
        clear hcc hc1 hx hst R1 hsz'
        go_wp2_with (go_at_call 74; refine (itoa_any x hw _ Tr).mono ?_; rintro e w2 ⟨S, rfl, hS, hSs, F2⟩; have HS := Lib.hid hS; clear hS)
        go_roundw
        case rel =>
          refine ⟨j + 1, _, _, by omega, by go_num, rfl, rfl, ?_, by decide, ?_, ?_, F.pure F2⟩
          · have := HSZ'.out
            rw [HST.out, ← HO.out, ← HP.out] at this
            rw [HS.out]
            exact this
          · refine Lib.hid ?_
            rw [HST.out, ← HO.out, ← HP.out, HS.out]
            rfl
          · exact Lib.hid (by rw [if_neg (by omega)]; rfl)
        case measure => simp [intOf]; omega
      · obtain rfl : j = nodes.length := by omega
        have R2 := blk_cell (blk_fr B2.out F (by simp))
        clear R1 hn'
        go_wp2_with fail
        obtain ⟨wo, rfl⟩ : ∃ wo : World, wo = wr := ⟨_, rfl⟩
        go_loopw [3, 4, 30] (fun s p i wl => ∃ (k : Nat) (O P : ByteArray), k ≤ inner.length ∧ i = .int .i64 k ∧ s = .string O ∧ p = .string P ∧ O.size ≤ 34359738368 ∧ P.size ≤ 2 ∧ Hid (O = bs (pref thr nodes (inner.take k))) ∧ Hid (P = bs (if nodes.length + k = 0 then [] else [44, 32])) ∧ Fr none w1 wl) (fun _ _ i _ => inner.length - (intOf i).toNat)
        case atStart => exact ⟨0, O, P, Nat.zero_le _, rfl, rfl, rfl, hO, hP, Lib.hid (by rw [HO.out, List.take_length]; rfl), Lib.hid (by rw [HP.out]; rfl), F⟩
        case round =>
          clear F R2 hO hP HO HP Tr
          obtain ⟨k, O, P, hk, rfl, rfl, rfl, hO, hP, HO, HP, F⟩ := hrel
          have Tr := T1.fr F
          by_cases hlt : k < inner.length
          · obtain ⟨gb, off, rfl, hb, hbr, hc⟩ := hcell (by omega)
            obtain ⟨x, y, z, g0, g1, g2, gt⟩ := hc k hlt
            obtain ⟨th, A1, n1, c1, A2, n2, c2, rfl, rfl, rfl⟩ := gt.shape
            have F3 := F1.pure F
            have g0' := F3.keep g0 (by simp)
            have g1' := F3.keep g1 (by simp)
            have g2' := F3.keep g2 (by simp)
            have hdd : (inner[k]).dep ≤ d := by have := depL_get inner k hlt; omega
            have hss : (inner[k]).size ≤ 1073741824 := by have := sizeL_get inner k hlt; omega
            have hst := pref_inner thr nodes inner k hlt
            have hsz' : (bs (pref thr nodes (inner.take (k + 1)))).size ≤ 34359738368 := pref_len HWI.out.1 HWI.out.2.1 (wiL_take _ _ HWI.out.2.2) (by
              have h1 := HSZ.out
              have h2 := sizeL_take_le inner (k + 1)
              simp only [List.length_take]
              omega)
            have gt' := (gt.fr (F3.mono (r := r)))
            have HST := Lib.hid hst
            have HSZ' := Lib.hid hsz'
            clear g0 g1 g2 hst hc hsz'
            go_wp2_with (go_at_call 124; refine (ih inner[k] _ _ r hdd hss (gt'.fr ((Fr.refl _ _).alloc _)) (Tr.fr ((Fr.refl _ _).alloc _))).mono ?_; rintro e w2 ⟨S, rfl, hS, hSs, F2⟩; have HS := Lib.hid hS; clear hS)
            go_roundw
            case rel =>
              refine ⟨k + 1, _, _, by omega, by go_num, rfl, rfl, ?_, by decide, ?_, ?_, (F.alloc _).pure F2⟩
              · have := HSZ'.out
                rw [HST.out, ← HO.out, ← HP.out] at this
                rw [HS.out]
                exact this
              · refine Lib.hid ?_
                rw [HST.out, ← HO.out, ← HP.out, HS.out]
              · exact Lib.hid (by rw [if_neg (by omega)]; rfl)
            case measure => simp [intOf]; omega
          · obtain rfl : k = inner.length := by omega
            go_wp2_with fail
            go_ret
            refine ⟨_, rfl, ?_, ?_, F1.pure F⟩
            · rw [HF.out, HO.out, List.take_length]
            · have := HFL.out
              rw [HF.out] at this
              rw [HO.out, List.take_length]
              exact this
theorem rtext3_any (t : Tr) (v : Value) (w : World) (r : Option Nat) (hsz : t.size ≤ 1073741000) (h : TrR w r v t) (hT : Tab w) :
    Calls Tryz.prog 75 #[v] w (TxtE (textT t) 34359738368 w) := by
  obtain ⟨th, A1, n1, c1, A2, n2, c2, rfl⟩ := TrD.shape h
  have h1 := h.fr ((Fr.refl r w).alloc (.cells #[.int .i64 th, .slice A1 n1 c1, .slice A2 n2 c2] 31))
  have T1 := hT.fr ((Fr.refl none w).alloc (.cells #[.int .i64 th, .slice A1 n1 c1, .slice A2 n2 c2] 31))
  by_cases hv : validE t = 0
  · have hv0 : (validE t != 0) = false := by rw [bne_eq_false_iff_eq]; exact hv
    have HE : Hid (textT t = txT t) := by unfold Hid textT; rw [if_pos hv]
    clear hv
    go_enter Tryz.func75, Tryz.ntmps75
    go_wp2_with fail
    generalize hW : w.alloc _ = w1 at *
    have B1 : Hid (w1.heap[w.heap.size]? = some (.cells #[.int .i64 th, .slice A1 n1 c1, .slice A2 n2 c2] 31 (0, 0))) := by rw [← hW]; exact blk_new _ _
    have F1 : Fr none w w1 := hW ▸ (Fr.refl _ _).alloc _
    clear hW
    have R1 := blk_cell B1.out
    refine (rvalidT_any t _ _ r hsz h1).mono ?_
    rintro e w2 ⟨rfl, F2⟩
    have R2 := blk_cell (blk_fr B1.out F2 (by simp))
    clear R1
    go_wp2_with fail
    refine (rtext_any t.dep t _ _ r (Nat.le_refl _) (by omega) (h1.fr (F2.mono (r := r))) (T1.fr F2)).mono ?_
    rintro e w3 ⟨S, rfl, hS, hSs, F3⟩
    have HS := Lib.hid hS
    clear hS
    go_wp2_with fail
    go_ret
    exact ⟨S, rfl, by rw [HE.out]; exact HS.out, hSs, (F1.pure F2).pure F3⟩
  · have hv0 : (validE t != 0) = true := by rw [bne_iff_ne]; exact hv
    have HE : Hid (textT t = [63]) := by unfold Hid textT; rw [if_neg hv]
    clear hv
    go_enter Tryz.func75, Tryz.ntmps75
    go_wp2_with fail
    generalize hW : w.alloc _ = w1 at *
    have F1 : Fr none w w1 := hW ▸ (Fr.refl _ _).alloc _
    clear hW
    refine (rvalidT_any t _ _ r hsz h1).mono ?_
    rintro e w2 ⟨rfl, F2⟩
    go_wp2_with fail
    go_ret
    exact ⟨_, rfl, by rw [HE.out]; rfl, by decide, F1.pure F2⟩
end Go.Proofs.YtpdhckbiioobhaaGreatDoor

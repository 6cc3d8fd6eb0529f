/- Some texts of this claim, joined: contracts of the functions that it reaches, and plain laws. -/
import Derived.Test.YtoblhcieidljjaaGreatDoorProg
import Derived.Test.YtoblhcieidljjaaGreatDoorJG12

set_option linter.unusedSimpArgs false
set_option linter.unusedVariables false
/- Walks: trustquorummake.Config: configurations out of the tape. -/
namespace Go.Proofs.YtoblhcieidljjaaGreatDoor
open Go.RowKit

/-- A member. -/
structure Mb where
  dec : Bool
  tr : Tr
/-- Cells that read as members. -/
def MbsD (w : World) (D : Nat → Prop) : List Value → List Mb → Prop
  | cells, [] => cells = []
  | cells, m :: r => ∃ a b c rest, cells = .bool m.dec :: a :: b :: c :: rest ∧ TrD w D (.agg #[a, b, c]) m.tr ∧ MbsD w D rest r
theorem MbsD.keep {w w' : World} {D D' : Nat → Prop} (hD : ∀ k, D k → D' k ∧ w'.heap[k]? = w.heap[k]?) : ∀ (cells : List Value) (l : List Mb), MbsD w D cells l → MbsD w' D' cells l
  | cells, [], h => h
  | cells, m :: r, h => by
    obtain ⟨a, b, c, rest, e, ht, hr⟩ := h
    exact ⟨a, b, c, rest, e, TrD.keep hD _ _ ht, MbsD.keep hD rest r hr⟩
theorem MbsD.append {w : World} {D : Nat → Prop} {l2 : List Mb} {c2 : List Value} (h2 : MbsD w D c2 l2) : ∀ {l : List Mb} {cells : List Value}, MbsD w D cells l → MbsD w D (cells ++ c2) (l ++ l2)
  | [], cells, h => by
    have h : cells = [] := h
    subst h
    exact h2
  | m :: r, cells, h => by
    obtain ⟨a, b, c, rest, rfl, ht, hr⟩ := h
    exact ⟨a, b, c, rest ++ c2, by simp, ht, MbsD.append h2 hr⟩
theorem MbsD.get {w : World} {D : Nat → Prop} : ∀ {l : List Mb} {cells : List Value}, MbsD w D cells l → ∀ k (hk : k < l.length),
    ∃ a b c, cells[k * 4]? = some (.bool l[k].dec) ∧ cells[k * 4 + 1]? = some a ∧ cells[k * 4 + 2]? = some b ∧ cells[k * 4 + 3]? = some c ∧ TrD w D (.agg #[a, b, c]) l[k].tr
  | [], cells, h, k, hk => absurd hk (by simp)
  | m :: r, cells, h, k, hk => by
    obtain ⟨a, b, c, rest, rfl, ht, hr⟩ := h
    cases k with
    | zero => exact ⟨a, b, c, rfl, rfl, rfl, rfl, ht⟩
    | succ k =>
      obtain ⟨x, y, z, e0, e1, e2, e3, hx⟩ := hr.get k (by simpa using hk)
      refine ⟨x, y, z, ?_, ?_, ?_, ?_, hx⟩
      · rw [show (k + 1) * 4 = k * 4 + 1 + 1 + 1 + 1 by omega]; simpa using e0
      · rw [show (k + 1) * 4 + 1 = k * 4 + 1 + 1 + 1 + 1 + 1 by omega]; simpa using e1
      · rw [show (k + 1) * 4 + 2 = k * 4 + 2 + 1 + 1 + 1 + 1 by omega]; simpa using e2
      · rw [show (k + 1) * 4 + 3 = k * 4 + 3 + 1 + 1 + 1 + 1 by omega]; simpa using e3
theorem MbsD.len {w : World} {D : Nat → Prop} : ∀ {l : List Mb} {cells : List Value}, MbsD w D cells l → cells.length = l.length * 4
  | [], cells, h => by
    have h : cells = [] := h
    subst h; rfl
  | m :: r, cells, h => by
    obtain ⟨a, b, c, rest, rfl, ht, hr⟩ := h
    have := hr.len
    simp only [List.length_cons]
    omega
def zeroTr : Tr := .mk 0 [] []
/-- A member that is right, among n. -/
def MbOk (n : Nat) (m : Mb) : Prop := (m.dec = true → validE m.tr = 0 ∧ nodesIn n m.tr ∧ m.tr.dep ≤ 2) ∧ (m.dec = false → m.tr = zeroTr)
/-- A configuration: in the blocks D. -/
def CfD (w : World) (D : Nat → Prop) (v : Value) (L : List Mb) : Prop :=
  ∃ A c cells, v = .agg #[.slice A L.length c] ∧ SlD w D 4 (.slice A L.length c) cells ∧ MbsD w D cells L
/-- What Config(t, n) makes. -/
def CfgP (w : World) (g n : Nat) (e : Ending) (w' : World) : Prop :=
  ∃ v L, e = .returned v ∧ CfD w' (Dn w.heap.size w') v L ∧ 1 ≤ L.length ∧ L.length ≤ n ∧ (∀ m ∈ L, MbOk L.length m) ∧ SrcR 84 w' g ∧ Fr (some g) w w'
def CB (w : World) (b : Nat) (x : Value) : Prop := w.heap[b]? = some (.cells #[x] 27 (0, 0))
theorem CB.fr {w w' : World} {b : Nat} {x : Value} {r : Option Nat} (h : CB w b x) (f : Fr r w w') (hr : r ≠ some b) : CB w' b x := blk_fr h f hr
theorem CB.cell {w : World} {b : Nat} {x : Value} (h : CB w b x) : ∀ i, w.cell? ⟨b, i, none⟩ = #[x][i]? := blk_cell h
theorem CB.free {w : World} {b : Nat} {x : Value} (h : CB w b x) : ∀ i, w.frozen? ⟨b, i, none⟩ = false := blk_free h
theorem CB.set0 {w : World} {b : Nat} {x : Value} (h : CB w b x) (u : Value) : CB (w.setCell ⟨b, 0, none⟩ u) b u := by simpa [CB] using blk_set h 0 u
theorem eiMb : EInfo Tryz.prog 25 33 4 64 := EInfo.mk_ (z := .agg #[.bool false, .int .i64 0, .slice none 0 0, .slice none 0 0]) (by kernel_rfl) (by kernel_rfl) rfl (by omega)

set_option maxRecDepth 100000 in
set_option maxHeartbeats 4000000 in
theorem mkconfig_any (n g : Nat) (w : World) (hn1 : 1 ≤ n) (hn2 : n ≤ 10) (S0 : SrcR 84 w g) :
    Calls Tryz.prog 8 #[.pointer (some ⟨g, 0, none⟩), .int .i64 n] w (CfgP w g n) := by
  have hg := S0.lt
  go_enter Tryz.func8, Tryz.ntmps8
  go_wp2_with fail
  generalize hW : w.alloc _ = w1
  have F1 : Fr none w w1 := hW ▸ (Fr.refl _ w).alloc _
  have k4 : CB w1 w.heap.size (.slice none 0 0) := by rw [← hW]; exact blk_new _ _
  have hz1 : w1.heap.size = w.heap.size + 1 := by rw [← hW]; simp
  have S1 := S0.fr F1
  clear hW S0
  refine (tapeRange_any 1 n g _ (by omega) (by omega) (by omega) S1).mono ?_
  rintro e w2 ⟨m, rfl, m1, m2, S2, F2⟩
  obtain ⟨m, rfl⟩ := Int.eq_ofNat_of_zero_le (show 0 ≤ m by omega)
  have hz2 := F2.size
  go_wp2_with fail
  refine (tapeN_any 3 g _ (by omega) (by omega) S2).mono ?_
  rintro e w3 ⟨kind, rfl, k1, k2, S3, F3⟩
  have hz3 := F3.size
  have k43 := (k4.fr F2 (by simp; omega)).fr F3 (by simp; omega)
  have F03 := ((F1.mono (r := some g)).same F2).same F3
  clear k4 F1 F2 F3 S1 S2
  go_wp2_with fail
  generalize hW : w3.alloc _ = w4
  have F4 : Fr none w3 w4 := hW ▸ (Fr.refl _ w3).alloc _
  have k7 : CB w4 w3.heap.size (.slice none 0 0) := by rw [← hW]; exact blk_new _ _
  obtain ⟨B, hB⟩ : ∃ B, B = w3.heap.size := ⟨_, rfl⟩
  rw [← hB] at k7 ⊢
  have hz4 : w4.heap.size = B + 1 := by rw [← hW, hB]; simp
  have k44 := k43.fr F4 (by simp)
  have S4 := S3.fr F4
  have F04 := F03.pure F4
  have hBw : w.heap.size < B := by omega
  clear hW F4 F03 S3 k43 hz3 hB
  go_loopw [8, 9, 25, 30] (fun s8 _ _ _ wr => ∃ (L : List Mb) (A : Option Addr) (c : Nat) (cells : List Value), L.length ≤ m ∧ s8 = .int .i64 (L.length : Int) ∧ Fr (some g) w wr ∧ B + 1 ≤ wr.heap.size ∧ SrcR 84 wr g ∧ CB wr w.heap.size (.slice none 0 0) ∧ CB wr B (.slice A L.length c) ∧
    wr.ownsRow (B + 1) 33 4 (.slice A L.length c) L.length cells ∧ MbsD wr (Dx (B + 1) wr (.slice A L.length c)) cells L ∧ Hid (∀ x ∈ L, MbOk m x)) (fun s8 _ _ _ _ => m - (intOf s8).toNat)
  case atStart => exact ⟨[], none, 0, [], by simp, rfl, F04, by omega, S4, k44, k7, World.ownsRow_nil _ _ _ _, rfl, Lib.hid (by simp)⟩
  case round =>
    clear F04 S4 k44 k7 hz4
    obtain ⟨L, A, c, cells, hL, rfl, F, hz, S, K4, K7, own, hms, HM⟩ := hrel
    obtain ⟨wz, hwz⟩ : ∃ wz : World, wz = wr := ⟨_, rfl⟩
    subst hwz
    have hgz := S.lt
    by_cases hlt : L.length < m
    · obtain rfl | rfl | rfl : kind = 0 ∨ kind = 1 ∨ kind = 2 := by omega
      · go_wp2_with fail
        generalize hW : wz.alloc _ = wa
        have FA : Fr none wz wa := hW ▸ (Fr.refl none wz).alloc _
        have K9 : TB wa wz.heap.size (.int .i64 0) (.slice none 0 0) (.slice none 0 0) := by rw [← hW]; exact blk_new _ _
        have hza : wa.heap.size = wz.heap.size + 1 := by rw [← hW]; simp
        have SA := S.fr FA
        clear hW
        refine (mkTrust_any m 2 g _ (by omega) (by omega) (by omega) (by omega) SA).mono ?_
        rintro e w3 ⟨v3, T, rfl, hT, hvT, hdT, hnT, S3, F3⟩
        obtain ⟨th, A1, n1, c1, A2, n2, c2, rfl⟩ := hT.shape
        have hz3 := F3.size
        have olz := own.lt
        have ogz := own_blk_ge own
        have K43 := (K4.fr FA (by simp)).fr F3 (by simp; omega)
        have K73 := (K7.fr FA (by simp)).fr F3 (by simp; omega)
        have K93 := K9.fr F3 (by simp; omega)
        have own3 := own_fr (own_fr own FA (by simp)) F3 (by simp; omega)
        have F03 := (F.pure FA).same F3
        have Z93 := K93.free
        have R93 := K93.cell
        have l93 := blk_lt K93
        have FS := fr_fill3 w3 wz.heap.size (.int .i64 th) (.slice A1 n1 c1) (.slice A2 n2 c2)
        have K9s : TB (((w3.setCell ⟨wz.heap.size, 0, none⟩ (.int .i64 th)).setCell ⟨wz.heap.size, 1, none⟩ (.slice A1 n1 c1)).setCell ⟨wz.heap.size, 2, none⟩ (.slice A2 n2 c2)) wz.heap.size (.int .i64 th) (.slice A1 n1 c1) (.slice A2 n2 c2) := ((K93.set0 _).set1 _).set2 _
        go_wp2_with fail
        generalize hW : ((w3.setCell _ _).setCell _ _).setCell _ _ = wb at *
        have hzb := FS.size
        have hmsb : MbsD wb (Dx (B + 1) wb (.slice A L.length c)) cells L := MbsD.keep (fun k hk => ⟨⟨hk.1, by have := hk.2.1; omega, hk.2.2⟩, ((FS.block k (by have := hk.2.1; omega) (by have := hk.2.1; simp; omega)).trans (F3.block k (by have := hk.2.1; omega) (by have := hk.1; simp; omega))).trans (FA.block k hk.2.1 (by simp))⟩) _ _ hms
        have ownb := own_ne_fr own3 FS (fun e => by have := (olz _ e).2; omega)
        have K4b := K43.fr FS (by simp; omega)
        have K7b := K73.fr FS (by simp; omega)
        have Sb := S3.frs FS (by simp; omega)
        have F0b := F03.own FS (by simp; omega)
        have hTb := TrD.keep (dn_fr FS (by simp; omega)) _ _ hT
        clear hW FS K93 K43 K73 own3 S3 F03 hT Z93 R93 l93 K9 FA F3 hms own K4 K7 F S SA
        refine (tapeN_any 12 g _ (by omega) (by omega) Sb).mono ?_
        rintro e w5 ⟨x, rfl, x1, x2, S5, F5⟩
        have hz5 := F5.size
        have own5 := own_fr ownb F5 (by simp; omega)
        have hms5 : MbsD w5 (Dx (B + 1) w5 (.slice A L.length c)) cells L := MbsD.keep (dx_fr F5 (by simp; omega)) _ _ hmsb
        have K45 := K4b.fr F5 (by simp; omega)
        have K75 := K7b.fr F5 (by simp; omega)
        have K95 := K9s.fr F5 (by simp; omega)
        have F05 := F0b.same F5
        have hT5 := TrD.keep (dn_fr F5 (by simp; omega)) _ _ hTb
        have R75 := K75.cell
        have Z75 := K75.free
        have l75 := blk_lt K75
        have R95 := K95.cell
        have l95 := blk_lt K95
        clear hmsb ownb K4b K7b Sb F0b hTb K9s F5
        by_cases hx : x = 11
        · subst hx
          go_wp2_with (at_builtin; refine app_lit eiMb rfl _ _ rfl (B + 1) A L.length c _ rfl own5 1 [.bool false, .int .i64 0, .slice none 0 0, .slice none 0 0] _ _ rfl (by simp) rfl (by simp [Value.oneCell']) (by omega) (by unfold maxLen; omega) (by omega) ?_; intro A5 c5 w6 own6 F6 nb6; have K76 := K75.fr F6 (own_ne own5 (by omega)); have R76 := K76.cell; have Z76 := K76.free; have l76 := blk_lt K76; clear R75 Z75 l75)
          have FQ := Fr.set1 w6 ⟨B, 0, none⟩ (.slice A5 (L.length + 1) c5)
          have og := own_blk_ge own5
          have hz6 := F6.size
          have hzQ := FQ.size
          have hln : (L ++ [(⟨false, zeroTr⟩ : Mb)]).length = L.length + 1 := by simp
          go_roundw
          case rel =>
            refine ⟨L ++ [(⟨false, zeroTr⟩ : Mb)], A5, c5, cells ++ [.bool false, .int .i64 0, .slice none 0 0, .slice none 0 0], by rw [hln]; omega, by rw [hln]; go_num, (F05.own F6 (fun q e => by have := og q e; omega)).own FQ (by simp; omega), by omega, (S5.frs F6 (fun q e => by have := og q e; omega)).frs FQ (by simp; omega), (K45.fr F6 (own_ne own5 (by omega))).fr FQ (by simp; omega), by rw [hln]; exact K76.set0 _, by rw [hln]; exact own_fr own6 FQ (by simp), ?_, ?_⟩
            · rw [hln]
              exact MbsD.keep (dx_fr FQ (by simp)) _ _ (MbsD.append (by simp only [MbsD]; exact ⟨_, _, _, [], rfl, (TrD.mk_ (by constructor <;> omega) (SlD.nil _ _ _) (by simp) (SlD.nil _ _ _) (by simp) (by simp) (by simp [TrsD])), rfl⟩) (MbsD.keep (dx_app F6 nb6) _ _ hms5))
            · intro y hy
              rcases List.mem_append.1 hy with hy | hy
              · exact HM.out y hy
              · obtain rfl := List.mem_singleton.1 hy
                exact ⟨fun h => (by cases h), fun _ => rfl⟩
          case measure => simp [intOf]; omega
        · have hx0 : (x == 11) = false := by rw [beq_eq_false_iff_ne]; exact hx
          go_wp2_with (at_builtin; refine app_lit eiMb rfl _ _ rfl (B + 1) A L.length c _ rfl own5 1 [.bool true, .int .i64 th, .slice A1 n1 c1, .slice A2 n2 c2] _ _ rfl (by simp) rfl (by simp [Value.oneCell']) (by omega) (by unfold maxLen; omega) (by omega) ?_; intro A5 c5 w6 own6 F6 nb6; have K76 := K75.fr F6 (own_ne own5 (by omega)); have R76 := K76.cell; have Z76 := K76.free; have l76 := blk_lt K76; clear R75 Z75 l75)
          have FQ := Fr.set1 w6 ⟨B, 0, none⟩ (.slice A5 (L.length + 1) c5)
          have og := own_blk_ge own5
          have hz6 := F6.size
          have hzQ := FQ.size
          have hln : (L ++ [(⟨true, T⟩ : Mb)]).length = L.length + 1 := by simp
          go_roundw
          case rel =>
            refine ⟨L ++ [(⟨true, T⟩ : Mb)], A5, c5, cells ++ [.bool true, .int .i64 th, .slice A1 n1 c1, .slice A2 n2 c2], by rw [hln]; omega, by rw [hln]; go_num, (F05.own F6 (fun q e => by have := og q e; omega)).own FQ (by simp; omega), by omega, (S5.frs F6 (fun q e => by have := og q e; omega)).frs FQ (by simp; omega), (K45.fr F6 (own_ne own5 (by omega))).fr FQ (by simp; omega), by rw [hln]; exact K76.set0 _, by rw [hln]; exact own_fr own6 FQ (by simp), ?_, ?_⟩
            · rw [hln]
              exact MbsD.keep (dx_fr FQ (by simp)) _ _ (MbsD.append (by simp only [MbsD]; exact ⟨_, _, _, [], rfl, (TrD.keep (dx_app F6 nb6) _ _ (TrD.keep (dn_dx (B := B + 1) (v := .slice A L.length c) (by omega) (fun q hq => by have := (olz q hq).2; omega)) _ _ hT5)), rfl⟩) (MbsD.keep (dx_app F6 nb6) _ _ hms5))
            · intro y hy
              rcases List.mem_append.1 hy with hy | hy
              · exact HM.out y hy
              · obtain rfl := List.mem_singleton.1 hy
                exact ⟨fun _ => ⟨hvT, hnT, hdT⟩, fun h => (by cases h)⟩
          case measure => simp [intOf]; omega
      · go_wp2_with fail
        generalize hW : wz.alloc _ = wa
        have FA : Fr none wz wa := hW ▸ (Fr.refl none wz).alloc _
        have K9 : TB wa wz.heap.size (.int .i64 0) (.slice none 0 0) (.slice none 0 0) := by rw [← hW]; exact blk_new _ _
        have hza : wa.heap.size = wz.heap.size + 1 := by rw [← hW]; simp
        have SA := S.fr FA
        clear hW
        refine (most_any m g _ (by omega) (by omega) SA).mono ?_
        rintro e w3 ⟨v3, T, rfl, hT, hvT, hdT, hnT, S3, F3⟩
        obtain ⟨th, A1, n1, c1, A2, n2, c2, rfl⟩ := hT.shape
        have hz3 := F3.size
        have olz := own.lt
        have ogz := own_blk_ge own
        have K43 := (K4.fr FA (by simp)).fr F3 (by simp; omega)
        have K73 := (K7.fr FA (by simp)).fr F3 (by simp; omega)
        have K93 := K9.fr F3 (by simp; omega)
        have own3 := own_fr (own_fr own FA (by simp)) F3 (by simp; omega)
        have F03 := (F.pure FA).same F3
        have Z93 := K93.free
        have R93 := K93.cell
        have l93 := blk_lt K93
        have FS := fr_fill3 w3 wz.heap.size (.int .i64 th) (.slice A1 n1 c1) (.slice A2 n2 c2)
        have K9s : TB (((w3.setCell ⟨wz.heap.size, 0, none⟩ (.int .i64 th)).setCell ⟨wz.heap.size, 1, none⟩ (.slice A1 n1 c1)).setCell ⟨wz.heap.size, 2, none⟩ (.slice A2 n2 c2)) wz.heap.size (.int .i64 th) (.slice A1 n1 c1) (.slice A2 n2 c2) := ((K93.set0 _).set1 _).set2 _
        go_wp2_with fail
        generalize hW : ((w3.setCell _ _).setCell _ _).setCell _ _ = wb at *
        have hzb := FS.size
        have hmsb : MbsD wb (Dx (B + 1) wb (.slice A L.length c)) cells L := MbsD.keep (fun k hk => ⟨⟨hk.1, by have := hk.2.1; omega, hk.2.2⟩, ((FS.block k (by have := hk.2.1; omega) (by have := hk.2.1; simp; omega)).trans (F3.block k (by have := hk.2.1; omega) (by have := hk.1; simp; omega))).trans (FA.block k hk.2.1 (by simp))⟩) _ _ hms
        have ownb := own_ne_fr own3 FS (fun e => by have := (olz _ e).2; omega)
        have K4b := K43.fr FS (by simp; omega)
        have K7b := K73.fr FS (by simp; omega)
        have Sb := S3.frs FS (by simp; omega)
        have F0b := F03.own FS (by simp; omega)
        have hTb := TrD.keep (dn_fr FS (by simp; omega)) _ _ hT
        clear hW FS K93 K43 K73 own3 S3 F03 hT Z93 R93 l93 K9 FA F3 hms own K4 K7 F S SA
        refine (tapeN_any 12 g _ (by omega) (by omega) Sb).mono ?_
        rintro e w5 ⟨x, rfl, x1, x2, S5, F5⟩
        have hz5 := F5.size
        have own5 := own_fr ownb F5 (by simp; omega)
        have hms5 : MbsD w5 (Dx (B + 1) w5 (.slice A L.length c)) cells L := MbsD.keep (dx_fr F5 (by simp; omega)) _ _ hmsb
        have K45 := K4b.fr F5 (by simp; omega)
        have K75 := K7b.fr F5 (by simp; omega)
        have K95 := K9s.fr F5 (by simp; omega)
        have F05 := F0b.same F5
        have hT5 := TrD.keep (dn_fr F5 (by simp; omega)) _ _ hTb
        have R75 := K75.cell
        have Z75 := K75.free
        have l75 := blk_lt K75
        have R95 := K95.cell
        have l95 := blk_lt K95
        clear hmsb ownb K4b K7b Sb F0b hTb K9s F5
        by_cases hx : x = 11
        · subst hx
          go_wp2_with (at_builtin; refine app_lit eiMb rfl _ _ rfl (B + 1) A L.length c _ rfl own5 1 [.bool false, .int .i64 0, .slice none 0 0, .slice none 0 0] _ _ rfl (by simp) rfl (by simp [Value.oneCell']) (by omega) (by unfold maxLen; omega) (by omega) ?_; intro A5 c5 w6 own6 F6 nb6; have K76 := K75.fr F6 (own_ne own5 (by omega)); have R76 := K76.cell; have Z76 := K76.free; have l76 := blk_lt K76; clear R75 Z75 l75)
          have FQ := Fr.set1 w6 ⟨B, 0, none⟩ (.slice A5 (L.length + 1) c5)
          have og := own_blk_ge own5
          have hz6 := F6.size
          have hzQ := FQ.size
          have hln : (L ++ [(⟨false, zeroTr⟩ : Mb)]).length = L.length + 1 := by simp
          go_roundw
          case rel =>
            refine ⟨L ++ [(⟨false, zeroTr⟩ : Mb)], A5, c5, cells ++ [.bool false, .int .i64 0, .slice none 0 0, .slice none 0 0], by rw [hln]; omega, by rw [hln]; go_num, (F05.own F6 (fun q e => by have := og q e; omega)).own FQ (by simp; omega), by omega, (S5.frs F6 (fun q e => by have := og q e; omega)).frs FQ (by simp; omega), (K45.fr F6 (own_ne own5 (by omega))).fr FQ (by simp; omega), by rw [hln]; exact K76.set0 _, by rw [hln]; exact own_fr own6 FQ (by simp), ?_, ?_⟩
            · rw [hln]
              exact MbsD.keep (dx_fr FQ (by simp)) _ _ (MbsD.append (by simp only [MbsD]; exact ⟨_, _, _, [], rfl, (TrD.mk_ (by constructor <;> omega) (SlD.nil _ _ _) (by simp) (SlD.nil _ _ _) (by simp) (by simp) (by simp [TrsD])), rfl⟩) (MbsD.keep (dx_app F6 nb6) _ _ hms5))
            · intro y hy
              rcases List.mem_append.1 hy with hy | hy
              · exact HM.out y hy
              · obtain rfl := List.mem_singleton.1 hy
                exact ⟨fun h => (by cases h), fun _ => rfl⟩
          case measure => simp [intOf]; omega
        · have hx0 : (x == 11) = false := by rw [beq_eq_false_iff_ne]; exact hx
          go_wp2_with (at_builtin; refine app_lit eiMb rfl _ _ rfl (B + 1) A L.length c _ rfl own5 1 [.bool true, .int .i64 th, .slice A1 n1 c1, .slice A2 n2 c2] _ _ rfl (by simp) rfl (by simp [Value.oneCell']) (by omega) (by unfold maxLen; omega) (by omega) ?_; intro A5 c5 w6 own6 F6 nb6; have K76 := K75.fr F6 (own_ne own5 (by omega)); have R76 := K76.cell; have Z76 := K76.free; have l76 := blk_lt K76; clear R75 Z75 l75)
          have FQ := Fr.set1 w6 ⟨B, 0, none⟩ (.slice A5 (L.length + 1) c5)
          have og := own_blk_ge own5
          have hz6 := F6.size
          have hzQ := FQ.size
          have hln : (L ++ [(⟨true, T⟩ : Mb)]).length = L.length + 1 := by simp
          go_roundw
          case rel =>
            refine ⟨L ++ [(⟨true, T⟩ : Mb)], A5, c5, cells ++ [.bool true, .int .i64 th, .slice A1 n1 c1, .slice A2 n2 c2], by rw [hln]; omega, by rw [hln]; go_num, (F05.own F6 (fun q e => by have := og q e; omega)).own FQ (by simp; omega), by omega, (S5.frs F6 (fun q e => by have := og q e; omega)).frs FQ (by simp; omega), (K45.fr F6 (own_ne own5 (by omega))).fr FQ (by simp; omega), by rw [hln]; exact K76.set0 _, by rw [hln]; exact own_fr own6 FQ (by simp), ?_, ?_⟩
            · rw [hln]
              exact MbsD.keep (dx_fr FQ (by simp)) _ _ (MbsD.append (by simp only [MbsD]; exact ⟨_, _, _, [], rfl, (TrD.keep (dx_app F6 nb6) _ _ (TrD.keep (dn_dx (B := B + 1) (v := .slice A L.length c) (by omega) (fun q hq => by have := (olz q hq).2; omega)) _ _ hT5)), rfl⟩) (MbsD.keep (dx_app F6 nb6) _ _ hms5))
            · intro y hy
              rcases List.mem_append.1 hy with hy | hy
              · exact HM.out y hy
              · obtain rfl := List.mem_singleton.1 hy
                exact ⟨fun _ => ⟨hvT, hnT, (Nat.le_succ_of_le hdT)⟩, fun h => (by cases h)⟩
          case measure => simp [intOf]; omega
      · go_wp2_with fail
        generalize hW : wz.alloc _ = wa
        have FA : Fr none wz wa := hW ▸ (Fr.refl none wz).alloc _
        have K9 : TB wa wz.heap.size (.int .i64 0) (.slice none 0 0) (.slice none 0 0) := by rw [← hW]; exact blk_new _ _
        have hza : wa.heap.size = wz.heap.size + 1 := by rw [← hW]; simp
        have SA := S.fr FA
        clear hW
        refine (group_any m L.length g _ (by omega) (by omega) hlt SA).mono ?_
        rintro e w3 ⟨v3, T, rfl, hT, hvT, hdT, hnT, S3, F3⟩
        obtain ⟨th, A1, n1, c1, A2, n2, c2, rfl⟩ := hT.shape
        have hz3 := F3.size
        have olz := own.lt
        have ogz := own_blk_ge own
        have K43 := (K4.fr FA (by simp)).fr F3 (by simp; omega)
        have K73 := (K7.fr FA (by simp)).fr F3 (by simp; omega)
        have K93 := K9.fr F3 (by simp; omega)
        have own3 := own_fr (own_fr own FA (by simp)) F3 (by simp; omega)
        have F03 := (F.pure FA).same F3
        have Z93 := K93.free
        have R93 := K93.cell
        have l93 := blk_lt K93
        have FS := fr_fill3 w3 wz.heap.size (.int .i64 th) (.slice A1 n1 c1) (.slice A2 n2 c2)
        have K9s : TB (((w3.setCell ⟨wz.heap.size, 0, none⟩ (.int .i64 th)).setCell ⟨wz.heap.size, 1, none⟩ (.slice A1 n1 c1)).setCell ⟨wz.heap.size, 2, none⟩ (.slice A2 n2 c2)) wz.heap.size (.int .i64 th) (.slice A1 n1 c1) (.slice A2 n2 c2) := ((K93.set0 _).set1 _).set2 _
        go_wp2_with fail
        generalize hW : ((w3.setCell _ _).setCell _ _).setCell _ _ = wb at *
        have hzb := FS.size
        have hmsb : MbsD wb (Dx (B + 1) wb (.slice A L.length c)) cells L := MbsD.keep (fun k hk => ⟨⟨hk.1, by have := hk.2.1; omega, hk.2.2⟩, ((FS.block k (by have := hk.2.1; omega) (by have := hk.2.1; simp; omega)).trans (F3.block k (by have := hk.2.1; omega) (by have := hk.1; simp; omega))).trans (FA.block k hk.2.1 (by simp))⟩) _ _ hms
        have ownb := own_ne_fr own3 FS (fun e => by have := (olz _ e).2; omega)
        have K4b := K43.fr FS (by simp; omega)
        have K7b := K73.fr FS (by simp; omega)
        have Sb := S3.frs FS (by simp; omega)
        have F0b := F03.own FS (by simp; omega)
        have hTb := TrD.keep (dn_fr FS (by simp; omega)) _ _ hT
        clear hW FS K93 K43 K73 own3 S3 F03 hT Z93 R93 l93 K9 FA F3 hms own K4 K7 F S SA
        refine (tapeN_any 12 g _ (by omega) (by omega) Sb).mono ?_
        rintro e w5 ⟨x, rfl, x1, x2, S5, F5⟩
        have hz5 := F5.size
        have own5 := own_fr ownb F5 (by simp; omega)
        have hms5 : MbsD w5 (Dx (B + 1) w5 (.slice A L.length c)) cells L := MbsD.keep (dx_fr F5 (by simp; omega)) _ _ hmsb
        have K45 := K4b.fr F5 (by simp; omega)
        have K75 := K7b.fr F5 (by simp; omega)
        have K95 := K9s.fr F5 (by simp; omega)
        have F05 := F0b.same F5
        have hT5 := TrD.keep (dn_fr F5 (by simp; omega)) _ _ hTb
        have R75 := K75.cell
        have Z75 := K75.free
        have l75 := blk_lt K75
        have R95 := K95.cell
        have l95 := blk_lt K95
        clear hmsb ownb K4b K7b Sb F0b hTb K9s F5
        by_cases hx : x = 11
        · subst hx
          go_wp2_with (at_builtin; refine app_lit eiMb rfl _ _ rfl (B + 1) A L.length c _ rfl own5 1 [.bool false, .int .i64 0, .slice none 0 0, .slice none 0 0] _ _ rfl (by simp) rfl (by simp [Value.oneCell']) (by omega) (by unfold maxLen; omega) (by omega) ?_; intro A5 c5 w6 own6 F6 nb6; have K76 := K75.fr F6 (own_ne own5 (by omega)); have R76 := K76.cell; have Z76 := K76.free; have l76 := blk_lt K76; clear R75 Z75 l75)
          have FQ := Fr.set1 w6 ⟨B, 0, none⟩ (.slice A5 (L.length + 1) c5)
          have og := own_blk_ge own5
          have hz6 := F6.size
          have hzQ := FQ.size
          have hln : (L ++ [(⟨false, zeroTr⟩ : Mb)]).length = L.length + 1 := by simp
          go_roundw
          case rel =>
            refine ⟨L ++ [(⟨false, zeroTr⟩ : Mb)], A5, c5, cells ++ [.bool false, .int .i64 0, .slice none 0 0, .slice none 0 0], by rw [hln]; omega, by rw [hln]; go_num, (F05.own F6 (fun q e => by have := og q e; omega)).own FQ (by simp; omega), by omega, (S5.frs F6 (fun q e => by have := og q e; omega)).frs FQ (by simp; omega), (K45.fr F6 (own_ne own5 (by omega))).fr FQ (by simp; omega), by rw [hln]; exact K76.set0 _, by rw [hln]; exact own_fr own6 FQ (by simp), ?_, ?_⟩
            · rw [hln]
              exact MbsD.keep (dx_fr FQ (by simp)) _ _ (MbsD.append (by simp only [MbsD]; exact ⟨_, _, _, [], rfl, (TrD.mk_ (by constructor <;> omega) (SlD.nil _ _ _) (by simp) (SlD.nil _ _ _) (by simp) (by simp) (by simp [TrsD])), rfl⟩) (MbsD.keep (dx_app F6 nb6) _ _ hms5))
            · intro y hy
              rcases List.mem_append.1 hy with hy | hy
              · exact HM.out y hy
              · obtain rfl := List.mem_singleton.1 hy
                exact ⟨fun h => (by cases h), fun _ => rfl⟩
          case measure => simp [intOf]; omega
        · have hx0 : (x == 11) = false := by rw [beq_eq_false_iff_ne]; exact hx
          go_wp2_with (at_builtin; refine app_lit eiMb rfl _ _ rfl (B + 1) A L.length c _ rfl own5 1 [.bool true, .int .i64 th, .slice A1 n1 c1, .slice A2 n2 c2] _ _ rfl (by simp) rfl (by simp [Value.oneCell']) (by omega) (by unfold maxLen; omega) (by omega) ?_; intro A5 c5 w6 own6 F6 nb6; have K76 := K75.fr F6 (own_ne own5 (by omega)); have R76 := K76.cell; have Z76 := K76.free; have l76 := blk_lt K76; clear R75 Z75 l75)
          have FQ := Fr.set1 w6 ⟨B, 0, none⟩ (.slice A5 (L.length + 1) c5)
          have og := own_blk_ge own5
          have hz6 := F6.size
          have hzQ := FQ.size
          have hln : (L ++ [(⟨true, T⟩ : Mb)]).length = L.length + 1 := by simp
          go_roundw
          case rel =>
            refine ⟨L ++ [(⟨true, T⟩ : Mb)], A5, c5, cells ++ [.bool true, .int .i64 th, .slice A1 n1 c1, .slice A2 n2 c2], by rw [hln]; omega, by rw [hln]; go_num, (F05.own F6 (fun q e => by have := og q e; omega)).own FQ (by simp; omega), by omega, (S5.frs F6 (fun q e => by have := og q e; omega)).frs FQ (by simp; omega), (K45.fr F6 (own_ne own5 (by omega))).fr FQ (by simp; omega), by rw [hln]; exact K76.set0 _, by rw [hln]; exact own_fr own6 FQ (by simp), ?_, ?_⟩
            · rw [hln]
              exact MbsD.keep (dx_fr FQ (by simp)) _ _ (MbsD.append (by simp only [MbsD]; exact ⟨_, _, _, [], rfl, (TrD.keep (dx_app F6 nb6) _ _ (TrD.keep (dn_dx (B := B + 1) (v := .slice A L.length c) (by omega) (fun q hq => by have := (olz q hq).2; omega)) _ _ hT5)), rfl⟩) (MbsD.keep (dx_app F6 nb6) _ _ hms5))
            · intro y hy
              rcases List.mem_append.1 hy with hy | hy
              · exact HM.out y hy
              · obtain rfl := List.mem_singleton.1 hy
                exact ⟨fun _ => ⟨hvT, hnT, hdT⟩, fun h => (by cases h)⟩
          case measure => simp [intOf]; omega
    · obtain rfl : L.length = m := by omega
      have R7 := K7.cell
      have R4 := K4.cell
      have Z4 := K4.free
      have l7 := blk_lt K7
      have l4 := blk_lt K4
      go_wp2_with fail
      refine bodyPost_ret (v := .agg #[.slice A L.length c]) (by simp [results, Tryz.results8, go_sem, R4]) rfl ?_
      have G := Fr.set1 wz ⟨w.heap.size, 0, none⟩ (.slice A L.length c)
      have kk : ∀ b, Dn (B + 1) wz b → Dn w.heap.size (wz.setCell ⟨w.heap.size, 0, none⟩ (.slice A L.length c)) b ∧ (wz.setCell ⟨w.heap.size, 0, none⟩ (.slice A L.length c)).heap[b]? = wz.heap[b]? := fun b hb => ⟨⟨by have := hb.1; omega, Nat.lt_of_lt_of_le hb.2 G.size⟩, G.block b hb.2 (by have := hb.1; simp; omega)⟩
      exact ⟨_, L, rfl, ⟨A, c, cells, rfl, (SlD.own_dn own).keep kk, MbsD.keep kk _ _ (MbsD.keep dx_dn _ _ hms)⟩, by omega, by omega, HM.out, S.frs G (by simp; omega), F.own G (by simp)⟩
end Go.Proofs.YtoblhcieidljjaaGreatDoor

/- Some texts of this claim, joined: contracts of the functions that it reaches, and plain laws. -/
import Derived.Test.YtpdhckbiioobhaaGreatDoorProg
import Derived.Test.YtpdhckbiioobhaaGreatDoorJO10
import Derived.Test.YtpdhckbiioobhaaGreatDoorJO11
import Derived.Test.YtpdhckbiioobhaaGreatDoorJO1
import Derived.RegionTactic
import Derived.Test.YtpdhckbiioobhaaGreatDoorJO4
import Derived.Test.YtpdhckbiioobhaaGreatDoorJO7

/- The sanity check of layer 4's laws. -/
namespace Go.Proofs.YtpdhckbiioobhaaGreatDoor
open Go.RowKit

set_option maxRecDepth 100000 in
set_option maxHeartbeats 1000000 in
theorem form_any (S R : ByteArray) (t : Tr) (hp : parseP S.data.toList = .ok t) (hr : bs (textT (normT t)) = R) (w : World) (hT : Tab w) :
    Calls Tryz.prog 86 #[.string S] w fun e w' => e = .returned (.string R) ∧ Fr none w w' := by
  have HR := Lib.hid hr
  have hG := rparse_any S w
  rw [hp] at hG
  have HG := Lib.hid hG
  clear hp hr hG
  go_enter Tryz.func86, Tryz.ntmps86
  go_wp2_with fail
  refine HG.out.mono ?_
  rintro e w2 ⟨th, A1, n1, c1, A2, n2, c2, k, er, rfl, F2, _, rfl, rfl, hT2, hv⟩
  obtain ⟨hok, hsz, hdp⟩ := valid_facts hv
  have hT2 : TrR w2 none _ t := TrD.keep (dn_dm (by simp)) _ _ hT2
  have FA := (Fr.refl none w2).alloc (.cells #[.int .i64 th, .slice A1 n1 c1, .slice A2 n2 c2] 31)
  have hT3 := hT2.fr FA
  have F3 := F2.pure FA
  have HV := Lib.hid hv
  have hn := (norm_ok hv)
  clear hT2 hv
  go_wp2_with fail
  refine (normal_any t _ _ none (by simp) hT3 (by omega)).mono ?_
  rintro e w4 ⟨v4, rfl, hT4, F4⟩
  obtain ⟨th4, X1, m1, k1, X2, m2, k2, rfl⟩ := TrD.shape hT4
  have e4 : nrmV t = normT t := by unfold nrmV; rw [if_pos HV.out]
  rw [e4] at hT4
  have FB := (Fr.refl none w4).alloc (.cells #[.int .i64 th4, .slice X1 m1 k1, .slice X2 m2 k2] 31)
  have hT5 := hT4.fr FB
  have F5 := (F3.pure F4).pure FB
  have T5 := hT.fr F5
  have hs4 := hn.2.2.1
  have hv0 : (validE t != 0) = false := by rw [bne_eq_false_iff_eq]; exact HV.out
  clear hn e4 hT4
  go_wp2_with fail
  refine (rtext3_any (normT t) _ _ none (by omega) hT5 T5).mono ?_
  rintro e w6 ⟨S6, rfl, hS, _, F6⟩
  have HS := Lib.hid (hS.trans HR.out)
  clear hS
  go_wp2_with fail
  go_ret
  exact ⟨by rw [← HS.out] <;> rfl, F5.pure F6⟩
theorem itoa_dig (n : Nat) (h : n < 10) : Lib.itoa (n : Int) = [UInt8.ofNat (48 + n)] := by rw [Lib.itoa_nonneg, Lib.decDigits_one h]
def t41 : Tr := .mk 2 [3, 1] [.mk 1 [2] []]
theorem p41 : parseP ((⟨#[50, 32, 111, 102, 32, 40, 51, 44, 32, 49, 44, 32, 49, 32, 111, 102, 32, 40, 50, 41, 41]⟩ : ByteArray)).data.toList = .ok t41 := by kernel_rfl
theorem n41 : normT t41 = .mk 2 [1, 2, 3] [] := by kernel_rfl
theorem r41 : bs (textT (normT t41)) = ⟨#[50, 32, 111, 102, 32, 40, 49, 44, 32, 50, 44, 32, 51, 41]⟩ := by
  rw [n41]
  have hv : validE (.mk 2 [1, 2, 3] []) = 0 := by decide +kernel
  have j0 : Lib.itoa 0 = [48] := itoa_dig 0 (by omega)
  have j1 : Lib.itoa 1 = [49] := itoa_dig 1 (by omega)
  have j2 : Lib.itoa 2 = [50] := itoa_dig 2 (by omega)
  have j3 : Lib.itoa 3 = [51] := itoa_dig 3 (by omega)
  unfold textT
  rw [if_pos hv]
  simp only [txT, ndW, List.map_cons, List.map_nil, txL, List.append_nil, j0, j1, j2, j3]
  rfl
def t42 : Tr := .mk 1 [0] [.mk 1 [1] [.mk 1 [0, 2] []]]
theorem p42 : parseP ((⟨#[49, 32, 111, 102, 32, 40, 48, 44, 32, 49, 32, 111, 102, 32, 40, 49, 44, 32, 49, 32, 111, 102, 32, 40, 48, 44, 32, 50, 41, 41, 41]⟩ : ByteArray)).data.toList = .ok t42 := by kernel_rfl
theorem n42 : normT t42 = .mk 1 [0, 1, 2] [] := by kernel_rfl
theorem r42 : bs (textT (normT t42)) = ⟨#[49, 32, 111, 102, 32, 40, 48, 44, 32, 49, 44, 32, 50, 41]⟩ := by
  rw [n42]
  have hv : validE (.mk 1 [0, 1, 2] []) = 0 := by decide +kernel
  have j0 : Lib.itoa 0 = [48] := itoa_dig 0 (by omega)
  have j1 : Lib.itoa 1 = [49] := itoa_dig 1 (by omega)
  have j2 : Lib.itoa 2 = [50] := itoa_dig 2 (by omega)
  have j3 : Lib.itoa 3 = [51] := itoa_dig 3 (by omega)
  unfold textT
  rw [if_pos hv]
  simp only [txT, ndW, List.map_cons, List.map_nil, txL, List.append_nil, j0, j1, j2, j3]
  rfl
def t43 : Tr := .mk 2 [0] [.mk 1 [0] []]
theorem p43 : parseP ((⟨#[50, 32, 111, 102, 32, 40, 48, 44, 32, 49, 32, 111, 102, 32, 40, 48, 41, 41]⟩ : ByteArray)).data.toList = .ok t43 := by kernel_rfl
theorem n43 : normT t43 = .mk 1 [0] [] := by kernel_rfl
theorem r43 : bs (textT (normT t43)) = ⟨#[49, 32, 111, 102, 32, 40, 48, 41]⟩ := by
  rw [n43]
  have hv : validE (.mk 1 [0] []) = 0 := by decide +kernel
  have j0 : Lib.itoa 0 = [48] := itoa_dig 0 (by omega)
  have j1 : Lib.itoa 1 = [49] := itoa_dig 1 (by omega)
  have j2 : Lib.itoa 2 = [50] := itoa_dig 2 (by omega)
  have j3 : Lib.itoa 3 = [51] := itoa_dig 3 (by omega)
  unfold textT
  rw [if_pos hv]
  simp only [txT, ndW, List.map_cons, List.map_nil, txL, List.append_nil, j0, j1, j2, j3]
  rfl
def t44 : Tr := .mk 2 [0, 1] [.mk 1 [0] []]
theorem p44 : parseP ((⟨#[50, 32, 111, 102, 32, 40, 48, 44, 32, 49, 44, 32, 49, 32, 111, 102, 32, 40, 48, 41, 41]⟩ : ByteArray)).data.toList = .ok t44 := by kernel_rfl
theorem n44 : normT t44 = .mk 2 [0, 1] [.mk 1 [0] []] := by kernel_rfl
theorem r44 : bs (textT (normT t44)) = ⟨#[50, 32, 111, 102, 32, 40, 48, 44, 32, 49, 44, 32, 49, 32, 111, 102, 32, 40, 48, 41, 41]⟩ := by
  rw [n44]
  have hv : validE (.mk 2 [0, 1] [.mk 1 [0] []]) = 0 := by decide +kernel
  have j0 : Lib.itoa 0 = [48] := itoa_dig 0 (by omega)
  have j1 : Lib.itoa 1 = [49] := itoa_dig 1 (by omega)
  have j2 : Lib.itoa 2 = [50] := itoa_dig 2 (by omega)
  have j3 : Lib.itoa 3 = [51] := itoa_dig 3 (by omega)
  unfold textT
  rw [if_pos hv]
  simp only [txT, ndW, List.map_cons, List.map_nil, txL, List.append_nil, j0, j1, j2, j3]
  rfl

set_option maxRecDepth 100000 in
set_option maxHeartbeats 1000000 in
theorem awake4_any (w : World) (hT : Tab w) : Calls Tryz.prog 25 #[] w fun e w' => e = .returned (.bool true) ∧ Fr none w w' := by
  have H1 := Lib.hid p41
  have H2 := Lib.hid p42
  have H3 := Lib.hid p43
  have H4 := Lib.hid p44
  have R1 := Lib.hid r41
  have R2 := Lib.hid r42
  have R3 := Lib.hid r43
  have R4 := Lib.hid r44
  go_enter Tryz.func25, Tryz.ntmps25
  go_wp2_with fail
  refine (form_any _ _ t41 H1.out R1.out _ hT).mono ?_
  rintro e w1 ⟨rfl, F1⟩
  go_wp2_with fail
  refine (form_any _ _ t42 H2.out R2.out _ (hT.fr F1)).mono ?_
  rintro e w2 ⟨rfl, F2⟩
  have F2 := F1.pure F2
  go_wp2_with fail
  refine (form_any _ _ t43 H3.out R3.out _ (hT.fr F2)).mono ?_
  rintro e w3 ⟨rfl, F3⟩
  have F3 := F2.pure F3
  go_wp2_with fail
  refine (form_any _ _ t44 H4.out R4.out _ (hT.fr F3)).mono ?_
  rintro e w4 ⟨rfl, F4⟩
  have F4 := F3.pure F4
  go_wp2_with fail
  go_ret
  exact ⟨rfl, F4⟩
end Go.Proofs.YtpdhckbiioobhaaGreatDoor

/- Walks: the tape trustquorummake.Tape: New, N, Range, Pick, Order. -/
namespace Go.Proofs.YtpdhckbiioobhaaGreatDoor
open Go.RowKit

abbrev TapeT : TypeId := 88

theorem tapeNew_any (v : Value) (l : List Int) (w : World) (h : SlI w none v l) :
    Calls Tryz.prog 13 #[v] w (NewP 88 w) := by
  have h0 := h
  obtain ⟨A, c, rfl, q1, q2, hc⟩ := h.open_
  by_cases hl : l.length ≤ 400
  · go_enter Tryz.func13, Tryz.ntmps13
    go_wp2
    go_ret
    exact ⟨_, rfl, Nat.le_refl _, SrcR.made h0 (by omega), (Fr.refl _ _).alloc _⟩
  · go_enter Tryz.func13, Tryz.ntmps13
    go_wp2
    all_goals first | (exfalso; omega) | skip
    go_ret
    exact ⟨_, rfl, Nat.le_refl _, SrcR.made (h0.take 400 (by omega)) (by have := List.length_take_le 400 l; omega), (Fr.refl _ _).alloc _⟩

theorem tapeN_any (n : Int) (g : Nat) (w : World) (hn0 : 1 ≤ n) (hn : n ≤ 4294967296) (h : SrcR 88 w g) :
    Calls Tryz.prog 16 #[.pointer (some ⟨g, 0, none⟩), .int .i64 n] w (NumP 88 w g 0 (n - 1)) := by
  have h0 := h
  have hgl := h.lt
  obtain ⟨A, c, l, k, hb, hs, hw, hl, hk, q1, q2, hc⟩ := h.open_
  have c0 : w.cell? ⟨g, 0, none⟩ = some (.slice A l.length c) := cell_of_row w g 0 _ _ _ hb
  have c1 : w.cell? ⟨g, 1, none⟩ = some (.int .i64 k) := cell_of_row w g 1 _ _ _ hb
  have f1 : w.frozen? ⟨g, 1, none⟩ = false := by simp [World.frozen?, hb]
  have HB := Lib.hid hb
  clear hb
  by_cases hkl : k < l.length
  · obtain ⟨b, off, rfl, hb, hcc⟩ := hc (by omega)
    have d2 := hcc k hkl
    have m1 : l[k].tmod n < n := Int.tmod_lt_of_pos _ (by omega)
    have m2 : -n < l[k].tmod n := by have := Int.lt_tmod_of_pos l[k] (b := n) (by omega); omega
    clear hcc hc
    by_cases hx : l[k].tmod n < 0
    all_goals
      go_enter Tryz.func16, Tryz.ntmps16
      go_wp2_with fail
      go_quiet (fail)
      go_wp2_with fail
      go_quiet (fail)
      go_wp2
      go_ret
      exact ⟨_, rfl, by omega, by omega, SrcR.next (k := k) (by exact HB.out) hs hw hl hkl (by exact hgl), ((Fr.refl _ w).drewN _).setRow rfl _⟩
  · go_enter Tryz.func16, Tryz.ntmps16
    go_wp2_with fail
    go_quiet (fail)
    go_wp2
    go_ret
    exact ⟨0, rfl, by omega, by omega, h0.drewN _, (Fr.refl _ _).drewN _⟩
theorem tapeRange_any (lo hi : Int) (g : Nat) (w : World) (h1 : -1073741824 ≤ lo) (h2 : lo ≤ hi) (h4 : hi ≤ 1073741824) (h : SrcR 88 w g) :
    Calls Tryz.prog 31 #[.pointer (some ⟨g, 0, none⟩), .int .i64 lo, .int .i64 hi] w (NumP 88 w g lo hi) := by
  go_enter Tryz.func31, Tryz.ntmps31
  go_wp2_with fail
  refine (tapeN_any _ _ _ (by omega) (by omega) h).mono ?_
  rintro e w' ⟨x, rfl, x1, x2, S, F⟩
  go_wp2
  go_ret
  exact ⟨_, rfl, by omega, by omega, S, F⟩

/-- One of some numbers. -/
def PickP (T : TypeId) (w : World) (g : Nat) (l : List Int) (e : Ending) (w' : World) : Prop :=
  ∃ x : Int, e = .returned (.int .i64 x) ∧ x ∈ l ∧ SrcR T w' g ∧ Fr (some g) w w'

theorem tapePick_any (v : Value) (l : List Int) (g : Nat) (w : World) (hl : SlI w (some g) v l) (h1 : 1 ≤ l.length) (h2 : l.length ≤ 1073741824) (h : SrcR 88 w g) :
    Calls Tryz.prog 102 #[.pointer (some ⟨g, 0, none⟩), v] w (PickP 88 w g l) := by
  obtain ⟨A, c, rfl, q1, q2, hc⟩ := hl.open_
  obtain ⟨b, off, rfl, hb, hbr, hcc⟩ := hc (by omega)
  clear hc
  go_enter Tryz.func102, Tryz.ntmps102
  go_wp2_with fail
  refine (tapeN_any _ _ _ (by omega) (by omega) h).mono ?_
  rintro e w' ⟨x, rfl, x1, x2, S, F⟩
  obtain ⟨k, rfl⟩ := Int.eq_ofNat_of_zero_le x1
  have hk : k < l.length := by omega
  have d := F.keep (hcc k hk) (by simpa using hbr)
  clear hcc
  go_wp2
  go_ret
  exact ⟨_, rfl, List.getElem_mem _, S, F⟩

/-- The numbers below n, in some order. -/
def OrderP (T : TypeId) (w : World) (g n : Nat) (e : Ending) (w' : World) : Prop :=
  ∃ (v : Value) (l : List Int), e = .returned v ∧ l.Perm (ints n) ∧ SlD w' (Dn w.heap.size w') 1 v (l.map (Value.int .i64)) ∧ SrcR T w' g ∧ Fr (some g) w w'

set_option maxRecDepth 100000 in
set_option maxHeartbeats 1000000 in
theorem tapeOrder_any (n g : Nat) (w : World) (hn : n ≤ 1073741824) (h : SrcR 88 w g) :
    Calls Tryz.prog 87 #[.pointer (some ⟨g, 0, none⟩), .int .i64 n] w (OrderP 88 w g n) := by
  have hg := h.lt
  go_enter Tryz.func87, Tryz.ntmps87
  go_wp2_with fail
  go_loopw [5, 6] (fun v i wr => ∃ (j : Nat) (A : Option Addr) (c : Nat), j ≤ n ∧ i = .int .i64 j ∧ v = .slice A j c ∧ Fr none w wr ∧ wr.ownsRow w.heap.size 3 1 (.slice A j c) j ((ints j).map (Value.int .i64))) (fun _ i _ => n - (intOf i).toNat)
  case atStart => exact ⟨0, none, 0, Nat.zero_le _, rfl, rfl, Fr.refl _ _, World.ownsRow_nil _ _ _ _⟩
  case round =>
    obtain ⟨j, A, c, hj, rfl, rfl, F, own⟩ := hrel
    have hz := F.size
    by_cases hlt : j < n
    · go_wp2_with (at_builtin; refine app_lit eiInt rfl _ _ rfl w.heap.size A j c _ rfl own 1 [.int .i64 j] _ _ rfl (by simp) rfl (by simp [Value.oneCell']) (by omega) (by unfold maxLen; omega) (by omega) ?_; intro A' c' w' own' F' bl')
      have og := own_blk_ge own
      go_roundw
      case rel => exact ⟨j + 1, A', c', by omega, by go_num, rfl, F.own F' og, by rw [ints_succ, List.map_append]; exact own'⟩
      case measure => simp [intOf]; omega
    · obtain rfl : j = n := by omega
      go_wp2_with fail
      obtain ⟨wo, rfl⟩ : ∃ wo : World, wo = wr := ⟨_, rfl⟩
      have hz1 := F.size
      go_loopw [7] (fun s7 wl => ∃ (i : Int) (l : List Int), s7 = .int .i64 i ∧ -1 ≤ i ∧ i < j ∧ l.Perm (ints j) ∧ Fr (some g) w wl ∧ SrcR 88 wl g ∧ wl.ownsRow w.heap.size 3 1 (.slice A j c) j (l.map (Value.int .i64))) (fun s7 _ => (intOf s7).toNat)
      case atStart => exact ⟨_, _, rfl, by omega, by omega, List.Perm.refl _, F.mono, h.fr F, own⟩
      case round =>
        clear own F hz1 hz
        obtain ⟨i, l, rfl, hi1, hi2, hp, F, S, own⟩ := hrel
        have hll : l.length = j := by rw [hp.length_eq, ints_len]
        have HLL := Lib.hid hll
        have hz := F.size
        by_cases hi : 0 < i
        · obtain ⟨m, rfl⟩ := Int.eq_ofNat_of_zero_le (show 0 ≤ i by omega)
          obtain ⟨gb, hA⟩ : ∃ gb, A = some ⟨gb, 0, none⟩ := by
            rcases own.2 with ⟨_, h0⟩ | ⟨gb, cap, cur, hv, _⟩
            · omega
            · injection hv with hv
              exact ⟨gb, hv⟩
          subst hA
          have hgb := own_blk_ge own gb rfl
          clear hll
          go_wp2_with fail
          refine (tapeN_any _ g _ (by omega) (by omega) S).mono ?_
          rintro e w2 ⟨x, rfl, x1, x2, S2, F2⟩
          obtain ⟨k, rfl⟩ := Int.eq_ofNat_of_zero_le x1
          have own2 := own_fr own F2 (by simp; omega)
          have hz2 := F2.size
          have hml : m < l.length := by have := HLL.out; omega
          have hkl : k < l.length := by have := HLL.out; omega
          have ci : w2.cell? ⟨gb, m, none⟩ = some (.int .i64 l[m]) := by rw [own2.cellAt m (by omega)]; simp [hml]
          have ck : w2.cell? ⟨gb, k, none⟩ = some (.int .i64 l[k]) := by rw [own2.cellAt k (by omega)]; simp [hkl]
          have zi := own2.frozenAt m
          have zk := own2.frozenAt k
          have o3 := (own2.drew.stored m (.int .i64 l[k])).1
          have o4 := (o3.stored k (.int .i64 l[m])).1
          have hset : ((l.map (Value.int .i64)).set m (.int .i64 l[k])).set k (.int .i64 l[m]) = ((l.set m l[k]).set k l[m]).map (Value.int .i64) := by rw [List.map_set, List.map_set]
          have hpp : ((l.set m l[k]).set k l[m]).Perm (ints j) := (List.set_set_perm hml hkl).trans hp
          have F4 : Fr (some g) w ((w2.drew.setCell ⟨gb, m, none⟩ (.int .i64 l[k])).setCell ⟨gb, k, none⟩ (.int .i64 l[m])) := (((F.same F2).drew).setNew (by simpa using hgb) _).setNew (by simpa using hgb) _
          have S4 : SrcR 88 ((w2.drew.setCell ⟨gb, m, none⟩ (.int .i64 l[k])).setCell ⟨gb, k, none⟩ (.int .i64 l[m])) g := (S2.drew.frs (Fr.set1 _ _ _) (by simp; omega)).frs (Fr.set1 _ _ _) (by simp; omega)
          have HO := Lib.hid o4
          have HS := Lib.hid hset
          clear o3 o4 hset
          by_cases hkm : k = m
          · subst hkm
            go_wp2_with fail
            go_region
            go_wp2_with fail
            go_roundw
            case rel =>
              refine ⟨(k : Int) - 1, (l.set k l[k]).set k l[k], by go_num, by omega, by omega, hpp, F4, S4, ?_⟩
              rw [← HS.out]; exact HO.out
            case measure => simp [intOf]; omega
          · go_wp2_with fail
            go_region
            go_wp2_with fail
            go_roundw
            case rel =>
              refine ⟨(m : Int) - 1, (l.set m l[k]).set k l[m], by go_num, by omega, by omega, hpp, F4, S4, ?_⟩
              rw [← HS.out]; exact HO.out
            case measure => simp [intOf]; omega
        · go_wp2_with fail
          go_ret
          exact ⟨_, l, rfl, hp, SlD.own_dn own, S, F⟩
end Go.Proofs.YtpdhckbiioobhaaGreatDoor

/- Walks: trustquorummake.trust, Trust: trusts out of the tape. -/
namespace Go.Proofs.YtpdhckbiioobhaaGreatDoor
open Go.RowKit

/-- What trust(t, n, d) makes. -/
def MadeP (w : World) (g n d : Nat) (e : Ending) (w' : World) : Prop :=
  ∃ v T, e = .returned v ∧ TrD w' (Dn w.heap.size w') v T ∧ T.dep ≤ d ∧ T.size ≤ sizeB d ∧ nodesIn n T ∧ SrcR 88 w' g ∧ Fr (some g) w w'

/-- The state of the trust that is being made, between the statements. -/
def Mid (w : World) (g n d : Nat) (A : Option Addr) (c : Nat) (l : List Int) (A2 : Option Addr) (c2 : Nat) (inner : List Tr) (wr : World) : Prop :=
  Fr (some g) w wr ∧ w.heap.size + 2 ≤ wr.heap.size ∧ SrcR 88 wr g ∧ TB wr w.heap.size (.int .i64 0) (.slice none 0 0) (.slice none 0 0) ∧
    TB wr (w.heap.size + 1) (.int .i64 0) (.slice A l.length c) (.slice A2 inner.length c2) ∧ SlD wr (Dn (w.heap.size + 2) wr) 1 (.slice A l.length c) (l.map (Value.int .i64)) ∧
    (∀ x ∈ l, 0 ≤ x ∧ x < (n : Int)) ∧ l.length ≤ 5 ∧
    (∃ cells, SlD wr (Dn (w.heap.size + 2) wr) 3 (.slice A2 inner.length c2) cells ∧ TrsD wr (Dn (w.heap.size + 2) wr) cells inner) ∧ (l ≠ [] ∨ inner ≠ []) ∧
    inner.length ≤ 3 ∧ depL inner ≤ d ∧ sizeL inner ≤ inner.length * sizeB d ∧ nodesInL n inner

set_option maxRecDepth 100000 in
set_option maxHeartbeats 800000 in
theorem mktrust_any (n : Nat) (hn1 : 1 ≤ n) (hn2 : n ≤ 100) (d : Nat) : ∀ (g : Nat) (w : World), 1 ≤ d → d ≤ 6 → SrcR 88 w g →
    Calls Tryz.prog 121 #[.pointer (some ⟨g, 0, none⟩), .int .i64 n, .int .i64 d] w (MadeP w g n d) := by
  induction d with
  | zero => intro g w h; omega
  | succ d ih =>
    intro g w _ hd6 S0
    have hg := S0.lt
    go_enter Tryz.func121, Tryz.ntmps121
    go_wp2_with fail
    generalize hW : (w.alloc _).alloc _ = w1
    have hz : w1.heap.size = w.heap.size + 2 := by rw [← hW]; simp
    have F1 : Fr none w w1 := hW ▸ ((Fr.refl _ w).alloc _).alloc _
    have b6 : TB w1 w.heap.size (.int .i64 0) (.slice none 0 0) (.slice none 0 0) := by
      rw [← hW]; exact (Below.heap_alloc _ _ _ (by simp)).trans (blk_new _ _)
    have b7 : TB w1 (w.heap.size + 1) (.int .i64 0) (.slice none 0 0) (.slice none 0 0) := by
      rw [← hW]; exact blk_new_at (by simp) _
    have S1 := S0.fr F1
    clear hW S0
    refine (tapeOrder_any n g _ (by omega) S1).mono ?_
    rintro e w2 ⟨ov, ol, rfl, hperm, hol, S2, F2⟩
    have hz2 := F2.size
    have b6 := b6.fr F2 (by simp; omega)
    have b7 := b7.fr F2 (by simp; omega)
    have F2 := (F1.mono (r := some g)).same F2
    clear S1 F1
    obtain ⟨A0, c0, rfl, p1, p2⟩ := hol.formI
    have hlen : ol.length = n := by rw [hperm.length_eq, ints_len]
    have HLEN := Lib.hid hlen
    have hrange : ∀ x ∈ ol, 0 ≤ x ∧ x < (n : Int) := fun x hx => by
      have := hperm.mem_iff.1 hx
      simp only [ints, List.mem_map, List.mem_range] at this
      obtain ⟨y, hy, rfl⟩ := this
      constructor <;> simp <;> omega
    clear hlen
    go_upto_region 3 with (fail)
    go_cut [8, 20, 21, 22] (fun _ s20 s21 s22 wr => ∃ (ks : List Int) (A : Option Addr) (c : Nat), s20 = .slice A ks.length c ∧ s21 = .int .i64 (ks.length : Nat) ∧ s22 = .int .i64 0 ∧ SlD wr (Dn (w.heap.size + 2) wr) 1 (.slice A ks.length c) (ks.map (Value.int .i64)) ∧ ks ≠ [] ∧ ks.length ≤ 5 ∧ (∀ x ∈ ks, 0 ≤ x ∧ x < (n : Int)) ∧
      Fr (some g) w wr ∧ w.heap.size + 2 ≤ wr.heap.size ∧ SrcR 88 wr g ∧ TB wr w.heap.size (.int .i64 0) (.slice none 0 0) (.slice none 0 0) ∧ TB wr (w.heap.size + 1) (.int .i64 0) (.slice none 0 0) (.slice none 0 0))
    case first =>
      go_wp2_with fail
      all_goals
        refine (tapeRange_any _ _ g _ (by omega) (by omega) (by omega) S2).mono ?_
        rintro e w3 ⟨x, rfl, x1, x2, S3, F3⟩
        obtain ⟨k, rfl⟩ := Int.eq_ofNat_of_zero_le (show 0 ≤ x by omega)
        have hz3 := F3.size
        have hkn : k ≤ ol.length := by have := HLEN.out; omega
        go_wp2_with fail
        go_meet
        have hk := (hol.keep (dn_mono (B := w.heap.size + 2) (by omega))).keep (dn_fr F3 (by simp; omega))
        have hkt := hk.take k hkn
        have hlt : (ol.take k).length = k := List.length_take_of_le hkn
        refine ⟨ol.take k, A0, c0, by rw [hlt], by rw [hlt], rfl, by rw [hlt]; simpa using hkt, fun h => by rw [h] at hlt; simp at hlt; omega, by rw [hlt]; omega, fun x hx => hrange x (List.mem_of_mem_take hx), F2.same F3, by omega, S3, b6.fr F3 (by simp; omega), b7.fr F3 (by simp; omega)⟩
    case rest =>
      clear b6 b7 S2 F2 hz2 hol hrange HLEN p1 p2 hperm ol A0 c0 hz
      obtain ⟨ks, A, c, rfl, rfl, rfl, hks, hkn, hk5, hkr, F, hs, S, K6, K7⟩ := hcut
      go_wp2_with fail
      have hks0 : SlD wc (fun b => w.heap.size + 2 ≤ b ∧ b < wc.heap.size) 1 (.slice A ks.length c) (ks.map (Value.int .i64)) := hks
      clear hks
      go_loopw [22] (fun i wr => ∃ (j : Nat) (A1 : Option Addr) (c1 : Nat), j ≤ ks.length ∧ i = .int .i64 j ∧ Fr (some g) w wr ∧ wc.heap.size ≤ wr.heap.size ∧ SrcR 88 wr g ∧ TB wr w.heap.size (.int .i64 0) (.slice none 0 0) (.slice none 0 0) ∧ TB wr (w.heap.size + 1) (.int .i64 0) (.slice A1 j c1) (.slice none 0 0) ∧
        wr.ownsRow wc.heap.size 3 1 (.slice A1 j c1) j ((ks.take j).map (Value.int .i64)) ∧ SlD wr (fun b => w.heap.size + 2 ≤ b ∧ b < wc.heap.size) 1 (.slice A ks.length c) (ks.map (Value.int .i64))) (fun i _ => ks.length - (intOf i).toNat)
      case atStart => exact ⟨0, none, 0, Nat.zero_le _, rfl, F, Nat.le_refl _, S, K6, K7, World.ownsRow_nil _ _ _ _, hks0⟩
      case round =>
        clear hks0 K6 K7 S F
        obtain ⟨j, A1, c1, hj, rfl, F, hs2, S, K6, K7, own, hks⟩ := hrel
        by_cases hlt : j < ks.length
        · obtain ⟨b, off, rfl, hb, hcj⟩ := hks.cellI j hlt
          have HT : Hid (ks.take (j + 1) = ks.take j ++ [ks[j]]) := List.take_succ_eq_append_getElem hlt
          have R7 := K7.cell
          have Z7 := K7.free
          go_wp2_with (at_builtin; refine app_lit eiInt rfl _ _ rfl wc.heap.size A1 j c1 _ rfl own 1 [.int .i64 ks[j]] _ _ rfl (by simp) rfl (by simp [Value.oneCell']) (by omega) (by unfold maxLen; omega) (by omega) ?_; intro A' c' w' own' F' bl'; have K7' := K7.fr F' (own_ne own (by omega)); have K6' := K6.fr F' (own_ne own (by omega)); have R7' := K7'.cell; have Z7' := K7'.free; have hz3 := F'.size; clear R7 Z7)
          have FS := Fr.set1 w' ⟨w.heap.size + 1, 1, none⟩ (.slice A' (j + 1) c')
          have og := own_blk_ge own
          go_roundw
          case rel =>
            refine ⟨j + 1, A', c', by omega, by go_num, (F.own F' (fun g e => by have := og g e; omega)).own FS (by simp), by have := FS.size; omega, (S.frs F' (fun b e => by have := og b e; omega)).frs FS (by simp; omega), K6'.fr FS (by simp), ?_, ?_, ?_⟩
            · simpa using K7'.set1 (.slice A' (j + 1) c')
            · rw [HT.out, List.map_append]; exact own_fr own' FS (by simp; omega)
            · exact (hks.keep (fun k hk => ⟨hk, F'.block k (by omega) (fun e => by have := og k e.symm; omega)⟩)).keep (fun k hk => ⟨hk, FS.block k (by omega) (by simp; omega)⟩)
          case measure => simp [intOf]; omega
        · obtain rfl : j = ks.length := by omega
          have hks' : SlD wr (Dn (w.heap.size + 2) wr) 1 (.slice A1 ks.length c1) (ks.map (Value.int .i64)) := by
            have := SlD.own_dn own
            rw [List.take_length] at this
            exact this.keep (dn_mono (by omega))
          clear own hks
          obtain ⟨wo, rfl⟩ : ∃ wo : World, wo = wr := ⟨_, rfl⟩
          go_upto_if 34 with (fail)
          go_cut [] (fun wr => ∃ (l : List Int) (A : Option Addr) (c : Nat) (A2 : Option Addr) (c2 : Nat) (inner : List Tr), Mid w g n d A c l A2 c2 inner wr)
          case first =>
            have hM : Mid w g n d A1 c1 ks none 0 [] wo := ⟨F, by omega, S, K6, K7, hks', hkr, hk5, ⟨[], SlD.nil _ _ _, by simp [TrsD]⟩, .inl hkn, by simp, by simp [depL], by simp [sizeL], by simp [nodesInL]⟩
            by_cases hd : d = 0
            · subst hd
              go_wp2_with fail
              go_meet
              exact ⟨ks, A1, c1, none, 0, [], hM⟩
            · clear hM
              go_wp2_with fail
              have FA := (Fr.refl none wo).alloc (.cells #[.int .i64 0, .int .i64 0, .int .i64 1, .int .i64 1, .int .i64 2, .int .i64 3] 3)
              have hlit : SlI (wo.alloc (.cells #[.int .i64 0, .int .i64 0, .int .i64 1, .int .i64 1, .int .i64 2, .int .i64 3] 3)) (some g) (.slice (some ⟨wo.heap.size, 0, none⟩) 6 6) [0, 0, 1, 1, 2, 3] :=
                ⟨SlD.lit_dm #[.int .i64 0, .int .i64 0, .int .i64 1, .int .i64 1, .int .i64 2, .int .i64 3] 3 6 1 rfl (by unfold maxLen; omega) (by simp; omega) (Fr.refl _ _), by intro x hx; simp at hx; constructor <;> omega⟩
              refine (tapePick_any _ [0, 0, 1, 1, 2, 3] g _ hlit (by simp) (by simp) (S.fr FA)).mono ?_
              rintro e wp ⟨x, rfl, hx, Sp, Fp⟩
              have hx0 : 0 ≤ x ∧ x ≤ 3 := by simp at hx; omega
              have FAp : Fr (some g) wo wp := FA.mono.same Fp
              have hzp := FAp.size
              have Kp6 := K6.fr FAp (by simp; omega)
              have Kp7 := K7.fr FAp (by simp; omega)
              have Fwp := F.same FAp
              have hksp := hks'.keep (dn_fr FAp (by simp; omega))
              clear hx hlit FA Fp FAp K6 K7 F S hks'
              have hksD : SlD wp (fun b => w.heap.size + 2 ≤ b ∧ b < wp.heap.size) 1 (.slice A1 ks.length c1) (ks.map (Value.int .i64)) := hksp
              clear hksp
              go_wp2_with fail
              go_loopw [11] (fun s11 wr => ∃ (i : Int) (inner : List Tr) (A2 : Option Addr) (c2 : Nat) (cells : List Value), s11 = .int .i64 i ∧ 0 ≤ i ∧ inner.length + i ≤ 3 ∧ Fr (some g) w wr ∧ wp.heap.size ≤ wr.heap.size ∧ SrcR 88 wr g ∧
                TB wr w.heap.size (.int .i64 0) (.slice none 0 0) (.slice none 0 0) ∧ TB wr (w.heap.size + 1) (.int .i64 0) (.slice A1 ks.length c1) (.slice A2 inner.length c2) ∧
                SlD wr (fun b => w.heap.size + 2 ≤ b ∧ b < wp.heap.size) 1 (.slice A1 ks.length c1) (ks.map (Value.int .i64)) ∧
                wr.ownsRow wp.heap.size 31 3 (.slice A2 inner.length c2) inner.length cells ∧ TrsD wr (Dx wp.heap.size wr (.slice A2 inner.length c2)) cells inner ∧
                depL inner ≤ d ∧ sizeL inner ≤ inner.length * sizeB d ∧ nodesInL n inner) (fun s11 _ => (intOf s11).toNat)
              case atStart => exact ⟨x, [], none, 0, [], rfl, hx0.1, by simp; omega, Fwp, Nat.le_refl _, Sp, Kp6, Kp7, hksD, World.ownsRow_nil _ _ _ _, by simp [TrsD], by simp [depL], by simp [sizeL], by simp [nodesInL]⟩
              case round =>
                clear hksD Kp6 Kp7 Sp Fwp
                obtain ⟨i, inner, A2, c2, cells, rfl, hi0, hi3, F, hs3, S, K6, K7, hks, own, hts, hdp, hsz, hni⟩ := hrel
                by_cases hi : 0 < i
                · have hsp : w.heap.size < wr.heap.size := by omega
                  have hsp1 : w.heap.size + 1 < wr.heap.size := by omega
                  have R7 := K7.cell
                  have Z7 := K7.free
                  have hwd : IntKind.i64.wrap (d : Int) = d := IntWalk.i64_in _ (by omega)
                  go_wp2_with fail
                  go_region_law (first
                    | (go_simp; go_at_call 121; refine (ih g _ (by omega) (by omega) (by exact S.drew)).mono ?_; rintro e w3 ⟨v3, T3, rfl, hT3, hd3, hs3', hn3, S3, F3⟩; obtain ⟨th, a1, n1, e1, a2, n2, e2, rfl⟩ := hT3.shape; have F3' := ((Fr.refl (some g) wr).drew).same F3; have T3x := K7.fr F3' (by simp; omega); have R3 := T3x.cell; have Z3 := T3x.free; have own3 := own_fr own F3' (by simp; omega); have hz3 := F3'.size; have hsp3 : w.heap.size < w3.heap.size := (by omega); have hsp4 : w.heap.size + 1 < w3.heap.size := (by omega))
                    | (refine step_app_lit eiTrust rfl _ _ rfl wp.heap.size A2 inner.length c2 _ rfl own3 1 [.int .i64 th, .slice a1 n1 e1, .slice a2 n2 e2] 31 _ rfl (by simp) rfl (by simp [Value.oneCell']) (by omega) (by unfold maxLen; omega) (by omega) ?_; intro A3 c3 w5 own5 F5 bl5; have T5 := T3x.fr F5 (own_ne own3 (by omega)); have R6 := T5.cell; have Z6 := T5.free))
                  all_goals
                    go_wp2_with fail
                    have FS := Fr.set1 w5 ⟨w.heap.size + 1, 2, none⟩ (.slice A3 (inner.length + 1) c3)
                    have og := own_blk_ge own3
                    have ol := own.lt
                    have hz5 := F5.size
                    have hzS := FS.size
                    go_roundw
                    case rel =>
                      have t1 := (TrsD.keep (dx_fr FS (by simp; omega)) _ _ (TrsD.keep (dx_app F5 bl5) _ _ (TrsD.keep (dx_fr F3' (by simp; omega)) _ _ hts)))
                      have t2 := TrD.keep (dx_fr FS (by simp; omega)) _ _ (TrD.keep (dx_app F5 bl5) _ _ (TrD.keep (dn_dx (B := wp.heap.size) (v := .slice A2 inner.length c2) (by exact hs3) (fun q hq => (ol q hq).2)) _ _ hT3))
                      have hln : (inner ++ [T3]).length = inner.length + 1 := by simp
                      refine ⟨i - 1, inner ++ [T3], A3, c3, cells ++ [.int .i64 th, .slice a1 n1 e1, .slice a2 n2 e2], by go_num, by omega, by rw [hln]; omega, ((F.same F3').own F5 (fun q e => by have := og q e; omega)).own FS (by simp), by omega, (S3.frs F5 (fun q e => by have := og q e; omega)).frs FS (by simp; omega), ((K6.fr F3' (by simp; omega)).fr F5 (own_ne own3 (by omega))).fr FS (by simp), by rw [hln]; exact T5.set2 _, ?_, by rw [hln]; exact own_fr own5 FS (by simp; omega), by rw [hln]; exact TrsD.append t1 (by simp only [TrsD]; exact ⟨_, _, _, [], rfl, t2, rfl⟩), ?_, ?_, nodesInL_append n _ _ hni (by simp only [nodesInL]; exact ⟨hn3, trivial⟩)⟩
                      · exact ((hks.keep (fun k hk => ⟨hk, F3'.block k (by omega) (by simp; omega)⟩)).keep (fun k hk => ⟨hk, F5.block k (by omega) (fun e => by have := og k e.symm; omega)⟩)).keep (fun k hk => ⟨hk, FS.block k (by omega) (by simp; omega)⟩)
                      · rw [depL_append]; simp only [depL]; omega
                      · rw [sizeL_append, hln, Nat.succ_mul]; simp only [sizeL]; omega
                    case measure => simp [intOf]; omega
                · have hM : Mid w g n d A1 c1 ks A2 c2 inner wr := ⟨F, by omega, S, K6, K7, hks.keep (fun k hk => ⟨⟨hk.1, by omega⟩, rfl⟩), hkr, hk5, ⟨cells, (SlD.own_dn own).keep (dn_mono (by omega)), TrsD.keep (fun k hk => ⟨⟨by have := hk.1; omega, hk.2.1⟩, rfl⟩) _ _ hts⟩, .inl hkn, by omega, hdp, hsz, hni⟩
                  have R7 := K7.cell
                  have Z7 := K7.free
                  by_cases hin : inner = []
                  · subst hin
                    have h0 : decide ((0 : Int) < ((([] : List Tr).length : Nat) : Int)) = false := by decide
                    go_wp2_with fail
                    go_meet
                    exact ⟨ks, A1, c1, A2, c2, [], hM⟩
                  · have hinl : 0 < inner.length := List.length_pos_iff.2 hin
                    clear hM
                    go_wp2_with fail
                    refine (tapeN_any 3 g _ (by omega) (by omega) S).mono ?_
                    rintro e w3 ⟨x, rfl, x1, x2, S3, F3⟩
                    have hz3 := F3.size
                    have K6' := K6.fr F3 (by simp; omega)
                    have K7' := K7.fr F3 (by simp; omega)
                    have hM : Mid w g n d A1 c1 ks A2 c2 inner w3 := ⟨F.same F3, by omega, S3, K6', K7', (hks.keep (fun k hk => ⟨(⟨hk.1, by omega⟩ : Dn (w.heap.size + 2) wr k), rfl⟩)).keep (dn_fr F3 (by simp; omega)), hkr, hk5,
                      ⟨cells, ((SlD.own_dn own).keep (dn_mono (by omega))).keep (dn_fr F3 (by simp; omega)), TrsD.keep (dn_fr F3 (by simp; omega)) _ _ (TrsD.keep (fun k hk => ⟨(⟨by have := hk.1; omega, hk.2.1⟩ : Dn (w.heap.size + 2) wr k), rfl⟩) _ _ hts)⟩, .inl hkn, by omega, hdp, hsz, hni⟩
                    have R7' := K7'.cell
                    have Z7' := K7'.free
                    clear R7 Z7 K6 K7 hks own hts F S S3 F3 K6'
                    by_cases hx : x = 0
                    · subst hx
                      go_wp2_with fail
                      go_meet
                      obtain ⟨m1, m2, m3, m4, m5, m6, m7, m8, ⟨cells', m9, m10⟩, m11, m12, m13, m14, m15⟩ := hM
                      have FS := Fr.set1 w3 ⟨w.heap.size + 1, 1, none⟩ (.slice none 0 0)
                      have hzS := FS.size
                      exact ⟨[], none, 0, A2, c2, inner, m1.own FS (by simp), by omega, m3.frs FS (by simp; omega), m4.fr FS (by simp), m5.set1 _, SlD.nil _ _ _, by simp, by simp, ⟨cells', m9.keep (dn_fr FS (by simp)), TrsD.keep (dn_fr FS (by simp)) _ _ m10⟩, .inr hin, m12, m13, m14, m15⟩
                    · have hx0 : (x == 0) = false := by rw [beq_eq_false_iff_ne]; exact hx
                      go_wp2_with fail
                      go_meet
                      exact ⟨ks, A1, c1, A2, c2, inner, hM⟩
          case rest =>
            obtain ⟨l, A, c, A2, c2, inner, hM⟩ := hcut
            clear F S K6 K7 hks' hkr hk5 hkn
            obtain ⟨F, hs, S, K6, K7, hk, hkr, hk5, ⟨cells, hc2, hts⟩, hne, hi3, hdp, hsz, hni⟩ := hM
            have hlen1 : 1 ≤ l.length + inner.length := by
              rcases hne with h | h
              · have := List.length_pos_iff.2 h; omega
              · have := List.length_pos_iff.2 h; omega
            have R7 := K7.cell
            have Z7 := K7.free
            go_wp2_with fail
            refine (tapeRange_any _ _ g _ (by omega) (by omega) (by omega) S).mono ?_
            rintro e w3 ⟨th, rfl, x1, x2, S3, F3⟩
            have hz3 := F3.size
            have K6' := K6.fr F3 (by simp; omega)
            have K7' := K7.fr F3 (by simp; omega)
            have R7' := K7'.cell
            have Z7' := K7'.free
            have R6' := K6'.cell
            have Z6' := K6'.free
            clear R7 Z7
            go_wp2_with fail
            refine bodyPost_ret (v := .agg #[.int .i64 th, .slice A l.length c, .slice A2 inner.length c2]) (by simp [results, Tryz.results121, go_sem, R6']) rfl ?_
            have hk3 := hk.keep (dn_fr F3 (by simp; omega))
            have hc3 := hc2.keep (dn_fr F3 (by simp; omega))
            have ht3 := TrsD.keep (dn_fr F3 (by simp; omega)) _ _ hts
            have F := F.same F3
            clear hk hc2 hts F3 R7' Z7' R6' Z6' K6' K7' K6 K7
            have G0 := Fr.set1 w3 ⟨w.heap.size + 1, 0, none⟩ (.int .i64 th)
            generalize hv0 : w3.setCell _ _ = v0 at *
            have G1 := Fr.set1 v0 ⟨w.heap.size, 0, none⟩ (.int .i64 th)
            generalize hv1 : v0.setCell _ _ = v1 at *
            have G2 := Fr.set1 v1 ⟨w.heap.size, 1, none⟩ (.slice A l.length c)
            generalize hv2 : v1.setCell _ _ = v2 at *
            have G3 := Fr.set1 v2 ⟨w.heap.size, 2, none⟩ (.slice A2 inner.length c2)
            generalize hv3 : v2.setCell _ _ = v3 at *
            have GG : Fr (some (w.heap.size + 1)) w3 v0 := G0
            have hkk : ∀ k, Dn (w.heap.size + 2) w3 k → Dn w.heap.size v3 k ∧ v3.heap[k]? = w3.heap[k]? := fun k hk => by
              obtain ⟨k0, e0⟩ := dn_fr (B := w.heap.size + 2) G0 (by simp) k hk
              obtain ⟨k1, e1⟩ := dn_fr (B := w.heap.size + 2) G1 (by simp) k k0
              obtain ⟨k2, e2⟩ := dn_fr (B := w.heap.size + 2) G2 (by simp) k k1
              obtain ⟨k3, e3⟩ := dn_fr (B := w.heap.size + 2) G3 (by simp) k k2
              exact ⟨⟨by have := k3.1; omega, k3.2⟩, by rw [e3, e2, e1, e0]⟩
            have SS := (((S3.frs G0 (by simp; omega)).frs G1 (by simp; omega)).frs G2 (by simp; omega)).frs G3 (by simp; omega)
            have FF := (((F.own G0 (by simp)).own G1 (by simp)).own G2 (by simp)).own G3 (by simp)
            have hsb : sizeL inner ≤ 3 * sizeB d := Nat.le_trans hsz (Nat.mul_le_mul_right _ hi3)
            refine ⟨_, .mk th l inner, rfl, TrD.mk_ (by constructor <;> omega) (hk3.keep hkk) (fun x hx => by have := hkr x hx; constructor <;> omega) (hc3.keep hkk) (by omega) (by omega) (TrsD.keep hkk _ _ ht3), ?_, ?_, ?_, SS, FF⟩
            · simp only [Tr.dep]; omega
            · simp only [Tr.size, sizeB]; omega
            · simp only [nodesIn]; exact ⟨hkr, hni⟩
/-- What Trust(t, n, d) makes: a valid trust over nodes below n. -/
def GenP (w : World) (g n d : Nat) (e : Ending) (w' : World) : Prop :=
  ∃ v T, e = .returned v ∧ TrD w' (Dn w.heap.size w') v T ∧ validE T = 0 ∧ T.dep ≤ d ∧ nodesIn n T ∧ SrcR 88 w' g ∧ Fr (some g) w w'

theorem sizeB_le : ∀ d, d ≤ 6 → sizeB d ≤ 3000 := by
  intro d hd
  have : d = 0 ∨ d = 1 ∨ d = 2 ∨ d = 3 ∨ d = 4 ∨ d = 5 ∨ d = 6 := by omega
  rcases this with rfl | rfl | rfl | rfl | rfl | rfl | rfl <;> simp [sizeB]

set_option maxRecDepth 100000 in
set_option maxHeartbeats 2000000 in
theorem mkTrust_any (n d g : Nat) (w : World) (hn1 : 1 ≤ n) (hn2 : n ≤ 10) (hd1 : 1 ≤ d) (hd6 : d ≤ 6) (S0 : SrcR 88 w g) :
    Calls Tryz.prog 70 #[.pointer (some ⟨g, 0, none⟩), .int .i64 n, .int .i64 d] w (GenP w g n d) := by
  have hg := S0.lt
  go_enter Tryz.func70, Tryz.ntmps70
  go_wp2_with fail
  generalize hW : w.alloc _ = w1
  have hz : w1.heap.size = w.heap.size + 1 := by rw [← hW]; simp
  have F1 : Fr none w w1 := hW ▸ ((Fr.refl _ w).alloc _)
  have b6 : TB w1 w.heap.size (.int .i64 0) (.slice none 0 0) (.slice none 0 0) := by
    rw [← hW]; exact blk_new _ _
  have S1 := S0.fr F1
  clear hW S0
  refine (mktrust_any n hn1 (by omega) d g _ hd1 hd6 S1).mono ?_
  rintro e w2 ⟨v, T, rfl, hT, hdp, hsz, hni, S2, F2⟩
  obtain ⟨th, A1, n1, c1, A2, n2, c2, rfl⟩ := hT.shape
  have hz2 := F2.size
  have b6 := b6.fr F2 (by simp; omega)
  have F2 := (F1.mono (r := some g)).same F2
  have hlt1 : w.heap.size < w2.heap.size := by omega
  have hT := TrD.keep (dn_mono (B := w.heap.size + 1) (by omega)) _ _ hT
  clear S1 F1
  go_wp2_with fail
  generalize hW : w2.alloc _ = w3
  have F23 : Fr none w2 w3 := hW ▸ ((Fr.refl _ w2).alloc _)
  have hz3 : w3.heap.size = w2.heap.size + 1 := by rw [← hW]; simp
  have b7 : TB w3 w2.heap.size (.int .i64 th) (.slice A1 n1 c1) (.slice A2 n2 c2) := by rw [← hW]; exact blk_new _ _
  have b6 := b6.fr F23 (by simp)
  have hT := TrD.keep (dn_fr F23 (by simp)) _ _ hT
  have S3 := S2.fr F23
  have F3 := F2.pure F23
  have hsb := sizeB_le d hd6
  clear hW S2 F2 F23
  have hT0 : TrR w3 none (.agg #[.int .i64 th, .slice A1 n1 c1, .slice A2 n2 c2]) T := TrD.keep (dn_dm (B := w.heap.size + 1) (by simp)) _ _ hT
  refine (rvalidT_any T _ _ none (by omega) hT0).mono ?_
  rintro e w4 ⟨rfl, F4⟩
  have hz4 := F4.size
  have b6 := b6.fr F4 (by simp)
  have b7 := b7.fr F4 (by simp)
  have hT := TrD.keep (dn_fr F4 (by simp)) _ _ hT
  have S4 := S3.fr F4
  have F4 := F3.pure F4
  clear hT0 S3 F3
  have R6 := b6.cell
  have Z6 := b6.free
  have R7 := b7.cell
  by_cases hv : validE T = 0
  · have hv0 : (validE T != 0) = false := by rw [bne_eq_false_iff_eq]; exact hv
    have HV := Lib.hid hv
    clear hv
    go_wp2_with fail
    refine bodyPost_ret (v := .agg #[.int .i64 th, .slice A1 n1 c1, .slice A2 n2 c2]) (by simp [results, Tryz.results70, go_sem, R6]) rfl ?_
    have G := fr_fill3 w4 w.heap.size (.int .i64 th) (.slice A1 n1 c1) (.slice A2 n2 c2)
    exact ⟨_, T, rfl, TrD.keep (dn_mono (by omega)) _ _ (TrD.keep (dn_fr G (by simp)) _ _ hT), HV.out, hdp, hni, S4.frs G (by simp; omega), F4.own G (by simp)⟩
  · have hv0 : (validE T != 0) = true := by rw [bne_iff_ne]; exact hv
    clear hv
    go_wp2_with fail
    refine (tapeN_any n g _ (by omega) (by omega) S4).mono ?_
    rintro e w5 ⟨x, rfl, x1, x2, S5, F5⟩
    have hz5 := F5.size
    have b6' := b6.fr F5 (by simp; omega)
    have R6' := b6'.cell
    have Z6' := b6'.free
    have hlt5 : w.heap.size < w5.heap.size := by omega
    clear R6 Z6 R7
    go_wp2_with fail
    refine bodyPost_ret (v := .agg #[.int .i64 1, .slice (some ⟨w5.heap.size, 0, none⟩) 1 1, .slice none 0 0]) (by simp [results, Tryz.results70, go_sem, R6', hlt5]) rfl ?_
    have G := fr_fill3 w5 w.heap.size (.int .i64 1) (.slice (some ⟨w5.heap.size, 0, none⟩) 1 1) (.slice none 0 0)
    generalize hw6 : World.setCell (World.setCell (World.setCell w5 _ _) _ _) _ _ = w6 at *
    have hz6 : w6.heap.size = w5.heap.size := by rw [← hw6]; simp [World.setCell]
    rw [← hz6]
    have hA := (Fr.refl none w6).alloc (.cells #[.int .i64 x] 3)
    refine ⟨_, .mk 1 [x] [], rfl, TrD.mk_ (by constructor <;> omega) (SlD.lit_dn #[.int .i64 x] 3 1 1 w.heap.size rfl (by unfold maxLen; omega) (by omega) (Fr.refl none _)) (by intro y hy; simp at hy; constructor <;> omega) (SlD.nil _ _ _) (by simp) (by simp) (by simp [TrsD]), validE_flat x x1 (by omega), by simp [Tr.dep, depL]; omega, by simp only [nodesIn, nodesInL]; exact ⟨by intro y hy; simp at hy; omega, trivial⟩, (S5.frs G (by simp; omega)).fr hA, ((F4.same F5).own G (by simp)).pure hA⟩
end Go.Proofs.YtpdhckbiioobhaaGreatDoor

/- Walks: the makers of layer 4's law: crowded, trust. -/
namespace Go.Proofs.YtpdhckbiioobhaaGreatDoor
open Go.RowKit

def sizeC : Nat → Nat
  | 0 => 0
  | d + 1 => 5 + 2 * sizeC d
theorem okTs_append (l m : List Tr) : OkTs l → OkTs m → OkTs (l ++ m) := by
  rw [okTs_iff, okTs_iff, okTs_iff]
  intro h1 h2 x hx
  rcases List.mem_append.1 hx with h | h
  · exact h1 x h
  · exact h2 x h
/-- What crowded(n, d) makes. -/
def CrwP (w : World) (g d : Nat) (e : Ending) (w' : World) : Prop :=
  ∃ v T, e = .returned v ∧ TrD w' (Dn w.heap.size w') v T ∧ T.dep ≤ d ∧ T.size ≤ sizeC d ∧ OkT T ∧ SrcR 88 w' g ∧ Fr (some g) w w'

set_option maxRecDepth 100000 in
set_option maxHeartbeats 1600000 in
theorem crowded_any (n : Nat) (hn1 : 1 ≤ n) (hn2 : n ≤ 6) (d : Nat) : ∀ (g : Nat) (w : World), 1 ≤ d → d ≤ 4 → SrcR 88 w g →
    Calls Tryz.prog 80 #[.pointer (some ⟨g, 0, none⟩), .int .i64 n, .int .i64 d] w (CrwP w g d) := by
  induction d with
  | zero => intro g w h; omega
  | succ d ih =>
    intro g w _ hd4 S0
    have hg := S0.lt
    rw [show ((d + 1 : Nat) : Int) = (d : Int) + 1 by omega]
    go_enter Tryz.func80, Tryz.ntmps80
    go_upto_region 2 with (fail)
    generalize hW : (w.alloc _).alloc _ = w1
    have hz : w1.heap.size = w.heap.size + 2 := by rw [← hW]; simp
    have F1 : Fr none w w1 := hW ▸ ((Fr.refl _ w).alloc _).alloc _
    have b6 : TB w1 w.heap.size (.int .i64 0) (.slice none 0 0) (.slice none 0 0) := by
      rw [← hW]; exact (Below.heap_alloc _ _ _ (by simp)).trans (blk_new _ _)
    have b7 : TB w1 (w.heap.size + 1) (.int .i64 0) (.slice none 0 0) (.slice none 0 0) := by
      rw [← hW]; exact blk_new_at (by simp) _
    have S1 := S0.fr F1
    clear hW S0
    go_cut [12, 13, 14, 15, 16, 17, 18, 19, 20, 21, 22] (fun _ _ _ _ _ _ _ _ s20 s21 s22 wr => ∃ (ks : List Int) (A : Option Addr) (c : Nat), s20 = .slice A ks.length c ∧ s21 = .int .i64 (ks.length : Nat) ∧ s22 = .int .i64 0 ∧ SlD wr (Dn (w.heap.size + 2) wr) 1 (.slice A ks.length c) (ks.map (Value.int .i64)) ∧ ks.length ≤ 3 ∧ (∀ x ∈ ks, 0 ≤ x ∧ x < (n : Int)) ∧ ks.Nodup ∧
      Fr (some g) w wr ∧ w.heap.size + 2 ≤ wr.heap.size ∧ SrcR 88 wr g ∧ TB wr w.heap.size (.int .i64 0) (.slice none 0 0) (.slice none 0 0) ∧ TB wr (w.heap.size + 1) (.int .i64 0) (.slice none 0 0) (.slice none 0 0))
    case first =>
      go_wp2_with fail
      refine (tapeOrder_any n g _ (by omega) S1).mono ?_
      rintro e w2 ⟨ov, ol, rfl, hperm, hol, S2, F2⟩
      have hz2 := F2.size
      have b6 := b6.fr F2 (by simp; omega)
      have b7 := b7.fr F2 (by simp; omega)
      have F2 := (F1.mono (r := some g)).same F2
      clear S1 F1
      obtain ⟨A0, c0, rfl, p1, p2⟩ := hol.formI
      have hlen : ol.length = n := by rw [hperm.length_eq, ints_len]
      have HLEN := Lib.hid hlen
      have hrange : ∀ x ∈ ol, 0 ≤ x ∧ x < (n : Int) := fun x hx => by
        have := hperm.mem_iff.1 hx
        simp only [ints, List.mem_map, List.mem_range] at this
        obtain ⟨y, hy, rfl⟩ := this
        constructor <;> simp <;> omega
      have hnd : ol.Nodup := hperm.nodup_iff.2 (by
        unfold ints List.Nodup
        rw [List.pairwise_map]
        exact List.nodup_range.imp (fun h e => h (by have := Int.ofNat.inj e; exact this)))
      clear hlen
      go_wp2_with fail
      all_goals
        refine (tapeN_any _ g _ (by omega) (by omega) S2).mono ?_
        rintro e w3 ⟨x, rfl, x1, x2, S3, F3⟩
        obtain ⟨k, rfl⟩ := Int.eq_ofNat_of_zero_le (show 0 ≤ x by omega)
        have hz3 := F3.size
        have hkn : k ≤ ol.length := by have := HLEN.out; omega
        go_wp2_with fail
        go_meet
        have hk := (hol.keep (dn_mono (B := w.heap.size + 2) (by omega))).keep (dn_fr F3 (by simp; omega))
        have hkt := hk.take k hkn
        have hlt : (ol.take k).length = k := List.length_take_of_le hkn
        refine ⟨ol.take k, A0, c0, by rw [hlt], by rw [hlt], rfl, by rw [hlt]; simpa using hkt, by rw [hlt]; omega, fun x hx => hrange x (List.mem_of_mem_take hx), List.Sublist.nodup (List.take_sublist _ _) hnd, F2.same F3, by omega, S3, b6.fr F3 (by simp; omega), b7.fr F3 (by simp; omega)⟩
    case rest =>
      clear b6 b7 S1 F1 hz
      obtain ⟨ks, A, c, rfl, rfl, rfl, hks, hk5, hkr, hkd, F, hs, S, K6, K7⟩ := hcut
      go_wp2_with fail
      have hks0 : SlD wc (fun b => w.heap.size + 2 ≤ b ∧ b < wc.heap.size) 1 (.slice A ks.length c) (ks.map (Value.int .i64)) := hks
      clear hks
      go_loopw [9, 22] (fun _ i wr => ∃ (j : Nat) (A1 : Option Addr) (c1 : Nat), j ≤ ks.length ∧ i = .int .i64 j ∧ Fr (some g) w wr ∧ wc.heap.size ≤ wr.heap.size ∧ SrcR 88 wr g ∧ TB wr w.heap.size (.int .i64 0) (.slice none 0 0) (.slice none 0 0) ∧ TB wr (w.heap.size + 1) (.int .i64 0) (.slice A1 j c1) (.slice none 0 0) ∧
        wr.ownsRow wc.heap.size 3 1 (.slice A1 j c1) j ((ks.take j).map (Value.int .i64)) ∧ SlD wr (fun b => w.heap.size + 2 ≤ b ∧ b < wc.heap.size) 1 (.slice A ks.length c) (ks.map (Value.int .i64))) (fun _ i _ => ks.length - (intOf i).toNat)
      case atStart => exact ⟨0, none, 0, Nat.zero_le _, rfl, F, Nat.le_refl _, S, K6, K7, World.ownsRow_nil _ _ _ _, hks0⟩
      case round =>
        clear hks0 K6 K7 S F
        obtain ⟨j, A1, c1, hj, rfl, F, hs2, S, K6, K7, own, hks⟩ := hrel
        by_cases hlt : j < ks.length
        · obtain ⟨b, off, rfl, hb, hcj⟩ := hks.cellI j hlt
          have HT : Hid (ks.take (j + 1) = ks.take j ++ [ks[j]]) := List.take_succ_eq_append_getElem hlt
          have R7 := K7.cell
          have Z7 := K7.free
          go_wp2_with (at_builtin; refine app_lit eiInt rfl _ _ rfl wc.heap.size A1 j c1 _ rfl own 1 [.int .i64 ks[j]] _ _ rfl (by simp) rfl (by simp [Value.oneCell']) (by omega) (by unfold maxLen; omega) (by omega) ?_; intro A' c' w' own' F' bl'; have K7' := K7.fr F' (own_ne own (by omega)); have K6' := K6.fr F' (own_ne own (by omega)); have R7' := K7'.cell; have Z7' := K7'.free; have hz3 := F'.size; clear R7 Z7)
          have FS := Fr.set1 w' ⟨w.heap.size + 1, 1, none⟩ (.slice A' (j + 1) c')
          have og := own_blk_ge own
          go_roundw
          case rel =>
            refine ⟨j + 1, A', c', by omega, by go_num, (F.own F' (fun g e => by have := og g e; omega)).own FS (by simp), by have := FS.size; omega, (S.frs F' (fun b e => by have := og b e; omega)).frs FS (by simp; omega), K6'.fr FS (by simp), ?_, ?_, ?_⟩
            · simpa using K7'.set1 (.slice A' (j + 1) c')
            · rw [HT.out, List.map_append]; exact own_fr own' FS (by simp; omega)
            · exact (hks.keep (fun k hk => ⟨hk, F'.block k (by omega) (fun e => by have := og k e.symm; omega)⟩)).keep (fun k hk => ⟨hk, FS.block k (by omega) (by simp; omega)⟩)
          case measure => simp [intOf]; omega
        · obtain rfl : j = ks.length := by omega
          have hks' : SlD wr (Dn (w.heap.size + 2) wr) 1 (.slice A1 ks.length c1) (ks.map (Value.int .i64)) := by
            have := SlD.own_dn own
            rw [List.take_length] at this
            exact this.keep (dn_mono (by omega))
          clear own hks
          obtain ⟨wo, rfl⟩ : ∃ wo : World, wo = wr := ⟨_, rfl⟩
          go_wp2_with fail
          have FA := (Fr.refl none wo).alloc (.cells #[.int .i64 0, .int .i64 1, .int .i64 2, .int .i64 2] 3)
          have hlit : SlI (wo.alloc (.cells #[.int .i64 0, .int .i64 1, .int .i64 2, .int .i64 2] 3)) (some g) (.slice (some ⟨wo.heap.size, 0, none⟩) 4 4) [0, 1, 2, 2] :=
            ⟨SlD.lit_dm #[.int .i64 0, .int .i64 1, .int .i64 2, .int .i64 2] 3 4 1 rfl (by unfold maxLen; omega) (by simp; omega) (Fr.refl _ _), by intro x hx; simp at hx; constructor <;> omega⟩
          refine (tapePick_any _ [0, 1, 2, 2] g _ hlit (by simp) (by simp) (S.fr FA)).mono ?_
          rintro e wp ⟨x, rfl, hx, Sp, Fp⟩
          have hx0 : 0 ≤ x ∧ x ≤ 2 := by simp at hx; omega
          have FAp : Fr (some g) wo wp := FA.mono.same Fp
          have hzp := FAp.size
          have Kp6 := K6.fr FAp (by simp; omega)
          have Kp7 := K7.fr FAp (by simp; omega)
          have Fwp := F.same FAp
          have hksp := hks'.keep (dn_fr FAp (by simp; omega))
          clear hx hlit FA Fp FAp K6 K7 F S hks'
          have hksD : SlD wp (fun b => w.heap.size + 2 ≤ b ∧ b < wp.heap.size) 1 (.slice A1 ks.length c1) (ks.map (Value.int .i64)) := hksp
          clear hksp
          go_wp2_with fail
          go_loopw [10] (fun s11 wr => ∃ (i : Int) (inner : List Tr) (A2 : Option Addr) (c2 : Nat) (cells : List Value), s11 = .int .i64 i ∧ 0 ≤ i ∧ inner.length + i ≤ 2 ∧ Fr (some g) w wr ∧ wp.heap.size ≤ wr.heap.size ∧ SrcR 88 wr g ∧
            TB wr w.heap.size (.int .i64 0) (.slice none 0 0) (.slice none 0 0) ∧ TB wr (w.heap.size + 1) (.int .i64 0) (.slice A1 ks.length c1) (.slice A2 inner.length c2) ∧
            SlD wr (fun b => w.heap.size + 2 ≤ b ∧ b < wp.heap.size) 1 (.slice A1 ks.length c1) (ks.map (Value.int .i64)) ∧
            wr.ownsRow wp.heap.size 31 3 (.slice A2 inner.length c2) inner.length cells ∧ TrsD wr (Dx wp.heap.size wr (.slice A2 inner.length c2)) cells inner ∧
            depL inner ≤ d ∧ sizeL inner ≤ inner.length * sizeC d ∧ OkTs inner) (fun s11 _ => (intOf s11).toNat)
          case atStart => exact ⟨x, [], none, 0, [], rfl, hx0.1, by simp; omega, Fwp, Nat.le_refl _, Sp, Kp6, Kp7, hksD, World.ownsRow_nil _ _ _ _, by simp [TrsD], by simp [depL], by simp [sizeL], by simp [OkTs]⟩
          case round =>
            clear hksD Kp6 Kp7 Sp Fwp
            obtain ⟨i, inner, A2, c2, cells, rfl, hi0, hi3, F, hs3, S, K6, K7, hks, own, hts, hdp, hsz, hni⟩ := hrel
            by_cases hi : 0 < i ∧ d ≠ 0
            · obtain ⟨hi, hd0⟩ := hi
              have hsp : w.heap.size < wr.heap.size := by omega
              have hsp1 : w.heap.size + 1 < wr.heap.size := by omega
              have R7 := K7.cell
              have Z7 := K7.free
              have hwd : IntKind.i64.wrap (d : Int) = d := IntWalk.i64_in _ (by omega)
              go_wp2_with fail
              go_region_law (first
                | (go_simp; go_at_call 80; refine (ih g _ (by omega) (by omega) (by exact S.drew)).mono ?_; rintro e w3 ⟨v3, T3, rfl, hT3, hd3, hs3', hn3, S3, F3⟩; obtain ⟨th, a1, n1, e1, a2, n2, e2, rfl⟩ := hT3.shape; have F3' := ((Fr.refl (some g) wr).drew).same F3; have T3x := K7.fr F3' (by simp; omega); have R3 := T3x.cell; have Z3 := T3x.free; have own3 := own_fr own F3' (by simp; omega); have hz3 := F3'.size; have hsp3 : w.heap.size < w3.heap.size := (by omega); have hsp4 : w.heap.size + 1 < w3.heap.size := (by omega))
                | (refine step_app_lit eiTrust rfl _ _ rfl wp.heap.size A2 inner.length c2 _ rfl own3 1 [.int .i64 th, .slice a1 n1 e1, .slice a2 n2 e2] 31 _ rfl (by simp) rfl (by simp [Value.oneCell']) (by omega) (by unfold maxLen; omega) (by omega) ?_; intro A3 c3 w5 own5 F5 bl5; have T5 := T3x.fr F5 (own_ne own3 (by omega)); have R6 := T5.cell; have Z6 := T5.free))
              all_goals
                go_wp2_with fail
                have FS := Fr.set1 w5 ⟨w.heap.size + 1, 2, none⟩ (.slice A3 (inner.length + 1) c3)
                have og := own_blk_ge own3
                have ol := own.lt
                have hz5 := F5.size
                have hzS := FS.size
                go_roundw
                case rel =>
                  have t1 := (TrsD.keep (dx_fr FS (by simp; omega)) _ _ (TrsD.keep (dx_app F5 bl5) _ _ (TrsD.keep (dx_fr F3' (by simp; omega)) _ _ hts)))
                  have t2 := TrD.keep (dx_fr FS (by simp; omega)) _ _ (TrD.keep (dx_app F5 bl5) _ _ (TrD.keep (dn_dx (B := wp.heap.size) (v := .slice A2 inner.length c2) (by exact hs3) (fun q hq => (ol q hq).2)) _ _ hT3))
                  have hln : (inner ++ [T3]).length = inner.length + 1 := by simp
                  refine ⟨i - 1, inner ++ [T3], A3, c3, cells ++ [.int .i64 th, .slice a1 n1 e1, .slice a2 n2 e2], by go_num, by omega, by rw [hln]; omega, ((F.same F3').own F5 (fun q e => by have := og q e; omega)).own FS (by simp), by omega, (S3.frs F5 (fun q e => by have := og q e; omega)).frs FS (by simp; omega), ((K6.fr F3' (by simp; omega)).fr F5 (own_ne own3 (by omega))).fr FS (by simp), by rw [hln]; exact T5.set2 _, ?_, by rw [hln]; exact own_fr own5 FS (by simp; omega), by rw [hln]; exact TrsD.append t1 (by simp only [TrsD]; exact ⟨_, _, _, [], rfl, t2, rfl⟩), ?_, ?_, okTs_append _ _ hni (by simp only [OkTs]; exact ⟨hn3, trivial⟩)⟩
                  · exact ((hks.keep (fun k hk => ⟨hk, F3'.block k (by omega) (by simp; omega)⟩)).keep (fun k hk => ⟨hk, F5.block k (by omega) (fun e => by have := og k e.symm; omega)⟩)).keep (fun k hk => ⟨hk, FS.block k (by omega) (by simp; omega)⟩)
                  · rw [depL_append]; simp only [depL]; omega
                  · rw [sizeL_append, hln, Nat.succ_mul]; simp only [sizeL]; omega
                case measure => simp [intOf]; omega
            · have hks1 : SlD wr (Dn (w.heap.size + 2) wr) 1 (.slice A1 ks.length c1) (ks.map (Value.int .i64)) := hks.keep (fun k hk => ⟨⟨hk.1, by omega⟩, rfl⟩)
              have hc1 : SlD wr (Dn (w.heap.size + 2) wr) 3 (.slice A2 inner.length c2) cells := (SlD.own_dn own).keep (dn_mono (by omega))
              have ht1 : TrsD wr (Dn (w.heap.size + 2) wr) cells inner := TrsD.keep (fun k hk => ⟨⟨by have := hk.1; omega, hk.2.1⟩, rfl⟩) _ _ hts
              have R7 := K7.cell
              have Z7 := K7.free
              have R6 := K6.cell
              have Z6 := K6.free
              have hsp : w.heap.size < wr.heap.size := by omega
              have hsp1 : w.heap.size + 1 < wr.heap.size := by omega
              have hinl : inner.length ≤ 2 := by omega
              have hgd : i = 0 ∨ (0 < i ∧ d = 0) := by
                by_cases h0 : d = 0
                · by_cases h1 : 0 < i
                  · exact .inr ⟨h1, h0⟩
                  · exact .inl (by omega)
                · exact .inl (by have := fun h1 => hi ⟨h1, h0⟩; omega)
              clear hks own hts hi
              by_cases hm : ks.length + inner.length = 0
              · have hk0 : ks.length = 0 := by omega
                have hi0' : inner.length = 0 := by omega
                rcases hgd with rfl | ⟨hi1, rfl⟩
                all_goals
                  go_wp2_with fail
                  refine (tapeN_any n g _ (by omega) (by omega) S).mono ?_
                  rintro e w5 ⟨y, rfl, y1, y2, S5, F5⟩
                  have hz5 := F5.size
                  have b6' := K6.fr F5 (by simp; omega)
                  have R6' := b6'.cell
                  have Z6' := b6'.free
                  have hlt5 : w.heap.size < w5.heap.size := by omega
                  clear R6 Z6 R7 Z7
                  go_wp2_with fail
                  refine bodyPost_ret (v := .agg #[.int .i64 1, .slice (some ⟨w5.heap.size, 0, none⟩) 1 1, .slice none 0 0]) (by simp [results, Tryz.results80, go_sem, R6', hlt5]) rfl ?_
                  have G := fr_fill3 w5 w.heap.size (.int .i64 1) (.slice (some ⟨w5.heap.size, 0, none⟩) 1 1) (.slice none 0 0)
                  generalize hw6 : World.setCell (World.setCell (World.setCell w5 _ _) _ _) _ _ = w6 at *
                  have hz6 : w6.heap.size = w5.heap.size := by rw [← hw6]; simp [World.setCell]
                  rw [← hz6]
                  have hA := (Fr.refl none w6).alloc (.cells #[.int .i64 y] 3)
                  exact ⟨_, .mk 1 [y] [], rfl, TrD.mk_ (by constructor <;> omega) (SlD.lit_dn #[.int .i64 y] 3 1 1 w.heap.size rfl (by unfold maxLen; omega) (by omega) (Fr.refl none _)) (by intro y hy; simp at hy; constructor <;> omega) (SlD.nil _ _ _) (by simp) (by simp) (by simp [TrsD]), by simp [Tr.dep, depL], by (simp [Tr.size, sizeL, sizeC] <;> omega), by (simp [OkT, OkTs] <;> omega), (S5.frs G (by simp; omega)).fr hA, ((F.same F5).own G (by simp)).pure hA⟩
              · have hmb : ((ks.length : Int) + inner.length == 0) = false := by rw [beq_eq_false_iff_ne]; omega
                rcases hgd with rfl | ⟨hi1, rfl⟩
                all_goals
                  go_wp2_with fail
                  refine (tapeRange_any _ _ g _ (by omega) (by omega) (by omega) S).mono ?_
                  rintro e w3 ⟨y, rfl, y1, y2, S3, F3⟩
                  have hz3 := F3.size
                  have FA := (Fr.refl none w3).alloc (.cells #[.int .i64 1, .int .i64 ((ks.length : Int) + inner.length), .int .i64 1, .int .i64 ((ks.length : Int) + inner.length), .int .i64 y] 3)
                  have hlit : SlI (w3.alloc (.cells #[.int .i64 1, .int .i64 ((ks.length : Int) + inner.length), .int .i64 1, .int .i64 ((ks.length : Int) + inner.length), .int .i64 y] 3)) (some g) (.slice (some ⟨w3.heap.size, 0, none⟩) 5 5) [1, (ks.length : Int) + inner.length, 1, (ks.length : Int) + inner.length, y] :=
                    ⟨SlD.lit_dm #[.int .i64 1, .int .i64 ((ks.length : Int) + inner.length), .int .i64 1, .int .i64 ((ks.length : Int) + inner.length), .int .i64 y] 3 5 1 rfl (by unfold maxLen; omega) (by simp; omega) (Fr.refl _ _), by intro x hx; simp at hx; constructor <;> omega⟩
                  go_wp2_with fail
                  refine (tapePick_any _ _ g _ hlit (by simp) (by simp) (S3.fr FA)).mono ?_
                  rintro e w4 ⟨th, rfl, hth, S4, F4⟩
                  have hth1 : 1 ≤ th ∧ th ≤ (ks.length : Int) + inner.length := by simp at hth; omega
                  have F34 := (F3.pure FA).same F4
                  have hz4 := F34.size
                  have K6' := K6.fr F34 (by simp; omega)
                  have K7' := K7.fr F34 (by simp; omega)
                  have R7' := K7'.cell
                  have Z7' := K7'.free
                  have R6' := K6'.cell
                  have Z6' := K6'.free
                  clear R7 Z7 R6 Z6
                  go_wp2_with fail
                  refine bodyPost_ret (v := .agg #[.int .i64 th, .slice A1 ks.length c1, .slice A2 inner.length c2]) (by simp [results, Tryz.results80, go_sem, R6']) rfl ?_
                  have hk3 := hks1.keep (dn_fr F34 (by simp; omega))
                  have hc3 := hc1.keep (dn_fr F34 (by simp; omega))
                  have ht3 := TrsD.keep (dn_fr F34 (by simp; omega)) _ _ ht1
                  have FW := F.same F34
                  have G0 := Fr.set1 w4 ⟨w.heap.size + 1, 0, none⟩ (.int .i64 th)
                  generalize hv0 : w4.setCell _ _ = v0 at *
                  have G1 := fr_fill3 v0 w.heap.size (.int .i64 th) (.slice A1 ks.length c1) (.slice A2 inner.length c2)
                  generalize hv1 : World.setCell (World.setCell (World.setCell v0 _ _) _ _) _ _ = v1 at *
                  have hkk : ∀ k, Dn (w.heap.size + 2) w4 k → Dn w.heap.size v1 k ∧ v1.heap[k]? = w4.heap[k]? := fun k hk => by
                    obtain ⟨k0, e0⟩ := dn_fr (B := w.heap.size + 2) G0 (by simp) k hk
                    obtain ⟨k1, e1⟩ := dn_fr (B := w.heap.size + 2) G1 (by simp) k k0
                    exact ⟨⟨by have := k1.1; omega, k1.2⟩, by rw [e1, e0]⟩
                  have SS := (S4.frs G0 (by simp; omega)).frs G1 (by simp; omega)
                  have FF := (FW.own G0 (by simp)).own G1 (by simp)
                  have hsb : sizeL inner ≤ 2 * sizeC _ := Nat.le_trans hsz (Nat.mul_le_mul_right _ hinl)
                  refine ⟨_, .mk th ks inner, rfl, TrD.mk_ (by constructor <;> omega) (hk3.keep hkk) (fun x hx => by have := hkr x hx; constructor <;> omega) (hc3.keep hkk) (by omega) (by omega) (TrsD.keep hkk _ _ ht3), ?_, ?_, ?_, SS, FF⟩
                  · simp only [Tr.dep]; omega
                  · simp only [Tr.size, sizeC] at hsb ⊢; omega
                  · simp only [OkT]; exact ⟨hth1.1, by omega, fun x hx => by have := hkr x hx; omega, hkd, hni⟩
/-- What law 4's trust makes: a valid trust. -/
def Mk4P (w : World) (g : Nat) (e : Ending) (w' : World) : Prop :=
  ∃ v T, e = .returned v ∧ TrD w' (Dn w.heap.size w') v T ∧ validE T = 0 ∧ SrcR 88 w' g ∧ Fr (some g) w w'
set_option maxRecDepth 100000 in
set_option maxHeartbeats 1000000 in
theorem trust4_any (g : Nat) (w : World) (S0 : SrcR 88 w g) :
    Calls Tryz.prog 19 #[.pointer (some ⟨g, 0, none⟩)] w (Mk4P w g) := by
  have hg := S0.lt
  go_enter Tryz.func19, Tryz.ntmps19
  go_wp2_with fail
  generalize hW : w.alloc _ = w1
  have hz : w1.heap.size = w.heap.size + 1 := by rw [← hW]; simp
  have F1 : Fr none w w1 := hW ▸ ((Fr.refl _ w).alloc _)
  have b6 : TB w1 w.heap.size (.int .i64 0) (.slice none 0 0) (.slice none 0 0) := by
    rw [← hW]; exact blk_new _ _
  have S1 := S0.fr F1
  clear hW S0
  refine (tapeRange_any _ _ g _ (by omega) (by omega) (by omega) S1).mono ?_
  rintro e w2 ⟨x, rfl, x1, x2, S2, F2⟩
  obtain ⟨n, rfl⟩ := Int.eq_ofNat_of_zero_le (show 0 ≤ x by omega)
  go_wp2_with fail
  refine (tapeN_any _ g _ (by omega) (by omega) S2).mono ?_
  rintro e w3 ⟨y, rfl, y1, y2, S3, F3⟩
  have hz2 := F2.size
  have hz3 := F3.size
  have b6 := (b6.fr F2 (by simp; omega)).fr F3 (by simp; omega)
  have F3 := ((F1.mono (r := some g)).same F2).same F3
  clear S1 S2 F1 F2
  by_cases hy : y = 0
  · subst hy
    go_wp2_with fail
    refine (crowded_any n (by omega) (by omega) 4 g _ (by omega) (by omega) S3).mono ?_
    rintro e w4 ⟨v, T, rfl, hT, hdp, hsz, hok, S4, F4⟩
    obtain ⟨th, A1, n1, c1, A2, n2, c2, rfl⟩ := hT.shape
    have hz4 := F4.size
    have b6 := b6.fr F4 (by simp; omega)
    have R6 := b6.cell
    have Z6 := b6.free
    have hl6 := blk_lt b6
    go_wp2_with fail
    refine bodyPost_ret (v := .agg #[.int .i64 th, .slice A1 n1 c1, .slice A2 n2 c2]) (by simp [results, Tryz.results19, go_sem, R6]) rfl ?_
    have G := fr_fill3 w4 w.heap.size (.int .i64 th) (.slice A1 n1 c1) (.slice A2 n2 c2)
    refine ⟨_, T, rfl, TrD.keep (dn_mono (by omega)) _ _ (TrD.keep (dn_fr G (by simp; omega)) _ _ hT), ?_, S4.frs G (by simp; omega), (F3.same F4).own G (by simp)⟩
    unfold validE
    have : sizeC 4 = 75 := rfl
    rw [if_neg (by omega)]
    exact (okT_iff T).2 hok
  · have hyb : (y == 0) = false := by rw [beq_eq_false_iff_ne]; exact hy
    go_wp2_with fail
    refine (mkTrust_any n 4 g _ (by omega) (by omega) (by omega) (by omega) S3).mono ?_
    rintro e w4 ⟨v, T, rfl, hT, hok, hdp, hni, S4, F4⟩
    obtain ⟨th, A1, n1, c1, A2, n2, c2, rfl⟩ := hT.shape
    have hz4 := F4.size
    have b6 := b6.fr F4 (by simp; omega)
    have R6 := b6.cell
    have Z6 := b6.free
    have hl6 := blk_lt b6
    go_wp2_with fail
    refine bodyPost_ret (v := .agg #[.int .i64 th, .slice A1 n1 c1, .slice A2 n2 c2]) (by simp [results, Tryz.results19, go_sem, R6]) rfl ?_
    have G := fr_fill3 w4 w.heap.size (.int .i64 th) (.slice A1 n1 c1) (.slice A2 n2 c2)
    exact ⟨_, T, rfl, TrD.keep (dn_mono (by omega)) _ _ (TrD.keep (dn_fr G (by simp; omega)) _ _ hT), hok, S4.frs G (by simp; omega), (F3.same F4).own G (by simp)⟩
end Go.Proofs.YtpdhckbiioobhaaGreatDoor

/- Plain: the normal form of a normal form is itself. -/
namespace Go.Proofs.YtpdhckbiioobhaaGreatDoor

/-- A single node that is not among others. -/
def Lif (n : List Int) (x : Tr) : Prop := ∃ thr k, x = .mk thr [k] [] ∧ k ∉ n
theorem liftS_no {n : List Int} {x : Tr} (h : ¬ Lif n x) (i : List Tr) : liftS (n, i) x = (n, i ++ [x]) := by
  obtain ⟨thr, nodes, inner⟩ := x
  unfold liftS
  simp only [Tr.nodes, Tr.inner]
  split
  · rename_i k
    split
    · rfl
    · rename_i h2
      exact absurd ⟨thr, k, rfl, any_false_mem h2⟩ h
  · rfl
theorem liftS_yes {n : List Int} {thr : Int} {k : Int} (h : k ∉ n) (i : List Tr) : liftS (n, i) (.mk thr [k] []) = (n ++ [k], i) := by
  unfold liftS
  simp only [Tr.nodes, Tr.inner]
  rw [if_neg]
  intro hc
  obtain ⟨x, hx, e⟩ := List.any_eq_true.1 hc
  exact h ((of_decide_eq_true e) ▸ hx)
theorem Lif.mono {n m : List Int} {x : Tr} (hs : ∀ k ∈ n, k ∈ m) (h : ¬ Lif n x) : ¬ Lif m x := fun ⟨t, k, e, hk⟩ => h ⟨t, k, e, fun hm => hk (hs k hm)⟩
/-- What lifting leaves: nothing that can be lifted. -/
theorem lift_none : ∀ (L : List Tr) (st : List Int × List Tr), (∀ x ∈ st.2, ¬ Lif st.1 x) → (∀ k ∈ st.1, k ∈ (L.foldl liftS st).1) ∧ (∀ x ∈ (L.foldl liftS st).2, ¬ Lif (L.foldl liftS st).1 x) ∧ ∀ x ∈ (L.foldl liftS st).2, x ∈ st.2 ∨ x ∈ L
  | [], st, h => ⟨fun k hk => hk, h, fun x hx => .inl hx⟩
  | x :: r, (n, i), h => by
    rw [List.foldl_cons]
    by_cases hl : Lif n x
    · obtain ⟨thr, k, rfl, hk⟩ := hl
      rw [liftS_yes hk]
      obtain ⟨a, b, c⟩ := lift_none r (n ++ [k], i) (fun y hy => Lif.mono (fun z hz => List.mem_append_left _ hz) (h y hy))
      exact ⟨fun z hz => a z (List.mem_append_left _ hz), b, fun y hy => (c y hy).imp id (List.mem_cons_of_mem _)⟩
    · rw [liftS_no hl]
      obtain ⟨a, b, c⟩ := lift_none r (n, i ++ [x]) (fun y hy => by
        rcases List.mem_append.1 hy with hy | hy
        · exact h y hy
        · rw [List.mem_singleton.1 hy]; exact hl)
      refine ⟨a, b, fun y hy => ?_⟩
      rcases c y hy with hy | hy
      · rcases List.mem_append.1 hy with hy | hy
        · exact .inl hy
        · exact .inr (by rw [List.mem_singleton.1 hy]; simp)
      · exact .inr (List.mem_cons_of_mem _ hy)
theorem lift_fix : ∀ (L : List Tr) (n : List Int) (i : List Tr), (∀ x ∈ L, ¬ Lif n x) → L.foldl liftS (n, i) = (n, i ++ L)
  | [], n, i, _ => by simp
  | x :: r, n, i, h => by
    rw [List.foldl_cons, liftS_no (h x (by simp)), lift_fix r n _ (fun y hy => h y (List.mem_cons_of_mem _ hy))]
    simp

/-- The normal forms. -/
def NF1 (thr : Int) (n : List Int) (i : List Tr) : Prop :=
  sortN n = n ∧ Asc i ∧ (∀ x ∈ i, ¬ Lif n x) ∧ (thr = 1 ∨ thr = ((n.length + i.length : Nat) : Int) → i.Nodup ∧ ∀ x ∈ i, tak (decide (thr ≠ 1)) x = false) ∧ ¬ (n = [] ∧ i.length = 1)
mutual
def NF : Tr → Prop
  | .mk thr n i => NF1 thr n i ∧ NFs i
def NFs : List Tr → Prop
  | [] => True
  | x :: r => NF x ∧ NFs r
end
theorem nfs_iff : ∀ l : List Tr, NFs l ↔ ∀ x ∈ l, NF x
  | [] => by simp [NFs]
  | x :: r => by simp [NFs, nfs_iff r]
theorem withT_new {l : List Tr} {t : Tr} (h : t ∉ l) : withT l t = l ++ [t] := by
  unfold withT
  rw [if_neg]
  intro hc
  obtain ⟨x, hx, e⟩ := List.any_eq_true.1 hc
  exact h (((cmpT_zero x t).1 (of_decide_eq_true e)) ▸ hx)
theorem merge_fix (all : Bool) : ∀ (L : List Tr) (n : List Int) (i : List Tr), (i ++ L).Nodup → (∀ x ∈ L, tak all x = false) → L.foldl (mergeS all) (n, i) = (n, i ++ L)
  | [], n, i, _, _ => by simp
  | x :: r, n, i, h, ht => by
    have hx : x ∉ i := fun hi => by
      obtain ⟨_, _, h3⟩ := List.nodup_append.1 h
      exact h3 x hi x (by simp) rfl
    have e : mergeS all (n, i) x = (n, i ++ [x]) := by
      unfold mergeS
      rw [if_neg (by rw [ht x (by simp)]; simp), withT_new hx]
    rw [List.foldl_cons, e, merge_fix all r n _ (by simpa using h) (fun y hy => ht y (List.mem_cons_of_mem _ hy))]
    simp
theorem fin_no {thr : Int} {n : List Int} {i : List Tr} (h : ¬ (n = [] ∧ i.length = 1)) : finT (.mk thr n i) = .mk thr n i := by
  unfold finT
  simp only [Tr.nodes, Tr.inner]
  split
  · exact absurd ⟨rfl, rfl⟩ h
  · rfl
theorem fin_yes {thr : Int} {y : Tr} : finT (.mk thr [] [y]) = y := rfl
mutual
theorem nf_fix : ∀ t : Tr, NF t → normT t = t
  | .mk thr n i, h => by
    simp only [NF, nfs_iff] at h
    obtain ⟨⟨h1, h2, h3, h4, h5⟩, h6⟩ := h
    have hL := nf_fixL i h6
    simp only [normT]
    rw [hL, lift_fix i n [] h3, List.nil_append]
    have hm : mrgT thr (n, i) = .mk thr n i := by
      unfold mrgT
      by_cases c1 : thr = 1
      · rw [if_pos c1]
        obtain ⟨a, b⟩ := h4 (.inl c1)
        subst c1
        unfold mergedT mergeL
        simp only
        rw [merge_fix false i n [] (by simpa using a) (by simpa using b)]
        simp
      · rw [if_neg c1]
        by_cases c2 : thr = ((n.length + i.length : Nat) : Int)
        · rw [if_pos c2]
          obtain ⟨a, b⟩ := h4 (.inr c2)
          rw [decide_eq_true c1] at b
          unfold mergedT mergeL
          simp only
          rw [merge_fix true i n [] (by simpa using a) b]
          simp [c2]
        · rw [if_neg c2]
    rw [hm]
    unfold ordT
    simp only [Tr.thr, Tr.nodes, Tr.inner]
    rw [h1, sortT_fix h2, fin_no h5]
theorem nf_fixL : ∀ l : List Tr, (∀ x ∈ l, NF x) → normL l = l
  | [], _ => by simp [normL]
  | x :: r, h => by
    simp only [normL]
    rw [nf_fix x (h x (by simp)), nf_fixL r (fun y hy => h y (List.mem_cons_of_mem _ hy))]
end

theorem nodup_withT {l : List Tr} (h : l.Nodup) (t : Tr) : (withT l t).Nodup := by
  by_cases hm : t ∈ l
  · have : withT l t = l := by
      unfold withT
      rw [if_pos (List.any_eq_true.2 ⟨t, hm, decide_eq_true (cmpT_self t)⟩)]
    rw [this]; exact h
  · rw [withT_new hm]
    exact List.nodup_append.2 ⟨h, by simp, fun a ha b hb e => hm (by rw [← List.mem_singleton.1 hb, ← e]; exact ha)⟩
theorem nodup_withTs : ∀ (ns l : List Tr), l.Nodup → (ns.foldl withT l).Nodup
  | [], _, h => h
  | x :: r, l, h => nodup_withTs r _ (nodup_withT h x)
theorem merge_inodup (all : Bool) : ∀ (L : List Tr) (st : List Int × List Tr), st.2.Nodup → (L.foldl (mergeS all) st).2.Nodup
  | [], _, h => h
  | x :: r, st, h => by
    rw [List.foldl_cons]
    refine merge_inodup all r _ ?_
    unfold mergeS
    split
    · exact nodup_withTs _ _ h
    · exact nodup_withT h x
/-- What is not taken in, and what comes out of what is: not of the sort. -/
theorem merge_nf (all : Bool) {st : List Int × List Tr} (hN : ∀ x ∈ st.2, NF x) (hL : ∀ x ∈ st.2, ¬ Lif st.1 x) :
    (mergeL all st).2.Nodup ∧ ∀ y ∈ (mergeL all st).2, NF y ∧ tak all y = false ∧ ¬ Lif (mergeL all st).1 y := by
  have hn : ∀ k ∈ st.1, k ∈ (mergeL all st).1 := fun k hk => (merge_nodes all st.2 (st.1, []) k).2 (.inl hk)
  refine ⟨merge_inodup all st.2 (st.1, []) (by simp), fun y hy => ?_⟩
  rcases (merge_inner all st.2 (st.1, []) y).1 hy with hy | ⟨x, hx, ⟨ht, hyx⟩ | ⟨ht, he⟩⟩
  · cases hy
  · have hxn := hN x hx
    have hn2 : ∀ k ∈ x.nodes, k ∈ (mergeL all st).1 := fun k hk => (merge_nodes all st.2 (st.1, []) k).2 (.inr ⟨x, hx, ht, hk⟩)
    obtain ⟨thr, n, i⟩ := x
    simp only [NF, nfs_iff] at hxn
    obtain ⟨⟨h1, h2, h3, h4, h5⟩, h6⟩ := hxn
    refine ⟨h6 y hyx, ?_, Lif.mono hn2 (h3 y hyx)⟩
    cases all with
    | false =>
      have e : thr = 1 := of_decide_eq_true ht
      have := (h4 (.inl e)).2 y hyx
      simpa [e] using this
    | true =>
      have e : thr = ((n.length + i.length : Nat) : Int) := of_decide_eq_true ht
      have hi : 1 ≤ i.length := List.length_pos_iff.2 (List.ne_nil_of_mem hyx)
      have hne : thr ≠ 1 := fun e1 => h5 ⟨List.eq_nil_of_length_eq_zero (by omega), by omega⟩
      have := (h4 (.inr e)).2 y hyx
      rwa [decide_eq_true hne] at this
  · rw [he]
    exact ⟨hN x hx, ht, Lif.mono hn (hL x hx)⟩
theorem lif_sort {n : List Int} (h : ∀ x ∈ n, 0 ≤ x ∧ x < 10) {y : Tr} (hl : ¬ Lif n y) : ¬ Lif (sortN n) y := Lif.mono (fun k hk => (mem_sortN h k).2 hk) hl
theorem fin_nf {thr : Int} {n : List Int} {i : List Tr} (hr : ∀ x ∈ n, 0 ≤ x ∧ x < 10) (hd : n.Nodup) (hN : ∀ x ∈ i, NF x) (hL : ∀ x ∈ i, ¬ Lif n x)
    (hc : ¬ (n = [] ∧ i.length = 1) → (thr = 1 ∨ thr = ((n.length + i.length : Nat) : Int)) → i.Nodup ∧ ∀ x ∈ i, tak (decide (thr ≠ 1)) x = false) : NF (finT (ordT (.mk thr n i))) := by
  have p1 := sortN_perm hr hd
  have p2 := sortT_perm i
  unfold ordT
  simp only [Tr.thr, Tr.nodes, Tr.inner]
  by_cases hs : n = [] ∧ i.length = 1
  · obtain ⟨rfl, hl⟩ := hs
    obtain ⟨y, rfl⟩ := List.length_eq_one_iff.1 hl
    have e1 : sortN [] = [] := List.Perm.eq_nil p1
    have e2 : sortT [y] = [y] := sortT_fix (List.pairwise_singleton _ _)
    rw [e1, e2, fin_yes]
    exact hN y (by simp)
  · have hs' : ¬ (sortN n = [] ∧ (sortT i).length = 1) := fun ⟨a, b⟩ => hs ⟨by
      rw [a] at p1
      exact (List.nil_perm.1 p1), by rw [← p2.length_eq]; exact b⟩
    rw [fin_no hs']
    simp only [NF, nfs_iff]
    refine ⟨⟨sortN_congr (fun k => mem_sortN hr k), sortT_asc i, fun x hx => lif_sort hr (hL x (p2.mem_iff.1 hx)), fun ht => ?_, hs'⟩, fun x hx => hN x (p2.mem_iff.1 hx)⟩
    rw [p1.length_eq, p2.length_eq] at ht
    obtain ⟨a, b⟩ := hc hs ht
    exact ⟨p2.nodup_iff.2 a, fun x hx => b x (p2.mem_iff.1 hx)⟩
mutual
/-- The normal form is one. -/
theorem nf_norm : ∀ t : Tr, OkT t → NF (normT t)
  | .mk thr nodes inner, h => by
    obtain ⟨a, b, c, d, e⟩ := (okT_mk _ _ _).1 h
    obtain ⟨l1, l2, l3, l4, l5⟩ := norm_relL inner e
    obtain ⟨f1, f2, f3, f4, f5, f6, f7⟩ := lift_all (normL inner) (nodes, []) l2 d c (by simp)
    have hN := nf_normL inner e
    obtain ⟨g1, g2, g3⟩ := lift_none (normL inner) (nodes, []) (by simp)
    have hN' : ∀ x ∈ ((normL inner).foldl liftS (nodes, [])).2, NF x := fun x hx => by
      rcases g3 x hx with hx | hx
      · cases hx
      · exact hN x hx
    simp only [normT]
    generalize (normL inner).foldl liftS (nodes, []) = st at *
    have hO : ∀ k, (∀ x ∈ (mergeL k st).1, 0 ≤ x ∧ x < 10) ∧ (mergeL k st).1.Nodup := fun k => by
      refine ⟨fun x hx => ?_, merge_nodup k st.2 (st.1, []) f3⟩
      rcases (merge_nodes k st.2 (st.1, []) x).1 hx with hx | ⟨y, hy, _, hx⟩
      · exact f4 x hx
      · have hy2 := f5 y hy
        obtain ⟨t', n', i'⟩ := y
        exact ((okT_mk _ _ _).1 hy2).2.2.1 x hx
    unfold mrgT
    by_cases c1 : thr = 1
    · rw [if_pos c1]
      obtain ⟨m1, m2⟩ := merge_nf false hN' g2
      unfold mergedT
      refine fin_nf (hO false).1 (hO false).2 (fun x hx => (m2 x hx).1) (fun x hx => (m2 x hx).2.2) (fun _ _ => ⟨m1, fun x hx => ?_⟩)
      simpa [c1] using (m2 x hx).2.1
    · rw [if_neg c1]
      split
      · obtain ⟨m1, m2⟩ := merge_nf true hN' g2
        unfold mergedT
        refine fin_nf (hO true).1 (hO true).2 (fun x hx => (m2 x hx).1) (fun x hx => (m2 x hx).2.2) (fun hs _ => ⟨m1, fun x hx => ?_⟩)
        have hx2 := (m2 x hx).2.1
        have hi : 1 ≤ (mergeL true st).2.length := List.length_pos_iff.2 (List.ne_nil_of_mem hx)
        have hne : (((mergeL true st).1.length + (mergeL true st).2.length : Nat) : Int) ≠ 1 := fun e1 => hs ⟨List.eq_nil_of_length_eq_zero (by omega), by omega⟩
        rw [if_pos rfl, decide_eq_true hne]
        exact hx2
      · rename_i c2
        refine fin_nf f4 f3 hN' g2 (fun _ ht => ?_)
        rcases ht with ht | ht
        · exact absurd ht c1
        · exact absurd ht c2
theorem nf_normL : ∀ L : List Tr, (∀ x ∈ L, OkT x) → ∀ x ∈ normL L, NF x
  | [], _ => by simp [normL]
  | x :: r, h => by
    have h1 := nf_norm x (h x (by simp))
    have h2 := nf_normL r (fun y hy => h y (List.mem_cons_of_mem _ hy))
    simp only [normL]
    intro y hy
    rcases List.mem_cons.1 hy with rfl | hy
    · exact h1
    · exact h2 y hy
end
/-- Normal of normal. -/
theorem norm_norm {t : Tr} (h : OkT t) : normT (normT t) = normT t := nf_fix _ (nf_norm t h)
end Go.Proofs.YtpdhckbiioobhaaGreatDoor

/- Plain: trusts that differ only in the order of their entries have one normal form. -/
namespace Go.Proofs.YtpdhckbiioobhaaGreatDoor

/-- Two pairs of entries that differ in their order. -/
def P2 (a b : List Int × List Tr) : Prop := a.1.Perm b.1 ∧ a.2.Perm b.2
theorem P2.trans {a b c : List Int × List Tr} (h : P2 a b) (k : P2 b c) : P2 a c := ⟨h.1.trans k.1, h.2.trans k.2⟩
theorem P2.refl (a : List Int × List Tr) : P2 a a := ⟨List.Perm.refl _, List.Perm.refl _⟩
theorem lif_perm {n m : List Int} (h : n.Perm m) (x : Tr) : Lif n x ↔ Lif m x :=
  ⟨fun ⟨t, k, e, hk⟩ => ⟨t, k, e, fun hm => hk (h.mem_iff.2 hm)⟩, fun ⟨t, k, e, hk⟩ => ⟨t, k, e, fun hm => hk (h.mem_iff.1 hm)⟩⟩
theorem lift_p2 {a b : List Int × List Tr} (h : P2 a b) (x : Tr) : P2 (liftS a x) (liftS b x) := by
  obtain ⟨n, i⟩ := a
  obtain ⟨m, j⟩ := b
  obtain ⟨h1, h2⟩ := h
  by_cases hl : Lif n x
  · have hl' := (lif_perm h1 x).1 hl
    obtain ⟨t, k, rfl, hk⟩ := hl
    obtain ⟨t', k', e, hk'⟩ := hl'
    injection e with _ e2 _
    injection e2 with e3 _
    subst e3
    rw [liftS_yes hk, liftS_yes hk']
    exact ⟨h1.append_right _, h2⟩
  · rw [liftS_no hl, liftS_no (fun hc => hl ((lif_perm h1 x).2 hc))]
    exact ⟨h1, h2.append_right _⟩
theorem lift_swap (a : List Int × List Tr) {x y : Tr} (hx : OkT x) (hy : OkT y) : P2 (liftS (liftS a x) y) (liftS (liftS a y) x) := by
  obtain ⟨n, i⟩ := a
  have thr1 : ∀ {t k : Int}, OkT (.mk t [k] []) → t = 1 := fun h => by
    obtain ⟨a, b, _⟩ := (okT_mk _ _ _).1 h
    simp at b
    omega
  by_cases lx : Lif n x
  · obtain ⟨t, k, rfl, hk⟩ := lx
    obtain rfl := thr1 hx
    by_cases ly : Lif n y
    · obtain ⟨t', k', rfl, hk'⟩ := ly
      obtain rfl := thr1 hy
      by_cases e : k = k'
      · subst e; exact P2.refl _
      · rw [liftS_yes hk, liftS_yes hk', liftS_yes (show k' ∉ n ++ [k] by simp [hk']; exact fun h => e h.symm), liftS_yes (show k ∉ n ++ [k'] by simp [hk]; exact e)]
        refine ⟨?_, List.Perm.refl _⟩
        rw [List.append_assoc, List.append_assoc]
        exact List.Perm.append_left n (List.Perm.swap _ _ _)
    · rw [liftS_yes hk, liftS_no ly, liftS_yes hk, liftS_no (Lif.mono (fun z hz => List.mem_append_left _ hz) ly)]
      exact P2.refl _
  · by_cases ly : Lif n y
    · obtain ⟨t', k', rfl, hk'⟩ := ly
      rw [liftS_no lx, liftS_yes hk', liftS_yes hk', liftS_no (Lif.mono (fun z hz => List.mem_append_left _ hz) lx)]
      exact P2.refl _
    · rw [liftS_no lx, liftS_no ly, liftS_no ly, liftS_no lx]
      refine ⟨List.Perm.refl _, ?_⟩
      rw [List.append_assoc, List.append_assoc]
      exact List.Perm.append_left i (List.Perm.swap _ _ _)
theorem lift_perm {L M : List Tr} (p : L.Perm M) : (∀ x ∈ L, OkT x) → ∀ a b : List Int × List Tr, P2 a b → P2 (L.foldl liftS a) (M.foldl liftS b) := by
  induction p with
  | nil => exact fun _ a b h => h
  | cons x _ ih => exact fun ho a b h => ih (fun y hy => ho y (List.mem_cons_of_mem _ hy)) _ _ (lift_p2 h x)
  | swap x y l =>
    intro ho a b h
    have hf : ∀ (l : List Tr) (a b : List Int × List Tr), P2 a b → P2 (l.foldl liftS a) (l.foldl liftS b) := by
      intro l
      induction l with
      | nil => exact fun a b h => h
      | cons z r ih => exact fun a b h => ih _ _ (lift_p2 h z)
    refine hf l _ _ ?_
    exact (lift_swap a (ho y (by simp)) (ho x (by simp))).trans (lift_p2 (lift_p2 h x) y)
  | trans p _ ih1 ih2 => exact fun ho a b h => (ih1 ho a a (P2.refl _)).trans (ih2 (fun x hx => ho x (p.mem_iff.2 hx)) a b h)
theorem merge_perm (all : Bool) {a b : List Int × List Tr} (h : P2 a b) (hd : a.1.Nodup) : P2 (mergeL all a) (mergeL all b) := by
  have hd' : b.1.Nodup := h.1.nodup_iff.1 hd
  unfold mergeL
  constructor
  · refine (List.perm_ext_iff_of_nodup (merge_nodup all a.2 (a.1, []) hd) (merge_nodup all b.2 (b.1, []) hd')).2 (fun k => ?_)
    rw [merge_nodes, merge_nodes, h.1.mem_iff]
    constructor
    · rintro (hk | ⟨x, hx, r⟩)
      · exact .inl hk
      · exact .inr ⟨x, h.2.mem_iff.1 hx, r⟩
    · rintro (hk | ⟨x, hx, r⟩)
      · exact .inl hk
      · exact .inr ⟨x, h.2.mem_iff.2 hx, r⟩
  · refine (List.perm_ext_iff_of_nodup (merge_inodup all a.2 (a.1, []) (by simp)) (merge_inodup all b.2 (b.1, []) (by simp))).2 (fun y => ?_)
    rw [merge_inner, merge_inner]
    constructor
    · rintro (hk | ⟨x, hx, r⟩)
      · exact .inl hk
      · exact .inr ⟨x, h.2.mem_iff.1 hx, r⟩
    · rintro (hk | ⟨x, hx, r⟩)
      · exact .inl hk
      · exact .inr ⟨x, h.2.mem_iff.2 hx, r⟩
theorem ord_perm {thr : Int} {a b : List Int × List Tr} (h : P2 a b) : ordT (.mk thr a.1 a.2) = ordT (.mk thr b.1 b.2) := by
  unfold ordT
  simp only [Tr.thr, Tr.nodes, Tr.inner]
  rw [sortN_congr (fun k => h.1.mem_iff), sortT_congr h.2]
theorem mrg_perm {thr : Int} {a b : List Int × List Tr} (h : P2 a b) (hd : a.1.Nodup) : ordT (mrgT thr a) = ordT (mrgT thr b) := by
  have hl : a.1.length + a.2.length = b.1.length + b.2.length := by rw [h.1.length_eq, h.2.length_eq]
  unfold mrgT
  by_cases c1 : thr = 1
  · rw [if_pos c1, if_pos c1]
    unfold mergedT
    exact ord_perm (merge_perm false h hd)
  · rw [if_neg c1, if_neg c1, hl]
    by_cases c2 : thr = ((b.1.length + b.2.length : Nat) : Int)
    · rw [if_pos c2, if_pos c2]
      have hm := merge_perm true h hd
      have hl2 : (mergeL true a).1.length + (mergeL true a).2.length = (mergeL true b).1.length + (mergeL true b).2.length := by rw [hm.1.length_eq, hm.2.length_eq]
      unfold mergedT
      rw [hl2]
      exact ord_perm hm
    · rw [if_neg c2, if_neg c2]
      exact ord_perm h
theorem normL_map : ∀ l : List Tr, normL l = l.map normT
  | [] => by simp [normL]
  | x :: r => by simp [normL, normL_map r]
theorem norm_perm {thr : Int} {n m : List Int} {i j : List Tr} (h : OkT (.mk thr n i)) (h1 : n.Perm m) (h2 : (normL i).Perm (normL j)) : normT (.mk thr n i) = normT (.mk thr m j) := by
  obtain ⟨_, _, _, d, e⟩ := (okT_mk _ _ _).1 h
  obtain ⟨_, l2, _⟩ := norm_relL i e
  obtain ⟨_, _, f3, _⟩ := lift_all (normL i) (n, []) l2 d ((okT_mk _ _ _).1 h).2.2.1 (by simp)
  simp only [normT]
  rw [mrg_perm (lift_perm h2 l2 (n, []) (m, []) ⟨h1, List.Perm.refl _⟩) f3]

/-- What mixing leaves: a trust that is as good, with the same normal form. -/
def MixR (a b : Tr) : Prop := (OkT a → OkT b ∧ normT a = normT b) ∧ b.size = a.size ∧ b.dep = a.dep
/-- Trusts in pairs. -/
def MixL : List Tr → List Tr → Prop
  | [], [] => True
  | x :: r, y :: s => MixR x y ∧ MixL r s
  | _, _ => False
theorem MixL.facts : ∀ {l m : List Tr}, MixL l m → l.length = m.length ∧ sizeL m = sizeL l ∧ depL m = depL l ∧ ((∀ x ∈ l, OkT x) → (∀ x ∈ m, OkT x) ∧ normL l = normL m)
  | [], [], _ => ⟨rfl, rfl, rfl, fun _ => ⟨by simp, rfl⟩⟩
  | x :: r, [], h => by simp [MixL] at h
  | [], y :: s, h => by simp [MixL] at h
  | x :: r, y :: s, h => by
    simp only [MixL] at h
    obtain ⟨⟨h1, h2, h3⟩, h⟩ := h
    obtain ⟨k1, k2, k3, k4⟩ := MixL.facts h
    refine ⟨by simp [k1], by simp only [sizeL]; omega, by simp only [depL]; omega, fun ho => ?_⟩
    obtain ⟨o1, o2⟩ := h1 (ho x (by simp))
    obtain ⟨p1, p2⟩ := k4 (fun z hz => ho z (List.mem_cons_of_mem _ hz))
    refine ⟨fun z hz => ?_, by simp only [normL]; rw [o2, p2]⟩
    rcases List.mem_cons.1 hz with rfl | hz
    · exact o1
    · exact p1 z hz
theorem MixL.append : ∀ {l m l' m' : List Tr}, MixL l m → MixL l' m' → MixL (l ++ l') (m ++ m')
  | [], [], _, _, _, h => h
  | x :: r, [], _, _, h, _ => by simp [MixL] at h
  | [], y :: s, _, _, h, _ => by simp [MixL] at h
  | x :: r, y :: s, _, _, h, h' => by
    simp only [MixL, List.cons_append] at h ⊢
    exact ⟨h.1, MixL.append h.2 h'⟩
theorem mix_mk {thr : Int} {n m : List Int} {i j k : List Tr} (h1 : m.Perm n) (h2 : j.Perm i) (h3 : MixL j k) : MixR (.mk thr n i) (.mk thr m k) := by
  obtain ⟨a, b, c, d⟩ := h3.facts
  refine ⟨fun ho => ?_, ?_, ?_⟩
  · obtain ⟨o1, o2, o3, o4, o5⟩ := (okT_mk _ _ _).1 ho
    obtain ⟨d1, d2⟩ := d (fun x hx => o5 x (h2.mem_iff.1 hx))
    refine ⟨(okT_mk _ _ _).2 ⟨o1, by rw [h1.length_eq, ← a, h2.length_eq]; exact o2, fun x hx => o3 x (h1.mem_iff.1 hx), h1.nodup_iff.2 o4, d1⟩, ?_⟩
    refine norm_perm ho h1.symm ?_
    rw [← d2, normL_map, normL_map]
    exact (h2.symm.map normT)
  · simp only [Tr.size]
    rw [b, sizeL_perm h2, h1.length_eq, ← a, h2.length_eq]
  · simp only [Tr.dep]
    rw [c, depL_perm h2]
end Go.Proofs.YtpdhckbiioobhaaGreatDoor

/- Some texts of this claim, joined: contracts of the functions that it reaches, and plain laws. -/
import Derived.Test.YtoblhcieidljjaaGreatDoorProg
import Derived.Test.YtoblhcieidljjaaGreatDoorJG21
import Derived.Test.YtoblhcieidljjaaGreatDoorJG6
import Derived.Test.YtoblhcieidljjaaGreatDoorJG15
import Derived.Test.YtoblhcieidljjaaGreatDoorJG17
import Derived.Test.YtoblhcieidljjaaGreatDoorShelf
import Derived.Lib.SplitLaws

set_option linter.unusedSimpArgs false
set_option linter.unusedVariables false
/- Walks: configuration.blank, member, Valid, Declared. -/
namespace Go.Proofs.YtoblhcieidljjaaGreatDoor
open Go.RowKit

theorem zeroTr_iff (th : Int) (n : List Int) (i : List Tr) : Tr.mk th n i = zeroTr ↔ th = 0 ∧ n.length = 0 ∧ i.length = 0 := by
  unfold zeroTr
  simp only [Tr.mk.injEq, List.length_eq_zero_iff]
set_option maxRecDepth 100000 in
theorem blank_any (t : Tr) (v : Value) (w : World) (h : TrR w none v t) : Calls Tryz.prog 117 #[v] w fun e w' => e = .returned (.bool (sameT t zeroTr)) ∧ Fr none w w' := by
  obtain ⟨th, nodes, inner⟩ := t
  obtain ⟨A, c, A', c', rfl, hthr, hn, hn2, hi2, hi3, hi4, hcell⟩ := h.open_
  obtain ⟨X, hX⟩ : ∃ X, X = sameT (.mk th nodes inner) zeroTr := ⟨_, rfl⟩
  have hXi : X = true ↔ th = 0 ∧ nodes.length = 0 ∧ inner.length = 0 := by rw [hX, sameT_iff, zeroTr_iff]
  rw [← hX]
  clear hX hcell hn h
  go_enter Tryz.func117, Tryz.ntmps117
  go_upto_region 1 with (fail)
  generalize hW : w.alloc _ = w1
  have F1 : Fr none w w1 := hW ▸ (Fr.refl _ _).alloc _
  have b1 : TB w1 w.heap.size (.int .i64 th) (.slice A nodes.length c) (.slice A' inner.length c') := by rw [← hW]; exact blk_new _ _
  clear hW
  have R1 := b1.cell
  have l1 := blk_lt b1
  by_cases h0 : th = 0
  · have e0 : (th == 0) = true := by rw [beq_iff_eq]; exact h0
    by_cases h1 : nodes.length = 0
    · have e1 : ((nodes.length : Int) == 0) = true := by rw [beq_iff_eq]; omega
      by_cases h2 : inner.length = 0
      · have e2 : ((inner.length : Int) == 0) = true := by rw [beq_iff_eq]; omega
        have HX : Hid (X = true) := hXi.2 ⟨h0, h1, h2⟩
        clear h0 h1 h2 hXi
        go_wp2_with fail
        go_ret
        exact ⟨ret_bool HX.out.symm, F1⟩
      · have e2 : ((inner.length : Int) == 0) = false := by rw [beq_eq_false_iff_ne]; omega
        have HX : Hid (X = false) := by cases hx : X with
          | false => rfl
          | true => exact absurd (hXi.1 hx).2.2 h2
        clear h0 h1 h2 hXi
        go_wp2_with fail
        go_ret
        exact ⟨ret_bool HX.out.symm, F1⟩
    · have e1 : ((nodes.length : Int) == 0) = false := by rw [beq_eq_false_iff_ne]; omega
      have HX : Hid (X = false) := by cases hx : X with
        | false => rfl
        | true => exact absurd (hXi.1 hx).2.1 h1
      clear h0 h1 hXi
      go_wp2_with fail
      go_ret
      exact ⟨ret_bool HX.out.symm, F1⟩
  · have e0 : (th == 0) = false := by rw [beq_eq_false_iff_ne]; exact h0
    have HX : Hid (X = false) := by cases hx : X with
      | false => rfl
      | true => exact absurd (hXi.1 hx).1 h0
    clear h0 hXi
    go_wp2_with fail
    go_ret
    exact ⟨ret_bool HX.out.symm, F1⟩
/-- The first error of a member, of n. -/
def memE (n : Nat) (m : Mb) : Int := if m.dec then (if validE m.tr = 0 then (if 2 ^ n ≤ usesT m.tr then 5 else 0) else validE m.tr) else (if sameT m.tr zeroTr then 0 else 1)
theorem memE_ok {n : Nat} {m : Mb} (h : MbOk n m) : memE n m = 0 := by
  unfold memE
  cases hd : m.dec with
  | true =>
    obtain ⟨h1, h2, _⟩ := h.1 hd
    have := usesT_lo m.tr h2
    rw [if_pos rfl, if_pos h1, if_neg (by omega)]
  | false =>
    rw [h.2 hd, (sameT_iff _ _).2 rfl]
    rfl
set_option maxRecDepth 100000 in
set_option maxHeartbeats 2000000 in
theorem member_any (n : Nat) (hn : n ≤ 10) (m : Mb) (th : Int) (A1 : Option Addr) (n1 c1 : Nat) (A2 : Option Addr) (n2 c2 : Nat) (w : World) (h : TrR w none (.agg #[.int .i64 th, .slice A1 n1 c1, .slice A2 n2 c2]) m.tr) (hs : m.tr.size ≤ 1073741000) :
    Calls Tryz.prog 66 #[.agg #[.bool m.dec, .int .i64 th, .slice A1 n1 c1, .slice A2 n2 c2], .int .i64 n] w fun e w' => e = .returned (.int .i64 (memE n m)) ∧ Fr none w w' := by
  obtain ⟨d, t⟩ := m
  obtain ⟨E, hE⟩ : ∃ E, E = memE n ⟨d, t⟩ := ⟨_, rfl⟩
  rw [← hE]
  simp only at h hs ⊢
  have HE := Lib.hid hE
  clear hE
  go_enter Tryz.func66, Tryz.ntmps66
  go_upto_region 1 with (fail)
  generalize hW : w.alloc _ = w1
  have F1 : Fr none w w1 := hW ▸ (Fr.refl _ _).alloc _
  have b1 : MB w1 w.heap.size (.bool d) (.int .i64 th) (.slice A1 n1 c1) (.slice A2 n2 c2) := by rw [← hW]; exact blk_new _ _
  clear hW
  have h1 := h.fr F1
  have R1 := b1.cell
  have l1 := blk_lt b1
  clear h
  cases d with
  | false =>
    cases hz : sameT t zeroTr with
    | true =>
      have HF : Hid (E = 0) := by unfold Hid; rw [HE.out]; unfold memE; simp [hz]
      go_wp2_with fail
      refine (blank_any t _ _ h1).mono ?_
      rintro e w2 ⟨rfl, F2⟩
      rw [hz]
      clear hz
      go_wp2_with fail
      go_ret
      exact ⟨ret_int HF.out.symm, F1.pure F2⟩
    | false =>
      have HF : Hid (E = 1) := by unfold Hid; rw [HE.out]; unfold memE; simp [hz]
      go_wp2_with fail
      refine (blank_any t _ _ h1).mono ?_
      rintro e w2 ⟨rfl, F2⟩
      rw [hz]
      clear hz
      go_wp2_with fail
      go_ret
      exact ⟨ret_int HF.out.symm, F1.pure F2⟩
  | true =>
    go_wp2_with fail
    refine (validT_any t _ _ none hs h1).mono ?_
    rintro e w2 ⟨rfl, F2⟩
    have F02 := F1.pure F2
    have b2 := b1.fr F2 (by simp)
    have h2 := h1.fr F2
    clear R1 l1
    by_cases hv : validE t = 0
    · have hv0 : (validE t != 0) = false := by rw [bne_eq_false_iff_eq]; exact hv
      have hp := pow2_lt n (by omega)
      have hw2 : IntKind.i64.wrap ((2 : Int) ^ n) = ((2 ^ n : Nat) : Int) := by rw [wrapI]; exact wrap_pow n (by omega)
      have hul := usesT_lt t
      obtain ⟨N, hN⟩ : ∃ N : Nat, 2 ^ n = N := ⟨_, rfl⟩
      rw [hN] at hw2 hp
      have HN := Lib.hid hN
      have HV := Lib.hid hv
      clear hN hv
      obtain ⟨U, hU⟩ : ∃ U, usesT t = U := ⟨_, rfl⟩
      rw [hU] at hul
      have HU := Lib.hid hU
      clear hU
      have R2 := b2.cell
      have l2 := blk_lt b2
      obtain ⟨X, hX⟩ : ∃ X, X = decide ((N : Int) ≤ (U : Int)) := ⟨_, rfl⟩
      have HX := Lib.hid hX
      clear hX
      go_upto_region 8 with (fail)
      go_cut [24] (fun s24 wq => s24 = .bool X ∧ Fr none w2 wq)
      case first =>
        refine wp_region_held_drew (S := fun W => (∀ i, W.cell? ⟨w.heap.size, i, none⟩ = (#[.bool true, .int .i64 th, .slice A1 n1 c1, .slice A2 n2 c2] : Array Value)[i]?) ∧ Fr none w2 W) (by kernel_rfl) ⟨b2.cell, (Fr.refl _ _).drew⟩ (fun hH0 => ?_)
        refine wpAnyH_take (i := 0) (v := ?_) rfl (by kernel_rfl) (by kernel_rfl) (by kernel_rfl) (fun _ _ _ h => h) (Or.inl ⟨by rfl, ?_⟩) (by assumption) ?_
        rotate_left
        · (intro W hW; (try dsimp only at hW); go_simp; try with_reducible rfl)
        try simp only [Act.put, List.setIfInBounds_toArray, List.set_cons_zero, List.set_cons_succ, List.getElem_toArray, List.getElem_cons_zero, List.getElem_cons_succ]
        refine wpAnyH_take (i := 1) (v := ?_) rfl (by kernel_rfl) (by kernel_rfl) (by kernel_rfl) (fun _ _ _ h => h) (Or.inl ⟨by rfl, ?_⟩) (by assumption) ?_
        rotate_left
        · (intro W hW; (try dsimp only at hW); go_simp; try with_reducible rfl)
        try simp only [Act.put, List.setIfInBounds_toArray, List.set_cons_zero, List.set_cons_succ, List.getElem_toArray, List.getElem_cons_zero, List.getElem_cons_succ]
        refine wpAnyH_take (i := 3) (v := ?_) rfl (by kernel_rfl) (by kernel_rfl) (by kernel_rfl) (fun _ _ _ h => h) (Or.inl ⟨by rfl, ?_⟩) (by assumption) ?_
        rotate_left
        · (intro W hW; (try dsimp only at hW); go_simp; try with_reducible rfl)
        try simp only [Act.put, List.setIfInBounds_toArray, List.set_cons_zero, List.set_cons_succ, List.getElem_toArray, List.getElem_cons_zero, List.getElem_cons_succ]
        refine wpAnyH_take (i := 4) (v := ?_) rfl (by kernel_rfl) (by kernel_rfl) (by kernel_rfl) (fun _ _ _ h => h) (Or.inl ⟨by rfl, ?_⟩) (by assumption) ?_
        rotate_left
        · (intro W hW; (try dsimp only at hW); go_simp; try with_reducible rfl)
        try simp only [Act.put, List.setIfInBounds_toArray, List.set_cons_zero, List.set_cons_succ, List.getElem_toArray, List.getElem_cons_zero, List.getElem_cons_succ]
        refine wpAnyH_ready (rs := [2]) (by kernel_rfl) (by simp) ?_
        refine AllReadyH.cons rfl (fun K hK => ?_) AllReadyH.nil
        simp only [List.getElem_toArray, List.getElem_cons_zero, List.getElem_cons_succ]
        go_simp
        go_at_call 118
        refine (tuses_any t.dep t _ _ none (Nat.le_refl _) (h2.fr hH0.2)).mono ?_
        rintro e w9 ⟨rfl, F9⟩
        rw [HU.out]
        have F9' := hH0.2.pure F9
        refine hK.out _ _ ⟨(b2.fr F9' (by simp)).cell, F9'⟩ (fun hH1 => ?_)
        clear hK K hH0
        try simp only [Act.put, List.setIfInBounds_toArray, List.set_cons_zero, List.set_cons_succ, List.getElem_toArray, List.getElem_cons_zero, List.getElem_cons_succ]
        refine wpAnyH_take (i := 5) (v := ?_) rfl (by kernel_rfl) (by kernel_rfl) (by kernel_rfl) (fun _ _ _ h => h) (Or.inl ⟨by rfl, ?_⟩) (by assumption) ?_
        rotate_left
        · (intro W hW; (try dsimp only at hW); go_simp; try with_reducible rfl)
        try simp only [Act.put, List.setIfInBounds_toArray, List.set_cons_zero, List.set_cons_succ, List.getElem_toArray, List.getElem_cons_zero, List.getElem_cons_succ]
        refine wpAnyH_done (by kernel_rfl) ?_ _
        go_wp2_with fail
        go_meet
        exact ⟨by rw [HX.out]; simp, F9'⟩
      case rest =>
        obtain ⟨rfl, Fq⟩ := hcut
        cases X with
        | true =>
          have hle : N ≤ U := by have := of_decide_eq_true HX.out.symm; omega
          have HF : Hid (E = 5) := by unfold Hid; rw [HE.out]; unfold memE; simp only [HV.out, HN.out, HU.out]; simp [hle]
          clear hle
          go_wp2_with fail
          go_ret
          exact ⟨ret_int HF.out.symm, F02.pure Fq⟩
        | false =>
          have hle : ¬ N ≤ U := by have := of_decide_eq_false HX.out.symm; omega
          have HF : Hid (E = 0) := by unfold Hid; rw [HE.out]; unfold memE; simp only [HV.out, HN.out, HU.out]; simp [hle]
          clear hle
          go_wp2_with fail
          go_ret
          exact ⟨ret_int HF.out.symm, F02.pure Fq⟩
    · have hv0 : (validE t != 0) = true := by rw [bne_iff_ne]; exact hv
      have HF : Hid (E = validE t) := by unfold Hid; rw [HE.out]; unfold memE; simp [hv]
      clear hv
      go_wp2_with fail
      go_ret
      exact ⟨ret_int HF.out.symm, F02⟩
/-- The first error. -/
def firE : List Int → Int
  | [] => 0
  | e :: r => if e = 0 then firE r else e
theorem firE_hit : ∀ (l : List Int) (j : Nat) (hj : j < l.length), (∀ i (hi : i < l.length), i < j → l[i] = 0) → l[j] ≠ 0 → firE l = l[j]
  | [], j, hj, _, _ => absurd hj (by simp)
  | e :: r, 0, _, _, h => by
    have h : e ≠ 0 := h
    simp only [firE]; rw [if_neg h]; rfl
  | e :: r, j + 1, hj, hh, h => by
    have h0 : e = 0 := hh 0 (by simp) (by omega)
    simp only [firE]
    rw [if_pos h0, firE_hit r j (by simpa using hj) (fun i hi hij => by have := hh (i + 1) (by simpa using hi) (by omega); simpa using this) (by simpa using h)]
    rfl
theorem firE_miss : ∀ (l : List Int), (∀ x ∈ l, x = 0) → firE l = 0
  | [], _ => rfl
  | e :: r, h => by simp only [firE]; rw [if_pos (h e (by simp)), firE_miss r (fun x hx => h x (by simp [hx]))]
/-- The first error of a configuration. -/
def validC (L : List Mb) : Int := if 10 < L.length then 3 else firE (L.map (memE L.length))
theorem validC_ok {L : List Mb} (hl : L.length ≤ 10) (h : ∀ m ∈ L, MbOk L.length m) : validC L = 0 := by
  unfold validC
  rw [if_neg (by omega)]
  refine firE_miss _ fun x hx => ?_
  obtain ⟨m, hm, rfl⟩ := List.mem_map.1 hx
  exact memE_ok (h m hm)
set_option maxRecDepth 100000 in
set_option maxHeartbeats 2000000 in
theorem cvalid_any (L : List Mb) (v : Value) (w : World) (h : CfD w (Dm w none) v L) (hsz : ∀ m ∈ L, m.tr.size ≤ 1073741000) (hL : L.length ≤ 1000) :
    Calls Tryz.prog 44 #[v] w fun e w' => e = .returned (.int .i64 (validC L)) ∧ Fr none w w' := by
  obtain ⟨A, c, rfl, q1, q2, hcell⟩ := h.open_
  have HC := Lib.hid hcell
  have HSZ := Lib.hid hsz
  unfold maxLen at q2
  clear hcell h hsz
  go_enter Tryz.func44, Tryz.ntmps44
  go_upto_region 1 with (fail)
  generalize hW : w.alloc _ = w1
  have F1 : Fr none w w1 := hW ▸ (Fr.refl _ _).alloc _
  have b1 : CB w1 w.heap.size (.slice A L.length c) := by rw [← hW]; exact blk_new _ _
  clear hW
  have R1 := b1.cell
  have l1 := blk_lt b1
  by_cases h10 : 10 < L.length
  · have hd : decide ((10 : Int) < (L.length : Int)) = true := decide_eq_true (by omega)
    have HF : Hid (validC L = 3) := by unfold Hid validC; rw [if_pos h10]
    clear h10
    go_wp2_with fail
    go_ret
    exact ⟨ret_int HF.out.symm, F1⟩
  · have hd : decide ((10 : Int) < (L.length : Int)) = false := decide_eq_false (by omega)
    have hL10 : L.length ≤ 10 := by omega
    have HVC : Hid (validC L = firE (L.map (memE L.length))) := by unfold Hid validC; rw [if_neg h10]
    clear h10
    go_wp2_with fail
    go_loopw [4, 5, 13] (fun _ _ s13 wr => ∃ j : Nat, j ≤ L.length ∧ s13 = .int .i64 (j : Int) ∧ Fr none w1 wr ∧ Hid (∀ i (hi : i < L.length), i < j → memE L.length L[i] = 0)) (fun _ _ s13 _ => L.length - (intOf s13).toNat)
    case atStart => exact ⟨0, Nat.zero_le _, rfl, Fr.refl _ _, Lib.hid (fun i hi h => by omega)⟩
    case round =>
      clear R1 l1
      obtain ⟨j, hj, rfl, F, HQ⟩ := hrel
      obtain ⟨wz, hwz⟩ : ∃ wz : World, wz = wr := ⟨_, rfl⟩
      subst hwz
      have bz := b1.fr F (by simp)
      by_cases hlt : j < L.length
      · obtain ⟨b, off, th, A1, n1, c1, A2, n2, c2, rfl, hb, g0, g1, g2, g3, ht⟩ := HC.out j hlt
        have Fw := F1.pure F
        have g0 := Fw.keep g0 (by simp)
        have g1 := Fw.keep g1 (by simp)
        have g2 := Fw.keep g2 (by simp)
        have g3 := Fw.keep g3 (by simp)
        have ht : TrR wz none (.agg #[.int .i64 th, .slice A1 n1 c1, .slice A2 n2 c2]) L[j].tr := TrD.keep (fr_dm Fw) _ _ ht
        have HS := Lib.hid (HSZ.out _ (List.getElem_mem hlt))
        have Rz := bz.cell
        have lz := blk_lt bz
        have HM : Hid (∀ x, memE L.length L[j] = x → x ≠ 0 → validC L = x) := fun x hx hx0 => by
          rw [HVC.out, firE_hit _ j (by simpa using hlt) (fun i hi hij => by simpa using HQ.out i (by simpa using hi) hij) (by simpa [hx] using hx0)]
          simpa using hx
        have HM0 : Hid (memE L.length L[j] = 0 → ∀ i (hi : i < L.length), i < j + 1 → memE L.length L[i] = 0) := fun h0 i hi hij => by
          rcases Nat.lt_or_ge i j with hh | hh
          · exact HQ.out i hi hh
          · obtain rfl : i = j := by omega
            exact h0
        go_upto_region 6 with (fail)
        generalize hW : wz.alloc _ = wa
        have Fa : Fr none wz wa := hW ▸ (Fr.refl none wz).alloc _
        have m4 : MB wa wz.heap.size (.bool L[j].dec) (.int .i64 th) (.slice A1 n1 c1) (.slice A2 n2 c2) := by rw [← hW]; exact blk_new _ _
        clear hW g0 g1 g2 g3
        have hta := ht.fr Fa
        have ba := bz.fr Fa (by simp)
        have Ra := ba.cell
        have R4 := m4.cell
        have la := blk_lt ba
        have l4 := blk_lt m4
        clear Rz lz HQ
        generalize L[j] = m at *
        go_wp2_with fail
        refine (member_any L.length hL10 m _ _ _ _ _ _ _ _ hta HS.out).mono ?_
        rintro e w2 ⟨rfl, F2⟩
        clear Ra R4 la l4
        by_cases h0 : memE L.length m = 0
        · have hv0 : (memE L.length m != 0) = false := by rw [bne_eq_false_iff_eq]; exact h0
          have H0 := Lib.hid h0
          clear h0
          go_wp2_with fail
          go_roundw
          case rel => exact ⟨j + 1, by omega, by go_num, (F.pure Fa).pure F2, HM0.out H0.out⟩
          case measure => simp [intOf]; omega
        · have hv0 : (memE L.length m != 0) = true := by rw [bne_iff_ne]; exact h0
          have H0 := Lib.hid h0
          clear h0
          go_wp2_with fail
          go_ret
          exact ⟨ret_int (HM.out _ rfl H0.out).symm, ((F1.pure F).pure Fa).pure F2⟩
      · obtain rfl : j = L.length := by omega
        have HF : Hid (validC L = 0) := by
          unfold Hid
          rw [HVC.out]
          refine firE_miss _ fun x hx => ?_
          obtain ⟨i, hi, rfl⟩ := List.getElem_of_mem hx
          simpa using HQ.out i (by simpa using hi) (by simpa using hi)
        go_wp2_with fail
        go_ret
        exact ⟨ret_int HF.out.symm, F1.pure F⟩
end Go.Proofs.YtoblhcieidljjaaGreatDoor

/- Walks: configuration.Declared. -/
namespace Go.Proofs.YtoblhcieidljjaaGreatDoor
open Go.RowKit

def decAt (L : List Mb) (j : Nat) : Bool := match L[j]? with
  | some m => m.dec
  | none => false
/-- The set of the declared of the first j members. -/
def decS (L : List Mb) : Nat → Nat
  | 0 => 0
  | j + 1 => if decAt L j = true ∧ j < 10 then decS L j ||| 2 ^ j else decS L j
theorem decS_lt (L : List Mb) : ∀ j, decS L j < 1024
  | 0 => by simp [decS]
  | j + 1 => by
    simp only [decS]
    split
    · rename_i h
      exact Nat.or_lt_two_pow (n := 10) (decS_lt L j) (Nat.pow_lt_pow_right (by omega) h.2)
    · exact decS_lt L j
theorem decS_bit (L : List Mb) (i : Nat) : ∀ j, (decS L j).testBit i = (decide (i < j) && decide (i < 10) && decAt L i)
  | 0 => by simp [decS]
  | j + 1 => by
    have ih := decS_bit L i j
    simp only [decS]
    split
    · rename_i h
      rw [Nat.testBit_or, ih, Nat.testBit_two_pow]
      by_cases e : j = i
      · subst e
        simp [h.1, h.2]
      · have e1 : decide (i < j + 1) = decide (i < j) := by
          rw [decide_eq_decide]; omega
        rw [e1]
        simp [e]
    · rename_i h
      rw [ih]
      by_cases e : j = i
      · subst e
        have : (decide (j < 10) && decAt L j) = false := by
          cases hd : decAt L j with
          | false => simp
          | true => simp; exact Nat.le_of_not_lt (fun hh => h ⟨hd, hh⟩)
        simp [this]
      · have e1 : decide (i < j + 1) = decide (i < j) := by
          rw [decide_eq_decide]; omega
        rw [e1]

set_option maxRecDepth 100000 in
set_option maxHeartbeats 2000000 in
theorem declared06_any (L : List Mb) (v : Value) (w : World) (h : CfD w (Dm w none) v L) (hL : L.length ≤ 1000) :
    Calls Tryz.prog 49 #[v] w fun e w' => e = .returned (.int .i64 (decS L L.length : Nat)) ∧ Fr none w w' := by
  obtain ⟨A, c, rfl, q1, q2, hcell⟩ := h.open_
  have HC := Lib.hid hcell
  unfold maxLen at q2
  clear hcell h
  go_enter Tryz.func49, Tryz.ntmps49
  go_upto_region 1 with (fail)
  generalize hW : w.alloc _ = w1
  have F1 : Fr none w w1 := hW ▸ (Fr.refl _ _).alloc _
  have b1 : CB w1 w.heap.size (.slice A L.length c) := by rw [← hW]; exact blk_new _ _
  clear hW
  have R1 := b1.cell
  have l1 := blk_lt b1
  go_wp2_with fail
  go_loopw [3, 4, 5, 9] (fun s3 _ _ s9 wr => ∃ (j u : Nat), j ≤ L.length ∧ s9 = .int .i64 (j : Int) ∧ s3 = .int .i64 (u : Int) ∧ Hid (u = decS L j) ∧ Fr none w1 wr) (fun _ _ _ s9 _ => L.length - (intOf s9).toNat)
  case atStart => exact ⟨0, 0, Nat.zero_le _, rfl, rfl, rfl, Fr.refl _ _⟩
  case round =>
    clear R1 l1
    obtain ⟨j, u, hj, rfl, rfl, HU, F⟩ := hrel
    obtain ⟨wz, hwz⟩ : ∃ wz : World, wz = wr := ⟨_, rfl⟩
    subst hwz
    by_cases hlt : j < L.length
    · obtain ⟨b, off, th, A1, n1, c1, A2, n2, c2, rfl, hb, g0, g1, g2, g3, ht⟩ := HC.out j hlt
      have Fw := F1.pure F
      have g0 := Fw.keep g0 (by simp)
      have g1 := Fw.keep g1 (by simp)
      have g2 := Fw.keep g2 (by simp)
      have g3 := Fw.keep g3 (by simp)
      have hda : decAt L j = L[j].dec := by unfold decAt; rw [List.getElem?_eq_getElem hlt]
      have HDA := Lib.hid hda
      have hul : u < 1024 := by rw [HU.out]; exact decS_lt L j
      clear hda ht
      obtain ⟨d, hd⟩ : ∃ d, L[j].dec = d := ⟨_, rfl⟩
      rw [hd] at g0 HDA
      clear hd
      go_upto_region 5 with (fail)
      generalize hW : wz.alloc _ = wa
      have Fa : Fr none wz wa := hW ▸ (Fr.refl none wz).alloc _
      have m4 : MB wa wz.heap.size (.bool d) (.int .i64 th) (.slice A1 n1 c1) (.slice A2 n2 c2) := by rw [← hW]; exact blk_new _ _
      clear hW g0 g1 g2 g3
      have R4 := m4.cell
      have l4 := blk_lt m4
      cases d with
      | true =>
        by_cases h10 : j < 10
        · have hd10 : decide ((j : Int) < 10) = true := decide_eq_true (by omega)
          have hp := pow2_lt j (by omega)
          have hw2 : wrap64 (2 ^ j) = ((2 ^ j : Nat) : Int) := wrap_pow j (by omega)
          have hbits : bits .or .i64 (u : Int) (wrap64 (2 ^ j)) = ((u ||| 2 ^ j : Nat) : Int) := by
            rw [hw2]; exact or_i64 _ _ (Nat.lt_trans hul (by decide)) (Nat.lt_trans hp (by decide))
          have HN : Hid (u ||| 2 ^ j = decS L (j + 1)) := by unfold Hid; simp only [decS]; rw [if_pos ⟨HDA.out, h10⟩, HU.out]
          clear hp hw2
          go_wp2_with fail
          go_roundw
          case rel => exact ⟨j + 1, u ||| 2 ^ j, by omega, by go_num, by go_num, HN, F.pure Fa⟩
          case measure => simp [intOf]; omega
        · have hd10 : decide ((j : Int) < 10) = false := decide_eq_false (by omega)
          have HN : Hid (u = decS L (j + 1)) := by unfold Hid; simp only [decS]; rw [if_neg (fun e => h10 e.2), HU.out]
          go_wp2_with fail
          go_roundw
          case rel => exact ⟨j + 1, u, by omega, by go_num, rfl, HN, F.pure Fa⟩
          case measure => simp [intOf]; omega
      | false =>
        have HN : Hid (u = decS L (j + 1)) := by unfold Hid; simp only [decS]; rw [if_neg (fun e => by rw [HDA.out] at e; cases e.1), HU.out]
        go_wp2_with fail
        go_roundw
        case rel => exact ⟨j + 1, u, by omega, by go_num, rfl, HN, F.pure Fa⟩
        case measure => simp [intOf]; omega
    · obtain rfl : j = L.length := by omega
      go_wp2_with fail
      go_ret
      exact ⟨ret_int (by rw [HU.out]), F1.pure F⟩
end Go.Proofs.YtoblhcieidljjaaGreatDoor

/- Walks: configuration.line. -/
namespace Go.Proofs.YtoblhcieidljjaaGreatDoor
open Go.RowKit

/-- The beginning of a line. -/
def begL (k : Nat) : List UInt8 := Lib.itoa (k : Int) ++ [58, 32]
/-- What a line says. -/
def lineP (k : Nat) (x : List UInt8) : Mb × Int :=
  if 10 ≤ k then (noMb, 3)
  else if Lib.hasPrefix x (begL k) = true then
    (if Lib.trimPrefix x (begL k) = [45] then (noMb, 0)
     else match parseP (Lib.trimPrefix x (begL k)) with
      | .ok t => (⟨true, t⟩, 0)
      | .no _ e => (noMb, e))
  else (noMb, 2)
/-- What line leaves. -/
def LineE (r : Mb × Int) (w : World) (e : Ending) (w' : World) : Prop :=
  ∃ (th : Int) (A1 : Option Addr) (n1 c1 : Nat) (A2 : Option Addr) (n2 c2 : Nat), e = .returned (.tuple #[.agg #[.bool r.1.dec, .int .i64 th, .slice A1 n1 c1, .slice A2 n2 c2], .int .i64 r.2]) ∧ TrD w' (Dn w.heap.size w') (.agg #[.int .i64 th, .slice A1 n1 c1, .slice A2 n2 c2]) r.1.tr ∧ Fr none w w'
theorem trd_zero (w : World) (D : Nat → Prop) : TrD w D (.agg #[.int .i64 0, .slice none 0 0, .slice none 0 0]) zeroTr :=
  TrD.mk_ (by constructor <;> omega) (SlD.nil _ _ _) (by simp) (SlD.nil _ _ _) (by simp) (by simp) (by simp [TrsD])
theorem no_nz {s : List UInt8} {a : Nat} {x : Int} (h : parseP s = .no a x) : x ≠ 0 := by
  unfold parseP at h
  split at h
  · injection h with _ h; omega
  · split at h
    · injection h with _ h; omega
    · split at h
      · injection h with _ h; omega
      · split at h
        · rename_i h1
          injection h with _ h
          rw [← h]; exact h1
        · cases h
set_option maxRecDepth 100000 in
set_option maxHeartbeats 2000000 in
theorem line_any (k : Nat) (S : ByteArray) (w : World) (hk : k < 1073741824) (hS : S.size ≤ 6001) : Calls Tryz.prog 65 #[.int .i64 k, .string S] w (LineE (lineP k S.data.toList) w) := by
  obtain ⟨r, hr⟩ : ∃ r, r = lineP k S.data.toList := ⟨_, rfl⟩
  rw [← hr]
  have HR := Lib.hid hr
  clear hr
  go_enter Tryz.func65, Tryz.ntmps65
  go_upto_region 1 with (fail)
  generalize hW : w.alloc _ = w1
  have F1 : Fr none w w1 := hW ▸ (Fr.refl _ _).alloc _
  have m1 : MB w1 w.heap.size (.bool false) (.int .i64 0) (.slice none 0 0) (.slice none 0 0) := by rw [← hW]; exact blk_new _ _
  have hz1 : w1.heap.size = w.heap.size + 1 := by rw [← hW]; simp
  clear hW
  have R1 := m1.cell
  have Z1 := m1.free
  have l1 := blk_lt m1
  by_cases h10 : 10 ≤ k
  · have hd : decide ((10 : Int) ≤ (k : Int)) = true := decide_eq_true (by omega)
    have HF : Hid (r = (noMb, 3)) := by unfold Hid; rw [HR.out]; unfold lineP; rw [if_pos h10]
    clear h10
    go_wp2_with fail
    refine bodyPost_ret (v := .tuple #[.agg #[.bool false, .int .i64 0, .slice none 0 0, .slice none 0 0], .int .i64 3]) (by simp [results, Tryz.results65, go_sem, R1]) rfl ?_
    have G := fr_mb4 w1 w.heap.size (.bool false) (.int .i64 0) (.slice none 0 0) (.slice none 0 0)
    exact ⟨_, _, _, _, _, _, _, by rw [HF.out]; rfl, by rw [HF.out]; exact trd_zero _ _, F1.own G (by simp)⟩
  · have hd : decide ((10 : Int) ≤ (k : Int)) = false := decide_eq_false (by omega)
    have hk10 : k < 10 := by omega
    have H10 := Lib.hid h10
    clear h10
    obtain ⟨N, hN⟩ : ∃ N, N = bs (Lib.itoa (k : Int)) := ⟨_, rfl⟩
    have HN := Lib.hid hN
    have hNz : N.size ≤ 4 := by rw [hN, bs_size]; exact itoa_len4 ⟨by omega, by omega⟩
    clear hN
    obtain ⟨B, HB, hBz, hBa⟩ := str_add N ⟨#[58, 32]⟩ (by omega) (by decide)
    have hBL : B.data.toList = begL k := by rw [HB.out, HN.out]; simp [bs, begL]
    have HBL := Lib.hid hBL
    clear hBL
    obtain ⟨R, hR⟩ : ∃ R, Lib.trimPrefix S.data.toList (begL k) = R := ⟨_, rfl⟩
    have HRR := Lib.hid hR
    clear hR
    cases hp : Lib.hasPrefix S.data.toList (begL k) with
    | false =>
      have HP := Lib.hid hp
      have HF : Hid (r = (noMb, 2)) := by unfold Hid; rw [HR.out]; unfold lineP; rw [if_neg H10.out, if_neg (by rw [hp]; simp)]
      clear hp
      go_wp2_with (first | (go_at_call 61; refine (itoa_at k N HN (by omega) (by omega) _).mono ?_; rintro e w' ⟨rfl, rfl⟩) | (go_at_call 116; refine (Tryz.strings_CutPrefix S B _).mono ?_; rintro e w' ⟨rfl, hw⟩; obtain rfl : w1 = w' := hw.symm; rw [HBL.out, HRR.out, HP.out]))
      refine bodyPost_ret (v := .tuple #[.agg #[.bool false, .int .i64 0, .slice none 0 0, .slice none 0 0], .int .i64 2]) (by simp [results, Tryz.results65, go_sem, R1]) rfl ?_
      have G := fr_mb4 w1 w.heap.size (.bool false) (.int .i64 0) (.slice none 0 0) (.slice none 0 0)
      exact ⟨_, _, _, _, _, _, _, by rw [HF.out]; rfl, by rw [HF.out]; exact trd_zero _ _, F1.own G (by simp)⟩
    | true =>
      have HP := Lib.hid hp
      by_cases hm : R = [45]
      · have hmb : (R == [45]) = true := by rw [beq_iff_eq]; exact hm
        have HF : Hid (r = (noMb, 0)) := by unfold Hid; rw [HR.out]; unfold lineP; rw [if_neg H10.out, if_pos hp, HRR.out, if_pos hm]
        clear hm hp
        go_wp2_with (first | (go_at_call 61; refine (itoa_at k N HN (by omega) (by omega) _).mono ?_; rintro e w' ⟨rfl, rfl⟩) | (go_at_call 116; refine (Tryz.strings_CutPrefix S B _).mono ?_; rintro e w' ⟨rfl, hw⟩; obtain rfl : w1 = w' := hw.symm; rw [HBL.out, HRR.out, HP.out]))
        refine bodyPost_ret (v := .tuple #[.agg #[.bool false, .int .i64 0, .slice none 0 0, .slice none 0 0], .int .i64 0]) (by simp [results, Tryz.results65, go_sem, R1]) rfl ?_
        have G := fr_mb4 w1 w.heap.size (.bool false) (.int .i64 0) (.slice none 0 0) (.slice none 0 0)
        exact ⟨_, _, _, _, _, _, _, by rw [HF.out]; rfl, by rw [HF.out]; exact trd_zero _ _, F1.own G (by simp)⟩
      · have hmb : (R == [45]) = false := by rw [beq_eq_false_iff_ne]; exact hm
        have HM := Lib.hid hm
        clear hm
        cases hq : parseP R with
        | no a x =>
          have HF : Hid (r = (noMb, x)) := by unfold Hid; rw [HR.out]; unfold lineP; rw [if_neg H10.out, if_pos hp, HRR.out, if_neg HM.out, hq]
          have HQ := Lib.hid hq
          have hx0 : (x != 0) = true := by rw [bne_iff_ne]; exact no_nz hq
          clear hp hq
          go_wp2_with (first | (go_at_call 61; refine (itoa_at k N HN (by omega) (by omega) _).mono ?_; rintro e w' ⟨rfl, rfl⟩) | (go_at_call 116; refine (Tryz.strings_CutPrefix S B _).mono ?_; rintro e w' ⟨rfl, hw⟩; obtain rfl : w1 = w' := hw.symm; rw [HBL.out, HRR.out, HP.out]))
          refine (parse_noW (bs R) a x _ (by rw [bs_list]; exact HQ.out)).mono ?_
          rintro e w2 ⟨rfl, F2⟩
          have m2 := m1.fr F2 (by simp)
          have R2 := m2.cell
          have Z2 := m2.free
          have l2 := blk_lt m2
          clear R1 Z1 l1
          go_wp2_with fail
          generalize hW5 : (((w2.setCell _ _).setCell _ _).setCell _ _).setCell _ _ = w5
          have G : Fr (some w.heap.size) w2 w5 := hW5 ▸ fr_mb4 w2 w.heap.size (.bool false) (.int .i64 0) (.slice none 0 0) (.slice none 0 0)
          have m5 : MB w5 w.heap.size (.bool false) (.int .i64 0) (.slice none 0 0) (.slice none 0 0) := by rw [← hW5]; exact mb_fill4 m2 _ _ _ _
          clear hW5
          generalize hW6 : w5.alloc _ = w6
          have F6 : Fr none w5 w6 := hW6 ▸ (Fr.refl none w5).alloc _
          have R6 := (m5.fr F6 (by simp)).cell
          refine bodyPost_ret (v := .tuple #[.agg #[.bool false, .int .i64 0, .slice none 0 0, .slice none 0 0], .int .i64 x]) (by simp [results, Tryz.results65, go_sem, R6]) rfl ?_
          exact ⟨_, _, _, _, _, _, _, by rw [HF.out]; rfl, by rw [HF.out]; exact trd_zero _ _, ((F1.pure F2).own G (by simp)).pure F6⟩
        | ok t =>
          have HF : Hid (r = (⟨true, t⟩, 0)) := by unfold Hid; rw [HR.out]; unfold lineP; rw [if_neg H10.out, if_pos hp, HRR.out, if_neg HM.out, hq]
          have HQ := Lib.hid hq
          clear hp hq
          go_wp2_with (first | (go_at_call 61; refine (itoa_at k N HN (by omega) (by omega) _).mono ?_; rintro e w' ⟨rfl, rfl⟩) | (go_at_call 116; refine (Tryz.strings_CutPrefix S B _).mono ?_; rintro e w' ⟨rfl, hw⟩; obtain rfl : w1 = w' := hw.symm; rw [HBL.out, HRR.out, HP.out]))
          refine (parse_okW (bs R) t _ (by rw [bs_list]; exact HQ.out)).mono ?_
          rintro e w2 ⟨th, A1, n1, c1, A2, n2, c2, rfl, hT, F2⟩
          have m2 := m1.fr F2 (by simp)
          have R2 := m2.cell
          have Z2 := m2.free
          have l2 := blk_lt m2
          clear R1 Z1 l1
          have hz2 := F2.size
          go_wp2_with fail
          generalize hW5 : (((w2.setCell _ _).setCell _ _).setCell _ _).setCell _ _ = w5
          have G : Fr (some w.heap.size) w2 w5 := hW5 ▸ fr_mb4 w2 w.heap.size (.bool true) (.int .i64 th) (.slice A1 n1 c1) (.slice A2 n2 c2)
          have m5 : MB w5 w.heap.size (.bool true) (.int .i64 th) (.slice A1 n1 c1) (.slice A2 n2 c2) := by rw [← hW5]; exact mb_fill4 m2 _ _ _ _
          clear hW5
          generalize hW6 : w5.alloc _ = w6
          have F6 : Fr none w5 w6 := hW6 ▸ (Fr.refl none w5).alloc _
          have R6 := (m5.fr F6 (by simp)).cell
          refine bodyPost_ret (v := .tuple #[.agg #[.bool true, .int .i64 th, .slice A1 n1 c1, .slice A2 n2 c2], .int .i64 0]) (by simp [results, Tryz.results65, go_sem, R6]) rfl ?_
          exact ⟨_, _, _, _, _, _, _, by rw [HF.out], by rw [HF.out]; exact TrD.keep (dn_mono (by omega)) _ _ (TrD.keep (dn_fr F6 (by intro q e; cases e)) _ _ (TrD.keep (dn_fr G (by intro q e; injection e with e; omega)) _ _ hT)), ((F1.pure F2).own G (by simp)).pure F6⟩
end Go.Proofs.YtoblhcieidljjaaGreatDoor

/- Walks: configuration.Parse. -/
namespace Go.Proofs.YtoblhcieidljjaaGreatDoor
open Go.RowKit

def nlB : ByteArray := ⟨#[10]⟩
/-- The lines of a text. -/
def linS (s : List UInt8) : List ByteArray := Lib.splitB nlB 0 (Lib.countB (bs (Lib.trimSuffix s [10])) nlB) (bs (Lib.trimSuffix s [10]))
def errsOf (ls : List ByteArray) : List Int := ls.mapIdx fun k x => (lineP k x.data.toList).2
def mbsOf (ls : List ByteArray) : List Mb := ls.mapIdx fun k x => (lineP k x.data.toList).1
/-- The place of the first error, from 1 on, and the error. -/
def fstE : Nat → List Int → Option (Nat × Int)
  | _, [] => none
  | k, e :: r => if e = 0 then fstE (k + 1) r else some (k + 1, e)
theorem fstE_hit : ∀ (l : List Int) (k j : Nat) (hj : j < l.length), (∀ i (hi : i < l.length), i < j → l[i] = 0) → l[j] ≠ 0 → fstE k l = some (k + j + 1, l[j])
  | [], _, j, hj, _, _ => absurd hj (by simp)
  | e :: r, k, 0, _, _, h => by
    have h : e ≠ 0 := h
    simp only [fstE]; rw [if_neg h]; rfl
  | e :: r, k, j + 1, hj, hh, h => by
    have h0 : e = 0 := hh 0 (by simp) (by omega)
    simp only [fstE]
    rw [if_pos h0, fstE_hit r (k + 1) j (by simpa using hj) (fun i hi hij => by have := hh (i + 1) (by simpa using hi) (by omega); simpa using this) (by simpa using h)]
    simp only [List.getElem_cons_succ, Option.some.injEq, Prod.mk.injEq, and_true]
    omega
theorem fstE_miss : ∀ (l : List Int) (k : Nat), (∀ x ∈ l, x = 0) → fstE k l = none
  | [], _, _ => rfl
  | e :: r, k, h => by simp only [fstE]; rw [if_pos (h e (by simp)), fstE_miss r (k + 1) (fun x hx => h x (by simp [hx]))]
/-- What Parse reads. -/
def parseC (s : List UInt8) : List Mb × Nat × Int :=
  if 6000 < s.length then ([], 0, 3) else if s = [] then ([], 0, 0) else
    match fstE 0 (errsOf (linS s)) with
    | some (k, e) => ([], k, e)
    | none => match fstE 0 ((mbsOf (linS s)).map (memE (mbsOf (linS s)).length)) with
      | some (k, e) => ([], k, e)
      | none => (mbsOf (linS s), 0, 0)
/-- What Parse leaves. -/
def CpaE (r : List Mb × Nat × Int) (w : World) (e : Ending) (w' : World) : Prop :=
  ∃ v, e = .returned (.tuple #[v, .int .i64 (r.2.1 : Int), .int .i64 r.2.2]) ∧ CfD w' (Dn w.heap.size w') v r.1 ∧ Fr none w w'
/-- internal/bytealg.MaxLen holds some number. -/
def Mxl (w : World) : Prop := ∃ m : Int, w.cell? ⟨0, 0, none⟩ = some (.int .i64 m)
theorem Mxl.fr {w w' : World} (h : Mxl w) (f : Fr none w w') : Mxl w' := by
  obtain ⟨m, hm⟩ := h
  exact ⟨m, f.keep hm (by simp)⟩
theorem splitB_le (save : Nat) (h0 : save = 0) : ∀ (k : Nat) (s : ByteArray), ∀ x ∈ Lib.splitB nlB save k s, x.size ≤ s.size
  | 0, s, x, hx => by simp [Lib.splitB] at hx; rw [hx]; exact Nat.le_refl _
  | k + 1, s, x, hx => by
    unfold Lib.splitB at hx
    split at hx
    · simp at hx; rw [hx]; exact Nat.le_refl _
    · simp only [List.mem_cons] at hx
      rcases hx with rfl | hx
      · rw [ByteArray.size_extract]; omega
      · have := splitB_le save h0 k _ x hx
        rw [ByteArray.size_extract] at this
        omega
theorem linS_le (s : List UInt8) (x : ByteArray) (hx : x ∈ linS s) : x.size ≤ s.length := by
  have := splitB_le 0 rfl _ _ x hx
  rw [bs_size] at this
  refine Nat.le_trans this ?_
  unfold Lib.trimSuffix
  split
  · rw [List.length_take]; omega
  · exact Nat.le_refl _
theorem linS_len (s : List UInt8) : (linS s).length = Lib.countB (bs (Lib.trimSuffix s [10])) nlB + 1 := Lib.splitB_all nlB (by decide) 0 _ _ rfl
theorem linS_bd (s : List UInt8) : (linS s).length ≤ s.length + 1 := by
  rw [linS_len]
  have := Lib.countB_le nlB (by decide) _ (bs (Lib.trimSuffix s [10])) (Nat.le_refl _)
  rw [bs_size] at this
  have h2 : (Lib.trimSuffix s [10]).length ≤ s.length := by
    unfold Lib.trimSuffix
    split
    · rw [List.length_take]; omega
    · exact Nat.le_refl _
  omega
theorem line_sz (k : Nat) (x : List UInt8) : (lineP k x).1.tr.size ≤ 1073741000 := by
  unfold lineP
  split
  · decide
  · split
    · split
      · decide
      · cases hq : parseP (Lib.trimPrefix x (begL k)) with
        | ok t => have := (valid_facts (ok_valid hq)).2.1; simp only; omega
        | no a e => simp only; decide
    · decide

set_option maxRecDepth 100000 in
set_option maxHeartbeats 4000000 in
theorem cparse_any (s : List UInt8) (S : ByteArray) (hS : S = bs s) (w : World) (hz : s.length ≤ 1073741824) (hM : Mxl w) : Calls Tryz.prog 11 #[.string S] w (CpaE (parseC s) w) := by
  obtain ⟨r, hr⟩ : ∃ r, r = parseC s := ⟨_, rfl⟩
  rw [← hr]
  have HR := Lib.hid hr
  have HS := Lib.hid hS
  have hSz : S.size = s.length := by rw [hS, bs_size]
  clear hr hS
  go_enter Tryz.func11, Tryz.ntmps11
  go_upto_region 2 with (fail)
  generalize hW : (w.alloc _).alloc _ = w1
  have F1 : Fr none w w1 := hW ▸ ((Fr.refl _ w).alloc _).alloc _
  have b2 : CB w1 w.heap.size (.slice none 0 0) := by rw [← hW]; exact (Below.heap_alloc _ _ _ (by simp)).trans (blk_new _ _)
  have b5 : CB w1 (w.heap.size + 1) (.slice none 0 0) := by rw [← hW]; exact blk_new_at (by simp) _
  have hz1 : w1.heap.size = w.heap.size + 2 := by rw [← hW]; simp
  clear hW
  have R2 := b2.cell
  have Z2 := b2.free
  have R5 := b5.cell
  have l2 := blk_lt b2
  have l5 := blk_lt b5
  by_cases h6 : 6000 < s.length
  · have hd : decide ((6000 : Int) < (s.length : Int)) = true := decide_eq_true (by omega)
    have HF : Hid (r = ([], 0, 3)) := by unfold Hid; rw [HR.out]; unfold parseC; rw [if_pos h6]
    clear h6
    go_wp2_with fail
    refine bodyPost_ret (v := .tuple #[.agg #[.slice none 0 0], .int .i64 0, .int .i64 3]) (by simp [results, Tryz.results11, go_sem, R2]) rfl ?_
    have G := Fr.set1 w1 ⟨w.heap.size, 0, none⟩ (.slice none 0 0)
    exact ⟨.agg #[.slice none 0 0], by rw [HF.out]; rfl, by rw [HF.out]; exact ⟨none, 0, [], rfl, SlD.nil _ _ _, rfl⟩, F1.own G (by simp)⟩
  · have hd : decide ((6000 : Int) < (s.length : Int)) = false := decide_eq_false (by omega)
    have H6 := Lib.hid h6
    have h6' : s.length ≤ 6000 := by omega
    clear h6
    have hST : S.toList = s := by rw [HS.out, ByteArray.toList_eq]; exact bs_list s
    by_cases hs0 : s = []
    · have hse : S.toList.isEmpty = true := by rw [hST, hs0]; rfl
      have HF : Hid (r = ([], 0, 0)) := by unfold Hid; rw [HR.out]; unfold parseC; rw [if_neg H6.out, if_pos hs0]
      clear hs0 hST
      go_wp2_with fail
      refine bodyPost_ret (v := .tuple #[.agg #[.slice none 0 0], .int .i64 0, .int .i64 0]) (by simp [results, Tryz.results11, go_sem, R2]) rfl ?_
      have G := Fr.set1 w1 ⟨w.heap.size, 0, none⟩ (.slice none 0 0)
      exact ⟨.agg #[.slice none 0 0], by rw [HF.out]; rfl, by rw [HF.out]; exact ⟨none, 0, [], rfl, SlD.nil _ _ _, rfl⟩, F1.own G (by simp)⟩
    · have hse : S.toList.isEmpty = false := by
        rw [hST]
        cases s with
        | nil => exact absurd rfl hs0
        | cons x l => rfl
      have HP : Hid (parseC s = match fstE 0 (errsOf (linS s)) with
          | some (k, e) => ([], k, e)
          | none => match fstE 0 ((mbsOf (linS s)).map (memE (mbsOf (linS s)).length)) with
            | some (k, e) => ([], k, e)
            | none => (mbsOf (linS s), 0, 0)) := by unfold Hid; conv => lhs; unfold parseC
                                                    rw [if_neg H6.out, if_neg hs0]
      obtain ⟨mx, hmx⟩ := hM.fr F1
      have hll := linS_len s
      have hlb := linS_bd s
      have hle := linS_le s
      have HLE := Lib.hid hle
      obtain ⟨ls, hls⟩ : ∃ ls, ls = linS s := ⟨_, rfl⟩
      rw [← hls] at HP hll hlb HLE
      have HLS := Lib.hid hls
      have HLL := Lib.hid hll
      clear hs0 hST hle hls hll
      go_wp2_with fail
      refine (Tryz.strings_TrimSuffix S ⟨#[10]⟩ _ (by omega)).mono ?_
      rintro e w' ⟨rfl, hw⟩
      obtain rfl : w1 = w' := hw.symm
      have hTs : (⟨(Lib.trimSuffix S.data.toList (⟨#[10]⟩ : ByteArray).data.toList).toArray⟩ : ByteArray) = bs (Lib.trimSuffix s [10]) := by
        rw [HS.out, bs_list]; rfl
      rw [hTs]
      have hTz : (bs (Lib.trimSuffix s [10])).size ≤ s.length := by
        rw [bs_size]
        unfold Lib.trimSuffix
        split
        · rw [List.length_take]; omega
        · exact Nat.le_refl _
      clear hTs hw
      go_wp2_with fail
      refine (Tryz.strings_Split (bs (Lib.trimSuffix s [10])) ⟨#[10]⟩ mx _ (by omega) hmx (by decide)).mono ?_
      rintro e w' ⟨rfl, rfl⟩
      rw [show Lib.countB (bs (Lib.trimSuffix s [10])) (⟨#[10]⟩ : ByteArray) + 1 = ls.length from HLL.out.symm, show Lib.splitB (⟨#[10]⟩ : ByteArray) 0 (Lib.countB (bs (Lib.trimSuffix s [10])) (⟨#[10]⟩ : ByteArray)) (bs (Lib.trimSuffix s [10])) = ls from HLS.out.symm]
      obtain ⟨gb, hgb⟩ : ∃ gb, gb = w1.heap.size := ⟨_, rfl⟩
      rw [← hgb]
      generalize hW : w1.alloc _ = wa
      have Fa : Fr none w1 wa := hW ▸ (Fr.refl none w1).alloc _
      have hcells : wa.heap[gb]? = some (.cells (ls.map Value.string).toArray 9 (0, 0)) := by rw [← hW, hgb]; exact blk_new _ _
      have hza : wa.heap.size = gb + 1 := by rw [← hW, hgb]; simp
      have b2 := b2.fr Fa (by simp)
      have b5 := b5.fr Fa (by simp)
      have F0a := F1.pure Fa
      have hgb1 : w.heap.size + 2 ≤ gb := by omega
      have HCL := Lib.hid hcells
      have hlb' : ls.length ≤ 6001 := by omega
      clear hW Fa hgb hcells hz1 R2 Z2 R5 l2 l5 hTz hmx F1 hM
      have hlen1 : 1 ≤ ls.length := by have := HLL.out; omega
      go_wp2_with fail
      go_loopw [6, 7, 8, 9, 24] (fun _ _ _ _ s24 wr => ∃ (j : Nat) (A1 : Option Addr) (c1 : Nat) (cells : List Value), j ≤ ls.length ∧ s24 = .int .i64 (j : Int) ∧ Fr (some (w.heap.size + 1)) wa wr ∧ CB wr (w.heap.size + 1) (.slice A1 j c1) ∧
        wr.ownsRow wa.heap.size 33 4 (.slice A1 j c1) j cells ∧ MbsD wr (Dx wa.heap.size wr (.slice A1 j c1)) cells ((mbsOf ls).take j) ∧ Hid (∀ i (hi : i < ls.length), i < j → (lineP i ls[i].data.toList).2 = 0)) (fun _ _ _ _ s24 _ => ls.length - (intOf s24).toNat)
      case atStart => exact ⟨0, none, 0, [], Nat.zero_le _, rfl, Fr.refl _ _, b5, World.ownsRow_nil _ _ _ _, by simp [MbsD], Lib.hid (fun i hi h => by omega)⟩
      case round =>
        clear b5
        obtain ⟨j, A1, c1, cells, hj, rfl, F, b5, own, hms, HQ⟩ := hrel
        obtain ⟨wz, hwz⟩ : ∃ wz : World, wz = wr := ⟨_, rfl⟩
        subst hwz
        have hzz := F.size
        have b2z := b2.fr F (by simp)
        by_cases hlt : j < ls.length
        · have hgz : wz.heap[gb]? = _ := blk_fr HCL.out F (by simp; omega)
          have hcj : wz.cell? ⟨gb, j, none⟩ = some (.string ls[j]) := by rw [blk_cell hgz]; simp [hlt]
          have hlz := blk_lt hgz
          have hxz := HLE.out _ (List.getElem_mem hlt)
          have HT : Hid ((mbsOf ls).take (j + 1) = (mbsOf ls).take j ++ [(lineP j ls[j].data.toList).1]) := by
            unfold Hid
            rw [List.take_succ_eq_append_getElem (by simpa [mbsOf] using hlt)]
            simp [mbsOf]
          have HEE : Hid (∀ x, (lineP j ls[j].data.toList).2 = x → x ≠ 0 → r = ([], j + 1, x)) := fun x hx hx0 => by
            rw [HR.out, HP.out, fstE_hit (errsOf ls) 0 j (by simpa [errsOf] using hlt) (fun i hi hij => by simpa [errsOf] using HQ.out i (by simpa [errsOf] using hi) hij) (by simpa [errsOf, hx] using hx0)]
            simp [errsOf, hx]
          have HE0 : Hid ((lineP j ls[j].data.toList).2 = 0 → ∀ i (hi : i < ls.length), i < j + 1 → (lineP i ls[i].data.toList).2 = 0) := fun h0 i hi hij => by
            rcases Nat.lt_or_ge i j with hh | hh
            · exact HQ.out i hi hh
            · obtain rfl : i = j := by omega
              exact h0
          clear HQ hgz
          generalize ls[j] = X at *
          go_wp2_with fail
          clear hcj
          refine (line_any j X _ (by omega) (by omega)).mono ?_
          rintro e w2 ⟨th, C1, n1, d1, C2, n2, d2, rfl, hT, F2⟩
          obtain ⟨q, hq⟩ : ∃ q, lineP j X.data.toList = q := ⟨_, rfl⟩
          rw [hq] at hT HT HEE HE0 ⊢
          clear hq
          obtain ⟨⟨qd, qt⟩, qe⟩ := q
          simp only at hT HT HEE HE0 ⊢
          have hz2 := F2.size
          have b52 := b5.fr F2 (by simp)
          have b22 := b2z.fr F2 (by simp)
          have own2 := own_fr own F2 (by simp)
          have olz := own.lt
          have F02 := F.pure F2
          have hms2 : MbsD w2 (Dx wa.heap.size w2 (.slice A1 j c1)) cells ((mbsOf ls).take j) := MbsD.keep (dx_fr F2 (by simp)) _ _ hms
          have hT2 := TrD.keep (dn_dx (B := wa.heap.size) (v := .slice A1 j c1) (by omega) (fun q hq => (olz q hq).2)) _ _ hT
          have R2 := b22.cell
          have Z2 := b22.free
          have l2 := blk_lt b22
          clear own hms b5 b2z hT
          by_cases he : qe = 0
          · subst he
            have R5 := b52.cell
            have Z5 := b52.free
            have l5 := blk_lt b52
            go_upto_region 10 with (fail)
            generalize hW : w2.alloc _ = w3
            have F3 : Fr none w2 w3 := hW ▸ (Fr.refl none w2).alloc _
            have m8 : MB w3 w2.heap.size (.bool qd) (.int .i64 th) (.slice C1 n1 d1) (.slice C2 n2 d2) := by rw [← hW]; exact blk_new _ _
            clear hW R5 Z5 l5 R2 Z2 l2
            have b53 := b52.fr F3 (by simp)
            have own3 := own_fr own2 F3 (by simp)
            have hms3 : MbsD w3 (Dx wa.heap.size w3 (.slice A1 j c1)) cells ((mbsOf ls).take j) := MbsD.keep (dx_fr F3 (by simp)) _ _ hms2
            have hT3 := TrD.keep (dx_fr F3 (by simp)) _ _ hT2
            have F03 := F02.pure F3
            have hz3 := F3.size
            have R8 := m8.cell
            have l8 := blk_lt m8
            have R5 := b53.cell
            have Z5 := b53.free
            have l5 := blk_lt b53
            clear own2 hms2 hT2 b52
            go_wp2_with (at_builtin; refine app_lit eiMb rfl _ _ rfl wa.heap.size A1 j c1 _ rfl own3 1 [.bool qd, .int .i64 th, .slice C1 n1 d1, .slice C2 n2 d2] _ _ rfl (by simp) rfl (by simp [Value.oneCell']) (by omega) (by unfold maxLen; omega) (by omega) ?_; intro A5 c5 w6 own6 F6 nb6; have b56 := b53.fr F6 (own_ne own3 (by omega)); have R56 := b56.cell; have Z56 := b56.free; have l56 := blk_lt b56; clear R5 Z5 l5)
            have FQ := Fr.set1 w6 ⟨w.heap.size + 1, 0, none⟩ (.slice A5 (j + 1) c5)
            have og := own_blk_ge own3
            have hz6 := F6.size
            have hzQ := FQ.size
            go_roundw
            case rel =>
              refine ⟨j + 1, A5, c5, cells ++ [.bool qd, .int .i64 th, .slice C1 n1 d1, .slice C2 n2 d2], by omega, by go_num, (F03.own F6 (fun q e => by have := og q e; omega)).same FQ, b56.set0 _, own_fr own6 FQ (by simp <;> omega), ?_, HE0.out rfl⟩
              rw [HT.out]
              exact MbsD.keep (dx_fr FQ (by simp <;> omega)) _ _ (MbsD.append (by simp only [MbsD]; exact ⟨_, _, _, [], rfl, TrD.keep (dx_app F6 nb6) _ _ hT3, rfl⟩) (MbsD.keep (dx_app F6 nb6) _ _ hms3))
            case measure => simp [intOf]; omega
          · have hv0 : (qe != 0) = true := by rw [bne_iff_ne]; exact he
            have HF : Hid (r = ([], j + 1, qe)) := HEE.out qe rfl he
            clear he
            go_wp2_with fail
            generalize hW5 : w2.setCell _ _ = w5
            have G : Fr (some w.heap.size) w2 w5 := hW5 ▸ Fr.set1 w2 ⟨w.heap.size, 0, none⟩ (.slice none 0 0)
            have m5 : CB w5 w.heap.size (.slice none 0 0) := by rw [← hW5]; exact b22.set0 _
            clear hW5
            generalize hW6 : w5.alloc _ = w6
            have F6 : Fr none w5 w6 := hW6 ▸ (Fr.refl none w5).alloc _
            have R6 := (m5.fr F6 (by simp)).cell
            refine bodyPost_ret (v := .tuple #[.agg #[.slice none 0 0], .int .i64 ((j : Int) + 1), .int .i64 qe]) (by simp [results, Tryz.results11, go_sem, R6]) rfl ?_
            exact ⟨.agg #[.slice none 0 0], by rw [HF.out]; simp, by rw [HF.out]; exact ⟨none, 0, [], rfl, SlD.nil _ _ _, rfl⟩, ((F0a.own F02 (by simp)).own G (by simp)).pure F6⟩
        · obtain rfl : j = ls.length := by omega
          have hml : (mbsOf ls).length = ls.length := by simp [mbsOf]
          rw [List.take_of_length_le (by omega)] at hms
          have HE1 : Hid (fstE 0 (errsOf ls) = none) := fstE_miss _ _ fun x hx => by
            obtain ⟨i, hi, rfl⟩ := List.getElem_of_mem hx
            have hi' : i < ls.length := by simpa [errsOf] using hi
            simpa [errsOf] using HQ.out i hi' hi'
          have HP2 : Hid (r = match fstE 0 ((mbsOf ls).map (memE ls.length)) with
            | some (k, e) => ([], k, e)
            | none => (mbsOf ls, 0, 0)) := by unfold Hid; rw [HR.out, HP.out, HE1.out, hml]
          have hszs : ∀ m ∈ mbsOf ls, m.tr.size ≤ 1073741000 := fun m hm => by
            obtain ⟨i, hi, rfl⟩ := List.getElem_of_mem hm
            simp only [mbsOf, List.getElem_mapIdx]
            exact line_sz _ _
          have F0z := F0a.own F (by simp)
          have hcf : CfD wz (Dm wz none) (.agg #[.slice A1 ls.length c1]) (mbsOf ls) := ⟨A1, c1, cells, by rw [hml], by rw [hml]; exact (SlD.own_dn own).keep (fun k hk => ⟨⟨hk.2, by simp⟩, rfl⟩), MbsD.keep (fun k hk => ⟨⟨hk.2.1, by simp⟩, rfl⟩) _ _ hms⟩
          have hcn : CfD wz (Dn (w.heap.size + 2) wz) (.agg #[.slice A1 ls.length c1]) (mbsOf ls) := ⟨A1, c1, cells, by rw [hml], by rw [hml]; exact (SlD.own_dn own).keep (fun k hk => ⟨⟨by have := hk.1; omega, hk.2⟩, rfl⟩), MbsD.keep (fun k hk => ⟨⟨by have := hk.1; omega, hk.2.1⟩, rfl⟩) _ _ hms⟩
          obtain ⟨A', c', e', q1, q2, hcell⟩ := hcf.open_
          rw [hml] at e'
          injection e' with e'
          simp only [Array.mk.injEq, List.cons.injEq, and_true] at e'
          injection e' with e1 _ e3
          subst e1 e3
          have HC := Lib.hid hcell
          have HSZ := Lib.hid hszs
          have HML := Lib.hid hml
          obtain ⟨ms, hms'⟩ : ∃ ms, ms = mbsOf ls := ⟨_, rfl⟩
          rw [← hms'] at HC HSZ HML HP2 hcn
          have R5 := b5.cell
          have l5 := blk_lt b5
          have hn10 : ls.length ≤ 10 := by
            rcases Nat.lt_or_ge 10 ls.length with hh | hh
            · have := HQ.out 10 hh hh
              unfold lineP at this
              rw [if_pos (by omega)] at this
              simp at this
            · exact hh
          clear hcell hszs hml hcf own hms hms' HQ HE1
          go_wp2_with fail
          go_loopw [10, 11, 12, 51] (fun _ _ _ s51 wr => ∃ k : Nat, k ≤ ls.length ∧ s51 = .int .i64 (k : Int) ∧ Fr none wz wr ∧ Hid (∀ i (hi : i < ms.length), i < k → memE ls.length ms[i] = 0)) (fun _ _ _ s51 _ => ls.length - (intOf s51).toNat)
          case atStart => exact ⟨0, Nat.zero_le _, rfl, Fr.refl _ _, Lib.hid (fun i hi h => by omega)⟩
          case round =>
            clear R5 l5
            obtain ⟨k, hk, rfl, Fk, HQ⟩ := hrel
            obtain ⟨wy, hwy⟩ : ∃ wy : World, wy = wr := ⟨_, rfl⟩
            subst hwy
            have b5y := b5.fr Fk (by simp)
            have b2y := b2z.fr Fk (by simp)
            by_cases hlk : k < ls.length
            · have hlm : k < ms.length := by rw [HML.out]; exact hlk
              obtain ⟨b, off, th, C1, n1, d1, C2, n2, d2, rfl, hb, g0, g1, g2, g3, ht⟩ := HC.out k hlm
              have g0 := Fk.keep g0 (by simp)
              have g1 := Fk.keep g1 (by simp)
              have g2 := Fk.keep g2 (by simp)
              have g3 := Fk.keep g3 (by simp)
              have ht : TrR wy none (.agg #[.int .i64 th, .slice C1 n1 d1, .slice C2 n2 d2]) ms[k].tr := TrD.keep (fr_dm Fk) _ _ ht
              have HS9 := Lib.hid (HSZ.out _ (List.getElem_mem hlm))
              have HM : Hid (∀ x, memE ls.length ms[k] = x → x ≠ 0 → r = ([], k + 1, x)) := fun x hx hx0 => by
                rw [HP2.out, fstE_hit _ 0 k (by simpa using hlm) (fun i hi hij => by simpa using HQ.out i (by simpa using hi) hij) (by simpa [hx] using hx0)]
                simp [hx]
              have HM0 : Hid (memE ls.length ms[k] = 0 → ∀ i (hi : i < ms.length), i < k + 1 → memE ls.length ms[i] = 0) := fun h0 i hi hij => by
                rcases Nat.lt_or_ge i k with hh | hh
                · exact HQ.out i hi hh
                · obtain rfl : i = k := by omega
                  exact h0
              have Ry := b5y.cell
              have ly := blk_lt b5y
              go_upto_region 17 with (fail)
              generalize hW : wy.alloc _ = wx
              have Fx : Fr none wy wx := hW ▸ (Fr.refl none wy).alloc _
              have m4 : MB wx wy.heap.size (.bool ms[k].dec) (.int .i64 th) (.slice C1 n1 d1) (.slice C2 n2 d2) := by rw [← hW]; exact blk_new _ _
              clear hW g0 g1 g2 g3 Ry ly
              have htx := ht.fr Fx
              have b5x := b5y.fr Fx (by simp)
              have b2x := b2y.fr Fx (by simp)
              have Rx := b5x.cell
              have R4 := m4.cell
              have lx := blk_lt b5x
              have l4 := blk_lt m4
              clear HQ
              generalize ms[k] = m at *
              go_wp2_with fail
              refine (member_any ls.length hn10 m _ _ _ _ _ _ _ _ htx HS9.out).mono ?_
              rintro e w2 ⟨rfl, F2⟩
              have b22 := b2x.fr F2 (by simp)
              have F02 := (Fk.pure Fx).pure F2
              clear Rx R4 lx l4
              by_cases h0 : memE ls.length m = 0
              · have hv0 : (memE ls.length m != 0) = false := by rw [bne_eq_false_iff_eq]; exact h0
                have H0 := Lib.hid h0
                clear h0
                go_wp2_with fail
                go_roundw
                case rel => exact ⟨k + 1, by omega, by go_num, F02, HM0.out H0.out⟩
                case measure => simp [intOf]; omega
              · have hv0 : (memE ls.length m != 0) = true := by rw [bne_iff_ne]; exact h0
                have HF : Hid (r = ([], k + 1, memE ls.length m)) := HM.out _ rfl h0
                have R2 := b22.cell
                have Z2 := b22.free
                have l2 := blk_lt b22
                clear h0
                go_wp2_with fail
                generalize hW5 : w2.setCell _ _ = w5
                have G : Fr (some w.heap.size) w2 w5 := hW5 ▸ Fr.set1 w2 ⟨w.heap.size, 0, none⟩ (.slice none 0 0)
                have m5 : CB w5 w.heap.size (.slice none 0 0) := by rw [← hW5]; exact b22.set0 _
                clear hW5
                have R6 := m5.cell
                refine bodyPost_ret (v := .tuple #[.agg #[.slice none 0 0], .int .i64 ((k : Int) + 1), .int .i64 (memE ls.length m)]) (by simp [results, Tryz.results11, go_sem, R6]) rfl ?_
                exact ⟨.agg #[.slice none 0 0], by rw [HF.out]; simp, by rw [HF.out]; exact ⟨none, 0, [], rfl, SlD.nil _ _ _, rfl⟩, ((F0z.pure F02).own G (by simp))⟩
            · obtain rfl : k = ls.length := by omega
              have HF : Hid (r = (ms, 0, 0)) := by
                unfold Hid
                rw [HP2.out, fstE_miss _ _ fun x hx => ?_]
                obtain ⟨i, hi, rfl⟩ := List.getElem_of_mem hx
                have hi' : i < ms.length := by simpa using hi
                simpa using HQ.out i hi' (by rw [← HML.out]; exact hi')
              have R5 := b5y.cell
              have R2 := b2y.cell
              have Z2 := b2y.free
              have l5 := blk_lt b5y
              have l2 := blk_lt b2y
              go_wp2_with fail
              generalize hW5 : wy.setCell _ _ = w5
              have G : Fr (some w.heap.size) wy w5 := hW5 ▸ Fr.set1 wy ⟨w.heap.size, 0, none⟩ (.slice A1 ls.length c1)
              have m5 : CB w5 w.heap.size (.slice A1 ls.length c1) := by rw [← hW5]; exact b2y.set0 _
              clear hW5
              have R6 := m5.cell
              refine bodyPost_ret (v := .tuple #[.agg #[.slice A1 ls.length c1], .int .i64 0, .int .i64 0]) (by simp [results, Tryz.results11, go_sem, R6]) rfl ?_
              exact ⟨.agg #[.slice A1 ls.length c1], by rw [HF.out]; rfl, by rw [HF.out]; exact CfD.keep (fun b hb => ⟨⟨by have := hb.1; omega, Nat.lt_of_lt_of_le hb.2 G.size⟩, G.block b hb.2 (by have := hb.1; simp; omega)⟩) (CfD.keep (dn_fr Fk (by simp)) hcn), (F0z.pure Fk).own G (by simp)⟩
end Go.Proofs.YtoblhcieidljjaaGreatDoor

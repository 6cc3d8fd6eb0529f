/- Some texts of this claim, joined: contracts of the functions that it reaches, and plain laws. -/
import Derived.Test.YtonhhnedfjonoaaGreatDoorProg
import Derived.Test.YtonhhnedfjonoaaGreatDoorJM20
import Derived.Test.YtonhhnedfjonoaaGreatDoorJM2
import Derived.Test.YtonhhnedfjonoaaGreatDoorJM3
import Derived.Test.YtonhhnedfjonoaaGreatDoorJM19

set_option linter.unusedSimpArgs false
set_option linter.unusedVariables false
/- Walks: nodeset.below at every n, OnesCount at a set, Size, rank, cmp.Compare, cmp.Or, Compare; the reference's Size, Compare. -/
namespace Go.Proofs.YtonhhnedfjonoaaGreatDoor
open Go.RowKit

def cmpI (a b : Int) : Int := if a < b then -1 else if b < a then 1 else 0
def c1 (x : Int) : Int := IntKind.u64.wrap (bits .and .u64 (x / 2) 6148914691236517205 + bits .and .u64 x 6148914691236517205)
def c2 (x : Int) : Int := IntKind.u64.wrap (bits .and .u64 (x / 4) 3689348814741910323 + bits .and .u64 x 3689348814741910323)
def c3 (x : Int) : Int := bits .and .u64 (IntKind.u64.wrap (x / 16 + x)) 1085102592571150095
def c4 (x : Int) : Int := IntKind.u64.wrap (x + x / 256)
def c5 (x : Int) : Int := IntKind.u64.wrap (x + x / 65536)
def c6 (x : Int) : Int := IntKind.u64.wrap (x + x / 4294967296)
theorem isNaN_any (a : Int) (w : World) : Calls Tryz.prog 91 #[.int .i64 a] w fun e w' => e = .returned (.bool false) ∧ w = w' := by
  go_enter Tryz.func91, Tryz.ntmps91
  go_wp2_with fail
  go_ret
  exact ⟨ret_bool (by simp), rfl⟩
theorem cmpCompare_any (a b : Int) (w : World) : Calls Tryz.prog 66 #[.int .i64 a, .int .i64 b] w fun e w' => e = .returned (.int .i64 (cmpI a b)) ∧ w = w' := by
  rcases Int.lt_trichotomy a b with h | h | h
  · have e1 : cmpI a b = -1 := by simp [cmpI, h]
    have E := Lib.hid e1
    clear e1
    go_enter Tryz.func66, Tryz.ntmps66
    go_wp2_with (go_at_call 91; refine (isNaN_any _ _).mono ?_; rintro e w' ⟨rfl, rfl⟩)
    all_goals (go_ret; exact ⟨ret_int (by rw [E.out]), rfl⟩)
  · subst h
    have e1 : cmpI a a = 0 := by simp [cmpI]
    have E := Lib.hid e1
    clear e1
    go_enter Tryz.func66, Tryz.ntmps66
    go_wp2_with (go_at_call 91; refine (isNaN_any _ _).mono ?_; rintro e w' ⟨rfl, rfl⟩)
    all_goals (go_ret; exact ⟨ret_int (by rw [E.out]), rfl⟩)
  · have e1 : cmpI a b = 1 := by simp [cmpI, h]; omega
    have h2 : ¬ a < b := by omega
    have E := Lib.hid e1
    clear e1
    go_enter Tryz.func66, Tryz.ntmps66
    go_wp2_with (go_at_call 91; refine (isNaN_any _ _).mono ?_; rintro e w' ⟨rfl, rfl⟩)
    all_goals (go_ret; exact ⟨ret_int (by rw [E.out]), rfl⟩)

end Go.Proofs.YtonhhnedfjonoaaGreatDoor

/- Walks: cmp.Or, nodeset.Compare, Next; the reference's Size, Compare. -/
namespace Go.Proofs.YtonhhnedfjonoaaGreatDoor
open Go.RowKit

/-- The first that is not 0, or 0. -/
def orL : List Int → Int
  | [] => 0
  | x :: r => if x = 0 then orL r else x
theorem orL_skip : ∀ (l : List Int) (k : Nat), (∀ j (hj : j < l.length), j < k → l[j] = 0) → orL l = orL (l.drop k)
  | l, 0, _ => by simp
  | [], k + 1, _ => by simp
  | x :: r, k + 1, h => by
    have h0 := h 0 (by simp) (by omega)
    simp only [List.getElem_cons_zero] at h0
    simp only [orL, h0, List.drop_succ_cons]
    exact orL_skip r k fun j hj hk => by
      have := h (j + 1) (by simpa using hj) (by omega)
      simpa only [List.getElem_cons_succ] using this

set_option maxRecDepth 100000 in
theorem or_any (l : List Int) (v : Value) (w : World) (r : Option Nat) (h : SlI w r v l) : Calls Tryz.prog 65 #[v] w fun e w' => e = .returned (.int .i64 (orL l)) ∧ w = w' := by
  have hwi := h.2
  obtain ⟨A, c, rfl, q1, q2, hc⟩ := h.open_
  go_enter Tryz.func65, Tryz.ntmps65
  go_wp2_with fail
  go_loop [8] (fun i => ∃ k : Nat, k ≤ l.length ∧ i = .int .i64 k ∧ ∀ j (hj : j < l.length), j < k → l[j] = 0) (fun i => l.length - (intOf i).toNat)
  case atStart => exact ⟨0, Nat.zero_le _, rfl, fun j hj h => by omega⟩
  case round =>
    obtain ⟨k, hk, rfl, hno⟩ := hrel
    have HN := Lib.hid hno
    clear hno
    by_cases hlt : k < l.length
    · obtain ⟨b, off, rfl, hb, hbr, hcc⟩ := hc (by omega)
      have hck := hcc k hlt
      clear hcc hc
      by_cases hp : l[k] = 0
      · have HP := Lib.hid hp
        go_wp2_with fail
        go_round
        case rel => exact ⟨k + 1, by omega, by go_num, fun j hj h => by
          by_cases e : j = k
          · subst e; exact HP.out
          · exact HN.out j hj (by omega)⟩
        case measure => simp [intOf]; omega
      · have e1 : orL l = l[k] := by
          rw [orL_skip l k HN.out, List.drop_eq_getElem_cons hlt]
          simp [orL, hp]
        have E := Lib.hid e1
        clear e1
        go_wp2_with fail
        go_ret
        exact ⟨ret_int (by rw [E.out]), rfl⟩
    · obtain rfl : k = l.length := by omega
      have e1 : orL l = 0 := by
        rw [orL_skip l l.length HN.out, List.drop_length]
        rfl
      have E := Lib.hid e1
      clear e1
      go_wp2_with fail
      go_ret
      exact ⟨ret_int (by rw [E.out]), rfl⟩

theorem cmpI_wi (a b : Int) : Wi (cmpI a b) := by
  unfold cmpI Wi
  split
  · omega
  · split <;> omega
end Go.Proofs.YtonhhnedfjonoaaGreatDoor

/- Walks: the source trustquorumplay.Src: Pick, the two assets, Asset. -/
namespace Go.Proofs.YtonhhnedfjonoaaGreatDoor
open Go.RowKit

/-- One of some numbers. -/
def PickS (w : World) (g : Nat) (l : List Int) (e : Ending) (w' : World) : Prop :=
  ∃ x : Int, e = .returned (.int .i64 x) ∧ x ∈ l ∧ SrcR 63 w' g ∧ Fr (some g) w w'
theorem srcPick_any (v : Value) (l : List Int) (g : Nat) (w : World) (hl : SlI w (some g) v l) (h1 : 1 ≤ l.length) (h2 : l.length ≤ 1073741824) (h : SrcR 63 w g) :
    Calls Tryz.prog 22 #[.pointer (some ⟨g, 0, none⟩), v] w (PickS w g l) := by
  obtain ⟨A, c, rfl, q1, q2, hc⟩ := hl.open_
  obtain ⟨b, off, rfl, hb, hbr, hcc⟩ := hc (by omega)
  clear hc
  go_enter Tryz.func22, Tryz.ntmps22
  go_wp2_with fail
  refine (srcN_any _ _ _ (by omega) h).mono ?_
  rintro e w' ⟨x, rfl, x1, x2, S, F⟩
  obtain ⟨k, rfl⟩ := Int.eq_ofNat_of_zero_le x1
  have hk : k < l.length := by omega
  have d := F.keep (hcc k hk) (by simpa using hbr)
  clear hcc
  go_wp2
  go_ret
  exact ⟨_, rfl, List.getElem_mem _, S, F⟩
theorem usd_any (w : World) : Calls Tryz.prog 9 #[] w fun e w' => e = .returned (.agg #[.string (bL usd.code), .int .i64 usd.iss]) ∧ Fr none w w' := by
  go_enter Tryz.func9, Tryz.ntmps9
  go_wp2_with fail
  have r0 : (w.alloc (.cells #[.string ⟨#[85, 83, 68]⟩, .int .i64 1] 36)).cell? ⟨w.heap.size, 0, none⟩ = some (.string ⟨#[85, 83, 68]⟩) := by rw [cell_new]; rfl
  have r1 : (w.alloc (.cells #[.string ⟨#[85, 83, 68]⟩, .int .i64 1] 36)).cell? ⟨w.heap.size, 1, none⟩ = some (.int .i64 1) := by rw [cell_new]; rfl
  refine bodyPost_ret (v := .agg #[.string ⟨#[85, 83, 68]⟩, .int .i64 1]) (by simp [results, Tryz.results9, go_sem, r0, r1]) rfl ?_
  exact ⟨rfl, (Fr.refl _ _).alloc _⟩
theorem eur_any (w : World) : Calls Tryz.prog 23 #[] w fun e w' => e = .returned (.agg #[.string (bL eur.code), .int .i64 eur.iss]) ∧ Fr none w w' := by
  go_enter Tryz.func23, Tryz.ntmps23
  go_wp2_with fail
  have r0 : (w.alloc (.cells #[.string ⟨#[69, 85, 82]⟩, .int .i64 2] 36)).cell? ⟨w.heap.size, 0, none⟩ = some (.string ⟨#[69, 85, 82]⟩) := by rw [cell_new]; rfl
  have r1 : (w.alloc (.cells #[.string ⟨#[69, 85, 82]⟩, .int .i64 2] 36)).cell? ⟨w.heap.size, 1, none⟩ = some (.int .i64 2) := by rw [cell_new]; rfl
  refine bodyPost_ret (v := .agg #[.string ⟨#[69, 85, 82]⟩, .int .i64 2]) (by simp [results, Tryz.results23, go_sem, r0, r1]) rfl ?_
  exact ⟨rfl, (Fr.refl _ _).alloc _⟩
end Go.Proofs.YtonhhnedfjonoaaGreatDoor

/- Walks: the source trustquorumplay.Src: an asset. -/
namespace Go.Proofs.YtonhhnedfjonoaaGreatDoor
open Go.RowKit

def AstS (w : World) (g : Nat) (e : Ending) (w' : World) : Prop :=
  ∃ a : Ast, e = .returned (.agg #[.string (bL a.code), .int .i64 a.iss]) ∧ (a = nat ∨ a = usd ∨ a = eur) ∧ SrcR 63 w' g ∧ Fr (some g) w w'
theorem AstS.wi {a : Ast} (h : a = nat ∨ a = usd ∨ a = eur) : Wi a.iss := by
  rcases h with rfl | rfl | rfl <;> (constructor <;> decide)
set_option maxRecDepth 100000 in
set_option maxHeartbeats 2000000 in
theorem srcAst_any (g : Nat) (w : World) (h : SrcR 63 w g) :
    Calls Tryz.prog 25 #[.pointer (some ⟨g, 0, none⟩)] w (AstS w g) := by
  have hgl := h.lt
  go_enter Tryz.func25, Tryz.ntmps25
  go_upto_region 1 with (fail)
  generalize hW : w.alloc _ = w1
  have F1 : Fr none w w1 := hW ▸ (Fr.refl none w).alloc _
  have b2 : w1.heap[w.heap.size]? = some (.cells #[.string ⟨#[]⟩, .int .i64 0] 36 (0, 0)) := by rw [← hW]; exact blk_new _ _
  clear hW
  go_wp2_with fail
  refine (usd_any w1).mono ?_
  rintro e w2 ⟨rfl, F2⟩
  go_wp2_with fail
  refine (eur_any w2).mono ?_
  rintro e w3 ⟨rfl, F3⟩
  have F03 := (F1.pure F2).pure F3
  have F4 := (Fr.refl none w3).alloc (.cells #[.string ⟨#[]⟩, .int .i64 0, .string (bL usd.code), .int .i64 usd.iss, .string (bL eur.code), .int .i64 eur.iss] 36)
  have b4 := blk_new w3 (.cells #[.string ⟨#[]⟩, .int .i64 0, .string (bL usd.code), .int .i64 usd.iss, .string (bL eur.code), .int .i64 eur.iss] 36)
  have b2 := blk_fr b2 ((F2.pure F3).pure F4) (by simp)
  have hz3 := F03.size
  go_wp2_with fail
  refine (srcN_any 3 g _ (by omega) (h.fr (F03.pure F4))).mono ?_
  rintro e w5 ⟨x, rfl, x1, x2, S5, F5⟩
  have b4 := blk_fr b4 F5 (by simp; omega)
  have b2 := blk_fr b2 F5 (by simp; omega)
  have F05 : Fr (some g) w w5 := (F03.pure F4).mono.same F5
  have r0 : w5.cell? ⟨w.heap.size, 0, none⟩ = some (.string ⟨#[]⟩) := by rw [blk_cell b2]; rfl
  have r1 : w5.cell? ⟨w.heap.size, 1, none⟩ = some (.int .i64 0) := by rw [blk_cell b2]; rfl
  have f0 := blk_free b2 0
  have f1 := blk_free b2 1
  have l2 := blk_lt b2
  have l4 := blk_lt b4
  clear F1 F2 F3 F4 h
  have hx : x = 0 ∨ x = 1 ∨ x = 2 := by omega
  clear x1 x2
  rcases hx with rfl | rfl | rfl
  · have k0 : w5.cell? ⟨w3.heap.size, 0, none⟩ = some (.string ⟨#[]⟩) := by rw [blk_cell b4]; rfl
    have k1 : w5.cell? ⟨w3.heap.size, 1, none⟩ = some (.int .i64 0) := by rw [blk_cell b4]; rfl
    go_wp2_with fail
    refine bodyPost_ret (v := .agg #[.string (bL nat.code), .int .i64 nat.iss]) (by simp [results, Tryz.results25, go_sem, r0, r1, nat, bL]) rfl ?_
    have FZ := (Fr.set1 w5 ⟨w.heap.size, 0, none⟩ (.string ⟨#[]⟩)).same (Fr.set1 _ ⟨w.heap.size, 1, none⟩ (.int .i64 0))
    exact ⟨nat, rfl, by simp, S5.frs FZ (by simp; omega), F05.own FZ (by simp)⟩
  · skip
    obtain ⟨k0, k1⟩ : w5.cell? ⟨w3.heap.size, 2, none⟩ = some (.string (bL (usd).code)) ∧ w5.cell? ⟨w3.heap.size, 2 + 1, none⟩ = some (.int .i64 (usd).iss) := ⟨by rw [blk_cell b4]; rfl, by rw [blk_cell b4]; rfl⟩
    go_wp2_with fail
    refine bodyPost_ret (v := .agg #[.string (bL (usd).code), .int .i64 (usd).iss]) (by simp [results, Tryz.results25, go_sem, r0, r1]) rfl ?_
    have FZ := (Fr.set1 w5 ⟨w.heap.size, 0, none⟩ (.string (bL (usd).code))).same (Fr.set1 _ ⟨w.heap.size, 1, none⟩ (.int .i64 (usd).iss))
    exact ⟨usd, rfl, by simp, S5.frs FZ (by simp; omega), F05.own FZ (by simp)⟩
  · skip
    obtain ⟨k0, k1⟩ : w5.cell? ⟨w3.heap.size, 4, none⟩ = some (.string (bL (eur).code)) ∧ w5.cell? ⟨w3.heap.size, 4 + 1, none⟩ = some (.int .i64 (eur).iss) := ⟨by rw [blk_cell b4]; rfl, by rw [blk_cell b4]; rfl⟩
    go_wp2_with fail
    refine bodyPost_ret (v := .agg #[.string (bL (eur).code), .int .i64 (eur).iss]) (by simp [results, Tryz.results25, go_sem, r0, r1]) rfl ?_
    have FZ := (Fr.set1 w5 ⟨w.heap.size, 0, none⟩ (.string (bL (eur).code))).same (Fr.set1 _ ⟨w.heap.size, 1, none⟩ (.int .i64 (eur).iss))
    exact ⟨eur, rfl, by simp, S5.frs FZ (by simp; omega), F05.own FZ (by simp)⟩
end Go.Proofs.YtonhhnedfjonoaaGreatDoor

/- Walks: the reference's amounts: Valid, Price, Reduce, Native, Asset, Less. -/
namespace Go.Proofs.YtonhhnedfjonoaaGreatDoor
open Go.RowKit

theorem rvam_any (n : Int) (w : World) : Calls Tryz.prog 47 #[.int .i64 n] w fun e w' => e = .returned (.bool (vAmt n)) ∧ Fr none w w' := by
  by_cases h1 : 0 ≤ n
  · by_cases h2 : n ≤ 1000000000000
    · skip
      have HV : Hid (vAmt n = true) := by unfold Hid vAmt; simp only [decide_eq_true_eq, decide_eq_false_iff_not]; omega
      go_enter Tryz.func47, Tryz.ntmps47
      go_wp2_with fail
      go_ret
      exact ⟨ret_bool HV.out.symm, Fr.refl _ _⟩
    · skip
      have HV : Hid (vAmt n = false) := by unfold Hid vAmt; simp only [decide_eq_true_eq, decide_eq_false_iff_not]; omega
      go_enter Tryz.func47, Tryz.ntmps47
      go_wp2_with fail
      go_ret
      exact ⟨ret_bool HV.out.symm, Fr.refl _ _⟩
  · skip
    have HV : Hid (vAmt n = false) := by unfold Hid vAmt; simp only [decide_eq_true_eq, decide_eq_false_iff_not]; omega
    go_enter Tryz.func47, Tryz.ntmps47
    go_wp2_with fail
    go_ret
    exact ⟨ret_bool HV.out.symm, Fr.refl _ _⟩
theorem rvpr_any (n d : Int) (w : World) : Calls Tryz.prog 48 #[.int .i64 n, .int .i64 d] w fun e w' => e = .returned (.bool (vPrc n d)) ∧ Fr none w w' := by
  by_cases h1 : 1 ≤ n
  · by_cases h2 : n ≤ 1000000
    · by_cases h3 : 1 ≤ d
      · by_cases h4 : d ≤ 1000000
        · skip
          have HV : Hid (vPrc n d = true) := by unfold Hid vPrc; simp only [decide_eq_true_eq, decide_eq_false_iff_not]; omega
          go_enter Tryz.func48, Tryz.ntmps48
          go_wp2_with fail
          go_ret
          exact ⟨ret_bool HV.out.symm, Fr.refl _ _⟩
        · skip
          have HV : Hid (vPrc n d = false) := by unfold Hid vPrc; simp only [decide_eq_true_eq, decide_eq_false_iff_not]; omega
          go_enter Tryz.func48, Tryz.ntmps48
          go_wp2_with fail
          go_ret
          exact ⟨ret_bool HV.out.symm, Fr.refl _ _⟩
      · skip
        have HV : Hid (vPrc n d = false) := by unfold Hid vPrc; simp only [decide_eq_true_eq, decide_eq_false_iff_not]; omega
        go_enter Tryz.func48, Tryz.ntmps48
        go_wp2_with fail
        go_ret
        exact ⟨ret_bool HV.out.symm, Fr.refl _ _⟩
    · skip
      have HV : Hid (vPrc n d = false) := by unfold Hid vPrc; simp only [decide_eq_true_eq, decide_eq_false_iff_not]; omega
      go_enter Tryz.func48, Tryz.ntmps48
      go_wp2_with fail
      go_ret
      exact ⟨ret_bool HV.out.symm, Fr.refl _ _⟩
  · skip
    have HV : Hid (vPrc n d = false) := by unfold Hid vPrc; simp only [decide_eq_true_eq, decide_eq_false_iff_not]; omega
    go_enter Tryz.func48, Tryz.ntmps48
    go_wp2_with fail
    go_ret
    exact ⟨ret_bool HV.out.symm, Fr.refl _ _⟩
theorem rnat_any (a : Ast) (w : World) : Calls Tryz.prog 73 #[.agg #[.string (bL a.code), .int .i64 a.iss]] w fun e w' => e = .returned (.bool (decide (a = nat))) ∧ Fr none w w' := by
  go_enter Tryz.func73, Tryz.ntmps73
  go_wp2_with fail
  all_goals
    go_ret
    refine ⟨ret_bool ?_, (Fr.refl _ _).alloc _⟩
    obtain ⟨c, i⟩ := a
    simp_all [nat, bL_tl]
theorem rredu_any (n d : Int) (w : World) : Calls Tryz.prog 51 #[.int .i64 n, .int .i64 d] w fun e w' => e = .returned (.tuple #[.int .i64 (redP n d).1, .int .i64 (redP n d).2]) ∧ Fr none w w' := by
  obtain ⟨P, hP⟩ : ∃ P, P = vPrc n d := ⟨_, rfl⟩
  have hc := rvpr_any n d w
  rw [← hP] at hc
  cases P with
  | false =>
    have hR : Hid (redP n d = (0, 0)) := by unfold Hid redP; rw [← hP]; rfl
    clear hP
    go_enter Tryz.func51, Tryz.ntmps51
    go_wp2_with fail
    refine hc.mono ?_
    rintro e w1 ⟨rfl, F1⟩
    go_wp2_with fail
    go_ret2
    exact ⟨by rw [hR.out]; rfl, F1⟩
  | true =>
    have hp : 1 ≤ n ∧ n ≤ 1000000 ∧ 1 ≤ d ∧ d ≤ 1000000 := by unfold vPrc at hP; exact of_decide_eq_true hP.symm
    obtain ⟨n, rfl⟩ := Int.eq_ofNat_of_zero_le (a := n) (by omega)
    obtain ⟨d, rfl⟩ := Int.eq_ofNat_of_zero_le (a := d) (by omega)
    have hR : Hid (redP n d = (((n / Nat.gcd n d : Nat) : Int), ((d / Nat.gcd n d : Nat) : Int))) := by unfold Hid redP; rw [← hP]; rfl
    clear hP
    have h1 : 1 ≤ n := by omega
    have h2 : n ≤ 1000000 := by omega
    have h3 : 1 ≤ d := by omega
    have h4 : d ≤ 1000000 := by omega
    clear hp
    obtain ⟨G, hG⟩ : ∃ G, G = Nat.gcd n d := ⟨_, rfl⟩
    rw [← hG] at hR
    have HG := Lib.hid hG
    clear hG
    go_enter Tryz.func51, Tryz.ntmps51
    go_wp2_with fail
    refine hc.mono ?_
    rintro e w1 ⟨rfl, F1⟩
    clear hc
    go_wp2_with fail
    go_loopw [6, 7] (fun s6 s7 wr => ∃ a b : Nat, s6 = .int .i64 (a : Int) ∧ s7 = .int .i64 (b : Int) ∧ Hid (Nat.gcd a b = G) ∧ 1 ≤ a ∧ a ≤ 1000000 ∧ b ≤ 1000000 ∧ Fr none w wr) (fun _ s7 _ => (intOf s7).toNat)
    case atStart => exact ⟨n, d, rfl, rfl, HG.out.symm, h1, h2, h4, F1⟩
    case round =>
      obtain ⟨a, b, rfl, rfl, HA, ha, ha2, hb2, F⟩ := hrel
      by_cases hb : b = 0
      · subst hb
        have ea : a = G := by have := HA.out; simpa using this
        subst ea
        have q1 : Hid (wrap64 ((n : Int) / (a : Int)) = ((n / a : Nat) : Int)) := by
          unfold Hid
          have := Nat.div_le_self n a
          rw [← Int.natCast_ediv]
          generalize n / a = x at this ⊢
          unfold wrap64
          omega
        have q2 : Hid (wrap64 ((d : Int) / (a : Int)) = ((d / a : Nat) : Int)) := by
          unfold Hid
          have := Nat.div_le_self d a
          rw [← Int.natCast_ediv]
          generalize d / a = x at this ⊢
          unfold wrap64
          omega
        go_wp2_with fail
        go_quiet (fail)
        go_wp2_with fail
        go_ret2
        exact ⟨by rw [hR.out, ← q1.out, ← q2.out]; rfl, F.drewN _⟩
      · have q1 : (a : Int).tmod (b : Int) = ((a % b : Nat) : Int) := rfl
        have q2 : a % b < b := Nat.mod_lt _ (by omega)
        have HB : Hid (Nat.gcd b (a % b) = G) := by unfold Hid; rw [← HA.out, Nat.gcd_comm b, ← Nat.gcd_rec, Nat.gcd_comm]
        clear HA
        go_wp2_with fail
        go_quiet (fail)
        go_wp2_with fail
        go_roundw
        case rel => exact ⟨b, a % b, rfl, by go_num, HB, by omega, hb2, by omega, F.drewN _⟩
        case measure => simp [intOf]; omega
theorem vAst_iff (a : Ast) (h : a ≠ nat) : vAst a = (decide (1 ≤ a.code.length ∧ a.code.length ≤ 4 ∧ 1 ≤ a.iss ∧ a.iss ≤ 1000) && a.code.all fun c => decide (65 ≤ c.toNat ∧ c.toNat ≤ 90)) := by
  unfold vAst
  rw [decide_eq_false h, Bool.false_or]
set_option maxRecDepth 100000 in
set_option maxHeartbeats 1000000 in
theorem rast_any (a : Ast) (w : World) : Calls Tryz.prog 46 #[.agg #[.string (bL a.code), .int .i64 a.iss]] w fun e w' => e = .returned (.bool (vAst a)) ∧ Fr none w w' := by
  obtain ⟨V, hV⟩ : ∃ V, V = vAst a := ⟨_, rfl⟩
  rw [← hV]
  have HV := Lib.hid hV
  clear hV
  obtain ⟨c, i⟩ := a
  obtain ⟨S, hS⟩ : ∃ S, S = bL c := ⟨_, rfl⟩
  have hsz : S.size = c.length := by rw [hS, bL_size]
  have hget : ∀ j (h1 : j < S.size) (h2 : j < c.length), S[j] = c[j] := by subst hS; intro j h1 h2; rfl
  have HGt := Lib.hid hget
  have HSz := Lib.hid hsz
  go_enter Tryz.func46, Tryz.ntmps46
  have HS := Lib.hid hS
  simp only [← HS.out]
  clear hS hget hsz
  go_upto_region 1 with (fail)
  generalize hW : w.alloc _ = w1
  have F1 : Fr none w w1 := hW ▸ (Fr.refl none w).alloc _
  have b1 : CL2 w1 w.heap.size (.string S) (.int .i64 i) 36 := by rw [← hW]; exact blk_new _ _
  clear hW
  have hc : Calls Tryz.prog 73 #[.agg #[.string S, .int .i64 i]] w1 fun e w' => e = .returned (.bool (decide ((⟨c, i⟩ : Ast) = nat))) ∧ Fr none w1 w' := by rw [HS.out]; exact rnat_any ⟨c, i⟩ w1
  have HCl := Lib.hid hc
  clear hc
  obtain ⟨r1, r2⟩ := b1.cell
  have l1 := blk_lt b1
  go_wp2_with fail
  refine HCl.out.mono ?_
  rintro e w2 ⟨rfl, F2⟩
  have b2 := b1.fr F2 (by simp)
  clear r1 r2 l1 HCl
  obtain ⟨r1, r2⟩ := b2.cell
  have l1 := blk_lt b2
  by_cases hn : (⟨c, i⟩ : Ast) = nat
  · have HX : Hid (V = true) := by unfold Hid; rw [HV.out]; unfold vAst; rw [decide_eq_true hn]; rfl
    rw [decide_eq_true hn]
    clear hn
    go_wp2_with fail
    go_ret
    exact ⟨ret_bool HX.out.symm, F1.pure F2⟩
  · rw [decide_eq_false hn]
    by_cases h1 : 1 ≤ S.size
    · by_cases h2 : S.size ≤ 4
      · by_cases h3 : 1 ≤ i
        · by_cases h4 : i ≤ 1000
          · have HN := Lib.hid hn
            clear hn
            have hvv : Hid (V = c.all fun c => decide (65 ≤ c.toNat ∧ c.toNat ≤ 90)) := by
              unfold Hid
              rw [HV.out, vAst_iff _ HN.out]
              simp only
              rw [decide_eq_true (by have := HSz.out; omega), Bool.true_and]
            go_wp2_with fail
            go_loop [3] (fun s3 => ∃ j : Nat, j ≤ S.size ∧ s3 = .int .i64 (j : Int) ∧ Hid (∀ k (hk : k < c.length), k < j → decide (65 ≤ (c[k]).toNat ∧ (c[k]).toNat ≤ 90) = true)) (fun s3 => S.size - (intOf s3).toNat)
            case atStart => exact ⟨0, by omega, rfl, fun k _ hk => by omega⟩
            case round =>
              obtain ⟨j, hj, rfl, HJ⟩ := hrel
              by_cases hlt : j < S.size
              · have hjc : j < c.length := by have := HSz.out; omega
                have HGj : Hid (S[j] = c[j]) := HGt.out j hlt hjc
                by_cases g1 : 65 ≤ (S[j]).toNat
                · by_cases g2 : (S[j]).toNat ≤ 90
                  · have HK : Hid (∀ k (hk : k < c.length), k < j + 1 → decide (65 ≤ (c[k]).toNat ∧ (c[k]).toNat ≤ 90) = true) := fun k hk hkj => by
                      rcases Nat.lt_or_ge k j with hh | hh
                      · exact HJ.out k hk hh
                      · obtain rfl : k = j := by omega
                        rw [← HGj.out]
                        exact decide_eq_true ⟨g1, g2⟩
                    clear HJ HGj
                    go_wp2_with fail
                    go_round
                    case rel => exact ⟨j + 1, by omega, by go_num, HK⟩
                    case measure => simp [intOf]; omega
                  · have HX : Hid (V = false) := by
                      unfold Hid
                      rw [hvv.out, List.all_eq_false]
                      refine ⟨c[j], List.getElem_mem hjc, ?_⟩
                      rw [← HGj.out, decide_eq_true_iff]
                      omega
                    clear HJ HGj
                    go_wp2_with fail
                    go_ret
                    exact ⟨ret_bool HX.out.symm, F1.pure F2⟩
                · have HX : Hid (V = false) := by
                    unfold Hid
                    rw [hvv.out, List.all_eq_false]
                    refine ⟨c[j], List.getElem_mem hjc, ?_⟩
                    rw [← HGj.out, decide_eq_true_iff]
                    omega
                  clear HJ HGj
                  go_wp2_with fail
                  go_ret
                  exact ⟨ret_bool HX.out.symm, F1.pure F2⟩
              · have HX : Hid (V = true) := by
                  unfold Hid
                  rw [hvv.out, List.all_eq_true]
                  intro x hx
                  obtain ⟨k, hk, rfl⟩ := List.getElem_of_mem hx
                  exact HJ.out k hk (by have := HSz.out; omega)
                go_wp2_with fail
                go_ret
                exact ⟨ret_bool HX.out.symm, F1.pure F2⟩
          · have := HSz.out
            have HX : Hid (V = false) := by
              unfold Hid
              rw [HV.out, vAst_iff _ hn, Bool.and_eq_false_iff]
              left
              rw [decide_eq_false_iff_not]
              simp only
              omega
            go_wp2_with fail
            go_ret
            exact ⟨ret_bool HX.out.symm, F1.pure F2⟩
        · have := HSz.out
          have HX : Hid (V = false) := by
            unfold Hid
            rw [HV.out, vAst_iff _ hn, Bool.and_eq_false_iff]
            left
            rw [decide_eq_false_iff_not]
            simp only
            omega
          go_wp2_with fail
          go_ret
          exact ⟨ret_bool HX.out.symm, F1.pure F2⟩
      · have := HSz.out
        have HX : Hid (V = false) := by
          unfold Hid
          rw [HV.out, vAst_iff _ hn, Bool.and_eq_false_iff]
          left
          rw [decide_eq_false_iff_not]
          simp only
          omega
        go_wp2_with fail
        go_ret
        exact ⟨ret_bool HX.out.symm, F1.pure F2⟩
    · have := HSz.out
      have HX : Hid (V = false) := by
        unfold Hid
        rw [HV.out, vAst_iff _ hn, Bool.and_eq_false_iff]
        left
        rw [decide_eq_false_iff_not]
        simp only
        omega
      go_wp2_with fail
      go_ret
      exact ⟨ret_bool HX.out.symm, F1.pure F2⟩
set_option maxRecDepth 100000 in
theorem rless_any (a b : Ast) (w : World) : Calls Tryz.prog 120 #[.agg #[.string (bL a.code), .int .i64 a.iss], .agg #[.string (bL b.code), .int .i64 b.iss]] w fun e w' => e = .returned (.bool (ltAst a b)) ∧ Fr none w w' := by
  obtain ⟨V, hV⟩ : ∃ V, V = ltAst a b := ⟨_, rfl⟩
  rw [← hV]
  have HV := Lib.hid hV
  clear hV
  obtain ⟨c, i⟩ := a
  obtain ⟨d, k⟩ := b
  have e1 : (bL c).toList = c := bL_tl c
  have e2 : (bL d).toList = d := bL_tl d
  cases hb : Op.bytesLess c d with
  | true =>
    have HX : Hid (V = true) := by unfold Hid; rw [HV.out]; unfold ltAst ltL; simp only; rw [hb]; rfl
    go_enter Tryz.func120, Tryz.ntmps120
    go_wp2_with fail
    go_ret
    exact ⟨ret_bool HX.out.symm, ((Fr.refl _ _).alloc _).alloc _⟩
  | false =>
    by_cases hcd : c = d
    · subst hcd
      have h2 : (c == c) = true := by simp
      by_cases hik : i < k
      · have HX : Hid (V = true) := by unfold Hid; rw [HV.out]; unfold ltAst ltL; simp only; rw [hb, decide_eq_true hik]; simp
        go_enter Tryz.func120, Tryz.ntmps120
        go_wp2_with fail
        go_ret
        exact ⟨ret_bool HX.out.symm, ((Fr.refl _ _).alloc _).alloc _⟩
      · have HX : Hid (V = false) := by unfold Hid; rw [HV.out]; unfold ltAst ltL; simp only; rw [hb, decide_eq_false hik]; simp
        go_enter Tryz.func120, Tryz.ntmps120
        go_wp2_with fail
        go_ret
        exact ⟨ret_bool HX.out.symm, ((Fr.refl _ _).alloc _).alloc _⟩
    · have h2 : (c == d) = false := by rw [beq_eq_false_iff_ne]; exact hcd
      have HX : Hid (V = false) := by unfold Hid; rw [HV.out]; unfold ltAst ltL; simp only; rw [hb, decide_eq_false hcd]; rfl
      clear hcd
      go_enter Tryz.func120, Tryz.ntmps120
      go_wp2_with fail
      go_ret
      exact ⟨ret_bool HX.out.symm, ((Fr.refl _ _).alloc _).alloc _⟩
end Go.Proofs.YtonhhnedfjonoaaGreatDoor

/- Walks: the reference's accounts: Check, at, Find. -/
namespace Go.Proofs.YtonhhnedfjonoaaGreatDoor
open Go.RowKit

theorem gw_bool {e w0 d want : Bool} (h : gwV (.bool e) w0 (.bool d) = .bool want) : e = w0 ∧ d = want := by
  cases e <;> cases w0 <;> first | exact ⟨rfl, Value.bool.inj h⟩ | cases h
theorem okA_big {l : List Acct} {j m : Nat} {x y : Acct} (hm : 0 < j → j = m + 1) (hy : l[m]? = some y) : okAc (prevOf l j) x = !(decide (x.id < 1) || decide (1000 < x.id) || (decide (0 < j) && decide (x.id ≤ y.id)) || !vAmt x.bal || decide (x.seq < 0) || decide (1000000 < x.seq)) := by
  unfold okAc okA1 prevOf
  generalize vAmt x.bal = v
  rw [Bool.eq_iff_iff]
  by_cases h0 : j = 0
  · subst h0
    cases v <;> simp
    omega
  · have := hm (by omega)
    subst this
    cases v <;> simp [hy]
    omega
set_option maxRecDepth 100000 in
set_option maxHeartbeats 4000000 in
theorem rchkA_any (l : List Acct) (v : Value) (w : World) (h : SlR accR w none v l) : Calls Tryz.prog 95 #[v] w fun e w' => e = .returned (.int .i64 (chkAc l)) ∧ Fr none w w' := by
  obtain ⟨V, hV⟩ : ∃ V, V = chkAc l := ⟨_, rfl⟩
  rw [← hV]
  have HV := Lib.hid hV
  clear hV
  obtain ⟨A, c, rfl, q1, q2, hc⟩ := accR_open h
  have HC := Lib.hid hc
  clear hc
  by_cases hl : 20 < l.length
  · have hd : decide ((20 : Int) < (l.length : Int)) = true := decide_eq_true (by omega)
    have HX : Hid (V = 3) := by unfold Hid; rw [HV.out]; unfold chkAc; rw [if_pos hl]
    clear hl
    go_enter Tryz.func95, Tryz.ntmps95
    go_wp2_with fail
    go_ret
    exact ⟨ret_int HX.out.symm, Fr.refl _ _⟩
  · have hd : decide ((20 : Int) < (l.length : Int)) = false := decide_eq_false (by omega)
    have HVl : Hid (V = if okAll okAc none l = true then 0 else 74) := by unfold Hid; rw [HV.out]; unfold chkAc; rw [if_neg hl]
    clear hl HV
    go_enter Tryz.func95, Tryz.ntmps95
    go_wp2_with fail
    go_loopw [10] (fun s10 wr => ∃ j : Nat, j ≤ l.length ∧ s10 = .int .i64 (j : Int) ∧ Hid (∀ k (hk : k < l.length), k < j → okAc (prevOf l k) l[k] = true) ∧ Fr none w wr) (fun s10 _ => l.length - (intOf s10).toNat)
    case atStart => exact ⟨0, by omega, rfl, fun k _ hk => by omega, Fr.refl _ _⟩
    case round =>
      obtain ⟨j, hj, rfl, HJ, F⟩ := hrel
      obtain ⟨wz, hwz⟩ : ∃ wz : World, wz = wr := ⟨_, rfl⟩
      subst hwz
      by_cases hlt : j < l.length
      · obtain ⟨b, off, rfl, hb, _, hcc⟩ := HC.out (by omega)
        obtain ⟨c1, c2, c3⟩ := hcc j hlt
        have c1 := F.keep c1 (by simp)
        have c2 := F.keep c2 (by simp)
        have c3 := F.keep c3 (by simp)
        have HNo : Hid (okAc (prevOf l j) l[j] = false → V = 74) := fun h => by rw [HVl.out, if_neg (by rw [okAll_not hlt h]; simp)]
        have HYes : Hid (okAc (prevOf l j) l[j] = true → ∀ k (hk : k < l.length), k < j + 1 → okAc (prevOf l k) l[k] = true) := fun h k hk hkj => by
          rcases Nat.lt_or_ge k j with hh | hh
          · exact HJ.out k hk hh
          · obtain rfl : k = j := by omega
            exact h
        obtain ⟨m, hm, hml⟩ : ∃ m, (0 < j → j = m + 1) ∧ m < l.length := ⟨j - 1, by omega, by omega⟩
        obtain ⟨d1, _, _⟩ := hcc m hml
        have d1 := F.keep d1 (by simp)
        have hwr : 0 < j → IntKind.i64.wrap ((j : Int) - 1) = (m : Int) := fun h => by have := hm h; rw [IntKind.wrap_i64]; omega
        have hml' : (m : Int) < (l.length : Int) := by omega
        have HB := Lib.hid (okA_big (x := l[j]) hm (List.getElem?_eq_getElem hml))
        clear hcc HJ hm
        generalize l[j] = x at *
        generalize l[m] = y at *
        go_upto_region 6 with (fail)
        generalize hW : wz.alloc _ = wa
        have Fa : Fr none wz wa := hW ▸ (Fr.refl none wz).alloc _
        have b4 : wa.heap[wz.heap.size]? = some (.cells #[.int .i64 x.id, .int .i64 x.bal, .int .i64 x.seq] 34 (0, 0)) := by rw [← hW]; exact blk_new _ _
        have HS : Hid (∀ W, Fr none wa W → W.cell? ⟨b, off + m * 3, none⟩ = some (.int .i64 y.id) ∧ W.cell? ⟨wz.heap.size, 0, none⟩ = some (.int .i64 x.id) ∧ W.cell? ⟨wz.heap.size, 1, none⟩ = some (.int .i64 x.bal) ∧ W.cell? ⟨wz.heap.size, 2, none⟩ = some (.int .i64 x.seq)) := fun W FW => by
          have := blk_fr b4 FW (by simp)
          exact ⟨(Fa.pure FW).keep d1 (by simp), by rw [blk_cell this]; rfl, by rw [blk_cell this]; rfl, by rw [blk_cell this]; rfl⟩
        clear hW c1 c2 c3 b4 d1
        refine wp_region_fxL (fun W => Fr none wa W) 39 55 [some 53, some 52, some 51, some 50, some 49, some 48, some 47, some 46, some 45, some 44, some 43, some 42, some 41, some 40, some 39, some 38, some 37, some 36, some 35, some 34, some 33, some 32, some 31, some 30, some 29, some 28, some 27, some 26, some 25, some 24, some 23, some 22, some 21, some 20, some 19, some 18, some 17, some 16, some 15] (by kernel_rfl) (by kernel_rfl) (by kernel_rfl) (Nat.le_refl _) ((Fr.refl _ _).drew) ?_
        refine FxL.pure (v := ?_) rfl (fun ev w hS E => ?_) ?_; rotate_left
        · obtain ⟨t4, ec, ef, eg⟩ := E.get [] [4] (by kernel_rfl); clear E; go_simp; try with_reducible rfl
        refine FxL.pure (v := ?_) rfl (fun ev w hS E => ?_) ?_; rotate_left
        · obtain ⟨k1, k2, k3, k4⟩ := HS.out w hS
          obtain ⟨t15, ec, ef, eg⟩ := E.get [(0, 0, 15)] [] (by kernel_rfl); clear E; simp only [nthV] at t15; go_simp; try with_reducible rfl
        refine FxL.pure (v := ?_) rfl (fun ev w hS E => ?_) ?_; rotate_left
        · obtain ⟨t16, ec, ef, eg⟩ := E.get [(0, 1, 16)] [] (by kernel_rfl); clear E; simp only [nthV] at t16; go_simp; try with_reducible rfl
        refine FxL.pure (v := ?_) rfl (fun ev w hS E => ?_) ?_; rotate_left
        · obtain ⟨t17, ec, ef, eg⟩ := E.get [(0, 2, 17)] [] (by kernel_rfl); clear E; simp only [nthV] at t17; go_simp; try with_reducible rfl
        refine FxL.gw (u := ?_) rfl 0 rfl (by simp only [nthV] <;> rfl) (fun hg ev w hS E => ?_) ?_; rotate_left
        · obtain ⟨t4, ec, ef, eg⟩ := E.get [] [4] (by kernel_rfl); clear E; go_simp; try with_reducible rfl
        refine FxL.gw (u := ?_) rfl 1 rfl (by simp only [nthV] <;> rfl) (fun hg ev w hS E => ?_) ?_; rotate_left
        · obtain ⟨k1, k2, k3, k4⟩ := HS.out w hS
          obtain ⟨t19, ec, ef, eg⟩ := E.get [(0, 4, 19)] [] (by kernel_rfl); clear E; simp only [nthV] at t19
          (try simp only [hg, gw_on] at t19); go_simp; try with_reducible rfl
        refine FxL.gw (u := ?_) rfl 2 rfl (by simp only [nthV] <;> rfl) (fun hg ev w hS E => ?_) ?_; rotate_left
        · obtain ⟨t20, ec, ef, eg⟩ := E.get [(0, 5, 20)] [] (by kernel_rfl); clear E; simp only [nthV] at t20
          (try simp only [hg, gw_on] at t20); go_simp; try with_reducible rfl
        refine FxL.por rfl rfl 3 3 0 6 (by kernel_rfl) rfl rfl ?_
        refine FxL.pure (v := ?_) rfl (fun ev w hS E => ?_) ?_; rotate_left
        · obtain ⟨t22, ec, ef, eg⟩ := E.get [(0, 7, 22)] [] (by kernel_rfl); clear E; simp only [nthV] at t22; go_simp; try with_reducible rfl
        refine FxL.gw (u := ?_) rfl 0 rfl (by simp only [nthV] <;> rfl) (fun hg ev w hS E => ?_) ?_; rotate_left
        · obtain ⟨t3, ec, ef, eg⟩ := E.get [] [3] (by kernel_rfl); clear E; go_simp; try with_reducible rfl
        refine FxL.gw (u := ?_) rfl 1 rfl (by simp only [nthV] <;> rfl) (fun hg ev w hS E => ?_) ?_; rotate_left
        · obtain ⟨t24, ec, ef, eg⟩ := E.get [(0, 9, 24)] [] (by kernel_rfl); clear E; simp only [nthV] at t24
          (try simp only [hg, gw_on] at t24); go_simp; try with_reducible rfl
        refine FxL.gw (u := ?_) rfl 2 rfl (by simp only [nthV] <;> rfl) (fun hg ev w hS E => ?_) ?_; rotate_left
        · obtain ⟨t25, ec, ef, eg⟩ := E.get [(0, 10, 25)] [] (by kernel_rfl); clear E; simp only [nthV] at t25
          (try simp only [hg, gw_on] at t25); go_simp; try with_reducible rfl
        refine FxL.gw (u := ?_) rfl 0 rfl (by simp only [nthV] <;> rfl) (fun hg ev w hS E => ?_) ?_; rotate_left
        · obtain ⟨t0, ec, ef, eg⟩ := E.get [] [0] (by kernel_rfl); clear E; go_simp; try with_reducible rfl
        refine FxL.gw (u := ?_) rfl 1 rfl (by simp only [nthV] <;> rfl) (fun hg ev w hS E => ?_) ?_; rotate_left
        · obtain ⟨t3, ec, ef, eg⟩ := E.get [] [3] (by kernel_rfl); clear E; go_simp; try with_reducible rfl
        refine FxL.gw (u := ?_) rfl 2 rfl (by simp only [nthV] <;> rfl) (fun hg ev w hS E => ?_) ?_; rotate_left
        · obtain ⟨t28, ec, ef, eg⟩ := E.get [(0, 13, 28)] [] (by kernel_rfl); clear E; simp only [nthV] at t28
          (try simp only [hg, gw_on] at t28)
          have hd := of_decide_eq_true (gw_bool hg).2
          have hw := hwr (by omega)
          go_simp; try with_reducible rfl
        refine FxL.gw (u := ?_) rfl 3 rfl (by simp only [nthV] <;> rfl) (fun hg ev w hS E => ?_) ?_; rotate_left
        · obtain ⟨k1, k2, k3, k4⟩ := HS.out w hS
          obtain ⟨t27, t29, ec, ef, eg⟩ := E.get [(2, 12, 27), (0, 14, 29)] [] (by kernel_rfl); clear E; simp only [nthV] at t27 t29
          (try simp only [hg, gw_on] at t27 t29); go_simp; try with_reducible rfl
        refine FxL.gw (u := ?_) rfl 4 rfl (by simp only [nthV] <;> rfl) (fun hg ev w hS E => ?_) ?_; rotate_left
        · obtain ⟨t30, ec, ef, eg⟩ := E.get [(0, 15, 30)] [] (by kernel_rfl); clear E; simp only [nthV] at t30
          (try simp only [hg, gw_on] at t30); go_simp; try with_reducible rfl
        refine FxL.gw (u := ?_) rfl 5 rfl (by simp only [nthV] <;> rfl) (fun hg ev w hS E => ?_) ?_; rotate_left
        · obtain ⟨k1, k2, k3, k4⟩ := HS.out w hS
          obtain ⟨t31, ec, ef, eg⟩ := E.get [(0, 16, 31)] [] (by kernel_rfl); clear E; simp only [nthV] at t31
          (try simp only [hg, gw_on] at t31); go_simp; try with_reducible rfl
        refine FxL.gw (u := ?_) rfl 6 rfl (by simp only [nthV] <;> rfl) (fun hg ev w hS E => ?_) ?_; rotate_left
        · obtain ⟨t4, ec, ef, eg⟩ := E.get [] [4] (by kernel_rfl); clear E; go_simp; try with_reducible rfl
        refine FxL.gw (u := ?_) rfl 7 rfl (by simp only [nthV] <;> rfl) (fun hg ev w hS E => ?_) ?_; rotate_left
        · obtain ⟨k1, k2, k3, k4⟩ := HS.out w hS
          obtain ⟨t33, ec, ef, eg⟩ := E.get [(0, 18, 33)] [] (by kernel_rfl); clear E; simp only [nthV] at t33
          (try simp only [hg, gw_on] at t33); go_simp; try with_reducible rfl
        refine FxL.gw (u := ?_) rfl 8 rfl (by simp only [nthV] <;> rfl) (fun hg ev w hS E => ?_) ?_; rotate_left
        · obtain ⟨t32, t34, ec, ef, eg⟩ := E.get [(2, 17, 32), (0, 19, 34)] [] (by kernel_rfl); clear E; simp only [nthV] at t32 t34
          (try simp only [hg, gw_on] at t32 t34); go_simp; try with_reducible rfl
        refine FxL.gpand rfl rfl 12 rfl (by simp only [nthV] <;> rfl) 9 11 0 20 (by kernel_rfl) rfl rfl ?_
        refine FxL.por rfl rfl 13 8 0 21 (by kernel_rfl) rfl rfl ?_
        refine FxL.pure (v := ?_) rfl (fun ev w hS E => ?_) ?_; rotate_left
        · obtain ⟨t37, ec, ef, eg⟩ := E.get [(0, 22, 37)] [] (by kernel_rfl); clear E; simp only [nthV] at t37; go_simp; try with_reducible rfl
        refine FxL.gw (u := ?_) rfl 0 rfl (by simp only [nthV] <;> rfl) (fun hg ev w hS E => ?_) ?_; rotate_left
        · obtain ⟨t4, ec, ef, eg⟩ := E.get [] [4] (by kernel_rfl); clear E; go_simp; try with_reducible rfl
        refine FxL.gw (u := ?_) rfl 1 rfl (by simp only [nthV] <;> rfl) (fun hg ev w hS E => ?_) ?_; rotate_left
        · obtain ⟨k1, k2, k3, k4⟩ := HS.out w hS
          obtain ⟨t39, ec, ef, eg⟩ := E.get [(0, 24, 39)] [] (by kernel_rfl); clear E; simp only [nthV] at t39
          (try simp only [hg, gw_on] at t39); go_simp; try with_reducible rfl
        refine FxL.gwc (u := ?_) (f := ?_) (args := ?_) rfl 2 rfl (by simp only [nthV] <;> rfl) (fun hg ev w hS E => ?_) (fun hg w hS => ?_) ?_; rotate_left 3
        · obtain ⟨k1, k2, k3, k4⟩ := HS.out w hS
          obtain ⟨t40, ec, ef, eg⟩ := E.get [(0, 25, 40)] [] (by kernel_rfl); clear E; simp only [nthV] at t40
          (try simp only [hg, gw_on] at t40); go_simp; first | (refine And.intro ?_ ?_ <;> with_reducible rfl) | with_reducible rfl
        · obtain ⟨k1, k2, k3, k4⟩ := HS.out w hS
          refine (rvam_any x.bal w).mono ?_
          rintro e w2 ⟨rfl, F2⟩
          refine ⟨?_, hS.pure F2⟩; with_reducible rfl
        refine FxL.gw (u := ?_) rfl 3 rfl (by simp only [nthV] <;> rfl) (fun hg ev w hS E => ?_) ?_; rotate_left
        · obtain ⟨t41, ec, ef, eg⟩ := E.get [(0, 26, 41)] [] (by kernel_rfl); clear E; simp only [nthV] at t41
          (try simp only [hg, gw_on] at t41); go_simp; try with_reducible rfl
        refine FxL.por rfl rfl 4 23 0 27 (by kernel_rfl) rfl rfl ?_
        refine FxL.pure (v := ?_) rfl (fun ev w hS E => ?_) ?_; rotate_left
        · obtain ⟨t43, ec, ef, eg⟩ := E.get [(0, 28, 43)] [] (by kernel_rfl); clear E; simp only [nthV] at t43; go_simp; try with_reducible rfl
        refine FxL.gw (u := ?_) rfl 0 rfl (by simp only [nthV] <;> rfl) (fun hg ev w hS E => ?_) ?_; rotate_left
        · obtain ⟨t4, ec, ef, eg⟩ := E.get [] [4] (by kernel_rfl); clear E; go_simp; try with_reducible rfl
        refine FxL.gw (u := ?_) rfl 1 rfl (by simp only [nthV] <;> rfl) (fun hg ev w hS E => ?_) ?_; rotate_left
        · obtain ⟨k1, k2, k3, k4⟩ := HS.out w hS
          obtain ⟨t45, ec, ef, eg⟩ := E.get [(0, 30, 45)] [] (by kernel_rfl); clear E; simp only [nthV] at t45
          (try simp only [hg, gw_on] at t45); go_simp; try with_reducible rfl
        refine FxL.gw (u := ?_) rfl 2 rfl (by simp only [nthV] <;> rfl) (fun hg ev w hS E => ?_) ?_; rotate_left
        · obtain ⟨t46, ec, ef, eg⟩ := E.get [(0, 31, 46)] [] (by kernel_rfl); clear E; simp only [nthV] at t46
          (try simp only [hg, gw_on] at t46); go_simp; try with_reducible rfl
        refine FxL.por rfl rfl 3 29 0 32 (by kernel_rfl) rfl rfl ?_
        refine FxL.pure (v := ?_) rfl (fun ev w hS E => ?_) ?_; rotate_left
        · obtain ⟨t48, ec, ef, eg⟩ := E.get [(0, 33, 48)] [] (by kernel_rfl); clear E; simp only [nthV] at t48; go_simp; try with_reducible rfl
        refine FxL.gw (u := ?_) rfl 0 rfl (by simp only [nthV] <;> rfl) (fun hg ev w hS E => ?_) ?_; rotate_left
        · obtain ⟨t4, ec, ef, eg⟩ := E.get [] [4] (by kernel_rfl); clear E; go_simp; try with_reducible rfl
        refine FxL.gw (u := ?_) rfl 1 rfl (by simp only [nthV] <;> rfl) (fun hg ev w hS E => ?_) ?_; rotate_left
        · obtain ⟨k1, k2, k3, k4⟩ := HS.out w hS
          obtain ⟨t50, ec, ef, eg⟩ := E.get [(0, 35, 50)] [] (by kernel_rfl); clear E; simp only [nthV] at t50
          (try simp only [hg, gw_on] at t50); go_simp; try with_reducible rfl
        refine FxL.gw (u := ?_) rfl 2 rfl (by simp only [nthV] <;> rfl) (fun hg ev w hS E => ?_) ?_; rotate_left
        · obtain ⟨t51, ec, ef, eg⟩ := E.get [(0, 36, 51)] [] (by kernel_rfl); clear E; simp only [nthV] at t51
          (try simp only [hg, gw_on] at t51); go_simp; try with_reducible rfl
        refine FxL.por rfl rfl 3 34 0 37 (by kernel_rfl) rfl rfl ?_
        refine FxL.done (fun W hW => ?_)
        simp only [fillZ]
        try simp only [Act.put, List.setIfInBounds_toArray, List.set_cons_zero, List.set_cons_succ, List.getElem_toArray, List.getElem_cons_zero, List.getElem_cons_succ]
        try simp only [List.drop_succ_cons, List.drop_zero, List.drop_nil]
        generalize hb : (decide (x.id < 1) || decide (1000 < x.id) || (decide (0 < j) && decide (x.id ≤ y.id)) || !vAmt x.bal || decide (x.seq < 0) || decide (1000000 < x.seq)) = big at HB ⊢
        have HX := HB.out
        clear hb HB
        have FF := F.pure (Fa.pure hW)
        cases big with
        | true =>
          have HX := Lib.hid (HNo.out HX)
          go_wp2_with fail
          go_ret
          exact ⟨ret_int HX.out.symm, FF⟩
        | false =>
          have HX := Lib.hid (HYes.out HX)
          go_wp2_with fail
          go_roundw
          case rel => exact ⟨_, hlt, by go_num, HX.out, FF⟩
          case measure => simp [intOf]; omega
      · have HX : Hid (V = 0) := by
          unfold Hid
          rw [HVl.out, if_pos (okAll_all fun k hk => HJ.out k hk (by omega))]
        go_wp2_with fail
        go_ret
        exact ⟨ret_int HX.out.symm, F⟩
end Go.Proofs.YtonhhnedfjonoaaGreatDoor

/- Walks: the reference's accounts: at, Find. -/
namespace Go.Proofs.YtonhhnedfjonoaaGreatDoor
open Go.RowKit

set_option maxRecDepth 100000 in
set_option maxHeartbeats 1000000 in
theorem rat36_any (l : List Acct) (v : Value) (id : Int) (w : World) (h : SlR accR w none v l) : Calls Tryz.prog 56 #[v, .int .i64 id] w fun e w' => e = .returned (.int .i64 (idxP (isA id) l)) ∧ Fr none w w' := by
  obtain ⟨V, hV⟩ : ∃ V, V = idxP (isA id) l := ⟨_, rfl⟩
  rw [← hV]
  have HV := Lib.hid hV
  clear hV
  obtain ⟨A, c, rfl, q1, q2, hc⟩ := accR_open h
  have HC := Lib.hid hc
  clear hc
  go_enter Tryz.func56, Tryz.ntmps56
  go_wp2_with fail
  go_loopw [9] (fun s9 wr => ∃ j : Nat, j ≤ l.length ∧ s9 = .int .i64 (j : Int) ∧ Hid (∀ k (hk : k < l.length), k < j → isA id l[k] = false) ∧ Fr none w wr) (fun s9 _ => l.length - (intOf s9).toNat)
  case atStart => exact ⟨0, by omega, rfl, fun k _ hk => by omega, Fr.refl _ _⟩
  case round =>
    obtain ⟨j, hj, rfl, HJ, F⟩ := hrel
    obtain ⟨wz, hwz⟩ : ∃ wz : World, wz = wr := ⟨_, rfl⟩
    subst hwz
    by_cases hlt : j < l.length
    · obtain ⟨b, off, rfl, hb, _, hcc⟩ := HC.out (by omega)
      obtain ⟨c1, c2, c3⟩ := hcc j hlt
      have c1 := F.keep c1 (by simp)
      have c2 := F.keep c2 (by simp)
      have c3 := F.keep c3 (by simp)
      have HNo : Hid (isA id l[j] = false → ∀ k (hk : k < l.length), k < j + 1 → isA id l[k] = false) := fun h k hk hkj => by
        rcases Nat.lt_or_ge k j with hh | hh
        · exact HJ.out k hk hh
        · obtain rfl : k = j := by omega
          exact h
      have HYes : Hid (isA id l[j] = true → V = (j : Int)) := fun h => by rw [HV.out]; exact idxP_at hlt h HJ.out
      clear hcc HJ
      generalize l[j] = x at *
      go_upto_region 4 with (fail)
      generalize hW : wz.alloc _ = wa
      have Fa : Fr none wz wa := hW ▸ (Fr.refl none wz).alloc _
      have b4 : wa.heap[wz.heap.size]? = some (.cells #[.int .i64 x.id, .int .i64 x.bal, .int .i64 x.seq] 34 (0, 0)) := by rw [← hW]; exact blk_new _ _
      have r1 : wa.cell? ⟨wz.heap.size, 0, none⟩ = some (.int .i64 x.id) := by rw [blk_cell b4]; rfl
      have l4 := blk_lt b4
      clear hW c1 c2 c3 b4
      by_cases he : x.id = id
      · have HX : Hid (V = (j : Int)) := HYes.out (decide_eq_true he)
        have e1 : (x.id == id) = true := by rw [beq_iff_eq]; exact he
        clear he
        go_wp2_with fail
        go_ret
        exact ⟨ret_int HX.out.symm, F.pure Fa⟩
      · have HX := Lib.hid (HNo.out (decide_eq_false he))
        have e1 : (x.id == id) = false := by rw [beq_eq_false_iff_ne]; exact he
        clear he
        go_wp2_with fail
        go_roundw
        case rel => exact ⟨j + 1, hlt, by go_num, HX, F.pure Fa⟩
        case measure => simp [intOf]; omega
    · have HX : Hid (V = -1) := by
        unfold Hid
        rw [HV.out, idxP_none fun k hk => HJ.out k hk (by omega)]
      go_wp2_with fail
      go_ret
      exact ⟨ret_int HX.out.symm, F⟩
def acc0 : Acct := ⟨0, 0, 0⟩
def fndA (l : List Acct) (id : Int) : Acct × Bool := match findA l id with
  | some a => (a, true)
  | none => (acc0, false)
def accV (a : Acct) : Value := .agg #[.int .i64 a.id, .int .i64 a.bal, .int .i64 a.seq]
set_option maxRecDepth 100000 in
set_option maxHeartbeats 1000000 in
theorem rfnd36_any (l : List Acct) (v : Value) (id : Int) (w : World) (h : SlR accR w none v l) : Calls Tryz.prog 32 #[v, .int .i64 id] w fun e w' => e = .returned (.tuple #[accV (fndA l id).1, .bool (fndA l id).2]) ∧ Fr none w w' := by
  obtain ⟨A, c, rfl, q1, q2, hc⟩ := accR_open h
  have HC := Lib.hid hc
  clear hc
  go_enter Tryz.func32, Tryz.ntmps32
  go_upto_region 1 with (fail)
  generalize hW : w.alloc _ = w1
  have F1 : Fr none w w1 := hW ▸ (Fr.refl none w).alloc _
  have b4 : w1.heap[w.heap.size]? = some (.cells #[.int .i64 0, .int .i64 0, .int .i64 0] 34 (0, 0)) := by rw [← hW]; exact blk_new _ _
  clear hW
  go_wp2_with fail
  refine (rat36_any l _ id w1 (h.fr F1)).mono ?_
  rintro e w2 ⟨rfl, F2⟩
  have b4 := blk_fr b4 F2 (by simp)
  have F02 := F1.pure F2
  have l4 := blk_lt b4
  have r0 : w2.cell? ⟨w.heap.size, 0, none⟩ = some (.int .i64 0) := by rw [blk_cell b4]; rfl
  have r1 : w2.cell? ⟨w.heap.size, 1, none⟩ = some (.int .i64 0) := by rw [blk_cell b4]; rfl
  have r2 : w2.cell? ⟨w.heap.size, 2, none⟩ = some (.int .i64 0) := by rw [blk_cell b4]; rfl
  have f0 := blk_free b4 0
  have f1 := blk_free b4 1
  have f2 := blk_free b4 2
  rcases idxP_cases (isA id) l with ⟨hi, hf⟩ | ⟨k, hk, hi, hf, _⟩
  · have HR : Hid (fndA l id = (acc0, false)) := by unfold Hid fndA findA; rw [hf]
    rw [hi]
    clear hi hf
    go_wp2_with fail
    refine bodyPost_ret (v := .tuple #[.agg #[.int .i64 0, .int .i64 0, .int .i64 0], .bool false]) (by simp [results, Tryz.results32, go_sem, r0, r1, r2]) rfl ?_
    have FF := ((Fr.set1 w2 ⟨w.heap.size, 0, none⟩ (.int .i64 0)).same (Fr.set1 _ ⟨w.heap.size, 1, none⟩ (.int .i64 0))).same (Fr.set1 _ ⟨w.heap.size, 2, none⟩ (.int .i64 0))
    exact ⟨by rw [HR.out]; rfl, F02.own FF (by simp)⟩
  · obtain ⟨b, off, rfl, hb, _, hcc⟩ := HC.out (by omega)
    obtain ⟨c1, c2, c3⟩ := hcc k hk
    have c1 := F02.keep c1 (by simp)
    have c2 := F02.keep c2 (by simp)
    have c3 := F02.keep c3 (by simp)
    have HR : Hid (fndA l id = (l[k], true)) := by unfold Hid fndA findA; rw [hf]
    rw [hi]
    clear hi hf hcc
    generalize l[k] = x at *
    go_wp2_with fail
    refine bodyPost_ret (v := .tuple #[.agg #[.int .i64 x.id, .int .i64 x.bal, .int .i64 x.seq], .bool true]) (by simp [results, Tryz.results32, go_sem, r0, r1, r2]) rfl ?_
    have FF := ((Fr.set1 w2 ⟨w.heap.size, 0, none⟩ (.int .i64 x.id)).same (Fr.set1 _ ⟨w.heap.size, 1, none⟩ (.int .i64 x.bal))).same (Fr.set1 _ ⟨w.heap.size, 2, none⟩ (.int .i64 x.seq))
    exact ⟨by rw [HR.out]; rfl, F02.own FF (by simp)⟩
end Go.Proofs.YtonhhnedfjonoaaGreatDoor

/- Walks: the reference's lines: before, at, Find. -/
namespace Go.Proofs.YtonhhnedfjonoaaGreatDoor
open Go.RowKit

set_option maxRecDepth 100000 in
theorem rbef_any (x : Ln) (acc : Int) (a : Ast) (w : World) : Calls Tryz.prog 96 #[.agg #[.int .i64 x.acc, .string (bL x.ast.code), .int .i64 x.ast.iss, .int .i64 x.bal, .int .i64 x.lim], .int .i64 acc, .agg #[.string (bL a.code), .int .i64 a.iss]] w fun e w' => e = .returned (.bool (befL x acc a)) ∧ Fr none w w' := by
  obtain ⟨V, hV⟩ : ∃ V, V = befL x acc a := ⟨_, rfl⟩
  rw [← hV]
  have HV := Lib.hid hV
  clear hV
  by_cases h1 : x.acc < acc
  · have HX : Hid (V = true) := by unfold Hid; rw [HV.out]; unfold befL; rw [decide_eq_true h1]; rfl
    have e1 : decide (x.acc < acc) = true := decide_eq_true h1
    go_enter Tryz.func96, Tryz.ntmps96
    go_wp2_with fail
    go_ret
    exact ⟨ret_bool HX.out.symm, ((Fr.refl _ _).alloc _).alloc _⟩
  · have e1 : decide (x.acc < acc) = false := decide_eq_false h1
    by_cases h2 : x.acc = acc
    · have e2 : (x.acc == acc) = true := by rw [beq_iff_eq]; exact h2
      have HX : Hid (V = ltAst x.ast a) := by unfold Hid; rw [HV.out]; unfold befL; rw [decide_eq_false h1, decide_eq_true h2]; rfl
      clear h1 h2
      go_enter Tryz.func96, Tryz.ntmps96
      go_wp2_with fail
      refine (rless_any x.ast a _).mono ?_
      rintro e w2 ⟨rfl, F2⟩
      go_wp2_with fail
      go_ret
      exact ⟨ret_bool HX.out.symm, (((Fr.refl _ _).alloc _).alloc _).pure F2⟩
    · have e2 : (x.acc == acc) = false := by rw [beq_eq_false_iff_ne]; exact h2
      have HX : Hid (V = false) := by unfold Hid; rw [HV.out]; unfold befL; rw [decide_eq_false h1, decide_eq_false h2]; rfl
      clear h1 h2
      go_enter Tryz.func96, Tryz.ntmps96
      go_wp2_with fail
      go_ret
      exact ⟨ret_bool HX.out.symm, ((Fr.refl _ _).alloc _).alloc _⟩
set_option maxRecDepth 100000 in
set_option maxHeartbeats 1000000 in
theorem rat37_any (l : List Ln) (v : Value) (acc : Int) (a : Ast) (w : World) (h : SlR lnR w none v l) : Calls Tryz.prog 97 #[v, .int .i64 acc, .agg #[.string (bL a.code), .int .i64 a.iss]] w fun e w' => e = .returned (.int .i64 (idxP (isL acc a) l)) ∧ Fr none w w' := by
  obtain ⟨V, hV⟩ : ∃ V, V = idxP (isL acc a) l := ⟨_, rfl⟩
  rw [← hV]
  have HV := Lib.hid hV
  clear hV
  obtain ⟨A, c, rfl, q1, q2, hc⟩ := lnR_open h
  have HC := Lib.hid hc
  clear hc
  go_enter Tryz.func97, Tryz.ntmps97
  go_upto_region 1 with (fail)
  generalize hW : w.alloc _ = w0
  have F0 : Fr none w w0 := hW ▸ (Fr.refl none w).alloc _
  have b5 : CL2 w0 w.heap.size (.string (bL a.code)) (.int .i64 a.iss) 36 := by rw [← hW]; exact blk_new _ _
  clear hW
  go_wp2_with fail
  go_loopw [11] (fun s11 wr => ∃ j : Nat, j ≤ l.length ∧ s11 = .int .i64 (j : Int) ∧ Hid (∀ k (hk : k < l.length), k < j → isL acc a l[k] = false) ∧ Fr none w0 wr) (fun s11 _ => l.length - (intOf s11).toNat)
  case atStart => exact ⟨0, by omega, rfl, fun k _ hk => by omega, Fr.refl _ _⟩
  case round =>
    obtain ⟨j, hj, rfl, HJ, F⟩ := hrel
    obtain ⟨wz, hwz⟩ : ∃ wz : World, wz = wr := ⟨_, rfl⟩
    subst hwz
    have F0z := F0.pure F
    by_cases hlt : j < l.length
    · obtain ⟨b, off, rfl, hb, _, hcc⟩ := HC.out (by omega)
      obtain ⟨c1, c2, c3, c4, c5⟩ := hcc j hlt
      have c1 := F0z.keep c1 (by simp)
      have c2 := F0z.keep c2 (by simp)
      have c3 := F0z.keep c3 (by simp)
      have c4 := F0z.keep c4 (by simp)
      have c5 := F0z.keep c5 (by simp)
      have HNo : Hid (isL acc a l[j] = false → ∀ k (hk : k < l.length), k < j + 1 → isL acc a l[k] = false) := fun h k hk hkj => by
        rcases Nat.lt_or_ge k j with hh | hh
        · exact HJ.out k hk hh
        · obtain rfl : k = j := by omega
          exact h
      have HYes : Hid (isL acc a l[j] = true → V = (j : Int)) := fun h => by rw [HV.out]; exact idxP_at hlt h HJ.out
      clear hcc HJ
      generalize l[j] = x at *
      go_upto_region 4 with (fail)
      generalize hW : wz.alloc _ = wa
      have Fa : Fr none wz wa := hW ▸ (Fr.refl none wz).alloc _
      have b4 : wa.heap[wz.heap.size]? = some (.cells #[.int .i64 x.acc, .string (bL x.ast.code), .int .i64 x.ast.iss, .int .i64 x.bal, .int .i64 x.lim] 39 (0, 0)) := by rw [← hW]; exact blk_new _ _
      have r1 : wa.cell? ⟨wz.heap.size, 0, none⟩ = some (.int .i64 x.acc) := by rw [blk_cell b4]; rfl
      have r2 : wa.cell? ⟨wz.heap.size, 1, none⟩ = some (.string (bL x.ast.code)) := by rw [blk_cell b4]; rfl
      have r3 : wa.cell? ⟨wz.heap.size, 2, none⟩ = some (.int .i64 x.ast.iss) := by rw [blk_cell b4]; rfl
      have b5 := b5.fr (F.pure Fa) (by simp)
      obtain ⟨r4, r5⟩ := b5.cell
      have l4 := blk_lt b4
      have l5 := blk_lt b5
      have t1 := bL_tl x.ast.code
      have t2 := bL_tl a.code
      clear hW c1 c2 c3 c4 c5 b4 b5
      have FF := F.pure Fa
      have F0f := F0z.pure Fa
      by_cases h1 : x.acc = acc
      · have e1 : (x.acc == acc) = true := by rw [beq_iff_eq]; exact h1
        by_cases h2 : x.ast.code = a.code
        · by_cases h3 : x.ast.iss = a.iss
          · have HX : Hid (V = (j : Int)) := HYes.out (decide_eq_true ⟨h1, by cases hx : x.ast; cases ha : a; rw [hx] at h2 h3; rw [ha] at h2 h3; simp only at h2 h3; rw [h2, h3]⟩)
            clear h1
            go_wp2_with fail
            go_ret
            exact ⟨ret_int HX.out.symm, F0f⟩
          · have HX := Lib.hid (HNo.out (decide_eq_false (fun e => h3 (by rw [e.2]))))
            clear h1
            go_wp2_with fail
            go_roundw
            case rel => exact ⟨j + 1, hlt, by go_num, HX, FF⟩
            case measure => simp [intOf]; omega
        · have HX := Lib.hid (HNo.out (decide_eq_false (fun e => h2 (by rw [e.2]))))
          clear h1
          go_wp2_with fail
          go_roundw
          case rel => exact ⟨j + 1, hlt, by go_num, HX, FF⟩
          case measure => simp [intOf]; omega
      · have HX := Lib.hid (HNo.out (decide_eq_false (fun e => h1 e.1)))
        have e1 : (x.acc == acc) = false := by rw [beq_eq_false_iff_ne]; exact h1
        clear h1
        go_wp2_with fail
        go_roundw
        case rel => exact ⟨j + 1, hlt, by go_num, HX, FF⟩
        case measure => simp [intOf]; omega
    · have HX : Hid (V = -1) := by
        unfold Hid
        rw [HV.out, idxP_none fun k hk => HJ.out k hk (by omega)]
      go_wp2_with fail
      go_ret
      exact ⟨ret_int HX.out.symm, F0z⟩
end Go.Proofs.YtonhhnedfjonoaaGreatDoor

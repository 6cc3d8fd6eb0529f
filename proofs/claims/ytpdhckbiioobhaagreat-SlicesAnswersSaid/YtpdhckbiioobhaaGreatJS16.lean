/- Some texts of this claim, joined: contracts of the functions that it reaches, and plain laws. -/
import Derived.Test.YtpdhckbiioobhaaGreatProg
import Derived.Test.YtpdhckbiioobhaaGreatJS13
import Derived.Test.YtpdhckbiioobhaaGreatJS3
import Derived.Test.YtpdhckbiioobhaaGreatJS15
import Derived.Test.YtpdhckbiioobhaaGreatJS6
import Derived.Test.YtpdhckbiioobhaaGreatJS12
import Derived.Test.YtpdhckbiioobhaaGreatJS17
import Derived.Test.YtpdhckbiioobhaaGreatJS9

set_option linter.unusedSimpArgs false
set_option linter.unusedVariables false
/- Walks: Blocked; slices.Slices, Blocking of valid trusts. -/
namespace Go.Proofs.YtpdhckbiioobhaaGreat
open Go.RowKit

theorem blocked_any (t : Tr) (s : Nat) (hs : s ≤ 1023) (v : Value) (w : World) (r : Option Nat) (h : TrR w r v t) :
    Calls Tryz.prog 49 #[v, .int .i64 (s : Int)] w fun e w' => e = .returned (.bool (blkB s t)) ∧ Fr none w w' := by
  obtain ⟨th, A1, n1, c1, A2, n2, c2, rfl⟩ := TrD.shape h
  have hv : validB (s : Int) = true := nat_validB hs
  have HB : Hid (blkB s t = !sat (1023 - (s : Int)) t) := by unfold Hid blkB; rw [hv]; rfl
  have HV := Lib.hid hv
  have h1 := h.fr ((Fr.refl r w).alloc (.cells #[.int .i64 th, .slice A1 n1 c1, .slice A2 n2 c2] 29))
  obtain ⟨X, hX⟩ : ∃ X, X = sat (1023 - (s : Int)) t := ⟨_, rfl⟩
  have HX := Lib.hid hX
  clear hv hX
  go_enter Tryz.func49, Tryz.ntmps49
  go_wp2_with (first | (go_at_call 28; refine (valid_any _ _).mono ?_; rintro e w' ⟨rfl, rfl⟩; rw [HV.out]) | (go_at_call 37; refine (sat_any t.dep t _ _ _ r (Nat.le_refl _) h1).mono ?_; rintro e w2 ⟨rfl, F2⟩; rw [← HX.out]))
  go_ret
  exact ⟨ret_bool (by rw [HB.out, ← HX.out]), ((Fr.refl _ _).alloc _).pure F2⟩

theorem rblocked_any (t : Tr) (s : Nat) (hs : s ≤ 1023) (v : Value) (w : World) (r : Option Nat) (h : TrR w r v t) :
    Calls Tryz.prog 50 #[v, .int .i64 (s : Int)] w fun e w' => e = .returned (.bool (blkB s t)) ∧ Fr none w w' := by
  obtain ⟨th, A1, n1, c1, A2, n2, c2, rfl⟩ := TrD.shape h
  have hv : validB (s : Int) = true := nat_validB hs
  have HB : Hid (blkB s t = !sat (1023 - (s : Int)) t) := by unfold Hid blkB; rw [hv]; rfl
  have HV := Lib.hid hv
  have h1 := h.fr ((Fr.refl r w).alloc (.cells #[.int .i64 th, .slice A1 n1 c1, .slice A2 n2 c2] 29))
  obtain ⟨X, hX⟩ : ∃ X, X = sat (1023 - (s : Int)) t := ⟨_, rfl⟩
  have HX := Lib.hid hX
  clear hv hX
  go_enter Tryz.func50, Tryz.ntmps50
  go_wp2_with (first | (go_at_call 43; refine (rvalid_any _ _).mono ?_; rintro e w' ⟨rfl, rfl⟩; rw [HV.out]) | (go_at_call 46; refine (rsat_any t.dep t _ _ _ r (Nat.le_refl _) h1).mono ?_; rintro e w2 ⟨rfl, F2⟩; rw [← HX.out]))
  go_ret
  exact ⟨ret_bool (by rw [HB.out, ← HX.out]), ((Fr.refl _ _).alloc _).pure F2⟩

theorem slices1_any (t : Tr) (s b : Nat) (hs : s < 1024) (th : Int) (A1 : Option Addr) (n1 c1 : Nat) (A2 : Option Addr) (n2 c2 : Nat) (w : World) (hb : w.heap[b]? = some (.cells #[.int .i64 th, .slice A1 n1 c1, .slice A2 n2 c2] 29 (0, 0))) (h : TrR w none (.agg #[.int .i64 th, .slice A1 n1 c1, .slice A2 n2 c2]) t) :
    Calls Tryz.prog 36 #[.int .i64 (s : Int), .pointer (some ⟨b, 0, none⟩)] w fun e w' => e = .returned (.bool (sat (s : Int) t)) ∧ Fr none w w' := by
  have R := blk_cell hb
  have HB := Lib.hid hb
  clear hb
  go_enter Tryz.func36, Tryz.ntmps36
  go_wp2_with fail
  refine (sat_any t.dep t _ _ _ none (Nat.le_refl _) h).mono ?_
  rintro e w2 ⟨rfl, F2⟩
  go_wp2_with fail
  go_ret
  exact ⟨rfl, F2⟩

theorem blocking1_any (t : Tr) (s b : Nat) (hs : s < 1024) (th : Int) (A1 : Option Addr) (n1 c1 : Nat) (A2 : Option Addr) (n2 c2 : Nat) (w : World) (hb : w.heap[b]? = some (.cells #[.int .i64 th, .slice A1 n1 c1, .slice A2 n2 c2] 29 (0, 0))) (h : TrR w none (.agg #[.int .i64 th, .slice A1 n1 c1, .slice A2 n2 c2]) t) :
    Calls Tryz.prog 48 #[.int .i64 (s : Int), .pointer (some ⟨b, 0, none⟩)] w fun e w' => e = .returned (.bool (blkB (s : Int) t)) ∧ Fr none w w' := by
  have R := blk_cell hb
  have HB := Lib.hid hb
  clear hb
  go_enter Tryz.func48, Tryz.ntmps48
  go_wp2_with fail
  refine (blocked_any t s (by omega) _ _ none h).mono ?_
  rintro e w2 ⟨rfl, F2⟩
  go_wp2_with fail
  go_ret
  exact ⟨rfl, F2⟩

/-- What Slices and Blocking leave. -/
def SlcE (l : List Int) (w : World) (e : Ending) (w' : World) : Prop := ∃ v, e = .returned (.tuple #[v, .int .i64 0]) ∧ SlD w' (Dn w.heap.size w') 1 v (l.map (Value.int .i64)) ∧ Fr none w w'
set_option maxRecDepth 100000 in
theorem slices_any (t : Tr) (v : Value) (w : World) (h : TrR w none v t) (hv : validE t = 0) : Calls Tryz.prog 10 #[v] w (SlcE (slcS ordI t) w) := by
  obtain ⟨th, A1, n1, c1, A2, n2, c2, rfl⟩ := TrD.shape h
  have F1 := (Fr.refl none w).alloc (.cells #[.int .i64 th, .slice A1 n1 c1, .slice A2 n2 c2] 29)
  have h1 := h.fr F1
  have hsz : t.size ≤ 1073741000 := by have := (valid_check hv).2.1; omega
  have HV := Lib.hid hv
  have hz : (ordN.filter fun s : Nat => sat (s : Int) t).map Int.ofNat = ordI.filter (fun s => sat s t) := by
    unfold ordI
    rw [List.filter_map]
    rfl
  have HZ := Lib.hid hz
  clear hv hz h
  go_enter Tryz.func10, Tryz.ntmps10
  go_wp2_with fail
  generalize hW : w.alloc _ = w1 at *
  have B1 : w1.heap[w.heap.size]? = some (.cells #[.int .i64 th, .slice A1 n1 c1, .slice A2 n2 c2] 29 (0, 0)) := by rw [← hW]; exact blk_new _ _
  clear hW
  refine (validT_any t _ _ none hsz h1).mono ?_
  rintro e w2 ⟨rfl, F2⟩
  rw [HV.out]
  have B2 := Lib.hid (blk_fr B1 F2 (by simp))
  have h2 := h1.fr F2
  clear B1
  go_wp2_with fail
  refine (sleast_any (fun s : Nat => sat (s : Int) t) 36 w.heap.size _ (fun _ _ => by kernel_rfl) (fun s W hs F => slices1_any t s w.heap.size hs th A1 n1 c1 A2 n2 c2 W (blk_fr B2.out F (by simp)) (h2.fr F))).mono ?_
  rintro e w3 ⟨v', rfl, hD, F3⟩
  have hz1 := F1.size
  have hz2 := F2.size
  go_wp2_with fail
  go_ret2
  refine ⟨v', rfl, ?_, (F1.pure F2).pure F3⟩
  unfold slcS
  rw [← HZ.out]
  exact hD.keep (dn_mono (by omega))

set_option maxRecDepth 100000 in
theorem blocking_any (t : Tr) (v : Value) (w : World) (h : TrR w none v t) (hv : validE t = 0) : Calls Tryz.prog 19 #[v] w (SlcE (blcS ordI t) w) := by
  obtain ⟨th, A1, n1, c1, A2, n2, c2, rfl⟩ := TrD.shape h
  have F1 := (Fr.refl none w).alloc (.cells #[.int .i64 th, .slice A1 n1 c1, .slice A2 n2 c2] 29)
  have h1 := h.fr F1
  have hsz : t.size ≤ 1073741000 := by have := (valid_check hv).2.1; omega
  have HV := Lib.hid hv
  have hz : (ordN.filter fun s : Nat => blkB (s : Int) t).map Int.ofNat = ordI.filter (fun s => blkB s t) := by
    unfold ordI
    rw [List.filter_map]
    rfl
  have HZ := Lib.hid hz
  clear hv hz h
  go_enter Tryz.func19, Tryz.ntmps19
  go_wp2_with fail
  generalize hW : w.alloc _ = w1 at *
  have B1 : w1.heap[w.heap.size]? = some (.cells #[.int .i64 th, .slice A1 n1 c1, .slice A2 n2 c2] 29 (0, 0)) := by rw [← hW]; exact blk_new _ _
  clear hW
  refine (validT_any t _ _ none hsz h1).mono ?_
  rintro e w2 ⟨rfl, F2⟩
  rw [HV.out]
  have B2 := Lib.hid (blk_fr B1 F2 (by simp))
  have h2 := h1.fr F2
  clear B1
  go_wp2_with fail
  refine (sleast_any (fun s : Nat => blkB (s : Int) t) 48 w.heap.size _ (fun _ _ => by kernel_rfl) (fun s W hs F => blocking1_any t s w.heap.size hs th A1 n1 c1 A2 n2 c2 W (blk_fr B2.out F (by simp)) (h2.fr F))).mono ?_
  rintro e w3 ⟨v', rfl, hD, F3⟩
  have hz1 := F1.size
  have hz2 := F2.size
  go_wp2_with fail
  go_ret2
  refine ⟨v', rfl, ?_, (F1.pure F2).pure F3⟩
  unfold blcS
  rw [← HZ.out]
  exact hD.keep (dn_mono (by omega))

end Go.Proofs.YtpdhckbiioobhaaGreat

/- Walks: the reference of layer 5: least. -/
namespace Go.Proofs.YtpdhckbiioobhaaGreat
open Go.RowKit

def pB (t : Tr) (bl : Bool) (a : Nat) : Bool := if bl then blkB (a : Int) t else sat (a : Int) t
theorem rem_hit {p : Nat → Bool} {s i : Nat} (hs : s ≤ 1023) (hi : s.testBit i = true) (hp : p (s - 2 ^ i) = true) : remB p s = false := by
  cases h : remB p s with
  | false => rfl
  | true =>
    have := List.all_eq_true.1 h i (List.mem_range.2 (bit_lt10 hs hi))
    rw [hi, hp] at this
    cases this
theorem rem_all {p : Nat → Bool} {s : Nat} (h : ∀ i : Nat, s.testBit i = true → p (s - 2 ^ i) = false) : remB p s = true := by
  refine List.all_eq_true.2 fun i _ => ?_
  cases hi : s.testBit i with
  | false => rfl
  | true => rw [h i hi]; rfl
theorem two_pow_le {s i : Nat} (h : s.testBit i = true) : 2 ^ i ≤ s := Nat.ge_two_pow_of_testBit h

set_option maxRecDepth 100000 in
set_option maxHeartbeats 4000000 in
theorem r5least_any (t : Tr) (s : Nat) (hs : s ≤ 1023) (bl : Bool) (v : Value) (w : World) (h : TrR w none v t) :
    Calls Tryz.prog 47 #[v, .int .i64 (s : Int), .bool bl] w fun e w' => e = .returned (.bool (remB (pB t bl) s)) ∧ Fr none w w' := by
  obtain ⟨th, A1, n1, c1, A2, n2, c2, rfl⟩ := TrD.shape h
  go_enter Tryz.func47, Tryz.ntmps47
  go_wp2_with fail
  generalize hW : w.alloc _ = w1
  have F1 : Fr none w w1 := hW ▸ (Fr.refl none w).alloc _
  have b1 : TB w1 w.heap.size (.int .i64 th) (.slice A1 n1 c1) (.slice A2 n2 c2) := by rw [← hW]; exact blk_new _ _
  have h1 := h.fr F1
  clear hW h
  refine (rnodes_any (s : Int) _).mono ?_
  rintro e w2 ⟨A, c, rfl, F2, own⟩
  have hks := SlD.own_dn own
  obtain ⟨nk, hnk⟩ : ∃ nk, nk = nodesK (s : Int) 10 := ⟨_, rfl⟩
  rw [← hnk] at hks ⊢
  have hlen : nk.length ≤ 10 := by rw [hnk]; exact nodesK_len _ _
  have hmem : ∀ k ∈ nk, ∃ i : Nat, k = i ∧ s.testBit i = true ∧ i < 10 := fun k hk => by
    obtain ⟨i, e, hi⟩ := (mem_nodesK hs k).1 (hnk ▸ hk)
    exact ⟨i, e, hi, bit_lt10 hs hi⟩
  have hall : ∀ i : Nat, s.testBit i = true → (i : Int) ∈ nk := fun i hi => by rw [hnk]; exact (mem_nodesK hs _).2 ⟨i, rfl, hi⟩
  have HMEM := Lib.hid hmem
  have HALL := Lib.hid hall
  have b2 := b1.fr F2 (by simp)
  have h2 := h1.fr F2
  have F02 := F1.pure F2
  clear own hnk hmem hall b1 h1 F1 F2
  go_wp2_with fail
  go_loopw [8, 12] (fun _ i wr => ∃ j : Nat, j ≤ nk.length ∧ i = .int .i64 (j : Int) ∧ Fr none w2 wr ∧ Hid (∀ q (hq : q < nk.length), q < j → pB t bl (s - 2 ^ nk[q].toNat) = false)) (fun _ i _ => nk.length - (intOf i).toNat)
  case atStart => exact ⟨0, Nat.zero_le _, rfl, Fr.refl _ _, Lib.hid (fun q hq h => by omega)⟩
  case round =>
    obtain ⟨j, hj, rfl, F, HQ⟩ := hrel
    have bx := b2.fr F (by simp)
    have hx := h2.fr F
    by_cases hlt : j < nk.length
    · obtain ⟨b, off, rfl, hb, hcj⟩ := (hks.keep (fun k hk => ⟨hk.2, F.block k hk.2 (by simp)⟩) : SlD wr (fun k => k < w2.heap.size) 1 _ _).cellI j hlt
      obtain ⟨i, hki, hi, hi10⟩ := HMEM.out nk[j] (List.getElem_mem _)
      have HNJ := Lib.hid hki
      rw [hki] at hcj
      have hp2 := two_pow_le hi
      have hpi : 2 ^ i ≤ 512 := Nat.pow_le_pow_right (n := 2) (by omega) (show i ≤ 9 by omega)
      obtain ⟨P, hP⟩ : ∃ P : Nat, P = 2 ^ i := ⟨_, rfl⟩
      have hw : wrap64 (2 ^ i) = (P : Int) := by rw [hP, wrap_pow i (by omega)]
      have hw2 : IntKind.i64.wrap ((2 : Int) ^ i) = (P : Int) := by rw [wrapI]; exact hw
      obtain ⟨X, hX⟩ : ∃ X, X = pB t bl (s - P) := ⟨_, rfl⟩
      have HP := Lib.hid hP
      rw [← hP] at hp2 hpi
      have hsub : ((s : Int) - (P : Int)) = ((s - P : Nat) : Int) := by omega
      have hsub2 : IntKind.i64.wrap ((s : Int) - (P : Int)) = ((s - P : Nat) : Int) := by rw [hsub]; exact IntWalk.i64_in _ (by omega)
      have hsub3 : IntKind.i64.wrap ((s - P : Nat) : Int) = ((s - P : Nat) : Int) := IntWalk.i64_in _ (by omega)
      have hs2 : s - P ≤ 1023 := by omega
      have HXX := Lib.hid hX
      have HI := Lib.hid hi
      have hl := blk_lt bx
      clear hki hX hi hP
      go_upto_region 5 with (fail)
      go_cut [36] (fun s36 wq => s36 = .bool X ∧ Fr none wr wq)
      case first =>
        cases bl with
        | false =>
          have HX : Hid (X = sat ((s - P : Nat) : Int) t) := HXX
          refine wp_region_held_drew (S := fun W => (∀ i, W.cell? ⟨w.heap.size, i, none⟩ = (#[.int .i64 th, .slice A1 n1 c1, .slice A2 n2 c2] : Array Value)[i]?) ∧ Fr none wr W) (by kernel_rfl) ⟨bx.cell, (Fr.refl _ _).drew⟩ (fun hH0 => ?_)
          refine wpAnyH_take (i := 0) (v := ?_) rfl (by kernel_rfl) (by kernel_rfl) (by kernel_rfl) (fun _ _ _ h => h) (Or.inl ⟨by rfl, ?_⟩) (by assumption) ?_
          rotate_left
          · (intro W hW; (try dsimp only at hW); go_simp; try with_reducible rfl)
          try simp only [Act.put, List.setIfInBounds_toArray, List.set_cons_zero, List.set_cons_succ, List.getElem_toArray, List.getElem_cons_zero, List.getElem_cons_succ]
          refine wpAnyH_take (i := 1) (v := ?_) rfl (by kernel_rfl) (by kernel_rfl) (by kernel_rfl) (fun _ _ _ h => h) (Or.inl ⟨by rfl, ?_⟩) (by assumption) ?_
          rotate_left
          · (intro W hW; (try dsimp only at hW); go_simp; try with_reducible rfl)
          try simp only [Act.put, List.setIfInBounds_toArray, List.set_cons_zero, List.set_cons_succ, List.getElem_toArray, List.getElem_cons_zero, List.getElem_cons_succ]
          refine wpAnyH_take (i := 2) (v := ?_) rfl (by kernel_rfl) (by kernel_rfl) (by kernel_rfl) (fun _ _ _ h => h) (Or.inl ⟨by rfl, ?_⟩) (by assumption) ?_
          rotate_left
          · (intro W hW; (try dsimp only at hW); go_simp; try with_reducible rfl)
          try simp only [Act.put, List.setIfInBounds_toArray, List.set_cons_zero, List.set_cons_succ, List.getElem_toArray, List.getElem_cons_zero, List.getElem_cons_succ]
          refine wpAnyH_take (i := 3) (v := ?_) rfl (by kernel_rfl) (by kernel_rfl) (by kernel_rfl) (fun _ _ _ h => h) (Or.inl ⟨by rfl, ?_⟩) (by assumption) ?_
          rotate_left
          · (intro W hW; (try dsimp only at hW); go_simp; try with_reducible rfl)
          try simp only [Act.put, List.setIfInBounds_toArray, List.set_cons_zero, List.set_cons_succ, List.getElem_toArray, List.getElem_cons_zero, List.getElem_cons_succ]
          refine wpAnyH_take (i := 4) (v := ?_) rfl (by kernel_rfl) (by kernel_rfl) (by kernel_rfl) (fun _ _ _ h => h) (Or.inl ⟨by rfl, ?_⟩) (by assumption) ?_
          rotate_left
          · (intro W hW; (try dsimp only at hW); go_simp; try with_reducible rfl)
          try simp only [Act.put, List.setIfInBounds_toArray, List.set_cons_zero, List.set_cons_succ, List.getElem_toArray, List.getElem_cons_zero, List.getElem_cons_succ]
          refine wpAnyH_take (i := 5) (v := ?_) rfl (by kernel_rfl) (by kernel_rfl) (by kernel_rfl) (fun _ _ _ h => h) (Or.inl ⟨by rfl, ?_⟩) (by assumption) ?_
          rotate_left
          · (intro W hW; (try dsimp only at hW); go_simp; try with_reducible rfl)
          try simp only [Act.put, List.setIfInBounds_toArray, List.set_cons_zero, List.set_cons_succ, List.getElem_toArray, List.getElem_cons_zero, List.getElem_cons_succ]
          refine wpAnyH_take (i := 6) (v := ?_) rfl (by kernel_rfl) (by kernel_rfl) (by kernel_rfl) (fun _ _ _ h => h) (Or.inl ⟨by rfl, ?_⟩) (by assumption) ?_
          rotate_left
          · (intro W hW; (try dsimp only at hW); go_simp; try with_reducible rfl)
          try simp only [Act.put, List.setIfInBounds_toArray, List.set_cons_zero, List.set_cons_succ, List.getElem_toArray, List.getElem_cons_zero, List.getElem_cons_succ]
          refine wpAnyH_take (i := 7) (v := ?_) rfl (by kernel_rfl) (by kernel_rfl) (by kernel_rfl) (fun _ _ _ h => h) (Or.inl ⟨by rfl, ?_⟩) (by assumption) ?_
          rotate_left
          · (intro W hW; (try dsimp only at hW); go_simp; try with_reducible rfl)
          try simp only [Act.put, List.setIfInBounds_toArray, List.set_cons_zero, List.set_cons_succ, List.getElem_toArray, List.getElem_cons_zero, List.getElem_cons_succ]
          refine wpAnyH_ready (rs := [8]) (by kernel_rfl) (by simp) ?_
          refine AllReadyH.cons rfl (fun K hK => ?_) AllReadyH.nil
          simp only [List.getElem_toArray, List.getElem_cons_zero, List.getElem_cons_succ]
          go_simp
          (go_at_call 46; refine (rsat_any t.dep t _ _ _ none (Nat.le_refl _) (hx.fr hH0.2)).mono ?_)
          rintro e w9 ⟨rfl, F9⟩
          rw [← HX.out]
          have F9' := hH0.2.pure F9
          refine hK.out _ _ ⟨(bx.fr F9' (by simp)).cell, F9'⟩ (fun hH1 => ?_)
          clear hK K hH0
          try simp only [Act.put, List.setIfInBounds_toArray, List.set_cons_zero, List.set_cons_succ, List.getElem_toArray, List.getElem_cons_zero, List.getElem_cons_succ]
          cases X with
          | true =>
            refine wpAnyH_take (i := 9) (v := ?_) rfl (by kernel_rfl) (by kernel_rfl) (by kernel_rfl) (fun _ _ _ h => h) (Or.inl ⟨by rfl, ?_⟩) (by assumption) ?_
            rotate_left
            · (intro W hW; (try dsimp only at hW); go_simp; try with_reducible rfl)
            try simp only [Act.put, List.setIfInBounds_toArray, List.set_cons_zero, List.set_cons_succ, List.getElem_toArray, List.getElem_cons_zero, List.getElem_cons_succ]
            refine wpAnyH_take (i := 10) (v := ?_) rfl (by kernel_rfl) (by kernel_rfl) (by kernel_rfl) (fun _ _ _ h => h) (Or.inl ⟨by rfl, ?_⟩) (by assumption) ?_
            rotate_left
            · (intro W hW; (try dsimp only at hW); go_simp; try with_reducible rfl)
            try simp only [Act.put, List.setIfInBounds_toArray, List.set_cons_zero, List.set_cons_succ, List.getElem_toArray, List.getElem_cons_zero, List.getElem_cons_succ]
            refine wpAnyH_take (i := 11) (v := undef) rfl (by kernel_rfl) (by kernel_rfl) (by kernel_rfl) (fun _ _ _ h => h) (Or.inr ⟨by rfl, rfl⟩) (by assumption) ?_
            try simp only [Act.put, List.setIfInBounds_toArray, List.set_cons_zero, List.set_cons_succ, List.getElem_toArray, List.getElem_cons_zero, List.getElem_cons_succ]
            refine wpAnyH_take (i := 12) (v := undef) rfl (by kernel_rfl) (by kernel_rfl) (by kernel_rfl) (fun _ _ _ h => h) (Or.inr ⟨by rfl, rfl⟩) (by assumption) ?_
            try simp only [Act.put, List.setIfInBounds_toArray, List.set_cons_zero, List.set_cons_succ, List.getElem_toArray, List.getElem_cons_zero, List.getElem_cons_succ]
            refine wpAnyH_take (i := 13) (v := undef) rfl (by kernel_rfl) (by kernel_rfl) (by kernel_rfl) (fun _ _ _ h => h) (Or.inr ⟨by rfl, rfl⟩) (by assumption) ?_
            try simp only [Act.put, List.setIfInBounds_toArray, List.set_cons_zero, List.set_cons_succ, List.getElem_toArray, List.getElem_cons_zero, List.getElem_cons_succ]
            refine wpAnyH_take (i := 14) (v := undef) rfl (by kernel_rfl) (by kernel_rfl) (by kernel_rfl) (fun _ _ _ h => h) (Or.inr ⟨by rfl, rfl⟩) (by assumption) ?_
            try simp only [Act.put, List.setIfInBounds_toArray, List.set_cons_zero, List.set_cons_succ, List.getElem_toArray, List.getElem_cons_zero, List.getElem_cons_succ]
            refine wpAnyH_take (i := 15) (v := undef) rfl (by kernel_rfl) (by kernel_rfl) (by kernel_rfl) (fun _ _ _ h => h) (Or.inr ⟨by rfl, rfl⟩) (by assumption) ?_
            try simp only [Act.put, List.setIfInBounds_toArray, List.set_cons_zero, List.set_cons_succ, List.getElem_toArray, List.getElem_cons_zero, List.getElem_cons_succ]
            refine wpAnyH_take (i := 16) (v := undef) rfl (by kernel_rfl) (by kernel_rfl) (by kernel_rfl) (fun _ _ _ h => h) (Or.inr ⟨by rfl, rfl⟩) (by assumption) ?_
            try simp only [Act.put, List.setIfInBounds_toArray, List.set_cons_zero, List.set_cons_succ, List.getElem_toArray, List.getElem_cons_zero, List.getElem_cons_succ]
            refine wpAnyH_take (i := 17) (v := undef) rfl (by kernel_rfl) (by kernel_rfl) (by kernel_rfl) (fun _ _ _ h => h) (Or.inr ⟨by rfl, rfl⟩) (by assumption) ?_
            try simp only [Act.put, List.setIfInBounds_toArray, List.set_cons_zero, List.set_cons_succ, List.getElem_toArray, List.getElem_cons_zero, List.getElem_cons_succ]
            refine wpAnyH_take (i := 18) (v := undef) rfl (by kernel_rfl) (by kernel_rfl) (by kernel_rfl) (fun _ _ _ h => h) (Or.inr ⟨by rfl, rfl⟩) (by assumption) ?_
            try simp only [Act.put, List.setIfInBounds_toArray, List.set_cons_zero, List.set_cons_succ, List.getElem_toArray, List.getElem_cons_zero, List.getElem_cons_succ]
            refine wpAnyH_take (i := 19) (v := undef) rfl (by kernel_rfl) (by kernel_rfl) (by kernel_rfl) (fun _ _ _ h => h) (Or.inr ⟨by rfl, rfl⟩) (by assumption) ?_
            try simp only [Act.put, List.setIfInBounds_toArray, List.set_cons_zero, List.set_cons_succ, List.getElem_toArray, List.getElem_cons_zero, List.getElem_cons_succ]
            refine wpAnyH_take (i := 20) (v := ?_) rfl (by kernel_rfl) (by kernel_rfl) (by kernel_rfl) (fun _ _ _ h => h) (Or.inl ⟨by rfl, ?_⟩) (by assumption) ?_
            rotate_left
            · (intro W hW; (try dsimp only at hW); go_simp; try with_reducible rfl)
            try simp only [Act.put, List.setIfInBounds_toArray, List.set_cons_zero, List.set_cons_succ, List.getElem_toArray, List.getElem_cons_zero, List.getElem_cons_succ]
            refine wpAnyH_done (by kernel_rfl) ?_ _
            go_wp2_with fail
            go_meet
            exact ⟨rfl, F9'⟩
          | false =>
            refine wpAnyH_take (i := 9) (v := ?_) rfl (by kernel_rfl) (by kernel_rfl) (by kernel_rfl) (fun _ _ _ h => h) (Or.inl ⟨by rfl, ?_⟩) (by assumption) ?_
            rotate_left
            · (intro W hW; (try dsimp only at hW); go_simp; try with_reducible rfl)
            try simp only [Act.put, List.setIfInBounds_toArray, List.set_cons_zero, List.set_cons_succ, List.getElem_toArray, List.getElem_cons_zero, List.getElem_cons_succ]
            refine wpAnyH_take (i := 10) (v := ?_) rfl (by kernel_rfl) (by kernel_rfl) (by kernel_rfl) (fun _ _ _ h => h) (Or.inl ⟨by rfl, ?_⟩) (by assumption) ?_
            rotate_left
            · (intro W hW; (try dsimp only at hW); go_simp; try with_reducible rfl)
            try simp only [Act.put, List.setIfInBounds_toArray, List.set_cons_zero, List.set_cons_succ, List.getElem_toArray, List.getElem_cons_zero, List.getElem_cons_succ]
            refine wpAnyH_take (i := 11) (v := ?_) rfl (by kernel_rfl) (by kernel_rfl) (by kernel_rfl) (fun _ _ _ h => h) (Or.inl ⟨by rfl, ?_⟩) (by assumption) ?_
            rotate_left
            · (intro W hW; (try dsimp only at hW); go_simp; try with_reducible rfl)
            try simp only [Act.put, List.setIfInBounds_toArray, List.set_cons_zero, List.set_cons_succ, List.getElem_toArray, List.getElem_cons_zero, List.getElem_cons_succ]
            refine wpAnyH_take (i := 12) (v := ?_) rfl (by kernel_rfl) (by kernel_rfl) (by kernel_rfl) (fun _ _ _ h => h) (Or.inl ⟨by rfl, ?_⟩) (by assumption) ?_
            rotate_left
            · (intro W hW; (try dsimp only at hW); go_simp; try with_reducible rfl)
            try simp only [Act.put, List.setIfInBounds_toArray, List.set_cons_zero, List.set_cons_succ, List.getElem_toArray, List.getElem_cons_zero, List.getElem_cons_succ]
            refine wpAnyH_take (i := 13) (v := undef) rfl (by kernel_rfl) (by kernel_rfl) (by kernel_rfl) (fun _ _ _ h => h) (Or.inr ⟨by rfl, rfl⟩) (by assumption) ?_
            try simp only [Act.put, List.setIfInBounds_toArray, List.set_cons_zero, List.set_cons_succ, List.getElem_toArray, List.getElem_cons_zero, List.getElem_cons_succ]
            refine wpAnyH_take (i := 14) (v := undef) rfl (by kernel_rfl) (by kernel_rfl) (by kernel_rfl) (fun _ _ _ h => h) (Or.inr ⟨by rfl, rfl⟩) (by assumption) ?_
            try simp only [Act.put, List.setIfInBounds_toArray, List.set_cons_zero, List.set_cons_succ, List.getElem_toArray, List.getElem_cons_zero, List.getElem_cons_succ]
            refine wpAnyH_take (i := 15) (v := undef) rfl (by kernel_rfl) (by kernel_rfl) (by kernel_rfl) (fun _ _ _ h => h) (Or.inr ⟨by rfl, rfl⟩) (by assumption) ?_
            try simp only [Act.put, List.setIfInBounds_toArray, List.set_cons_zero, List.set_cons_succ, List.getElem_toArray, List.getElem_cons_zero, List.getElem_cons_succ]
            refine wpAnyH_take (i := 16) (v := undef) rfl (by kernel_rfl) (by kernel_rfl) (by kernel_rfl) (fun _ _ _ h => h) (Or.inr ⟨by rfl, rfl⟩) (by assumption) ?_
            try simp only [Act.put, List.setIfInBounds_toArray, List.set_cons_zero, List.set_cons_succ, List.getElem_toArray, List.getElem_cons_zero, List.getElem_cons_succ]
            refine wpAnyH_take (i := 17) (v := undef) rfl (by kernel_rfl) (by kernel_rfl) (by kernel_rfl) (fun _ _ _ h => h) (Or.inr ⟨by rfl, rfl⟩) (by assumption) ?_
            try simp only [Act.put, List.setIfInBounds_toArray, List.set_cons_zero, List.set_cons_succ, List.getElem_toArray, List.getElem_cons_zero, List.getElem_cons_succ]
            refine wpAnyH_take (i := 18) (v := undef) rfl (by kernel_rfl) (by kernel_rfl) (by kernel_rfl) (fun _ _ _ h => h) (Or.inr ⟨by rfl, rfl⟩) (by assumption) ?_
            try simp only [Act.put, List.setIfInBounds_toArray, List.set_cons_zero, List.set_cons_succ, List.getElem_toArray, List.getElem_cons_zero, List.getElem_cons_succ]
            refine wpAnyH_take (i := 19) (v := ?_) rfl (by kernel_rfl) (by kernel_rfl) (by kernel_rfl) (fun _ _ _ h => h) (Or.inl ⟨by rfl, ?_⟩) (by assumption) ?_
            rotate_left
            · (intro W hW; (try dsimp only at hW); go_simp; try with_reducible rfl)
            try simp only [Act.put, List.setIfInBounds_toArray, List.set_cons_zero, List.set_cons_succ, List.getElem_toArray, List.getElem_cons_zero, List.getElem_cons_succ]
            refine wpAnyH_take (i := 20) (v := ?_) rfl (by kernel_rfl) (by kernel_rfl) (by kernel_rfl) (fun _ _ _ h => h) (Or.inl ⟨by rfl, ?_⟩) (by assumption) ?_
            rotate_left
            · (intro W hW; (try dsimp only at hW); go_simp; try with_reducible rfl)
            try simp only [Act.put, List.setIfInBounds_toArray, List.set_cons_zero, List.set_cons_succ, List.getElem_toArray, List.getElem_cons_zero, List.getElem_cons_succ]
            refine wpAnyH_done (by kernel_rfl) ?_ _
            go_wp2_with fail
            go_meet
            exact ⟨rfl, F9'⟩
        | true =>
          have HX : Hid (X = blkB ((s - P : Nat) : Int) t) := HXX
          refine wp_region_held_drew (S := fun W => (∀ i, W.cell? ⟨w.heap.size, i, none⟩ = (#[.int .i64 th, .slice A1 n1 c1, .slice A2 n2 c2] : Array Value)[i]?) ∧ Fr none wr W) (by kernel_rfl) ⟨bx.cell, (Fr.refl _ _).drew⟩ (fun hH0 => ?_)
          refine wpAnyH_take (i := 0) (v := ?_) rfl (by kernel_rfl) (by kernel_rfl) (by kernel_rfl) (fun _ _ _ h => h) (Or.inl ⟨by rfl, ?_⟩) (by assumption) ?_
          rotate_left
          · (intro W hW; (try dsimp only at hW); go_simp; try with_reducible rfl)
          try simp only [Act.put, List.setIfInBounds_toArray, List.set_cons_zero, List.set_cons_succ, List.getElem_toArray, List.getElem_cons_zero, List.getElem_cons_succ]
          refine wpAnyH_take (i := 1) (v := ?_) rfl (by kernel_rfl) (by kernel_rfl) (by kernel_rfl) (fun _ _ _ h => h) (Or.inl ⟨by rfl, ?_⟩) (by assumption) ?_
          rotate_left
          · (intro W hW; (try dsimp only at hW); go_simp; try with_reducible rfl)
          try simp only [Act.put, List.setIfInBounds_toArray, List.set_cons_zero, List.set_cons_succ, List.getElem_toArray, List.getElem_cons_zero, List.getElem_cons_succ]
          refine wpAnyH_take (i := 2) (v := ?_) rfl (by kernel_rfl) (by kernel_rfl) (by kernel_rfl) (fun _ _ _ h => h) (Or.inl ⟨by rfl, ?_⟩) (by assumption) ?_
          rotate_left
          · (intro W hW; (try dsimp only at hW); go_simp; try with_reducible rfl)
          try simp only [Act.put, List.setIfInBounds_toArray, List.set_cons_zero, List.set_cons_succ, List.getElem_toArray, List.getElem_cons_zero, List.getElem_cons_succ]
          refine wpAnyH_take (i := 3) (v := undef) rfl (by kernel_rfl) (by kernel_rfl) (by kernel_rfl) (fun _ _ _ h => h) (Or.inr ⟨by rfl, rfl⟩) (by assumption) ?_
          try simp only [Act.put, List.setIfInBounds_toArray, List.set_cons_zero, List.set_cons_succ, List.getElem_toArray, List.getElem_cons_zero, List.getElem_cons_succ]
          refine wpAnyH_take (i := 4) (v := undef) rfl (by kernel_rfl) (by kernel_rfl) (by kernel_rfl) (fun _ _ _ h => h) (Or.inr ⟨by rfl, rfl⟩) (by assumption) ?_
          try simp only [Act.put, List.setIfInBounds_toArray, List.set_cons_zero, List.set_cons_succ, List.getElem_toArray, List.getElem_cons_zero, List.getElem_cons_succ]
          refine wpAnyH_take (i := 5) (v := undef) rfl (by kernel_rfl) (by kernel_rfl) (by kernel_rfl) (fun _ _ _ h => h) (Or.inr ⟨by rfl, rfl⟩) (by assumption) ?_
          try simp only [Act.put, List.setIfInBounds_toArray, List.set_cons_zero, List.set_cons_succ, List.getElem_toArray, List.getElem_cons_zero, List.getElem_cons_succ]
          refine wpAnyH_take (i := 6) (v := undef) rfl (by kernel_rfl) (by kernel_rfl) (by kernel_rfl) (fun _ _ _ h => h) (Or.inr ⟨by rfl, rfl⟩) (by assumption) ?_
          try simp only [Act.put, List.setIfInBounds_toArray, List.set_cons_zero, List.set_cons_succ, List.getElem_toArray, List.getElem_cons_zero, List.getElem_cons_succ]
          refine wpAnyH_take (i := 7) (v := undef) rfl (by kernel_rfl) (by kernel_rfl) (by kernel_rfl) (fun _ _ _ h => h) (Or.inr ⟨by rfl, rfl⟩) (by assumption) ?_
          try simp only [Act.put, List.setIfInBounds_toArray, List.set_cons_zero, List.set_cons_succ, List.getElem_toArray, List.getElem_cons_zero, List.getElem_cons_succ]
          refine wpAnyH_take (i := 8) (v := undef) rfl (by kernel_rfl) (by kernel_rfl) (by kernel_rfl) (fun _ _ _ h => h) (Or.inr ⟨by rfl, rfl⟩) (by assumption) ?_
          try simp only [Act.put, List.setIfInBounds_toArray, List.set_cons_zero, List.set_cons_succ, List.getElem_toArray, List.getElem_cons_zero, List.getElem_cons_succ]
          refine wpAnyH_take (i := 9) (v := ?_) rfl (by kernel_rfl) (by kernel_rfl) (by kernel_rfl) (fun _ _ _ h => h) (Or.inl ⟨by rfl, ?_⟩) (by assumption) ?_
          rotate_left
          · (intro W hW; (try dsimp only at hW); go_simp; try with_reducible rfl)
          try simp only [Act.put, List.setIfInBounds_toArray, List.set_cons_zero, List.set_cons_succ, List.getElem_toArray, List.getElem_cons_zero, List.getElem_cons_succ]
          refine wpAnyH_take (i := 10) (v := ?_) rfl (by kernel_rfl) (by kernel_rfl) (by kernel_rfl) (fun _ _ _ h => h) (Or.inl ⟨by rfl, ?_⟩) (by assumption) ?_
          rotate_left
          · (intro W hW; (try dsimp only at hW); go_simp; try with_reducible rfl)
          try simp only [Act.put, List.setIfInBounds_toArray, List.set_cons_zero, List.set_cons_succ, List.getElem_toArray, List.getElem_cons_zero, List.getElem_cons_succ]
          refine wpAnyH_take (i := 11) (v := ?_) rfl (by kernel_rfl) (by kernel_rfl) (by kernel_rfl) (fun _ _ _ h => h) (Or.inl ⟨by rfl, ?_⟩) (by assumption) ?_
          rotate_left
          · (intro W hW; (try dsimp only at hW); go_simp; try with_reducible rfl)
          try simp only [Act.put, List.setIfInBounds_toArray, List.set_cons_zero, List.set_cons_succ, List.getElem_toArray, List.getElem_cons_zero, List.getElem_cons_succ]
          refine wpAnyH_take (i := 12) (v := ?_) rfl (by kernel_rfl) (by kernel_rfl) (by kernel_rfl) (fun _ _ _ h => h) (Or.inl ⟨by rfl, ?_⟩) (by assumption) ?_
          rotate_left
          · (intro W hW; (try dsimp only at hW); go_simp; try with_reducible rfl)
          try simp only [Act.put, List.setIfInBounds_toArray, List.set_cons_zero, List.set_cons_succ, List.getElem_toArray, List.getElem_cons_zero, List.getElem_cons_succ]
          refine wpAnyH_take (i := 13) (v := ?_) rfl (by kernel_rfl) (by kernel_rfl) (by kernel_rfl) (fun _ _ _ h => h) (Or.inl ⟨by rfl, ?_⟩) (by assumption) ?_
          rotate_left
          · (intro W hW; (try dsimp only at hW); go_simp; try with_reducible rfl)
          try simp only [Act.put, List.setIfInBounds_toArray, List.set_cons_zero, List.set_cons_succ, List.getElem_toArray, List.getElem_cons_zero, List.getElem_cons_succ]
          refine wpAnyH_take (i := 14) (v := ?_) rfl (by kernel_rfl) (by kernel_rfl) (by kernel_rfl) (fun _ _ _ h => h) (Or.inl ⟨by rfl, ?_⟩) (by assumption) ?_
          rotate_left
          · (intro W hW; (try dsimp only at hW); go_simp; try with_reducible rfl)
          try simp only [Act.put, List.setIfInBounds_toArray, List.set_cons_zero, List.set_cons_succ, List.getElem_toArray, List.getElem_cons_zero, List.getElem_cons_succ]
          refine wpAnyH_take (i := 15) (v := ?_) rfl (by kernel_rfl) (by kernel_rfl) (by kernel_rfl) (fun _ _ _ h => h) (Or.inl ⟨by rfl, ?_⟩) (by assumption) ?_
          rotate_left
          · (intro W hW; (try dsimp only at hW); go_simp; try with_reducible rfl)
          try simp only [Act.put, List.setIfInBounds_toArray, List.set_cons_zero, List.set_cons_succ, List.getElem_toArray, List.getElem_cons_zero, List.getElem_cons_succ]
          refine wpAnyH_take (i := 16) (v := ?_) rfl (by kernel_rfl) (by kernel_rfl) (by kernel_rfl) (fun _ _ _ h => h) (Or.inl ⟨by rfl, ?_⟩) (by assumption) ?_
          rotate_left
          · (intro W hW; (try dsimp only at hW); go_simp; try with_reducible rfl)
          try simp only [Act.put, List.setIfInBounds_toArray, List.set_cons_zero, List.set_cons_succ, List.getElem_toArray, List.getElem_cons_zero, List.getElem_cons_succ]
          refine wpAnyH_take (i := 17) (v := ?_) rfl (by kernel_rfl) (by kernel_rfl) (by kernel_rfl) (fun _ _ _ h => h) (Or.inl ⟨by rfl, ?_⟩) (by assumption) ?_
          rotate_left
          · (intro W hW; (try dsimp only at hW); go_simp; try with_reducible rfl)
          try simp only [Act.put, List.setIfInBounds_toArray, List.set_cons_zero, List.set_cons_succ, List.getElem_toArray, List.getElem_cons_zero, List.getElem_cons_succ]
          refine wpAnyH_ready (rs := [18]) (by kernel_rfl) (by simp) ?_
          refine AllReadyH.cons rfl (fun K hK => ?_) AllReadyH.nil
          simp only [List.getElem_toArray, List.getElem_cons_zero, List.getElem_cons_succ]
          go_simp
          (go_at_call 50; refine (rblocked_any t (s - P) hs2 _ _ none (hx.fr hH0.2)).mono ?_)
          rintro e w9 ⟨rfl, F9⟩
          rw [← HX.out]
          have F9' := hH0.2.pure F9
          refine hK.out _ _ ⟨(bx.fr F9' (by simp)).cell, F9'⟩ (fun hH1 => ?_)
          clear hK K hH0
          try simp only [Act.put, List.setIfInBounds_toArray, List.set_cons_zero, List.set_cons_succ, List.getElem_toArray, List.getElem_cons_zero, List.getElem_cons_succ]
          refine wpAnyH_take (i := 19) (v := ?_) rfl (by kernel_rfl) (by kernel_rfl) (by kernel_rfl) (fun _ _ _ h => h) (Or.inl ⟨by rfl, ?_⟩) (by assumption) ?_
          rotate_left
          · (intro W hW; (try dsimp only at hW); go_simp; try with_reducible rfl)
          try simp only [Act.put, List.setIfInBounds_toArray, List.set_cons_zero, List.set_cons_succ, List.getElem_toArray, List.getElem_cons_zero, List.getElem_cons_succ]
          refine wpAnyH_take (i := 20) (v := ?_) rfl (by kernel_rfl) (by kernel_rfl) (by kernel_rfl) (fun _ _ _ h => h) (Or.inl ⟨by rfl, ?_⟩) (by assumption) ?_
          rotate_left
          · (intro W hW; (try dsimp only at hW); go_simp; try with_reducible rfl)
          try simp only [Act.put, List.setIfInBounds_toArray, List.set_cons_zero, List.set_cons_succ, List.getElem_toArray, List.getElem_cons_zero, List.getElem_cons_succ]
          refine wpAnyH_done (by kernel_rfl) ?_ _
          go_wp2_with fail
          go_meet
          exact ⟨rfl, F9'⟩
      case rest =>
        obtain ⟨rfl, Fq⟩ := hcut
        cases X with
        | true =>
          have HR : Hid (remB (pB t bl) s = false) := rem_hit hs HI.out (by rw [← HP.out]; exact HXX.out.symm)
          go_wp2_with fail
          go_ret
          exact ⟨ret_bool HR.out.symm, (F02.pure F).pure Fq⟩
        | false =>
          go_wp2_with fail
          go_roundw
          case rel => exact ⟨j + 1, by omega, by go_num, F.pure Fq, Lib.hid (fun q hq h => by
            rcases Nat.lt_or_ge q j with hh | hh
            · exact HQ.out q hq hh
            · obtain rfl : q = j := by omega
              rw [HNJ.out, Int.toNat_natCast, ← HP.out]; exact HXX.out.symm)⟩
          case measure => simp [intOf]; omega
    · obtain rfl : j = nk.length := by omega
      have HR : Hid (remB (pB t bl) s = true) := rem_all (fun i hi => by
        obtain ⟨q, hq, e⟩ := List.getElem_of_mem (HALL.out i hi)
        have := HQ.out q hq hq
        rw [e] at this
        simpa using this)
      go_wp2_with fail
      go_ret
      exact ⟨ret_bool HR.out.symm, F02.pure F⟩
end Go.Proofs.YtpdhckbiioobhaaGreat

/- The sanity check of layer 5's laws. -/
namespace Go.Proofs.YtpdhckbiioobhaaGreat
open Go.RowKit

theorem SlD.of_blk {w : World} {D : Nat → Prop} {b n size : Nat} {cs : Array Value} {t : TypeId} {fz : Nat × Nat} (h : w.heap[b]? = some (.cells cs t fz)) (hD : D b) (hs : cs.size = n * size) (hn : n ≤ maxLen) : SlD w D size (.slice (some ⟨b, 0, none⟩) n n) cs.toList :=
  ⟨_, n, n, rfl, by simpa using hs, Nat.le_refl _, hn, fun _ => ⟨b, 0, rfl, hD, fun j u hu => by
    rw [Nat.zero_add, blk_cell h]
    simpa using hu⟩⟩
/-- The least sets of which something is true, out of two closed facts. -/
theorem least_is {q : Int → Bool} (L : List Nat) (h1 : (L.map Int.ofNat).Pairwise fun x y => cmpS x y < 0) (h2 : ∀ z ∈ L, z ≤ 1023) (hA : ∀ a : Fin 1024, q (a.val : Int) = true → (L.any fun z => z &&& a.val == z) = true) (hB : ∀ a : Fin 1024, ∀ z ∈ L, q (a.val : Int) = true → a.val &&& z = a.val → a.val = z) (hC : ∀ z ∈ L, q (z : Int) = true) :
    leastS (ordI.filter q) = L.map Int.ofNat := by
  refine cmpS_ext (leastS_strict _) h1 fun x => ?_
  rw [mem_leastS]
  constructor
  · rintro ⟨k1, k2, k3⟩
    obtain ⟨a, rfl, ha⟩ := validB_nat k2
    have hq := (List.mem_filter.1 k1).2
    have := hA ⟨a, by omega⟩ hq
    rw [List.any_eq_true] at this
    obtain ⟨z, hz, hza⟩ := this
    have hz2 := h2 z hz
    have e := k3 (z : Int) (List.mem_filter.2 ⟨(ordI_all _).2 (nat_validB hz2), hC z hz⟩) (nat_validB hz2) ((subI_sb hz2).2 (sb_land.1 (by simpa using hza)))
    rw [List.mem_map]
    exact ⟨z, hz, e⟩
  · intro hx
    rw [List.mem_map] at hx
    obtain ⟨z, hz, rfl⟩ := hx
    have hz2 := h2 z hz
    refine ⟨List.mem_filter.2 ⟨(ordI_all _).2 (nat_validB hz2), hC z hz⟩, nat_validB hz2, fun y hy hv hs => ?_⟩
    obtain ⟨a, rfl, ha⟩ := validB_nat hv
    have := hB ⟨a, by omega⟩ z hz (List.mem_filter.1 hy).2 (sb_land.2 ((subI_sb ha).1 hs))
    simp only at this
    rw [this]
    rfl
def T5 : Tr := .mk 2 [0, 1] [.mk 1 [2, 3] []]
theorem T5_slc : slcS ordI T5 = [3, 5, 6, 9, 10] := by
  refine least_is (q := fun s => sat s T5) [3, 5, 6, 9, 10] ?_ ?_ ?_ ?_ ?_
  · decide +kernel
  · decide
  · decide +kernel
  · decide +kernel
  · decide +kernel
theorem T5_blc : blcS ordI T5 = [3, 13, 14] := by
  refine least_is (q := fun s => blkB s T5) [3, 13, 14] ?_ ?_ ?_ ?_ ?_
  · decide +kernel
  · decide
  · decide +kernel
  · decide +kernel
  · decide +kernel
theorem T5_valid : validE T5 = 0 := by decide +kernel

set_option maxRecDepth 100000 in
set_option maxHeartbeats 1000000 in
theorem awake5_any (w : World) : Calls Tryz.prog 15 #[] w fun e w' => e = .returned (.bool true) ∧ Fr none w w' := by
  have HS := Lib.hid T5_slc
  have HB := Lib.hid T5_blc
  go_enter Tryz.func15, Tryz.ntmps15
  go_wp2_with fail
  generalize hW : (((w.alloc _).alloc _).alloc _).alloc _ = w4
  have F4 : Fr none w w4 := hW ▸ ((((Fr.refl none w).alloc _).alloc _).alloc _).alloc _
  have b0 : w4.heap[w.heap.size]? = some (.cells #[.int .i64 0, .int .i64 1] 3 (0, 0)) := by
    rw [← hW]; exact (Below.heap_alloc _ _ _ (by simp; omega)).trans ((Below.heap_alloc _ _ _ (by simp; omega)).trans ((Below.heap_alloc _ _ _ (by simp)).trans (blk_new _ _)))
  have b1 : w4.heap[w.heap.size + 1]? = some (.cells #[.int .i64 2, .int .i64 3] 3 (0, 0)) := by
    rw [← hW]; exact (Below.heap_alloc _ _ _ (by simp)).trans ((Below.heap_alloc _ _ _ (by simp)).trans (blk_new_at (by simp) _))
  have b2 : w4.heap[w.heap.size + 1 + 1]? = some (.cells #[.int .i64 1, .slice (some ⟨w.heap.size + 1, 0, none⟩) 2 2, .slice none 0 0] 29 (0, 0)) := by
    rw [← hW]; exact (Below.heap_alloc _ _ _ (by simp)).trans (blk_new_at (by simp) _)
  have b3 : w4.heap[w.heap.size + 1 + 1 + 1]? = some (.cells #[.int .i64 2, .slice (some ⟨w.heap.size, 0, none⟩) 2 2, .slice (some ⟨w.heap.size + 1 + 1, 0, none⟩) 1 1] 29 (0, 0)) := by
    rw [← hW]; exact blk_new_at (by simp) _
  clear hW
  have hz := blk_lt b3
  have h4 : TrR w4 none (.agg #[.int .i64 2, .slice (some ⟨w.heap.size, 0, none⟩) 2 2, .slice (some ⟨w.heap.size + 1 + 1, 0, none⟩) 1 1]) T5 := by
    refine TrD.mk_ (by constructor <;> omega) (SlD.of_blk b0 ⟨by omega, by simp⟩ rfl (by decide)) (by intro x hx; simp at hx; constructor <;> omega) (SlD.of_blk b2 ⟨by omega, by simp⟩ rfl (by decide)) (by simp) (by simp) ?_
    simp only [TrsD]
    exact ⟨_, _, _, [], rfl, TrD.mk_ (by constructor <;> omega) (SlD.of_blk b1 ⟨by omega, by simp⟩ rfl (by decide)) (by intro x hx; simp at hx; constructor <;> omega) (SlD.nil _ _ _) (by simp) (by simp) (by simp [TrsD]), rfl⟩
  have R3 := blk_cell b3
  have B3 := Lib.hid b3
  clear b0 b1 b2 b3
  refine (slices_any T5 _ _ h4 T5_valid).mono ?_
  rintro e w5 ⟨v5, rfl, D5, F5⟩
  rw [HS.out] at D5
  have h5 := h4.fr F5
  have R5 := blk_cell (blk_fr B3.out F5 (by simp))
  clear R3
  go_wp2_with fail
  refine (blocking_any T5 _ _ h5 T5_valid).mono ?_
  rintro e w6 ⟨v6, rfl, D6, F6⟩
  rw [HB.out] at D6
  have FA := (Fr.refl none w6).alloc (.cells #[.int .i64 3, .int .i64 5, .int .i64 6, .int .i64 9, .int .i64 10] 3)
  have i5 : SlI (w6.alloc (.cells #[.int .i64 3, .int .i64 5, .int .i64 6, .int .i64 9, .int .i64 10] 3)) none v5 [3, 5, 6, 9, 10] := ⟨((D5.keep (dn_dm (by simp))).keep (fr_dm F6)).keep (fr_dm FA), by intro x hx; simp at hx; constructor <;> omega⟩
  have j5 : SlI (w6.alloc (.cells #[.int .i64 3, .int .i64 5, .int .i64 6, .int .i64 9, .int .i64 10] 3)) none (.slice (some ⟨w6.heap.size, 0, none⟩) 5 5) [3, 5, 6, 9, 10] :=
    ⟨SlD.lit_dm #[.int .i64 3, .int .i64 5, .int .i64 6, .int .i64 9, .int .i64 10] 3 5 1 rfl (by decide) (by simp) (Fr.refl _ _), by intro x hx; simp at hx; constructor <;> omega⟩
  have i6 : SlI w6 none v6 [3, 13, 14] := ⟨D6.keep (dn_dm (by simp)), by intro x hx; simp at hx; constructor <;> omega⟩
  clear R5
  go_wp2_with fail
  refine (ints_any _ _ _ _ _ i5 j5).mono ?_
  rintro e w7 ⟨rfl, F7⟩
  have F67 := FA.pure F7
  have FB := (Fr.refl none w7).alloc (.cells #[.int .i64 3, .int .i64 13, .int .i64 14] 3)
  have i7 := (i6.fr F67).fr FB
  have j7 : SlI (w7.alloc (.cells #[.int .i64 3, .int .i64 13, .int .i64 14] 3)) none (.slice (some ⟨w7.heap.size, 0, none⟩) 3 3) [3, 13, 14] :=
    ⟨SlD.lit_dm #[.int .i64 3, .int .i64 13, .int .i64 14] 3 3 1 rfl (by decide) (by simp) (Fr.refl _ _), by intro x hx; simp at hx; constructor <;> omega⟩
  rw [show decide (([3, 5, 6, 9, 10] : List Int) = [3, 5, 6, 9, 10]) = true from by decide]
  go_wp2_with fail
  refine (ints_any _ _ _ _ _ i7 j7).mono ?_
  rintro e w8 ⟨rfl, F8⟩
  rw [show decide (([3, 13, 14] : List Int) = [3, 13, 14]) = true from by decide]
  go_wp2_with fail
  go_ret
  exact ⟨rfl, (((F4.pure F5).pure F6).pure F67).pure (FB.pure F8)⟩
end Go.Proofs.YtpdhckbiioobhaaGreat

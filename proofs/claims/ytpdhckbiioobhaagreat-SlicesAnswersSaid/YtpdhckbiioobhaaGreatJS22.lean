/- Some texts of this claim, joined: contracts of the functions that it reaches, and plain laws. -/
import Derived.Test.YtpdhckbiioobhaaGreatProg
import Derived.Test.YtpdhckbiioobhaaGreatJS16
import Derived.Test.YtpdhckbiioobhaaGreatJS21
import Derived.Test.YtpdhckbiioobhaaGreatJS5
import Derived.Test.YtpdhckbiioobhaaGreatJS20
import Derived.Test.YtpdhckbiioobhaaGreatJS13

set_option linter.unusedSimpArgs false
set_option linter.unusedVariables false
/- Walks: the reference's Slices, Blocking. -/
namespace Go.Proofs.YtpdhckbiioobhaaGreat
open Go.RowKit

def fltR (p : Nat → Bool) (j : Nat) : List Int := ((List.range j).filter p).map Int.ofNat
theorem fltR_hit (p : Nat → Bool) (j : Nat) (h : p j = true) : fltR p (j + 1) = fltR p j ++ [(j : Int)] := by
  unfold fltR
  rw [List.range_succ, List.filter_append]
  simp [h]
theorem fltR_miss (p : Nat → Bool) (j : Nat) (h : p j = false) : fltR p (j + 1) = fltR p j := by
  unfold fltR
  rw [List.range_succ, List.filter_append]
  simp [h]
theorem fltR_len (p : Nat → Bool) (j : Nat) : (fltR p j).length ≤ j := by
  unfold fltR
  rw [List.length_map]
  exact Nat.le_trans (List.length_filter_le _ _) (by simp)
theorem ord_map (q : Int → Bool) : (ordN.filter fun s : Nat => q (s : Int)).map Int.ofNat = ordI.filter q := by
  unfold ordI
  rw [List.filter_map]
  rfl
theorem r5_false (t : Tr) : leastS (fltR (fun a => sat (a : Int) t && remB (pB t false) a) 1024) = slcS ordI t := by
  have := least_rem (sat_Mono t)
  rw [ord_map (fun s => sat s t)] at this
  exact this
theorem r5_true (t : Tr) : leastS (fltR (fun a => blkB (a : Int) t && remB (pB t true) a) 1024) = blcS ordI t := by
  have := least_rem (blk_Mono t)
  rw [ord_map (fun s => blkB s t)] at this
  exact this
def R5E (e0 : Int) (l : List Int) (w : World) (e : Ending) (w' : World) : Prop := ∃ v', e = .returned (.tuple #[v', .int .i64 e0]) ∧ SlD w' (Dn w.heap.size w') 1 v' ((if e0 = 0 then l else []).map (Value.int .i64)) ∧ Fr none w w'
set_option maxRecDepth 100000 in
set_option maxHeartbeats 4000000 in
theorem r5slices_any (t : Tr) (v : Value) (w : World) (h : TrR w none v t) (hsz : t.size ≤ 1073741000) : Calls Tryz.prog 18 #[v] w (R5E (validE t) (slcS ordI t) w) := by
  obtain ⟨th, A1, n1, c1, A2, n2, c2, rfl⟩ := TrD.shape h
  go_enter Tryz.func18, Tryz.ntmps18
  go_wp2_with fail
  generalize hW : w.alloc _ = w1
  have F1 : Fr none w w1 := hW ▸ (Fr.refl none w).alloc _
  have b1 : TB w1 w.heap.size (.int .i64 th) (.slice A1 n1 c1) (.slice A2 n2 c2) := by rw [← hW]; exact blk_new _ _
  have h1 := h.fr F1
  clear hW h
  refine (rvalidT_any t _ _ none hsz h1).mono ?_
  rintro e w2 ⟨rfl, F2⟩
  have b2 := b1.fr F2 (by simp)
  have h2 := h1.fr F2
  have F02 := F1.pure F2
  clear b1 h1 F1 F2
  by_cases hv : validE t = 0
  · have hv0 : (validE t != 0) = false := by rw [bne_eq_false_iff_eq]; exact hv
    have HV := Lib.hid hv
    clear hv
    go_wp2_with fail
    obtain ⟨wo, hwo⟩ : ∃ wo : World, wo = w2 := ⟨_, rfl⟩
    go_loopw [5, 6] (fun s5 s6 wr => ∃ (j : Nat) (L : List Int) (A : Option Addr) (c : Nat), j ≤ 1024 ∧ s6 = .int .i64 (j : Int) ∧ s5 = .slice A L.length c ∧ Hid (L = fltR (fun a => sat (a : Int) t && remB (pB t false) a) j) ∧ L.length ≤ 1024 ∧ Fr none w2 wr ∧ wr.ownsRow w2.heap.size 3 1 (.slice A L.length c) L.length (L.map (Value.int .i64))) (fun _ s6 _ => 1024 - (intOf s6).toNat)
    case atStart => exact ⟨0, [], none, 0, by omega, rfl, rfl, rfl, by simp, by rw [← hwo]; exact Fr.refl _ _, World.ownsRow_nil _ _ _ _⟩
    case round =>
      obtain ⟨j, L, A, c, hj, rfl, rfl, HL, hlen, F, own⟩ := hrel
      have bx := b2.fr F (by simp)
      have hx := h2.fr F
      have R := bx.cell
      have hl := blk_lt bx
      have hz := F.size
      have hll : L.length ≤ j := by rw [HL.out]; exact fltR_len _ _
      by_cases hlt : j < 1024
      · obtain ⟨X, hX⟩ : ∃ X : Bool, X = sat (j : Int) t := ⟨_, rfl⟩
        have HX := Lib.hid hX
        clear hX
        cases X with
        | false =>
          go_wp2_with (go_at_call 46; refine (rsat_any t.dep t (j : Int) _ _ none (Nat.le_refl _) hx).mono ?_; rintro e w3 ⟨rfl, F3⟩; rw [show sat (j : Int) t = false from HX.out.symm])
          go_roundw
          case rel => exact ⟨j + 1, L, A, c, by omega, by go_num, rfl, by unfold Hid; rw [fltR_miss _ j (by rw [show sat (j : Int) t = false from HX.out.symm]; rfl)]; exact HL.out, hlen, F.pure F3, own_fr own F3 (by simp)⟩
          case measure => simp [intOf]; omega
        | true =>
          obtain ⟨Y, hY⟩ : ∃ Y : Bool, Y = remB (pB t false) j := ⟨_, rfl⟩
          have HY := Lib.hid hY
          clear hY
          cases Y with
          | false =>
            go_wp2_with (first | (go_at_call 46; refine (rsat_any t.dep t (j : Int) _ _ none (Nat.le_refl _) hx).mono ?_; rintro e w3 ⟨rfl, F3⟩; rw [show sat (j : Int) t = true from HX.out.symm]; have R3 := (bx.fr F3 (by simp)).cell; have l3 := blk_lt (bx.fr F3 (by simp)); have hx3 := hx.fr F3) | (go_at_call 47; refine (r5least_any t j (by omega) false _ _ hx3).mono ?_; rintro e w4 ⟨rfl, F4⟩; rw [← HY.out]))
            go_roundw
            case rel => exact ⟨j + 1, L, A, c, by omega, by go_num, rfl, by unfold Hid; rw [fltR_miss _ j (by rw [← HY.out]; simp)]; exact HL.out, hlen, (F.pure F3).pure F4, own_fr (own_fr own F3 (by simp)) F4 (by simp)⟩
            case measure => simp [intOf]; omega
          | true =>
            go_wp2_with (first | (go_at_call 46; refine (rsat_any t.dep t (j : Int) _ _ none (Nat.le_refl _) hx).mono ?_; rintro e w3 ⟨rfl, F3⟩; rw [show sat (j : Int) t = true from HX.out.symm]; have R3 := (bx.fr F3 (by simp)).cell; have l3 := blk_lt (bx.fr F3 (by simp)); have hx3 := hx.fr F3) | (go_at_call 47; refine (r5least_any t j (by omega) false _ _ hx3).mono ?_; rintro e w4 ⟨rfl, F4⟩; rw [← HY.out]; have own4 := own_fr (own_fr own F3 (by simp)) F4 (by simp); have hz4 := ((F.pure F3).pure F4).size) | (at_builtin; refine app_lit eiInt rfl _ _ rfl w2.heap.size A L.length c _ rfl own4 1 [.int .i64 (j : Int)] 3 _ rfl (by simp) rfl (by simp [Value.oneCell']) (by omega) (by unfold maxLen; omega) (by omega) ?_; intro A5 c5 w5 own5 F5 nb5))
            go_roundw
            case rel =>
              have hln : (L ++ [(j : Int)]).length = L.length + 1 := by simp
              exact ⟨j + 1, L ++ [(j : Int)], A5, c5, by omega, by go_num, by rw [hln], by unfold Hid; rw [fltR_hit _ j (by rw [show sat (j : Int) t = true from HX.out.symm, ← HY.out]; rfl), ← HL.out], by rw [hln]; omega, ((F.pure F3).pure F4).own F5 (own_blk_ge own4), by rw [hln, List.map_append]; exact own5⟩
            case measure => simp [intOf]; omega
      · obtain rfl : j = 1024 := by omega
        have hI : SlI wr none (.slice A L.length c) L := SlI.of_own own (by simp) (fun x hx => by
          rw [HL.out] at hx
          obtain ⟨a, ha, rfl⟩ := List.mem_map.1 hx
          have := List.mem_range.1 (List.mem_filter.1 ha).1
          constructor <;> simp <;> omega)
        go_wp2_with fail
        refine (rleast_any L _ _ hI (by omega)).mono ?_
        rintro e w3 ⟨v3, rfl, D3, F3⟩
        go_wp2_with fail
        go_ret2
        refine ⟨_, by rw [HV.out] <;> rfl, ?_, (F02.pure F).pure F3⟩
        rw [if_pos HV.out, ← r5_false t, ← show L = _ from HL.out]
        exact D3.keep (dn_mono (by omega))
  · have hv0 : (validE t != 0) = true := by rw [bne_iff_ne]; exact hv
    have HV := Lib.hid hv
    clear hv
    go_wp2_with fail
    go_ret2
    exact ⟨_, rfl, by rw [if_neg HV.out]; exact SlD.nil _ _ _, F02⟩
set_option maxRecDepth 100000 in
set_option maxHeartbeats 4000000 in
theorem r5blocking_any (t : Tr) (v : Value) (w : World) (h : TrR w none v t) (hsz : t.size ≤ 1073741000) : Calls Tryz.prog 20 #[v] w (R5E (validE t) (blcS ordI t) w) := by
  obtain ⟨th, A1, n1, c1, A2, n2, c2, rfl⟩ := TrD.shape h
  go_enter Tryz.func20, Tryz.ntmps20
  go_wp2_with fail
  generalize hW : w.alloc _ = w1
  have F1 : Fr none w w1 := hW ▸ (Fr.refl none w).alloc _
  have b1 : TB w1 w.heap.size (.int .i64 th) (.slice A1 n1 c1) (.slice A2 n2 c2) := by rw [← hW]; exact blk_new _ _
  have h1 := h.fr F1
  clear hW h
  refine (rvalidT_any t _ _ none hsz h1).mono ?_
  rintro e w2 ⟨rfl, F2⟩
  have b2 := b1.fr F2 (by simp)
  have h2 := h1.fr F2
  have F02 := F1.pure F2
  clear b1 h1 F1 F2
  by_cases hv : validE t = 0
  · have hv0 : (validE t != 0) = false := by rw [bne_eq_false_iff_eq]; exact hv
    have HV := Lib.hid hv
    clear hv
    go_wp2_with fail
    obtain ⟨wo, hwo⟩ : ∃ wo : World, wo = w2 := ⟨_, rfl⟩
    go_loopw [5, 6] (fun s5 s6 wr => ∃ (j : Nat) (L : List Int) (A : Option Addr) (c : Nat), j ≤ 1024 ∧ s6 = .int .i64 (j : Int) ∧ s5 = .slice A L.length c ∧ Hid (L = fltR (fun a => blkB (a : Int) t && remB (pB t true) a) j) ∧ L.length ≤ 1024 ∧ Fr none w2 wr ∧ wr.ownsRow w2.heap.size 3 1 (.slice A L.length c) L.length (L.map (Value.int .i64))) (fun _ s6 _ => 1024 - (intOf s6).toNat)
    case atStart => exact ⟨0, [], none, 0, by omega, rfl, rfl, rfl, by simp, by rw [← hwo]; exact Fr.refl _ _, World.ownsRow_nil _ _ _ _⟩
    case round =>
      obtain ⟨j, L, A, c, hj, rfl, rfl, HL, hlen, F, own⟩ := hrel
      have bx := b2.fr F (by simp)
      have hx := h2.fr F
      have R := bx.cell
      have hl := blk_lt bx
      have hz := F.size
      have hll : L.length ≤ j := by rw [HL.out]; exact fltR_len _ _
      by_cases hlt : j < 1024
      · obtain ⟨X, hX⟩ : ∃ X : Bool, X = blkB (j : Int) t := ⟨_, rfl⟩
        have HX := Lib.hid hX
        clear hX
        cases X with
        | false =>
          go_wp2_with (go_at_call 50; refine (rblocked_any t j (by omega) _ _ none hx).mono ?_; rintro e w3 ⟨rfl, F3⟩; rw [show blkB (j : Int) t = false from HX.out.symm])
          go_roundw
          case rel => exact ⟨j + 1, L, A, c, by omega, by go_num, rfl, by unfold Hid; rw [fltR_miss _ j (by rw [show blkB (j : Int) t = false from HX.out.symm]; rfl)]; exact HL.out, hlen, F.pure F3, own_fr own F3 (by simp)⟩
          case measure => simp [intOf]; omega
        | true =>
          obtain ⟨Y, hY⟩ : ∃ Y : Bool, Y = remB (pB t true) j := ⟨_, rfl⟩
          have HY := Lib.hid hY
          clear hY
          cases Y with
          | false =>
            go_wp2_with (first | (go_at_call 50; refine (rblocked_any t j (by omega) _ _ none hx).mono ?_; rintro e w3 ⟨rfl, F3⟩; rw [show blkB (j : Int) t = true from HX.out.symm]; have R3 := (bx.fr F3 (by simp)).cell; have l3 := blk_lt (bx.fr F3 (by simp)); have hx3 := hx.fr F3) | (go_at_call 47; refine (r5least_any t j (by omega) true _ _ hx3).mono ?_; rintro e w4 ⟨rfl, F4⟩; rw [← HY.out]))
            go_roundw
            case rel => exact ⟨j + 1, L, A, c, by omega, by go_num, rfl, by unfold Hid; rw [fltR_miss _ j (by rw [← HY.out]; simp)]; exact HL.out, hlen, (F.pure F3).pure F4, own_fr (own_fr own F3 (by simp)) F4 (by simp)⟩
            case measure => simp [intOf]; omega
          | true =>
            go_wp2_with (first | (go_at_call 50; refine (rblocked_any t j (by omega) _ _ none hx).mono ?_; rintro e w3 ⟨rfl, F3⟩; rw [show blkB (j : Int) t = true from HX.out.symm]; have R3 := (bx.fr F3 (by simp)).cell; have l3 := blk_lt (bx.fr F3 (by simp)); have hx3 := hx.fr F3) | (go_at_call 47; refine (r5least_any t j (by omega) true _ _ hx3).mono ?_; rintro e w4 ⟨rfl, F4⟩; rw [← HY.out]; have own4 := own_fr (own_fr own F3 (by simp)) F4 (by simp); have hz4 := ((F.pure F3).pure F4).size) | (at_builtin; refine app_lit eiInt rfl _ _ rfl w2.heap.size A L.length c _ rfl own4 1 [.int .i64 (j : Int)] 3 _ rfl (by simp) rfl (by simp [Value.oneCell']) (by omega) (by unfold maxLen; omega) (by omega) ?_; intro A5 c5 w5 own5 F5 nb5))
            go_roundw
            case rel =>
              have hln : (L ++ [(j : Int)]).length = L.length + 1 := by simp
              exact ⟨j + 1, L ++ [(j : Int)], A5, c5, by omega, by go_num, by rw [hln], by unfold Hid; rw [fltR_hit _ j (by rw [show blkB (j : Int) t = true from HX.out.symm, ← HY.out]; rfl), ← HL.out], by rw [hln]; omega, ((F.pure F3).pure F4).own F5 (own_blk_ge own4), by rw [hln, List.map_append]; exact own5⟩
            case measure => simp [intOf]; omega
      · obtain rfl : j = 1024 := by omega
        have hI : SlI wr none (.slice A L.length c) L := SlI.of_own own (by simp) (fun x hx => by
          rw [HL.out] at hx
          obtain ⟨a, ha, rfl⟩ := List.mem_map.1 hx
          have := List.mem_range.1 (List.mem_filter.1 ha).1
          constructor <;> simp <;> omega)
        go_wp2_with fail
        refine (rleast_any L _ _ hI (by omega)).mono ?_
        rintro e w3 ⟨v3, rfl, D3, F3⟩
        go_wp2_with fail
        go_ret2
        refine ⟨_, by rw [HV.out] <;> rfl, ?_, (F02.pure F).pure F3⟩
        rw [if_pos HV.out, ← r5_true t, ← show L = _ from HL.out]
        exact D3.keep (dn_mono (by omega))
  · have hv0 : (validE t != 0) = true := by rw [bne_iff_ne]; exact hv
    have HV := Lib.hid hv
    clear hv
    go_wp2_with fail
    go_ret2
    exact ⟨_, rfl, by rw [if_neg HV.out]; exact SlD.nil _ _ _, F02⟩
end Go.Proofs.YtpdhckbiioobhaaGreat

/- Walks: the reference's Normal; slices.valid; what Implies and Equivalent look for. -/
namespace Go.Proofs.YtpdhckbiioobhaaGreat
open Go.RowKit

set_option maxRecDepth 100000 in
set_option maxHeartbeats 2000000 in
theorem rNormal_any (t : Tr) (v : Value) (w : World) (h : TrR w none v t) (hv : validE t = 0) :
    Calls Tryz.prog 33 #[v] w fun e w' => ∃ v', e = .returned (.tuple #[v', .int .i64 0]) ∧ TrR w' none v' (normT t) ∧ Fr none w w' := by
  obtain ⟨th, A1, n1, c1, A2, n2, c2, rfl⟩ := TrD.shape h
  have hc := valid_check hv
  have hok : OkT t := (okT_iff t).1 hc.1
  have hsz : t.size ≤ 900000 := by have := hc.2.1; omega
  have HV := Lib.hid hv
  clear hv hc
  go_enter Tryz.func33, Tryz.ntmps33
  go_wp2_with fail
  generalize hW : (w.alloc _).alloc _ = w1
  have F1 : Fr none w w1 := hW ▸ ((Fr.refl none w).alloc _).alloc _
  have b2 : TB w1 w.heap.size (.int .i64 th) (.slice A1 n1 c1) (.slice A2 n2 c2) := by rw [← hW]; exact (Below.heap_alloc _ _ _ (by simp)).trans (blk_new _ _)
  have b4 : TB w1 (w.heap.size + 1) (.int .i64 0) (.slice none 0 0) (.slice none 0 0) := by rw [← hW]; exact blk_new_at (by simp) _
  clear hW
  refine (rvalidT_any t _ _ none (by omega) (h.fr F1)).mono ?_
  rintro e w2 ⟨rfl, F2⟩
  rw [HV.out]
  have F02 := F1.pure F2
  have R2 := (b2.fr F2 (by simp)).cell
  clear b2
  go_wp2_with fail
  refine (rnorm_any t.dep t _ (Dm w none) _ (Nat.le_refl _) hok hsz (fun b hb => Nat.lt_of_lt_of_le hb.1 F02.size) (TrD.keep (fun b hb => ⟨hb, F02.block b hb.1 (by simp)⟩) _ _ h)).mono ?_
  rintro e w3 ⟨v3, rfl, hT, F3⟩
  have F03 := F02.pure F3
  have b43 := (b4.fr F2 (by simp)).fr F3 (by simp)
  have R4 := b43.cell
  have Z4 := b43.free
  have hl4 := blk_lt b43
  obtain ⟨th3, X1, m1, d1, X2, m2, d2, rfl⟩ := hT.shape
  clear R2
  go_wp2_with fail
  refine bodyPost_ret (v := .tuple #[.agg #[.int .i64 th3, .slice X1 m1 d1, .slice X2 m2 d2], .int .i64 0]) (by simp [results, Tryz.results33, go_sem, R4]) rfl ?_
  have G := fr_fill3 w3 (w.heap.size + 1) (.int .i64 th3) (.slice X1 m1 d1) (.slice X2 m2 d2)
  have hz := G.size
  have hz2 := F02.size
  have hz3 := F3.size
  have hz1 := F2.size
  have hb1 := blk_lt b4
  refine ⟨_, rfl, TrD.keep (fun b hb => ?_) _ _ hT, F03.own G (by simp)⟩
  have h12 := blk_lt (b4.fr F2 (by simp))
  have hb2 : b < w3.heap.size ∧ b ≠ w.heap.size + 1 := by
    rcases hb with hb | hb
    · have := hb.1; omega
    · omega
  exact ⟨⟨by omega, by simp⟩, G.block b hb2.1 (fun e => hb2.2 (by injection e))⟩

theorem svalid_any (t u : Tr) (v v' : Value) (w : World) (h : TrR w none v t) (h' : TrR w none v' u) (hv : validE t = 0) (hv' : validE u = 0) :
    Calls Tryz.prog 40 #[v, v'] w fun e w' => e = .returned (.int .i64 0) ∧ Fr none w w' := by
  obtain ⟨th, A1, n1, c1, A2, n2, c2, rfl⟩ := TrD.shape h
  obtain ⟨th', A1', n1', c1', A2', n2', c2', rfl⟩ := TrD.shape h'
  have hsz : t.size ≤ 900000 := by have := (valid_check hv).2.1; omega
  have hsz' : u.size ≤ 900000 := by have := (valid_check hv').2.1; omega
  have HV := Lib.hid hv
  have HV' := Lib.hid hv'
  clear hv hv'
  go_enter Tryz.func40, Tryz.ntmps40
  go_wp2_with fail
  generalize hW : (w.alloc _).alloc _ = w1
  have F1 : Fr none w w1 := hW ▸ ((Fr.refl none w).alloc _).alloc _
  have b2 : TB w1 w.heap.size (.int .i64 th) (.slice A1 n1 c1) (.slice A2 n2 c2) := by rw [← hW]; exact (Below.heap_alloc _ _ _ (by simp)).trans (blk_new _ _)
  have b4 : TB w1 (w.heap.size + 1) (.int .i64 th') (.slice A1' n1' c1') (.slice A2' n2' c2') := by rw [← hW]; exact blk_new_at (by simp) _
  clear hW
  refine (validT_any t _ _ none (by omega) (h.fr F1)).mono ?_
  rintro e w2 ⟨rfl, F2⟩
  rw [HV.out]
  have F02 := F1.pure F2
  have R4 := (b4.fr F2 (by simp)).cell
  clear b2 b4
  go_wp2_with fail
  refine (validT_any u _ _ none (by omega) (h'.fr F02)).mono ?_
  rintro e w3 ⟨rfl, F3⟩
  rw [HV'.out]
  go_wp2_with fail
  go_ret
  exact ⟨rfl, F02.pure F3⟩

set_option maxRecDepth 100000 in
set_option maxHeartbeats 2000000 in
/-- What Equivalent looks for. -/
theorem eqv1_any (t u : Tr) (s b b' : Nat) (hs : s < 1024) (th : Int) (A1 : Option Addr) (n1 c1 : Nat) (A2 : Option Addr) (n2 c2 : Nat) (th' : Int) (A1' : Option Addr) (n1' c1' : Nat) (A2' : Option Addr) (n2' c2' : Nat) (w : World)
    (hb : TB w b (.int .i64 th) (.slice A1 n1 c1) (.slice A2 n2 c2)) (hb' : TB w b' (.int .i64 th') (.slice A1' n1' c1') (.slice A2' n2' c2')) (h : TrR w none (.agg #[.int .i64 th, .slice A1 n1 c1, .slice A2 n2 c2]) t) (h' : TrR w none (.agg #[.int .i64 th', .slice A1' n1' c1', .slice A2' n2' c2']) u) :
    Calls Tryz.prog 42 #[.int .i64 (s : Int), .pointer (some ⟨b, 0, none⟩), .pointer (some ⟨b', 0, none⟩)] w fun e w' => e = .returned (.bool (sat (s : Int) t != sat (s : Int) u)) ∧ Fr none w w' := by
  have HX : Hid (∀ W, Fr none w W → (∀ k, W.cell? ⟨b, k, none⟩ = (#[.int .i64 th, .slice A1 n1 c1, .slice A2 n2 c2] : Array Value)[k]?) ∧ (∀ k, W.cell? ⟨b', k, none⟩ = (#[.int .i64 th', .slice A1' n1' c1', .slice A2' n2' c2'] : Array Value)[k]?) ∧ Fr none w W) := fun W F => ⟨(hb.fr F (by simp)).cell, (hb'.fr F (by simp)).cell, F⟩
  have H := Lib.hid h
  have H' := Lib.hid h'
  clear hb hb' h h'
  obtain ⟨X, hX⟩ : ∃ X, X = sat (s : Int) t := ⟨_, rfl⟩
  obtain ⟨Y, hY⟩ : ∃ Y, Y = sat (s : Int) u := ⟨_, rfl⟩
  rw [← hX, ← hY]
  have HSX := Lib.hid hX
  have HSY := Lib.hid hY
  clear hX hY
  go_enter Tryz.func42, Tryz.ntmps42
  go_upto_region 1 with (fail)
  refine wp_region_held_drew (S := fun W => (∀ k, W.cell? ⟨b, k, none⟩ = (#[.int .i64 th, .slice A1 n1 c1, .slice A2 n2 c2] : Array Value)[k]?) ∧ (∀ k, W.cell? ⟨b', k, none⟩ = (#[.int .i64 th', .slice A1' n1' c1', .slice A2' n2' c2'] : Array Value)[k]?) ∧ Fr none w W) (by kernel_rfl) (HX.out _ (Fr.refl _ _).drew) (fun hH0 => ?_)
  refine wpAnyH_take (i := 0) (v := ?_) rfl (by kernel_rfl) (by kernel_rfl) (by kernel_rfl) (fun _ _ _ h => h) (Or.inl ⟨by rfl, ?_⟩) (by assumption) ?_
  rotate_left
  · (intro W hW; (try dsimp only at hW); go_simp; try with_reducible rfl)
  try simp only [Act.put, List.setIfInBounds_toArray, List.set_cons_zero, List.set_cons_succ, List.getElem_toArray, List.getElem_cons_zero, List.getElem_cons_succ]
  refine wpAnyH_take (i := 1) (v := ?_) rfl (by kernel_rfl) (by kernel_rfl) (by kernel_rfl) (fun _ _ _ h => h) (Or.inl ⟨by rfl, ?_⟩) (by assumption) ?_
  rotate_left
  · (intro W hW; (try dsimp only at hW); go_simp; try with_reducible rfl)
  try simp only [Act.put, List.setIfInBounds_toArray, List.set_cons_zero, List.set_cons_succ, List.getElem_toArray, List.getElem_cons_zero, List.getElem_cons_succ]
  refine wpAnyH_take (i := 3) (v := ?_) rfl (by kernel_rfl) (by kernel_rfl) (by kernel_rfl) (fun _ _ _ h => h) (Or.inl ⟨by rfl, ?_⟩) (by assumption) ?_
  rotate_left
  · (intro W hW; (try dsimp only at hW); go_simp; try with_reducible rfl)
  try simp only [Act.put, List.setIfInBounds_toArray, List.set_cons_zero, List.set_cons_succ, List.getElem_toArray, List.getElem_cons_zero, List.getElem_cons_succ]
  refine wpAnyH_take (i := 4) (v := ?_) rfl (by kernel_rfl) (by kernel_rfl) (by kernel_rfl) (fun _ _ _ h => h) (Or.inl ⟨by rfl, ?_⟩) (by assumption) ?_
  rotate_left
  · (intro W hW; (try dsimp only at hW); go_simp; try with_reducible rfl)
  try simp only [Act.put, List.setIfInBounds_toArray, List.set_cons_zero, List.set_cons_succ, List.getElem_toArray, List.getElem_cons_zero, List.getElem_cons_succ]
  refine wpAnyH_ready (rs := [2]) (by kernel_rfl) (by simp) ?_
  refine AllReadyH.cons rfl (fun K hK => ?_) AllReadyH.nil
  · simp only [List.getElem_toArray, List.getElem_cons_zero, List.getElem_cons_succ]
    go_simp
    go_at_call 37
    refine (sat_any t.dep t _ _ _ none (Nat.le_refl _) (H.out.fr hH0.2.2)).mono ?_
    rintro e wq ⟨rfl, Fq⟩
    rw [← HSX.out]
    refine hK.out _ _ (HX.out _ (hH0.2.2.pure Fq)) (fun hH1 => ?_)
    clear hK K hH0
    try simp only [Act.put, List.setIfInBounds_toArray, List.set_cons_zero, List.set_cons_succ, List.getElem_toArray, List.getElem_cons_zero, List.getElem_cons_succ]
    refine wpAnyH_ready (rs := [5]) (by kernel_rfl) (by simp) ?_
    refine AllReadyH.cons rfl (fun K hK => ?_) AllReadyH.nil
    simp only [List.getElem_toArray, List.getElem_cons_zero, List.getElem_cons_succ]
    go_simp
    go_at_call 37
    refine (sat_any u.dep u _ _ _ none (Nat.le_refl _) (H'.out.fr hH1.2.2)).mono ?_
    rintro e wq2 ⟨rfl, Fq2⟩
    rw [← HSY.out]
    refine hK.out _ _ (HX.out _ (hH1.2.2.pure Fq2)) (fun hH2 => ?_)
    clear hK K hH1
    try simp only [Act.put, List.setIfInBounds_toArray, List.set_cons_zero, List.set_cons_succ, List.getElem_toArray, List.getElem_cons_zero, List.getElem_cons_succ]
    refine wpAnyH_take (i := 6) (v := ?_) rfl (by kernel_rfl) (by kernel_rfl) (by kernel_rfl) (fun _ _ _ h => h) (Or.inl ⟨by rfl, ?_⟩) (by assumption) ?_
    rotate_left
    · (intro W hW; (try dsimp only at hW); go_simp; try with_reducible rfl)
    try simp only [Act.put, List.setIfInBounds_toArray, List.set_cons_zero, List.set_cons_succ, List.getElem_toArray, List.getElem_cons_zero, List.getElem_cons_succ]
    refine wpAnyH_take (i := 7) (v := ?_) rfl (by kernel_rfl) (by kernel_rfl) (by kernel_rfl) (fun _ _ _ h => h) (Or.inl ⟨by rfl, ?_⟩) (by assumption) ?_
    rotate_left
    · (intro W hW; (try dsimp only at hW); go_simp; try with_reducible rfl)
    try simp only [Act.put, List.setIfInBounds_toArray, List.set_cons_zero, List.set_cons_succ, List.getElem_toArray, List.getElem_cons_zero, List.getElem_cons_succ]
    refine wpAnyH_done (by kernel_rfl) ?_ _
    go_wp2_with fail
    go_ret
    exact ⟨rfl, hH2.2.2⟩

set_option maxRecDepth 100000 in
set_option maxHeartbeats 2000000 in
/-- What Implies looks for. -/
theorem imp1_any (t u : Tr) (s b b' : Nat) (hs : s < 1024) (th : Int) (A1 : Option Addr) (n1 c1 : Nat) (A2 : Option Addr) (n2 c2 : Nat) (th' : Int) (A1' : Option Addr) (n1' c1' : Nat) (A2' : Option Addr) (n2' c2' : Nat) (w : World)
    (hb : TB w b (.int .i64 th) (.slice A1 n1 c1) (.slice A2 n2 c2)) (hb' : TB w b' (.int .i64 th') (.slice A1' n1' c1') (.slice A2' n2' c2')) (h : TrR w none (.agg #[.int .i64 th, .slice A1 n1 c1, .slice A2 n2 c2]) t) (h' : TrR w none (.agg #[.int .i64 th', .slice A1' n1' c1', .slice A2' n2' c2']) u) :
    Calls Tryz.prog 51 #[.int .i64 (s : Int), .pointer (some ⟨b, 0, none⟩), .pointer (some ⟨b', 0, none⟩)] w fun e w' => e = .returned (.bool (sat (s : Int) t && !sat (s : Int) u)) ∧ Fr none w w' := by
  have R := hb.cell
  have H' := Lib.hid h'
  obtain ⟨X, hX⟩ : ∃ X, X = sat (s : Int) t := ⟨_, rfl⟩
  obtain ⟨Y, hY⟩ : ∃ Y, Y = sat (s : Int) u := ⟨_, rfl⟩
  rw [← hX, ← hY]
  have HSX := Lib.hid hX
  have HSY := Lib.hid hY
  clear hX hY h'
  go_enter Tryz.func51, Tryz.ntmps51
  go_wp2_with fail
  refine (sat_any t.dep t _ _ _ none (Nat.le_refl _) h).mono ?_
  rintro e wq ⟨rfl, Fq⟩
  rw [← HSX.out]
  have R' := (hb'.fr Fq (by simp)).cell
  have hq := H'.out.fr Fq
  clear R hb hb' h
  cases X with
  | true =>
    go_wp2_with fail
    refine (sat_any u.dep u _ _ _ none (Nat.le_refl _) hq).mono ?_
    rintro e wq2 ⟨rfl, Fq2⟩
    rw [← HSY.out]
    go_wp2_with fail
    go_ret
    exact ⟨ret_bool (by simp), Fq.pure Fq2⟩
  | false =>
    go_wp2_with fail
    go_ret
    exact ⟨ret_bool (by simp), Fq⟩
end Go.Proofs.YtpdhckbiioobhaaGreat

/- Walks: slices.Equivalent, slices.Implies. -/
namespace Go.Proofs.YtpdhckbiioobhaaGreat
open Go.RowKit

/-- What Equivalent and Implies answer, p being what they look for. -/
def ansV (p : Nat → Bool) : Value := match ordN.find? p with
  | some s => .tuple #[.bool false, .int .i64 (s : Int), .int .i64 0]
  | none => .tuple #[.bool true, .int .i64 0, .int .i64 0]
set_option maxRecDepth 100000 in
set_option maxHeartbeats 2000000 in
theorem eqv_any (t u : Tr) (v v' : Value) (w : World) (h : TrR w none v t) (h' : TrR w none v' u) (hv : validE t = 0) (hv' : validE u = 0) :
    Calls Tryz.prog 12 #[v, v'] w fun e w' => e = .returned (ansV (fun s : Nat => sat (s : Int) t != sat (s : Int) u)) ∧ Fr none w w' := by
  obtain ⟨th, A1, n1, c1, A2, n2, c2, rfl⟩ := TrD.shape h
  obtain ⟨th', A1', n1', c1', A2', n2', c2', rfl⟩ := TrD.shape h'
  have HV := Lib.hid hv
  have HV' := Lib.hid hv'
  clear hv hv'
  obtain ⟨p, hp⟩ : ∃ p : Nat → Bool, p = (fun s : Nat => sat (s : Int) t != sat (s : Int) u) := ⟨_, rfl⟩
  have HP := Lib.hid hp
  rw [← hp]
  clear hp
  go_enter Tryz.func12, Tryz.ntmps12
  go_wp2_with fail
  generalize hW : (w.alloc _).alloc _ = w1
  have F1 : Fr none w w1 := hW ▸ ((Fr.refl none w).alloc _).alloc _
  have b2 : TB w1 w.heap.size (.int .i64 th) (.slice A1 n1 c1) (.slice A2 n2 c2) := by rw [← hW]; exact (Below.heap_alloc _ _ _ (by simp)).trans (blk_new _ _)
  have b4 : TB w1 (w.heap.size + 1) (.int .i64 th') (.slice A1' n1' c1') (.slice A2' n2' c2') := by rw [← hW]; exact blk_new_at (by simp) _
  clear hW
  refine (svalid_any t u _ _ _ (h.fr F1) (h'.fr F1) HV.out HV'.out).mono ?_
  rintro e w2 ⟨rfl, F2⟩
  have F02 := F1.pure F2
  have H2 := Lib.hid (h.fr F02)
  have H2' := Lib.hid (h'.fr F02)
  have B2 := Lib.hid (b2.fr F2 (by simp))
  have B4 := Lib.hid (b4.fr F2 (by simp))
  clear b2 b4 h h'
  go_wp2_with fail
  refine (first_any p 42 w.heap.size (w.heap.size + 1) _ (fun _ _ => by kernel_rfl) (fun s W hs F => by rw [HP.out]; exact eqv1_any t u s w.heap.size (w.heap.size + 1) hs th A1 n1 c1 A2 n2 c2 th' A1' n1' c1' A2' n2' c2' W (B2.out.fr F (by simp)) (B4.out.fr F (by simp)) (H2.out.fr F) (H2'.out.fr F))).mono ?_
  rintro e w3 ⟨rfl, F3⟩
  cases hf : ordN.find? p with
  | none =>
    have HF : Hid (frsN p = .tuple #[.int .i64 0, .bool false]) := by unfold Hid frsN; rw [hf]
    have HA : Hid (ansV p = .tuple #[.bool true, .int .i64 0, .int .i64 0]) := by unfold Hid ansV; rw [hf]
    rw [HF.out]
    clear hf
    go_wp2_with fail
    refine bodyPost_ret (v := .tuple #[.bool true, .int .i64 0, .int .i64 0]) (by simp [results, Tryz.results12, go_sem]) rfl ?_
    exact ⟨by rw [HA.out], F02.pure F3⟩
  | some s =>
    have HF : Hid (frsN p = .tuple #[.int .i64 (s : Int), .bool true]) := by unfold Hid frsN; rw [hf]
    have HA : Hid (ansV p = .tuple #[.bool false, .int .i64 (s : Int), .int .i64 0]) := by unfold Hid ansV; rw [hf]
    rw [HF.out]
    clear hf
    go_wp2_with fail
    refine bodyPost_ret (v := .tuple #[.bool false, .int .i64 (s : Int), .int .i64 0]) (by simp [results, Tryz.results12, go_sem]) rfl ?_
    exact ⟨by rw [HA.out], F02.pure F3⟩
set_option maxRecDepth 100000 in
set_option maxHeartbeats 2000000 in
theorem imp_any (t u : Tr) (v v' : Value) (w : World) (h : TrR w none v t) (h' : TrR w none v' u) (hv : validE t = 0) (hv' : validE u = 0) :
    Calls Tryz.prog 21 #[v, v'] w fun e w' => e = .returned (ansV (fun s : Nat => sat (s : Int) t && !sat (s : Int) u)) ∧ Fr none w w' := by
  obtain ⟨th, A1, n1, c1, A2, n2, c2, rfl⟩ := TrD.shape h
  obtain ⟨th', A1', n1', c1', A2', n2', c2', rfl⟩ := TrD.shape h'
  have HV := Lib.hid hv
  have HV' := Lib.hid hv'
  clear hv hv'
  obtain ⟨p, hp⟩ : ∃ p : Nat → Bool, p = (fun s : Nat => sat (s : Int) t && !sat (s : Int) u) := ⟨_, rfl⟩
  have HP := Lib.hid hp
  rw [← hp]
  clear hp
  go_enter Tryz.func21, Tryz.ntmps21
  go_wp2_with fail
  generalize hW : (w.alloc _).alloc _ = w1
  have F1 : Fr none w w1 := hW ▸ ((Fr.refl none w).alloc _).alloc _
  have b2 : TB w1 w.heap.size (.int .i64 th) (.slice A1 n1 c1) (.slice A2 n2 c2) := by rw [← hW]; exact (Below.heap_alloc _ _ _ (by simp)).trans (blk_new _ _)
  have b4 : TB w1 (w.heap.size + 1) (.int .i64 th') (.slice A1' n1' c1') (.slice A2' n2' c2') := by rw [← hW]; exact blk_new_at (by simp) _
  clear hW
  refine (svalid_any t u _ _ _ (h.fr F1) (h'.fr F1) HV.out HV'.out).mono ?_
  rintro e w2 ⟨rfl, F2⟩
  have F02 := F1.pure F2
  have H2 := Lib.hid (h.fr F02)
  have H2' := Lib.hid (h'.fr F02)
  have B2 := Lib.hid (b2.fr F2 (by simp))
  have B4 := Lib.hid (b4.fr F2 (by simp))
  clear b2 b4 h h'
  go_wp2_with fail
  refine (first_any p 51 w.heap.size (w.heap.size + 1) _ (fun _ _ => by kernel_rfl) (fun s W hs F => by rw [HP.out]; exact imp1_any t u s w.heap.size (w.heap.size + 1) hs th A1 n1 c1 A2 n2 c2 th' A1' n1' c1' A2' n2' c2' W (B2.out.fr F (by simp)) (B4.out.fr F (by simp)) (H2.out.fr F) (H2'.out.fr F))).mono ?_
  rintro e w3 ⟨rfl, F3⟩
  cases hf : ordN.find? p with
  | none =>
    have HF : Hid (frsN p = .tuple #[.int .i64 0, .bool false]) := by unfold Hid frsN; rw [hf]
    have HA : Hid (ansV p = .tuple #[.bool true, .int .i64 0, .int .i64 0]) := by unfold Hid ansV; rw [hf]
    rw [HF.out]
    clear hf
    go_wp2_with fail
    refine bodyPost_ret (v := .tuple #[.bool true, .int .i64 0, .int .i64 0]) (by simp [results, Tryz.results21, go_sem]) rfl ?_
    exact ⟨by rw [HA.out], F02.pure F3⟩
  | some s =>
    have HF : Hid (frsN p = .tuple #[.int .i64 (s : Int), .bool true]) := by unfold Hid frsN; rw [hf]
    have HA : Hid (ansV p = .tuple #[.bool false, .int .i64 (s : Int), .int .i64 0]) := by unfold Hid ansV; rw [hf]
    rw [HF.out]
    clear hf
    go_wp2_with fail
    refine bodyPost_ret (v := .tuple #[.bool false, .int .i64 (s : Int), .int .i64 0]) (by simp [results, Tryz.results21, go_sem]) rfl ?_
    exact ⟨by rw [HA.out], F02.pure F3⟩
end Go.Proofs.YtpdhckbiioobhaaGreat

/- Walks: Blocked; slices.Slices, Blocking of valid trusts. -/
import Derived.Test.YtidnnjgiogklaaaProg
import Derived.Test.YtidnnjgiogklaaaSlcL
import Derived.Test.YtidnnjgiogklaaaSat
import Derived.Test.YtidnnjgiogklaaaParV
import Derived.Test.YtidnnjgiogklaaaValidW
namespace Go.Proofs.Ytidnnjgiogklaaa
open Go.RowKit

theorem blocked_any (t : Tr) (s : Nat) (hs : s ≤ 1023) (v : Value) (w : World) (r : Option Nat) (h : TrR w r v t) :
    Calls Try.prog 29 #[v, .int .i64 (s : Int)] w fun e w' => e = .returned (.bool (blkB s t)) ∧ Fr none w w' := by
  obtain ⟨th, A1, n1, c1, A2, n2, c2, rfl⟩ := TrD.shape h
  have hv : validB (s : Int) = true := nat_validB hs
  have HB : Hid (blkB s t = !sat (1023 - (s : Int)) t) := by unfold Hid blkB; rw [hv]; rfl
  have HV := Lib.hid hv
  have h1 := h.fr ((Fr.refl r w).alloc (.cells #[.int .i64 th, .slice A1 n1 c1, .slice A2 n2 c2] 27))
  obtain ⟨X, hX⟩ : ∃ X, X = sat (1023 - (s : Int)) t := ⟨_, rfl⟩
  have HX := Lib.hid hX
  clear hv hX
  go_enter Try.func29, Try.ntmps29
  go_wp2_with (first | (go_at_call 46; refine (valid_any _ _).mono ?_; rintro e w' ⟨rfl, rfl⟩; rw [HV.out]) | (go_at_call 25; refine (sat_any t.dep t _ _ _ r (Nat.le_refl _) h1).mono ?_; rintro e w2 ⟨rfl, F2⟩; rw [← HX.out]))
  go_ret
  exact ⟨ret_bool (by rw [HB.out, ← HX.out]), ((Fr.refl _ _).alloc _).pure F2⟩

theorem rblocked_any (t : Tr) (s : Nat) (hs : s ≤ 1023) (v : Value) (w : World) (r : Option Nat) (h : TrR w r v t) :
    Calls Try.prog 12 #[v, .int .i64 (s : Int)] w fun e w' => e = .returned (.bool (blkB s t)) ∧ Fr none w w' := by
  obtain ⟨th, A1, n1, c1, A2, n2, c2, rfl⟩ := TrD.shape h
  have hv : validB (s : Int) = true := nat_validB hs
  have HB : Hid (blkB s t = !sat (1023 - (s : Int)) t) := by unfold Hid blkB; rw [hv]; rfl
  have HV := Lib.hid hv
  have h1 := h.fr ((Fr.refl r w).alloc (.cells #[.int .i64 th, .slice A1 n1 c1, .slice A2 n2 c2] 27))
  obtain ⟨X, hX⟩ : ∃ X, X = sat (1023 - (s : Int)) t := ⟨_, rfl⟩
  have HX := Lib.hid hX
  clear hv hX
  go_enter Try.func12, Try.ntmps12
  go_wp2_with (first | (go_at_call 26; refine (rvalid_any _ _).mono ?_; rintro e w' ⟨rfl, rfl⟩; rw [HV.out]) | (go_at_call 11; refine (rsat_any t.dep t _ _ _ r (Nat.le_refl _) h1).mono ?_; rintro e w2 ⟨rfl, F2⟩; rw [← HX.out]))
  go_ret
  exact ⟨ret_bool (by rw [HB.out, ← HX.out]), ((Fr.refl _ _).alloc _).pure F2⟩

theorem slices1_any (t : Tr) (s b : Nat) (hs : s < 1024) (th : Int) (A1 : Option Addr) (n1 c1 : Nat) (A2 : Option Addr) (n2 c2 : Nat) (w : World) (hb : w.heap[b]? = some (.cells #[.int .i64 th, .slice A1 n1 c1, .slice A2 n2 c2] 27 (0, 0))) (h : TrR w none (.agg #[.int .i64 th, .slice A1 n1 c1, .slice A2 n2 c2]) t) :
    Calls Try.prog 24 #[.int .i64 (s : Int), .pointer (some ⟨b, 0, none⟩)] w fun e w' => e = .returned (.bool (sat (s : Int) t)) ∧ Fr none w w' := by
  have R := blk_cell hb
  have HB := Lib.hid hb
  clear hb
  go_enter Try.func24, Try.ntmps24
  go_wp2_with fail
  refine (sat_any t.dep t _ _ _ none (Nat.le_refl _) h).mono ?_
  rintro e w2 ⟨rfl, F2⟩
  go_wp2_with fail
  go_ret
  exact ⟨rfl, F2⟩

theorem blocking1_any (t : Tr) (s b : Nat) (hs : s < 1024) (th : Int) (A1 : Option Addr) (n1 c1 : Nat) (A2 : Option Addr) (n2 c2 : Nat) (w : World) (hb : w.heap[b]? = some (.cells #[.int .i64 th, .slice A1 n1 c1, .slice A2 n2 c2] 27 (0, 0))) (h : TrR w none (.agg #[.int .i64 th, .slice A1 n1 c1, .slice A2 n2 c2]) t) :
    Calls Try.prog 28 #[.int .i64 (s : Int), .pointer (some ⟨b, 0, none⟩)] w fun e w' => e = .returned (.bool (blkB (s : Int) t)) ∧ Fr none w w' := by
  have R := blk_cell hb
  have HB := Lib.hid hb
  clear hb
  go_enter Try.func28, Try.ntmps28
  go_wp2_with fail
  refine (blocked_any t s (by omega) _ _ none h).mono ?_
  rintro e w2 ⟨rfl, F2⟩
  go_wp2_with fail
  go_ret
  exact ⟨rfl, F2⟩

/-- What Slices and Blocking leave. -/
def SlcE (l : List Int) (w : World) (e : Ending) (w' : World) : Prop := ∃ v, e = .returned (.tuple #[v, .int .i64 0]) ∧ SlD w' (Dn w.heap.size w') 1 v (l.map (Value.int .i64)) ∧ Fr none w w'
set_option maxRecDepth 100000 in
theorem slices_any (t : Tr) (v : Value) (w : World) (h : TrR w none v t) (hv : validE t = 0) : Calls Try.prog 9 #[v] w (SlcE (slcS ordI t) w) := by
  obtain ⟨th, A1, n1, c1, A2, n2, c2, rfl⟩ := TrD.shape h
  have F1 := (Fr.refl none w).alloc (.cells #[.int .i64 th, .slice A1 n1 c1, .slice A2 n2 c2] 27)
  have h1 := h.fr F1
  have hsz : t.size ≤ 1073741000 := by have := (valid_check hv).2.1; omega
  have HV := Lib.hid hv
  have hz : (ordN.filter fun s : Nat => sat (s : Int) t).map Int.ofNat = ordI.filter (fun s => sat s t) := by
    unfold ordI
    rw [List.filter_map]
    rfl
  have HZ := Lib.hid hz
  clear hv hz h
  go_enter Try.func9, Try.ntmps9
  go_wp2_with fail
  generalize hW : w.alloc _ = w1 at *
  have B1 : w1.heap[w.heap.size]? = some (.cells #[.int .i64 th, .slice A1 n1 c1, .slice A2 n2 c2] 27 (0, 0)) := by rw [← hW]; exact blk_new _ _
  clear hW
  refine (validT_any t _ _ none hsz h1).mono ?_
  rintro e w2 ⟨rfl, F2⟩
  rw [HV.out]
  have B2 := Lib.hid (blk_fr B1 F2 (by simp))
  have h2 := h1.fr F2
  clear B1
  go_wp2_with fail
  refine (sleast_any (fun s : Nat => sat (s : Int) t) 24 w.heap.size _ (fun _ _ => by kernel_rfl) (fun s W hs F => slices1_any t s w.heap.size hs th A1 n1 c1 A2 n2 c2 W (blk_fr B2.out F (by simp)) (h2.fr F))).mono ?_
  rintro e w3 ⟨v', rfl, hD, F3⟩
  have hz1 := F1.size
  have hz2 := F2.size
  go_wp2_with fail
  go_ret2
  refine ⟨v', rfl, ?_, (F1.pure F2).pure F3⟩
  unfold slcS
  rw [← HZ.out]
  exact hD.keep (dn_mono (by omega))

set_option maxRecDepth 100000 in
theorem blocking_any (t : Tr) (v : Value) (w : World) (h : TrR w none v t) (hv : validE t = 0) : Calls Try.prog 14 #[v] w (SlcE (blcS ordI t) w) := by
  obtain ⟨th, A1, n1, c1, A2, n2, c2, rfl⟩ := TrD.shape h
  have F1 := (Fr.refl none w).alloc (.cells #[.int .i64 th, .slice A1 n1 c1, .slice A2 n2 c2] 27)
  have h1 := h.fr F1
  have hsz : t.size ≤ 1073741000 := by have := (valid_check hv).2.1; omega
  have HV := Lib.hid hv
  have hz : (ordN.filter fun s : Nat => blkB (s : Int) t).map Int.ofNat = ordI.filter (fun s => blkB s t) := by
    unfold ordI
    rw [List.filter_map]
    rfl
  have HZ := Lib.hid hz
  clear hv hz h
  go_enter Try.func14, Try.ntmps14
  go_wp2_with fail
  generalize hW : w.alloc _ = w1 at *
  have B1 : w1.heap[w.heap.size]? = some (.cells #[.int .i64 th, .slice A1 n1 c1, .slice A2 n2 c2] 27 (0, 0)) := by rw [← hW]; exact blk_new _ _
  clear hW
  refine (validT_any t _ _ none hsz h1).mono ?_
  rintro e w2 ⟨rfl, F2⟩
  rw [HV.out]
  have B2 := Lib.hid (blk_fr B1 F2 (by simp))
  have h2 := h1.fr F2
  clear B1
  go_wp2_with fail
  refine (sleast_any (fun s : Nat => blkB (s : Int) t) 28 w.heap.size _ (fun _ _ => by kernel_rfl) (fun s W hs F => blocking1_any t s w.heap.size hs th A1 n1 c1 A2 n2 c2 W (blk_fr B2.out F (by simp)) (h2.fr F))).mono ?_
  rintro e w3 ⟨v', rfl, hD, F3⟩
  have hz1 := F1.size
  have hz2 := F2.size
  go_wp2_with fail
  go_ret2
  refine ⟨v', rfl, ?_, (F1.pure F2).pure F3⟩
  unfold blcS
  rw [← HZ.out]
  exact hD.keep (dn_mono (by omega))

end Go.Proofs.Ytidnnjgiogklaaa

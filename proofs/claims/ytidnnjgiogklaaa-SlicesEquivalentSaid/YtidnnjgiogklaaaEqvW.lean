/- Walks: slices.Equivalent, slices.Implies. -/
import Derived.Test.YtidnnjgiogklaaaFstW
import Derived.Test.YtidnnjgiogklaaaNmlW
namespace Go.Proofs.Ytidnnjgiogklaaa
open Go.RowKit

/-- What Equivalent and Implies answer, p being what they look for. -/
def ansV (p : Nat → Bool) : Value := match ordN.find? p with
  | some s => .tuple #[.bool false, .int .i64 (s : Int), .int .i64 0]
  | none => .tuple #[.bool true, .int .i64 0, .int .i64 0]
set_option maxRecDepth 100000 in
set_option maxHeartbeats 2000000 in
theorem eqv_any (t u : Tr) (v v' : Value) (w : World) (h : TrR w none v t) (h' : TrR w none v' u) (hv : validE t = 0) (hv' : validE u = 0) :
    Calls Try.prog 18 #[v, v'] w fun e w' => e = .returned (ansV (fun s : Nat => sat (s : Int) t != sat (s : Int) u)) ∧ Fr none w w' := by
  obtain ⟨th, A1, n1, c1, A2, n2, c2, rfl⟩ := TrD.shape h
  obtain ⟨th', A1', n1', c1', A2', n2', c2', rfl⟩ := TrD.shape h'
  have HV := Lib.hid hv
  have HV' := Lib.hid hv'
  clear hv hv'
  obtain ⟨p, hp⟩ : ∃ p : Nat → Bool, p = (fun s : Nat => sat (s : Int) t != sat (s : Int) u) := ⟨_, rfl⟩
  have HP := Lib.hid hp
  rw [← hp]
  clear hp
  go_enter Try.func18, Try.ntmps18
  go_wp2_with fail
  generalize hW : (w.alloc _).alloc _ = w1
  have F1 : Fr none w w1 := hW ▸ ((Fr.refl none w).alloc _).alloc _
  have b2 : TB w1 w.heap.size (.int .i64 th) (.slice A1 n1 c1) (.slice A2 n2 c2) := by rw [← hW]; exact (Below.heap_alloc _ _ _ (by simp)).trans (blk_new _ _)
  have b4 : TB w1 (w.heap.size + 1) (.int .i64 th') (.slice A1' n1' c1') (.slice A2' n2' c2') := by rw [← hW]; exact blk_new_at (by simp) _
  clear hW
  refine (svalid_any t u _ _ _ (h.fr F1) (h'.fr F1) HV.out HV'.out).mono ?_
  rintro e w2 ⟨rfl, F2⟩
  have F02 := F1.pure F2
  have H2 := Lib.hid (h.fr F02)
  have H2' := Lib.hid (h'.fr F02)
  have B2 := Lib.hid (b2.fr F2 (by simp))
  have B4 := Lib.hid (b4.fr F2 (by simp))
  clear b2 b4 h h'
  go_wp2_with fail
  refine (first_any p 34 w.heap.size (w.heap.size + 1) _ (fun _ _ => by kernel_rfl) (fun s W hs F => by rw [HP.out]; exact eqv1_any t u s w.heap.size (w.heap.size + 1) hs th A1 n1 c1 A2 n2 c2 th' A1' n1' c1' A2' n2' c2' W (B2.out.fr F (by simp)) (B4.out.fr F (by simp)) (H2.out.fr F) (H2'.out.fr F))).mono ?_
  rintro e w3 ⟨rfl, F3⟩
  cases hf : ordN.find? p with
  | none =>
    have HF : Hid (frsN p = .tuple #[.int .i64 0, .bool false]) := by unfold Hid frsN; rw [hf]
    have HA : Hid (ansV p = .tuple #[.bool true, .int .i64 0, .int .i64 0]) := by unfold Hid ansV; rw [hf]
    rw [HF.out]
    clear hf
    go_wp2_with fail
    refine bodyPost_ret (v := .tuple #[.bool true, .int .i64 0, .int .i64 0]) (by simp [results, Try.results18, go_sem]) rfl ?_
    exact ⟨by rw [HA.out], F02.pure F3⟩
  | some s =>
    have HF : Hid (frsN p = .tuple #[.int .i64 (s : Int), .bool true]) := by unfold Hid frsN; rw [hf]
    have HA : Hid (ansV p = .tuple #[.bool false, .int .i64 (s : Int), .int .i64 0]) := by unfold Hid ansV; rw [hf]
    rw [HF.out]
    clear hf
    go_wp2_with fail
    refine bodyPost_ret (v := .tuple #[.bool false, .int .i64 (s : Int), .int .i64 0]) (by simp [results, Try.results18, go_sem]) rfl ?_
    exact ⟨by rw [HA.out], F02.pure F3⟩
set_option maxRecDepth 100000 in
set_option maxHeartbeats 2000000 in
theorem imp_any (t u : Tr) (v v' : Value) (w : World) (h : TrR w none v t) (h' : TrR w none v' u) (hv : validE t = 0) (hv' : validE u = 0) :
    Calls Try.prog 19 #[v, v'] w fun e w' => e = .returned (ansV (fun s : Nat => sat (s : Int) t && !sat (s : Int) u)) ∧ Fr none w w' := by
  obtain ⟨th, A1, n1, c1, A2, n2, c2, rfl⟩ := TrD.shape h
  obtain ⟨th', A1', n1', c1', A2', n2', c2', rfl⟩ := TrD.shape h'
  have HV := Lib.hid hv
  have HV' := Lib.hid hv'
  clear hv hv'
  obtain ⟨p, hp⟩ : ∃ p : Nat → Bool, p = (fun s : Nat => sat (s : Int) t && !sat (s : Int) u) := ⟨_, rfl⟩
  have HP := Lib.hid hp
  rw [← hp]
  clear hp
  go_enter Try.func19, Try.ntmps19
  go_wp2_with fail
  generalize hW : (w.alloc _).alloc _ = w1
  have F1 : Fr none w w1 := hW ▸ ((Fr.refl none w).alloc _).alloc _
  have b2 : TB w1 w.heap.size (.int .i64 th) (.slice A1 n1 c1) (.slice A2 n2 c2) := by rw [← hW]; exact (Below.heap_alloc _ _ _ (by simp)).trans (blk_new _ _)
  have b4 : TB w1 (w.heap.size + 1) (.int .i64 th') (.slice A1' n1' c1') (.slice A2' n2' c2') := by rw [← hW]; exact blk_new_at (by simp) _
  clear hW
  refine (svalid_any t u _ _ _ (h.fr F1) (h'.fr F1) HV.out HV'.out).mono ?_
  rintro e w2 ⟨rfl, F2⟩
  have F02 := F1.pure F2
  have H2 := Lib.hid (h.fr F02)
  have H2' := Lib.hid (h'.fr F02)
  have B2 := Lib.hid (b2.fr F2 (by simp))
  have B4 := Lib.hid (b4.fr F2 (by simp))
  clear b2 b4 h h'
  go_wp2_with fail
  refine (first_any p 35 w.heap.size (w.heap.size + 1) _ (fun _ _ => by kernel_rfl) (fun s W hs F => by rw [HP.out]; exact imp1_any t u s w.heap.size (w.heap.size + 1) hs th A1 n1 c1 A2 n2 c2 th' A1' n1' c1' A2' n2' c2' W (B2.out.fr F (by simp)) (B4.out.fr F (by simp)) (H2.out.fr F) (H2'.out.fr F))).mono ?_
  rintro e w3 ⟨rfl, F3⟩
  cases hf : ordN.find? p with
  | none =>
    have HF : Hid (frsN p = .tuple #[.int .i64 0, .bool false]) := by unfold Hid frsN; rw [hf]
    have HA : Hid (ansV p = .tuple #[.bool true, .int .i64 0, .int .i64 0]) := by unfold Hid ansV; rw [hf]
    rw [HF.out]
    clear hf
    go_wp2_with fail
    refine bodyPost_ret (v := .tuple #[.bool true, .int .i64 0, .int .i64 0]) (by simp [results, Try.results19, go_sem]) rfl ?_
    exact ⟨by rw [HA.out], F02.pure F3⟩
  | some s =>
    have HF : Hid (frsN p = .tuple #[.int .i64 (s : Int), .bool true]) := by unfold Hid frsN; rw [hf]
    have HA : Hid (ansV p = .tuple #[.bool false, .int .i64 (s : Int), .int .i64 0]) := by unfold Hid ansV; rw [hf]
    rw [HF.out]
    clear hf
    go_wp2_with fail
    refine bodyPost_ret (v := .tuple #[.bool false, .int .i64 (s : Int), .int .i64 0]) (by simp [results, Try.results19, go_sem]) rfl ?_
    exact ⟨by rw [HA.out], F02.pure F3⟩
end Go.Proofs.Ytidnnjgiogklaaa

/- DeclarationProves, plain: signed declarations as evidence. -/
import Derived.Test.YtidnnjgiogklaaaDoorProvW
import Derived.Test.YtidnnjgiogklaaaDoorParV
import Derived.Test.YtidnnjgiogklaaaDoorOrdP
namespace Go.Proofs.YtidnnjgiogklaaaDoor
open Go.RowKit

/-- A signed declaration. -/
def sgn (ks : List Nat) (k : Nat) (sq : Int) (t : Tr) : De := ⟨k, sq, t, tagS (ks.getD k 0) (bytesS ⟨k, sq, t, 0⟩)⟩
theorem chk_z {ks : List Nat} {k : Nat} (hk : k < ks.length) (sq : Int) (t : Tr) (y z : Nat) (hy : ks.getD (k : Int).toNat 0 = y) (hz : z = tagS y (bytesS ⟨k, sq, t, 0⟩)) : chkE ks ⟨k, sq, t, z⟩ = 0 := by
  have e := bytes_tag (k : Int) sq t z 0
  unfold chkE
  rw [if_neg (show ¬ (ks.length : Int) ≤ (k : Int) by omega), e, hy, if_pos hz]
theorem chk_sgn {ks : List Nat} {k : Nat} (hk : k < ks.length) (sq : Int) (t : Tr) : chkE ks (sgn ks k sq t) = 0 := by
  unfold sgn
  exact chk_z hk sq t (ks.getD k 0) _ (congrArg (fun i => ks.getD i 0) (Int.toNat_natCast k)) (Eq.refl _)
theorem sgn_bytes (ks : List Nat) (k : Nat) (sq : Int) (t : Tr) : bytesS (sgn ks k sq t) = bytesS ⟨k, sq, t, 0⟩ := rfl
theorem prov_sgn {ks : List Nat} {k : Nat} (hk : k < ks.length) (sq : Int) (t u : Tr) : provE ks (sgn ks k sq t) (sgn ks k sq u) = if Op.bytesLess (bytesS ⟨k, sq, t, 0⟩) (bytesS ⟨k, sq, u, 0⟩) = true then 0 else 7 := by
  unfold provE
  rw [chk_sgn hk, chk_sgn hk, if_neg (by simp), if_neg (by simp), if_neg (by simp [sgn]), sgn_bytes, sgn_bytes]
theorem prov_other {ks : List Nat} {k : Nat} (hk : k < ks.length) {sq sq' : Int} (h : sq ≠ sq') (t u : Tr) : provE ks (sgn ks k sq t) (sgn ks k sq' u) = 1 := by
  unfold provE
  rw [chk_sgn hk, chk_sgn hk, if_neg (by simp), if_neg (by simp), if_pos (.inr h)]
theorem bytes_same {k : Nat} {sq : Int} {t u : Tr} (ht : plainE ⟨k, sq, t, 0⟩ = 0) (hu : plainE ⟨k, sq, u, 0⟩ = 0) : bytesS ⟨k, sq, t, 0⟩ = bytesS ⟨k, sq, u, 0⟩ ↔ sameT t u = true := by
  have h1 := (plain_parts ht).2.2.1
  have h2 := (plain_parts hu).2.2.1
  rw [← text_same h1 h2, decide_eq_true_eq]
  unfold bytesS
  rw [if_pos ht, if_pos hu]
  constructor
  · intro h
    exact List.append_cancel_left h
  · intro h
    simp only at h ⊢
    rw [h]
/-- The two orders of evidence. -/
theorem less_same {k : Nat} {sq : Int} {t u : Tr} (ht : plainE ⟨k, sq, t, 0⟩ = 0) (hu : plainE ⟨k, sq, u, 0⟩ = 0) (h : sameT t u = true) : Op.bytesLess (bytesS ⟨k, sq, t, 0⟩) (bytesS ⟨k, sq, u, 0⟩) = false ∧ Op.bytesLess (bytesS ⟨k, sq, u, 0⟩) (bytesS ⟨k, sq, t, 0⟩) = false := by
  rw [(bytes_same ht hu).2 h]
  exact ⟨bl_irrefl _, bl_irrefl _⟩
theorem less_other {k : Nat} {sq : Int} {t u : Tr} (ht : plainE ⟨k, sq, t, 0⟩ = 0) (hu : plainE ⟨k, sq, u, 0⟩ = 0) (h : sameT t u = false) : Op.bytesLess (bytesS ⟨k, sq, u, 0⟩) (bytesS ⟨k, sq, t, 0⟩) = !Op.bytesLess (bytesS ⟨k, sq, t, 0⟩) (bytesS ⟨k, sq, u, 0⟩) := by
  cases h1 : Op.bytesLess (bytesS ⟨k, sq, t, 0⟩) (bytesS ⟨k, sq, u, 0⟩) with
  | true => exact bl_asymm h1
  | false =>
    cases h2 : Op.bytesLess (bytesS ⟨k, sq, u, 0⟩) (bytesS ⟨k, sq, t, 0⟩) with
    | true => rfl
    | false =>
      rw [(bytes_same ht hu).1 (bl_total _ _ h1 h2)] at h
      cases h
end Go.Proofs.YtidnnjgiogklaaaDoor

/- Walks: cmp.Compare of strings; declaration.Compare. -/
import Derived.Test.YtidnnjgiogklaaaDoorProg
import Derived.Test.YtidnnjgiogklaaaDoorDeclM
import Derived.Test.YtidnnjgiogklaaaDoorCmpP
import Derived.Test.YtidnnjgiogklaaaDoorKd
namespace Go.Proofs.YtidnnjgiogklaaaDoor
open Go.RowKit

theorem isNaNs_any (a : ByteArray) (w : World) : Calls Tryd.prog 89 #[.string a] w fun e w' => e = .returned (.bool false) ∧ w = w' := by
  go_enter Tryd.func89, Tryd.ntmps89
  go_wp2_with fail
  go_ret
  exact ⟨ret_bool (by simp), rfl⟩
theorem cmpStr_any (a b : ByteArray) (w : World) : Calls Tryd.prog 61 #[.string a, .string b] w fun e w' => e = .returned (.int .i64 (cmpL a.toList b.toList)) ∧ w = w' := by
  cases h1 : Op.bytesLess a.toList b.toList with
  | true =>
    have e1 : cmpL a.toList b.toList = -1 := by simp [cmpL, h1]
    have E := Lib.hid e1
    clear e1
    go_enter Tryd.func61, Tryd.ntmps61
    go_wp2_with (go_at_call 89; refine (isNaNs_any _ _).mono ?_; rintro e w' ⟨rfl, rfl⟩)
    all_goals (go_ret; exact ⟨ret_int (by rw [E.out]), rfl⟩)
  | false =>
    cases h2 : Op.bytesLess b.toList a.toList with
    | true =>
      have e1 : cmpL a.toList b.toList = 1 := by simp [cmpL, h1, h2]
      have hne : (a.toList == b.toList) = false := by
        rw [beq_eq_false_iff_ne]
        intro e
        rw [e, bl_irrefl] at h2
        cases h2
      have E := Lib.hid e1
      clear e1 h2
      go_enter Tryd.func61, Tryd.ntmps61
      go_wp2_with (go_at_call 89; refine (isNaNs_any _ _).mono ?_; rintro e w' ⟨rfl, rfl⟩)
      all_goals (go_ret; exact ⟨ret_int (by rw [E.out]), rfl⟩)
    | false =>
      have e1 : cmpL a.toList b.toList = 0 := by simp [cmpL, h1, h2]
      have heq : (a.toList == b.toList) = true := by rw [beq_iff_eq]; exact bl_total _ _ h1 h2
      have E := Lib.hid e1
      clear e1 h2
      go_enter Tryd.func61, Tryd.ntmps61
      go_wp2_with (go_at_call 89; refine (isNaNs_any _ _).mono ?_; rintro e w' ⟨rfl, rfl⟩)
      all_goals (go_ret; exact ⟨ret_int (by rw [E.out]), rfl⟩)

/-- The order of declarations. -/
def cmpD (a b : De) : Int := orL [cmpI a.node b.node, cmpI a.seq b.seq, cmpL (bytesS a) (bytesS b)]
theorem bs_toList (l : List UInt8) : (bs l).toList = l := by rw [ByteArray.toList_eq]; exact bs_list l
theorem orL3 (x y z : Int) : orL [x, y, z] = if x = 0 then (if y = 0 then z else y) else x := by
  simp only [orL]
  by_cases h : x = 0
  · by_cases h2 : y = 0
    · by_cases h3 : z = 0 <;> simp [h, h2, h3]
    · simp [h, h2]
  · simp [h]

set_option maxRecDepth 100000 in
set_option maxHeartbeats 2000000 in
theorem compareD_any (da db : De) (va vb : Value) (w : World) (ha : DeD w (Dm w none) va da) (hb : DeD w (Dm w none) vb db) (hsa : da.tr.size ≤ 1073741000) (hsb : db.tr.size ≤ 1073741000) (hT : Tab w) :
    Calls Tryd.prog 29 #[va, vb] w fun e w' => e = .returned (.int .i64 (cmpD da db)) ∧ Fr none w w' := by
  obtain ⟨th, A1, n1, c1, A2, n2, c2, rfl, hTr, hn, hq, ht⟩ := ha.shape
  obtain ⟨th', a1, m1, e1, a2, m2, e2, rfl, hTr', hn', hq', ht'⟩ := hb.shape
  go_enter Tryd.func29, Tryd.ntmps29
  go_upto_region 1 with (fail)
  generalize hW : (w.alloc _).alloc _ = w1
  have F1 : Fr none w w1 := hW ▸ ((Fr.refl none w).alloc _).alloc _
  have ba : DB w1 w.heap.size (.int .i64 da.node) (.int .i64 da.seq) (.int .i64 th) (.slice A1 n1 c1) (.slice A2 n2 c2) (.int .u64 da.tag) := by rw [← hW]; exact (Below.heap_alloc _ _ _ (by simp)).trans (blk_new _ _)
  have bb : DB w1 (w.heap.size + 1) (.int .i64 db.node) (.int .i64 db.seq) (.int .i64 th') (.slice a1 m1 e1) (.slice a2 m2 e2) (.int .u64 db.tag) := by rw [← hW]; exact blk_new_at (by simp) _
  clear hW
  have hla := blk_lt ba
  have hlb := blk_lt bb
  have T1 := hT.fr F1
  have Ha := ha.keep (fr_dm F1)
  have Hb := hb.keep (fr_dm F1)
  have K0 : Kd w1 w.heap.size (w.heap.size + 1) #[.int .i64 da.node, .int .i64 da.seq, .int .i64 th, .slice A1 n1 c1, .slice A2 n2 c2, .int .u64 da.tag] #[.int .i64 db.node, .int .i64 db.seq, .int .i64 th', .slice a1 m1 e1, .slice a2 m2 e2, .int .u64 db.tag] w1.drew := ⟨ba.cell, bb.cell, (Fr.refl _ _).drew⟩
  have HX : ∀ x y : Int, Wi (cmpI x y) := cmpI_wi
  have HL : ∀ x y : List UInt8, Wi (cmpL x y) := fun x y => by rcases cmpL_cases x y with h | h | h <;> rw [h] <;> constructor <;> omega
  have HXh := Lib.hid HX
  have HLh := Lib.hid HL
  clear HX HL
  go_region_held3 (fun w' => (∀ i, w'.cell? ⟨w.heap.size, i, none⟩ = (#[.int .i64 da.node, .int .i64 da.seq, .int .i64 th, .slice A1 n1 c1, .slice A2 n2 c2, .int .u64 da.tag] : Array Value)[i]?) ∧ (∀ i, w'.cell? ⟨w.heap.size + 1, i, none⟩ = (#[.int .i64 db.node, .int .i64 db.seq, .int .i64 th', .slice a1 m1 e1, .slice a2 m2 e2, .int .u64 db.tag] : Array Value)[i]?) ∧ Kd w1 w.heap.size (w.heap.size + 1) #[.int .i64 da.node, .int .i64 da.seq, .int .i64 th, .slice A1 n1 c1, .slice A2 n2 c2, .int .u64 da.tag] #[.int .i64 db.node, .int .i64 db.seq, .int .i64 th', .slice a1 m1 e1, .slice a2 m2 e2, .int .u64 db.tag] w') (first | (with_reducible exact kd_three K0) | (with_reducible exact kd_three KK) | (with_reducible exact kd_three (KK.alloc hla hlb _)))
    (first | (go_at_call 60; refine (cmpCompare_any _ _ _).mono ?_; rintro e w' ⟨rfl, rfl⟩) | (go_at_call 30; (with_reducible refine (bytes_any da (.agg #[.int .i64 da.node, .int .i64 da.seq, .int .i64 th, .slice A1 n1 c1, .slice A2 n2 c2, .int .u64 da.tag]) _ none hsa (Ha.keep (fr_dm (‹_ ∧ _ ∧ Kd w1 w.heap.size (w.heap.size + 1) _ _ _›).2.2.frame)) (T1.fr (‹_ ∧ _ ∧ Kd w1 w.heap.size (w.heap.size + 1) _ _ _›).2.2.frame)).mono ?_); rintro e w3 ⟨S, rfl, hS, hSs, F3⟩; have HSa := Lib.hid hS; clear hS; have KK := (‹_ ∧ _ ∧ Kd w1 w.heap.size (w.heap.size + 1) _ _ _›).2.2.fr hla hlb F3) | (go_at_call 30; (with_reducible refine (bytes_any db (.agg #[.int .i64 db.node, .int .i64 db.seq, .int .i64 th', .slice a1 m1 e1, .slice a2 m2 e2, .int .u64 db.tag]) _ none hsb (Hb.keep (fr_dm (‹_ ∧ _ ∧ Kd w1 w.heap.size (w.heap.size + 1) _ _ _›).2.2.frame)) (T1.fr (‹_ ∧ _ ∧ Kd w1 w.heap.size (w.heap.size + 1) _ _ _›).2.2.frame)).mono ?_); rintro e w3 ⟨S', rfl, hS, hSs', F3⟩; have HSb := Lib.hid hS; clear hS; have KK := (‹_ ∧ _ ∧ Kd w1 w.heap.size (w.heap.size + 1) _ _ _›).2.2.fr hla hlb F3) | (go_at_call 61; refine (cmpStr_any _ _ _).mono ?_; rintro e w' ⟨rfl, rfl⟩) | (go_at_call 59; refine (or_any [cmpI da.node db.node, cmpI da.seq db.seq, cmpL S.toList S'.toList] _ _ none ⟨SlD.lit_dm #[.int .i64 (cmpI da.node db.node), .int .i64 (cmpI da.seq db.seq), .int .i64 (cmpL S.toList S'.toList)] _ 3 1 rfl (by decide) (by simp) (Fr.refl _ _), (by simp [HXh.out, HLh.out])⟩).mono ?_; rintro e w' ⟨rfl, rfl⟩))
  all_goals
    go_wp2_with fail
    go_ret
    exact ⟨ret_int (by rw [HSa.out, HSb.out, bs_toList, bs_toList]; rfl), F1.pure (KK.frame.alloc _)⟩
end Go.Proofs.YtidnnjgiogklaaaDoor

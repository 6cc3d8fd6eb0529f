/- Walks: the reference's Check and Same of declarations. -/
import Derived.Test.YtpdhckbiioobhaaGreatDoorProg
import Derived.Test.YtpdhckbiioobhaaGreatDoorDeclC
import Derived.Test.YtpdhckbiioobhaaGreatDoorSameW
namespace Go.Proofs.YtpdhckbiioobhaaGreatDoor
open Go.RowKit

set_option maxRecDepth 100000 in
set_option maxHeartbeats 2000000 in
theorem rchk7_any (ks : List Nat) (kv : Value) (d : De) (v : Value) (w : World) (r : Option Nat) (hks : ∀ y ∈ ks, y < 18446744073709551616) (hkv : SlD w (Dm w none) 1 kv (ks.map u64v)) (h : DeD w (Dm w r) v d) (hp : plainE d = 0) (hT : Tab w) :
    Calls Tryz.prog 37 #[kv, v] w fun e w' => e = .returned (.int .i64 (chkE ks d)) ∧ Fr none w w' := by
  obtain ⟨hn0, hs0, hv0, hd0, hz0⟩ := plain_parts hp
  obtain ⟨th, A1, n1, c1, A2, n2, c2, rfl, hTr, hn, hq, ht⟩ := h.shape
  obtain ⟨A, c, rfl, q1, q2, hc⟩ := keys_open hkv
  have F1 := (Fr.refl none w).alloc (.cells #[.int .i64 d.node, .int .i64 d.seq, .int .i64 th, .slice A1 n1 c1, .slice A2 n2 c2, .int .u64 d.tag] 61)
  have h1 : DeD _ (Dm _ r) _ d := h.keep (fr_dm (F1.mono (r := r)))
  have T1 := hT.fr F1
  have hs : d.tr.size ≤ 1073741000 := by omega
  have HKS := Lib.hid hks
  have HP := Lib.hid hp
  have HT := Lib.hid ht
  obtain ⟨nd, hnd⟩ := Int.eq_ofNat_of_zero_le hn0.1
  have hbl := bytes_len d
  obtain ⟨L, hL⟩ : ∃ L, L = bytesS d := ⟨_, rfl⟩
  rw [← hL] at hbl
  have HL := Lib.hid hL
  obtain ⟨tg, htg⟩ : ∃ tg, tg = d.tag := ⟨_, rfl⟩
  have HTG := Lib.hid htg
  rw [← htg] at F1 h1 T1 ⊢
  have HND := Lib.hid hnd
  rw [hnd] at F1 h1 T1 ⊢
  clear hks hp ht hL htg hTr h hkv hnd hT
  go_enter Tryz.func37, Tryz.ntmps37
  go_wp2_with fail
  generalize hW : w.alloc _ = w1 at *
  have b3 : DB w1 w.heap.size (.int .i64 (nd : Int)) (.int .i64 d.seq) (.int .i64 th) (.slice A1 n1 c1) (.slice A2 n2 c2) (.int .u64 (tg : Nat)) := by rw [← hW]; exact blk_new _ _
  clear hW
  refine (rplain_any d _ _ r hs h1).mono ?_
  rintro e w2 ⟨rfl, F2⟩
  rw [HP.out]
  have c3 := b3.fr F2 (by simp)
  have h2 := h1.keep (fr_dm (F2.mono (r := r)))
  have T2 := T1.fr F2
  have F12 := F1.pure F2
  have R3 := c3.cell
  clear h1 T1
  by_cases hlen : ks.length ≤ nd
  · have HE : Hid (chkE ks d = 10) := by unfold Hid chkE; rw [HND.out, if_pos (by omega)]
    go_wp2_with fail
    go_ret
    exact ⟨ret_int (by rw [HE.out]), F12⟩
  · have hk : nd < ks.length := by omega
    obtain ⟨kb, off, rfl, hkb, hcc⟩ := hc (by omega)
    have hck := F12.keep (hcc nd hk) (by simp)
    have hy := HKS.out ks[nd] (List.getElem_mem _)
    obtain ⟨y, hyy⟩ : ∃ y, y = ks[nd] := ⟨_, rfl⟩
    rw [← hyy] at hck hy
    have HY := Lib.hid hyy
    have HYL := Lib.hid hy
    have q0 : w2.drew.cell? ⟨w.heap.size, 0, none⟩ = some (.int .i64 (nd : Int)) := R3 0
    have q1' : w2.drew.cell? ⟨w.heap.size, 1, none⟩ = some (.int .i64 d.seq) := R3 1
    have q2' : w2.drew.cell? ⟨w.heap.size, 2, none⟩ = some (.int .i64 th) := R3 2
    have q3 : w2.drew.cell? ⟨w.heap.size, 3, none⟩ = some (.slice A1 n1 c1) := R3 3
    have q4 : w2.drew.cell? ⟨w.heap.size, 4, none⟩ = some (.slice A2 n2 c2) := R3 4
    have q5 : w2.drew.cell? ⟨w.heap.size, 5, none⟩ = some (.int .u64 (tg : Nat)) := R3 5
    have q6 : w2.drew.cell? ⟨kb, off + nd, none⟩ = some (.int .u64 (y : Nat)) := hck
    have HE : Hid (chkE ks d = if tg = tagS y L then 0 else 8) := by
      unfold Hid chkE
      rw [HND.out, if_neg (by omega), ← HTG.out, ← HL.out]
      have : ks.getD (nd : Int).toNat 0 = y := by rw [Int.toNat_natCast, List.getD_eq_getElem?_getD, List.getElem?_eq_getElem hk, HY.out]; rfl
      rw [this]
    clear hcc hyy hy hck
    have Fd : Fr none w2 w2.drew := (Fr.refl _ _).drew
    go_wp2_with fail
    go_region_held3 (fun w' => w'.cell? ⟨w.heap.size, 0, none⟩ = some (.int .i64 (nd : Int)) ∧ w'.cell? ⟨w.heap.size, 1, none⟩ = some (.int .i64 d.seq) ∧ w'.cell? ⟨w.heap.size, 2, none⟩ = some (.int .i64 th) ∧ w'.cell? ⟨w.heap.size, 3, none⟩ = some (.slice A1 n1 c1) ∧ w'.cell? ⟨w.heap.size, 4, none⟩ = some (.slice A2 n2 c2) ∧ w'.cell? ⟨w.heap.size, 5, none⟩ = some (.int .u64 (tg : Nat)) ∧ w'.cell? ⟨kb, off + nd, none⟩ = some (.int .u64 (y : Nat))) (first | (with_reducible exact ⟨q0, q1', q2', q3, q4, q5, q6⟩) | (with_reducible exact KK) | (with_reducible exact K2))
      (first | (go_at_call 57; refine (rbytes_any d _ _ r hs (h2.keep (fr_dm (Fd.mono (r := r)))) (T2.fr Fd)).mono ?_; rintro e w3 ⟨S, rfl, hS, hSs, F3⟩; have HS := Lib.hid hS; clear hS; have KK := And.intro (F3.keep q0 (by simp)) (And.intro (F3.keep q1' (by simp)) (And.intro (F3.keep q2' (by simp)) (And.intro (F3.keep q3 (by simp)) (And.intro (F3.keep q4 (by simp)) (And.intro (F3.keep q5 (by simp)) (F3.keep q6 (by simp)))))))) | (go_at_call 69; refine (rtag_any y HYL.out S _ (by omega)).mono ?_; rintro e w4 ⟨rfl, F4⟩; obtain ⟨z, hz⟩ : ∃ z, z = tagS y S.data.toList := ⟨_, rfl⟩; rw [← hz]; have HZ := Lib.hid hz; clear hz; have K2 := And.intro (F4.keep KK.1 (by simp)) (And.intro (F4.keep KK.2.1 (by simp)) (And.intro (F4.keep KK.2.2.1 (by simp)) (And.intro (F4.keep KK.2.2.2.1 (by simp)) (And.intro (F4.keep KK.2.2.2.2.1 (by simp)) (And.intro (F4.keep KK.2.2.2.2.2.1 (by simp)) (F4.keep KK.2.2.2.2.2.2 (by simp)))))))))
    have hzL : z = tagS y L := by rw [HZ.out, HS.out, bs_list, HL.out]
    have FF : Fr none w w4 := ((F12.pure Fd).pure F3).pure F4
    rw [← hzL] at HE
    clear hzL KK K2
    by_cases heq : tg = z
    · have hb : ((z : Int) != (tg : Int)) = false := by rw [heq]; simp
      have HF : Hid (chkE ks d = 0) := by unfold Hid; rw [HE.out, if_pos heq]
      clear heq
      go_wp2_with fail
      go_ret
      exact ⟨ret_int (by rw [HF.out]), FF⟩
    · have hb : ((z : Int) != (tg : Int)) = true := by rw [bne_iff_ne]; omega
      have HF : Hid (chkE ks d = 8) := by unfold Hid; rw [HE.out, if_neg heq]
      clear heq
      go_wp2_with fail
      go_ret
      exact ⟨ret_int (by rw [HF.out]), FF⟩

set_option maxRecDepth 100000 in
theorem rsame7_any (d d' : De) (v v' : Value) (w : World) (r : Option Nat) (h : DeD w (Dm w r) v d) (h' : DeD w (Dm w r) v' d') (he : d = d') :
    Calls Tryz.prog 38 #[v, v'] w fun e w' => e = .returned (.bool true) ∧ Fr none w w' := by
  subst he
  obtain ⟨th, A1, n1, c1, A2, n2, c2, rfl, hTr, hn, hq, ht⟩ := h.shape
  obtain ⟨th', B1, m1, e1, B2, m2, e2, rfl, kTr, _, _, _⟩ := h'.shape
  have hsm : sameT d.tr d.tr = true := (sameT_iff _ _).2 rfl
  have HSM := Lib.hid hsm
  have F1 := ((Fr.refl none w).alloc (.cells #[.int .i64 d.node, .int .i64 d.seq, .int .i64 th, .slice A1 n1 c1, .slice A2 n2 c2, .int .u64 d.tag] 61)).alloc (.cells #[.int .i64 d.node, .int .i64 d.seq, .int .i64 th', .slice B1 m1 e1, .slice B2 m2 e2, .int .u64 d.tag] 61)
  clear h h' hsm ht
  go_enter Tryz.func38, Tryz.ntmps38
  go_wp2_with fail
  refine (rsame_any d.tr.dep d.tr d.tr _ _ _ r (Nat.le_refl _) (TrR.fr hTr (F1.mono (r := r))) (TrR.fr kTr (F1.mono (r := r)))).mono ?_
  rintro e w2 ⟨rfl, F2⟩
  rw [HSM.out]
  go_wp2_with fail
  go_ret
  exact ⟨rfl, F1.pure F2⟩
end Go.Proofs.YtpdhckbiioobhaaGreatDoor

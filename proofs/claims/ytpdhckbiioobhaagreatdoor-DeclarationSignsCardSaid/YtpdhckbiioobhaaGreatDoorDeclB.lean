/- Walks: Bytes of declarations (program and reference). -/
import Derived.Test.YtpdhckbiioobhaaGreatDoorProg
import Derived.Test.YtpdhckbiioobhaaGreatDoorDeclW
import Derived.Deep.RegionHeld3
namespace Go.Proofs.YtpdhckbiioobhaaGreatDoor
open Go.RowKit

/-- The bytes of a declaration. -/
def bytesS (d : De) : List UInt8 := if plainE d = 0 then [100, 32] ++ Lib.itoa d.node ++ [32] ++ Lib.itoa d.seq ++ [32] ++ txT d.tr else []
theorem plain_parts {d : De} (h : plainE d = 0) : (0 ≤ d.node ∧ d.node < 10) ∧ (1 ≤ d.seq ∧ d.seq ≤ 30) ∧ validE d.tr = 0 ∧ d.tr.dep ≤ 3 ∧ d.tr.size ≤ 40 := by
  unfold plainE at h
  by_cases c1 : d.node < 0 ∨ 10 ≤ d.node
  · rw [if_pos c1] at h; cases h
  rw [if_neg c1] at h
  by_cases c2 : d.seq < 1 ∨ 30 < d.seq
  · rw [if_pos c2] at h; cases h
  rw [if_neg c2] at h
  by_cases c3 : validE d.tr ≠ 0
  · rw [if_pos c3] at h; exact absurd h c3
  rw [if_neg c3] at h
  by_cases c4 : 3 < d.tr.dep ∨ 40 < d.tr.size
  · rw [if_pos c4] at h; cases h
  exact ⟨by omega, by omega, by simpa using c3, by omega, by omega⟩
theorem itoa_sm (n : Int) (h0 : 0 ≤ n) (h1 : n < 100) (w : World) : Calls Tryz.prog 74 #[.int .i64 n] w fun e w' => e = .returned (.string (bs (Lib.itoa n))) ∧ w = w' := by
  obtain ⟨k, rfl⟩ := Int.eq_ofNat_of_zero_le h0
  refine (Tryz.strconv_Itoa_small k (by omega) w).mono ?_
  rintro e w' ⟨rfl, rfl⟩
  rw [Lib.itoa_nonneg]
  exact ⟨rfl, rfl⟩
theorem itoa_at (n : Int) (S : ByteArray) (hS : Hid (S = bs (Lib.itoa n))) (h0 : 0 ≤ n) (h1 : n < 100) (w : World) : Calls Tryz.prog 74 #[.int .i64 n] w fun e w' => e = .returned (.string S) ∧ w = w' := by
  rw [hS.out]; exact itoa_sm n h0 h1 w
/-- The sum of two strings, under a name. -/
theorem str_add (a b : ByteArray) (ha : a.size ≤ 1073741824) (hb : b.size ≤ 34359738368) : ∃ X : ByteArray, Hid (X = a ++ b) ∧ X.size = a.size + b.size ∧ ∀ w : World, (Op.stringOp .add a b).run Tryz.prog w = .ok (.string X) w :=
  ⟨a ++ b, rfl, ByteArray.size_append, fun w => run_string_add_sum w a b (by omega)⟩
theorem bytes_len (d : De) : (bytesS d).length ≤ 2500 := by
  unfold bytesS
  by_cases h : plainE d = 0
  · rw [if_pos h]
    obtain ⟨h1, h2, h3, h4, h5⟩ := plain_parts h
    have e1 := itoa_len4 (k := d.node) ⟨by omega, by omega⟩
    have e2 := itoa_len4 (k := d.seq) ⟨by omega, by omega⟩
    have e3 := valid_len h3
    simp only [List.length_append, List.length_cons, List.length_nil]
    omega
  · rw [if_neg h]; simp

set_option maxRecDepth 100000 in
set_option maxHeartbeats 1000000 in
theorem bytes_any (d : De) (v : Value) (w : World) (r : Option Nat) (hs : d.tr.size ≤ 1073741000) (h : DeD w (Dm w r) v d) (hT : Tab w) :
    Calls Tryz.prog 56 #[v] w (TxtE (bytesS d) 2500 w) := by
  have hlen := bytes_len d
  obtain ⟨th, A1, n1, c1, A2, n2, c2, rfl, hTr, hn, hq, ht⟩ := h.shape
  have hD := h
  have F1 := (Fr.refl none w).alloc (.cells #[.int .i64 d.node, .int .i64 d.seq, .int .i64 th, .slice A1 n1 c1, .slice A2 n2 c2, .int .u64 d.tag] 61)
  have h1 : DeD _ (Dm _ r) _ d := h.keep (fr_dm (F1.mono (r := r)))
  have t1 : TrR _ r _ d.tr := TrD.keep (fr_dm (F1.mono (r := r))) _ _ hTr
  have T1 := hT.fr F1
  by_cases hp : plainE d = 0
  · have p0 : (plainE d != 0) = false := by rw [bne_eq_false_iff_eq]; exact hp
    obtain ⟨⟨k1, k2⟩, ⟨k3, k4⟩, hv, _, hz⟩ := plain_parts hp
    have HE : Hid (bs (bytesS d) = ⟨#[100, 32]⟩ ++ bs (Lib.itoa d.node) ++ ⟨#[32]⟩ ++ bs (Lib.itoa d.seq) ++ ⟨#[32]⟩ ++ bs (textT d.tr)) := by
      unfold Hid bytesS textT
      rw [if_pos hp, if_pos hv]
      apply ByteArray.ext
      simp [bs]
    obtain ⟨N, hN⟩ : ∃ N, N = bs (Lib.itoa d.node) := ⟨_, rfl⟩
    obtain ⟨M, hM⟩ : ∃ M, M = bs (Lib.itoa d.seq) := ⟨_, rfl⟩
    have z1 : N.size ≤ 21 := by rw [hN, bs_size]; exact itoa_len hn
    have z2 : M.size ≤ 21 := by rw [hM, bs_size]; exact itoa_len hq
    rw [← hN, ← hM] at HE
    have HN := Lib.hid hN
    have HM := Lib.hid hM
    have s2 : (⟨#[100, 32]⟩ : ByteArray).size = 2 := rfl
    have s1 : (⟨#[32]⟩ : ByteArray).size = 1 := rfl
    obtain ⟨X1, HX1, y1, k1'⟩ := str_add ⟨#[100, 32]⟩ N (by omega) (by omega)
    obtain ⟨X2, HX2, y2, k2'⟩ := str_add X1 ⟨#[32]⟩ (by omega) (by omega)
    obtain ⟨X3, HX3, y3, k3'⟩ := str_add X2 M (by omega) (by omega)
    obtain ⟨X4, HX4, y4, k4'⟩ := str_add X3 ⟨#[32]⟩ (by omega) (by omega)
    have y5 : X4.size ≤ 60 := by omega
    rw [← HX1.out, ← HX2.out, ← HX3.out, ← HX4.out] at HE
    clear hN hM y1 y2 y3 y4 s1 s2
    have HL := Lib.hid hlen
    clear hp hv hlen hTr hD h
    go_enter Tryz.func56, Tryz.ntmps56
    go_wp2_with fail
    generalize hW : w.alloc _ = w1 at *
    have B1 : Hid (w1.heap[w.heap.size]? = some (.cells #[.int .i64 d.node, .int .i64 d.seq, .int .i64 th, .slice A1 n1 c1, .slice A2 n2 c2, .int .u64 d.tag] 61 (0, 0))) := by rw [← hW]; exact blk_new _ _
    clear hW
    refine (plain_any d _ _ r hs h1).mono ?_
    rintro e w2 ⟨rfl, F2⟩
    have F12 := F1.pure F2
    have B2 : Hid _ := blk_fr B1.out F2 (by simp)
    have T2 := T1.fr F2
    have t2 := t1.fr (F2.mono (r := r))
    have q0 := blk_cell B2.out 0
    have q1 := blk_cell B2.out 1
    have q2 := blk_cell B2.out 2
    have q3 := blk_cell B2.out 3
    have q4 := blk_cell B2.out 4
    simp only [List.getElem?_toArray, List.getElem?_cons_zero, List.getElem?_cons_succ] at q0 q1 q2 q3 q4
    clear B1 F1 F2 h1 t1 T1
    go_wp2_with fail
    go_region_held3 (fun w' => w'.cell? ⟨w.heap.size, 0, none⟩ = some (.int .i64 d.node) ∧ w'.cell? ⟨w.heap.size, 1, none⟩ = some (.int .i64 d.seq) ∧ w'.cell? ⟨w.heap.size, 2, none⟩ = some (.int .i64 th) ∧ w'.cell? ⟨w.heap.size, 3, none⟩ = some (.slice A1 n1 c1) ∧ w'.cell? ⟨w.heap.size, 4, none⟩ = some (.slice A2 n2 c2) ∧ Fr none w2 w') (first | exact ⟨q0, q1, q2, q3, q4, (Fr.refl _ _).drew⟩ | exact ⟨F3.keep q0 (by simp), F3.keep q1 (by simp), F3.keep q2 (by simp), F3.keep q3 (by simp), F3.keep q4 (by simp), F3⟩)
      (first | (go_at_call 74; refine (itoa_at d.node N HN (by omega) (by omega) _).mono ?_; rintro e w' ⟨rfl, rfl⟩) | (go_at_call 74; refine (itoa_at d.seq M HM (by omega) (by omega) _).mono ?_; rintro e w' ⟨rfl, rfl⟩) | (go_at_call 109; refine (text3_any d.tr _ _ r (by omega) (t2.fr ((Fr.refl _ _).drew.mono (r := r))) (T2.fr (Fr.refl _ _).drew)).mono ?_; rintro e w3 ⟨S, rfl, hS, hSs, F3'⟩; have F3 : Fr none w2 w3 := (Fr.refl _ _).drew.pure F3'; have HS := Lib.hid hS; clear hS F3'; obtain ⟨X5, HX5, y6, k5'⟩ := str_add X4 S (by omega) (by omega); clear y6))
    go_wp2_with fail
    go_ret
    have hfin : X5 = bs (bytesS d) := by rw [HE.out, HX5.out, HS.out]
    exact ⟨_, rfl, hfin, by rw [hfin, bs_size]; exact HL.out, F12.pure F3⟩
  · have p0 : (plainE d != 0) = true := by rw [bne_iff_ne]; exact hp
    have HE : Hid (bs (bytesS d) = ⟨#[]⟩) := by unfold Hid bytesS; rw [if_neg hp]; rfl
    clear hp hlen hTr hD h
    go_enter Tryz.func56, Tryz.ntmps56
    go_wp2_with fail
    generalize hW : w.alloc _ = w1 at *
    clear hW
    refine (plain_any d _ _ r hs h1).mono ?_
    rintro e w2 ⟨rfl, F2⟩
    go_wp2_with fail
    go_ret
    exact ⟨_, rfl, HE.out.symm, by decide, F1.pure F2⟩
set_option maxRecDepth 100000 in
set_option maxHeartbeats 1000000 in
theorem rbytes_any (d : De) (v : Value) (w : World) (r : Option Nat) (hs : d.tr.size ≤ 1073741000) (h : DeD w (Dm w r) v d) (hT : Tab w) :
    Calls Tryz.prog 57 #[v] w (TxtE (bytesS d) 2500 w) := by
  have hlen := bytes_len d
  obtain ⟨th, A1, n1, c1, A2, n2, c2, rfl, hTr, hn, hq, ht⟩ := h.shape
  have hD := h
  have F1 := (Fr.refl none w).alloc (.cells #[.int .i64 d.node, .int .i64 d.seq, .int .i64 th, .slice A1 n1 c1, .slice A2 n2 c2, .int .u64 d.tag] 61)
  have h1 : DeD _ (Dm _ r) _ d := h.keep (fr_dm (F1.mono (r := r)))
  have t1 : TrR _ r _ d.tr := TrD.keep (fr_dm (F1.mono (r := r))) _ _ hTr
  have T1 := hT.fr F1
  by_cases hp : plainE d = 0
  · have p0 : (plainE d != 0) = false := by rw [bne_eq_false_iff_eq]; exact hp
    obtain ⟨⟨k1, k2⟩, ⟨k3, k4⟩, hv, _, hz⟩ := plain_parts hp
    have HE : Hid (bs (bytesS d) = ⟨#[100, 32]⟩ ++ bs (Lib.itoa d.node) ++ ⟨#[32]⟩ ++ bs (Lib.itoa d.seq) ++ ⟨#[32]⟩ ++ bs (textT d.tr)) := by
      unfold Hid bytesS textT
      rw [if_pos hp, if_pos hv]
      apply ByteArray.ext
      simp [bs]
    obtain ⟨N, hN⟩ : ∃ N, N = bs (Lib.itoa d.node) := ⟨_, rfl⟩
    obtain ⟨M, hM⟩ : ∃ M, M = bs (Lib.itoa d.seq) := ⟨_, rfl⟩
    have z1 : N.size ≤ 21 := by rw [hN, bs_size]; exact itoa_len hn
    have z2 : M.size ≤ 21 := by rw [hM, bs_size]; exact itoa_len hq
    rw [← hN, ← hM] at HE
    have HN := Lib.hid hN
    have HM := Lib.hid hM
    have s2 : (⟨#[100, 32]⟩ : ByteArray).size = 2 := rfl
    have s1 : (⟨#[32]⟩ : ByteArray).size = 1 := rfl
    obtain ⟨X1, HX1, y1, k1'⟩ := str_add ⟨#[100, 32]⟩ N (by omega) (by omega)
    obtain ⟨X2, HX2, y2, k2'⟩ := str_add X1 ⟨#[32]⟩ (by omega) (by omega)
    obtain ⟨X3, HX3, y3, k3'⟩ := str_add X2 M (by omega) (by omega)
    obtain ⟨X4, HX4, y4, k4'⟩ := str_add X3 ⟨#[32]⟩ (by omega) (by omega)
    have y5 : X4.size ≤ 60 := by omega
    rw [← HX1.out, ← HX2.out, ← HX3.out, ← HX4.out] at HE
    clear hN hM y1 y2 y3 y4 s1 s2
    have HL := Lib.hid hlen
    clear hp hv hlen hTr hD h
    go_enter Tryz.func57, Tryz.ntmps57
    go_wp2_with fail
    generalize hW : w.alloc _ = w1 at *
    have B1 : Hid (w1.heap[w.heap.size]? = some (.cells #[.int .i64 d.node, .int .i64 d.seq, .int .i64 th, .slice A1 n1 c1, .slice A2 n2 c2, .int .u64 d.tag] 61 (0, 0))) := by rw [← hW]; exact blk_new _ _
    clear hW
    refine (rplain_any d _ _ r hs h1).mono ?_
    rintro e w2 ⟨rfl, F2⟩
    have F12 := F1.pure F2
    have B2 : Hid _ := blk_fr B1.out F2 (by simp)
    have T2 := T1.fr F2
    have t2 := t1.fr (F2.mono (r := r))
    have q0 := blk_cell B2.out 0
    have q1 := blk_cell B2.out 1
    have q2 := blk_cell B2.out 2
    have q3 := blk_cell B2.out 3
    have q4 := blk_cell B2.out 4
    simp only [List.getElem?_toArray, List.getElem?_cons_zero, List.getElem?_cons_succ] at q0 q1 q2 q3 q4
    clear B1 F1 F2 h1 t1 T1
    go_wp2_with fail
    go_region_held3 (fun w' => w'.cell? ⟨w.heap.size, 0, none⟩ = some (.int .i64 d.node) ∧ w'.cell? ⟨w.heap.size, 1, none⟩ = some (.int .i64 d.seq) ∧ w'.cell? ⟨w.heap.size, 2, none⟩ = some (.int .i64 th) ∧ w'.cell? ⟨w.heap.size, 3, none⟩ = some (.slice A1 n1 c1) ∧ w'.cell? ⟨w.heap.size, 4, none⟩ = some (.slice A2 n2 c2) ∧ Fr none w2 w') (first | exact ⟨q0, q1, q2, q3, q4, (Fr.refl _ _).drew⟩ | exact ⟨F3.keep q0 (by simp), F3.keep q1 (by simp), F3.keep q2 (by simp), F3.keep q3 (by simp), F3.keep q4 (by simp), F3⟩)
      (first | (go_at_call 74; refine (itoa_at d.node N HN (by omega) (by omega) _).mono ?_; rintro e w' ⟨rfl, rfl⟩) | (go_at_call 74; refine (itoa_at d.seq M HM (by omega) (by omega) _).mono ?_; rintro e w' ⟨rfl, rfl⟩) | (go_at_call 75; refine (rtext3_any d.tr _ _ r (by omega) (t2.fr ((Fr.refl _ _).drew.mono (r := r))) (T2.fr (Fr.refl _ _).drew)).mono ?_; rintro e w3 ⟨S, rfl, hS, hSs, F3'⟩; have F3 : Fr none w2 w3 := (Fr.refl _ _).drew.pure F3'; have HS := Lib.hid hS; clear hS F3'; obtain ⟨X5, HX5, y6, k5'⟩ := str_add X4 S (by omega) (by omega); clear y6))
    go_wp2_with fail
    go_ret
    have hfin : X5 = bs (bytesS d) := by rw [HE.out, HX5.out, HS.out]
    exact ⟨_, rfl, hfin, by rw [hfin, bs_size]; exact HL.out, F12.pure F3⟩
  · have p0 : (plainE d != 0) = true := by rw [bne_iff_ne]; exact hp
    have HE : Hid (bs (bytesS d) = ⟨#[]⟩) := by unfold Hid bytesS; rw [if_neg hp]; rfl
    clear hp hlen hTr hD h
    go_enter Tryz.func57, Tryz.ntmps57
    go_wp2_with fail
    generalize hW : w.alloc _ = w1 at *
    clear hW
    refine (rplain_any d _ _ r hs h1).mono ?_
    rintro e w2 ⟨rfl, F2⟩
    go_wp2_with fail
    go_ret
    exact ⟨_, rfl, HE.out.symm, by decide, F1.pure F2⟩
end Go.Proofs.YtpdhckbiioobhaaGreatDoor

/- Some texts of this claim, joined: contracts of the functions that it reaches, and plain laws. -/
import Derived.Test.YtoblhcieidljjaaGreatDoorProg
import Derived.Test.YtoblhcieidljjaaGreatDoorJG17

set_option linter.unusedSimpArgs false
set_option linter.unusedVariables false
/- Walks: mk.Declaration; declaration.Check. -/
namespace Go.Proofs.YtoblhcieidljjaaGreatDoor
open Go.RowKit

theorem plain_mk {nd sq : Int} {t : Tr} {tg : Nat} (h1 : 0 ≤ nd) (h2 : nd < 10) (h3 : 1 ≤ sq) (h4 : sq ≤ 30) (hv : validE t = 0) (hd : t.dep ≤ 3) (hz : t.size ≤ 40) : plainE ⟨nd, sq, t, tg⟩ = 0 := by
  unfold plainE
  simp only
  rw [if_neg (by omega), if_neg (by omega), if_neg (by rw [hv]; simp), if_neg (by omega)]
theorem bytes_tag (nd sq : Int) (t : Tr) (a b : Nat) : bytesS ⟨nd, sq, t, a⟩ = bytesS ⟨nd, sq, t, b⟩ := rfl
theorem plain_tag (nd sq : Int) (t : Tr) (a b : Nat) : plainE ⟨nd, sq, t, a⟩ = plainE ⟨nd, sq, t, b⟩ := rfl
/-- A slice of keys, for a walk. -/
theorem keys_open {D : Nat → Prop} {w : World} {v : Value} {l : List Nat} (h : SlD w D 1 v (l.map u64v)) :
    ∃ A c, v = .slice A l.length c ∧ l.length ≤ c ∧ c ≤ 9223372036854775807 ∧ (0 < l.length → ∃ b off, A = some ⟨b, off, none⟩ ∧ D b ∧ ∀ k (hk : k < l.length), w.cell? ⟨b, off + k, none⟩ = some (.int .u64 ((l[k] : Nat) : Int))) := by
  obtain ⟨A, n, c, rfl, hl, hc, hm, hx⟩ := h
  unfold maxLen at hm
  have e : n = l.length := by simpa using hl.symm
  subst e
  refine ⟨A, c, rfl, hc, hm, fun hn => ?_⟩
  obtain ⟨b, off, rfl, hb, hx⟩ := hx hn
  exact ⟨b, off, rfl, hb, fun k hk => hx k _ (by simp [hk, u64v])⟩
/-- A right declaration of one of those who have keys. -/
def DeclP (w : World) (g : Nat) (ks : List Nat) (e : Ending) (w' : World) : Prop :=
  ∃ (v : Value) (k : Nat) (hk : k < ks.length) (sq : Int) (T : Tr), e = .returned v ∧ 1 ≤ sq ∧ sq ≤ 4 ∧ validE T = 0 ∧ T.dep ≤ 3 ∧ T.size ≤ 40 ∧
    DeD w' (Dn w.heap.size w') v ⟨k, sq, T, tagS ks[k] (bytesS ⟨k, sq, T, 0⟩)⟩ ∧ SrcR 84 w' g ∧ Fr (some g) w w'

/-- What stays true of the world while a declaration is being made: the key's cell, the tape, the frame, the table. -/
def Kp (w2 : World) (g kb o y : Nat) (W : World) : Prop := W.cell? ⟨kb, o, none⟩ = some (.int .u64 (y : Nat)) ∧ SrcR 84 W g ∧ Fr (some g) w2 W ∧ Tab W
theorem Kp.alloc {w2 W : World} {g kb o y : Nat} (h : Kp w2 g kb o y W) (ob : Obj) : Kp w2 g kb o y (W.alloc ob) :=
  ⟨((Fr.refl none W).alloc ob).keep h.1 (by simp), h.2.1.fr ((Fr.refl none W).alloc ob), h.2.2.1.alloc ob, h.2.2.2.fr ((Fr.refl none W).alloc ob)⟩
theorem Kp.src {w2 W W' : World} {g kb o y : Nat} (h : Kp w2 g kb o y W) (hk : kb ≠ g) (S : SrcR 84 W' g) (F : Fr (some g) W W') : Kp w2 g kb o y W' :=
  ⟨F.keep h.1 (by simp; omega), S, h.2.2.1.same F, h.2.2.2.src h.2.1 F⟩
theorem Kp.fr {w2 W W' : World} {g kb o y : Nat} (h : Kp w2 g kb o y W) (F : Fr none W W') : Kp w2 g kb o y W' :=
  ⟨F.keep h.1 (by simp), h.2.1.fr F, h.2.2.1.pure F, h.2.2.2.fr F⟩
theorem Kp.fill {w2 W W' : World} {g kb o y B : Nat} (h : Kp w2 g kb o y W) (hT : Tab w2) (hB : w2.heap.size ≤ B) (hg : g < w2.heap.size) (hk : kb < w2.heap.size) (F : Fr (some B) W W') : Kp w2 g kb o y W' :=
  ⟨F.keep h.1 (by simp; omega), h.2.1.frs F (by simp; omega), h.2.2.1.new F hB, h.2.2.2.frs F (by have := hT.cells.1; simp; omega)⟩
theorem kp_two {w2 W : World} {g kb o y : Nat} (h : Kp w2 g kb o y W) : W.cell? ⟨kb, o, none⟩ = some (.int .u64 (y : Nat)) ∧ Kp w2 g kb o y W := ⟨h.1, h⟩
theorem db_fill {w : World} {b : Nat} {z0 z1 z2 z3 z4 z5 : Value} (h : DB w b z0 z1 z2 z3 z4 z5) (x0 x1 x2 x3 x4 x5 : Value) : DB ((((((w.setCell ⟨b, 0, none⟩ x0).setCell ⟨b, 1, none⟩ x1).setCell ⟨b, 2, none⟩ x2).setCell ⟨b, 3, none⟩ x3).setCell ⟨b, 4, none⟩ x4).setCell ⟨b, 5, none⟩ x5) b x0 x1 x2 x3 x4 x5 := by
  have := blk_set (blk_set (blk_set (blk_set (blk_set (blk_set h 0 x0) 1 x1) 2 x2) 3 x3) 4 x4) 5 x5
  simpa [DB] using this
theorem tagS_lt (k : Nat) (l : List UInt8) : tagS k l < 18446744073709551616 := hashS_lt _
theorem ded_mk {w : World} {D : Nat → Prop} {th : Int} {vn vi : Value} {nd sq : Int} {T : Tr} {tg : Nat} (h : TrD w D (.agg #[.int .i64 th, vn, vi]) T) (hn : Wi nd) (hq : Wi sq) (ht : tg < 18446744073709551616) : DeD w D (.agg #[.int .i64 nd, .int .i64 sq, .int .i64 th, vn, vi, .int .u64 (tg : Nat)]) ⟨nd, sq, T, tg⟩ := ⟨th, vn, vi, rfl, h, hn, hq, ht⟩
theorem trd_end {w4 w5 w6 w7 : World} {v : Value} {T : Tr} {b c0 B C : Nat} (h : TrD w4 (Dn b w4) v T) (F5 : Fr none w4 w5) (F6 : Fr (some B) w5 w6) (F7 : Fr (some C) w6 w7) (hB : B < b ∨ w4.heap.size ≤ B) (hC : C < b) (h0 : c0 ≤ b) : TrD w7 (Dn c0 w7) v T :=
  TrD.keep (fun k hk => by
    have s5 := F5.size
    have s6 := F6.size
    have s7 := F7.size
    obtain ⟨h1, h2⟩ := hk
    refine ⟨⟨by omega, by omega⟩, ?_⟩
    rw [F7.block k (by omega) (by simp; omega), F6.block k (by omega) (by simp; omega), F5.block k h2 (by simp)]) T v h
def ZB : Obj := .cells #[.int .i64 0, .int .i64 0, .int .i64 0, .slice none 0 0, .slice none 0 0, .int .u64 0] 45

set_option maxRecDepth 100000 in
set_option maxHeartbeats 4000000 in
theorem mkdecl_any (ks : List Nat) (kv : Value) (g : Nat) (w : World) (hn1 : 1 ≤ ks.length) (hn2 : ks.length ≤ 10) (hks : ∀ y ∈ ks, y < 18446744073709551616) (hkv : SlD w (Dm w (some g)) 1 kv (ks.map u64v)) (S0 : SrcR 84 w g) (hT : Tab w) :
    Calls Tryz.prog 17 #[.pointer (some ⟨g, 0, none⟩), kv] w (DeclP w g ks) := by
  have hg := S0.lt
  obtain ⟨A, c, rfl, q1, q2, hc⟩ := keys_open hkv
  obtain ⟨kb, off, rfl, hkb, hcc⟩ := hc (by omega)
  have HKS := Lib.hid hks
  obtain ⟨hkb1, hkb2⟩ := hkb
  have hkg : kb ≠ g := fun e => hkb2 (by rw [e])
  clear hc hks hkv hkb2
  go_enter Tryz.func17, Tryz.ntmps17
  go_wp2_with fail
  generalize hW : w.alloc _ = w1
  have hz : w1.heap.size = w.heap.size + 1 := by rw [← hW]; simp
  have F1 : Fr none w w1 := hW ▸ ((Fr.refl _ w).alloc _)
  have b4 : DB w1 w.heap.size (.int .i64 0) (.int .i64 0) (.int .i64 0) (.slice none 0 0) (.slice none 0 0) (.int .u64 0) := by
    rw [← hW]; exact blk_new _ _
  have S1 := S0.fr F1
  have T1 := hT.fr F1
  clear hW S0
  refine (tapeN_any _ g _ (by omega) (by omega) S1).mono ?_
  rintro e w2 ⟨x, rfl, x1, x2, S2, F2⟩
  obtain ⟨k, rfl⟩ := Int.eq_ofNat_of_zero_le x1
  have hk : k < ks.length := by omega
  have T2 := T1.src S1 F2
  have F12 := (F1.mono (r := some g)).same F2
  have hck := F12.keep (hcc k hk) (by simp; omega)
  have hy := HKS.out ks[k] (List.getElem_mem _)
  obtain ⟨y, hyy⟩ : ∃ y, y = ks[k] := ⟨_, rfl⟩
  rw [← hyy] at hck hy
  have HY := Lib.hid hyy
  have HYL := Lib.hid hy
  have b4w := b4.fr F2 (by simp; omega)
  clear hcc hyy hy S1 T1 b4
  go_wp2_with fail
  have K2 : Kp w2 g kb (off + k) y w2.drew := ⟨hck, S2.drew, (Fr.refl _ _).drew, T2.fr (Fr.refl _ _).drew⟩
  have K2a : Kp w2 g kb (off + k) y (w2.alloc (.cells #[.int .i64 0, .int .i64 0, .int .i64 0, .slice none 0 0, .slice none 0 0, .int .u64 0] 45)).drew := K2.alloc _
  have hz2 := F12.size
  have hgl : g < w2.heap.size := S2.lt
  have hzw : w.heap.size < w2.heap.size := by have := F2.size; omega
  have hkl : kb < w2.heap.size := by omega
  go_region_held3 (fun w' => w'.cell? ⟨kb, off + k, none⟩ = some (.int .u64 (y : Nat)) ∧ Kp w2 g kb (off + k) y w') (first | (with_reducible exact kp_two K2) | (with_reducible exact kp_two K3) | (with_reducible exact kp_two K4) | (with_reducible exact kp_two K5) | (with_reducible exact kp_two K2a) | (with_reducible exact kp_two (K3.alloc _)) | (with_reducible exact kp_two (K4.alloc _)) | (with_reducible exact kp_two (K5.alloc _)) | ((with_reducible refine kp_two (Kp.fill ?_ T2 ?_ hgl hkl (fr_fill6 _ _ _ _ _ _ _ _))); (with_reducible assumption); omega))
    (first | (go_at_call 16; refine (tapeRange_any 1 4 g _ (by omega) (by omega) (by omega) (‹_ ∧ Kp w2 g kb (off + k) y _›).2.2.1).mono ?_; rintro e w3 ⟨sq, rfl, s1, s2, S3, F3⟩; have K3 : Kp w2 g kb (off + k) y w3 := (‹_ ∧ Kp w2 g kb (off + k) y _›).2.src hkg S3 F3; have hz3 := F3.size; (try simp at hz3); first | have e3 : w3.heap[w2.heap.size]? = some (.cells #[.int .i64 0, .int .i64 0, .int .i64 0, .slice none 0 0, .slice none 0 0, .int .u64 0] 45 (0, 0)) := blk_fr (w := (w2.alloc _).drew) (blk_new w2 _) F3 (by simp; omega) | skip) | (go_at_call 68; refine (declared_any ks.length g _ hn1 hn2 (‹_ ∧ Kp w2 g kb (off + k) y _›).2.2.1).mono ?_; rintro e w4 ⟨v, T, rfl, hT4, hv, hd, hz4, S4, F4⟩; obtain ⟨th, A1, n1, c1, A2, n2, c2, rfl⟩ := hT4.shape; have K4 : Kp w2 g kb (off + k) y w4 := (‹_ ∧ Kp w2 g kb (off + k) y _›).2.src hkg S4 F4; have HV := Lib.hid hv; clear hv; have hz5 := F4.size; (try simp at hz5); first | have e4 : w4.heap[w2.heap.size]? = some (.cells #[.int .i64 0, .int .i64 0, .int .i64 0, .slice none 0 0, .slice none 0 0, .int .u64 0] 45 (0, 0)) := blk_fr e3 F4 (by simp; omega) | have e4 : w4.heap[w3.heap.size]? = some (.cells #[.int .i64 0, .int .i64 0, .int .i64 0, .slice none 0 0, .slice none 0 0, .int .u64 0] 45 (0, 0)) := blk_fr (blk_new w3 _) F4 (by simp; omega) | skip) | (go_at_call 30; refine (rsign_any y HYL.out k sq T th A1 n1 c1 A2 n2 c2 _ none ?_ ?_ ?_ ?_ (‹_ ∧ Kp w2 g kb (off + k) y _›).2.2.2.2 ?_).mono ?_; (constructor <;> omega); (constructor <;> omega); omega; (first | exact TrD.keep (dn_dm (by simp)) _ _ hT4 | exact TrD.keep (fr_dm ((Fr.refl none w4).alloc _)) _ _ (TrD.keep (dn_dm (by simp)) _ _ hT4)); exact (plain_mk (by omega) (by omega) s1 (by omega) HV.out hd hz4); rintro e w5 ⟨rfl, F5⟩; have K5 : Kp w2 g kb (off + k) y w5 := (‹_ ∧ Kp w2 g kb (off + k) y _›).2.fr F5; (first | have b5 := blk_fr e4 F5 (by simp) | have b5 : w5.heap[w4.heap.size]? = some (.cells #[.int .i64 0, .int .i64 0, .int .i64 0, .slice none 0 0, .slice none 0 0, .int .u64 0] 45 (0, 0)) := blk_fr (blk_new w4 _) F5 (by simp) | skip); (try have R6 := blk_cell b5); (try have Z6 := blk_free b5); have d4 := b4w.fr K5.2.2.1 (by simp; omega); have S5 := K5.2.1; have F25 := K5.2.2.1; have F45 : Fr none w4 w5 := (by first | exact F5 | exact ((Fr.refl none w4).alloc _).pure F5); obtain ⟨b0, hb0, hT5⟩ : ∃ b0, b0 = _ ∧ TrD w4 (Dn b0 w4) (.agg #[.int .i64 th, .slice A1 n1 c1, .slice A2 n2 c2]) T := ⟨_, rfl, hT4⟩; (try simp at hb0); have hz6 := F45.size))
  · generalize hw6 : World.alloc w5 _ = w6
    have F6 : Fr (some w5.heap.size) w5 w6 := by rw [← hw6]; exact ((Fr.refl none w5).alloc _).mono
    have b6 : DB w6 w5.heap.size (.int .i64 (k : Int)) (.int .i64 sq) (.int .i64 th) (.slice A1 n1 c1) (.slice A2 n2 c2) (.int .u64 (tagS y (bytesS ⟨k, sq, T, 0⟩) : Nat)) := by rw [← hw6]; exact blk_new _ _
    obtain ⟨B, hB0⟩ : ∃ B, B = w5.heap.size := ⟨_, rfl⟩
    rw [← hB0] at b6 F6 ⊢
    have hB : B < b0 ∨ w4.heap.size ≤ B := by omega
    have hB2 : w2.heap.size ≤ B := by omega
    clear hB0 hw6
    have d6 := d4.fr F6 (by simp; omega)
    have R6' := b6.cell
    have Q6 := d6.cell
    have W6 := d6.free
    have hd2 := hd
    go_wp2_with fail
    refine bodyPost_ret (v := .agg #[.int .i64 (k : Int), .int .i64 sq, .int .i64 th, .slice A1 n1 c1, .slice A2 n2 c2, .int .u64 (tagS y (bytesS ⟨k, sq, T, 0⟩) : Nat)]) (by simp [results, Tryz.results17, go_sem, Q6]) rfl ?_
    have F7 := fr_fill6 w6 w.heap.size (.int .i64 (k : Int)) (.int .i64 sq) (.int .i64 th) (.slice A1 n1 c1) (.slice A2 n2 c2) (.int .u64 (tagS y (bytesS ⟨k, sq, T, 0⟩) : Nat))
    have FF : Fr (some g) w2 w6 := F25.new F6 hB2
    refine ⟨_, k, hk, sq, T, rfl, s1, s2, HV.out, hd, hz4, ?_, (S5.frs F6 (by simp; omega)).frs F7 (by simp; omega), (F12.same FF).own F7 (by simp)⟩
    rw [← HY.out]
    exact ded_mk (trd_end hT5 F45 F6 F7 hB (by omega) (by omega)) ⟨by omega, by omega⟩ ⟨by omega, by omega⟩ (tagS_lt _ _)
  · generalize hw6 : World.setCell (World.setCell (World.setCell (World.setCell (World.setCell (World.setCell w5 _ _) _ _) _ _) _ _) _ _) _ _ = w6
    have F6 : Fr (some w4.heap.size) w5 w6 := by rw [← hw6]; exact fr_fill6 _ _ _ _ _ _ _ _
    have b6 : DB w6 w4.heap.size (.int .i64 (k : Int)) (.int .i64 sq) (.int .i64 th) (.slice A1 n1 c1) (.slice A2 n2 c2) (.int .u64 (tagS y (bytesS ⟨k, sq, T, 0⟩) : Nat)) := by rw [← hw6]; exact db_fill b5 _ _ _ _ _ _
    obtain ⟨B, hB0⟩ : ∃ B, B = w4.heap.size := ⟨_, rfl⟩
    rw [← hB0] at b6 F6 ⊢
    have hB : B < b0 ∨ w4.heap.size ≤ B := by omega
    have hB2 : w2.heap.size ≤ B := by omega
    clear hB0 hw6 R6 Z6
    have d6 := d4.fr F6 (by simp; omega)
    have R6' := b6.cell
    have Q6 := d6.cell
    have W6 := d6.free
    have hd2 := hd
    go_wp2_with fail
    refine bodyPost_ret (v := .agg #[.int .i64 (k : Int), .int .i64 sq, .int .i64 th, .slice A1 n1 c1, .slice A2 n2 c2, .int .u64 (tagS y (bytesS ⟨k, sq, T, 0⟩) : Nat)]) (by simp [results, Tryz.results17, go_sem, Q6]) rfl ?_
    have F7 := fr_fill6 w6 w.heap.size (.int .i64 (k : Int)) (.int .i64 sq) (.int .i64 th) (.slice A1 n1 c1) (.slice A2 n2 c2) (.int .u64 (tagS y (bytesS ⟨k, sq, T, 0⟩) : Nat))
    have FF : Fr (some g) w2 w6 := F25.new F6 hB2
    refine ⟨_, k, hk, sq, T, rfl, s1, s2, HV.out, hd, hz4, ?_, (S5.frs F6 (by simp; omega)).frs F7 (by simp; omega), (F12.same FF).own F7 (by simp)⟩
    rw [← HY.out]
    exact ded_mk (trd_end hT5 F45 F6 F7 hB (by omega) (by omega)) ⟨by omega, by omega⟩ ⟨by omega, by omega⟩ (tagS_lt _ _)
  · generalize hw6 : World.setCell (World.setCell (World.setCell (World.setCell (World.setCell (World.setCell w5 _ _) _ _) _ _) _ _) _ _) _ _ = w6
    have F6 : Fr (some w3.heap.size) w5 w6 := by rw [← hw6]; exact fr_fill6 _ _ _ _ _ _ _ _
    have b6 : DB w6 w3.heap.size (.int .i64 (k : Int)) (.int .i64 sq) (.int .i64 th) (.slice A1 n1 c1) (.slice A2 n2 c2) (.int .u64 (tagS y (bytesS ⟨k, sq, T, 0⟩) : Nat)) := by rw [← hw6]; exact db_fill b5 _ _ _ _ _ _
    obtain ⟨B, hB0⟩ : ∃ B, B = w3.heap.size := ⟨_, rfl⟩
    rw [← hB0] at b6 F6 ⊢
    have hB : B < b0 ∨ w4.heap.size ≤ B := by omega
    have hB2 : w2.heap.size ≤ B := by omega
    clear hB0 hw6 R6 Z6
    have d6 := d4.fr F6 (by simp; omega)
    have R6' := b6.cell
    have Q6 := d6.cell
    have W6 := d6.free
    have hd2 := hd
    go_wp2_with fail
    refine bodyPost_ret (v := .agg #[.int .i64 (k : Int), .int .i64 sq, .int .i64 th, .slice A1 n1 c1, .slice A2 n2 c2, .int .u64 (tagS y (bytesS ⟨k, sq, T, 0⟩) : Nat)]) (by simp [results, Tryz.results17, go_sem, Q6]) rfl ?_
    have F7 := fr_fill6 w6 w.heap.size (.int .i64 (k : Int)) (.int .i64 sq) (.int .i64 th) (.slice A1 n1 c1) (.slice A2 n2 c2) (.int .u64 (tagS y (bytesS ⟨k, sq, T, 0⟩) : Nat))
    have FF : Fr (some g) w2 w6 := F25.new F6 hB2
    refine ⟨_, k, hk, sq, T, rfl, s1, s2, HV.out, hd, hz4, ?_, (S5.frs F6 (by simp; omega)).frs F7 (by simp; omega), (F12.same FF).own F7 (by simp)⟩
    rw [← HY.out]
    exact ded_mk (trd_end hT5 F45 F6 F7 hB (by omega) (by omega)) ⟨by omega, by omega⟩ ⟨by omega, by omega⟩ (tagS_lt _ _)
  · generalize hw6 : World.setCell (World.setCell (World.setCell (World.setCell (World.setCell (World.setCell w5 _ _) _ _) _ _) _ _) _ _) _ _ = w6
    have F6 : Fr (some w2.heap.size) w5 w6 := by rw [← hw6]; exact fr_fill6 _ _ _ _ _ _ _ _
    have b6 : DB w6 w2.heap.size (.int .i64 (k : Int)) (.int .i64 sq) (.int .i64 th) (.slice A1 n1 c1) (.slice A2 n2 c2) (.int .u64 (tagS y (bytesS ⟨k, sq, T, 0⟩) : Nat)) := by rw [← hw6]; exact db_fill b5 _ _ _ _ _ _
    obtain ⟨B, hB0⟩ : ∃ B, B = w2.heap.size := ⟨_, rfl⟩
    rw [← hB0] at b6 F6 ⊢
    have hB : B < b0 ∨ w4.heap.size ≤ B := by omega
    have hB2 : w2.heap.size ≤ B := by omega
    clear hB0 hw6 R6 Z6
    have d6 := d4.fr F6 (by simp; omega)
    have R6' := b6.cell
    have Q6 := d6.cell
    have W6 := d6.free
    have hd2 := hd
    go_wp2_with fail
    refine bodyPost_ret (v := .agg #[.int .i64 (k : Int), .int .i64 sq, .int .i64 th, .slice A1 n1 c1, .slice A2 n2 c2, .int .u64 (tagS y (bytesS ⟨k, sq, T, 0⟩) : Nat)]) (by simp [results, Tryz.results17, go_sem, Q6]) rfl ?_
    have F7 := fr_fill6 w6 w.heap.size (.int .i64 (k : Int)) (.int .i64 sq) (.int .i64 th) (.slice A1 n1 c1) (.slice A2 n2 c2) (.int .u64 (tagS y (bytesS ⟨k, sq, T, 0⟩) : Nat))
    have FF : Fr (some g) w2 w6 := F25.new F6 hB2
    refine ⟨_, k, hk, sq, T, rfl, s1, s2, HV.out, hd, hz4, ?_, (S5.frs F6 (by simp; omega)).frs F7 (by simp; omega), (F12.same FF).own F7 (by simp)⟩
    rw [← HY.out]
    exact ded_mk (trd_end hT5 F45 F6 F7 hB (by omega) (by omega)) ⟨by omega, by omega⟩ ⟨by omega, by omega⟩ (tagS_lt _ _)
end Go.Proofs.YtoblhcieidljjaaGreatDoor

/- Walks: declaration.Check. -/
namespace Go.Proofs.YtoblhcieidljjaaGreatDoor
open Go.RowKit

/-- What Check returns for a plain declaration. -/
def chkE (ks : List Nat) (d : De) : Int := if (ks.length : Int) ≤ d.node then 10 else if d.tag = tagS (ks.getD d.node.toNat 0) (bytesS d) then 0 else 8

set_option maxRecDepth 100000 in
set_option maxHeartbeats 2000000 in
theorem check_any (ks : List Nat) (kv : Value) (d : De) (v : Value) (w : World) (r : Option Nat) (hks : ∀ y ∈ ks, y < 18446744073709551616) (hkv : SlD w (Dm w none) 1 kv (ks.map u64v)) (h : DeD w (Dm w r) v d) (hp : plainE d = 0) (hT : Tab w) :
    Calls Tryz.prog 27 #[kv, v] w fun e w' => e = .returned (.int .i64 (chkE ks d)) ∧ Fr none w w' := by
  obtain ⟨hn0, hs0, hv0, hd0, hz0⟩ := plain_parts hp
  obtain ⟨th, A1, n1, c1, A2, n2, c2, rfl, hTr, hn, hq, ht⟩ := h.shape
  obtain ⟨A, c, rfl, q1, q2, hc⟩ := keys_open hkv
  have F1 := (Fr.refl none w).alloc (.cells #[.int .i64 d.node, .int .i64 d.seq, .int .i64 th, .slice A1 n1 c1, .slice A2 n2 c2, .int .u64 d.tag] 45)
  have h1 : DeD _ (Dm _ r) _ d := h.keep (fr_dm (F1.mono (r := r)))
  have T1 := hT.fr F1
  have hs : d.tr.size ≤ 1073741000 := by omega
  have HKS := Lib.hid hks
  have HP := Lib.hid hp
  have HT := Lib.hid ht
  obtain ⟨nd, hnd⟩ := Int.eq_ofNat_of_zero_le hn0.1
  have hbl := bytes_len d
  obtain ⟨L, hL⟩ : ∃ L, L = bytesS d := ⟨_, rfl⟩
  rw [← hL] at hbl
  have HL := Lib.hid hL
  obtain ⟨tg, htg⟩ : ∃ tg, tg = d.tag := ⟨_, rfl⟩
  have HTG := Lib.hid htg
  rw [← htg] at F1 h1 T1 ⊢
  have HND := Lib.hid hnd
  rw [hnd] at F1 h1 T1 ⊢
  clear hks hp ht hL htg hTr h hkv hnd hT
  go_enter Tryz.func27, Tryz.ntmps27
  go_wp2_with fail
  generalize hW : w.alloc _ = w1 at *
  have b3 : DB w1 w.heap.size (.int .i64 (nd : Int)) (.int .i64 d.seq) (.int .i64 th) (.slice A1 n1 c1) (.slice A2 n2 c2) (.int .u64 (tg : Nat)) := by rw [← hW]; exact blk_new _ _
  clear hW
  refine (plain_any d _ _ r hs h1).mono ?_
  rintro e w2 ⟨rfl, F2⟩
  rw [HP.out]
  have c3 := b3.fr F2 (by simp)
  have h2 := h1.keep (fr_dm (F2.mono (r := r)))
  have T2 := T1.fr F2
  have F12 := F1.pure F2
  have R3 := c3.cell
  clear h1 T1
  by_cases hlen : ks.length ≤ nd
  · have HE : Hid (chkE ks d = 10) := by unfold Hid chkE; rw [HND.out, if_pos (by omega)]
    go_wp2_with fail
    go_ret
    exact ⟨ret_int (by rw [HE.out]), F12⟩
  · have hk : nd < ks.length := by omega
    obtain ⟨kb, off, rfl, hkb, hcc⟩ := hc (by omega)
    have hck := F12.keep (hcc nd hk) (by simp)
    have hy := HKS.out ks[nd] (List.getElem_mem _)
    obtain ⟨y, hyy⟩ : ∃ y, y = ks[nd] := ⟨_, rfl⟩
    rw [← hyy] at hck hy
    have HY := Lib.hid hyy
    have HYL := Lib.hid hy
    have q0 : w2.drew.cell? ⟨w.heap.size, 0, none⟩ = some (.int .i64 (nd : Int)) := R3 0
    have q1' : w2.drew.cell? ⟨w.heap.size, 1, none⟩ = some (.int .i64 d.seq) := R3 1
    have q2' : w2.drew.cell? ⟨w.heap.size, 2, none⟩ = some (.int .i64 th) := R3 2
    have q3 : w2.drew.cell? ⟨w.heap.size, 3, none⟩ = some (.slice A1 n1 c1) := R3 3
    have q4 : w2.drew.cell? ⟨w.heap.size, 4, none⟩ = some (.slice A2 n2 c2) := R3 4
    have q5 : w2.drew.cell? ⟨w.heap.size, 5, none⟩ = some (.int .u64 (tg : Nat)) := R3 5
    have q6 : w2.drew.cell? ⟨kb, off + nd, none⟩ = some (.int .u64 (y : Nat)) := hck
    have HE : Hid (chkE ks d = if tg = tagS y L then 0 else 8) := by
      unfold Hid chkE
      rw [HND.out, if_neg (by omega), ← HTG.out, ← HL.out]
      have : ks.getD (nd : Int).toNat 0 = y := by rw [Int.toNat_natCast, List.getD_eq_getElem?_getD, List.getElem?_eq_getElem hk, HY.out]; rfl
      rw [this]
    clear hcc hyy hy hck
    have Fd : Fr none w2 w2.drew := (Fr.refl _ _).drew
    go_wp2_with fail
    go_region_held3 (fun w' => w'.cell? ⟨w.heap.size, 0, none⟩ = some (.int .i64 (nd : Int)) ∧ w'.cell? ⟨w.heap.size, 1, none⟩ = some (.int .i64 d.seq) ∧ w'.cell? ⟨w.heap.size, 2, none⟩ = some (.int .i64 th) ∧ w'.cell? ⟨w.heap.size, 3, none⟩ = some (.slice A1 n1 c1) ∧ w'.cell? ⟨w.heap.size, 4, none⟩ = some (.slice A2 n2 c2) ∧ w'.cell? ⟨w.heap.size, 5, none⟩ = some (.int .u64 (tg : Nat)) ∧ w'.cell? ⟨kb, off + nd, none⟩ = some (.int .u64 (y : Nat))) (first | (with_reducible exact ⟨q0, q1', q2', q3, q4, q5, q6⟩) | (with_reducible exact KK) | (with_reducible exact K2))
      (first | (go_at_call 21; refine (bytes_any d _ _ r hs (h2.keep (fr_dm (Fd.mono (r := r)))) (T2.fr Fd)).mono ?_; rintro e w3 ⟨S, rfl, hS, hSs, F3⟩; have HS := Lib.hid hS; clear hS; have KK := And.intro (F3.keep q0 (by simp)) (And.intro (F3.keep q1' (by simp)) (And.intro (F3.keep q2' (by simp)) (And.intro (F3.keep q3 (by simp)) (And.intro (F3.keep q4 (by simp)) (And.intro (F3.keep q5 (by simp)) (F3.keep q6 (by simp)))))))) | (go_at_call 39; refine (tag_any y HYL.out S _ (by omega)).mono ?_; rintro e w4 ⟨rfl, F4⟩; obtain ⟨z, hz⟩ : ∃ z, z = tagS y S.data.toList := ⟨_, rfl⟩; rw [← hz]; have HZ := Lib.hid hz; clear hz; have K2 := And.intro (F4.keep KK.1 (by simp)) (And.intro (F4.keep KK.2.1 (by simp)) (And.intro (F4.keep KK.2.2.1 (by simp)) (And.intro (F4.keep KK.2.2.2.1 (by simp)) (And.intro (F4.keep KK.2.2.2.2.1 (by simp)) (And.intro (F4.keep KK.2.2.2.2.2.1 (by simp)) (F4.keep KK.2.2.2.2.2.2 (by simp)))))))))
    have hzL : z = tagS y L := by rw [HZ.out, HS.out, bs_list, HL.out]
    have FF : Fr none w w4 := ((F12.pure Fd).pure F3).pure F4
    rw [← hzL] at HE
    clear hzL KK K2
    by_cases heq : tg = z
    · have hb : ((tg : Int) != (z : Int)) = false := by rw [heq]; simp
      have HF : Hid (chkE ks d = 0) := by unfold Hid; rw [HE.out, if_pos heq]
      clear heq
      go_wp2_with fail
      go_ret
      exact ⟨ret_int (by rw [HF.out]), FF⟩
    · have hb : ((tg : Int) != (z : Int)) = true := by rw [bne_iff_ne]; omega
      have HF : Hid (chkE ks d = 8) := by unfold Hid; rw [HE.out, if_neg heq]
      clear heq
      go_wp2_with fail
      go_ret
      exact ⟨ret_int (by rw [HF.out]), FF⟩
end Go.Proofs.YtoblhcieidljjaaGreatDoor

/- Walks: declaration.copied: a trust that shares no memory. -/
namespace Go.Proofs.YtoblhcieidljjaaGreatDoor
open Go.RowKit

/-- append of any slice, as a step of a region that draws its order. -/
theorem step_app_any {P : Program} {t e : TypeId} {size bytes : Nat} (E : EInfo P t e size bytes) {w : World} {ops : Array Oper} {o : Oper} {a : Act} {K : Act → World → Prop} {Q : Exit → Act → World → Prop} {E' : Prop} (hgd : o.guard = none) (s x : Operand)
    (ho : o.op = .call { callee := .builtin .append, args := #[s, x], argTypes := #[t, t] })
    (base : Nat) (A : Option Addr) (n c : Nat) (xs : List Value) (hs : a.eval s = .slice A n c) (hown : w.ownsRow base e size (.slice A n c) n xs)
    (B : Option Addr) (m d : Nat) (news : List Value) (hx : a.eval x = .slice B m d) (hr : SlD w (fun _ => True) size (.slice B m d) news) (h1 : ∀ u ∈ news, u.oneCell' = true) (hb : (n + m) * bytes ≤ 140737488355328) (h63 : n + m ≤ maxLen) (hbase : base ≤ w.heap.size)
    (h : ∀ A' c' w', w'.ownsRow base e size (.slice A' (n + m) c') (n + m) (xs ++ news) → Fr (Value.slice A n c).ownBlock w w' → NewOr w.heap.size (.slice A n c) (.slice A' (n + m) c') → K (a.put o.dst (.slice A' (n + m) c')) w') :
    if Region.wanted o (yielded ops a.tmps) = true then Oper.wp P o a w K Q else E' := by
  have hw : Region.wanted o (yielded ops a.tmps) = true := by simp [Region.wanted, hgd]
  rw [if_pos hw]
  obtain ⟨A', c', w', hr, h2, h3, h4⟩ := app_run (P := P) (ty := o.type) E w base A n c xs hown B m d news hr h1 hb h63 hbase
  unfold Oper.wp execOp
  simp only [ho, resolve, invoke, builtin, Sem.run_bind, Sem.run_pure, Result.andThen_ok, List.map_toArray, List.map_cons, List.map_nil, hs, hx, hr]
  refine h A' c' w' h2 h3 ?_
  rcases h4 with bl' | bl'
  · exact .inl bl'
  · exact .inr ⟨_, bl', Nat.le_refl _⟩
/-- A copy of a trust, in memory of its own. -/
def CopyP (w : World) (t : Tr) (e : Ending) (w' : World) : Prop := ∃ v, e = .returned v ∧ TrD w' (Dn w.heap.size w') v t ∧ Fr none w w'

/-- The copy, before its inner trusts are there. -/
def CMid (w1 : World) (thr : Int) (nodes : List Int) (s : Value) (wr : World) : Prop := ∃ (B : Nat) (A5 : Option Addr) (c5 : Nat), s = .pointer (some ⟨B, 0, none⟩) ∧
  Fr none w1 wr ∧ w1.heap.size ≤ B ∧ B < wr.heap.size ∧ TB wr B (.int .i64 thr) (.slice A5 nodes.length c5) (.slice none 0 0) ∧ SlD wr (fun b => w1.heap.size ≤ b ∧ b < wr.heap.size ∧ b ≠ B) 1 (.slice A5 nodes.length c5) (nodes.map (Value.int .i64))
theorem cmid_x {w1 w5 : World} {thr : Int} {nodes : List Int} {A5 : Option Addr} {c5 : Nat} (F : Fr none w1 w5) (own : w5.ownsRow w1.heap.size 3 1 (.slice A5 nodes.length c5) nodes.length (nodes.map (Value.int .i64))) :
    CMid w1 thr nodes (.pointer (some ⟨w5.heap.size, 0, none⟩)) (w5.alloc (.cells #[.int .i64 thr, .slice A5 nodes.length c5, .slice none 0 0] 31)) :=
  ⟨_, A5, c5, rfl, F.alloc _, F.size, by simp, blk_new _ _, (SlD.own_dn own).keep fun k hk => ⟨⟨hk.1, by have := hk.2; simp; omega, by have := hk.2; omega⟩, ((Fr.refl none w5).alloc _).block k hk.2 (by simp)⟩⟩
theorem tb_fill {w : World} {b : Nat} {z0 z1 z2 : Value} (h : TB w b z0 z1 z2) (x0 x1 x2 : Value) : TB (((w.setCell ⟨b, 0, none⟩ x0).setCell ⟨b, 1, none⟩ x1).setCell ⟨b, 2, none⟩ x2) b x0 x1 x2 := by
  have := blk_set (blk_set (blk_set h 0 x0) 1 x1) 2 x2
  simpa [TB] using this
theorem cmid_y {w1 w5 : World} {thr : Int} {nodes : List Int} {A5 : Option Addr} {c5 : Nat} {z0 z1 z2 : Value} (F : Fr none w1 w5) (own : w5.ownsRow (w1.heap.size + 1) 3 1 (.slice A5 nodes.length c5) nodes.length (nodes.map (Value.int .i64))) (hb : TB w5 w1.heap.size z0 z1 z2) :
    CMid w1 thr nodes (.pointer (some ⟨w1.heap.size, 0, none⟩)) (((w5.setCell ⟨w1.heap.size, 0, none⟩ (.int .i64 thr)).setCell ⟨w1.heap.size, 1, none⟩ (.slice A5 nodes.length c5)).setCell ⟨w1.heap.size, 2, none⟩ (.slice none 0 0)) := by
  have G := fr_fill3 w5 w1.heap.size (.int .i64 thr) (.slice A5 nodes.length c5) (.slice none 0 0)
  have hz := G.size
  have hlt := blk_lt hb
  exact ⟨_, A5, c5, rfl, F.own G (by simp), Nat.le_refl _, by omega, tb_fill hb _ _ _, (SlD.own_dn own).keep fun k hk => ⟨⟨by have := hk.1; omega, by have := hk.2; omega, by have := hk.1; omega⟩, G.block k hk.2 (by have := hk.1; simp; omega)⟩⟩

set_option maxRecDepth 100000 in
set_option maxHeartbeats 4000000 in
theorem copied_any (d : Nat) : ∀ (t : Tr) (v : Value) (w : World) (r : Option Nat), t.dep ≤ d → TrR w r v t →
    Calls Tryz.prog 84 #[v] w (CopyP w t) := by
  induction d with
  | zero =>
    intro t v w r hd
    cases t
    simp [Tr.dep] at hd
  | succ d ih =>
    intro t v w r hd h
    obtain ⟨thr, nodes, inner⟩ := t
    obtain ⟨A, c, A', c', rfl, hthr, hn, hn2, hi2, hi3, hi4, hcell⟩ := h.open_
    have hdi : depL inner ≤ d := by simp only [Tr.dep] at hd; omega
    have hn2' := hn.2
    clear hd
    go_enter Tryz.func84, Tryz.ntmps84
    go_upto_region 1 with (fail)
    generalize hW : (w.alloc _).alloc _ = w1
    have hz : w1.heap.size = w.heap.size + 2 := by rw [← hW]; simp
    have F1 : Fr none w w1 := hW ▸ ((Fr.refl _ w).alloc _).alloc _
    have b1 : TB w1 w.heap.size (.int .i64 thr) (.slice A nodes.length c) (.slice A' inner.length c') := by
      rw [← hW]; exact (Below.heap_alloc _ _ _ (by simp)).trans (blk_new _ _)
    have b2 : TB w1 (w.heap.size + 1) (.int .i64 0) (.slice none 0 0) (.slice none 0 0) := by
      rw [← hW]; exact blk_new_at (by simp) _
    have hn' := hn.fr (F1.mono (r := r))
    have hs1 : SlD w1 (fun _ => True) 1 (.slice A nodes.length c) (nodes.map (Value.int .i64)) := hn'.1.any
    have hs1a : SlD (w1.alloc (.cells #[.int .i64 0, .slice none 0 0, .slice none 0 0] 31)).drew (fun _ => True) 1 (.slice A nodes.length c) (nodes.map (Value.int .i64)) := ((hn'.fr ((Fr.refl r w1).alloc _)).1.keep (fun k hk => ⟨trivial, rfl⟩))
    have hs1d : SlD w1.drew (fun _ => True) 1 (.slice A nodes.length c) (nodes.map (Value.int .i64)) := hs1.keep (fun k hk => ⟨trivial, rfl⟩)
    have R1 := b1.cell
    have Z1 := b1.free
    have h1c : ∀ u ∈ nodes.map (Value.int .i64), u.oneCell' = true := fun u hu => by
      obtain ⟨x, _, rfl⟩ := List.mem_map.1 hu
      simp [Value.oneCell']
    have H1C := Lib.hid h1c
    clear hW hn hs1 h1c
    have hlt1 : w.heap.size + 2 ≤ w1.heap.size := by omega
    have hlt0 : w.heap.size < w1.heap.size := by omega
    have hlt2 : w.heap.size + 1 < w1.heap.size := by omega
    clear hz
    go_cut [3, 6, 7, 8, 9, 10, 11] (fun s3 _ _ _ _ _ _ wr => CMid w1 thr nodes s3 wr)
    case first =>
     go_region_law (first
      | (refine step_app_any eiInt rfl _ _ rfl w1.heap.size none 0 0 [] rfl (World.ownsRow_nil _ _ _ _) A nodes.length c _ rfl hs1d H1C.out (by omega) (by unfold maxLen; omega) (by simp) ?_; intro A5 c5 w5 own5 F5 bl5; have F5' : Fr none w1 w5 := (Fr.refl none w1).drew.pure F5; have X1 := (b1.fr F5' (by simp)).cell; have hl5 : w.heap.size < w5.heap.size := (by have := F5'.size; omega))
      | (refine step_app_any eiInt rfl _ _ rfl (w1.heap.size + 1) none 0 0 [] rfl (World.ownsRow_nil _ _ _ _) A nodes.length c _ rfl hs1a H1C.out (by omega) (by unfold maxLen; omega) (by simp) ?_; intro A5 c5 w5 own5 F5 bl5; have b3 : TB w5 w1.heap.size (.int .i64 0) (.slice none 0 0) (.slice none 0 0) := blk_fr (w := (w1.alloc _).drew) (blk_new w1 _) F5 (by simp [Value.ownBlock]); have X3 := b3.cell; have X2 := b3.free; have F5' : Fr none w1 w5 := ((Fr.refl none w1).alloc _).drew.pure F5; have X1 := (b1.fr F5' (by simp)).cell; have hl5 : w.heap.size < w5.heap.size := (by have := F5'.size; omega)))
     all_goals
      go_wp2_with fail
      go_meet
      simp only [Nat.zero_add, List.nil_append] at own5
      first | exact cmid_x F5' own5 | exact cmid_y F5' own5 b3
    case rest =>
      obtain ⟨B, A5, c5, rfl, FM, hB1, hB2, tB, sN⟩ := hcut
      have bM1 := b1.fr FM (by simp)
      have bM2 := b2.fr FM (by simp)
      have RM := bM1.cell
      have hzM := FM.size
      clear R1 Z1 hs1a hs1d H1C hn' b1
      go_wp2_with fail
      go_loopw [15] (fun i wr => ∃ (k : Nat) (A2 : Option Addr) (c2 : Nat) (cells : List Value), k ≤ inner.length ∧ i = .int .i64 k ∧ Fr none w1 wr ∧ wc.heap.size ≤ wr.heap.size ∧ TB wr B (.int .i64 thr) (.slice A5 nodes.length c5) (.slice A2 k c2) ∧ TB wr (w.heap.size + 1) (.int .i64 0) (.slice none 0 0) (.slice none 0 0) ∧ SlD wr (fun b => w1.heap.size ≤ b ∧ b < wc.heap.size ∧ b ≠ B) 1 (.slice A5 nodes.length c5) (nodes.map (Value.int .i64)) ∧ wr.ownsRow wc.heap.size 31 3 (.slice A2 k c2) k cells ∧ TrsD wr (Dx wc.heap.size wr (.slice A2 k c2)) cells (inner.take k)) (fun i _ => inner.length - (intOf i).toNat)
      case atStart => exact ⟨0, none, 0, [], Nat.zero_le _, rfl, FM, Nat.le_refl _, tB, bM2, sN, World.ownsRow_nil _ _ _ _, by simp [TrsD]⟩
      case round =>
        clear FM tB sN bM1 bM2 RM
        obtain ⟨k, A2, c2, cells, hk, rfl, F, hwc, tB, t2, sN, own, hts⟩ := hrel
        by_cases hlt : k < inner.length
        · obtain ⟨gb, off, rfl, hb, hbr, hc⟩ := hcell (by omega)
          obtain ⟨x, y, z, g0, g1, g2, gt⟩ := hc k hlt
          obtain ⟨th, a1, m1, e1, a2, m2, e2, rfl, rfl, rfl⟩ := gt.shape
          have F3 := F1.pure F
          have g0' := F3.keep g0 (by simp)
          have g1' := F3.keep g1 (by simp)
          have g2' := F3.keep g2 (by simp)
          have hdd : (inner[k]).dep ≤ d := by have := depL_get inner k hlt; omega
          have gt' := (gt.fr (F3.mono (r := r)))
          have htk : inner.take (k + 1) = inner.take k ++ [inner[k]] := List.take_succ_eq_append_getElem hlt
          have HTK := Lib.hid htk
          clear g0 g1 g2 hc htk
          go_upto_region 5 with (fail)
          generalize hW : wr.alloc _ = wq
          have Fq : Fr none wr wq := hW ▸ (Fr.refl none wr).alloc _
          have b5 : TB wq wr.heap.size (.int .i64 th) (.slice a1 m1 e1) (.slice a2 m2 e2) := by rw [← hW]; exact blk_new _ _
          have hzq := Fq.size
          have hzl : wr.heap.size < wq.heap.size := blk_lt b5
          have gq : TrR wq.drew r (.agg #[.int .i64 th, .slice a1 m1 e1, .slice a2 m2 e2]) inner[k] := (gt'.fr (Fq.mono (r := r))).fr (Fr.refl _ _).drew
          have K7 := tB.fr Fq (by simp)
          have R5 := b5.cell
          have R7 := K7.cell
          have Z7 := K7.free
          have ownq := own_fr own Fq (by simp)
          clear hW g0' g1' g2' gt gt'
          go_region_law (first
            | (go_simp; go_at_call 84; refine (ih inner[k] _ _ r hdd (by exact gq)).mono ?_; rintro e w3 ⟨v3, rfl, hT3, F3'⟩; obtain ⟨th', a1', n1', e1', a2', n2', e2', rfl⟩ := hT3.shape; have F3' := ((Fr.refl none wq).drew).pure F3'; have T3x := K7.fr F3' (by simp); have R3 := T3x.cell; have Z3 := T3x.free; have own3 := own_fr ownq F3' (by simp); have hz3 := F3'.size; have hB3 : B < w3.heap.size := (by omega))
            | (refine step_app_lit eiTrust rfl _ _ rfl wc.heap.size A2 k c2 _ rfl own3 1 [.int .i64 th', .slice a1' n1' e1', .slice a2' n2' e2'] 31 _ rfl (by simp) rfl (by simp [Value.oneCell']) (by omega) (by unfold maxLen; omega) (by omega) ?_; intro A3 c3 w5 own5 F5 bl5; have T5 := T3x.fr F5 (own_ne own3 (by omega)); have R6 := T5.cell; have Z6 := T5.free))
          all_goals
            go_wp2_with fail
            have FS := Fr.set1 w5 ⟨B, 2, none⟩ (.slice A3 (k + 1) c3)
            have og := own_blk_ge own3
            have ol := own.lt
            have hz5 := F5.size
            have hzS := FS.size
            go_roundw
            case rel =>
              have t1 := (TrsD.keep (dx_fr FS (by simp; omega)) _ _ (TrsD.keep (dx_app F5 bl5) _ _ (TrsD.keep (dx_fr F3' (by simp)) _ _ (TrsD.keep (dx_fr Fq (by simp)) _ _ hts))))
              have t3 := TrD.keep (dx_fr FS (by simp; omega)) _ _ (TrD.keep (dx_app F5 bl5) _ _ (TrD.keep (dn_dx (B := wc.heap.size) (v := .slice A2 k c2) (by simp; omega) (fun q hq => by have := (ol q hq).2; simp; omega)) _ _ hT3))
              refine ⟨k + 1, A3, c3, cells ++ [.int .i64 th', .slice a1' n1' e1', .slice a2' n2' e2'], by omega, by go_num, (((F.pure Fq).pure F3').own F5 (fun q e => by have := og q e; omega)).own FS (by simp; omega), by omega, T5.set2 _, (((t2.fr Fq (by simp)).fr F3' (by simp)).fr F5 (own_ne own3 (by omega))).fr FS (by simp; omega), ?_, own_fr own5 FS (by simp; omega), by rw [HTK.out]; exact TrsD.append t1 (by simp only [TrsD]; exact ⟨_, _, _, [], rfl, t3, rfl⟩)⟩
              exact (((sN.keep (fun q hq => ⟨hq, Fq.block q (by omega) (by simp)⟩)).keep (fun q hq => ⟨hq, F3'.block q (by omega) (by simp)⟩)).keep (fun q hq => ⟨hq, F5.block q (by omega) (fun e => by have := og q e.symm; omega)⟩)).keep (fun q hq => ⟨hq, FS.block q (by omega) (by simp; omega)⟩)
            case measure => simp [intOf]; omega
        · obtain rfl : k = inner.length := by omega
          have R7 := tB.cell
          have R2 := t2.cell
          have Z2 := t2.free
          go_wp2_with fail
          refine bodyPost_ret (v := .agg #[.int .i64 thr, .slice A5 nodes.length c5, .slice A2 inner.length c2]) (by simp [results, Tryz.results84, go_sem, R2]) rfl ?_
          have G := fr_fill3 wr (w.heap.size + 1) (.int .i64 thr) (.slice A5 nodes.length c5) (.slice A2 inner.length c2)
          rw [List.take_length] at hts
          have hzG := G.size
          refine ⟨_, rfl, TrD.mk_ hthr (sN.keep (fun q hq => ⟨⟨by omega, by omega⟩, G.block q (by omega) (by simp; omega)⟩)) hn2' ((SlD.own_dn own).keep (fun q hq => ⟨⟨by have := hq.1; omega, by have := hq.2; omega⟩, G.block q hq.2 (by have := hq.1; simp; omega)⟩)) hn2 hi2 (TrsD.keep (fun q hq => ⟨⟨by have := hq.1; omega, by have := hq.2.1; omega⟩, G.block q hq.2.1 (by have := hq.1; simp; omega)⟩) _ _ hts), ?_⟩
          exact (F1.pure F).own G (by simp)
end Go.Proofs.YtoblhcieidljjaaGreatDoor

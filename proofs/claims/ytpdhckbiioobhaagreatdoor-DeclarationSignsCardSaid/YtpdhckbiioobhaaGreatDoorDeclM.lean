/- Walks: mk.Declaration; declaration.Check. -/
import Derived.Test.YtpdhckbiioobhaaGreatDoorProg
import Derived.Test.YtpdhckbiioobhaaGreatDoorDeclK
namespace Go.Proofs.YtpdhckbiioobhaaGreatDoor
open Go.RowKit

theorem plain_mk {nd sq : Int} {t : Tr} {tg : Nat} (h1 : 0 ≤ nd) (h2 : nd < 10) (h3 : 1 ≤ sq) (h4 : sq ≤ 30) (hv : validE t = 0) (hd : t.dep ≤ 3) (hz : t.size ≤ 40) : plainE ⟨nd, sq, t, tg⟩ = 0 := by
  unfold plainE
  simp only
  rw [if_neg (by omega), if_neg (by omega), if_neg (by rw [hv]; simp), if_neg (by omega)]
theorem bytes_tag (nd sq : Int) (t : Tr) (a b : Nat) : bytesS ⟨nd, sq, t, a⟩ = bytesS ⟨nd, sq, t, b⟩ := rfl
theorem plain_tag (nd sq : Int) (t : Tr) (a b : Nat) : plainE ⟨nd, sq, t, a⟩ = plainE ⟨nd, sq, t, b⟩ := rfl
/-- A slice of keys, for a walk. -/
theorem keys_open {D : Nat → Prop} {w : World} {v : Value} {l : List Nat} (h : SlD w D 1 v (l.map u64v)) :
    ∃ A c, v = .slice A l.length c ∧ l.length ≤ c ∧ c ≤ 9223372036854775807 ∧ (0 < l.length → ∃ b off, A = some ⟨b, off, none⟩ ∧ D b ∧ ∀ k (hk : k < l.length), w.cell? ⟨b, off + k, none⟩ = some (.int .u64 ((l[k] : Nat) : Int))) := by
  obtain ⟨A, n, c, rfl, hl, hc, hm, hx⟩ := h
  unfold maxLen at hm
  have e : n = l.length := by simpa using hl.symm
  subst e
  refine ⟨A, c, rfl, hc, hm, fun hn => ?_⟩
  obtain ⟨b, off, rfl, hb, hx⟩ := hx hn
  exact ⟨b, off, rfl, hb, fun k hk => hx k _ (by simp [hk, u64v])⟩
/-- A right declaration of one of those who have keys. -/
def DeclP (w : World) (g : Nat) (ks : List Nat) (e : Ending) (w' : World) : Prop :=
  ∃ (v : Value) (k : Nat) (hk : k < ks.length) (sq : Int) (T : Tr), e = .returned v ∧ 1 ≤ sq ∧ sq ≤ 4 ∧ validE T = 0 ∧ T.dep ≤ 3 ∧ T.size ≤ 40 ∧
    DeD w' (Dn w.heap.size w') v ⟨k, sq, T, tagS ks[k] (bytesS ⟨k, sq, T, 0⟩)⟩ ∧ SrcR 88 w' g ∧ Fr (some g) w w'

/-- What stays true of the world while a declaration is being made: the key's cell, the tape, the frame, the table. -/
def Kp (w2 : World) (g kb o y : Nat) (W : World) : Prop := W.cell? ⟨kb, o, none⟩ = some (.int .u64 (y : Nat)) ∧ SrcR 88 W g ∧ Fr (some g) w2 W ∧ Tab W
theorem Kp.alloc {w2 W : World} {g kb o y : Nat} (h : Kp w2 g kb o y W) (ob : Obj) : Kp w2 g kb o y (W.alloc ob) :=
  ⟨((Fr.refl none W).alloc ob).keep h.1 (by simp), h.2.1.fr ((Fr.refl none W).alloc ob), h.2.2.1.alloc ob, h.2.2.2.fr ((Fr.refl none W).alloc ob)⟩
theorem Kp.src {w2 W W' : World} {g kb o y : Nat} (h : Kp w2 g kb o y W) (hk : kb ≠ g) (S : SrcR 88 W' g) (F : Fr (some g) W W') : Kp w2 g kb o y W' :=
  ⟨F.keep h.1 (by simp; omega), S, h.2.2.1.same F, h.2.2.2.src h.2.1 F⟩
theorem Kp.fr {w2 W W' : World} {g kb o y : Nat} (h : Kp w2 g kb o y W) (F : Fr none W W') : Kp w2 g kb o y W' :=
  ⟨F.keep h.1 (by simp), h.2.1.fr F, h.2.2.1.pure F, h.2.2.2.fr F⟩
theorem Kp.fill {w2 W W' : World} {g kb o y B : Nat} (h : Kp w2 g kb o y W) (hT : Tab w2) (hB : w2.heap.size ≤ B) (hg : g < w2.heap.size) (hk : kb < w2.heap.size) (F : Fr (some B) W W') : Kp w2 g kb o y W' :=
  ⟨F.keep h.1 (by simp; omega), h.2.1.frs F (by simp; omega), h.2.2.1.new F hB, h.2.2.2.frs F (by have := hT.cells.1; simp; omega)⟩
theorem kp_two {w2 W : World} {g kb o y : Nat} (h : Kp w2 g kb o y W) : W.cell? ⟨kb, o, none⟩ = some (.int .u64 (y : Nat)) ∧ Kp w2 g kb o y W := ⟨h.1, h⟩
theorem db_fill {w : World} {b : Nat} {z0 z1 z2 z3 z4 z5 : Value} (h : DB w b z0 z1 z2 z3 z4 z5) (x0 x1 x2 x3 x4 x5 : Value) : DB ((((((w.setCell ⟨b, 0, none⟩ x0).setCell ⟨b, 1, none⟩ x1).setCell ⟨b, 2, none⟩ x2).setCell ⟨b, 3, none⟩ x3).setCell ⟨b, 4, none⟩ x4).setCell ⟨b, 5, none⟩ x5) b x0 x1 x2 x3 x4 x5 := by
  have := blk_set (blk_set (blk_set (blk_set (blk_set (blk_set h 0 x0) 1 x1) 2 x2) 3 x3) 4 x4) 5 x5
  simpa [DB] using this
theorem tagS_lt (k : Nat) (l : List UInt8) : tagS k l < 18446744073709551616 := hashS_lt _
theorem ded_mk {w : World} {D : Nat → Prop} {th : Int} {vn vi : Value} {nd sq : Int} {T : Tr} {tg : Nat} (h : TrD w D (.agg #[.int .i64 th, vn, vi]) T) (hn : Wi nd) (hq : Wi sq) (ht : tg < 18446744073709551616) : DeD w D (.agg #[.int .i64 nd, .int .i64 sq, .int .i64 th, vn, vi, .int .u64 (tg : Nat)]) ⟨nd, sq, T, tg⟩ := ⟨th, vn, vi, rfl, h, hn, hq, ht⟩
theorem trd_end {w4 w5 w6 w7 : World} {v : Value} {T : Tr} {b c0 B C : Nat} (h : TrD w4 (Dn b w4) v T) (F5 : Fr none w4 w5) (F6 : Fr (some B) w5 w6) (F7 : Fr (some C) w6 w7) (hB : B < b ∨ w4.heap.size ≤ B) (hC : C < b) (h0 : c0 ≤ b) : TrD w7 (Dn c0 w7) v T :=
  TrD.keep (fun k hk => by
    have s5 := F5.size
    have s6 := F6.size
    have s7 := F7.size
    obtain ⟨h1, h2⟩ := hk
    refine ⟨⟨by omega, by omega⟩, ?_⟩
    rw [F7.block k (by omega) (by simp; omega), F6.block k (by omega) (by simp; omega), F5.block k h2 (by simp)]) T v h
def ZB : Obj := .cells #[.int .i64 0, .int .i64 0, .int .i64 0, .slice none 0 0, .slice none 0 0, .int .u64 0] 61

set_option maxRecDepth 100000 in
set_option maxHeartbeats 4000000 in
theorem mkdecl_any (ks : List Nat) (kv : Value) (g : Nat) (w : World) (hn1 : 1 ≤ ks.length) (hn2 : ks.length ≤ 10) (hks : ∀ y ∈ ks, y < 18446744073709551616) (hkv : SlD w (Dm w (some g)) 1 kv (ks.map u64v)) (S0 : SrcR 88 w g) (hT : Tab w) :
    Calls Tryz.prog 52 #[.pointer (some ⟨g, 0, none⟩), kv] w (DeclP w g ks) := by
  have hg := S0.lt
  obtain ⟨A, c, rfl, q1, q2, hc⟩ := keys_open hkv
  obtain ⟨kb, off, rfl, hkb, hcc⟩ := hc (by omega)
  have HKS := Lib.hid hks
  obtain ⟨hkb1, hkb2⟩ := hkb
  have hkg : kb ≠ g := fun e => hkb2 (by rw [e])
  clear hc hks hkv hkb2
  go_enter Tryz.func52, Tryz.ntmps52
  go_wp2_with fail
  generalize hW : w.alloc _ = w1
  have hz : w1.heap.size = w.heap.size + 1 := by rw [← hW]; simp
  have F1 : Fr none w w1 := hW ▸ ((Fr.refl _ w).alloc _)
  have b4 : DB w1 w.heap.size (.int .i64 0) (.int .i64 0) (.int .i64 0) (.slice none 0 0) (.slice none 0 0) (.int .u64 0) := by
    rw [← hW]; exact blk_new _ _
  have S1 := S0.fr F1
  have T1 := hT.fr F1
  clear hW S0
  refine (tapeN_any _ g _ (by omega) (by omega) S1).mono ?_
  rintro e w2 ⟨x, rfl, x1, x2, S2, F2⟩
  obtain ⟨k, rfl⟩ := Int.eq_ofNat_of_zero_le x1
  have hk : k < ks.length := by omega
  have T2 := T1.src S1 F2
  have F12 := (F1.mono (r := some g)).same F2
  have hck := F12.keep (hcc k hk) (by simp; omega)
  have hy := HKS.out ks[k] (List.getElem_mem _)
  obtain ⟨y, hyy⟩ : ∃ y, y = ks[k] := ⟨_, rfl⟩
  rw [← hyy] at hck hy
  have HY := Lib.hid hyy
  have HYL := Lib.hid hy
  have b4w := b4.fr F2 (by simp; omega)
  clear hcc hyy hy S1 T1 b4
  go_wp2_with fail
  have K2 : Kp w2 g kb (off + k) y w2.drew := ⟨hck, S2.drew, (Fr.refl _ _).drew, T2.fr (Fr.refl _ _).drew⟩
  have K2a : Kp w2 g kb (off + k) y (w2.alloc (.cells #[.int .i64 0, .int .i64 0, .int .i64 0, .slice none 0 0, .slice none 0 0, .int .u64 0] 61)).drew := K2.alloc _
  have hz2 := F12.size
  have hgl : g < w2.heap.size := S2.lt
  have hzw : w.heap.size < w2.heap.size := by have := F2.size; omega
  have hkl : kb < w2.heap.size := by omega
  go_region_held3 (fun w' => w'.cell? ⟨kb, off + k, none⟩ = some (.int .u64 (y : Nat)) ∧ Kp w2 g kb (off + k) y w') (first | (with_reducible exact kp_two K2) | (with_reducible exact kp_two K3) | (with_reducible exact kp_two K4) | (with_reducible exact kp_two K5) | (with_reducible exact kp_two K2a) | (with_reducible exact kp_two (K3.alloc _)) | (with_reducible exact kp_two (K4.alloc _)) | (with_reducible exact kp_two (K5.alloc _)) | ((with_reducible refine kp_two (Kp.fill ?_ T2 ?_ hgl hkl (fr_fill6 _ _ _ _ _ _ _ _))); (with_reducible assumption); omega))
    (first | (go_at_call 31; refine (tapeRange_any 1 4 g _ (by omega) (by omega) (by omega) (‹_ ∧ Kp w2 g kb (off + k) y _›).2.2.1).mono ?_; rintro e w3 ⟨sq, rfl, s1, s2, S3, F3⟩; have K3 : Kp w2 g kb (off + k) y w3 := (‹_ ∧ Kp w2 g kb (off + k) y _›).2.src hkg S3 F3; have hz3 := F3.size; (try simp at hz3); first | have e3 : w3.heap[w2.heap.size]? = some (.cells #[.int .i64 0, .int .i64 0, .int .i64 0, .slice none 0 0, .slice none 0 0, .int .u64 0] 61 (0, 0)) := blk_fr (w := (w2.alloc _).drew) (blk_new w2 _) F3 (by simp; omega) | skip) | (go_at_call 32; refine (declared_any ks.length g _ hn1 hn2 (‹_ ∧ Kp w2 g kb (off + k) y _›).2.2.1).mono ?_; rintro e w4 ⟨v, T, rfl, hT4, hv, hd, hz4, S4, F4⟩; obtain ⟨th, A1, n1, c1, A2, n2, c2, rfl⟩ := hT4.shape; have K4 : Kp w2 g kb (off + k) y w4 := (‹_ ∧ Kp w2 g kb (off + k) y _›).2.src hkg S4 F4; have HV := Lib.hid hv; clear hv; have hz5 := F4.size; (try simp at hz5); first | have e4 : w4.heap[w2.heap.size]? = some (.cells #[.int .i64 0, .int .i64 0, .int .i64 0, .slice none 0 0, .slice none 0 0, .int .u64 0] 61 (0, 0)) := blk_fr e3 F4 (by simp; omega) | have e4 : w4.heap[w3.heap.size]? = some (.cells #[.int .i64 0, .int .i64 0, .int .i64 0, .slice none 0 0, .slice none 0 0, .int .u64 0] 61 (0, 0)) := blk_fr (blk_new w3 _) F4 (by simp; omega) | skip) | (go_at_call 61; refine (rsign_any y HYL.out k sq T th A1 n1 c1 A2 n2 c2 _ none ?_ ?_ ?_ ?_ (‹_ ∧ Kp w2 g kb (off + k) y _›).2.2.2.2 ?_).mono ?_; (constructor <;> omega); (constructor <;> omega); omega; (first | exact TrD.keep (dn_dm (by simp)) _ _ hT4 | exact TrD.keep (fr_dm ((Fr.refl none w4).alloc _)) _ _ (TrD.keep (dn_dm (by simp)) _ _ hT4)); exact (plain_mk (by omega) (by omega) s1 (by omega) HV.out hd hz4); rintro e w5 ⟨rfl, F5⟩; have K5 : Kp w2 g kb (off + k) y w5 := (‹_ ∧ Kp w2 g kb (off + k) y _›).2.fr F5; (first | have b5 := blk_fr e4 F5 (by simp) | have b5 : w5.heap[w4.heap.size]? = some (.cells #[.int .i64 0, .int .i64 0, .int .i64 0, .slice none 0 0, .slice none 0 0, .int .u64 0] 61 (0, 0)) := blk_fr (blk_new w4 _) F5 (by simp) | skip); (try have R6 := blk_cell b5); (try have Z6 := blk_free b5); have d4 := b4w.fr K5.2.2.1 (by simp; omega); have S5 := K5.2.1; have F25 := K5.2.2.1; have F45 : Fr none w4 w5 := (by first | exact F5 | exact ((Fr.refl none w4).alloc _).pure F5); obtain ⟨b0, hb0, hT5⟩ : ∃ b0, b0 = _ ∧ TrD w4 (Dn b0 w4) (.agg #[.int .i64 th, .slice A1 n1 c1, .slice A2 n2 c2]) T := ⟨_, rfl, hT4⟩; (try simp at hb0); have hz6 := F45.size))
  · generalize hw6 : World.alloc w5 _ = w6
    have F6 : Fr (some w5.heap.size) w5 w6 := by rw [← hw6]; exact ((Fr.refl none w5).alloc _).mono
    have b6 : DB w6 w5.heap.size (.int .i64 (k : Int)) (.int .i64 sq) (.int .i64 th) (.slice A1 n1 c1) (.slice A2 n2 c2) (.int .u64 (tagS y (bytesS ⟨k, sq, T, 0⟩) : Nat)) := by rw [← hw6]; exact blk_new _ _
    obtain ⟨B, hB0⟩ : ∃ B, B = w5.heap.size := ⟨_, rfl⟩
    rw [← hB0] at b6 F6 ⊢
    have hB : B < b0 ∨ w4.heap.size ≤ B := by omega
    have hB2 : w2.heap.size ≤ B := by omega
    clear hB0 hw6
    have d6 := d4.fr F6 (by simp; omega)
    have R6' := b6.cell
    have Q6 := d6.cell
    have W6 := d6.free
    have hd2 := hd
    go_wp2_with fail
    refine bodyPost_ret (v := .agg #[.int .i64 (k : Int), .int .i64 sq, .int .i64 th, .slice A1 n1 c1, .slice A2 n2 c2, .int .u64 (tagS y (bytesS ⟨k, sq, T, 0⟩) : Nat)]) (by simp [results, Tryz.results52, go_sem, Q6]) rfl ?_
    have F7 := fr_fill6 w6 w.heap.size (.int .i64 (k : Int)) (.int .i64 sq) (.int .i64 th) (.slice A1 n1 c1) (.slice A2 n2 c2) (.int .u64 (tagS y (bytesS ⟨k, sq, T, 0⟩) : Nat))
    have FF : Fr (some g) w2 w6 := F25.new F6 hB2
    refine ⟨_, k, hk, sq, T, rfl, s1, s2, HV.out, hd, hz4, ?_, (S5.frs F6 (by simp; omega)).frs F7 (by simp; omega), (F12.same FF).own F7 (by simp)⟩
    rw [← HY.out]
    exact ded_mk (trd_end hT5 F45 F6 F7 hB (by omega) (by omega)) ⟨by omega, by omega⟩ ⟨by omega, by omega⟩ (tagS_lt _ _)
  · generalize hw6 : World.setCell (World.setCell (World.setCell (World.setCell (World.setCell (World.setCell w5 _ _) _ _) _ _) _ _) _ _) _ _ = w6
    have F6 : Fr (some w4.heap.size) w5 w6 := by rw [← hw6]; exact fr_fill6 _ _ _ _ _ _ _ _
    have b6 : DB w6 w4.heap.size (.int .i64 (k : Int)) (.int .i64 sq) (.int .i64 th) (.slice A1 n1 c1) (.slice A2 n2 c2) (.int .u64 (tagS y (bytesS ⟨k, sq, T, 0⟩) : Nat)) := by rw [← hw6]; exact db_fill b5 _ _ _ _ _ _
    obtain ⟨B, hB0⟩ : ∃ B, B = w4.heap.size := ⟨_, rfl⟩
    rw [← hB0] at b6 F6 ⊢
    have hB : B < b0 ∨ w4.heap.size ≤ B := by omega
    have hB2 : w2.heap.size ≤ B := by omega
    clear hB0 hw6 R6 Z6
    have d6 := d4.fr F6 (by simp; omega)
    have R6' := b6.cell
    have Q6 := d6.cell
    have W6 := d6.free
    have hd2 := hd
    go_wp2_with fail
    refine bodyPost_ret (v := .agg #[.int .i64 (k : Int), .int .i64 sq, .int .i64 th, .slice A1 n1 c1, .slice A2 n2 c2, .int .u64 (tagS y (bytesS ⟨k, sq, T, 0⟩) : Nat)]) (by simp [results, Tryz.results52, go_sem, Q6]) rfl ?_
    have F7 := fr_fill6 w6 w.heap.size (.int .i64 (k : Int)) (.int .i64 sq) (.int .i64 th) (.slice A1 n1 c1) (.slice A2 n2 c2) (.int .u64 (tagS y (bytesS ⟨k, sq, T, 0⟩) : Nat))
    have FF : Fr (some g) w2 w6 := F25.new F6 hB2
    refine ⟨_, k, hk, sq, T, rfl, s1, s2, HV.out, hd, hz4, ?_, (S5.frs F6 (by simp; omega)).frs F7 (by simp; omega), (F12.same FF).own F7 (by simp)⟩
    rw [← HY.out]
    exact ded_mk (trd_end hT5 F45 F6 F7 hB (by omega) (by omega)) ⟨by omega, by omega⟩ ⟨by omega, by omega⟩ (tagS_lt _ _)
  · generalize hw6 : World.setCell (World.setCell (World.setCell (World.setCell (World.setCell (World.setCell w5 _ _) _ _) _ _) _ _) _ _) _ _ = w6
    have F6 : Fr (some w3.heap.size) w5 w6 := by rw [← hw6]; exact fr_fill6 _ _ _ _ _ _ _ _
    have b6 : DB w6 w3.heap.size (.int .i64 (k : Int)) (.int .i64 sq) (.int .i64 th) (.slice A1 n1 c1) (.slice A2 n2 c2) (.int .u64 (tagS y (bytesS ⟨k, sq, T, 0⟩) : Nat)) := by rw [← hw6]; exact db_fill b5 _ _ _ _ _ _
    obtain ⟨B, hB0⟩ : ∃ B, B = w3.heap.size := ⟨_, rfl⟩
    rw [← hB0] at b6 F6 ⊢
    have hB : B < b0 ∨ w4.heap.size ≤ B := by omega
    have hB2 : w2.heap.size ≤ B := by omega
    clear hB0 hw6 R6 Z6
    have d6 := d4.fr F6 (by simp; omega)
    have R6' := b6.cell
    have Q6 := d6.cell
    have W6 := d6.free
    have hd2 := hd
    go_wp2_with fail
    refine bodyPost_ret (v := .agg #[.int .i64 (k : Int), .int .i64 sq, .int .i64 th, .slice A1 n1 c1, .slice A2 n2 c2, .int .u64 (tagS y (bytesS ⟨k, sq, T, 0⟩) : Nat)]) (by simp [results, Tryz.results52, go_sem, Q6]) rfl ?_
    have F7 := fr_fill6 w6 w.heap.size (.int .i64 (k : Int)) (.int .i64 sq) (.int .i64 th) (.slice A1 n1 c1) (.slice A2 n2 c2) (.int .u64 (tagS y (bytesS ⟨k, sq, T, 0⟩) : Nat))
    have FF : Fr (some g) w2 w6 := F25.new F6 hB2
    refine ⟨_, k, hk, sq, T, rfl, s1, s2, HV.out, hd, hz4, ?_, (S5.frs F6 (by simp; omega)).frs F7 (by simp; omega), (F12.same FF).own F7 (by simp)⟩
    rw [← HY.out]
    exact ded_mk (trd_end hT5 F45 F6 F7 hB (by omega) (by omega)) ⟨by omega, by omega⟩ ⟨by omega, by omega⟩ (tagS_lt _ _)
  · generalize hw6 : World.setCell (World.setCell (World.setCell (World.setCell (World.setCell (World.setCell w5 _ _) _ _) _ _) _ _) _ _) _ _ = w6
    have F6 : Fr (some w2.heap.size) w5 w6 := by rw [← hw6]; exact fr_fill6 _ _ _ _ _ _ _ _
    have b6 : DB w6 w2.heap.size (.int .i64 (k : Int)) (.int .i64 sq) (.int .i64 th) (.slice A1 n1 c1) (.slice A2 n2 c2) (.int .u64 (tagS y (bytesS ⟨k, sq, T, 0⟩) : Nat)) := by rw [← hw6]; exact db_fill b5 _ _ _ _ _ _
    obtain ⟨B, hB0⟩ : ∃ B, B = w2.heap.size := ⟨_, rfl⟩
    rw [← hB0] at b6 F6 ⊢
    have hB : B < b0 ∨ w4.heap.size ≤ B := by omega
    have hB2 : w2.heap.size ≤ B := by omega
    clear hB0 hw6 R6 Z6
    have d6 := d4.fr F6 (by simp; omega)
    have R6' := b6.cell
    have Q6 := d6.cell
    have W6 := d6.free
    have hd2 := hd
    go_wp2_with fail
    refine bodyPost_ret (v := .agg #[.int .i64 (k : Int), .int .i64 sq, .int .i64 th, .slice A1 n1 c1, .slice A2 n2 c2, .int .u64 (tagS y (bytesS ⟨k, sq, T, 0⟩) : Nat)]) (by simp [results, Tryz.results52, go_sem, Q6]) rfl ?_
    have F7 := fr_fill6 w6 w.heap.size (.int .i64 (k : Int)) (.int .i64 sq) (.int .i64 th) (.slice A1 n1 c1) (.slice A2 n2 c2) (.int .u64 (tagS y (bytesS ⟨k, sq, T, 0⟩) : Nat))
    have FF : Fr (some g) w2 w6 := F25.new F6 hB2
    refine ⟨_, k, hk, sq, T, rfl, s1, s2, HV.out, hd, hz4, ?_, (S5.frs F6 (by simp; omega)).frs F7 (by simp; omega), (F12.same FF).own F7 (by simp)⟩
    rw [← HY.out]
    exact ded_mk (trd_end hT5 F45 F6 F7 hB (by omega) (by omega)) ⟨by omega, by omega⟩ ⟨by omega, by omega⟩ (tagS_lt _ _)
end Go.Proofs.YtpdhckbiioobhaaGreatDoor

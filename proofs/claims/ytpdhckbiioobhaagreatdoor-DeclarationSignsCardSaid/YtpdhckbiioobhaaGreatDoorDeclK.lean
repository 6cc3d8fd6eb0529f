/- Walks: mk.Keys, mk.Declared, mk.Declaration. -/
import Derived.Test.YtpdhckbiioobhaaGreatDoorProg
import Derived.Test.YtpdhckbiioobhaaGreatDoorDeclS
import Derived.Test.YtpdhckbiioobhaaGreatDoorMkTrust
namespace Go.Proofs.YtpdhckbiioobhaaGreatDoor
open Go.RowKit

theorem eiK : EInfo Tryz.prog 55 59 1 8 := EInfo.mk_ (z := .int .u64 0) (by kernel_rfl) (by kernel_rfl) rfl (by omega)
/-- n keys. -/
def KeysP (w : World) (g n : Nat) (e : Ending) (w' : World) : Prop :=
  ∃ (v : Value) (l : List Nat), e = .returned v ∧ l.length = n ∧ (∀ y ∈ l, y < 18446744073709551616) ∧ SlD w' (Dn w.heap.size w') 1 v (l.map u64v) ∧ SrcR 88 w' g ∧ Fr (some g) w w'
set_option maxRecDepth 100000 in
theorem keys_any (n g : Nat) (w : World) (hn : n ≤ 100) (h : SrcR 88 w g) :
    Calls Tryz.prog 30 #[.pointer (some ⟨g, 0, none⟩), .int .i64 n] w (KeysP w g n) := by
  have hg := h.lt
  go_enter Tryz.func30, Tryz.ntmps30
  go_wp2_with fail
  go_loopw [5, 6] (fun v i wr => ∃ (j : Nat) (l : List Nat) (A : Option Addr) (c : Nat), j ≤ n ∧ i = .int .i64 j ∧ v = .slice A j c ∧ Hid (l.length = j ∧ ∀ y ∈ l, y < 18446744073709551616) ∧ Fr (some g) w wr ∧ SrcR 88 wr g ∧ wr.ownsRow w.heap.size 59 1 (.slice A j c) j (l.map u64v)) (fun _ i _ => n - (intOf i).toNat)
  case atStart => exact ⟨0, [], none, 0, Nat.zero_le _, rfl, rfl, Lib.hid ⟨rfl, by simp⟩, Fr.refl _ _, h, World.ownsRow_nil _ _ _ _⟩
  case round =>
    obtain ⟨j, l, A, c, hj, rfl, rfl, HL, F, S, own⟩ := hrel
    have hz := F.size
    by_cases hlt : j < n
    · go_wp2_with (first | (go_at_call 16; refine (tapeN_any 1000 g _ (by omega) (by omega) S).mono ?_; rintro e w2 ⟨y, rfl, y1, y2, S2, F2⟩; obtain ⟨b, rfl⟩ := Int.eq_ofNat_of_zero_le y1; have own2 := own_fr own F2 (by simp; omega); have hz2 := F2.size) | (at_builtin; refine app_lit eiK rfl _ _ rfl w.heap.size A j c _ rfl own2 1 [.int .u64 ((b : Int) * 2654435761 + (j : Int) * 97)] _ _ rfl (by simp) rfl (by simp [Value.oneCell']) (by omega) (by unfold maxLen; omega) (by omega) ?_; intro A' c' w' own' F' bl'))
      have og := own_blk_ge own2
      have e1 : Value.int .u64 ((b : Int) * 2654435761 + (j : Int) * 97) = u64v (b * 2654435761 + j * 97) := by unfold u64v; congr 1
      rw [e1] at own'
      have HO := Lib.hid own'
      clear e1 own'
      go_roundw
      case rel => exact ⟨j + 1, l ++ [b * 2654435761 + j * 97], A', c', by omega, by go_num, rfl, Lib.hid ⟨by simp [HL.out.1], fun y hy => by
        rcases List.mem_append.1 hy with hy | hy
        · exact HL.out.2 y hy
        · simp only [List.mem_singleton] at hy
          omega⟩, (F.same F2).own F' og, S2.frs F' (fun q hq => by have := og q hq; omega), by rw [List.map_append]; exact HO.out⟩
      case measure => simp [intOf]; omega
    · obtain rfl : j = n := by omega
      go_wp2_with fail
      go_ret
      exact ⟨_, l, rfl, HL.out.1, HL.out.2, SlD.own_dn own, S, F⟩

/-- A trust that can be declared. -/
def DeclaredP (w : World) (g : Nat) (e : Ending) (w' : World) : Prop :=
  ∃ v T, e = .returned v ∧ TrD w' (Dn w.heap.size w') v T ∧ validE T = 0 ∧ T.dep ≤ 3 ∧ T.size ≤ 40 ∧ SrcR 88 w' g ∧ Fr (some g) w w'
set_option maxRecDepth 100000 in
set_option maxHeartbeats 1000000 in
theorem declared_any (n g : Nat) (w : World) (hn1 : 1 ≤ n) (hn2 : n ≤ 10) (S0 : SrcR 88 w g) :
    Calls Tryz.prog 32 #[.pointer (some ⟨g, 0, none⟩), .int .i64 n] w (DeclaredP w g) := by
  have hg := S0.lt
  go_enter Tryz.func32, Tryz.ntmps32
  go_wp2_with fail
  generalize hW : w.alloc _ = w1
  have hz : w1.heap.size = w.heap.size + 1 := by rw [← hW]; simp
  have F1 : Fr none w w1 := hW ▸ ((Fr.refl _ w).alloc _)
  have b4 : TB w1 w.heap.size (.int .i64 0) (.slice none 0 0) (.slice none 0 0) := by
    rw [← hW]; exact blk_new _ _
  have S1 := S0.fr F1
  clear hW S0
  refine (mkTrust_any n 2 g _ hn1 hn2 (by omega) (by omega) S1).mono ?_
  rintro e w2 ⟨v, T, rfl, hT, hv, hdp, hni, S2, F2⟩
  obtain ⟨th, A1, n1, c1, A2, n2, c2, rfl⟩ := hT.shape
  have hz2 := F2.size
  have b4 := b4.fr F2 (by simp; omega)
  have F2 := (F1.mono (r := some g)).same F2
  have hT := TrD.keep (dn_mono (B := w.heap.size + 1) (by omega)) _ _ hT
  have hsz := (valid_check hv).2.1
  clear S1 F1
  go_wp2_with fail
  generalize hW : w2.alloc _ = w3
  have F23 : Fr none w2 w3 := hW ▸ ((Fr.refl _ w2).alloc _)
  have hz3 : w3.heap.size = w2.heap.size + 1 := by rw [← hW]; simp
  have b5 : TB w3 w2.heap.size (.int .i64 th) (.slice A1 n1 c1) (.slice A2 n2 c2) := by rw [← hW]; exact blk_new _ _
  have b4 := b4.fr F23 (by simp)
  have hT := TrD.keep (dn_fr F23 (by simp)) _ _ hT
  have S3 := S2.fr F23
  have F3 := F2.pure F23
  clear hW S2 F2 F23
  have hT0 : TrR w3 none (.agg #[.int .i64 th, .slice A1 n1 c1, .slice A2 n2 c2]) T := TrD.keep (dn_dm (B := w.heap.size + 1) (by simp)) _ _ hT
  refine (rsize_any T.dep T _ _ none (Nat.le_refl _) (by omega) hT0).mono ?_
  rintro e w4 ⟨rfl, F4⟩
  have hz4 := F4.size
  have b4 := b4.fr F4 (by simp)
  have b5 := b5.fr F4 (by simp)
  have hT := TrD.keep (dn_fr F4 (by simp)) _ _ hT
  have hT4 := hT0.fr F4
  have S4 := S3.fr F4
  have F4 := F3.pure F4
  clear hT0 S3 F3
  have R4 := b4.cell
  have Z4 := b4.free
  have R5 := b5.cell
  obtain ⟨z, hzz⟩ : ∃ z, z = T.size := ⟨_, rfl⟩
  rw [← hzz] at hsz ⊢
  have HZ := Lib.hid hzz
  have HV := Lib.hid hv
  have HD := Lib.hid hdp
  clear hzz hv hdp
  have hlt4 : w.heap.size < w4.heap.size := by omega
  by_cases h40 : 40 < z
  · go_wp2_with fail
    refine bodyPost_ret (v := .agg #[.int .i64 1, .slice (some ⟨w4.heap.size, 0, none⟩) 1 1, .slice none 0 0]) (by simp [results, Tryz.results32, go_sem, R4, hlt4]) rfl ?_
    have G := fr_fill3 w4 w.heap.size (.int .i64 1) (.slice (some ⟨w4.heap.size, 0, none⟩) 1 1) (.slice none 0 0)
    generalize hw6 : World.setCell (World.setCell (World.setCell w4 _ _) _ _) _ _ = w6 at *
    have hz6 : w6.heap.size = w4.heap.size := by rw [← hw6]; simp [World.setCell]
    rw [← hz6]
    have hA := (Fr.refl none w6).alloc (.cells #[.int .i64 0] 3)
    exact ⟨_, .mk 1 [0] [], rfl, TrD.mk_ (by constructor <;> omega) (SlD.lit_dn #[.int .i64 0] 3 1 1 w.heap.size rfl (by unfold maxLen; omega) (by omega) (Fr.refl none _)) (by intro y hy; simp at hy; subst hy; constructor <;> omega) (SlD.nil _ _ _) (by simp) (by simp) (by simp [TrsD]), validE_flat 0 (by omega) (by omega), by simp [Tr.dep, depL], by simp [Tr.size, sizeL], (S4.frs G (by simp; omega)).fr hA, (F4.own G (by simp)).pure hA⟩
  · go_wp2_with fail
    refine (rdepth_any T.dep T _ _ none (Nat.le_refl _) (by have := HD.out; omega) hT4).mono ?_
    rintro e w5 ⟨rfl, F5⟩
    have hz5 := F5.size
    have c4 := b4.fr F5 (by simp)
    have c5 := b5.fr F5 (by simp)
    have Q4 := c4.cell
    have W4 := c4.free
    have Q5 := c5.cell
    have hT5 := TrD.keep (dn_fr F5 (by simp)) _ _ hT
    have S5 := S4.fr F5
    have F5 := F4.pure F5
    have hd2 : ¬ 3 < T.dep := by have := HD.out; omega
    clear R4 Z4 R5
    go_wp2_with fail
    refine bodyPost_ret (v := .agg #[.int .i64 th, .slice A1 n1 c1, .slice A2 n2 c2]) (by simp [results, Tryz.results32, go_sem, Q4]) rfl ?_
    have G := fr_fill3 w5 w.heap.size (.int .i64 th) (.slice A1 n1 c1) (.slice A2 n2 c2)
    exact ⟨_, T, rfl, TrD.keep (dn_mono (by omega)) _ _ (TrD.keep (dn_fr G (by simp)) _ _ hT5), HV.out, by have := HD.out; omega, by have := HZ.out; omega, S5.frs G (by simp; omega), F5.own G (by simp)⟩
end Go.Proofs.YtpdhckbiioobhaaGreatDoor

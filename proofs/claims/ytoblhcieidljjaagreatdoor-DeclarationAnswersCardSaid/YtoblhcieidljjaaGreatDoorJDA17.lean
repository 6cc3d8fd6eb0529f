/- Some texts of this claim, joined: contracts of the functions that it reaches, and plain laws. -/
import Derived.Test.YtoblhcieidljjaaGreatDoorProg
import Derived.Test.YtoblhcieidljjaaGreatDoorJDA16
import Derived.Test.YtoblhcieidljjaaGreatDoorJDA6
import Derived.Test.YtoblhcieidljjaaGreatDoorJDA10
import Derived.Test.YtoblhcieidljjaaGreatDoorJDA21

set_option linter.unusedSimpArgs false
set_option linter.unusedVariables false
/- Walks: the reference's word and small (layer 7). -/
namespace Go.Proofs.YtoblhcieidljjaaGreatDoor
open Go.RowKit

theorem wd_at (l : List UInt8) (j : Nat) (hj : j < l.length) (h : ∀ c ∈ l.take j, c ≠ 32) (he : l[j] = 32) : wd1 l = l.take j ∧ wd2 l = l.drop (j + 1) := by
  have e : l.take j ++ 32 :: l.drop (j + 1) = l := by rw [← he, ← List.drop_eq_getElem_cons hj, List.take_append_drop]
  have := wd_blank (l.drop (j + 1)) (l.take j) h
  rwa [e] at this
theorem bs_data (S : ByteArray) : bs S.data.toList = S := by simp [bs]
theorem snd_bs (S : ByteArray) {l : List UInt8} (h : S.data.toList = l) : S = bs l := by rw [← h, bs_data]

set_option maxRecDepth 100000 in
set_option maxHeartbeats 2000000 in
theorem word_any (S : ByteArray) (w : World) (hz : S.size ≤ 1073741824) :
    Calls Tryz.prog 91 #[.string S] w fun e w' => e = .returned (.tuple #[.string (bs (wd1 S.data.toList)), .string (bs (wd2 S.data.toList))]) ∧ Fr none w w' := by
  have hsl := size_list S
  have HSL := Lib.hid hsl
  clear hsl
  go_enter Tryz.func91, Tryz.ntmps91
  go_wp2_with fail
  go_loopw [4] (fun s4 wr => ∃ j : Nat, s4 = .int .i64 (j : Int) ∧ j ≤ S.size ∧ Hid (∀ c ∈ S.data.toList.take j, c ≠ 32) ∧ wr = w) (fun s4 _ => S.size - (intOf s4).toNat)
  case atStart => exact ⟨0, rfl, by omega, by unfold Hid; simp, rfl⟩
  case round =>
    obtain ⟨j, rfl, hj, HT, rfl⟩ := hrel
    by_cases hlt : j < S.size
    · by_cases hc : S[j] = 32
      · have h32 : ((S[j].toNat : Int) == 32) = true := by rw [hc]; rfl
        obtain ⟨e1, e2⟩ := wd_at S.data.toList j (by have := HSL.out; omega) HT.out hc
        have H1 : Hid (S.extract 0 j = bs (wd1 S.data.toList)) := by unfold Hid; refine snd_bs _ ?_; rw [e1, Lib.extract_data]; simp
        have H2 : Hid (S.extract (j + 1) S.size = bs (wd2 S.data.toList)) := by unfold Hid; refine snd_bs _ ?_; rw [e2, Lib.extract_to_end]
        clear hc e1 e2
        go_wp2_with fail
        go_quiet (fail)
        go_wp2_with fail
        go_ret2
        exact ⟨by rw [← H1.out, ← H2.out] <;> rfl, (Fr.refl _ _).drewN _⟩
      · have h32 : ((S[j].toNat : Int) == 32) = false := by
          rw [beq_eq_false_iff_ne]
          intro h
          apply hc
          apply UInt8.toNat_inj.1
          have : S[j].toNat = 32 := by omega
          exact this
        have HC := Lib.hid hc
        clear hc
        go_wp2_with fail
        go_roundw
        case rel =>
          refine ⟨j + 1, by go_num, by omega, ?_, trivial⟩
          unfold Hid
          rw [List.take_succ_eq_append_getElem (by have := HSL.out; omega)]
          intro c hc
          rcases List.mem_append.1 hc with hc | hc
          · exact HT.out c hc
          · obtain rfl := List.mem_singleton.1 hc
            exact HC.out
        case measure => simp [intOf]; omega
    · obtain rfl : j = S.size := by omega
      have hT := HT.out
      rw [List.take_of_length_le (by have := HSL.out; omega)] at hT
      obtain ⟨e1, e2⟩ := wd_none _ hT
      have H1 : Hid (S = bs (wd1 S.data.toList)) := by unfold Hid; exact snd_bs _ e1.symm
      have H2 : Hid ((⟨#[]⟩ : ByteArray) = bs (wd2 S.data.toList)) := by unfold Hid; rw [e2]; rfl
      clear hT e1 e2
      go_wp2_with fail
      go_ret2
      exact ⟨by rw [← H1.out, ← H2.out] <;> rfl, Fr.refl _ _⟩

theorem numV_snoc7 (a : Nat) (l : List UInt8) (c : UInt8) : numV a (l ++ [c]) = 10 * numV a l + (c.toNat - 48) := by
  unfold numV
  rw [List.foldl_append]
  rfl
theorem sml_bad (l : List UInt8) (j : Nat) (hj : j < l.length) (h : isDg l[j] = false) : smlV l = 0 := by
  unfold smlV
  split
  · rfl
  · rw [if_neg]
    rw [List.all_eq_true]
    intro ha
    have := ha _ (List.getElem_mem hj)
    rw [h] at this; cases this

set_option maxRecDepth 100000 in
set_option maxHeartbeats 2000000 in
theorem small7_any (S : ByteArray) (w : World) (hz : S.size ≤ 1073741824) :
    Calls Tryz.prog 92 #[.string S] w fun e w' => e = .returned (.int .i64 (smlV S.data.toList : Nat)) ∧ w = w' := by
  have hsl := size_list S
  have HSL := Lib.hid hsl
  clear hsl
  go_enter Tryz.func92, Tryz.ntmps92
  go_wp2_with fail
  go_loop [3, 4] (fun s3 s4 => ∃ (j m : Nat), j ≤ S.size ∧ s4 = .int .i64 (j : Int) ∧ s3 = .int .i64 (m : Int) ∧ (3 < S.size → j = 0) ∧ m < 10 ^ j ∧ Hid ((S.data.toList.take j).all isDg = true) ∧ Hid (m = numV 0 (S.data.toList.take j))) (fun _ s4 => S.size - (intOf s4).toNat)
  case atStart => exact ⟨0, 0, Nat.zero_le _, rfl, rfl, fun _ => rfl, by decide, by unfold Hid; simp, rfl⟩
  case round =>
    obtain ⟨j, m, hj, rfl, rfl, h30, hm, HA, HM⟩ := hrel
    by_cases hlt : j < S.size
    · by_cases h3 : 3 < S.size
      · have HV : Hid (smlV S.data.toList = 0) := by unfold Hid smlV; rw [if_pos (by have := HSL.out; omega)]
        clear hm h30
        go_wp2_with fail
        go_ret
        exact ⟨by rw [HV.out] <;> rfl, rfl⟩
      · have hm9 : m ≤ 99 := by
          have : 10 ^ j ≤ 10 ^ 2 := Nat.pow_le_pow_right (by omega) (by omega)
          omega
        have HM0 := Lib.hid hm
        have H30 := Lib.hid h30
        clear hm h30
        by_cases hg : isDg S[j] = true
        · have hd : 48 ≤ S[j].toNat ∧ S[j].toNat ≤ 57 := by simpa [isDg] using hg
          obtain ⟨d1, d2⟩ := hd
          have hmm : 10 * m + (S[j].toNat - 48) < 10 ^ (j + 1) := by rw [Nat.pow_succ]; have := HM0.out; omega
          have HMM := Lib.hid hmm
          have HG : Hid (isDg (S.data.toList[j]'(by have := HSL.out; omega)) = true) := Lib.hid hg
          clear hmm hg
          go_wp2_with fail
          go_round
          case rel =>
            refine ⟨j + 1, 10 * m + (S[j].toNat - 48), by omega, by go_num, by go_num, fun h => absurd h h3, HMM.out, ?_, ?_⟩
            · unfold Hid
              rw [List.take_succ_eq_append_getElem (by have := HSL.out; omega), List.all_append, HA.out]
              simp only [List.all_cons, List.all_nil, Bool.and_true, Bool.true_and]
              exact HG.out
            · unfold Hid
              rw [List.take_succ_eq_append_getElem (by have := HSL.out; omega), numV_snoc7, ← HM.out]
              rfl
          case measure => simp [intOf]; omega
        · have hgf : isDg S[j] = false := by simpa using hg
          have HV : Hid (smlV S.data.toList = 0) := by unfold Hid; exact sml_bad _ j (by have := HSL.out; omega) hgf
          have hd : S[j].toNat < 48 ∨ (48 ≤ S[j].toNat ∧ 57 < S[j].toNat) := by
            have : ¬ (48 ≤ S[j].toNat ∧ S[j].toNat ≤ 57) := by simpa [isDg] using hg
            omega
          clear hg hgf
          rcases hd with hd | ⟨hd1, hd2⟩
          · go_wp2_with fail
            go_ret
            exact ⟨by rw [HV.out] <;> rfl, rfl⟩
          · go_wp2_with fail
            go_ret
            exact ⟨by rw [HV.out] <;> rfl, rfl⟩
    · obtain rfl : j = S.size := by omega
      have HV : Hid (m = smlV S.data.toList) := by
        have ha := HA.out
        have hv := HM.out
        have e : S.data.toList.take S.size = S.data.toList := List.take_of_length_le (by have := HSL.out; omega)
        rw [e] at ha hv
        unfold Hid smlV
        rw [if_neg (by have := HSL.out; omega), if_pos ha]
        exact hv
      clear hm h30
      go_wp2_with fail
      go_ret
      exact ⟨by rw [← HV.out] <;> rfl, rfl⟩
end Go.Proofs.YtoblhcieidljjaaGreatDoor

/- Walks: mk.Keys, mk.Declared, mk.Declaration. -/
namespace Go.Proofs.YtoblhcieidljjaaGreatDoor
open Go.RowKit

theorem eiK : EInfo Tryz.prog 46 43 1 8 := EInfo.mk_ (z := .int .u64 0) (by kernel_rfl) (by kernel_rfl) rfl (by omega)
/-- n keys. -/
def KeysP (w : World) (g n : Nat) (e : Ending) (w' : World) : Prop :=
  ∃ (v : Value) (l : List Nat), e = .returned v ∧ l.length = n ∧ (∀ y ∈ l, y < 18446744073709551616) ∧ SlD w' (Dn w.heap.size w') 1 v (l.map u64v) ∧ SrcR 84 w' g ∧ Fr (some g) w w'
set_option maxRecDepth 100000 in
theorem keys_any (n g : Nat) (w : World) (hn : n ≤ 100) (h : SrcR 84 w g) :
    Calls Tryz.prog 15 #[.pointer (some ⟨g, 0, none⟩), .int .i64 n] w (KeysP w g n) := by
  have hg := h.lt
  go_enter Tryz.func15, Tryz.ntmps15
  go_wp2_with fail
  go_loopw [5, 6] (fun v i wr => ∃ (j : Nat) (l : List Nat) (A : Option Addr) (c : Nat), j ≤ n ∧ i = .int .i64 j ∧ v = .slice A j c ∧ Hid (l.length = j ∧ ∀ y ∈ l, y < 18446744073709551616) ∧ Fr (some g) w wr ∧ SrcR 84 wr g ∧ wr.ownsRow w.heap.size 43 1 (.slice A j c) j (l.map u64v)) (fun _ i _ => n - (intOf i).toNat)
  case atStart => exact ⟨0, [], none, 0, Nat.zero_le _, rfl, rfl, Lib.hid ⟨rfl, by simp⟩, Fr.refl _ _, h, World.ownsRow_nil _ _ _ _⟩
  case round =>
    obtain ⟨j, l, A, c, hj, rfl, rfl, HL, F, S, own⟩ := hrel
    have hz := F.size
    by_cases hlt : j < n
    · go_wp2_with (first | (go_at_call 10; refine (tapeN_any 1000 g _ (by omega) (by omega) S).mono ?_; rintro e w2 ⟨y, rfl, y1, y2, S2, F2⟩; obtain ⟨b, rfl⟩ := Int.eq_ofNat_of_zero_le y1; have own2 := own_fr own F2 (by simp; omega); have hz2 := F2.size) | (at_builtin; refine app_lit eiK rfl _ _ rfl w.heap.size A j c _ rfl own2 1 [.int .u64 ((b : Int) * 2654435761 + (j : Int) * 97)] _ _ rfl (by simp) rfl (by simp [Value.oneCell']) (by omega) (by unfold maxLen; omega) (by omega) ?_; intro A' c' w' own' F' bl'))
      have og := own_blk_ge own2
      have e1 : Value.int .u64 ((b : Int) * 2654435761 + (j : Int) * 97) = u64v (b * 2654435761 + j * 97) := by unfold u64v; congr 1
      rw [e1] at own'
      have HO := Lib.hid own'
      clear e1 own'
      go_roundw
      case rel => exact ⟨j + 1, l ++ [b * 2654435761 + j * 97], A', c', by omega, by go_num, rfl, Lib.hid ⟨by simp [HL.out.1], fun y hy => by
        rcases List.mem_append.1 hy with hy | hy
        · exact HL.out.2 y hy
        · simp only [List.mem_singleton] at hy
          omega⟩, (F.same F2).own F' og, S2.frs F' (fun q hq => by have := og q hq; omega), by rw [List.map_append]; exact HO.out⟩
      case measure => simp [intOf]; omega
    · obtain rfl : j = n := by omega
      go_wp2_with fail
      go_ret
      exact ⟨_, l, rfl, HL.out.1, HL.out.2, SlD.own_dn own, S, F⟩

/-- A trust that can be declared. -/
def DeclaredP (w : World) (g : Nat) (e : Ending) (w' : World) : Prop :=
  ∃ v T, e = .returned v ∧ TrD w' (Dn w.heap.size w') v T ∧ validE T = 0 ∧ T.dep ≤ 3 ∧ T.size ≤ 40 ∧ SrcR 84 w' g ∧ Fr (some g) w w'
set_option maxRecDepth 100000 in
set_option maxHeartbeats 1000000 in
theorem declared_any (n g : Nat) (w : World) (hn1 : 1 ≤ n) (hn2 : n ≤ 10) (S0 : SrcR 84 w g) :
    Calls Tryz.prog 68 #[.pointer (some ⟨g, 0, none⟩), .int .i64 n] w (DeclaredP w g) := by
  have hg := S0.lt
  go_enter Tryz.func68, Tryz.ntmps68
  go_wp2_with fail
  generalize hW : w.alloc _ = w1
  have hz : w1.heap.size = w.heap.size + 1 := by rw [← hW]; simp
  have F1 : Fr none w w1 := hW ▸ ((Fr.refl _ w).alloc _)
  have b4 : TB w1 w.heap.size (.int .i64 0) (.slice none 0 0) (.slice none 0 0) := by
    rw [← hW]; exact blk_new _ _
  have S1 := S0.fr F1
  clear hW S0
  refine (mkTrust_any n 2 g _ hn1 hn2 (by omega) (by omega) S1).mono ?_
  rintro e w2 ⟨v, T, rfl, hT, hv, hdp, hni, S2, F2⟩
  obtain ⟨th, A1, n1, c1, A2, n2, c2, rfl⟩ := hT.shape
  have hz2 := F2.size
  have b4 := b4.fr F2 (by simp; omega)
  have F2 := (F1.mono (r := some g)).same F2
  have hT := TrD.keep (dn_mono (B := w.heap.size + 1) (by omega)) _ _ hT
  have hsz := (valid_check hv).2.1
  clear S1 F1
  go_wp2_with fail
  generalize hW : w2.alloc _ = w3
  have F23 : Fr none w2 w3 := hW ▸ ((Fr.refl _ w2).alloc _)
  have hz3 : w3.heap.size = w2.heap.size + 1 := by rw [← hW]; simp
  have b5 : TB w3 w2.heap.size (.int .i64 th) (.slice A1 n1 c1) (.slice A2 n2 c2) := by rw [← hW]; exact blk_new _ _
  have b4 := b4.fr F23 (by simp)
  have hT := TrD.keep (dn_fr F23 (by simp)) _ _ hT
  have S3 := S2.fr F23
  have F3 := F2.pure F23
  clear hW S2 F2 F23
  have hT0 : TrR w3 none (.agg #[.int .i64 th, .slice A1 n1 c1, .slice A2 n2 c2]) T := TrD.keep (dn_dm (B := w.heap.size + 1) (by simp)) _ _ hT
  refine (rsize_any T.dep T _ _ none (Nat.le_refl _) (by omega) hT0).mono ?_
  rintro e w4 ⟨rfl, F4⟩
  have hz4 := F4.size
  have b4 := b4.fr F4 (by simp)
  have b5 := b5.fr F4 (by simp)
  have hT := TrD.keep (dn_fr F4 (by simp)) _ _ hT
  have hT4 := hT0.fr F4
  have S4 := S3.fr F4
  have F4 := F3.pure F4
  clear hT0 S3 F3
  have R4 := b4.cell
  have Z4 := b4.free
  have R5 := b5.cell
  obtain ⟨z, hzz⟩ : ∃ z, z = T.size := ⟨_, rfl⟩
  rw [← hzz] at hsz ⊢
  have HZ := Lib.hid hzz
  have HV := Lib.hid hv
  have HD := Lib.hid hdp
  clear hzz hv hdp
  have hlt4 : w.heap.size < w4.heap.size := by omega
  by_cases h40 : 40 < z
  · go_wp2_with fail
    refine bodyPost_ret (v := .agg #[.int .i64 1, .slice (some ⟨w4.heap.size, 0, none⟩) 1 1, .slice none 0 0]) (by simp [results, Tryz.results68, go_sem, R4, hlt4]) rfl ?_
    have G := fr_fill3 w4 w.heap.size (.int .i64 1) (.slice (some ⟨w4.heap.size, 0, none⟩) 1 1) (.slice none 0 0)
    generalize hw6 : World.setCell (World.setCell (World.setCell w4 _ _) _ _) _ _ = w6 at *
    have hz6 : w6.heap.size = w4.heap.size := by rw [← hw6]; simp [World.setCell]
    rw [← hz6]
    have hA := (Fr.refl none w6).alloc (.cells #[.int .i64 0] 3)
    exact ⟨_, .mk 1 [0] [], rfl, TrD.mk_ (by constructor <;> omega) (SlD.lit_dn #[.int .i64 0] 3 1 1 w.heap.size rfl (by unfold maxLen; omega) (by omega) (Fr.refl none _)) (by intro y hy; simp at hy; subst hy; constructor <;> omega) (SlD.nil _ _ _) (by simp) (by simp) (by simp [TrsD]), validE_flat 0 (by omega) (by omega), by simp [Tr.dep, depL], by simp [Tr.size, sizeL], (S4.frs G (by simp; omega)).fr hA, (F4.own G (by simp)).pure hA⟩
  · go_wp2_with fail
    refine (rdepth_any T.dep T _ _ none (Nat.le_refl _) (by have := HD.out; omega) hT4).mono ?_
    rintro e w5 ⟨rfl, F5⟩
    have hz5 := F5.size
    have c4 := b4.fr F5 (by simp)
    have c5 := b5.fr F5 (by simp)
    have Q4 := c4.cell
    have W4 := c4.free
    have Q5 := c5.cell
    have hT5 := TrD.keep (dn_fr F5 (by simp)) _ _ hT
    have S5 := S4.fr F5
    have F5 := F4.pure F5
    have hd2 : ¬ 3 < T.dep := by have := HD.out; omega
    clear R4 Z4 R5
    go_wp2_with fail
    refine bodyPost_ret (v := .agg #[.int .i64 th, .slice A1 n1 c1, .slice A2 n2 c2]) (by simp [results, Tryz.results68, go_sem, Q4]) rfl ?_
    have G := fr_fill3 w5 w.heap.size (.int .i64 th) (.slice A1 n1 c1) (.slice A2 n2 c2)
    exact ⟨_, T, rfl, TrD.keep (dn_mono (by omega)) _ _ (TrD.keep (dn_fr G (by simp)) _ _ hT5), HV.out, by have := HD.out; omega, by have := HZ.out; omega, S5.frs G (by simp; omega), F5.own G (by simp)⟩
end Go.Proofs.YtoblhcieidljjaaGreatDoor

/- Walks: mk.Declaration; declaration.Check. -/
namespace Go.Proofs.YtoblhcieidljjaaGreatDoor
open Go.RowKit

theorem plain_mk {nd sq : Int} {t : Tr} {tg : Nat} (h1 : 0 ≤ nd) (h2 : nd < 10) (h3 : 1 ≤ sq) (h4 : sq ≤ 30) (hv : validE t = 0) (hd : t.dep ≤ 3) (hz : t.size ≤ 40) : plainE ⟨nd, sq, t, tg⟩ = 0 := by
  unfold plainE
  simp only
  rw [if_neg (by omega), if_neg (by omega), if_neg (by rw [hv]; simp), if_neg (by omega)]
theorem bytes_tag (nd sq : Int) (t : Tr) (a b : Nat) : bytesS ⟨nd, sq, t, a⟩ = bytesS ⟨nd, sq, t, b⟩ := rfl
theorem plain_tag (nd sq : Int) (t : Tr) (a b : Nat) : plainE ⟨nd, sq, t, a⟩ = plainE ⟨nd, sq, t, b⟩ := rfl
/-- A slice of keys, for a walk. -/
theorem keys_open {D : Nat → Prop} {w : World} {v : Value} {l : List Nat} (h : SlD w D 1 v (l.map u64v)) :
    ∃ A c, v = .slice A l.length c ∧ l.length ≤ c ∧ c ≤ 9223372036854775807 ∧ (0 < l.length → ∃ b off, A = some ⟨b, off, none⟩ ∧ D b ∧ ∀ k (hk : k < l.length), w.cell? ⟨b, off + k, none⟩ = some (.int .u64 ((l[k] : Nat) : Int))) := by
  obtain ⟨A, n, c, rfl, hl, hc, hm, hx⟩ := h
  unfold maxLen at hm
  have e : n = l.length := by simpa using hl.symm
  subst e
  refine ⟨A, c, rfl, hc, hm, fun hn => ?_⟩
  obtain ⟨b, off, rfl, hb, hx⟩ := hx hn
  exact ⟨b, off, rfl, hb, fun k hk => hx k _ (by simp [hk, u64v])⟩
/-- A right declaration of one of those who have keys. -/
def DeclP (w : World) (g : Nat) (ks : List Nat) (e : Ending) (w' : World) : Prop :=
  ∃ (v : Value) (k : Nat) (hk : k < ks.length) (sq : Int) (T : Tr), e = .returned v ∧ 1 ≤ sq ∧ sq ≤ 4 ∧ validE T = 0 ∧ T.dep ≤ 3 ∧ T.size ≤ 40 ∧
    DeD w' (Dn w.heap.size w') v ⟨k, sq, T, tagS ks[k] (bytesS ⟨k, sq, T, 0⟩)⟩ ∧ SrcR 84 w' g ∧ Fr (some g) w w'

/-- What stays true of the world while a declaration is being made: the key's cell, the tape, the frame, the table. -/
def Kp (w2 : World) (g kb o y : Nat) (W : World) : Prop := W.cell? ⟨kb, o, none⟩ = some (.int .u64 (y : Nat)) ∧ SrcR 84 W g ∧ Fr (some g) w2 W ∧ Tab W
theorem Kp.alloc {w2 W : World} {g kb o y : Nat} (h : Kp w2 g kb o y W) (ob : Obj) : Kp w2 g kb o y (W.alloc ob) :=
  ⟨((Fr.refl none W).alloc ob).keep h.1 (by simp), h.2.1.fr ((Fr.refl none W).alloc ob), h.2.2.1.alloc ob, h.2.2.2.fr ((Fr.refl none W).alloc ob)⟩
theorem Kp.src {w2 W W' : World} {g kb o y : Nat} (h : Kp w2 g kb o y W) (hk : kb ≠ g) (S : SrcR 84 W' g) (F : Fr (some g) W W') : Kp w2 g kb o y W' :=
  ⟨F.keep h.1 (by simp; omega), S, h.2.2.1.same F, h.2.2.2.src h.2.1 F⟩
theorem Kp.fr {w2 W W' : World} {g kb o y : Nat} (h : Kp w2 g kb o y W) (F : Fr none W W') : Kp w2 g kb o y W' :=
  ⟨F.keep h.1 (by simp), h.2.1.fr F, h.2.2.1.pure F, h.2.2.2.fr F⟩
theorem Kp.fill {w2 W W' : World} {g kb o y B : Nat} (h : Kp w2 g kb o y W) (hT : Tab w2) (hB : w2.heap.size ≤ B) (hg : g < w2.heap.size) (hk : kb < w2.heap.size) (F : Fr (some B) W W') : Kp w2 g kb o y W' :=
  ⟨F.keep h.1 (by simp; omega), h.2.1.frs F (by simp; omega), h.2.2.1.new F hB, h.2.2.2.frs F (by have := hT.cells.1; simp; omega)⟩
theorem kp_two {w2 W : World} {g kb o y : Nat} (h : Kp w2 g kb o y W) : W.cell? ⟨kb, o, none⟩ = some (.int .u64 (y : Nat)) ∧ Kp w2 g kb o y W := ⟨h.1, h⟩
theorem db_fill {w : World} {b : Nat} {z0 z1 z2 z3 z4 z5 : Value} (h : DB w b z0 z1 z2 z3 z4 z5) (x0 x1 x2 x3 x4 x5 : Value) : DB ((((((w.setCell ⟨b, 0, none⟩ x0).setCell ⟨b, 1, none⟩ x1).setCell ⟨b, 2, none⟩ x2).setCell ⟨b, 3, none⟩ x3).setCell ⟨b, 4, none⟩ x4).setCell ⟨b, 5, none⟩ x5) b x0 x1 x2 x3 x4 x5 := by
  have := blk_set (blk_set (blk_set (blk_set (blk_set (blk_set h 0 x0) 1 x1) 2 x2) 3 x3) 4 x4) 5 x5
  simpa [DB] using this
theorem tagS_lt (k : Nat) (l : List UInt8) : tagS k l < 18446744073709551616 := hashS_lt _
theorem ded_mk {w : World} {D : Nat → Prop} {th : Int} {vn vi : Value} {nd sq : Int} {T : Tr} {tg : Nat} (h : TrD w D (.agg #[.int .i64 th, vn, vi]) T) (hn : Wi nd) (hq : Wi sq) (ht : tg < 18446744073709551616) : DeD w D (.agg #[.int .i64 nd, .int .i64 sq, .int .i64 th, vn, vi, .int .u64 (tg : Nat)]) ⟨nd, sq, T, tg⟩ := ⟨th, vn, vi, rfl, h, hn, hq, ht⟩
theorem trd_end {w4 w5 w6 w7 : World} {v : Value} {T : Tr} {b c0 B C : Nat} (h : TrD w4 (Dn b w4) v T) (F5 : Fr none w4 w5) (F6 : Fr (some B) w5 w6) (F7 : Fr (some C) w6 w7) (hB : B < b ∨ w4.heap.size ≤ B) (hC : C < b) (h0 : c0 ≤ b) : TrD w7 (Dn c0 w7) v T :=
  TrD.keep (fun k hk => by
    have s5 := F5.size
    have s6 := F6.size
    have s7 := F7.size
    obtain ⟨h1, h2⟩ := hk
    refine ⟨⟨by omega, by omega⟩, ?_⟩
    rw [F7.block k (by omega) (by simp; omega), F6.block k (by omega) (by simp; omega), F5.block k h2 (by simp)]) T v h
def ZB : Obj := .cells #[.int .i64 0, .int .i64 0, .int .i64 0, .slice none 0 0, .slice none 0 0, .int .u64 0] 45

set_option maxRecDepth 100000 in
set_option maxHeartbeats 4000000 in
theorem mkdecl_any (ks : List Nat) (kv : Value) (g : Nat) (w : World) (hn1 : 1 ≤ ks.length) (hn2 : ks.length ≤ 10) (hks : ∀ y ∈ ks, y < 18446744073709551616) (hkv : SlD w (Dm w (some g)) 1 kv (ks.map u64v)) (S0 : SrcR 84 w g) (hT : Tab w) :
    Calls Tryz.prog 17 #[.pointer (some ⟨g, 0, none⟩), kv] w (DeclP w g ks) := by
  have hg := S0.lt
  obtain ⟨A, c, rfl, q1, q2, hc⟩ := keys_open hkv
  obtain ⟨kb, off, rfl, hkb, hcc⟩ := hc (by omega)
  have HKS := Lib.hid hks
  obtain ⟨hkb1, hkb2⟩ := hkb
  have hkg : kb ≠ g := fun e => hkb2 (by rw [e])
  clear hc hks hkv hkb2
  go_enter Tryz.func17, Tryz.ntmps17
  go_wp2_with fail
  generalize hW : w.alloc _ = w1
  have hz : w1.heap.size = w.heap.size + 1 := by rw [← hW]; simp
  have F1 : Fr none w w1 := hW ▸ ((Fr.refl _ w).alloc _)
  have b4 : DB w1 w.heap.size (.int .i64 0) (.int .i64 0) (.int .i64 0) (.slice none 0 0) (.slice none 0 0) (.int .u64 0) := by
    rw [← hW]; exact blk_new _ _
  have S1 := S0.fr F1
  have T1 := hT.fr F1
  clear hW S0
  refine (tapeN_any _ g _ (by omega) (by omega) S1).mono ?_
  rintro e w2 ⟨x, rfl, x1, x2, S2, F2⟩
  obtain ⟨k, rfl⟩ := Int.eq_ofNat_of_zero_le x1
  have hk : k < ks.length := by omega
  have T2 := T1.src S1 F2
  have F12 := (F1.mono (r := some g)).same F2
  have hck := F12.keep (hcc k hk) (by simp; omega)
  have hy := HKS.out ks[k] (List.getElem_mem _)
  obtain ⟨y, hyy⟩ : ∃ y, y = ks[k] := ⟨_, rfl⟩
  rw [← hyy] at hck hy
  have HY := Lib.hid hyy
  have HYL := Lib.hid hy
  have b4w := b4.fr F2 (by simp; omega)
  clear hcc hyy hy S1 T1 b4
  go_wp2_with fail
  have K2 : Kp w2 g kb (off + k) y w2.drew := ⟨hck, S2.drew, (Fr.refl _ _).drew, T2.fr (Fr.refl _ _).drew⟩
  have K2a : Kp w2 g kb (off + k) y (w2.alloc (.cells #[.int .i64 0, .int .i64 0, .int .i64 0, .slice none 0 0, .slice none 0 0, .int .u64 0] 45)).drew := K2.alloc _
  have hz2 := F12.size
  have hgl : g < w2.heap.size := S2.lt
  have hzw : w.heap.size < w2.heap.size := by have := F2.size; omega
  have hkl : kb < w2.heap.size := by omega
  go_region_held3 (fun w' => w'.cell? ⟨kb, off + k, none⟩ = some (.int .u64 (y : Nat)) ∧ Kp w2 g kb (off + k) y w') (first | (with_reducible exact kp_two K2) | (with_reducible exact kp_two K3) | (with_reducible exact kp_two K4) | (with_reducible exact kp_two K5) | (with_reducible exact kp_two K2a) | (with_reducible exact kp_two (K3.alloc _)) | (with_reducible exact kp_two (K4.alloc _)) | (with_reducible exact kp_two (K5.alloc _)) | ((with_reducible refine kp_two (Kp.fill ?_ T2 ?_ hgl hkl (fr_fill6 _ _ _ _ _ _ _ _))); (with_reducible assumption); omega))
    (first | (go_at_call 16; refine (tapeRange_any 1 4 g _ (by omega) (by omega) (by omega) (‹_ ∧ Kp w2 g kb (off + k) y _›).2.2.1).mono ?_; rintro e w3 ⟨sq, rfl, s1, s2, S3, F3⟩; have K3 : Kp w2 g kb (off + k) y w3 := (‹_ ∧ Kp w2 g kb (off + k) y _›).2.src hkg S3 F3; have hz3 := F3.size; (try simp at hz3); first | have e3 : w3.heap[w2.heap.size]? = some (.cells #[.int .i64 0, .int .i64 0, .int .i64 0, .slice none 0 0, .slice none 0 0, .int .u64 0] 45 (0, 0)) := blk_fr (w := (w2.alloc _).drew) (blk_new w2 _) F3 (by simp; omega) | skip) | (go_at_call 68; refine (declared_any ks.length g _ hn1 hn2 (‹_ ∧ Kp w2 g kb (off + k) y _›).2.2.1).mono ?_; rintro e w4 ⟨v, T, rfl, hT4, hv, hd, hz4, S4, F4⟩; obtain ⟨th, A1, n1, c1, A2, n2, c2, rfl⟩ := hT4.shape; have K4 : Kp w2 g kb (off + k) y w4 := (‹_ ∧ Kp w2 g kb (off + k) y _›).2.src hkg S4 F4; have HV := Lib.hid hv; clear hv; have hz5 := F4.size; (try simp at hz5); first | have e4 : w4.heap[w2.heap.size]? = some (.cells #[.int .i64 0, .int .i64 0, .int .i64 0, .slice none 0 0, .slice none 0 0, .int .u64 0] 45 (0, 0)) := blk_fr e3 F4 (by simp; omega) | have e4 : w4.heap[w3.heap.size]? = some (.cells #[.int .i64 0, .int .i64 0, .int .i64 0, .slice none 0 0, .slice none 0 0, .int .u64 0] 45 (0, 0)) := blk_fr (blk_new w3 _) F4 (by simp; omega) | skip) | (go_at_call 30; refine (rsign_any y HYL.out k sq T th A1 n1 c1 A2 n2 c2 _ none ?_ ?_ ?_ ?_ (‹_ ∧ Kp w2 g kb (off + k) y _›).2.2.2.2 ?_).mono ?_; (constructor <;> omega); (constructor <;> omega); omega; (first | exact TrD.keep (dn_dm (by simp)) _ _ hT4 | exact TrD.keep (fr_dm ((Fr.refl none w4).alloc _)) _ _ (TrD.keep (dn_dm (by simp)) _ _ hT4)); exact (plain_mk (by omega) (by omega) s1 (by omega) HV.out hd hz4); rintro e w5 ⟨rfl, F5⟩; have K5 : Kp w2 g kb (off + k) y w5 := (‹_ ∧ Kp w2 g kb (off + k) y _›).2.fr F5; (first | have b5 := blk_fr e4 F5 (by simp) | have b5 : w5.heap[w4.heap.size]? = some (.cells #[.int .i64 0, .int .i64 0, .int .i64 0, .slice none 0 0, .slice none 0 0, .int .u64 0] 45 (0, 0)) := blk_fr (blk_new w4 _) F5 (by simp) | skip); (try have R6 := blk_cell b5); (try have Z6 := blk_free b5); have d4 := b4w.fr K5.2.2.1 (by simp; omega); have S5 := K5.2.1; have F25 := K5.2.2.1; have F45 : Fr none w4 w5 := (by first | exact F5 | exact ((Fr.refl none w4).alloc _).pure F5); obtain ⟨b0, hb0, hT5⟩ : ∃ b0, b0 = _ ∧ TrD w4 (Dn b0 w4) (.agg #[.int .i64 th, .slice A1 n1 c1, .slice A2 n2 c2]) T := ⟨_, rfl, hT4⟩; (try simp at hb0); have hz6 := F45.size))
  · generalize hw6 : World.alloc w5 _ = w6
    have F6 : Fr (some w5.heap.size) w5 w6 := by rw [← hw6]; exact ((Fr.refl none w5).alloc _).mono
    have b6 : DB w6 w5.heap.size (.int .i64 (k : Int)) (.int .i64 sq) (.int .i64 th) (.slice A1 n1 c1) (.slice A2 n2 c2) (.int .u64 (tagS y (bytesS ⟨k, sq, T, 0⟩) : Nat)) := by rw [← hw6]; exact blk_new _ _
    obtain ⟨B, hB0⟩ : ∃ B, B = w5.heap.size := ⟨_, rfl⟩
    rw [← hB0] at b6 F6 ⊢
    have hB : B < b0 ∨ w4.heap.size ≤ B := by omega
    have hB2 : w2.heap.size ≤ B := by omega
    clear hB0 hw6
    have d6 := d4.fr F6 (by simp; omega)
    have R6' := b6.cell
    have Q6 := d6.cell
    have W6 := d6.free
    have hd2 := hd
    go_wp2_with fail
    refine bodyPost_ret (v := .agg #[.int .i64 (k : Int), .int .i64 sq, .int .i64 th, .slice A1 n1 c1, .slice A2 n2 c2, .int .u64 (tagS y (bytesS ⟨k, sq, T, 0⟩) : Nat)]) (by simp [results, Tryz.results17, go_sem, Q6]) rfl ?_
    have F7 := fr_fill6 w6 w.heap.size (.int .i64 (k : Int)) (.int .i64 sq) (.int .i64 th) (.slice A1 n1 c1) (.slice A2 n2 c2) (.int .u64 (tagS y (bytesS ⟨k, sq, T, 0⟩) : Nat))
    have FF : Fr (some g) w2 w6 := F25.new F6 hB2
    refine ⟨_, k, hk, sq, T, rfl, s1, s2, HV.out, hd, hz4, ?_, (S5.frs F6 (by simp; omega)).frs F7 (by simp; omega), (F12.same FF).own F7 (by simp)⟩
    rw [← HY.out]
    exact ded_mk (trd_end hT5 F45 F6 F7 hB (by omega) (by omega)) ⟨by omega, by omega⟩ ⟨by omega, by omega⟩ (tagS_lt _ _)
  · generalize hw6 : World.setCell (World.setCell (World.setCell (World.setCell (World.setCell (World.setCell w5 _ _) _ _) _ _) _ _) _ _) _ _ = w6
    have F6 : Fr (some w4.heap.size) w5 w6 := by rw [← hw6]; exact fr_fill6 _ _ _ _ _ _ _ _
    have b6 : DB w6 w4.heap.size (.int .i64 (k : Int)) (.int .i64 sq) (.int .i64 th) (.slice A1 n1 c1) (.slice A2 n2 c2) (.int .u64 (tagS y (bytesS ⟨k, sq, T, 0⟩) : Nat)) := by rw [← hw6]; exact db_fill b5 _ _ _ _ _ _
    obtain ⟨B, hB0⟩ : ∃ B, B = w4.heap.size := ⟨_, rfl⟩
    rw [← hB0] at b6 F6 ⊢
    have hB : B < b0 ∨ w4.heap.size ≤ B := by omega
    have hB2 : w2.heap.size ≤ B := by omega
    clear hB0 hw6 R6 Z6
    have d6 := d4.fr F6 (by simp; omega)
    have R6' := b6.cell
    have Q6 := d6.cell
    have W6 := d6.free
    have hd2 := hd
    go_wp2_with fail
    refine bodyPost_ret (v := .agg #[.int .i64 (k : Int), .int .i64 sq, .int .i64 th, .slice A1 n1 c1, .slice A2 n2 c2, .int .u64 (tagS y (bytesS ⟨k, sq, T, 0⟩) : Nat)]) (by simp [results, Tryz.results17, go_sem, Q6]) rfl ?_
    have F7 := fr_fill6 w6 w.heap.size (.int .i64 (k : Int)) (.int .i64 sq) (.int .i64 th) (.slice A1 n1 c1) (.slice A2 n2 c2) (.int .u64 (tagS y (bytesS ⟨k, sq, T, 0⟩) : Nat))
    have FF : Fr (some g) w2 w6 := F25.new F6 hB2
    refine ⟨_, k, hk, sq, T, rfl, s1, s2, HV.out, hd, hz4, ?_, (S5.frs F6 (by simp; omega)).frs F7 (by simp; omega), (F12.same FF).own F7 (by simp)⟩
    rw [← HY.out]
    exact ded_mk (trd_end hT5 F45 F6 F7 hB (by omega) (by omega)) ⟨by omega, by omega⟩ ⟨by omega, by omega⟩ (tagS_lt _ _)
  · generalize hw6 : World.setCell (World.setCell (World.setCell (World.setCell (World.setCell (World.setCell w5 _ _) _ _) _ _) _ _) _ _) _ _ = w6
    have F6 : Fr (some w3.heap.size) w5 w6 := by rw [← hw6]; exact fr_fill6 _ _ _ _ _ _ _ _
    have b6 : DB w6 w3.heap.size (.int .i64 (k : Int)) (.int .i64 sq) (.int .i64 th) (.slice A1 n1 c1) (.slice A2 n2 c2) (.int .u64 (tagS y (bytesS ⟨k, sq, T, 0⟩) : Nat)) := by rw [← hw6]; exact db_fill b5 _ _ _ _ _ _
    obtain ⟨B, hB0⟩ : ∃ B, B = w3.heap.size := ⟨_, rfl⟩
    rw [← hB0] at b6 F6 ⊢
    have hB : B < b0 ∨ w4.heap.size ≤ B := by omega
    have hB2 : w2.heap.size ≤ B := by omega
    clear hB0 hw6 R6 Z6
    have d6 := d4.fr F6 (by simp; omega)
    have R6' := b6.cell
    have Q6 := d6.cell
    have W6 := d6.free
    have hd2 := hd
    go_wp2_with fail
    refine bodyPost_ret (v := .agg #[.int .i64 (k : Int), .int .i64 sq, .int .i64 th, .slice A1 n1 c1, .slice A2 n2 c2, .int .u64 (tagS y (bytesS ⟨k, sq, T, 0⟩) : Nat)]) (by simp [results, Tryz.results17, go_sem, Q6]) rfl ?_
    have F7 := fr_fill6 w6 w.heap.size (.int .i64 (k : Int)) (.int .i64 sq) (.int .i64 th) (.slice A1 n1 c1) (.slice A2 n2 c2) (.int .u64 (tagS y (bytesS ⟨k, sq, T, 0⟩) : Nat))
    have FF : Fr (some g) w2 w6 := F25.new F6 hB2
    refine ⟨_, k, hk, sq, T, rfl, s1, s2, HV.out, hd, hz4, ?_, (S5.frs F6 (by simp; omega)).frs F7 (by simp; omega), (F12.same FF).own F7 (by simp)⟩
    rw [← HY.out]
    exact ded_mk (trd_end hT5 F45 F6 F7 hB (by omega) (by omega)) ⟨by omega, by omega⟩ ⟨by omega, by omega⟩ (tagS_lt _ _)
  · generalize hw6 : World.setCell (World.setCell (World.setCell (World.setCell (World.setCell (World.setCell w5 _ _) _ _) _ _) _ _) _ _) _ _ = w6
    have F6 : Fr (some w2.heap.size) w5 w6 := by rw [← hw6]; exact fr_fill6 _ _ _ _ _ _ _ _
    have b6 : DB w6 w2.heap.size (.int .i64 (k : Int)) (.int .i64 sq) (.int .i64 th) (.slice A1 n1 c1) (.slice A2 n2 c2) (.int .u64 (tagS y (bytesS ⟨k, sq, T, 0⟩) : Nat)) := by rw [← hw6]; exact db_fill b5 _ _ _ _ _ _
    obtain ⟨B, hB0⟩ : ∃ B, B = w2.heap.size := ⟨_, rfl⟩
    rw [← hB0] at b6 F6 ⊢
    have hB : B < b0 ∨ w4.heap.size ≤ B := by omega
    have hB2 : w2.heap.size ≤ B := by omega
    clear hB0 hw6 R6 Z6
    have d6 := d4.fr F6 (by simp; omega)
    have R6' := b6.cell
    have Q6 := d6.cell
    have W6 := d6.free
    have hd2 := hd
    go_wp2_with fail
    refine bodyPost_ret (v := .agg #[.int .i64 (k : Int), .int .i64 sq, .int .i64 th, .slice A1 n1 c1, .slice A2 n2 c2, .int .u64 (tagS y (bytesS ⟨k, sq, T, 0⟩) : Nat)]) (by simp [results, Tryz.results17, go_sem, Q6]) rfl ?_
    have F7 := fr_fill6 w6 w.heap.size (.int .i64 (k : Int)) (.int .i64 sq) (.int .i64 th) (.slice A1 n1 c1) (.slice A2 n2 c2) (.int .u64 (tagS y (bytesS ⟨k, sq, T, 0⟩) : Nat))
    have FF : Fr (some g) w2 w6 := F25.new F6 hB2
    refine ⟨_, k, hk, sq, T, rfl, s1, s2, HV.out, hd, hz4, ?_, (S5.frs F6 (by simp; omega)).frs F7 (by simp; omega), (F12.same FF).own F7 (by simp)⟩
    rw [← HY.out]
    exact ded_mk (trd_end hT5 F45 F6 F7 hB (by omega) (by omega)) ⟨by omega, by omega⟩ ⟨by omega, by omega⟩ (tagS_lt _ _)
end Go.Proofs.YtoblhcieidljjaaGreatDoor

/- Walks: declaration.Check. -/
namespace Go.Proofs.YtoblhcieidljjaaGreatDoor
open Go.RowKit

/-- What Check returns for a plain declaration. -/
def chkE (ks : List Nat) (d : De) : Int := if (ks.length : Int) ≤ d.node then 10 else if d.tag = tagS (ks.getD d.node.toNat 0) (bytesS d) then 0 else 8

set_option maxRecDepth 100000 in
set_option maxHeartbeats 2000000 in
theorem check_any (ks : List Nat) (kv : Value) (d : De) (v : Value) (w : World) (r : Option Nat) (hks : ∀ y ∈ ks, y < 18446744073709551616) (hkv : SlD w (Dm w none) 1 kv (ks.map u64v)) (h : DeD w (Dm w r) v d) (hp : plainE d = 0) (hT : Tab w) :
    Calls Tryz.prog 27 #[kv, v] w fun e w' => e = .returned (.int .i64 (chkE ks d)) ∧ Fr none w w' := by
  obtain ⟨hn0, hs0, hv0, hd0, hz0⟩ := plain_parts hp
  obtain ⟨th, A1, n1, c1, A2, n2, c2, rfl, hTr, hn, hq, ht⟩ := h.shape
  obtain ⟨A, c, rfl, q1, q2, hc⟩ := keys_open hkv
  have F1 := (Fr.refl none w).alloc (.cells #[.int .i64 d.node, .int .i64 d.seq, .int .i64 th, .slice A1 n1 c1, .slice A2 n2 c2, .int .u64 d.tag] 45)
  have h1 : DeD _ (Dm _ r) _ d := h.keep (fr_dm (F1.mono (r := r)))
  have T1 := hT.fr F1
  have hs : d.tr.size ≤ 1073741000 := by omega
  have HKS := Lib.hid hks
  have HP := Lib.hid hp
  have HT := Lib.hid ht
  obtain ⟨nd, hnd⟩ := Int.eq_ofNat_of_zero_le hn0.1
  have hbl := bytes_len d
  obtain ⟨L, hL⟩ : ∃ L, L = bytesS d := ⟨_, rfl⟩
  rw [← hL] at hbl
  have HL := Lib.hid hL
  obtain ⟨tg, htg⟩ : ∃ tg, tg = d.tag := ⟨_, rfl⟩
  have HTG := Lib.hid htg
  rw [← htg] at F1 h1 T1 ⊢
  have HND := Lib.hid hnd
  rw [hnd] at F1 h1 T1 ⊢
  clear hks hp ht hL htg hTr h hkv hnd hT
  go_enter Tryz.func27, Tryz.ntmps27
  go_wp2_with fail
  generalize hW : w.alloc _ = w1 at *
  have b3 : DB w1 w.heap.size (.int .i64 (nd : Int)) (.int .i64 d.seq) (.int .i64 th) (.slice A1 n1 c1) (.slice A2 n2 c2) (.int .u64 (tg : Nat)) := by rw [← hW]; exact blk_new _ _
  clear hW
  refine (plain_any d _ _ r hs h1).mono ?_
  rintro e w2 ⟨rfl, F2⟩
  rw [HP.out]
  have c3 := b3.fr F2 (by simp)
  have h2 := h1.keep (fr_dm (F2.mono (r := r)))
  have T2 := T1.fr F2
  have F12 := F1.pure F2
  have R3 := c3.cell
  clear h1 T1
  by_cases hlen : ks.length ≤ nd
  · have HE : Hid (chkE ks d = 10) := by unfold Hid chkE; rw [HND.out, if_pos (by omega)]
    go_wp2_with fail
    go_ret
    exact ⟨ret_int (by rw [HE.out]), F12⟩
  · have hk : nd < ks.length := by omega
    obtain ⟨kb, off, rfl, hkb, hcc⟩ := hc (by omega)
    have hck := F12.keep (hcc nd hk) (by simp)
    have hy := HKS.out ks[nd] (List.getElem_mem _)
    obtain ⟨y, hyy⟩ : ∃ y, y = ks[nd] := ⟨_, rfl⟩
    rw [← hyy] at hck hy
    have HY := Lib.hid hyy
    have HYL := Lib.hid hy
    have q0 : w2.drew.cell? ⟨w.heap.size, 0, none⟩ = some (.int .i64 (nd : Int)) := R3 0
    have q1' : w2.drew.cell? ⟨w.heap.size, 1, none⟩ = some (.int .i64 d.seq) := R3 1
    have q2' : w2.drew.cell? ⟨w.heap.size, 2, none⟩ = some (.int .i64 th) := R3 2
    have q3 : w2.drew.cell? ⟨w.heap.size, 3, none⟩ = some (.slice A1 n1 c1) := R3 3
    have q4 : w2.drew.cell? ⟨w.heap.size, 4, none⟩ = some (.slice A2 n2 c2) := R3 4
    have q5 : w2.drew.cell? ⟨w.heap.size, 5, none⟩ = some (.int .u64 (tg : Nat)) := R3 5
    have q6 : w2.drew.cell? ⟨kb, off + nd, none⟩ = some (.int .u64 (y : Nat)) := hck
    have HE : Hid (chkE ks d = if tg = tagS y L then 0 else 8) := by
      unfold Hid chkE
      rw [HND.out, if_neg (by omega), ← HTG.out, ← HL.out]
      have : ks.getD (nd : Int).toNat 0 = y := by rw [Int.toNat_natCast, List.getD_eq_getElem?_getD, List.getElem?_eq_getElem hk, HY.out]; rfl
      rw [this]
    clear hcc hyy hy hck
    have Fd : Fr none w2 w2.drew := (Fr.refl _ _).drew
    go_wp2_with fail
    go_region_held3 (fun w' => w'.cell? ⟨w.heap.size, 0, none⟩ = some (.int .i64 (nd : Int)) ∧ w'.cell? ⟨w.heap.size, 1, none⟩ = some (.int .i64 d.seq) ∧ w'.cell? ⟨w.heap.size, 2, none⟩ = some (.int .i64 th) ∧ w'.cell? ⟨w.heap.size, 3, none⟩ = some (.slice A1 n1 c1) ∧ w'.cell? ⟨w.heap.size, 4, none⟩ = some (.slice A2 n2 c2) ∧ w'.cell? ⟨w.heap.size, 5, none⟩ = some (.int .u64 (tg : Nat)) ∧ w'.cell? ⟨kb, off + nd, none⟩ = some (.int .u64 (y : Nat))) (first | (with_reducible exact ⟨q0, q1', q2', q3, q4, q5, q6⟩) | (with_reducible exact KK) | (with_reducible exact K2))
      (first | (go_at_call 21; refine (bytes_any d _ _ r hs (h2.keep (fr_dm (Fd.mono (r := r)))) (T2.fr Fd)).mono ?_; rintro e w3 ⟨S, rfl, hS, hSs, F3⟩; have HS := Lib.hid hS; clear hS; have KK := And.intro (F3.keep q0 (by simp)) (And.intro (F3.keep q1' (by simp)) (And.intro (F3.keep q2' (by simp)) (And.intro (F3.keep q3 (by simp)) (And.intro (F3.keep q4 (by simp)) (And.intro (F3.keep q5 (by simp)) (F3.keep q6 (by simp)))))))) | (go_at_call 39; refine (tag_any y HYL.out S _ (by omega)).mono ?_; rintro e w4 ⟨rfl, F4⟩; obtain ⟨z, hz⟩ : ∃ z, z = tagS y S.data.toList := ⟨_, rfl⟩; rw [← hz]; have HZ := Lib.hid hz; clear hz; have K2 := And.intro (F4.keep KK.1 (by simp)) (And.intro (F4.keep KK.2.1 (by simp)) (And.intro (F4.keep KK.2.2.1 (by simp)) (And.intro (F4.keep KK.2.2.2.1 (by simp)) (And.intro (F4.keep KK.2.2.2.2.1 (by simp)) (And.intro (F4.keep KK.2.2.2.2.2.1 (by simp)) (F4.keep KK.2.2.2.2.2.2 (by simp)))))))))
    have hzL : z = tagS y L := by rw [HZ.out, HS.out, bs_list, HL.out]
    have FF : Fr none w w4 := ((F12.pure Fd).pure F3).pure F4
    rw [← hzL] at HE
    clear hzL KK K2
    by_cases heq : tg = z
    · have hb : ((tg : Int) != (z : Int)) = false := by rw [heq]; simp
      have HF : Hid (chkE ks d = 0) := by unfold Hid; rw [HE.out, if_pos heq]
      clear heq
      go_wp2_with fail
      go_ret
      exact ⟨ret_int (by rw [HF.out]), FF⟩
    · have hb : ((tg : Int) != (z : Int)) = true := by rw [bne_iff_ne]; omega
      have HF : Hid (chkE ks d = 8) := by unfold Hid; rw [HE.out, if_neg heq]
      clear heq
      go_wp2_with fail
      go_ret
      exact ⟨ret_int (by rw [HF.out]), FF⟩
end Go.Proofs.YtoblhcieidljjaaGreatDoor

/- Walks: the reference's Check and Same of declarations. -/
namespace Go.Proofs.YtoblhcieidljjaaGreatDoor
open Go.RowKit

set_option maxRecDepth 100000 in
set_option maxHeartbeats 2000000 in
theorem rchk7_any (ks : List Nat) (kv : Value) (d : De) (v : Value) (w : World) (r : Option Nat) (hks : ∀ y ∈ ks, y < 18446744073709551616) (hkv : SlD w (Dm w none) 1 kv (ks.map u64v)) (h : DeD w (Dm w r) v d) (hp : plainE d = 0) (hT : Tab w) :
    Calls Tryz.prog 28 #[kv, v] w fun e w' => e = .returned (.int .i64 (chkE ks d)) ∧ Fr none w w' := by
  obtain ⟨hn0, hs0, hv0, hd0, hz0⟩ := plain_parts hp
  obtain ⟨th, A1, n1, c1, A2, n2, c2, rfl, hTr, hn, hq, ht⟩ := h.shape
  obtain ⟨A, c, rfl, q1, q2, hc⟩ := keys_open hkv
  have F1 := (Fr.refl none w).alloc (.cells #[.int .i64 d.node, .int .i64 d.seq, .int .i64 th, .slice A1 n1 c1, .slice A2 n2 c2, .int .u64 d.tag] 45)
  have h1 : DeD _ (Dm _ r) _ d := h.keep (fr_dm (F1.mono (r := r)))
  have T1 := hT.fr F1
  have hs : d.tr.size ≤ 1073741000 := by omega
  have HKS := Lib.hid hks
  have HP := Lib.hid hp
  have HT := Lib.hid ht
  obtain ⟨nd, hnd⟩ := Int.eq_ofNat_of_zero_le hn0.1
  have hbl := bytes_len d
  obtain ⟨L, hL⟩ : ∃ L, L = bytesS d := ⟨_, rfl⟩
  rw [← hL] at hbl
  have HL := Lib.hid hL
  obtain ⟨tg, htg⟩ : ∃ tg, tg = d.tag := ⟨_, rfl⟩
  have HTG := Lib.hid htg
  rw [← htg] at F1 h1 T1 ⊢
  have HND := Lib.hid hnd
  rw [hnd] at F1 h1 T1 ⊢
  clear hks hp ht hL htg hTr h hkv hnd hT
  go_enter Tryz.func28, Tryz.ntmps28
  go_wp2_with fail
  generalize hW : w.alloc _ = w1 at *
  have b3 : DB w1 w.heap.size (.int .i64 (nd : Int)) (.int .i64 d.seq) (.int .i64 th) (.slice A1 n1 c1) (.slice A2 n2 c2) (.int .u64 (tg : Nat)) := by rw [← hW]; exact blk_new _ _
  clear hW
  refine (rplain_any d _ _ r hs h1).mono ?_
  rintro e w2 ⟨rfl, F2⟩
  rw [HP.out]
  have c3 := b3.fr F2 (by simp)
  have h2 := h1.keep (fr_dm (F2.mono (r := r)))
  have T2 := T1.fr F2
  have F12 := F1.pure F2
  have R3 := c3.cell
  clear h1 T1
  by_cases hlen : ks.length ≤ nd
  · have HE : Hid (chkE ks d = 10) := by unfold Hid chkE; rw [HND.out, if_pos (by omega)]
    go_wp2_with fail
    go_ret
    exact ⟨ret_int (by rw [HE.out]), F12⟩
  · have hk : nd < ks.length := by omega
    obtain ⟨kb, off, rfl, hkb, hcc⟩ := hc (by omega)
    have hck := F12.keep (hcc nd hk) (by simp)
    have hy := HKS.out ks[nd] (List.getElem_mem _)
    obtain ⟨y, hyy⟩ : ∃ y, y = ks[nd] := ⟨_, rfl⟩
    rw [← hyy] at hck hy
    have HY := Lib.hid hyy
    have HYL := Lib.hid hy
    have q0 : w2.drew.cell? ⟨w.heap.size, 0, none⟩ = some (.int .i64 (nd : Int)) := R3 0
    have q1' : w2.drew.cell? ⟨w.heap.size, 1, none⟩ = some (.int .i64 d.seq) := R3 1
    have q2' : w2.drew.cell? ⟨w.heap.size, 2, none⟩ = some (.int .i64 th) := R3 2
    have q3 : w2.drew.cell? ⟨w.heap.size, 3, none⟩ = some (.slice A1 n1 c1) := R3 3
    have q4 : w2.drew.cell? ⟨w.heap.size, 4, none⟩ = some (.slice A2 n2 c2) := R3 4
    have q5 : w2.drew.cell? ⟨w.heap.size, 5, none⟩ = some (.int .u64 (tg : Nat)) := R3 5
    have q6 : w2.drew.cell? ⟨kb, off + nd, none⟩ = some (.int .u64 (y : Nat)) := hck
    have HE : Hid (chkE ks d = if tg = tagS y L then 0 else 8) := by
      unfold Hid chkE
      rw [HND.out, if_neg (by omega), ← HTG.out, ← HL.out]
      have : ks.getD (nd : Int).toNat 0 = y := by rw [Int.toNat_natCast, List.getD_eq_getElem?_getD, List.getElem?_eq_getElem hk, HY.out]; rfl
      rw [this]
    clear hcc hyy hy hck
    have Fd : Fr none w2 w2.drew := (Fr.refl _ _).drew
    go_wp2_with fail
    go_region_held3 (fun w' => w'.cell? ⟨w.heap.size, 0, none⟩ = some (.int .i64 (nd : Int)) ∧ w'.cell? ⟨w.heap.size, 1, none⟩ = some (.int .i64 d.seq) ∧ w'.cell? ⟨w.heap.size, 2, none⟩ = some (.int .i64 th) ∧ w'.cell? ⟨w.heap.size, 3, none⟩ = some (.slice A1 n1 c1) ∧ w'.cell? ⟨w.heap.size, 4, none⟩ = some (.slice A2 n2 c2) ∧ w'.cell? ⟨w.heap.size, 5, none⟩ = some (.int .u64 (tg : Nat)) ∧ w'.cell? ⟨kb, off + nd, none⟩ = some (.int .u64 (y : Nat))) (first | (with_reducible exact ⟨q0, q1', q2', q3, q4, q5, q6⟩) | (with_reducible exact KK) | (with_reducible exact K2))
      (first | (go_at_call 22; refine (rbytes_any d _ _ r hs (h2.keep (fr_dm (Fd.mono (r := r)))) (T2.fr Fd)).mono ?_; rintro e w3 ⟨S, rfl, hS, hSs, F3⟩; have HS := Lib.hid hS; clear hS; have KK := And.intro (F3.keep q0 (by simp)) (And.intro (F3.keep q1' (by simp)) (And.intro (F3.keep q2' (by simp)) (And.intro (F3.keep q3 (by simp)) (And.intro (F3.keep q4 (by simp)) (And.intro (F3.keep q5 (by simp)) (F3.keep q6 (by simp)))))))) | (go_at_call 40; refine (rtag_any y HYL.out S _ (by omega)).mono ?_; rintro e w4 ⟨rfl, F4⟩; obtain ⟨z, hz⟩ : ∃ z, z = tagS y S.data.toList := ⟨_, rfl⟩; rw [← hz]; have HZ := Lib.hid hz; clear hz; have K2 := And.intro (F4.keep KK.1 (by simp)) (And.intro (F4.keep KK.2.1 (by simp)) (And.intro (F4.keep KK.2.2.1 (by simp)) (And.intro (F4.keep KK.2.2.2.1 (by simp)) (And.intro (F4.keep KK.2.2.2.2.1 (by simp)) (And.intro (F4.keep KK.2.2.2.2.2.1 (by simp)) (F4.keep KK.2.2.2.2.2.2 (by simp)))))))))
    have hzL : z = tagS y L := by rw [HZ.out, HS.out, bs_list, HL.out]
    have FF : Fr none w w4 := ((F12.pure Fd).pure F3).pure F4
    rw [← hzL] at HE
    clear hzL KK K2
    by_cases heq : tg = z
    · have hb : ((z : Int) != (tg : Int)) = false := by rw [heq]; simp
      have HF : Hid (chkE ks d = 0) := by unfold Hid; rw [HE.out, if_pos heq]
      clear heq
      go_wp2_with fail
      go_ret
      exact ⟨ret_int (by rw [HF.out]), FF⟩
    · have hb : ((z : Int) != (tg : Int)) = true := by rw [bne_iff_ne]; omega
      have HF : Hid (chkE ks d = 8) := by unfold Hid; rw [HE.out, if_neg heq]
      clear heq
      go_wp2_with fail
      go_ret
      exact ⟨ret_int (by rw [HF.out]), FF⟩

set_option maxRecDepth 100000 in
theorem rsame7_any (d d' : De) (v v' : Value) (w : World) (r : Option Nat) (h : DeD w (Dm w r) v d) (h' : DeD w (Dm w r) v' d') (he : d = d') :
    Calls Tryz.prog 31 #[v, v'] w fun e w' => e = .returned (.bool true) ∧ Fr none w w' := by
  subst he
  obtain ⟨th, A1, n1, c1, A2, n2, c2, rfl, hTr, hn, hq, ht⟩ := h.shape
  obtain ⟨th', B1, m1, e1, B2, m2, e2, rfl, kTr, _, _, _⟩ := h'.shape
  have hsm : sameT d.tr d.tr = true := (sameT_iff _ _).2 rfl
  have HSM := Lib.hid hsm
  have F1 := ((Fr.refl none w).alloc (.cells #[.int .i64 d.node, .int .i64 d.seq, .int .i64 th, .slice A1 n1 c1, .slice A2 n2 c2, .int .u64 d.tag] 45)).alloc (.cells #[.int .i64 d.node, .int .i64 d.seq, .int .i64 th', .slice B1 m1 e1, .slice B2 m2 e2, .int .u64 d.tag] 45)
  clear h h' hsm ht
  go_enter Tryz.func31, Tryz.ntmps31
  go_wp2_with fail
  refine (rsame_any d.tr.dep d.tr d.tr _ _ _ r (Nat.le_refl _) (TrR.fr hTr (F1.mono (r := r))) (TrR.fr kTr (F1.mono (r := r)))).mono ?_
  rintro e w2 ⟨rfl, F2⟩
  rw [HSM.out]
  go_wp2_with fail
  go_ret
  exact ⟨rfl, F1.pure F2⟩
end Go.Proofs.YtoblhcieidljjaaGreatDoor

/- Walks: Text, Check of declarations of all sorts (program and reference). -/
namespace Go.Proofs.YtoblhcieidljjaaGreatDoor
open Go.RowKit

/-- The text of a declaration, whichever. -/
def txtD (d : De) : List UInt8 := if plainE d = 0 then textD d else []
/-- What Check answers. -/
def chkA (ks : List Nat) (d : De) : Int := if plainE d = 0 then chkE ks d else plainE d

set_option maxRecDepth 100000 in
set_option maxHeartbeats 2000000 in
theorem dtextN_any (d : De) (v : Value) (w : World) (r : Option Nat) (h : DeD w (Dm w r) v d) (hs : d.tr.size ≤ 1073741000) (hp : plainE d ≠ 0) :
    Calls Tryz.prog 23 #[v] w fun e w' => e = .returned (.string (bs [])) ∧ Fr none w w' := by
  obtain ⟨E, hE⟩ : ∃ E, E = plainE d := ⟨_, rfl⟩
  rw [← hE] at hp
  have hE0 : (E == 0) = false := by rw [beq_eq_false_iff_ne]; exact hp
  have HE := Lib.hid hE
  obtain ⟨th, A1, n1, c1, A2, n2, c2, rfl, hTr, hn, hq, ht⟩ := h.shape
  have F1 := (Fr.refl none w).alloc (.cells #[.int .i64 d.node, .int .i64 d.seq, .int .i64 th, .slice A1 n1 c1, .slice A2 n2 c2, .int .u64 d.tag] 45)
  have h1 : DeD _ (Dm _ r) _ d := h.keep (fr_dm (F1.mono (r := r)))
  clear hE hp hTr h
  go_enter Tryz.func23, Tryz.ntmps23
  go_wp2_with fail
  generalize hW : w.alloc _ = w1 at *
  have B1 : DB w1 w.heap.size (.int .i64 d.node) (.int .i64 d.seq) (.int .i64 th) (.slice A1 n1 c1) (.slice A2 n2 c2) (.int .u64 d.tag) := by rw [← hW]; exact blk_new _ _
  clear hW
  refine (plain_any d _ _ r hs h1).mono ?_
  rintro e w2 ⟨rfl, F2⟩
  rw [← HE.out]
  go_wp2_with fail
  go_ret
  exact ⟨rfl, F1.pure F2⟩
set_option maxRecDepth 100000 in
set_option maxHeartbeats 2000000 in
theorem rdtextN_any (d : De) (v : Value) (w : World) (r : Option Nat) (h : DeD w (Dm w r) v d) (hs : d.tr.size ≤ 1073741000) (hp : plainE d ≠ 0) :
    Calls Tryz.prog 24 #[v] w fun e w' => e = .returned (.string (bs [])) ∧ Fr none w w' := by
  obtain ⟨E, hE⟩ : ∃ E, E = plainE d := ⟨_, rfl⟩
  rw [← hE] at hp
  have hE0 : (E == 0) = false := by rw [beq_eq_false_iff_ne]; exact hp
  have HE := Lib.hid hE
  obtain ⟨th, A1, n1, c1, A2, n2, c2, rfl, hTr, hn, hq, ht⟩ := h.shape
  have F1 := (Fr.refl none w).alloc (.cells #[.int .i64 d.node, .int .i64 d.seq, .int .i64 th, .slice A1 n1 c1, .slice A2 n2 c2, .int .u64 d.tag] 45)
  have h1 : DeD _ (Dm _ r) _ d := h.keep (fr_dm (F1.mono (r := r)))
  clear hE hp hTr h
  go_enter Tryz.func24, Tryz.ntmps24
  go_wp2_with fail
  generalize hW : w.alloc _ = w1 at *
  have B1 : DB w1 w.heap.size (.int .i64 d.node) (.int .i64 d.seq) (.int .i64 th) (.slice A1 n1 c1) (.slice A2 n2 c2) (.int .u64 d.tag) := by rw [← hW]; exact blk_new _ _
  clear hW
  refine (rplain_any d _ _ r hs h1).mono ?_
  rintro e w2 ⟨rfl, F2⟩
  rw [← HE.out]
  go_wp2_with fail
  go_ret
  exact ⟨rfl, F1.pure F2⟩
set_option maxRecDepth 100000 in
set_option maxHeartbeats 2000000 in
theorem checkN_any (kv : Value) (d : De) (v : Value) (w : World) (r : Option Nat) (h : DeD w (Dm w r) v d) (hs : d.tr.size ≤ 1073741000) (hp : plainE d ≠ 0) :
    Calls Tryz.prog 27 #[kv, v] w fun e w' => e = .returned (.int .i64 (plainE d)) ∧ Fr none w w' := by
  obtain ⟨E, hE⟩ : ∃ E, E = plainE d := ⟨_, rfl⟩
  rw [← hE] at hp
  have hE0 : (E == 0) = false := by rw [beq_eq_false_iff_ne]; exact hp
  have HE := Lib.hid hE
  obtain ⟨th, A1, n1, c1, A2, n2, c2, rfl, hTr, hn, hq, ht⟩ := h.shape
  have F1 := (Fr.refl none w).alloc (.cells #[.int .i64 d.node, .int .i64 d.seq, .int .i64 th, .slice A1 n1 c1, .slice A2 n2 c2, .int .u64 d.tag] 45)
  have h1 : DeD _ (Dm _ r) _ d := h.keep (fr_dm (F1.mono (r := r)))
  clear hE hp hTr h
  go_enter Tryz.func27, Tryz.ntmps27
  go_wp2_with fail
  generalize hW : w.alloc _ = w1 at *
  have B1 : DB w1 w.heap.size (.int .i64 d.node) (.int .i64 d.seq) (.int .i64 th) (.slice A1 n1 c1) (.slice A2 n2 c2) (.int .u64 d.tag) := by rw [← hW]; exact blk_new _ _
  clear hW
  refine (plain_any d _ _ r hs h1).mono ?_
  rintro e w2 ⟨rfl, F2⟩
  rw [← HE.out]
  go_wp2_with fail
  go_ret
  exact ⟨(ret_int HE.out), F1.pure F2⟩
set_option maxRecDepth 100000 in
set_option maxHeartbeats 2000000 in
theorem rcheckN_any (kv : Value) (d : De) (v : Value) (w : World) (r : Option Nat) (h : DeD w (Dm w r) v d) (hs : d.tr.size ≤ 1073741000) (hp : plainE d ≠ 0) :
    Calls Tryz.prog 28 #[kv, v] w fun e w' => e = .returned (.int .i64 (plainE d)) ∧ Fr none w w' := by
  obtain ⟨E, hE⟩ : ∃ E, E = plainE d := ⟨_, rfl⟩
  rw [← hE] at hp
  have hE0 : (E == 0) = false := by rw [beq_eq_false_iff_ne]; exact hp
  have HE := Lib.hid hE
  obtain ⟨th, A1, n1, c1, A2, n2, c2, rfl, hTr, hn, hq, ht⟩ := h.shape
  have F1 := (Fr.refl none w).alloc (.cells #[.int .i64 d.node, .int .i64 d.seq, .int .i64 th, .slice A1 n1 c1, .slice A2 n2 c2, .int .u64 d.tag] 45)
  have h1 : DeD _ (Dm _ r) _ d := h.keep (fr_dm (F1.mono (r := r)))
  clear hE hp hTr h
  go_enter Tryz.func28, Tryz.ntmps28
  go_wp2_with fail
  generalize hW : w.alloc _ = w1 at *
  have B1 : DB w1 w.heap.size (.int .i64 d.node) (.int .i64 d.seq) (.int .i64 th) (.slice A1 n1 c1) (.slice A2 n2 c2) (.int .u64 d.tag) := by rw [← hW]; exact blk_new _ _
  clear hW
  refine (rplain_any d _ _ r hs h1).mono ?_
  rintro e w2 ⟨rfl, F2⟩
  rw [← HE.out]
  go_wp2_with fail
  go_ret
  exact ⟨(ret_int HE.out), F1.pure F2⟩

theorem dtextG_any (d : De) (v : Value) (w : World) (r : Option Nat) (h : DeD w (Dm w r) v d) (hs : d.tr.size ≤ 1073741000) (hT : Tab w) (hB : Deb w) :
    Calls Tryz.prog 23 #[v] w fun e w' => e = .returned (.string (bs (txtD d))) ∧ Fr none w w' := by
  unfold txtD
  by_cases hp : plainE d = 0
  · rw [if_pos hp]
    exact (dtext_any d v w r h hp hT hB).mono fun e w' ⟨S, he, hS, _, F⟩ => by rw [he, hS]; exact ⟨rfl, F⟩
  · rw [if_neg hp]
    exact dtextN_any d v w r h hs hp
theorem checkG_any (ks : List Nat) (kv : Value) (d : De) (v : Value) (w : World) (r : Option Nat) (hks : ∀ y ∈ ks, y < 18446744073709551616) (hkv : SlD w (Dm w none) 1 kv (ks.map u64v)) (h : DeD w (Dm w r) v d) (hs : d.tr.size ≤ 1073741000) (hT : Tab w) :
    Calls Tryz.prog 27 #[kv, v] w fun e w' => e = .returned (.int .i64 (chkA ks d)) ∧ Fr none w w' := by
  unfold chkA
  by_cases hp : plainE d = 0
  · rw [if_pos hp]
    exact check_any ks kv d v w r hks hkv h hp hT
  · rw [if_neg hp]
    exact checkN_any kv d v w r h hs hp
theorem rcheckG_any (ks : List Nat) (kv : Value) (d : De) (v : Value) (w : World) (r : Option Nat) (hks : ∀ y ∈ ks, y < 18446744073709551616) (hkv : SlD w (Dm w none) 1 kv (ks.map u64v)) (h : DeD w (Dm w r) v d) (hs : d.tr.size ≤ 1073741000) (hT : Tab w) :
    Calls Tryz.prog 28 #[kv, v] w fun e w' => e = .returned (.int .i64 (chkA ks d)) ∧ Fr none w w' := by
  unfold chkA
  by_cases hp : plainE d = 0
  · rw [if_pos hp]
    exact rchk7_any ks kv d v w r hks hkv h hp hT
  · rw [if_neg hp]
    exact rcheckN_any kv d v w r h hs hp

/-- A digit, cut out of the row of digits. -/
theorem dig16 : ∀ k : Fin 16, (⟨#[48, 49, 50, 51, 52, 53, 54, 55, 56, 57, 97, 98, 99, 100, 101, 102]⟩ : ByteArray).extract k.val (k.val + 1) = bs [hexD k.val] := by decide +kernel
theorem hexL_step (n j : Nat) (hj : j < 16) : hexL (j + 1) (n / 16 ^ (15 - j)) = hexL j (n / 16 ^ (16 - j)) ++ [hexD (n / 16 ^ (15 - j) % 16)] := by
  have e : 16 ^ (15 - j) * 16 = 16 ^ (16 - j) := by rw [← Nat.pow_succ]; congr 1; omega
  rw [hexL, Nat.div_div_eq_div_mul, e]

theorem and15_u64 (a : Nat) (ha : a < 18446744073709551616) : bits .and .u64 (a : Int) 15 = ((a % 16 : Nat) : Int) := by
  show IntKind.u64.wrap ((BitVec.ofInt 64 (a : Int) &&& BitVec.ofInt 64 15).toNat : Int) = _
  have e1 : (BitVec.ofInt 64 (a : Int)).toNat = a := by simp [BitVec.toNat_ofInt]; omega
  have e2 : (BitVec.ofInt 64 15).toNat = 15 := by decide
  rw [BitVec.toNat_and, e1, e2, show (15 : Nat) = 2 ^ 4 - 1 from rfl, Nat.and_two_pow_sub_one_eq_mod]
  have : a % 2 ^ 4 < 16 := Nat.mod_lt _ (by decide)
  rw [IntKind.wrap_u64]
  omega

set_option maxRecDepth 100000 in
set_option maxHeartbeats 4000000 in
theorem rdtextP_any (d : De) (v : Value) (w : World) (r : Option Nat) (h : DeD w (Dm w r) v d) (hp : plainE d = 0) (hT : Tab w) :
    Calls Tryz.prog 24 #[v] w fun e w' => e = .returned (.string (bs (textD d))) ∧ Fr none w w' := by
  obtain ⟨th, A1, n1, c1, A2, n2, c2, rfl, hTr, hn, hq, ht⟩ := h.shape
  have hs : d.tr.size ≤ 1073741000 := by have := (plain_parts hp).2.2.2.2; omega
  have F1 := (Fr.refl none w).alloc (.cells #[.int .i64 d.node, .int .i64 d.seq, .int .i64 th, .slice A1 n1 c1, .slice A2 n2 c2, .int .u64 d.tag] 45)
  have h1 : DeD _ (Dm _ r) _ d := h.keep (fr_dm (F1.mono (r := r)))
  have T1 := hT.fr F1
  have hbl := bytes_len d
  have HP := Lib.hid hp
  have HBL := Lib.hid hbl
  have HT := Lib.hid ht
  obtain ⟨tg, htg⟩ : ∃ tg, tg = d.tag := ⟨_, rfl⟩
  have HTG := Lib.hid htg
  rw [← htg] at F1 h1 T1 ⊢
  clear hp hTr h hbl ht htg
  go_enter Tryz.func24, Tryz.ntmps24
  go_wp2_with fail
  generalize hW : w.alloc _ = w1 at *
  have B1 : DB w1 w.heap.size (.int .i64 d.node) (.int .i64 d.seq) (.int .i64 th) (.slice A1 n1 c1) (.slice A2 n2 c2) (.int .u64 tg) := by rw [← hW]; exact blk_new _ _
  clear hW
  refine (rplain_any d _ _ r hs h1).mono ?_
  rintro e w2 ⟨rfl, F2⟩
  rw [HP.out]
  have F12 := F1.pure F2
  have B2 := B1.fr F2 (by simp)
  have T2 := T1.fr F2
  have h2 : DeD _ (Dm _ r) _ d := h1.keep (fr_dm (F2.mono (r := r)))
  have R2 := B2.cell
  have l2 := blk_lt B2
  clear B1 F1 F2 h1 T1
  go_wp2_with fail
  go_loopw [3, 4, 5] (fun s3 s4 _ wr => ∃ (j : Nat) (U : ByteArray), j ≤ 16 ∧ s4 = .int .i64 (60 - 4 * (j : Int)) ∧ s3 = .string U ∧ Hid (U = bs (hexL j (tg / 16 ^ (16 - j)))) ∧ U.size ≤ j ∧ wr = w2) (fun _ s4 _ _ => ((intOf s4) + 4).toNat)
  case atStart => exact ⟨0, _, by omega, rfl, rfl, by unfold Hid; rfl, by decide, rfl⟩
  case round =>
    obtain ⟨j, U, hj, rfl, rfl, HU, hUz, rfl⟩ := hrel
    by_cases hlt : j < 16
    · obtain ⟨q, hq⟩ : ∃ q : Nat, q = 60 - 4 * j := ⟨_, rfl⟩
      have hq1 : (60 : Int) - 4 * (j : Int) = (q : Int) := by omega
      have hq64 : q < 64 := by omega
      obtain ⟨k, hk⟩ : ∃ k, k = tg / 16 ^ (15 - j) % 16 := ⟨_, rfl⟩
      have hk16 : k < 16 := by rw [hk]; exact Nat.mod_lt _ (by decide)
      have hp16 : 2 ^ q = 16 ^ (15 - j) := by
        rw [show (16 : Nat) = 2 ^ 4 from rfl, ← Nat.pow_mul]; congr 1; omega
      have hbit : bits .and .u64 ((tg : Int) / 2 ^ q) 15 = (k : Int) := by
        have e : ((tg : Int) / 2 ^ q) = ((tg / 2 ^ q : Nat) : Int) := by simp
        rw [e, hk, ← hp16]
        exact and15_u64 _ (Nat.lt_of_le_of_lt (Nat.div_le_self _ _) (by have := HT.out; rw [HTG.out]; exact this))
      have HW : Hid (hexL (j + 1) (tg / 16 ^ (16 - (j + 1))) = hexL j (tg / 16 ^ (16 - j)) ++ [hexD k]) := by
        unfold Hid; rw [hk, show 16 - (j + 1) = 15 - j by omega]; exact hexL_step tg j hlt
      have HD := Lib.hid (dig16 ⟨k, hk16⟩)
      have hqd : 0 ≤ (q : Int) := by omega
      obtain ⟨X, HX, hXz, hXa⟩ := str_add U (bs [hexD k]) (by omega) (by rw [bs_size]; simp)
      rw [hq1]
      have HQ1 := Lib.hid hq1
      clear hk hp16 hq1 hq
      have hez : ((⟨#[48, 49, 50, 51, 52, 53, 54, 55, 56, 57, 97, 98, 99, 100, 101, 102]⟩ : ByteArray).extract k (k + 1)).size = 1 := by rw [HD.out, bs_size]; rfl
      have HEZ := Lib.hid hez
      clear hez
      go_wp2_with fail
      go_roundw
      case rel => exact ⟨j + 1, _, by omega, by rw [show ((q : Int) - 4) = 60 - 4 * ((j + 1 : Nat) : Int) by have := HQ1.out; omega], rfl, by unfold Hid; rw [HW.out, HU.out, HD.out, bs_app], by rw [ByteArray.size_append, HEZ.out]; omega, trivial⟩
      case measure => simp [intOf]; omega
    · obtain rfl : j = 16 := by omega
      clear hlt hj
      go_wp2_with fail
      refine (rbytes_any d _ _ r hs h2 T2).mono ?_
      rintro e w3 ⟨S, rfl, hS, hSs, F3⟩
      have HS := Lib.hid hS
      clear hS
      go_wp2_with fail
      go_ret
      refine ⟨?_, F12.pure F3⟩
      rw [HS.out, HU.out, show (⟨#[32]⟩ : ByteArray) = bs [32] from rfl, bs_app, bs_app, HTG.out]
      simp [textD]
end Go.Proofs.YtoblhcieidljjaaGreatDoor

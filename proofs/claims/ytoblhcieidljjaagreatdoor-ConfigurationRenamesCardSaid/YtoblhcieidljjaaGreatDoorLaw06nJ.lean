/- The law ConfigurationRenames: its walk. -/
import Derived.Test.YtoblhcieidljjaaGreatDoorProg
import Derived.Test.YtoblhcieidljjaaGreatDoorRnmWJ
import Derived.Test.YtoblhcieidljjaaGreatDoorJG23
import Derived.Test.YtoblhcieidljjaaGreatDoorSatJ
set_option linter.unusedSimpArgs false
set_option linter.unusedVariables false
namespace Go.Proofs.YtoblhcieidljjaaGreatDoor
open Go.RowKit

theorem perm_nat {l : List Int} {n : Nat} (h : l.Perm (ints n)) : ∃ l' : List Nat, l = l'.map Int.ofNat ∧ l'.Perm (List.range n) := by
  refine ⟨l.map Int.toNat, ?_, ?_⟩
  · rw [List.map_map]
    have : ∀ x ∈ l, (Int.ofNat ∘ Int.toNat) x = x := fun x hx => by
      obtain ⟨y, _, rfl⟩ := List.mem_map.1 (h.mem_iff.1 hx)
      rfl
    rw [List.map_congr_left (g := fun x => x) this]
    simp
  · have h2 := h.map Int.toNat
    unfold ints at h2
    rw [List.map_map] at h2
    have : (List.range n).map (Int.toNat ∘ Int.ofNat) = List.range n := by
      rw [show (Int.toNat ∘ Int.ofNat) = id from funext fun _ => rfl, List.map_id]
    rw [this] at h2
    exact h2
/-- The inverse, when the first k are there. -/
def qS (l : List Nat) (n : Nat) : Nat → List Int
  | 0 => List.replicate n 0
  | k + 1 => (qS l n k).set (l.getD k 0) (k : Int)
theorem qS_len (l : List Nat) (n : Nat) : ∀ k, (qS l n k).length = n
  | 0 => by simp [qS]
  | k + 1 => by simp only [qS, List.length_set, qS_len l n k]
theorem qS_get {l : List Nat} {n : Nat} (h : l.Perm (List.range n)) : ∀ k, k ≤ n → ∀ i (hi : i < l.length), i < k → (qS l n k)[l[i]]? = some (i : Int)
  | 0, _, i, hi, h0 => by omega
  | k + 1, hk, i, hi, hik => by
    have hll : l.length = n := by rw [h.length_eq]; simp
    have hkl : k < l.length := by omega
    have hb : ∀ j ∈ l, j < n := fun j hj => List.mem_range.1 (h.mem_iff.1 hj)
    simp only [qS]
    have e : l.getD k 0 = l[k] := by simp [hkl]
    rw [e]
    by_cases ei : i = k
    · subst ei
      rw [List.getElem?_set_self (by rw [qS_len]; exact hb _ (List.getElem_mem hi))]
    · have hne : l[k] ≠ l[i] := fun e' => ei (nodup_get (h.nodup_iff.2 List.nodup_range) i k hi hkl e'.symm)
      rw [List.getElem?_set_ne hne]
      exact qS_get h k (by omega) i hi (by omega)
theorem qS_inv {l : List Nat} {n : Nat} (h : l.Perm (List.range n)) : Inv l (qS l n n) n := by
  have hll : l.length = n := by rw [h.length_eq]; simp
  exact ⟨h, qS_len l n n, fun i hi => by rw [List.getD_eq_getElem?_getD, qS_get h n (Nat.le_refl _) i hi (by omega)]; rfl⟩
theorem zinfoI : (Tryz.prog.info? 3).map (fun i => (i.zero, i.size, i.bytes)) = some (some (.int .i64 0), 1, 8) := by kernel_rfl
theorem madeI (n : Nat) : (madeCells #[.int .i64 0] (n * 1)).toList = (List.replicate n (0 : Int)).map (Value.int .i64) := by
  unfold madeCells
  simp only [Array.toList_map, Array.toList_range, Nat.mul_one, List.map_replicate]
  rw [List.eq_replicate_iff]
  refine ⟨by simp, fun b hb => ?_⟩
  obtain ⟨i, _, rfl⟩ := List.mem_map.1 hb
  simp [Nat.mod_one]

theorem and_bit (m j : Nat) (hm : m < 9223372036854775808) : bits .and .i64 ((m : Int) / 2 ^ j) 1 = if m.testBit j then 1 else 0 := by
  have e : ((m : Int) / 2 ^ j) = ((m / 2 ^ j : Nat) : Int) := by simp
  have hd : m / 2 ^ j ≤ m := Nat.div_le_self _ _
  rw [e]
  have h1 := and_i64 (m / 2 ^ j) 1 (by omega) (by omega)
  have h2 : ((1 : Nat) : Int) = 1 := rfl
  rw [h2] at h1
  rw [h1, Nat.testBit_eq_decide_div_mod_eq, Nat.and_one_is_mod]
  have hx : m / 2 ^ j % 2 < 2 := Nat.mod_lt _ (by decide)
  generalize m / 2 ^ j % 2 = x at hx
  obtain rfl | rfl : x = 0 ∨ x = 1 := by omega
  · rfl
  · rfl

set_option maxRecDepth 100000 in
set_option maxHeartbeats 16000000 in
theorem law06n_any (v : Value) (l : List Int) (w : World) (hl : SlI w none v l) (hT : Tab w) (hM : Mxl w) : Calls Tryz.prog 5 #[v] w fun e w' => e = .returned (.bool true) ∧ Fr none w w' := by
  go_enter Tryz.func5, Tryz.ntmps5
  go_wp2_with fail
  refine (tapeNew_any _ _ _ hl).mono ?_
  rintro e w1 ⟨g, rfl, hg, S1, F1⟩
  have hg1 := S1.lt
  clear hl
  go_wp2_with fail
  refine (mkconfig_any 8 g _ (by omega) (by omega) S1).mono ?_
  rintro e w2 ⟨vc, L, rfl, hc, hL1, hL8, hok, S2, F2⟩
  obtain ⟨A, c, rfl⟩ := hc.shape
  have hz2 := F2.size
  have F02 := F1.own F2 (fun q hq => by injection hq with hq; omega)
  have hc : CfD w2 (fun b => b < w2.heap.size ∧ b ≠ g) (.agg #[.slice A L.length c]) L := hc.keep (fun k hk => ⟨⟨hk.2, by have := hk.1; omega⟩, rfl⟩)
  have HOK := Lib.hid hok
  have hgw : w.heap.size ≤ g := hg
  clear S1 F1 F2 hok hg
  go_upto_region 3 with (fail)
  generalize hW : w2.alloc _ = w3
  have F3 : Fr none w2 w3 := hW ▸ (Fr.refl none w2).alloc _
  have b4 : CB w3 w2.heap.size (.slice A L.length c) := by rw [← hW]; exact blk_new _ _
  clear hW
  have hz3 := F3.size
  have S3 := S2.fr F3
  have hg2 := S2.lt
  have F03 := F02.pure F3
  have hc3 : CfD w3 (fun b => b < w2.heap.size ∧ b ≠ g) (.agg #[.slice A L.length c]) L := hc.keep (fun k hk => ⟨hk, F3.block k hk.1 (by simp)⟩)
  have R4 := b4.cell
  have l4 := blk_lt b4
  clear S2 F02 F3 hc
  go_wp2_with fail
  refine (tapeOrder_any L.length g _ (by omega) S3).mono ?_
  rintro e w4 ⟨pv, p, rfl, hp, hps, S4, F4⟩
  obtain ⟨lN, hpe, hperm⟩ := perm_nat hp
  have hpl : p.length = L.length := by rw [hp.length_eq, ints_len]
  obtain ⟨Ap, cp, rfl, pc1, pc2⟩ := hps.formI
  rw [hpl] at hps pc1 ⊢
  have HPE := Lib.hid hpe
  have HPL := Lib.hid hpl
  have HPM := Lib.hid hperm
  have hz4 := F4.size
  have hpr : ∀ k (hk : k < L.length), ∃ (b off : Nat) (i : Nat), Ap = some ⟨b, off, none⟩ ∧ w3.heap.size ≤ b ∧ b < w4.heap.size ∧ w4.cell? ⟨b, off + k, none⟩ = some (.int .i64 (i : Int)) ∧ i < L.length ∧ lN.getD k 0 = i := fun k hk => by
    obtain ⟨b, off, e, hb, hc⟩ := SlD.cellI (l := p) (by rw [HPL.out] at *; exact hps) k (by rw [HPL.out]; exact hk)
    subst hpe
    have hkl : k < lN.length := by have := HPM.out.length_eq; simp at this; omega
    refine ⟨b, off, lN[k], e, hb.1, hb.2, by simpa using hc, List.mem_range.1 (HPM.out.mem_iff.1 (List.getElem_mem hkl)), by simp [hkl]⟩
  have HPR := Lib.hid hpr
  have hg3 := S3.lt
  have hSI : SlI w4 none (.slice Ap L.length cp) p := by
    refine ⟨?_, fun x hx => ?_⟩
    · exact SlD.keep hps (fun k hk => ⟨⟨hk.2, by simp⟩, rfl⟩)
    · have := (ord_perm hperm).1.bd x (by rw [← hpe]; exact hx)
      constructor <;> omega
  have F04 := F03.own F4 (fun q hq => by injection hq with hq; omega)
  have hc4 : CfD w4 (fun b => b < w2.heap.size ∧ b ≠ g) (.agg #[.slice A L.length c]) L := hc3.keep (fun k hk => ⟨hk, F4.block k (by omega) (by simp; omega)⟩)
  have b44 := b4.fr F4 (by simp; omega)
  have l44 := blk_lt b44
  clear hpe hpl hperm hp hps hpr S3 F03 F4 hc3 b4 R4 l4
  go_upto_region 6 with (at_make; (refine mk_row _ Tryz.underlying22 zinfoI rfl _ _ rfl L.length rfl rfl (by omega) (by unfold maxLen; omega) ?_); intro w5 own5 F5)
  have own5 : w5.ownsRow w4.heap.size 3 1 (.slice (some ⟨w4.heap.size, 0, none⟩) L.length L.length) L.length ((qS lN L.length 0).map (Value.int .i64)) := by
    have e : ((qS lN L.length 0).map (Value.int .i64)) = (madeCells #[.int .i64 0] (L.length * 1)).toList := by rw [madeI]; rfl
    rw [e]; exact own5
  obtain ⟨gq, hgq⟩ : ∃ gq, gq = w4.heap.size := ⟨_, rfl⟩
  rw [← hgq] at own5 ⊢
  have hqa : gq ≤ w4.heap.size := by omega
  have hqb : w4.heap.size ≤ gq := by omega
  clear hgq
  have hz5 := F5.size
  have lq5 := (own_free own5).2.2
  have S5 := S4.fr F5
  have F05 := F04.pure F5
  have b45 := b44.fr F5 (by simp)
  have hSI5 := hSI.fr F5
  have hc5 : CfD w5 (fun b => b < w2.heap.size ∧ b ≠ g) (.agg #[.slice A L.length c]) L := hc4.keep (fun k hk => ⟨hk, F5.block k (by omega) (by simp)⟩)
  have hg4 := S4.lt
  have HPR5 : Hid (∀ k (hk : k < L.length), ∃ (b off : Nat) (i : Nat), Ap = some ⟨b, off, none⟩ ∧ w3.heap.size ≤ b ∧ b < w4.heap.size ∧ w5.cell? ⟨b, off + k, none⟩ = some (.int .i64 (i : Int)) ∧ i < L.length ∧ lN.getD k 0 = i) := fun k hk => by
    obtain ⟨b, off, i, e, h1, h2, h3, h4, h5⟩ := HPR.out k hk
    exact ⟨b, off, i, e, h1, h2, F5.keep h3 (by simp), h4, h5⟩
  clear S4 F04 hc4 b44 hSI HPR F5
  go_wp2_with fail
  go_loopw [8, 9, 33] (fun _ _ s33 wr => ∃ j : Nat, j ≤ L.length ∧ s33 = .int .i64 (j : Int) ∧ Fr (some gq) w5 wr ∧ wr.ownsRow gq 3 1 (.slice (some ⟨gq, 0, none⟩) L.length L.length) L.length ((qS lN L.length j).map (Value.int .i64))) (fun _ _ s33 _ => L.length - (intOf s33).toNat)
  case atStart => exact ⟨0, Nat.zero_le _, rfl, Fr.refl _ _, own5⟩
  case round =>
    clear own5
    obtain ⟨j, hj, rfl, Fl, own⟩ := hrel
    obtain ⟨wz, hwz⟩ : ∃ wz : World, wz = wr := ⟨_, rfl⟩
    subst hwz
    have hzz := Fl.size
    by_cases hlt : j < L.length
    · obtain ⟨pb, po, i, rfl, hp1, hp2, hpc, hi, hgd⟩ := HPR5.out j hlt
      have hpc := Fl.keep hpc (by simp; omega)
      have HQS : Hid (qS lN L.length (j + 1) = (qS lN L.length j).set i (j : Int)) := by unfold Hid; simp only [qS]; rw [hgd]
      obtain ⟨Z, hcl, lg⟩ := own_free own
      obtain ⟨q0, hq0⟩ : ∃ q0, wz.cell? ⟨gq, i, none⟩ = some (.int .i64 q0) := ⟨_, hcl i _ (by rw [List.getElem?_map, List.getElem?_eq_getElem (by rw [qS_len]; exact hi)]; rfl)⟩
      have own9 := own_setS own i (.int .i64 (j : Int))
      rw [← List.map_set, ← HQS.out] at own9
      have FS := Fr.set1 wz ⟨gq, i, none⟩ (.int .i64 (j : Int))
      clear hcl hgd HQS
      go_wp2_with fail
      go_roundw
      case rel => exact ⟨j + 1, by omega, by go_num, Fl.same FS, own9⟩
      case measure => simp [intOf]; omega
    · obtain rfl : j = L.length := by omega
      obtain ⟨q, hq⟩ : ∃ q, q = qS lN L.length L.length := ⟨_, rfl⟩
      have hinv : Inv lN q L.length := by rw [hq]; exact qS_inv HPM.out
      rw [← hq] at own
      have hqo := hinv.ord
      have hql : q.length = L.length := hinv.len
      have hSQ : SlI wz none (.slice (some ⟨gq, 0, none⟩) L.length L.length) q := by
        refine SlI.of_own own (by simp) (fun x hx => ?_)
        have := hqo.bd x hx
        constructor <;> omega
      have hpo : Ord p L.length := by rw [HPE.out]; exact (ord_perm HPM.out).1
      have hval : validC L = 0 := validC_ok (by omega) HOK.out
      obtain ⟨R, hR⟩ : ∃ R, R = renS p L L.length := ⟨_, rfl⟩
      have hRl : R.length = L.length := by rw [hR, renS_len]
      have hRok : ∀ m ∈ R, MbOk R.length m := by rw [hRl, hR]; exact renS_ok (by omega) hpo HOK.out _ (Nat.le_refl _)
      have hRv : validC R = 0 := validC_ok (by omega) hRok
      have hren : renC p L = (R, 0) := by rw [renC_ok hval hpo, hR]
      have hback : renC q R = (L, 0) := by
        rw [renC_ok hRv (by rw [hRl]; exact hqo), hR, renS_len, HPE.out, renS_back hinv HOK.out]
      have F0z : Fr none w wz := F05.own Fl (fun b hb => by injection hb with hb; omega)
      have b4z := b45.fr Fl (by simp; omega)
      have Sz := S5.frs Fl (fun b hb => by injection hb with hb; omega)
      have hcz : CfD wz (Dm wz none) (.agg #[.slice A L.length c]) L := hc5.keep (fun k hk => ⟨⟨by omega, by simp⟩, Fl.block k (by omega) (by simp; omega)⟩)
      have hSIz : SlI wz none (.slice Ap L.length cp) p := by
        rcases Nat.eq_zero_or_pos L.length with h0 | h0
        · omega
        · obtain ⟨pb, po, i, rfl, hp1, hp2, hpc, hi, hgd⟩ := HPR5.out 0 h0
          refine ⟨SlD.keep (w := w5) (w' := wz) (D := fun b => b = pb) ?_ (fun k hk => ⟨⟨by omega, by simp⟩, by rw [hk]; exact Fl.block pb (by omega) (by simp; omega)⟩), hSI5.2⟩
          obtain ⟨A', n', c', e, r1, r2, r3, r4⟩ := hSI5.1
          refine ⟨A', n', c', e, r1, r2, r3, fun hn => ?_⟩
          obtain ⟨b, off, rfl, _, hx⟩ := r4 hn
          injection e with e1
          injection e1 with e1
          injection e1 with e1
          exact ⟨b, off, rfl, e1.symm, hx⟩
      have hsz : ∀ m ∈ L, m.tr.size ≤ 1073741000 := fun m hm => by have := mbok_size (HOK.out m hm); omega
      have hszR : ∀ m ∈ R, m.tr.size ≤ 1073741000 := fun m hm => by have := mbok_size (hRok m hm); omega
      have con1 := crename_any p L _ _ wz hSIz hcz hsz (by omega) (by rw [HPL.out]; omega)
      rw [hren] at con1
      have R4 := b4z.cell
      have l4 := blk_lt b4z
      have HRE := Lib.hid hR
      have HBK := Lib.hid hback
      have HRV := Lib.hid hRv
      have HRK := Lib.hid hRok
      have HSZ := Lib.hid hsz
      have HSR := Lib.hid hszR
      have HINV := Lib.hid hinv
      have hc0 := Lib.hid hc5
      clear hR hback hRv hRok hsz hszR hinv hren hval hpo hqo hq hc5 own b45 S5 F05 hSI5
      go_upto_region 12 with (go_at_call 42; refine con1.mono ?_; rintro e w7 ⟨vd, rfl, hd, F7⟩; have hd : CfD w7 (Dn wz.heap.size w7) vd R := hd; obtain ⟨Ad, cd, rfl⟩ := hd.shape; rw [hRl] at hd ⊢)
      generalize hW : w7.alloc _ = w8
      have F8 : Fr none w7 w8 := hW ▸ (Fr.refl none w7).alloc _
      have b10 : CB w8 w7.heap.size (.slice Ad L.length cd) := by rw [← hW]; exact blk_new _ _
      clear hW
      have hz7 := F7.size
      have hz8 := F8.size
      have F78 := F7.pure F8
      have hc8 : CfD w8 (Dm w8 none) (.agg #[.slice A L.length c]) L := hcz.keep (fr_dm F78)
      have hd8 : CfD w8 (Dm w8 none) (.agg #[.slice Ad L.length cd]) R := hd.keep (fun k hk => ⟨⟨by have := hk.2; omega, by simp⟩, F8.block k hk.2 (by simp)⟩)
      have hSQ8 := hSQ.fr F78
      have hSI8 := hSIz.fr F78
      have b48 := b4z.fr F78 (by simp)
      have F08 := F0z.pure F78
      have F58 := Fl.pure F78
      have HD7 := Lib.hid hd
      have F7b := Lib.hid F8
      have S8 := Sz.fr F78
      have l10 := blk_lt b10
      have R10 := b10.cell
      have con2 := crename_any q R _ _ w8 hSQ8 hd8 HSR.out (by omega) (by omega)
      rw [HBK.out] at con2
      clear hcz hd hSQ hSIz b4z F0z F78 Sz R4 l4 F7 F8 con1
      go_upto_region 13 with (go_at_call 42; refine con2.mono ?_; rintro e w9 ⟨vb, rfl, hb9, F9⟩; have hb9 : CfD w9 (Dn w8.heap.size w9) vb L := hb9; obtain ⟨Ab, cb, rfl⟩ := hb9.shape)
      generalize hW : w9.alloc _ = wa
      have FA : Fr none w9 wa := hW ▸ (Fr.refl none w9).alloc _
      have b12 : CB wa w9.heap.size (.slice Ab L.length cb) := by rw [← hW]; exact blk_new _ _
      clear hW
      have hz9 := F9.size
      have hza := FA.size
      have F8a := F9.pure FA
      have hca : CfD wa (Dm wa none) (.agg #[.slice A L.length c]) L := hc8.keep (fr_dm F8a)
      have hda : CfD wa (Dm wa none) (.agg #[.slice Ad L.length cd]) R := hd8.keep (fr_dm F8a)
      have hba : CfD wa (Dm wa none) (.agg #[.slice Ab L.length cb]) L := hb9.keep (fun k hk => ⟨⟨by have := hk.2; omega, by simp⟩, FA.block k hk.2 (by simp)⟩)
      have hSIa := hSI8.fr F8a
      have b4a := b48.fr F8a (by simp)
      have b10a := b10.fr F8a (by simp)
      have F0a := F08.pure F8a
      have F7b : Hid (Fr none w7 wa) := F7b.out.pure F8a
      have S5l : Hid (g < w5.heap.size) := by unfold Hid; omega
      have F5a := F58.pure F8a
      have Sa := S8.fr F8a
      have hsc : sameC L L = true := (sameC_iff L L).2 rfl
      have cons := rsameC_any L L _ _ wa hba hca (by omega) (by omega)
      rw [hsc] at cons
      clear hc8 hd8 hSQ8 hSI8 b48 b10 F58 F08 S8 F8a F9 FA hb9 con2 R10 l10 hsc
      have R4 := b4a.cell
      have R10 := b10a.cell
      have R12 := b12.cell
      have l4 := blk_lt b4a
      have l10 := blk_lt b10a
      have l12 := blk_lt b12
      go_upto_region 15 with (first
        | (go_at_call 43; refine cons.mono ?_; rintro e w10 ⟨rfl, F10⟩; have b4b := b4a.fr F10 (by simp); have b10b := b10a.fr F10 (by simp); have R4b := b4b.cell; have R10b := b10b.cell; have l4b := blk_lt b4b; have l10b := blk_lt b10b; have hdb := hda.fr F10)
        | (go_at_call 44; refine (cvalid_any R _ w10 hdb HSR.out (by omega)).mono ?_; rintro e w11 ⟨rfl, F11⟩; rw [HRV.out]))
      have Fab := F10.pure F11
      have hz11 := Fab.size
      have b4c := b4b.fr F11 (by simp)
      have b10c := b10b.fr F11 (by simp)
      have hcc : CfD w11 (fun b => b < w2.heap.size ∧ b ≠ g) (.agg #[.slice A L.length c]) L := hc0.out.keep (fun k hk => ⟨hk, (F5a.pure Fab).block k (by omega) (by simp; omega)⟩)
      have hdc : CfD w11 (fun b => wz.heap.size ≤ b ∧ b < w7.heap.size) (.agg #[.slice Ad L.length cd]) R := HD7.out.keep (fun k hk => ⟨⟨hk.1, hk.2⟩, (F7b.out.pure Fab).block k hk.2 (by simp)⟩)
      have Sc := Sa.fr Fab
      have F0c := F0a.pure Fab
      have F5c := F5a.pure Fab
      have lg5 := S5l.out
      clear b4a b10a b12 F0a F5a Sa hca hda hba hdb R4 R10 R12 l4 l10 l12 b4b b10b R4b R10b l4b l10b F10 F11 Fab cons
      go_wp2_with fail
      go_loopw [14, 15, 16, 17, 18, 89, 106] (fun s14 _ _ _ _ _ _ wr => ∃ i : Nat, i ≤ 10 ∧ s14 = .int .i64 (i : Int) ∧ Fr (some g) w11 wr ∧ SrcR 84 wr g) (fun s14 _ _ _ _ _ _ _ => 10 - (intOf s14).toNat)
      case atStart => exact ⟨0, by omega, rfl, Fr.refl _ _, Sc⟩
      case round =>
        clear Sc
        obtain ⟨i, hi, rfl, Fl, S⟩ := hrel
        obtain ⟨wy, hwy⟩ : ∃ wy : World, wy = wr := ⟨_, rfl⟩
        subst hwy
        have hzy := Fl.size
        by_cases hlt : i < 10
        · have hpw : wrap64 ((2 : Int) ^ L.length) = ((2 ^ L.length : Nat) : Int) := wrap_pow L.length (by omega)
          have hp2 : 2 ^ L.length ≤ 2 ^ 8 := Nat.pow_le_pow_right (by omega) hL8
          have hp0 := Nat.two_pow_pos L.length
          have hpi : (2 : Int) ^ L.length = ((2 ^ L.length : Nat) : Int) := by simp
          obtain ⟨P2, hP2⟩ : ∃ P2 : Int, P2 = (2 : Int) ^ L.length := ⟨_, rfl⟩
          have HP2 := Lib.hid hP2
          have hP2a : 1 ≤ P2 := by rw [hP2, hpi]; omega
          have hP2b : P2 ≤ 256 := by rw [hP2, hpi]; omega
          have hP2c : Hid (P2 = ((2 ^ L.length : Nat) : Int)) := by unfold Hid; rw [hP2, hpi]
          have HP8 : Hid (2 ^ L.length ≤ 256) := by unfold Hid; omega
          clear hP2 hpi hp2 hp0
          go_wp2_with fail
          rw [← HP2.out]
          refine (tapeN_any P2 g _ (by omega) (by omega) S).mono ?_
          rintro e wb ⟨x, rfl, x1, x2, Sb, Fb⟩
          obtain ⟨x, rfl⟩ := Int.eq_ofNat_of_zero_le x1
          have hx : x < 2 ^ L.length := by have := hP2c.out; omega
          have hx8 : x < 256 := by omega
          have Flb := Fl.same Fb
          have hzb := Flb.size
          clear hpw
          go_wp2_with fail
          go_loopw [16, 17, 89] (fun s16 _ s89 wr => ∃ k : Nat, k ≤ L.length ∧ s89 = .int .i64 (k : Int) ∧ s16 = .int .i64 ((setY lN x k : Nat) : Int) ∧ Fr none wb wr) (fun _ _ s89 _ => L.length - (intOf s89).toNat)
          case atStart => exact ⟨0, Nat.zero_le _, rfl, rfl, Fr.refl _ _⟩
          case round =>
            obtain ⟨k, hk, rfl, rfl, Fk⟩ := hrel
            obtain ⟨wx, hwx⟩ : ∃ wx : World, wx = wr := ⟨_, rfl⟩
            subst hwx
            by_cases hkl : k < L.length
            · obtain ⟨pb, po, ii, rfl, hp1, hp2, hpc, hii, hgd⟩ := HPR5.out k hkl
              have hpc : wx.cell? ⟨pb, po + k, none⟩ = some (.int .i64 (ii : Int)) := Fk.keep (Flb.keep (F5c.keep hpc (by simp; omega)) (by simp; omega)) (by simp)
              have hys := setY_lt (l := lN) (x := x) (n := L.length) (fun j hj => List.mem_range.1 (HPM.out.mem_iff.1 hj)) k (by rw [HPM.out.length_eq]; simp; omega)
              have HYS : Hid (setY lN x (k + 1) = setY lN x k ||| (if x.testBit k then 2 ^ ii else 0)) := by unfold Hid; simp only [setY]; rw [hgd]
              have hk64 : k < 64 := by omega
              have hi64 : ii < 64 := by omega
              have hbit := and_bit x k (by omega)
              cases hX : x.testBit k with
              | true =>
                rw [hX] at hbit HYS
                simp only [if_true] at hbit HYS
                clear hX hgd
                go_wp2_with fail
                go_quiet (fail)
                have HE : Hid (bits .or .i64 ((setY lN x k : Nat) : Int) (wrap64 (2 ^ ii)) = ((setY lN x (k + 1) : Nat) : Int)) := by
                  unfold Hid; rw [HYS.out, wrap_pow ii (by omega)]; exact or_i64 _ _ (by have := HP8.out; omega) (by have := pow2_lt ii (by omega); omega)
                have FD := Fk.drewN nq
                clear hbit hys hpc
                go_wp2_with fail
                go_roundw
                case rel => exact ⟨k + 1, by omega, by go_num, by rw [HE.out], FD⟩
                case measure => simp [intOf]; omega
              | false =>
                rw [hX] at hbit HYS
                simp only [Bool.false_eq_true, if_false] at hbit HYS
                clear hX hgd
                go_wp2_with fail
                go_quiet (fail)
                have HE : Hid (bits .or .i64 ((setY lN x k : Nat) : Int) 0 = ((setY lN x (k + 1) : Nat) : Int)) := by
                  unfold Hid; rw [HYS.out]; exact or_i64 _ 0 (by have := HP8.out; omega) (by omega)
                have FD := Fk.drewN nq
                clear hbit hys hpc
                go_wp2_with fail
                go_roundw
                case rel => exact ⟨k + 1, by omega, by go_num, by rw [HE.out], FD⟩
                case measure => simp [intOf]; omega
            · obtain rfl : k = L.length := by omega
              have F11 := Flb.pure Fk
              have S11 := Sb.fr Fk
              have hz12 := F11.size
              have hys := setY_lt (l := lN) (x := x) (n := L.length) (fun j hj => List.mem_range.1 (HPM.out.mem_iff.1 hj)) L.length (by rw [HPM.out.length_eq]; simp)
              obtain ⟨y, hy⟩ : ∃ y, y = setY lN x L.length := ⟨_, rfl⟩
              rw [← hy] at hys ⊢
              have HY := Lib.hid hy
              clear hy Flb Fl Sb Fb S Fk hzb
              go_wp2_with fail
              go_loopw [18, 106] (fun _ s106 wr => ∃ k : Nat, k ≤ L.length ∧ s106 = .int .i64 (k : Int) ∧ Fr none wx wr) (fun _ s106 _ => L.length - (intOf s106).toNat)
              case atStart => exact ⟨0, Nat.zero_le _, rfl, Fr.refl _ _⟩
              case round =>
                obtain ⟨k, hk, rfl, Fk⟩ := hrel
                obtain ⟨wt, hwt⟩ : ∃ wt : World, wt = wr := ⟨_, rfl⟩
                subst hwt
                have Ft := F11.pure Fk
                have hzt := Ft.size
                by_cases hkl : k < L.length
                · obtain ⟨A', c', e, _, _, hcell⟩ := hcc.open_
                  simp only [Value.agg.injEq, Array.mk.injEq, List.cons.injEq, and_true] at e
                  injection e with e1 _ e3
                  subst e1 e3
                  obtain ⟨b, off, th, A1, n1, c1, A2, n2, c2, rfl, hb, g0, g1, g2, g3, ht⟩ := hcell k hkl
                  obtain ⟨pb, po, ii, rfl, hp1, hp2, hpc, hii, hgd⟩ := HPR5.out k hkl
                  obtain ⟨A'', c'', e, _, _, hcell'⟩ := hdc.open_
                  simp only [Value.agg.injEq, Array.mk.injEq, List.cons.injEq, and_true] at e
                  injection e with e1 e2 e3
                  subst e1 e3
                  clear e2
                  have hiR : ii < R.length := by omega
                  obtain ⟨b', off', th', A1', n1', c1', A2', n2', c2', rfl, hb', g0', g1', g2', g3', ht'⟩ := hcell' ii hiR
                  have HSAT : Hid (sat (y : Int) R[ii].tr = sat (x : Int) L[k].tr) := by
                    have := ren_sat (by omega) HPM.out HOK.out hx k hkl (by rw [renS_len, hgd]; exact hii)
                    unfold Hid
                    rw [← HY.out] at this
                    rw [← this]
                    congr 2
                    simp only [HRE.out, HPE.out, hgd]
                  have hbg := hb.2
                  have k1 := Ft.keep g1 (by simp; omega)
                  have k2 := Ft.keep g2 (by simp; omega)
                  have k3 := Ft.keep g3 (by simp; omega)
                  have k1' := Ft.keep g1' (by simp; omega)
                  have k2' := Ft.keep g2' (by simp; omega)
                  have k3' := Ft.keep g3' (by simp; omega)
                  have kp := Ft.keep (F5c.keep hpc (by simp; omega)) (by simp; omega)
                  have b4t := b4c.fr Ft (by simp; omega)
                  have b10t := b10c.fr Ft (by simp; omega)
                  have htt : TrR wt none (.agg #[.int .i64 th, .slice A1 n1 c1, .slice A2 n2 c2]) L[k].tr := TrD.keep (fun q hq => ⟨⟨by have := hq.1; omega, by simp⟩, Ft.block q (by have := hq.1; omega) (by have := hq.2; simp; omega)⟩) _ _ ht
                  have htt' : TrR wt none (.agg #[.int .i64 th', .slice A1' n1' c1', .slice A2' n2' c2']) R[ii].tr := TrD.keep (fun q hq => ⟨⟨by have := hq.2; omega, by simp⟩, Ft.block q (by have := hq.2; omega) (by have := hq.1; simp; omega)⟩) _ _ ht'
                  obtain ⟨B, hB⟩ : ∃ B, B = sat (x : Int) L[k].tr := ⟨_, rfl⟩
                  rw [← hB] at HSAT
                  have HB := Lib.hid hB
                  clear hB g0 g1 g2 g3 g0' g1' g2' g3' ht ht' hcell hcell' hpc hgd
                  generalize L[k].tr = X at *
                  generalize R[ii].tr = Y at *
                  go_upto_region 27 with (fail)
                  refine wp_region_held_drew (S := fun W => (∀ z, W.cell? ⟨w2.heap.size, z, none⟩ = (#[.slice (some ⟨b, off, none⟩) L.length c] : Array Value)[z]?) ∧ (∀ z, W.cell? ⟨w7.heap.size, z, none⟩ = (#[.slice (some ⟨b', off', none⟩) L.length cd] : Array Value)[z]?) ∧ W.cell? ⟨b, off + k * 4 + 1, none⟩ = some (.int .i64 th) ∧ W.cell? ⟨b, off + k * 4 + 2, none⟩ = some (.slice A1 n1 c1) ∧ W.cell? ⟨b, off + k * 4 + 3, none⟩ = some (.slice A2 n2 c2) ∧ W.cell? ⟨pb, po + k, none⟩ = some (.int .i64 (ii : Int)) ∧ W.cell? ⟨b', off' + ii * 4 + 1, none⟩ = some (.int .i64 th') ∧ W.cell? ⟨b', off' + ii * 4 + 2, none⟩ = some (.slice A1' n1' c1') ∧ W.cell? ⟨b', off' + ii * 4 + 3, none⟩ = some (.slice A2' n2' c2') ∧ Fr none wt W) (by kernel_rfl) ⟨b4t.cell, b10t.cell, k1, k2, k3, kp, k1', k2', k3', (Fr.refl _ _).drew⟩ (fun hH0 => ?_)
                  refine wpAnyH_take (i := 0) (v := ?_) rfl (by kernel_rfl) (by kernel_rfl) (by kernel_rfl) (fun _ _ _ h => h) (Or.inl ⟨by rfl, ?_⟩) (by assumption) ?_
                  rotate_left
                  · (intro W hW; (try dsimp only at hW); go_simp; try with_reducible rfl)
                  try simp only [Act.put, List.setIfInBounds_toArray, List.set_cons_zero, List.set_cons_succ, List.getElem_toArray, List.getElem_cons_zero, List.getElem_cons_succ]
                  refine wpAnyH_take (i := 1) (v := ?_) rfl (by kernel_rfl) (by kernel_rfl) (by kernel_rfl) (fun _ _ _ h => h) (Or.inl ⟨by rfl, ?_⟩) (by assumption) ?_
                  rotate_left
                  · (intro W hW; (try dsimp only at hW); go_simp; try with_reducible rfl)
                  try simp only [Act.put, List.setIfInBounds_toArray, List.set_cons_zero, List.set_cons_succ, List.getElem_toArray, List.getElem_cons_zero, List.getElem_cons_succ]
                  refine wpAnyH_take (i := 2) (v := ?_) rfl (by kernel_rfl) (by kernel_rfl) (by kernel_rfl) (fun _ _ _ h => h) (Or.inl ⟨by rfl, ?_⟩) (by assumption) ?_
                  rotate_left
                  · (intro W hW; (try dsimp only at hW); go_simp; try with_reducible rfl)
                  try simp only [Act.put, List.setIfInBounds_toArray, List.set_cons_zero, List.set_cons_succ, List.getElem_toArray, List.getElem_cons_zero, List.getElem_cons_succ]
                  refine wpAnyH_take (i := 3) (v := ?_) rfl (by kernel_rfl) (by kernel_rfl) (by kernel_rfl) (fun _ _ _ h => h) (Or.inl ⟨by rfl, ?_⟩) (by assumption) ?_
                  rotate_left
                  · (intro W hW; (try dsimp only at hW); go_simp; try with_reducible rfl)
                  try simp only [Act.put, List.setIfInBounds_toArray, List.set_cons_zero, List.set_cons_succ, List.getElem_toArray, List.getElem_cons_zero, List.getElem_cons_succ]
                  refine wpAnyH_take (i := 4) (v := ?_) rfl (by kernel_rfl) (by kernel_rfl) (by kernel_rfl) (fun _ _ _ h => h) (Or.inl ⟨by rfl, ?_⟩) (by assumption) ?_
                  rotate_left
                  · (intro W hW; (try dsimp only at hW); go_simp; try with_reducible rfl)
                  try simp only [Act.put, List.setIfInBounds_toArray, List.set_cons_zero, List.set_cons_succ, List.getElem_toArray, List.getElem_cons_zero, List.getElem_cons_succ]
                  refine wpAnyH_take (i := 5) (v := ?_) rfl (by kernel_rfl) (by kernel_rfl) (by kernel_rfl) (fun _ _ _ h => h) (Or.inl ⟨by rfl, ?_⟩) (by assumption) ?_
                  rotate_left
                  · (intro W hW; (try dsimp only at hW); go_simp; try with_reducible rfl)
                  try simp only [Act.put, List.setIfInBounds_toArray, List.set_cons_zero, List.set_cons_succ, List.getElem_toArray, List.getElem_cons_zero, List.getElem_cons_succ]
                  refine wpAnyH_take (i := 6) (v := ?_) rfl (by kernel_rfl) (by kernel_rfl) (by kernel_rfl) (fun _ _ _ h => h) (Or.inl ⟨by rfl, ?_⟩) (by assumption) ?_
                  rotate_left
                  · (intro W hW; (try dsimp only at hW); go_simp; try with_reducible rfl)
                  try simp only [Act.put, List.setIfInBounds_toArray, List.set_cons_zero, List.set_cons_succ, List.getElem_toArray, List.getElem_cons_zero, List.getElem_cons_succ]
                  refine wpAnyH_take (i := 8) (v := ?_) rfl (by kernel_rfl) (by kernel_rfl) (by kernel_rfl) (fun _ _ _ h => h) (Or.inl ⟨by rfl, ?_⟩) (by assumption) ?_
                  rotate_left
                  · (intro W hW; (try dsimp only at hW); go_simp; try with_reducible rfl)
                  try simp only [Act.put, List.setIfInBounds_toArray, List.set_cons_zero, List.set_cons_succ, List.getElem_toArray, List.getElem_cons_zero, List.getElem_cons_succ]
                  refine wpAnyH_take (i := 9) (v := ?_) rfl (by kernel_rfl) (by kernel_rfl) (by kernel_rfl) (fun _ _ _ h => h) (Or.inl ⟨by rfl, ?_⟩) (by assumption) ?_
                  rotate_left
                  · (intro W hW; (try dsimp only at hW); go_simp; try with_reducible rfl)
                  try simp only [Act.put, List.setIfInBounds_toArray, List.set_cons_zero, List.set_cons_succ, List.getElem_toArray, List.getElem_cons_zero, List.getElem_cons_succ]
                  refine wpAnyH_take (i := 10) (v := ?_) rfl (by kernel_rfl) (by kernel_rfl) (by kernel_rfl) (fun _ _ _ h => h) (Or.inl ⟨by rfl, ?_⟩) (by assumption) ?_
                  rotate_left
                  · (intro W hW; (try dsimp only at hW); go_simp; try with_reducible rfl)
                  try simp only [Act.put, List.setIfInBounds_toArray, List.set_cons_zero, List.set_cons_succ, List.getElem_toArray, List.getElem_cons_zero, List.getElem_cons_succ]
                  refine wpAnyH_take (i := 11) (v := ?_) rfl (by kernel_rfl) (by kernel_rfl) (by kernel_rfl) (fun _ _ _ h => h) (Or.inl ⟨by rfl, ?_⟩) (by assumption) ?_
                  rotate_left
                  · (intro W hW; (try dsimp only at hW); go_simp; try with_reducible rfl)
                  try simp only [Act.put, List.setIfInBounds_toArray, List.set_cons_zero, List.set_cons_succ, List.getElem_toArray, List.getElem_cons_zero, List.getElem_cons_succ]
                  refine wpAnyH_take (i := 12) (v := ?_) rfl (by kernel_rfl) (by kernel_rfl) (by kernel_rfl) (fun _ _ _ h => h) (Or.inl ⟨by rfl, ?_⟩) (by assumption) ?_
                  rotate_left
                  · (intro W hW; (try dsimp only at hW); go_simp; try with_reducible rfl)
                  try simp only [Act.put, List.setIfInBounds_toArray, List.set_cons_zero, List.set_cons_succ, List.getElem_toArray, List.getElem_cons_zero, List.getElem_cons_succ]
                  refine wpAnyH_take (i := 13) (v := ?_) rfl (by kernel_rfl) (by kernel_rfl) (by kernel_rfl) (fun _ _ _ h => h) (Or.inl ⟨by rfl, ?_⟩) (by assumption) ?_
                  rotate_left
                  · (intro W hW; (try dsimp only at hW); go_simp; try with_reducible rfl)
                  try simp only [Act.put, List.setIfInBounds_toArray, List.set_cons_zero, List.set_cons_succ, List.getElem_toArray, List.getElem_cons_zero, List.getElem_cons_succ]
                  refine wpAnyH_take (i := 14) (v := ?_) rfl (by kernel_rfl) (by kernel_rfl) (by kernel_rfl) (fun _ _ _ h => h) (Or.inl ⟨by rfl, ?_⟩) (by assumption) ?_
                  rotate_left
                  · (intro W hW; (try dsimp only at hW); go_simp; try with_reducible rfl)
                  try simp only [Act.put, List.setIfInBounds_toArray, List.set_cons_zero, List.set_cons_succ, List.getElem_toArray, List.getElem_cons_zero, List.getElem_cons_succ]
                  refine wpAnyH_take (i := 15) (v := ?_) rfl (by kernel_rfl) (by kernel_rfl) (by kernel_rfl) (fun _ _ _ h => h) (Or.inl ⟨by rfl, ?_⟩) (by assumption) ?_
                  rotate_left
                  · (intro W hW; (try dsimp only at hW); go_simp; try with_reducible rfl)
                  try simp only [Act.put, List.setIfInBounds_toArray, List.set_cons_zero, List.set_cons_succ, List.getElem_toArray, List.getElem_cons_zero, List.getElem_cons_succ]
                  refine wpAnyH_take (i := 16) (v := ?_) rfl (by kernel_rfl) (by kernel_rfl) (by kernel_rfl) (fun _ _ _ h => h) (Or.inl ⟨by rfl, ?_⟩) (by assumption) ?_
                  rotate_left
                  · (intro W hW; (try dsimp only at hW); go_simp; try with_reducible rfl)
                  try simp only [Act.put, List.setIfInBounds_toArray, List.set_cons_zero, List.set_cons_succ, List.getElem_toArray, List.getElem_cons_zero, List.getElem_cons_succ]
                  refine wpAnyH_take (i := 17) (v := ?_) rfl (by kernel_rfl) (by kernel_rfl) (by kernel_rfl) (fun _ _ _ h => h) (Or.inl ⟨by rfl, ?_⟩) (by assumption) ?_
                  rotate_left
                  · (intro W hW; (try dsimp only at hW); go_simp; try with_reducible rfl)
                  try simp only [Act.put, List.setIfInBounds_toArray, List.set_cons_zero, List.set_cons_succ, List.getElem_toArray, List.getElem_cons_zero, List.getElem_cons_succ]
                  refine wpAnyH_ready (rs := [7]) (by kernel_rfl) (by simp) ?_
                  refine AllReadyH.cons rfl (fun K hK => ?_) AllReadyH.nil
                  simp only [List.getElem_toArray, List.getElem_cons_zero, List.getElem_cons_succ]
                  go_simp
                  go_at_call 45
                  refine (rsat_any X.dep X (x : Int) _ _ none (Nat.le_refl _) (by exact htt.fr (Fr.refl none wt).drew)).mono ?_
                  rintro e w20 ⟨rfl, F20⟩
                  rw [← HB.out]
                  have F20 := ((Fr.refl none wt).drew).pure F20
                  refine hK.out _ _ ⟨(b4t.fr F20 (by simp)).cell, (b10t.fr F20 (by simp)).cell, F20.keep k1 (by simp), F20.keep k2 (by simp), F20.keep k3 (by simp), F20.keep kp (by simp), F20.keep k1' (by simp), F20.keep k2' (by simp), F20.keep k3' (by simp), F20⟩ (fun hH1 => ?_)
                  clear hK K hH0
                  try simp only [Act.put, List.setIfInBounds_toArray, List.set_cons_zero, List.set_cons_succ, List.getElem_toArray, List.getElem_cons_zero, List.getElem_cons_succ]
                  refine wpAnyH_ready (rs := [18]) (by kernel_rfl) (by simp) ?_
                  refine AllReadyH.cons rfl (fun K hK => ?_) AllReadyH.nil
                  simp only [List.getElem_toArray, List.getElem_cons_zero, List.getElem_cons_succ]
                  go_simp
                  go_at_call 45
                  refine (rsat_any Y.dep Y (y : Int) _ _ none (Nat.le_refl _) (by exact htt'.fr F20)).mono ?_
                  rintro e w21 ⟨rfl, F21⟩
                  rw [HSAT.out]
                  have F21 := F20.pure F21
                  refine hK.out _ _ ⟨(b4t.fr F21 (by simp)).cell, (b10t.fr F21 (by simp)).cell, F21.keep k1 (by simp), F21.keep k2 (by simp), F21.keep k3 (by simp), F21.keep kp (by simp), F21.keep k1' (by simp), F21.keep k2' (by simp), F21.keep k3' (by simp), F21⟩ (fun hH2 => ?_)
                  clear hK K hH1
                  try simp only [Act.put, List.setIfInBounds_toArray, List.set_cons_zero, List.set_cons_succ, List.getElem_toArray, List.getElem_cons_zero, List.getElem_cons_succ]
                  refine wpAnyH_take (i := 19) (v := ?_) rfl (by kernel_rfl) (by kernel_rfl) (by kernel_rfl) (fun _ _ _ h => h) (Or.inl ⟨by rfl, ?_⟩) (by assumption) ?_
                  rotate_left
                  · (intro W hW; (try dsimp only at hW); go_simp; try with_reducible rfl)
                  try simp only [Act.put, List.setIfInBounds_toArray, List.set_cons_zero, List.set_cons_succ, List.getElem_toArray, List.getElem_cons_zero, List.getElem_cons_succ]
                  refine wpAnyH_done (by kernel_rfl) ?_ _
                  have FE := Fk.pure F21
                  clear k1 k2 k3 k1' k2' k3' kp htt htt' b4t b10t HSAT HB
                  go_wp2_with fail
                  go_roundw
                  case rel => exact ⟨k + 1, by omega, by go_num, FE⟩
                  case measure => simp [intOf]; omega
                · obtain rfl : k = L.length := by omega
                  go_wp2_with fail
                  go_roundw
                  case rel => exact ⟨i + 1, by omega, by go_num, Ft, S11.fr Fk⟩
                  case measure => simp [intOf]; omega
        · obtain rfl : i = 10 := by omega
          have F0y := F0c.own Fl (fun q hq => by injection hq with hq; omega)
          go_wp2_with fail
          refine (awake6_any _ (hT.fr F0y) (hM.fr F0y)).mono ?_
          rintro e wf ⟨rfl, FF⟩
          go_wp2_with fail
          go_ret
          exact ⟨rfl, F0y.pure FF⟩
end Go.Proofs.YtoblhcieidljjaaGreatDoor

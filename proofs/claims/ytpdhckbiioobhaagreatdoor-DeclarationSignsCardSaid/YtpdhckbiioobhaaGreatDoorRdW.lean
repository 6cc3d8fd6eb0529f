/- Walks: the reader of notation: next. -/
import Derived.Test.YtpdhckbiioobhaaGreatDoorProg
import Derived.Test.YtpdhckbiioobhaaGreatDoorApp
import Derived.Test.YtpdhckbiioobhaaGreatDoorParP
import Derived.Lib.ConvBytes
import Derived.Lib.IndexBytes
import Derived.Lib.Bytealg
import Derived.Test.YtpdhckbiioobhaaGreatDoorShelf
import Derived.StillTailTactics
namespace Go.Proofs.YtpdhckbiioobhaaGreatDoor
open Go.RowKit

/-- The reader in block g: its text, its token, its place. -/
def RdB (w : World) (g : Nat) (S T : ByteArray) (k : Nat) : Prop := w.heap[g]? = some (.cells #[.string S, .string T, .int .i64 (k : Int)] 148 (0, 0))
theorem RdB.fr {w w' : World} {g : Nat} {S T : ByteArray} {k : Nat} {r : Option Nat} (h : RdB w g S T k) (f : Fr r w w') (hr : r ≠ some g) : RdB w' g S T k := blk_fr h f hr
theorem RdB.cell {w : World} {g : Nat} {S T : ByteArray} {k : Nat} (h : RdB w g S T k) (i : Nat) : w.cell? ⟨g, i, none⟩ = (#[.string S, .string T, .int .i64 (k : Int)] : Array Value)[i]? := blk_cell h i
theorem RdB.free {w : World} {g : Nat} {S T : ByteArray} {k : Nat} (h : RdB w g S T k) (i : Nat) : w.frozen? ⟨g, i, none⟩ = false := blk_free h i
/-- The reader's place. -/
def atOf (w : World) (g : Nat) : Nat := match w.cell? ⟨g, 2, none⟩ with
  | some (.int _ i) => i.toNat
  | _ => 0
theorem RdB.atOf {w : World} {g : Nat} {S T : ByteArray} {k : Nat} (h : RdB w g S T k) : atOf w g = k := by
  unfold Proofs.YtpdhckbiioobhaaGreatDoor.atOf
  rw [h.cell 2]
  simp
theorem digit_any (c : UInt8) (w : World) : Calls Tryz.prog 194 #[.int .u8 (c.toNat : Int)] w fun e w' => e = .returned (.bool (isDg c)) ∧ w = w' := by
  have H : Hid (isDg c = decide (48 ≤ (c.toNat : Int) ∧ (c.toNat : Int) ≤ 57)) := by unfold Hid isDg; rw [decide_eq_decide]; omega
  go_enter Tryz.func194, Tryz.ntmps194
  go_wp2
  all_goals
    go_ret
    exact ⟨ret_bool (by rw [H.out]; by_cases h1 : 48 ≤ (c.toNat : Int) <;> by_cases h2 : (c.toNat : Int) ≤ 57 <;> simp [h1, h2] <;> omega), rfl⟩

/-- What next leaves: the reader stands at the next token. -/
def NextP (w : World) (g : Nat) (S : ByteArray) (u : List UInt8) (e : Ending) (w' : World) : Prop :=
  ∃ (k : Nat) (T : ByteArray), e = .returned (.tuple #[]) ∧ k ≤ S.size ∧ S.data.toList.drop k = skp u ∧ T.data.toList = tok (skp u) ∧ T.size ≤ S.size ∧ RdB w' g S T k ∧ Fr (some g) w w'

theorem RdB.bump {w : World} {g : Nat} {S T : ByteArray} {j : Nat} (h : RdB w g S T j) (n : Nat) : RdB ((w.drewN n).setCell ⟨g, 2, none⟩ (.int .i64 ((j : Int) + 1))) g S T (j + 1) := by
  have := blk_set (i := 2) (u := .int .i64 ((j : Int) + 1)) (show (w.drewN n).heap[g]? = some _ from h)
  simpa [RdB] using this
theorem RdB.token {w : World} {g : Nat} {S T : ByteArray} {j : Nat} (h : RdB w g S T j) (T' : ByteArray) : RdB (w.setCell ⟨g, 1, none⟩ (.string T')) g S T' j := by
  have := blk_set (i := 1) (u := .string T') (show w.heap[g]? = some _ from h)
  simpa [RdB] using this

theorem ext_all (R : ByteArray) : R.extract 0 R.size = R := by
  rw [Lib.extract_eq, List.drop_zero, List.take_of_length_le (by simp)]
theorem tokN_of {u : List UInt8} (h : Lib.hasPrefix u [111, 102] = true) : tokN u = 2 := by
  unfold Lib.hasPrefix at h
  rw [List.isPrefixOf_iff_prefix] at h
  obtain ⟨r, rfl⟩ := h
  simp [tokN]
theorem not_of {u : List UInt8} (h : Lib.hasPrefix u [111, 102] = false) : u.take 2 ≠ [111, 102] := by
  intro e
  have : Lib.hasPrefix u [111, 102] = true := by
    unfold Lib.hasPrefix
    rw [List.isPrefixOf_iff_prefix, ← e]
    exact List.take_prefix _ _
  rw [this] at h
  cases h
theorem idx_sign (c : UInt8) : 0 ≤ Lib.indexByte [40, 41, 44] c ↔ (c = 40 ∨ c = 41 ∨ c = 44) := by
  by_cases h1 : c = 40
  · subst h1; decide
  · by_cases h2 : c = 41
    · subst h2; decide
    · by_cases h3 : c = 44
      · subst h3; decide
      · have e1 : ((40 : UInt8) == c) = false := by rw [beq_eq_false_iff_ne]; exact Ne.symm h1
        have e2 : ((41 : UInt8) == c) = false := by rw [beq_eq_false_iff_ne]; exact Ne.symm h2
        have e3 : ((44 : UInt8) == c) = false := by rw [beq_eq_false_iff_ne]; exact Ne.symm h3
        simp [Lib.indexByte, e1, e2, e3, h1, h2, h3]
theorem tokN_sign {c : UInt8} {r : List UInt8} (h : Lib.hasPrefix (c :: r) [111, 102] = false) (hc : c = 40 ∨ c = 41 ∨ c = 44) : tokN (c :: r) = 1 := by
  unfold tokN
  rw [if_neg (not_of h)]
  simp only
  rw [if_pos hc]
theorem tokN_num {u : List UInt8} (h : Lib.hasPrefix u [111, 102] = false) (hc : ∀ c r, u = c :: r → ¬ (c = 40 ∨ c = 41 ∨ c = 44)) : tokN u = (u.takeWhile isDg).length := by
  unfold tokN
  rw [if_neg (not_of h)]
  cases u with
  | nil => rfl
  | cons c r => simp only; rw [if_neg (hc c r rfl)]

set_option maxRecDepth 100000 in
set_option maxHeartbeats 2000000 in
theorem next_any (g k q : Nat) (S T : ByteArray) (w : World) (h : RdB w g S T k) (hq : k + T.size = q) (hk : q ≤ S.size) (hS : S.size ≤ 6001) :
    Calls Tryz.prog 147 #[.pointer (some ⟨g, 0, none⟩)] w (NextP w g S (S.data.toList.drop q)) := by
  have HQ := Lib.hid hq
  have hk' : k + T.size ≤ S.size := by omega
  clear hq
  have R0 := h.cell
  have Z0 := h.free
  have H := Lib.hid h
  clear h
  go_enter Tryz.func147, Tryz.ntmps147
  go_wp2_with fail
  go_still_tail 12, (by kernel_rfl)
  change wpList _ _ _ _ _ w.drew
  go_wp2_with fail
  generalize hW : World.setCell _ _ _ = w1
  have b1 : RdB w1 g S T q := by
    rw [← hW, ← HQ.out]
    have := blk_set (i := 2) (u := .int .i64 ((k : Int) + T.size)) (show w.heap[g]? = some _ from H.out)
    simpa [RdB] using this
  have F1 : Fr (some g) w w1 := by
    rw [← hW]
    exact Fr.set1 w ⟨g, 2, none⟩ _
  clear hW R0 Z0 H hk'
  go_loopw [37] (fun s wr => ∃ j : Nat, j ≤ S.size ∧ (∃ T, RdB wr g S T j) ∧ Hid (skp (S.data.toList.drop j) = skp (S.data.toList.drop q)) ∧ Fr (some g) w wr) (fun _ wr => S.size - atOf wr g)
  case atStart => exact ⟨q, hk, ⟨T, b1⟩, rfl, F1.drew⟩
  case round =>
    obtain ⟨j, hj, ⟨T, B⟩, HJ, F⟩ := hrel
    have RC := B.cell
    have Z := B.free
    by_cases hgo : ∃ h : j < S.size, S[j] = 32
    · obtain ⟨hlt, hc⟩ := hgo
      have h32' : ((S[j].toNat : Int) == 32) = true := by rw [hc]; rfl
      have hd : decide ((j : Int) < S.size) = true := by simpa using hlt
      have HC := Lib.hid hc
      clear hc
      go_wp2_with fail
      go_quiet (fail)
      go_wp2_with fail
      go_roundw
      case rel =>
        refine ⟨j + 1, by omega, ⟨T, ?_⟩, ?_, ?_⟩
        · exact B.bump _
        · unfold Hid
          rw [← HJ.out, List.drop_eq_getElem_cons (i := j) (by simpa using hlt)]
          rw [show S.data.toList[j] = (32 : UInt8) from HC.out]
          simp [skp]
        · exact F.same (Fr.setRow (p := ⟨g, 2, none⟩) ((Fr.refl _ _).drewN _) rfl _)
      case measure =>
        rw [(B.bump _).atOf, B.atOf]
        omega
    · have hc : j = S.size ∨ ∃ h : j < S.size, S[j] ≠ 32 := by
        rcases Nat.lt_or_ge j S.size with h | h
        · exact .inr ⟨h, fun e => hgo ⟨h, e⟩⟩
        · exact .inl (by omega)
      have hK : S.data.toList.drop j = skp (S.data.toList.drop q) := by
        rw [← HJ.out]
        rcases hc with h | ⟨h, hne⟩
        · rw [List.drop_eq_nil_of_le (by rw [h]; simp)]; rfl
        · rw [List.drop_eq_getElem_cons (i := j) (by simpa using h)]
          have : S.data.toList[j] = S[j] := rfl
          rw [this]
          simp [skp, hne]
      have HK := Lib.hid hK
      clear hgo HJ
      obtain ⟨R, hR⟩ : ∃ R, R = S.extract j S.size := ⟨_, rfl⟩
      have hRl : R.data.toList = skp (S.data.toList.drop q) := by rw [hR, Lib.extract_to_end, hK]
      have hRz : R.size + j = S.size := by
        have : R.size = R.data.toList.length := (Array.length_toList).symm
        rw [this, hR, Lib.extract_to_end, List.length_drop]
        have e2 : S.size = S.data.toList.length := (Array.length_toList).symm
        omega
      have HR := Lib.hid hR
      have HRL := Lib.hid hRl
      have hRz1 : R.size + j ≤ S.size := by omega
      have HRZ := Lib.hid hRz
      clear hR hRl hRz hK
      have hend : ∀ (wl : World) (n : Nat), Fr (some g) wr wl → RdB wl g S T j → n = tokN R.data.toList → NextP w g S (S.data.toList.drop q) (.returned (.tuple #[])) (wl.setCell ⟨g, 1, none⟩ (.string (R.extract 0 n))) := fun wl n Fl Bl hn => by
        have hz : (R.extract 0 n).data.toList = tok (skp (S.data.toList.drop q)) := by
          rw [Lib.extract_data, ← HRL.out, hn]
          simp [tok]
        refine ⟨j, R.extract 0 n, rfl, hj, HK.out, hz, ?_, Bl.token _, (F.same Fl).same (Fr.set1 wl ⟨g, 1, none⟩ _)⟩
        have : (R.extract 0 n).size = (R.extract 0 n).data.toList.length := (Array.length_toList).symm
        rw [this, Lib.extract_data, List.length_take, List.length_drop]
        have e2 : R.size = R.data.toList.length := (Array.length_toList).symm
        omega
      have HEND := Lib.hid hend
      clear hend
      have hst : (∃ b, Lib.hasPrefix R.data.toList [111, 102] = b) := ⟨_, rfl⟩
      obtain ⟨b, hb⟩ := hst
      have HB := Lib.hid hb
      clear hb
      rcases hc with hje | ⟨hlt, hne⟩
      · have hd : decide (j < S.size) = false := by simp; omega
        have hge : S.size ≤ j := by omega
        clear hje
        go_wp2_with fail
        go_quiet (fail)
        go_wp2_with fail
        go_quiet (fail)
        go_wp2_with fail
        rw [← HR.out]
        refine (Tryz.strings_HasPrefix R _ _).mono ?_
        rintro e w2 ⟨rfl, rfl⟩
        rw [show (⟨#[111, 102]⟩ : ByteArray).data.toList = [111, 102] from rfl, HB.out]
        generalize hwq : World.drewN wr _ = wq
        have Bq : RdB wq g S T j := by rw [← hwq]; exact B
        have Fq : Fr (some g) wr wq := by rw [← hwq]; exact (Fr.refl _ _).drewN _
        have Rq := Bq.cell
        have Zq := Bq.free
        clear hwq B Z RC
        have hz0 : R.size = 0 := by omega
        have hnil : R.data.toList = [] := List.eq_nil_of_length_eq_zero (by simpa using hz0)
        have HTN : Hid (tokN R.data.toList = (R.data.toList.takeWhile isDg).length) := by unfold Hid; rw [hnil]; rfl
        obtain rfl : b = false := by
          have := HB.out
          rw [hnil] at this
          exact this.symm
        clear hge hnil
        have he0 : R.toList.isEmpty = true := by
          rw [ByteArray.toList_eq, List.isEmpty_iff]
          apply List.eq_nil_of_length_eq_zero
          simpa using hz0
        have HZ0 := Lib.hid hz0
        clear hz0
        go_wp2_with fail
        go_loop [3] (fun n => ∃ i : Nat, i ≤ R.size ∧ n = .int .i64 i ∧ Hid ((R.data.toList.takeWhile isDg).length = i + ((R.data.toList.drop i).takeWhile isDg).length)) (fun n => R.size - (intOf n).toNat)
        case atStart => exact ⟨0, Nat.zero_le _, rfl, by simp [Hid]⟩
        case round =>
          obtain ⟨i, hi, rfl, HI⟩ := hrel
          by_cases hli : i < R.size
          · have hdr : R.data.toList.drop i = R[i] :: R.data.toList.drop (i + 1) := List.drop_eq_getElem_cons (by simpa using hli)
            obtain ⟨dg, hdg⟩ : ∃ dg, dg = isDg R[i] := ⟨_, rfl⟩
            have HDR := Lib.hid hdr
            have HDG := Lib.hid hdg
            clear hdr hdg
            cases dg with
            | true =>
              go_wp2_with (go_at_call 194; refine (digit_any R[i] _).mono ?_; rintro e w' ⟨rfl, rfl⟩; rw [← HDG.out])
              go_round
              case rel => exact ⟨i + 1, by omega, by go_num, by unfold Hid; rw [HI.out, HDR.out, List.takeWhile_cons, ← HDG.out]; simp; omega⟩
              case measure => simp [intOf]; omega
            | false =>
              go_wp2_with (go_at_call 194; refine (digit_any R[i] _).mono ?_; rintro e w' ⟨rfl, rfl⟩; rw [← HDG.out])
              go_end0
              exact HEND.out wq i Fq Bq (by rw [HTN.out, HI.out, HDR.out, List.takeWhile_cons, ← HDG.out]; simp)
          · obtain rfl : i = R.size := by omega
            go_wp2_with fail
            go_end0
            have hfin := HEND.out wq R.size Fq Bq (by rw [HTN.out, HI.out, List.drop_eq_nil_of_le (by simp)]; simp); rw [ext_all] at hfin; exact hfin
      · have h32' : ((S[j].toNat : Int) == 32) = false := by
          rw [beq_eq_false_iff_ne]
          intro h
          apply hne
          apply UInt8.toNat_inj.1
          have : S[j].toNat = 32 := by omega
          exact this
        have hd : decide ((j : Int) < S.size) = true := by simpa using hlt
        clear hne
        go_wp2_with fail
        go_quiet (fail)
        go_wp2_with fail
        go_quiet (fail)
        go_wp2_with fail
        rw [← HR.out]
        refine (Tryz.strings_HasPrefix R _ _).mono ?_
        rintro e w2 ⟨rfl, rfl⟩
        rw [show (⟨#[111, 102]⟩ : ByteArray).data.toList = [111, 102] from rfl, HB.out]
        generalize hwq : World.drewN wr _ = wq
        have Bq : RdB wq g S T j := by rw [← hwq]; exact B
        have Fq : Fr (some g) wr wq := by rw [← hwq]; exact (Fr.refl _ _).drewN _
        have Rq := Bq.cell
        have Zq := Bq.free
        have h2R : b = true → 2 ≤ R.size := fun h => by
          have e1 := HB.out
          rw [h] at e1
          unfold Lib.hasPrefix at e1
          rw [List.isPrefixOf_iff_prefix] at e1
          have := e1.length_le
          simpa using this
        clear hwq B Z RC
        cases b with
        | true =>
          have h2 := h2R rfl
          clear h2R
          go_wp2_with fail
          go_end0
          exact HEND.out wq 2 Fq Bq (tokN_of HB.out).symm
        | false =>
          clear h2R
          by_cases hsg : ∃ c r, R.data.toList = c :: r ∧ (c = 40 ∨ c = 41 ∨ c = 44)
          · obtain ⟨c, r, hcr, hc⟩ := hsg
            have hz0 : 0 < R.size := by
              have : R.size = R.data.toList.length := (Array.length_toList).symm
              rw [this, hcr]; simp
            have he0 : R.toList.isEmpty = false := by
              rw [ByteArray.toList_eq, hcr]; rfl
            have hR0 : R[0] = c := by
              have : R[0] = R.data.toList[0]'(by simpa using hz0) := rfl
              rw [this]
              simp [hcr]
            have hix : Lib.indexByte [40, 41, 44] c = Lib.indexByte [40, 41, 44] c := rfl
            obtain ⟨ix, hix⟩ : ∃ ix, ix = Lib.indexByte [40, 41, 44] R[0] := ⟨_, rfl⟩
            have hix0 : 0 ≤ ix := by rw [hix, hR0]; exact (idx_sign c).2 hc
            have HIX := Lib.hid hix
            have HTN : Hid (tokN R.data.toList = 1) := by
              unfold Hid
              have := HB.out
              rw [hcr] at this ⊢
              exact tokN_sign this hc
            clear hcr hc hR0 hix
            go_wp2_with (go_at_call 193; refine (Tryz.strings_IndexByte _ _ _).mono ?_; rintro e w' ⟨rfl, hw⟩; rw [hw]; clear hw w'; rw [show (⟨#[40, 41, 44]⟩ : ByteArray).data.toList = [40, 41, 44] from rfl, show ((R[0].toNat : Int)).toNat.toUInt8 = R[0] from by simp, ← HIX.out])
            go_end0
            exact HEND.out wq 1 Fq Bq HTN.out.symm
          · have HTN : Hid (tokN R.data.toList = (R.data.toList.takeWhile isDg).length) := tokN_num HB.out fun c r e h => hsg ⟨c, r, e, h⟩
            by_cases hz0 : R.size = 0
            · have he0 : R.toList.isEmpty = true := by
                rw [ByteArray.toList_eq, List.isEmpty_iff]
                apply List.eq_nil_of_length_eq_zero
                simpa using hz0
              have HZ0 := Lib.hid hz0
              clear hz0 hsg
              go_wp2_with fail
              go_loop [3] (fun n => ∃ i : Nat, i ≤ R.size ∧ n = .int .i64 i ∧ Hid ((R.data.toList.takeWhile isDg).length = i + ((R.data.toList.drop i).takeWhile isDg).length)) (fun n => R.size - (intOf n).toNat)
              case atStart => exact ⟨0, Nat.zero_le _, rfl, by simp [Hid]⟩
              case round =>
                obtain ⟨i, hi, rfl, HI⟩ := hrel
                by_cases hli : i < R.size
                · have hdr : R.data.toList.drop i = R[i] :: R.data.toList.drop (i + 1) := List.drop_eq_getElem_cons (by simpa using hli)
                  obtain ⟨dg, hdg⟩ : ∃ dg, dg = isDg R[i] := ⟨_, rfl⟩
                  have HDR := Lib.hid hdr
                  have HDG := Lib.hid hdg
                  clear hdr hdg
                  cases dg with
                  | true =>
                    go_wp2_with (go_at_call 194; refine (digit_any R[i] _).mono ?_; rintro e w' ⟨rfl, rfl⟩; rw [← HDG.out])
                    go_round
                    case rel => exact ⟨i + 1, by omega, by go_num, by unfold Hid; rw [HI.out, HDR.out, List.takeWhile_cons, ← HDG.out]; simp; omega⟩
                    case measure => simp [intOf]; omega
                  | false =>
                    go_wp2_with (go_at_call 194; refine (digit_any R[i] _).mono ?_; rintro e w' ⟨rfl, rfl⟩; rw [← HDG.out])
                    go_end0
                    exact HEND.out wq i Fq Bq (by rw [HTN.out, HI.out, HDR.out, List.takeWhile_cons, ← HDG.out]; simp)
                · obtain rfl : i = R.size := by omega
                  go_wp2_with fail
                  go_end0
                  have hfin := HEND.out wq R.size Fq Bq (by rw [HTN.out, HI.out, List.drop_eq_nil_of_le (by simp)]; simp); rw [ext_all] at hfin; exact hfin
            · have hz1 : 0 < R.size := by omega
              have he0 : R.toList.isEmpty = false := by
                rw [ByteArray.toList_eq]
                cases h : R.data.toList with
                | nil =>
                  have : R.size = R.data.toList.length := (Array.length_toList).symm
                  rw [h] at this
                  simp only [List.length_nil] at this
                  omega
                | cons c r => rfl
              obtain ⟨ix, hix⟩ : ∃ ix, ix = Lib.indexByte [40, 41, 44] R[0] := ⟨_, rfl⟩
              have hix0 : ix < 0 := by
                rw [hix]
                apply Int.not_le.1
                intro h
                have h2 := (idx_sign R[0]).1 h
                refine hsg ⟨R[0], R.data.toList.drop 1, ?_, h2⟩
                have := List.drop_eq_getElem_cons (l := R.data.toList) (i := 0) (by simpa using hz1)
                rw [List.drop_zero] at this
                exact this
              have HIX := Lib.hid hix
              clear hz0 hsg hix
              go_wp2_with (go_at_call 193; refine (Tryz.strings_IndexByte _ _ _).mono ?_; rintro e w' ⟨rfl, hw⟩; rw [hw]; clear hw w'; rw [show (⟨#[40, 41, 44]⟩ : ByteArray).data.toList = [40, 41, 44] from rfl, show ((R[0].toNat : Int)).toNat.toUInt8 = R[0] from by simp, ← HIX.out])
              go_loop [3] (fun n => ∃ i : Nat, i ≤ R.size ∧ n = .int .i64 i ∧ Hid ((R.data.toList.takeWhile isDg).length = i + ((R.data.toList.drop i).takeWhile isDg).length)) (fun n => R.size - (intOf n).toNat)
              case atStart => exact ⟨0, Nat.zero_le _, rfl, by simp [Hid]⟩
              case round =>
                obtain ⟨i, hi, rfl, HI⟩ := hrel
                by_cases hli : i < R.size
                · have hdr : R.data.toList.drop i = R[i] :: R.data.toList.drop (i + 1) := List.drop_eq_getElem_cons (by simpa using hli)
                  obtain ⟨dg, hdg⟩ : ∃ dg, dg = isDg R[i] := ⟨_, rfl⟩
                  have HDR := Lib.hid hdr
                  have HDG := Lib.hid hdg
                  clear hdr hdg
                  cases dg with
                  | true =>
                    go_wp2_with (go_at_call 194; refine (digit_any R[i] _).mono ?_; rintro e w' ⟨rfl, rfl⟩; rw [← HDG.out])
                    go_round
                    case rel => exact ⟨i + 1, by omega, by go_num, by unfold Hid; rw [HI.out, HDR.out, List.takeWhile_cons, ← HDG.out]; simp; omega⟩
                    case measure => simp [intOf]; omega
                  | false =>
                    go_wp2_with (go_at_call 194; refine (digit_any R[i] _).mono ?_; rintro e w' ⟨rfl, rfl⟩; rw [← HDG.out])
                    go_end0
                    exact HEND.out wq i Fq Bq (by rw [HTN.out, HI.out, HDR.out, List.takeWhile_cons, ← HDG.out]; simp)
                · obtain rfl : i = R.size := by omega
                  go_wp2_with fail
                  go_end0
                  have hfin := HEND.out wq R.size Fq Bq (by rw [HTN.out, HI.out, List.drop_eq_nil_of_le (by simp)]; simp); rw [ext_all] at hfin; exact hfin
end Go.Proofs.YtpdhckbiioobhaaGreatDoor

/- Some texts of this claim, joined. -/
import Derived.Test.YtoblhcieidljjaaGreatDoorProg
import Derived.Test.YtoblhcieidljjaaGreatDoorJG3
import Derived.Test.YtoblhcieidljjaaGreatDoorRf3PJ
import Derived.Test.YtoblhcieidljjaaGreatDoorJG10
import Derived.Lib.ConvBytes
import Derived.StillTailTactics

set_option linter.unusedSimpArgs false
set_option linter.unusedVariables false
/- Walks: the reference's reader of layer 3: skip, sign, number. -/
namespace Go.Proofs.YtoblhcieidljjaaGreatDoor
open Go.RowKit

/-- The reader in block g: its text, its place. -/
def RfB (w : World) (g : Nat) (S : ByteArray) (k : Nat) : Prop := w.heap[g]? = some (.cells #[.string S, .int .i64 (k : Int)] 161 (0, 0))
theorem RfB.fr {w w' : World} {g : Nat} {S : ByteArray} {k : Nat} {r : Option Nat} (h : RfB w g S k) (f : Fr r w w') (hr : r ≠ some g) : RfB w' g S k := blk_fr h f hr
theorem RfB.cell {w : World} {g : Nat} {S : ByteArray} {k : Nat} (h : RfB w g S k) (i : Nat) : w.cell? ⟨g, i, none⟩ = (#[.string S, .int .i64 (k : Int)] : Array Value)[i]? := blk_cell h i
theorem RfB.free {w : World} {g : Nat} {S : ByteArray} {k : Nat} (h : RfB w g S k) (i : Nat) : w.frozen? ⟨g, i, none⟩ = false := blk_free h i
/-- The reader's place. -/
def atRf (w : World) (g : Nat) : Nat := match w.cell? ⟨g, 1, none⟩ with
  | some (.int _ i) => i.toNat
  | _ => 0
theorem RfB.atOf {w : World} {g : Nat} {S : ByteArray} {k : Nat} (h : RfB w g S k) : atRf w g = k := by
  unfold atRf
  rw [h.cell 1]
  simp
theorem RfB.set {w : World} {g : Nat} {S : ByteArray} {j : Nat} (h : RfB w g S j) (n q : Nat) : RfB ((w.drewN n).setCell ⟨g, 1, none⟩ (.int .i64 (q : Int))) g S q := by
  have := blk_set (i := 1) (u := .int .i64 (q : Int)) (show (w.drewN n).heap[g]? = some _ from h)
  simpa [RfB] using this
theorem RfB.bump {w : World} {g : Nat} {S : ByteArray} {j : Nat} (h : RfB w g S j) (n : Nat) : RfB ((w.drewN n).setCell ⟨g, 1, none⟩ (.int .i64 ((j : Int) + 1))) g S (j + 1) := by
  have := h.set n (j + 1)
  simpa using this
theorem RfB.set0 {w : World} {g : Nat} {S : ByteArray} {j : Nat} (h : RfB w g S j) (q : Nat) : RfB (w.setCell ⟨g, 1, none⟩ (.int .i64 (q : Int))) g S q := by
  have := blk_set (i := 1) (u := .int .i64 (q : Int)) (show w.heap[g]? = some _ from h)
  simpa [RfB] using this
/-- The reader stands before what is left, u, of its text S, but for blanks. -/
def RfK (w : World) (g : Nat) (S : ByteArray) (u : List UInt8) : Prop := ∃ k, RfB w g S k ∧ k ≤ S.size ∧ skp (S.data.toList.drop k) = u
theorem RfK.fr {w w' : World} {g : Nat} {S : ByteArray} {u : List UInt8} {r : Option Nat} (h : RfK w g S u) (f : Fr r w w') (hr : r ≠ some g) : RfK w' g S u := by
  obtain ⟨k, h1, h2⟩ := h
  exact ⟨k, h1.fr f hr, h2⟩
theorem RfK.lt {w : World} {g : Nat} {S : ByteArray} {u : List UInt8} (h : RfK w g S u) : g < w.heap.size := by
  obtain ⟨k, h1, h2⟩ := h
  exact blk_lt h1
theorem RfK.le {w : World} {g : Nat} {S : ByteArray} {u : List UInt8} (h : RfK w g S u) : u.length ≤ S.size := by
  obtain ⟨k, _, _, rfl⟩ := h
  have := skp_len (S.data.toList.drop k)
  rw [List.length_drop] at this
  rw [size_list]; omega
theorem RfK.left {w : World} {g : Nat} {S : ByteArray} {u : List UInt8} (h : RfK w g S u) : (skp (S.data.toList.drop (atRf w g))).length = u.length := by
  obtain ⟨k, h1, _, rfl⟩ := h
  rw [h1.atOf]
theorem skp_skp (u : List UInt8) : skp (skp u) = skp u := by
  unfold skp
  induction u with
  | nil => rfl
  | cons c r ih =>
    rw [List.dropWhile_cons]
    split
    · exact ih
    · rename_i h; rw [List.dropWhile_cons, if_neg h]
theorem RfK.skp_eq {w : World} {g : Nat} {S : ByteArray} {u : List UInt8} (h : RfK w g S u) : skp u = u := by
  obtain ⟨k, _, _, rfl⟩ := h
  exact skp_skp _

/-- The reader stands right before what is left. -/
def RfS (w : World) (g : Nat) (S : ByteArray) (u : List UInt8) : Prop := ∃ k, RfB w g S k ∧ k + u.length = S.size ∧ S.data.toList.drop k = u
theorem RfS.k {w : World} {g : Nat} {S : ByteArray} {u : List UInt8} (h : RfS w g S u) : RfK w g S (skp u) := by
  obtain ⟨k, h1, h2, rfl⟩ := h
  exact ⟨k, h1, by omega, rfl⟩
set_option maxRecDepth 100000 in
set_option maxHeartbeats 2000000 in
theorem rskip_any (g : Nat) (S : ByteArray) (u : List UInt8) (w : World) (h : RfK w g S u) (hS : S.size ≤ 6001) :
    Calls Tryz.prog 141 #[.pointer (some ⟨g, 0, none⟩)] w fun e w' => e = .returned (.tuple #[]) ∧ RfS w' g S u ∧ Fr (some g) w w' := by
  obtain ⟨q, b1, hk, hu⟩ := h
  have HU := Lib.hid hu
  clear hu
  go_enter Tryz.func141, Tryz.ntmps141
  go_wp2_with fail
  obtain ⟨wo, hwo⟩ : ∃ wo : World, wo = w := ⟨_, rfl⟩
  rw [← hwo]
  go_loopw [] (fun wr => ∃ j : Nat, j ≤ S.size ∧ RfB wr g S j ∧ Hid (skp (S.data.toList.drop j) = u) ∧ Fr (some g) w wr) (fun wr => S.size - atRf wr g)
  case atStart => exact ⟨q, hk, by rw [hwo]; exact b1, HU, by rw [hwo]; exact Fr.refl _ _⟩
  case round =>
    obtain ⟨j, hj, B, HJ, F⟩ := hrel
    have RC := B.cell
    have Z := B.free
    by_cases hgo : ∃ h : j < S.size, S[j] = 32
    · obtain ⟨hlt, hc⟩ := hgo
      have h32' : ((S[j].toNat : Int) == 32) = true := by rw [hc]; rfl
      have hd : decide ((j : Int) < S.size) = true := by simpa using hlt
      have HC := Lib.hid hc
      clear hc
      go_wp2_with fail
      go_quiet (fail)
      go_wp2_with fail
      go_roundw
      case rel =>
        refine ⟨j + 1, by omega, ?_, ?_, ?_⟩
        · exact B.bump _
        · unfold Hid
          rw [← HJ.out, List.drop_eq_getElem_cons (i := j) (by simpa using hlt)]
          rw [show S.data.toList[j] = (32 : UInt8) from HC.out]
          simp [skp]
        · exact F.same (Fr.setRow (p := ⟨g, 1, none⟩) ((Fr.refl _ _).drewN _) rfl _)
      case measure =>
        rw [(B.bump _).atOf, B.atOf]
        omega
    · have hc : j = S.size ∨ ∃ h : j < S.size, S[j] ≠ 32 := by
        rcases Nat.lt_or_ge j S.size with h | h
        · exact .inr ⟨h, fun e => hgo ⟨h, e⟩⟩
        · exact .inl (by omega)
      have hK : S.data.toList.drop j = u := by
        rw [← HJ.out]
        rcases hc with h | ⟨h, hne⟩
        · rw [List.drop_eq_nil_of_le (by rw [h]; simp)]; rfl
        · rw [List.drop_eq_getElem_cons (i := j) (by simpa using h)]
          have : S.data.toList[j] = S[j] := rfl
          rw [this]
          simp [skp, hne]
      have hul : j + u.length = S.size := by
        rw [← hK, List.length_drop, size_list] at *
        omega
      have HK := Lib.hid hK
      have HUL := Lib.hid hul
      clear hgo HJ hK hul
      rcases hc with hje | ⟨hlt, hne⟩
      · have hd : decide (j < S.size) = false := by simp; omega
        have hge : S.size ≤ j := by omega
        clear hje
        go_wp2_with fail
        go_quiet (fail)
        go_wp2_with fail
        go_end0
        exact ⟨rfl, ⟨j, B, HUL.out, HK.out⟩, F.drewN _⟩
      · have h32' : ((S[j].toNat : Int) == 32) = false := by
          rw [beq_eq_false_iff_ne]
          intro h
          apply hne
          apply UInt8.toNat_inj.1
          have : S[j].toNat = 32 := by omega
          exact this
        have hd : decide ((j : Int) < S.size) = true := by simpa using hlt
        clear hne
        go_wp2_with fail
        go_quiet (fail)
        go_wp2_with fail
        go_end0
        exact ⟨rfl, ⟨j, B, HUL.out, HK.out⟩, F.drewN _⟩

theorem extract_part (S : ByteArray) (k m : Nat) : (S.extract k (k + m)).data.toList = (S.data.toList.drop k).take m := by
  rw [Lib.extract_data]
  congr 1
  omega
set_option maxRecDepth 100000 in
set_option maxHeartbeats 2000000 in
theorem rsign_yes (g : Nat) (S P : ByteArray) (u : List UInt8) (w : World) (h : RfK w g S u) (hS : S.size ≤ 6001) (hp : u.take P.size = P.data.toList) (hm : P.size ≤ 6000) :
    Calls Tryz.prog 180 #[.pointer (some ⟨g, 0, none⟩), .string P] w fun e w' => e = .returned (.bool true) ∧ RfK w' g S (skp (u.drop P.size)) ∧ Fr (some g) w w' := by
  have hul : P.size ≤ u.length := by
    have := congrArg List.length hp
    rw [List.length_take, ← size_list] at this
    omega
  go_enter Tryz.func180, Tryz.ntmps180
  go_wp2_with fail
  refine (rskip_any g S u _ h hS).mono ?_
  rintro e w1 ⟨rfl, ⟨k, B, hk, hu⟩, F1⟩
  have RC := B.cell
  have Z := B.free
  have hks : k + P.size ≤ S.size := by omega
  have he : S.extract k (k + P.size) = P := by
    apply ByteArray.ext
    apply Array.toList_inj.1
    rw [extract_part, hu, hp]
  have HE := Lib.hid he
  have HUU := Lib.hid hu
  have heq : ((S.extract k (k + P.size)).toList == P.toList) = true := by rw [he]; simp
  have hd : decide ((S.size : Int) < (k : Int) + P.size) = false := by simp; omega
  clear he hu hp
  go_wp2_with fail
  go_quiet (fail)
  go_wp2_with fail
  go_ret
  refine ⟨rfl, ⟨k + P.size, ?_, hks, ?_⟩, (F1.drewN _).same (Fr.set1 _ ⟨g, 1, none⟩ _)⟩
  · have := B.set
    simpa using B.set _ (k + P.size)
  · rw [← HUU.out, List.drop_drop]
set_option maxRecDepth 100000 in
set_option maxHeartbeats 2000000 in
theorem rsign_no (g : Nat) (S P : ByteArray) (u : List UInt8) (w : World) (h : RfK w g S u) (hS : S.size ≤ 6001) (hp : u.take P.size ≠ P.data.toList) (hm : P.size ≤ 6000) :
    Calls Tryz.prog 180 #[.pointer (some ⟨g, 0, none⟩), .string P] w fun e w' => e = .returned (.bool false) ∧ RfK w' g S u ∧ Fr (some g) w w' := by
  have hsk := h.skp_eq
  have HSK := Lib.hid hsk
  clear hsk
  go_enter Tryz.func180, Tryz.ntmps180
  go_wp2_with fail
  refine (rskip_any g S u _ h hS).mono ?_
  rintro e w1 ⟨rfl, ⟨k, B, hk, hu⟩, F1⟩
  have RC := B.cell
  have Z := B.free
  by_cases hks : k + P.size ≤ S.size
  · have heq : ((S.extract k (k + P.size)).toList == P.toList) = false := by
      rw [ByteArray.toList_eq, ByteArray.toList_eq, beq_eq_false_iff_ne, extract_part, hu]
      exact hp
    have HUU := Lib.hid hu
    have hd : decide ((S.size : Int) < (k : Int) + P.size) = false := by simp; omega
    clear hu hp
    go_wp2_with fail
    go_quiet (fail)
    go_wp2_with fail
    go_ret
    exact ⟨rfl, ⟨k, B, by omega, by rw [HUU.out]; exact HSK.out⟩, F1.drewN _⟩
  · have hd : decide ((S.size : Int) < (k : Int) + P.size) = true := by simp; omega
    have HUU := Lib.hid hu
    clear hu hp
    go_wp2_with fail
    go_quiet (fail)
    go_wp2_with fail
    go_ret
    exact ⟨rfl, ⟨k, B, by omega, by rw [HUU.out]; exact HSK.out⟩, F1.drewN _⟩
end Go.Proofs.YtoblhcieidljjaaGreatDoor

/- Walks: the reference's reader of layer 3: number. -/
namespace Go.Proofs.YtoblhcieidljjaaGreatDoor
open Go.RowKit

set_option maxRecDepth 100000 in
set_option maxHeartbeats 4000000 in
theorem rnum_no (g : Nat) (S : ByteArray) (u : List UInt8) (w : World) (h : RfK w g S u) (hS : S.size ≤ 6001) (hn : okD (dgs u) = false) :
    Calls Tryz.prog 139 #[.pointer (some ⟨g, 0, none⟩)] w fun e w' => e = .returned (.tuple #[.int .i64 0, .bool false]) ∧ RfK w' g S u ∧ Fr (some g) w w' := by
  have HN := Lib.hid hn
  clear hn
  have hsk := h.skp_eq
  have HSK := Lib.hid hsk
  go_enter Tryz.func139, Tryz.ntmps139
  go_wp2_with fail
  refine (rskip_any g S u _ h hS).mono ?_
  rintro e w1 ⟨rfl, ⟨k, B, hk, hu⟩, F1⟩
  have RC := B.cell
  have Z := B.free
  have HUU := Lib.hid hu
  clear hu hsk
  go_wp2_with fail
  go_loop [4] (fun n => ∃ i : Nat, k ≤ i ∧ i ≤ S.size ∧ n = .int .i64 i ∧ Hid ((dgs u).length = (i - k) + (dgs (S.data.toList.drop i)).length)) (fun n => S.size - (intOf n).toNat)
  case atStart => exact ⟨k, Nat.le_refl _, by omega, rfl, by unfold Hid; rw [HUU.out]; simp⟩
  case round =>
    obtain ⟨i, hki, hi, rfl, HI⟩ := hrel
    by_cases hgo : ∃ h : i < S.size, isDg S[i] = true
    · obtain ⟨hli, hdg⟩ := hgo
      have hdr : S.data.toList.drop i = S[i] :: S.data.toList.drop (i + 1) := List.drop_eq_getElem_cons (by simpa using hli)
      have hd2 : 48 ≤ (S[i].toNat : Int) ∧ (S[i].toNat : Int) ≤ 57 := by unfold isDg at hdg; simp at hdg; omega
      obtain ⟨hd2, hd3⟩ := hd2
      have HDR := Lib.hid hdr
      have HDG := Lib.hid hdg
      clear hdr hdg
      go_wp2_with fail
      go_round
      case rel => exact ⟨i + 1, by omega, by omega, by go_num, by unfold Hid; rw [HI.out, HDR.out]; unfold dgs; rw [List.takeWhile_cons, if_pos HDG.out]; simp; omega⟩
      case measure => simp [intOf]; omega
    · have hdn : dgs (S.data.toList.drop i) = [] := by
        unfold dgs
        rcases Nat.lt_or_ge i S.size with hh | hh
        · rw [List.drop_eq_getElem_cons (i := i) (by simpa using hh)]
          have : S.data.toList[i] = S[i] := rfl
          rw [this, List.takeWhile_cons, if_neg (fun e => hgo ⟨hh, e⟩)]
        · rw [List.drop_eq_nil_of_le (by simpa using hh)]; rfl
      have hlen : (dgs u).length = i - k := by rw [HI.out, hdn]; simp
      obtain ⟨T, hT⟩ : ∃ T, T = S.extract k i := ⟨_, rfl⟩
      have hTd : T.data.toList = dgs u := by
        rw [hT, show i = k + (i - k) by omega, extract_part, HUU.out, ← hlen]
        unfold dgs
        exact (List.prefix_iff_eq_take.1 (List.takeWhile_prefix isDg)).symm
      have hTz : T.size = i - k := by rw [size_list, hTd, hlen]
      have hend : ((∃ h : i < S.size, (S[i].toNat : Int) < 48) ∨ (∃ h : i < S.size, 48 ≤ (S[i].toNat : Int) ∧ 57 < (S[i].toNat : Int))) ∨ i = S.size := by
        rcases Nat.lt_or_ge i S.size with hh | hh
        · left
          have hd : ¬ isDg S[i] = true := fun e => hgo ⟨hh, e⟩
          unfold isDg at hd
          simp at hd
          by_cases h48 : (S[i].toNat : Int) < 48
          · exact .inl ⟨hh, h48⟩
          · exact .inr ⟨hh, by omega, by omega⟩
        · exact .inr (by omega)
      have HT := Lib.hid hT
      have HTD := Lib.hid hTd
      have HTZ := Lib.hid hTz
      clear hgo HI hdn hlen hT hTd hTz
      have hcs : T.toList.isEmpty = true ∨ (T.toList.isEmpty = false ∧ 4 < T.size) ∨ (∃ h : 0 < T.size, T.toList.isEmpty = false ∧ T.size ≤ 4 ∧ 1 < T.size ∧ ((T[0].toNat : Int) == 48) = true) := by
        have hn := HN.out
        rw [← HTD.out] at hn
        cases hTl : T.data.toList with
        | nil => exact .inl (by rw [ByteArray.toList_eq, hTl]; rfl)
        | cons c r =>
          right
          have he : T.toList.isEmpty = false := by rw [ByteArray.toList_eq, hTl]; rfl
          have hz := head_size hTl
          have hg := head_get hTl (by omega)
          rw [hTl] at hn
          simp only [okD, Bool.and_eq_false_iff, Bool.not_eq_false', Bool.and_eq_true, decide_eq_false_iff_not, decide_eq_true_eq, beq_iff_eq] at hn
          by_cases h4 : 4 < T.size
          · exact .inl ⟨he, h4⟩
          · right
            rcases hn with hn | hn
            · omega
            · exact ⟨by omega, he, by omega, by omega, by rw [hg, hn.2]; rfl⟩
      rcases hend with (⟨hli, hd1⟩ | ⟨hli, hd1, hd2⟩) | hd1 <;> rcases hcs with he0 | ⟨he0, hT4⟩ | ⟨hT0, he0, hT4, hT1, hT48⟩
      all_goals
        (try subst hd1)
        go_wp2_with fail
        go_quiet (fail)
        rw [← HT.out]
        go_wp2_with fail
        go_ret2
        exact ⟨rfl, ⟨k, B, by omega, by rw [HUU.out]; exact HSK.out⟩, F1.drewN _⟩
theorem numV_snoc (a : Nat) (l : List UInt8) (c : UInt8) : numV a (l ++ [c]) = 10 * numV a l + (c.toNat - 48) := by
  unfold numV
  rw [List.foldl_append]
  rfl
set_option maxRecDepth 100000 in
set_option maxHeartbeats 4000000 in
theorem rnum_yes (g : Nat) (S : ByteArray) (u : List UInt8) (w : World) (h : RfK w g S u) (hS : S.size ≤ 6001) (hn : okD (dgs u) = true) :
    Calls Tryz.prog 139 #[.pointer (some ⟨g, 0, none⟩)] w fun e w' => e = .returned (.tuple #[.int .i64 (numV 0 (dgs u) : Nat), .bool true]) ∧ RfK w' g S (skp (u.drop (dgs u).length)) ∧ Fr (some g) w w' := by
  have HN := Lib.hid hn
  clear hn
  have hsk := h.skp_eq
  have HSK := Lib.hid hsk
  go_enter Tryz.func139, Tryz.ntmps139
  go_wp2_with fail
  refine (rskip_any g S u _ h hS).mono ?_
  rintro e w1 ⟨rfl, ⟨k, B, hk, hu⟩, F1⟩
  have RC := B.cell
  have Z := B.free
  have HUU := Lib.hid hu
  clear hu hsk
  go_wp2_with fail
  go_loop [4] (fun n => ∃ i : Nat, k ≤ i ∧ i ≤ S.size ∧ n = .int .i64 i ∧ Hid ((dgs u).length = (i - k) + (dgs (S.data.toList.drop i)).length)) (fun n => S.size - (intOf n).toNat)
  case atStart => exact ⟨k, Nat.le_refl _, by omega, rfl, by unfold Hid; rw [HUU.out]; simp⟩
  case round =>
    obtain ⟨i, hki, hi, rfl, HI⟩ := hrel
    by_cases hgo : ∃ h : i < S.size, isDg S[i] = true
    · obtain ⟨hli, hdg⟩ := hgo
      have hdr : S.data.toList.drop i = S[i] :: S.data.toList.drop (i + 1) := List.drop_eq_getElem_cons (by simpa using hli)
      have hd2 : 48 ≤ (S[i].toNat : Int) ∧ (S[i].toNat : Int) ≤ 57 := by unfold isDg at hdg; simp at hdg; omega
      obtain ⟨hd2, hd3⟩ := hd2
      have HDR := Lib.hid hdr
      have HDG := Lib.hid hdg
      clear hdr hdg
      go_wp2_with fail
      go_round
      case rel => exact ⟨i + 1, by omega, by omega, by go_num, by unfold Hid; rw [HI.out, HDR.out]; unfold dgs; rw [List.takeWhile_cons, if_pos HDG.out]; simp; omega⟩
      case measure => simp [intOf]; omega
    · have hdn : dgs (S.data.toList.drop i) = [] := by
        unfold dgs
        rcases Nat.lt_or_ge i S.size with hh | hh
        · rw [List.drop_eq_getElem_cons (i := i) (by simpa using hh)]
          have : S.data.toList[i] = S[i] := rfl
          rw [this, List.takeWhile_cons, if_neg (fun e => hgo ⟨hh, e⟩)]
        · rw [List.drop_eq_nil_of_le (by simpa using hh)]; rfl
      have hlen : (dgs u).length = i - k := by rw [HI.out, hdn]; simp
      obtain ⟨T, hT⟩ : ∃ T, T = S.extract k i := ⟨_, rfl⟩
      have hTd : T.data.toList = dgs u := by
        rw [hT, show i = k + (i - k) by omega, extract_part, HUU.out, ← hlen]
        unfold dgs
        exact (List.prefix_iff_eq_take.1 (List.takeWhile_prefix isDg)).symm
      have hTz : T.size = i - k := by rw [size_list, hTd, hlen]
      have hend : ((∃ h : i < S.size, (S[i].toNat : Int) < 48) ∨ (∃ h : i < S.size, 48 ≤ (S[i].toNat : Int) ∧ 57 < (S[i].toNat : Int))) ∨ i = S.size := by
        rcases Nat.lt_or_ge i S.size with hh | hh
        · left
          have hd : ¬ isDg S[i] = true := fun e => hgo ⟨hh, e⟩
          unfold isDg at hd
          simp at hd
          by_cases h48 : (S[i].toNat : Int) < 48
          · exact .inl ⟨hh, h48⟩
          · exact .inr ⟨hh, by omega, by omega⟩
        · exact .inr (by omega)
      have HT := Lib.hid hT
      have HTD := Lib.hid hTd
      have HTZ := Lib.hid hTz
      clear hgo HI hdn hlen hT hTd hTz
      have hcs : ∃ h : 0 < T.size, T.toList.isEmpty = false ∧ T.size ≤ 4 ∧ (T.size ≤ 1 ∨ (1 < T.size ∧ ((T[0].toNat : Int) == 48) = false)) := by
        have hn := HN.out
        rw [← HTD.out] at hn
        cases hTl : T.data.toList with
        | nil => rw [hTl] at hn; cases hn
        | cons c r =>
          have he : T.toList.isEmpty = false := by rw [ByteArray.toList_eq, hTl]; rfl
          have hz := head_size hTl
          have hg := head_get hTl (by omega)
          rw [hTl] at hn
          simp only [okD, Bool.and_eq_true, Bool.not_eq_true', Bool.and_eq_false_iff, decide_eq_false_iff_not, decide_eq_true_eq, beq_eq_false_iff_ne] at hn
          refine ⟨by omega, he, by omega, ?_⟩
          by_cases h1 : T.size ≤ 1
          · exact .inl h1
          · right
            refine ⟨by omega, ?_⟩
            rw [beq_eq_false_iff_ne]
            intro e
            rcases hn.2 with h2 | h2
            · omega
            · apply h2
              apply UInt8.toNat_inj.1
              rw [← hg]
              have : T[0].toNat = 48 := by omega
              exact this
      have hdg : ∀ j (hj : j < T.size), 48 ≤ (T[j].toNat : Int) ∧ (T[j].toNat : Int) ≤ 57 := fun j hj => by
        have e1 : T[j] = T.data.toList[j]'(by simpa using hj) := rfl
        have : T[j] ∈ dgs u := by rw [← HTD.out, e1]; exact List.getElem_mem _
        have := List.all_eq_true.1 (List.all_takeWhile (l := u) (p := isDg)) _ this
        unfold isDg at this
        simp at this
        omega
      have HDG := Lib.hid hdg
      clear hdg
      obtain ⟨hT0, he0, hT4, hcs⟩ := hcs
      have hRf : RfB (w1.drewN 0) g S k := B
      rcases hend with (⟨hli, hd1⟩ | ⟨hli, hd1, hd2⟩) | hd1 <;> rcases hcs with hT1 | ⟨hT1, hT48⟩
      all_goals
        (try subst hd1)
        go_wp2_with fail
        go_quiet (fail)
        rw [← HT.out]
        generalize hwq : World.drewN w1 _ = wq
        have Bq : RfB wq g S k := by rw [← hwq]; exact B
        have Fq : Fr (some g) w wq := by rw [← hwq]; exact F1.drewN _
        clear hwq RC Z B hRf
        have RC := Bq.cell
        have Z := Bq.free
        go_wp2_with fail
        (try clear hT48)
        go_loop [6, 7] (fun s6 s7 => ∃ (j m : Nat), j ≤ T.size ∧ s7 = .int .i64 (j : Int) ∧ s6 = .int .i64 (m : Int) ∧ m < 10 ^ j ∧ Hid (m = numV 0 (T.data.toList.take j))) (fun _ s7 => T.size - (intOf s7).toNat)
        case atStart => exact ⟨0, 0, Nat.zero_le _, rfl, rfl, by decide, rfl⟩
        case round =>
          obtain ⟨j, m, hj, rfl, rfl, hm, HM⟩ := hrel
          by_cases hjl : j < T.size
          · obtain ⟨d1, d2⟩ := HDG.out j hjl
            have hm9 : m ≤ 999 := by
              have : 10 ^ j ≤ 10 ^ 3 := Nat.pow_le_pow_right (by omega) (by omega)
              omega
            have hmm : 10 * m + (T[j].toNat - 48) < 10 ^ (j + 1) := by rw [Nat.pow_succ]; omega
            have HMM := Lib.hid hmm
            have HM0 := Lib.hid hm
            clear hm hmm
            go_wp2_with fail
            go_round
            case rel =>
              refine ⟨j + 1, 10 * m + (T[j].toNat - 48), by omega, by go_num, by go_num, HMM.out, ?_⟩
              unfold Hid
              rw [List.take_succ_eq_append_getElem (by simpa using hjl), numV_snoc, ← HM.out]
              rfl
            case measure => simp [intOf]; omega
          · obtain rfl : j = T.size := by omega
            have HMV : Hid (m = numV 0 (dgs u)) := by unfold Hid; rw [HM.out, ← HTD.out, List.take_of_length_le (by simp)]
            clear hm HM
            go_wp2_with fail
            go_ret2
            refine ⟨by rw [← HMV.out] <;> rfl, ⟨_, Bq.set0 _, by omega, ?_⟩, Fq.same (Fr.set1 _ ⟨g, 1, none⟩ _)⟩
            have e1 := HTZ.out
            have e2 : T.size = (dgs u).length := by rw [size_list, HTD.out]
            rw [← HUU.out, List.drop_drop, HUU.out, ← e2]
            congr 2
            omega
end Go.Proofs.YtoblhcieidljjaaGreatDoor

/- Some texts of this claim, joined: contracts of the functions that it reaches, and plain laws. -/
import Derived.Test.YtoblhcieidljjaaGreatDoorProg
import Derived.Test.YtoblhcieidljjaaGreatDoorJDA3
import Derived.Test.YtoblhcieidljjaaGreatDoorJDA7
import Derived.Test.YtoblhcieidljjaaGreatDoorJDA6
import Derived.Lib.ConvBytes
import Derived.StillTailTactics
import Derived.Test.YtoblhcieidljjaaGreatDoorJDA9

set_option linter.unusedSimpArgs false
set_option linter.unusedVariables false
/- Walks: the reference's reader of layer 3: skip, sign, number. -/
namespace Go.Proofs.YtoblhcieidljjaaGreatDoor
open Go.RowKit

/-- The reader in block g: its text, its place. -/
def RfB (w : World) (g : Nat) (S : ByteArray) (k : Nat) : Prop := w.heap[g]? = some (.cells #[.string S, .int .i64 (k : Int)] 161 (0, 0))
theorem RfB.fr {w w' : World} {g : Nat} {S : ByteArray} {k : Nat} {r : Option Nat} (h : RfB w g S k) (f : Fr r w w') (hr : r ≠ some g) : RfB w' g S k := blk_fr h f hr
theorem RfB.cell {w : World} {g : Nat} {S : ByteArray} {k : Nat} (h : RfB w g S k) (i : Nat) : w.cell? ⟨g, i, none⟩ = (#[.string S, .int .i64 (k : Int)] : Array Value)[i]? := blk_cell h i
theorem RfB.free {w : World} {g : Nat} {S : ByteArray} {k : Nat} (h : RfB w g S k) (i : Nat) : w.frozen? ⟨g, i, none⟩ = false := blk_free h i
/-- The reader's place. -/
def atRf (w : World) (g : Nat) : Nat := match w.cell? ⟨g, 1, none⟩ with
  | some (.int _ i) => i.toNat
  | _ => 0
theorem RfB.atOf {w : World} {g : Nat} {S : ByteArray} {k : Nat} (h : RfB w g S k) : atRf w g = k := by
  unfold atRf
  rw [h.cell 1]
  simp
theorem RfB.set {w : World} {g : Nat} {S : ByteArray} {j : Nat} (h : RfB w g S j) (n q : Nat) : RfB ((w.drewN n).setCell ⟨g, 1, none⟩ (.int .i64 (q : Int))) g S q := by
  have := blk_set (i := 1) (u := .int .i64 (q : Int)) (show (w.drewN n).heap[g]? = some _ from h)
  simpa [RfB] using this
theorem RfB.bump {w : World} {g : Nat} {S : ByteArray} {j : Nat} (h : RfB w g S j) (n : Nat) : RfB ((w.drewN n).setCell ⟨g, 1, none⟩ (.int .i64 ((j : Int) + 1))) g S (j + 1) := by
  have := h.set n (j + 1)
  simpa using this
theorem RfB.set0 {w : World} {g : Nat} {S : ByteArray} {j : Nat} (h : RfB w g S j) (q : Nat) : RfB (w.setCell ⟨g, 1, none⟩ (.int .i64 (q : Int))) g S q := by
  have := blk_set (i := 1) (u := .int .i64 (q : Int)) (show w.heap[g]? = some _ from h)
  simpa [RfB] using this
/-- The reader stands before what is left, u, of its text S, but for blanks. -/
def RfK (w : World) (g : Nat) (S : ByteArray) (u : List UInt8) : Prop := ∃ k, RfB w g S k ∧ k ≤ S.size ∧ skp (S.data.toList.drop k) = u
theorem RfK.fr {w w' : World} {g : Nat} {S : ByteArray} {u : List UInt8} {r : Option Nat} (h : RfK w g S u) (f : Fr r w w') (hr : r ≠ some g) : RfK w' g S u := by
  obtain ⟨k, h1, h2⟩ := h
  exact ⟨k, h1.fr f hr, h2⟩
theorem RfK.lt {w : World} {g : Nat} {S : ByteArray} {u : List UInt8} (h : RfK w g S u) : g < w.heap.size := by
  obtain ⟨k, h1, h2⟩ := h
  exact blk_lt h1
theorem RfK.le {w : World} {g : Nat} {S : ByteArray} {u : List UInt8} (h : RfK w g S u) : u.length ≤ S.size := by
  obtain ⟨k, _, _, rfl⟩ := h
  have := skp_len (S.data.toList.drop k)
  rw [List.length_drop] at this
  rw [size_list]; omega
theorem RfK.left {w : World} {g : Nat} {S : ByteArray} {u : List UInt8} (h : RfK w g S u) : (skp (S.data.toList.drop (atRf w g))).length = u.length := by
  obtain ⟨k, h1, _, rfl⟩ := h
  rw [h1.atOf]
theorem skp_skp (u : List UInt8) : skp (skp u) = skp u := by
  unfold skp
  induction u with
  | nil => rfl
  | cons c r ih =>
    rw [List.dropWhile_cons]
    split
    · exact ih
    · rename_i h; rw [List.dropWhile_cons, if_neg h]
theorem RfK.skp_eq {w : World} {g : Nat} {S : ByteArray} {u : List UInt8} (h : RfK w g S u) : skp u = u := by
  obtain ⟨k, _, _, rfl⟩ := h
  exact skp_skp _

/-- The reader stands right before what is left. -/
def RfS (w : World) (g : Nat) (S : ByteArray) (u : List UInt8) : Prop := ∃ k, RfB w g S k ∧ k + u.length = S.size ∧ S.data.toList.drop k = u
theorem RfS.k {w : World} {g : Nat} {S : ByteArray} {u : List UInt8} (h : RfS w g S u) : RfK w g S (skp u) := by
  obtain ⟨k, h1, h2, rfl⟩ := h
  exact ⟨k, h1, by omega, rfl⟩
set_option maxRecDepth 100000 in
set_option maxHeartbeats 2000000 in
theorem rskip_any (g : Nat) (S : ByteArray) (u : List UInt8) (w : World) (h : RfK w g S u) (hS : S.size ≤ 6001) :
    Calls Tryz.prog 141 #[.pointer (some ⟨g, 0, none⟩)] w fun e w' => e = .returned (.tuple #[]) ∧ RfS w' g S u ∧ Fr (some g) w w' := by
  obtain ⟨q, b1, hk, hu⟩ := h
  have HU := Lib.hid hu
  clear hu
  go_enter Tryz.func141, Tryz.ntmps141
  go_wp2_with fail
  obtain ⟨wo, hwo⟩ : ∃ wo : World, wo = w := ⟨_, rfl⟩
  rw [← hwo]
  go_loopw [] (fun wr => ∃ j : Nat, j ≤ S.size ∧ RfB wr g S j ∧ Hid (skp (S.data.toList.drop j) = u) ∧ Fr (some g) w wr) (fun wr => S.size - atRf wr g)
  case atStart => exact ⟨q, hk, by rw [hwo]; exact b1, HU, by rw [hwo]; exact Fr.refl _ _⟩
  case round =>
    obtain ⟨j, hj, B, HJ, F⟩ := hrel
    have RC := B.cell
    have Z := B.free
    by_cases hgo : ∃ h : j < S.size, S[j] = 32
    · obtain ⟨hlt, hc⟩ := hgo
      have h32' : ((S[j].toNat : Int) == 32) = true := by rw [hc]; rfl
      have hd : decide ((j : Int) < S.size) = true := by simpa using hlt
      have HC := Lib.hid hc
      clear hc
      go_wp2_with fail
      go_quiet (fail)
      go_wp2_with fail
      go_roundw
      case rel =>
        refine ⟨j + 1, by omega, ?_, ?_, ?_⟩
        · exact B.bump _
        · unfold Hid
          rw [← HJ.out, List.drop_eq_getElem_cons (i := j) (by simpa using hlt)]
          rw [show S.data.toList[j] = (32 : UInt8) from HC.out]
          simp [skp]
        · exact F.same (Fr.setRow (p := ⟨g, 1, none⟩) ((Fr.refl _ _).drewN _) rfl _)
      case measure =>
        rw [(B.bump _).atOf, B.atOf]
        omega
    · have hc : j = S.size ∨ ∃ h : j < S.size, S[j] ≠ 32 := by
        rcases Nat.lt_or_ge j S.size with h | h
        · exact .inr ⟨h, fun e => hgo ⟨h, e⟩⟩
        · exact .inl (by omega)
      have hK : S.data.toList.drop j = u := by
        rw [← HJ.out]
        rcases hc with h | ⟨h, hne⟩
        · rw [List.drop_eq_nil_of_le (by rw [h]; simp)]; rfl
        · rw [List.drop_eq_getElem_cons (i := j) (by simpa using h)]
          have : S.data.toList[j] = S[j] := rfl
          rw [this]
          simp [skp, hne]
      have hul : j + u.length = S.size := by
        rw [← hK, List.length_drop, size_list] at *
        omega
      have HK := Lib.hid hK
      have HUL := Lib.hid hul
      clear hgo HJ hK hul
      rcases hc with hje | ⟨hlt, hne⟩
      · have hd : decide (j < S.size) = false := by simp; omega
        have hge : S.size ≤ j := by omega
        clear hje
        go_wp2_with fail
        go_quiet (fail)
        go_wp2_with fail
        go_end0
        exact ⟨rfl, ⟨j, B, HUL.out, HK.out⟩, F.drewN _⟩
      · have h32' : ((S[j].toNat : Int) == 32) = false := by
          rw [beq_eq_false_iff_ne]
          intro h
          apply hne
          apply UInt8.toNat_inj.1
          have : S[j].toNat = 32 := by omega
          exact this
        have hd : decide ((j : Int) < S.size) = true := by simpa using hlt
        clear hne
        go_wp2_with fail
        go_quiet (fail)
        go_wp2_with fail
        go_end0
        exact ⟨rfl, ⟨j, B, HUL.out, HK.out⟩, F.drewN _⟩

theorem extract_part (S : ByteArray) (k m : Nat) : (S.extract k (k + m)).data.toList = (S.data.toList.drop k).take m := by
  rw [Lib.extract_data]
  congr 1
  omega
set_option maxRecDepth 100000 in
set_option maxHeartbeats 2000000 in
theorem rsign_yes (g : Nat) (S P : ByteArray) (u : List UInt8) (w : World) (h : RfK w g S u) (hS : S.size ≤ 6001) (hp : u.take P.size = P.data.toList) (hm : P.size ≤ 6000) :
    Calls Tryz.prog 180 #[.pointer (some ⟨g, 0, none⟩), .string P] w fun e w' => e = .returned (.bool true) ∧ RfK w' g S (skp (u.drop P.size)) ∧ Fr (some g) w w' := by
  have hul : P.size ≤ u.length := by
    have := congrArg List.length hp
    rw [List.length_take, ← size_list] at this
    omega
  go_enter Tryz.func180, Tryz.ntmps180
  go_wp2_with fail
  refine (rskip_any g S u _ h hS).mono ?_
  rintro e w1 ⟨rfl, ⟨k, B, hk, hu⟩, F1⟩
  have RC := B.cell
  have Z := B.free
  have hks : k + P.size ≤ S.size := by omega
  have he : S.extract k (k + P.size) = P := by
    apply ByteArray.ext
    apply Array.toList_inj.1
    rw [extract_part, hu, hp]
  have HE := Lib.hid he
  have HUU := Lib.hid hu
  have heq : ((S.extract k (k + P.size)).toList == P.toList) = true := by rw [he]; simp
  have hd : decide ((S.size : Int) < (k : Int) + P.size) = false := by simp; omega
  clear he hu hp
  go_wp2_with fail
  go_quiet (fail)
  go_wp2_with fail
  go_ret
  refine ⟨rfl, ⟨k + P.size, ?_, hks, ?_⟩, (F1.drewN _).same (Fr.set1 _ ⟨g, 1, none⟩ _)⟩
  · have := B.set
    simpa using B.set _ (k + P.size)
  · rw [← HUU.out, List.drop_drop]
set_option maxRecDepth 100000 in
set_option maxHeartbeats 2000000 in
theorem rsign_no (g : Nat) (S P : ByteArray) (u : List UInt8) (w : World) (h : RfK w g S u) (hS : S.size ≤ 6001) (hp : u.take P.size ≠ P.data.toList) (hm : P.size ≤ 6000) :
    Calls Tryz.prog 180 #[.pointer (some ⟨g, 0, none⟩), .string P] w fun e w' => e = .returned (.bool false) ∧ RfK w' g S u ∧ Fr (some g) w w' := by
  have hsk := h.skp_eq
  have HSK := Lib.hid hsk
  clear hsk
  go_enter Tryz.func180, Tryz.ntmps180
  go_wp2_with fail
  refine (rskip_any g S u _ h hS).mono ?_
  rintro e w1 ⟨rfl, ⟨k, B, hk, hu⟩, F1⟩
  have RC := B.cell
  have Z := B.free
  by_cases hks : k + P.size ≤ S.size
  · have heq : ((S.extract k (k + P.size)).toList == P.toList) = false := by
      rw [ByteArray.toList_eq, ByteArray.toList_eq, beq_eq_false_iff_ne, extract_part, hu]
      exact hp
    have HUU := Lib.hid hu
    have hd : decide ((S.size : Int) < (k : Int) + P.size) = false := by simp; omega
    clear hu hp
    go_wp2_with fail
    go_quiet (fail)
    go_wp2_with fail
    go_ret
    exact ⟨rfl, ⟨k, B, by omega, by rw [HUU.out]; exact HSK.out⟩, F1.drewN _⟩
  · have hd : decide ((S.size : Int) < (k : Int) + P.size) = true := by simp; omega
    have HUU := Lib.hid hu
    clear hu hp
    go_wp2_with fail
    go_quiet (fail)
    go_wp2_with fail
    go_ret
    exact ⟨rfl, ⟨k, B, by omega, by rw [HUU.out]; exact HSK.out⟩, F1.drewN _⟩
end Go.Proofs.YtoblhcieidljjaaGreatDoor

/- Walks: the reference's reader of layer 3: number. -/
namespace Go.Proofs.YtoblhcieidljjaaGreatDoor
open Go.RowKit

set_option maxRecDepth 100000 in
set_option maxHeartbeats 4000000 in
theorem rnum_no (g : Nat) (S : ByteArray) (u : List UInt8) (w : World) (h : RfK w g S u) (hS : S.size ≤ 6001) (hn : okD (dgs u) = false) :
    Calls Tryz.prog 139 #[.pointer (some ⟨g, 0, none⟩)] w fun e w' => e = .returned (.tuple #[.int .i64 0, .bool false]) ∧ RfK w' g S u ∧ Fr (some g) w w' := by
  have HN := Lib.hid hn
  clear hn
  have hsk := h.skp_eq
  have HSK := Lib.hid hsk
  go_enter Tryz.func139, Tryz.ntmps139
  go_wp2_with fail
  refine (rskip_any g S u _ h hS).mono ?_
  rintro e w1 ⟨rfl, ⟨k, B, hk, hu⟩, F1⟩
  have RC := B.cell
  have Z := B.free
  have HUU := Lib.hid hu
  clear hu hsk
  go_wp2_with fail
  go_loop [4] (fun n => ∃ i : Nat, k ≤ i ∧ i ≤ S.size ∧ n = .int .i64 i ∧ Hid ((dgs u).length = (i - k) + (dgs (S.data.toList.drop i)).length)) (fun n => S.size - (intOf n).toNat)
  case atStart => exact ⟨k, Nat.le_refl _, by omega, rfl, by unfold Hid; rw [HUU.out]; simp⟩
  case round =>
    obtain ⟨i, hki, hi, rfl, HI⟩ := hrel
    by_cases hgo : ∃ h : i < S.size, isDg S[i] = true
    · obtain ⟨hli, hdg⟩ := hgo
      have hdr : S.data.toList.drop i = S[i] :: S.data.toList.drop (i + 1) := List.drop_eq_getElem_cons (by simpa using hli)
      have hd2 : 48 ≤ (S[i].toNat : Int) ∧ (S[i].toNat : Int) ≤ 57 := by unfold isDg at hdg; simp at hdg; omega
      obtain ⟨hd2, hd3⟩ := hd2
      have HDR := Lib.hid hdr
      have HDG := Lib.hid hdg
      clear hdr hdg
      go_wp2_with fail
      go_round
      case rel => exact ⟨i + 1, by omega, by omega, by go_num, by unfold Hid; rw [HI.out, HDR.out]; unfold dgs; rw [List.takeWhile_cons, if_pos HDG.out]; simp; omega⟩
      case measure => simp [intOf]; omega
    · have hdn : dgs (S.data.toList.drop i) = [] := by
        unfold dgs
        rcases Nat.lt_or_ge i S.size with hh | hh
        · rw [List.drop_eq_getElem_cons (i := i) (by simpa using hh)]
          have : S.data.toList[i] = S[i] := rfl
          rw [this, List.takeWhile_cons, if_neg (fun e => hgo ⟨hh, e⟩)]
        · rw [List.drop_eq_nil_of_le (by simpa using hh)]; rfl
      have hlen : (dgs u).length = i - k := by rw [HI.out, hdn]; simp
      obtain ⟨T, hT⟩ : ∃ T, T = S.extract k i := ⟨_, rfl⟩
      have hTd : T.data.toList = dgs u := by
        rw [hT, show i = k + (i - k) by omega, extract_part, HUU.out, ← hlen]
        unfold dgs
        exact (List.prefix_iff_eq_take.1 (List.takeWhile_prefix isDg)).symm
      have hTz : T.size = i - k := by rw [size_list, hTd, hlen]
      have hend : ((∃ h : i < S.size, (S[i].toNat : Int) < 48) ∨ (∃ h : i < S.size, 48 ≤ (S[i].toNat : Int) ∧ 57 < (S[i].toNat : Int))) ∨ i = S.size := by
        rcases Nat.lt_or_ge i S.size with hh | hh
        · left
          have hd : ¬ isDg S[i] = true := fun e => hgo ⟨hh, e⟩
          unfold isDg at hd
          simp at hd
          by_cases h48 : (S[i].toNat : Int) < 48
          · exact .inl ⟨hh, h48⟩
          · exact .inr ⟨hh, by omega, by omega⟩
        · exact .inr (by omega)
      have HT := Lib.hid hT
      have HTD := Lib.hid hTd
      have HTZ := Lib.hid hTz
      clear hgo HI hdn hlen hT hTd hTz
      have hcs : T.toList.isEmpty = true ∨ (T.toList.isEmpty = false ∧ 4 < T.size) ∨ (∃ h : 0 < T.size, T.toList.isEmpty = false ∧ T.size ≤ 4 ∧ 1 < T.size ∧ ((T[0].toNat : Int) == 48) = true) := by
        have hn := HN.out
        rw [← HTD.out] at hn
        cases hTl : T.data.toList with
        | nil => exact .inl (by rw [ByteArray.toList_eq, hTl]; rfl)
        | cons c r =>
          right
          have he : T.toList.isEmpty = false := by rw [ByteArray.toList_eq, hTl]; rfl
          have hz := head_size hTl
          have hg := head_get hTl (by omega)
          rw [hTl] at hn
          simp only [okD, Bool.and_eq_false_iff, Bool.not_eq_false', Bool.and_eq_true, decide_eq_false_iff_not, decide_eq_true_eq, beq_iff_eq] at hn
          by_cases h4 : 4 < T.size
          · exact .inl ⟨he, h4⟩
          · right
            rcases hn with hn | hn
            · omega
            · exact ⟨by omega, he, by omega, by omega, by rw [hg, hn.2]; rfl⟩
      rcases hend with (⟨hli, hd1⟩ | ⟨hli, hd1, hd2⟩) | hd1 <;> rcases hcs with he0 | ⟨he0, hT4⟩ | ⟨hT0, he0, hT4, hT1, hT48⟩
      all_goals
        (try subst hd1)
        go_wp2_with fail
        go_quiet (fail)
        rw [← HT.out]
        go_wp2_with fail
        go_ret2
        exact ⟨rfl, ⟨k, B, by omega, by rw [HUU.out]; exact HSK.out⟩, F1.drewN _⟩
theorem numV_snoc (a : Nat) (l : List UInt8) (c : UInt8) : numV a (l ++ [c]) = 10 * numV a l + (c.toNat - 48) := by
  unfold numV
  rw [List.foldl_append]
  rfl
set_option maxRecDepth 100000 in
set_option maxHeartbeats 4000000 in
theorem rnum_yes (g : Nat) (S : ByteArray) (u : List UInt8) (w : World) (h : RfK w g S u) (hS : S.size ≤ 6001) (hn : okD (dgs u) = true) :
    Calls Tryz.prog 139 #[.pointer (some ⟨g, 0, none⟩)] w fun e w' => e = .returned (.tuple #[.int .i64 (numV 0 (dgs u) : Nat), .bool true]) ∧ RfK w' g S (skp (u.drop (dgs u).length)) ∧ Fr (some g) w w' := by
  have HN := Lib.hid hn
  clear hn
  have hsk := h.skp_eq
  have HSK := Lib.hid hsk
  go_enter Tryz.func139, Tryz.ntmps139
  go_wp2_with fail
  refine (rskip_any g S u _ h hS).mono ?_
  rintro e w1 ⟨rfl, ⟨k, B, hk, hu⟩, F1⟩
  have RC := B.cell
  have Z := B.free
  have HUU := Lib.hid hu
  clear hu hsk
  go_wp2_with fail
  go_loop [4] (fun n => ∃ i : Nat, k ≤ i ∧ i ≤ S.size ∧ n = .int .i64 i ∧ Hid ((dgs u).length = (i - k) + (dgs (S.data.toList.drop i)).length)) (fun n => S.size - (intOf n).toNat)
  case atStart => exact ⟨k, Nat.le_refl _, by omega, rfl, by unfold Hid; rw [HUU.out]; simp⟩
  case round =>
    obtain ⟨i, hki, hi, rfl, HI⟩ := hrel
    by_cases hgo : ∃ h : i < S.size, isDg S[i] = true
    · obtain ⟨hli, hdg⟩ := hgo
      have hdr : S.data.toList.drop i = S[i] :: S.data.toList.drop (i + 1) := List.drop_eq_getElem_cons (by simpa using hli)
      have hd2 : 48 ≤ (S[i].toNat : Int) ∧ (S[i].toNat : Int) ≤ 57 := by unfold isDg at hdg; simp at hdg; omega
      obtain ⟨hd2, hd3⟩ := hd2
      have HDR := Lib.hid hdr
      have HDG := Lib.hid hdg
      clear hdr hdg
      go_wp2_with fail
      go_round
      case rel => exact ⟨i + 1, by omega, by omega, by go_num, by unfold Hid; rw [HI.out, HDR.out]; unfold dgs; rw [List.takeWhile_cons, if_pos HDG.out]; simp; omega⟩
      case measure => simp [intOf]; omega
    · have hdn : dgs (S.data.toList.drop i) = [] := by
        unfold dgs
        rcases Nat.lt_or_ge i S.size with hh | hh
        · rw [List.drop_eq_getElem_cons (i := i) (by simpa using hh)]
          have : S.data.toList[i] = S[i] := rfl
          rw [this, List.takeWhile_cons, if_neg (fun e => hgo ⟨hh, e⟩)]
        · rw [List.drop_eq_nil_of_le (by simpa using hh)]; rfl
      have hlen : (dgs u).length = i - k := by rw [HI.out, hdn]; simp
      obtain ⟨T, hT⟩ : ∃ T, T = S.extract k i := ⟨_, rfl⟩
      have hTd : T.data.toList = dgs u := by
        rw [hT, show i = k + (i - k) by omega, extract_part, HUU.out, ← hlen]
        unfold dgs
        exact (List.prefix_iff_eq_take.1 (List.takeWhile_prefix isDg)).symm
      have hTz : T.size = i - k := by rw [size_list, hTd, hlen]
      have hend : ((∃ h : i < S.size, (S[i].toNat : Int) < 48) ∨ (∃ h : i < S.size, 48 ≤ (S[i].toNat : Int) ∧ 57 < (S[i].toNat : Int))) ∨ i = S.size := by
        rcases Nat.lt_or_ge i S.size with hh | hh
        · left
          have hd : ¬ isDg S[i] = true := fun e => hgo ⟨hh, e⟩
          unfold isDg at hd
          simp at hd
          by_cases h48 : (S[i].toNat : Int) < 48
          · exact .inl ⟨hh, h48⟩
          · exact .inr ⟨hh, by omega, by omega⟩
        · exact .inr (by omega)
      have HT := Lib.hid hT
      have HTD := Lib.hid hTd
      have HTZ := Lib.hid hTz
      clear hgo HI hdn hlen hT hTd hTz
      have hcs : ∃ h : 0 < T.size, T.toList.isEmpty = false ∧ T.size ≤ 4 ∧ (T.size ≤ 1 ∨ (1 < T.size ∧ ((T[0].toNat : Int) == 48) = false)) := by
        have hn := HN.out
        rw [← HTD.out] at hn
        cases hTl : T.data.toList with
        | nil => rw [hTl] at hn; cases hn
        | cons c r =>
          have he : T.toList.isEmpty = false := by rw [ByteArray.toList_eq, hTl]; rfl
          have hz := head_size hTl
          have hg := head_get hTl (by omega)
          rw [hTl] at hn
          simp only [okD, Bool.and_eq_true, Bool.not_eq_true', Bool.and_eq_false_iff, decide_eq_false_iff_not, decide_eq_true_eq, beq_eq_false_iff_ne] at hn
          refine ⟨by omega, he, by omega, ?_⟩
          by_cases h1 : T.size ≤ 1
          · exact .inl h1
          · right
            refine ⟨by omega, ?_⟩
            rw [beq_eq_false_iff_ne]
            intro e
            rcases hn.2 with h2 | h2
            · omega
            · apply h2
              apply UInt8.toNat_inj.1
              rw [← hg]
              have : T[0].toNat = 48 := by omega
              exact this
      have hdg : ∀ j (hj : j < T.size), 48 ≤ (T[j].toNat : Int) ∧ (T[j].toNat : Int) ≤ 57 := fun j hj => by
        have e1 : T[j] = T.data.toList[j]'(by simpa using hj) := rfl
        have : T[j] ∈ dgs u := by rw [← HTD.out, e1]; exact List.getElem_mem _
        have := List.all_eq_true.1 (List.all_takeWhile (l := u) (p := isDg)) _ this
        unfold isDg at this
        simp at this
        omega
      have HDG := Lib.hid hdg
      clear hdg
      obtain ⟨hT0, he0, hT4, hcs⟩ := hcs
      have hRf : RfB (w1.drewN 0) g S k := B
      rcases hend with (⟨hli, hd1⟩ | ⟨hli, hd1, hd2⟩) | hd1 <;> rcases hcs with hT1 | ⟨hT1, hT48⟩
      all_goals
        (try subst hd1)
        go_wp2_with fail
        go_quiet (fail)
        rw [← HT.out]
        generalize hwq : World.drewN w1 _ = wq
        have Bq : RfB wq g S k := by rw [← hwq]; exact B
        have Fq : Fr (some g) w wq := by rw [← hwq]; exact F1.drewN _
        clear hwq RC Z B hRf
        have RC := Bq.cell
        have Z := Bq.free
        go_wp2_with fail
        (try clear hT48)
        go_loop [6, 7] (fun s6 s7 => ∃ (j m : Nat), j ≤ T.size ∧ s7 = .int .i64 (j : Int) ∧ s6 = .int .i64 (m : Int) ∧ m < 10 ^ j ∧ Hid (m = numV 0 (T.data.toList.take j))) (fun _ s7 => T.size - (intOf s7).toNat)
        case atStart => exact ⟨0, 0, Nat.zero_le _, rfl, rfl, by decide, rfl⟩
        case round =>
          obtain ⟨j, m, hj, rfl, rfl, hm, HM⟩ := hrel
          by_cases hjl : j < T.size
          · obtain ⟨d1, d2⟩ := HDG.out j hjl
            have hm9 : m ≤ 999 := by
              have : 10 ^ j ≤ 10 ^ 3 := Nat.pow_le_pow_right (by omega) (by omega)
              omega
            have hmm : 10 * m + (T[j].toNat - 48) < 10 ^ (j + 1) := by rw [Nat.pow_succ]; omega
            have HMM := Lib.hid hmm
            have HM0 := Lib.hid hm
            clear hm hmm
            go_wp2_with fail
            go_round
            case rel =>
              refine ⟨j + 1, 10 * m + (T[j].toNat - 48), by omega, by go_num, by go_num, HMM.out, ?_⟩
              unfold Hid
              rw [List.take_succ_eq_append_getElem (by simpa using hjl), numV_snoc, ← HM.out]
              rfl
            case measure => simp [intOf]; omega
          · obtain rfl : j = T.size := by omega
            have HMV : Hid (m = numV 0 (dgs u)) := by unfold Hid; rw [HM.out, ← HTD.out, List.take_of_length_le (by simp)]
            clear hm HM
            go_wp2_with fail
            go_ret2
            refine ⟨by rw [← HMV.out] <;> rfl, ⟨_, Bq.set0 _, by omega, ?_⟩, Fq.same (Fr.set1 _ ⟨g, 1, none⟩ _)⟩
            have e1 := HTZ.out
            have e2 : T.size = (dgs u).length := by rw [size_list, HTD.out]
            rw [← HUU.out, List.drop_drop, HUU.out, ← e2]
            congr 2
            omega
end Go.Proofs.YtoblhcieidljjaaGreatDoor

/- Walks: the reference's reader of layer 3: rest. What holds between its statements. -/
namespace Go.Proofs.YtoblhcieidljjaaGreatDoor
open Go.RowKit

/-- Between two entries: what has been read of a trust's nodes and inner trusts; the reader stands before v. -/
def LoopF (w : World) (g : Nat) (S : ByteArray) (n : Nat) (nodes : List Int) (inner : List Tr) (v : List UInt8) (A1 : Option Addr) (c1 : Nat) (A2 : Option Addr) (c2 : Nat) (cells : List Value) (wr : World) : Prop :=
  Fr (some g) w wr ∧ w.heap.size + 2 ≤ wr.heap.size ∧ RfK wr g S v ∧ TB wr w.heap.size (.int .i64 0) (.slice none 0 0) (.slice none 0 0) ∧
  TB wr (w.heap.size + 1) (.int .i64 (n : Int)) (.slice A1 nodes.length c1) (.slice A2 inner.length c2) ∧
  wr.ownsRow (w.heap.size + 2) 3 1 (.slice A1 nodes.length c1) nodes.length (nodes.map (Value.int .i64)) ∧
  wr.ownsRow (w.heap.size + 2) 31 3 (.slice A2 inner.length c2) inner.length cells ∧ TrsD wr (D2 (w.heap.size + 2) wr (.slice A1 nodes.length c1) (.slice A2 inner.length c2)) cells inner ∧
  Apart (.slice A1 nodes.length c1) (.slice A2 inner.length c2) ∧ (∀ x ∈ nodes, 0 ≤ x ∧ x ≤ 9999) ∧ nodes.length + inner.length + v.length ≤ 6001

theorem LoopF.move {w : World} {g : Nat} {S : ByteArray} {n : Nat} {nodes : List Int} {inner : List Tr} {v v' : List UInt8} {A1 : Option Addr} {c1 : Nat} {A2 : Option Addr} {c2 : Nat} {cells : List Value} {wr w' : World}
    (h : LoopF w g S n nodes inner v A1 c1 A2 c2 cells wr) (hg : g < w.heap.size) (R : RfK w' g S v') (F : Fr (some g) wr w') (hv : v'.length ≤ v.length) : LoopF w g S n nodes inner v' A1 c1 A2 c2 cells w' := by
  obtain ⟨h1, h2, h3, h4, h5, h6, h7, h8, h9, h10, h11⟩ := h
  have hz := F.size
  exact ⟨h1.same F, by omega, R, h4.fr F (by simp; omega), h5.fr F (by simp; omega), own_fr h6 F (by simp; omega), own_fr h7 F (by simp; omega), TrsD.keep (d2_fr F (by simp; omega)) _ _ h8, h9, h10, by omega⟩
theorem LoopF.node {w : World} {g : Nat} {S : ByteArray} {n : Nat} {nodes : List Int} {inner : List Tr} {v : List UInt8} {A1 : Option Addr} {c1 : Nat} {A2 : Option Addr} {c2 : Nat} {cells : List Value} {wr w' : World} {k : Nat} {A' : Option Addr} {c' : Nat}
    (h : LoopF w g S n nodes inner v A1 c1 A2 c2 cells wr) (hg : g < w.heap.size) (hk : k ≤ 9999) (own : w'.ownsRow (w.heap.size + 2) 3 1 (.slice A' (nodes.length + 1) c') (nodes.length + 1) (nodes.map (Value.int .i64) ++ [.int .i64 (k : Int)]))
    (F : Fr (Value.slice A1 nodes.length c1).ownBlock wr w') (nb : NewOr wr.heap.size (.slice A1 nodes.length c1) (.slice A' (nodes.length + 1) c')) (hl : nodes.length + 1 + inner.length + v.length ≤ 6001) :
    LoopF w g S n (nodes ++ [(k : Int)]) inner v A' c' A2 c2 cells (w'.setCell ⟨w.heap.size + 1, 1, none⟩ (.slice A' (nodes.length + 1) c')) := by
  obtain ⟨h1, h2, h3, h4, h5, h6, h7, h8, h9, h10, h11⟩ := h
  have hz := F.size
  have G := Fr.set1 w' ⟨w.heap.size + 1, 1, none⟩ (.slice A' (nodes.length + 1) c')
  have hzG := G.size
  have og := own_blk_ge h6
  have hl' : (nodes ++ [(k : Int)]).length = nodes.length + 1 := by simp
  refine ⟨(h1.own F (fun q e => by have := og q e; omega)).own G (by simp), by omega, (h3.fr F (own_ne h6 (by omega))).fr G (by simp; omega), (h4.fr F (own_ne h6 (by omega))).fr G (by simp), ?_, ?_, ?_, ?_, ?_, ?_, ?_⟩
  · rw [hl']; exact (h5.fr F (own_ne h6 (by omega))).set1 _
  · rw [hl', List.map_append]; exact own_fr own G (by simp)
  · exact own_fr (own_other h7 F h9.symm) G (by simp)
  · rw [hl']; exact TrsD.keep (d2_fr G (by simp)) _ _ (TrsD.keep (d2_app F nb) _ _ h8)
  · rw [hl']; exact h9.app (H := wr.heap.size) (fun b hb => (h7.lt b hb).2) nb
  · intro x hx
    rcases List.mem_append.1 hx with hx | hx
    · exact h10 x hx
    · simp at hx; omega
  · rw [hl']; exact hl
theorem LoopF.inner_ {w : World} {g : Nat} {S : ByteArray} {n : Nat} {nodes : List Int} {inner : List Tr} {v : List UInt8} {A1 : Option Addr} {c1 : Nat} {A2 : Option Addr} {c2 : Nat} {cells : List Value} {wr w' : World} {t : Tr} {B' : Nat} {th : Int} {a1 : Option Addr} {n1 e1 : Nat} {a2 : Option Addr} {n2 e2 : Nat} {A' : Option Addr} {c' : Nat}
    (h : LoopF w g S n nodes inner v A1 c1 A2 c2 cells wr) (hg : g < w.heap.size) (hB : w.heap.size + 2 ≤ B') (hT : TrD wr (Dn B' wr) (.agg #[.int .i64 th, .slice a1 n1 e1, .slice a2 n2 e2]) t) (hv1 : ∀ b, (Value.slice A1 nodes.length c1).ownBlock = some b → b < B') (hv2 : ∀ b, (Value.slice A2 inner.length c2).ownBlock = some b → b < B')
    (own : w'.ownsRow (w.heap.size + 2) 31 3 (.slice A' (inner.length + 1) c') (inner.length + 1) (cells ++ [.int .i64 th, .slice a1 n1 e1, .slice a2 n2 e2]))
    (F : Fr (Value.slice A2 inner.length c2).ownBlock wr w') (nb : NewOr wr.heap.size (.slice A2 inner.length c2) (.slice A' (inner.length + 1) c')) (hl : nodes.length + inner.length + 1 + v.length ≤ 6001) :
    LoopF w g S n nodes (inner ++ [t]) v A1 c1 A' c' (cells ++ [.int .i64 th, .slice a1 n1 e1, .slice a2 n2 e2]) (w'.setCell ⟨w.heap.size + 1, 2, none⟩ (.slice A' (inner.length + 1) c')) := by
  obtain ⟨h1, h2, h3, h4, h5, h6, h7, h8, h9, h10, h11⟩ := h
  have hz := F.size
  have G := Fr.set1 w' ⟨w.heap.size + 1, 2, none⟩ (.slice A' (inner.length + 1) c')
  have hzG := G.size
  have og := own_blk_ge h7
  have hl' : (inner ++ [t]).length = inner.length + 1 := by simp
  refine ⟨(h1.own F (fun q e => by have := og q e; omega)).own G (by simp), by omega, (h3.fr F (own_ne h7 (by omega))).fr G (by simp; omega), (h4.fr F (own_ne h7 (by omega))).fr G (by simp), ?_, ?_, ?_, ?_, ?_, h10, ?_⟩
  · rw [hl']; exact (h5.fr F (own_ne h7 (by omega))).set2 _
  · exact own_fr (own_other h6 F h9) G (by simp)
  · rw [hl']; exact own_fr own G (by simp)
  · rw [hl']
    exact TrsD.append (TrsD.keep (d2_fr G (by simp)) _ _ (TrsD.keep (d2_app' F nb) _ _ h8))
      (by simp only [TrsD]; exact ⟨_, _, _, [], rfl, TrD.keep (d2_fr G (by simp)) _ _ (TrD.keep (d2_app' F nb) _ _ (TrD.keep (dn_d2 hB hv1 hv2) _ _ hT)), rfl⟩)
  · rw [hl']; exact (h9.symm.app (H := wr.heap.size) (fun b hb => (h6.lt b hb).2) nb).symm
  · rw [hl']; omega
/-- What stands in the trust's block, written into the result's, is the trust. -/
theorem LoopF.done {w : World} {g : Nat} {S : ByteArray} {n : Nat} {nodes : List Int} {inner : List Tr} {v : List UInt8} {A1 : Option Addr} {c1 : Nat} {A2 : Option Addr} {c2 : Nat} {cells : List Value} {wr w' : World}
    (h : LoopF w g S n nodes inner v A1 c1 A2 c2 cells wr) (hn : n ≤ 9999) (F : Fr (some w.heap.size) wr w') : TrD w' (Dn w.heap.size w') (.agg #[.int .i64 (n : Int), .slice A1 nodes.length c1, .slice A2 inner.length c2]) (.mk n nodes inner) := by
  obtain ⟨h1, h2, h3, h4, h5, h6, h7, h8, h9, h10, h11⟩ := h
  have hk : ∀ k, Dn (w.heap.size + 2) wr k → Dn w.heap.size w' k ∧ w'.heap[k]? = wr.heap[k]? := fun k hk => by
    obtain ⟨k0, e0⟩ := dn_fr (B := w.heap.size + 2) F (by simp) k hk
    exact ⟨⟨by have := k0.1; omega, k0.2⟩, e0⟩
  exact TrD.mk_ (by constructor <;> omega) ((SlD.own_dn h6).keep hk) (fun x hx => by have := h10 x hx; constructor <;> omega) ((SlD.own_dn h7).keep hk) (by omega) (by omega) (TrsD.keep hk _ _ (TrsD.keep d2_dn _ _ h8))
/-- What rest leaves. -/
def RestF (p : Option Tr × List UInt8) (w : World) (g : Nat) (S : ByteArray) (e : Ending) (w' : World) : Prop :=
  ∃ (th : Int) (A1 : Option Addr) (n1 c1 : Nat) (A2 : Option Addr) (n2 c2 : Nat) (b : Bool), e = .returned (.tuple #[.agg #[.int .i64 th, .slice A1 n1 c1, .slice A2 n2 c2], .bool b]) ∧ b = p.1.isSome ∧ RfK w' g S p.2 ∧ Fr (some g) w w' ∧
    ∀ t, p.1 = some t → TrD w' (Dn w.heap.size w') (.agg #[.int .i64 th, .slice A1 n1 c1, .slice A2 n2 c2]) t
theorem LoopF.no {w : World} {g : Nat} {S : ByteArray} {n : Nat} {nodes : List Int} {inner : List Tr} {v : List UInt8} {A1 : Option Addr} {c1 : Nat} {A2 : Option Addr} {c2 : Nat} {cells : List Value} {wr : World}
    (h : LoopF w g S n nodes inner v A1 c1 A2 c2 cells wr) (hg : g < w.heap.size) : RestF (none, v) w g S (.returned (.tuple #[.agg #[.int .i64 (n : Int), .slice A1 nodes.length c1, .slice A2 inner.length c2], .bool false]))
      (((wr.setCell ⟨w.heap.size, 0, none⟩ (.int .i64 (n : Int))).setCell ⟨w.heap.size, 1, none⟩ (.slice A1 nodes.length c1)).setCell ⟨w.heap.size, 2, none⟩ (.slice A2 inner.length c2)) := by
  have F := fr_fill3 wr w.heap.size (.int .i64 (n : Int)) (.slice A1 nodes.length c1) (.slice A2 inner.length c2)
  exact ⟨_, _, _, _, _, _, _, _, rfl, rfl, h.2.2.1.fr F (by simp; omega), h.1.own F (by simp), fun t ht => by cases ht⟩
theorem LoopF.yes {w : World} {g : Nat} {S : ByteArray} {n : Nat} {nodes : List Int} {inner : List Tr} {v : List UInt8} {A1 : Option Addr} {c1 : Nat} {A2 : Option Addr} {c2 : Nat} {cells : List Value} {wr : World}
    (h : LoopF w g S n nodes inner v A1 c1 A2 c2 cells wr) (hg : g < w.heap.size) (hn : n ≤ 9999) : RestF (some (.mk n nodes inner), v) w g S (.returned (.tuple #[.agg #[.int .i64 (n : Int), .slice A1 nodes.length c1, .slice A2 inner.length c2], .bool true]))
      (((wr.setCell ⟨w.heap.size, 0, none⟩ (.int .i64 (n : Int))).setCell ⟨w.heap.size, 1, none⟩ (.slice A1 nodes.length c1)).setCell ⟨w.heap.size, 2, none⟩ (.slice A2 inner.length c2)) := by
  have F := fr_fill3 wr w.heap.size (.int .i64 (n : Int)) (.slice A1 nodes.length c1) (.slice A2 inner.length c2)
  exact ⟨_, _, _, _, _, _, _, _, rfl, rfl, h.2.2.1.fr F (by simp; omega), h.1.own F (by simp), fun t ht => by injection ht with ht; subst ht; exact h.done hn F⟩

end Go.Proofs.YtoblhcieidljjaaGreatDoor

/- Walks: the reference's reader of layer 3: rest. -/
namespace Go.Proofs.YtoblhcieidljjaaGreatDoor
open Go.RowKit

theorem tok_signs {P : ByteArray} (h : P = ⟨#[111, 102]⟩ ∨ P = ⟨#[40]⟩ ∨ P = ⟨#[41]⟩ ∨ P = ⟨#[44]⟩) (u : List UInt8) : (tok u = P.data.toList ↔ u.take P.size = P.data.toList) ∧ (tok u = P.data.toList → tokN u = P.size) ∧ P.size ≤ 6000 := by
  have hs : tok u = P.data.toList → tokN u = P.size := fun e => by rw [← tok_len, e, size_list]
  rcases h with rfl | rfl | rfl | rfl
  · exact ⟨tok_isof u, hs, by decide⟩
  · exact ⟨tok_isc (.inl rfl) u, hs, by decide⟩
  · exact ⟨tok_isc (.inr (.inl rfl)) u, hs, by decide⟩
  · exact ⟨tok_isc (.inr (.inr rfl)) u, hs, by decide⟩
theorem rtake_yes (g : Nat) (S P : ByteArray) (u : List UInt8) (w : World) (h : RfK w g S u) (hS : S.size ≤ 6001) (hp : tok u = P.data.toList) (hP : P = ⟨#[111, 102]⟩ ∨ P = ⟨#[40]⟩ ∨ P = ⟨#[41]⟩ ∨ P = ⟨#[44]⟩) :
    Calls Tryz.prog 180 #[.pointer (some ⟨g, 0, none⟩), .string P] w fun e w' => e = .returned (.bool true) ∧ RfK w' g S (nxt u) ∧ Fr (some g) w w' := by
  obtain ⟨h1, h2, h3⟩ := tok_signs hP u
  have := rsign_yes g S P u w h hS (h1.1 hp) h3
  rw [← h2 hp] at this
  exact this
theorem rtake_no (g : Nat) (S P : ByteArray) (u : List UInt8) (w : World) (h : RfK w g S u) (hS : S.size ≤ 6001) (hp : tok u ≠ P.data.toList) (hP : P = ⟨#[111, 102]⟩ ∨ P = ⟨#[40]⟩ ∨ P = ⟨#[41]⟩ ∨ P = ⟨#[44]⟩) :
    Calls Tryz.prog 180 #[.pointer (some ⟨g, 0, none⟩), .string P] w fun e w' => e = .returned (.bool false) ∧ RfK w' g S u ∧ Fr (some g) w w' := by
  obtain ⟨h1, h2, h3⟩ := tok_signs hP u
  exact rsign_no g S P u w h hS (fun e => hp (h1.2 e)) h3
theorem rnumber_no (g : Nat) (S : ByteArray) (u : List UInt8) (w : World) (h : RfK w g S u) (hS : S.size ≤ 6001) (hn : numP u = none) :
    Calls Tryz.prog 139 #[.pointer (some ⟨g, 0, none⟩)] w fun e w' => e = .returned (.tuple #[.int .i64 0, .bool false]) ∧ RfK w' g S u ∧ Fr (some g) w w' := by
  refine rnum_no g S u w h hS ?_
  have := (numP_dgs u).1
  rw [hn] at this
  cases hc : okD (dgs u)
  · rfl
  · rw [hc] at this; cases this
theorem rnumber_yes (g : Nat) (S : ByteArray) (u : List UInt8) (n : Nat) (w : World) (h : RfK w g S u) (hS : S.size ≤ 6001) (hn : numP u = some n) :
    Calls Tryz.prog 139 #[.pointer (some ⟨g, 0, none⟩)] w fun e w' => e = .returned (.tuple #[.int .i64 (n : Int), .bool true]) ∧ RfK w' g S (nxt u) ∧ Fr (some g) w w' := by
  obtain ⟨h1, h2⟩ := numP_dgs u
  rw [hn] at h1
  cases hc : okD (dgs u)
  · rw [hc] at h1; cases h1
  · rw [hc] at h1
    injection h1 with h1
    rw [h2 hc, h1]
    exact rnum_yes g S u w h hS hc
theorem head_take {u : List UInt8} {c : UInt8} : u.take 1 = [c] ↔ u.head? = some c := by cases u <;> simp
theorem loop_o {f : Nat} {n : Int} {nodes : List Int} {inner : List Tr} {u : List UInt8} {k : Nat} (h : numP u = some k) (hc : (nxt u).head? = some 111) :
    loopP (f + 1) n nodes inner u = match restP f k (nxt u) with
      | (none, v) => (none, v)
      | (some x, v) => tailP f n nodes (inner ++ [x]) v := by
  by_cases ho : tok (nxt u) = [111, 102]
  · cases hr : restP f k (nxt u) with
    | mk o v =>
      cases o with
      | none => exact loop_bad h ho hr
      | some x => exact loop_inner h ho hr
  · have hr : restP f k (nxt u) = (none, nxt u) := by
      cases f with
      | zero => rfl
      | succ f => simp only [restP, if_neg ho]
    rw [hr, loop_node h ho]
    refine tail_no (fun e => ?_) (fun e => ?_)
    · have := head_take.1 ((tok_isc (.inr (.inl rfl)) _).1 e)
      rw [hc] at this; cases this
    · have := head_take.1 ((tok_isc (.inr (.inr rfl)) _).1 e)
      rw [hc] at this; cases this
theorem not_o {u : List UInt8} (hc : u.head? ≠ some 111) : tok u ≠ [111, 102] := fun e => by
  have := (tok_isof u).1 e
  cases u with
  | nil => simp at this
  | cons a r => simp at this; exact hc (by simp [this.1])

set_option maxRecDepth 100000 in
set_option maxHeartbeats 8000000 in
theorem rrest_any (f : Nat) : ∀ (n g : Nat) (S : ByteArray) (u : List UInt8) (w : World), u.length < f → n ≤ 9999 → RfK w g S u → S.size ≤ 6001 →
    Calls Tryz.prog 140 #[.pointer (some ⟨g, 0, none⟩), .int .i64 (n : Int)] w (RestF (restP f n u) w g S) := by
  induction f using Nat.strongRecOn with
  | _ f ih =>
  intro n g S u w hf hn h hS
  obtain ⟨f, rfl⟩ : ∃ f', f = f' + 1 := ⟨f - 1, by omega⟩
  have hg := h.lt
  have hu := h.le
  have IH := Lib.hid ih
  clear ih
  go_enter Tryz.func140, Tryz.ntmps140
  go_wp2_with fail
  generalize hW : (w.alloc _).alloc _ = w1
  have hz : w1.heap.size = w.heap.size + 2 := by rw [← hW]; simp
  have F1 : Fr none w w1 := hW ▸ ((Fr.refl _ w).alloc _).alloc _
  have b6 : TB w1 w.heap.size (.int .i64 0) (.slice none 0 0) (.slice none 0 0) := by
    rw [← hW]; exact (Below.heap_alloc _ _ _ (by simp)).trans (blk_new _ _)
  have b7 : TB w1 (w.heap.size + 1) (.int .i64 (n : Int)) (.slice none 0 0) (.slice none 0 0) := by
    rw [← hW]; exact blk_new_at (by simp) _
  have S1 := h.fr F1 (by simp)
  have L1 : LoopF w g S n [] [] u none 0 none 0 [] w1 := ⟨F1.mono, by omega, S1, b6, b7, World.ownsRow_nil _ _ _ _, World.ownsRow_nil _ _ _ _, by simp [TrsD], fun b hb => by simp [Value.ownBlock] at hb, by simp, by simp; omega⟩
  clear hW h b6 b7 F1 hz
  by_cases hof : tok u = [111, 102]
  · have hl1 : (nxt u).length < u.length := nxt_lt (by rw [hof]; simp)
    have HOF := Lib.hid hof
    refine (rtake_yes g S ⟨#[111, 102]⟩ u _ S1 hS HOF.out (.inl rfl)).mono ?_
    rintro e w2 ⟨rfl, S2, F2⟩
    have L2 := L1.move hg S2 F2 (nxt_le _)
    clear L1 S1 F2
    by_cases hpar : tok (nxt u) = [40]
    · have hE : restP (f + 1) n u = loopP f n [] [] (nxt (nxt u)) := by simp only [restP, if_pos hof, if_pos hpar]
      have HE := Lib.hid hE
      have HPAR := Lib.hid hpar
      have hl2 : (nxt (nxt u)).length < (nxt u).length := nxt_lt (by rw [hpar]; simp)
      clear hE hof hpar
      go_wp2_with fail
      refine (rtake_yes g S ⟨#[40]⟩ (nxt u) _ S2 hS HPAR.out (.inr (.inl rfl))).mono ?_
      rintro e w3 ⟨rfl, S3, F3⟩
      have L0 := L2.move hg S3 F3 (nxt_le _)
      clear L2 S2 S3 F3
      go_wp2_with fail
      go_loopw [7, 8, 9, 10] (fun s7 s8 s9 s10 wr => ∃ (nodes : List Int) (inner : List Tr) (v : List UInt8) (A1 : Option Addr) (c1 : Nat) (A2 : Option Addr) (c2 : Nat) (cells : List Value) (f' : Nat), LoopF w g S n nodes inner v A1 c1 A2 c2 cells wr ∧ Hid (restP (f + 1) n u = loopP f' n nodes inner v) ∧ v.length < f' ∧ f' ≤ f) (fun _ _ _ _ wr => (skp (S.data.toList.drop (atRf wr g))).length)
      case atStart => exact ⟨[], [], _, _, _, _, _, _, f, L0, HE, by omega, by omega⟩
      case round =>
        clear L0 HE
        obtain ⟨nodes, inner, v, A1, c1, A2, c2, cells, f', L, HE, hvf, hff⟩ := hrel
        obtain ⟨f', rfl⟩ : ∃ k, f' = k + 1 := ⟨f' - 1, by omega⟩
        have S4 := L.2.2.1
        have HSL := Lib.hid S4.left
        have hlen := L.2.2.2.2.2.2.2.2.2.2
        cases hnum : numP v with
        | none =>
          have hE := HE.out
          rw [loop_none hnum] at hE
          have HE2 := Lib.hid hE
          have HN := Lib.hid hnum
          clear hE hnum
          go_wp2_with fail
          refine (rnumber_no g S v _ S4 hS HN.out).mono ?_
          rintro e w4 ⟨rfl, S5, F5⟩
          have L5 := L.move hg S5 F5 (Nat.le_refl _)
          clear L S4 F5
          have R8 := L5.2.2.2.1.cell
          have Z8 := L5.2.2.2.1.free
          have R9 := L5.2.2.2.2.1.cell
          have hsp8 : w.heap.size + 1 < w4.heap.size := blk_lt L5.2.2.2.2.1
          go_wp2_with fail
          refine bodyPost_ret (v := .tuple #[.agg #[.int .i64 (n : Int), .slice A1 nodes.length c1, .slice A2 inner.length c2], .bool false]) (by simp [results, Tryz.results140, go_sem, R8]) rfl ?_
          rw [HE2.out]
          exact L5.no hg
        | some k =>
          obtain ⟨hv1, hk⟩ := num_lt hnum
          have HN := Lib.hid hnum
          obtain ⟨X, hX⟩ : ∃ X : Bool, X = decide ((nxt v).head? = some 111) := ⟨_, rfl⟩
          have HX := Lib.hid hX
          clear hX hnum
          go_wp2_with fail
          refine (rnumber_yes g S v k _ S4 hS HN.out).mono ?_
          rintro e w4 ⟨rfl, S4', F4⟩
          have L4 := L.move hg S4' F4 (by omega)
          clear L S4 F4
          go_wp2_with fail
          refine (rskip_any g S (nxt v) _ S4' hS).mono ?_
          rintro e w5 ⟨rfl, ⟨q, B5, q1, q2⟩, F5⟩
          have S5 : RfK w5 g S (nxt v) := ⟨q, B5, by omega, by rw [q2]; exact S4'.skp_eq⟩
          have L5 := L4.move hg S5 F5 (Nat.le_refl _)
          have RB := B5.cell
          have HQ2 := Lib.hid q2
          clear L4 F5 S4' S5 q2
          go_upto_region 8 with (fail)
          go_cut [53] (fun s53 wq => s53 = .bool X ∧ Fr none w5 wq)
          case first =>
            have hcs : (q = S.size ∧ X = false) ∨ (∃ h : q < S.size, ((S[q].toNat : Int) == 111) = X) := by
              rw [HX.out, ← HQ2.out]
              rcases Nat.lt_or_ge q S.size with hh | hh
              · right
                refine ⟨hh, ?_⟩
                rw [List.drop_eq_getElem_cons (i := q) (by simpa using hh)]
                have e1 : S.data.toList[q] = S[q] := rfl
                rw [e1, List.head?_cons]
                by_cases h111 : S[q] = 111
                · rw [h111]; rfl
                · have e2 : ¬ ((S[q].toNat : Int) = 111) := fun e => h111 (by
                    apply UInt8.toNat_inj.1
                    have : S[q].toNat = 111 := by omega
                    exact this)
                  rw [beq_eq_false_iff_ne.2 e2, decide_eq_false (fun e => h111 (by injection e))]
              · left
                refine ⟨by omega, ?_⟩
                rw [List.drop_eq_nil_of_le (by simpa using hh)]
                rfl
            rcases hcs with ⟨hq, rfl⟩ | ⟨hlt, hb⟩
            · have hge : S.size ≤ q := by omega
              have hd : decide (q < S.size) = false := by simp; omega
              clear hq
              go_quiet (fail)
              go_wp2_with fail
              go_meet
              exact ⟨rfl, (Fr.refl _ _).drewN _⟩
            · have hd : decide ((q : Int) < S.size) = true := by simpa using hlt
              go_quiet (fail)
              go_wp2_with fail
              go_meet
              exact ⟨rfl, (Fr.refl _ _).drewN _⟩
          case rest =>
            obtain ⟨rfl, F6⟩ := hcut
            obtain ⟨wq, hwq⟩ : ∃ wq : World, wq = wc := ⟨_, rfl⟩
            subst hwq
            have L6 := L5.move hg (L5.2.2.1.fr F6 (by simp)) F6.mono (Nat.le_refl _)
            have S6 := L6.2.2.1
            clear L5 F6 RB B5 HQ2
            cases X with
            | true =>
              have hc111 : (nxt v).head? = some 111 := by simpa using HX.out
              obtain ⟨p, hp⟩ : ∃ p, p = restP f' k (nxt v) := ⟨_, rfl⟩
              have hE := HE.out
              rw [loop_o HN.out hc111, ← hp] at hE
              obtain ⟨o, v5⟩ := p
              have hv5 : v5.length ≤ (nxt v).length := by
                have := restP_len f' k (nxt v)
                rw [← hp] at this
                exact this
              have HP := Lib.hid hp.symm
              have HEE := Lib.hid hE
              clear hp hE hc111 HE
              go_wp2_with fail
              refine (IH.out f' (by omega) k g S (nxt v) _ (by omega) hk S6 hS).mono ?_
              rintro e w7 ⟨th, a1, n1, e1, a2, n2, e2, b, rfl, hb, S7, F7, hT⟩
              rw [HP.out] at hb S7 hT
              simp only at hb S7 hT
              have L5 := L6.move hg S7 F7 hv5
              cases o with
              | none =>
                obtain rfl : b = false := hb
                have HE2 : Hid (restP (f + 1) n u = (none, v5)) := HEE
                have F8 := (Fr.refl none w7).alloc (.cells #[.int .i64 th, .slice a1 n1 e1, .slice a2 n2 e2] 31)
                have L8 := L5.move hg (S7.fr F8 (by simp)) F8.mono (Nat.le_refl _)
                have R6 := L8.2.2.2.1.cell
                have Z6 := L8.2.2.2.1.free
                have R7 := L8.2.2.2.2.1.cell
                have hsp := blk_lt L5.2.2.2.2.1
                clear hT HEE L6 L5
                go_wp2_with fail
                refine bodyPost_ret (v := .tuple #[.agg #[.int .i64 (n : Int), .slice A1 nodes.length c1, .slice A2 inner.length c2], .bool false]) (by simp [results, Tryz.results140, go_sem, R6]) rfl ?_
                rw [HE2.out]
                exact L8.no hg
              | some t =>
                obtain rfl : b = true := hb
                have HE : Hid (restP (f + 1) n u = tailP f' n nodes (inner ++ [t]) v5) := HEE
                have hT5 := hT t rfl
                have F8 := (Fr.refl none w7).alloc (.cells #[.int .i64 th, .slice a1 n1 e1, .slice a2 n2 e2] 31)
                have L8 := L5.move hg (S7.fr F8 (by simp)) F8.mono (Nat.le_refl _)
                have hT6 := TrD.keep (dn_fr F8 (by simp)) _ _ hT5
                have R6 := L8.2.2.2.1.cell
                have R7 := L8.2.2.2.2.1.cell
                have Z7 := L8.2.2.2.2.1.free
                have hsp := blk_lt L5.2.2.2.2.1
                have own6 := L8.2.2.2.2.2.2.1
                have ow1 := L6.2.2.2.2.2.1
                have ow2 := L6.2.2.2.2.2.2.1
                have hB4 := L6.2.1
                have h61 := L8.2.1
                simp only [World.size_alloc] at h61
                clear hT hT5 HEE
                go_wp2_with (at_builtin; refine app_lit eiTrust rfl _ _ rfl (w.heap.size + 2) A2 inner.length c2 _ rfl own6 1 [.int .i64 th, .slice a1 n1 e1, .slice a2 n2 e2] 31 _ rfl (by simp) rfl (by simp [Value.oneCell']) (by omega) (by unfold maxLen; omega) (by simp; omega) ?_; intro A5 c5 w8 own7 F9 bl7; have K7 := L8.2.2.2.2.1.fr F9 (own_ne own6 (by omega)); have R8 := K7.cell; have Z8 := K7.free; have hsp6 := blk_lt K7; clear R6 R7 Z7)
                have L7 := L8.inner_ hg hB4 hT6 (fun b hb => (ow1.lt b hb).2) (fun b hb => (ow2.lt b hb).2) own7 F9 bl7 (by omega)
                go_upto_region 14 with (fail)
                generalize hW : World.setCell w8 _ _ = w7 at L7 ⊢
                obtain ⟨inner2, hin⟩ : ∃ l, l = inner ++ [t] := ⟨_, rfl⟩
                rw [← hin] at L7 HE
                have hvf5 : v5.length < f' := by omega
                clear hW hin L8 L6 L5 own6 own7 ow1 ow2 F9 bl7 R8 Z8 K7 hT6
                have S6 := L7.2.2.1
                have K6 := L7.2.2.2.1
                have K7 := L7.2.2.2.2.1
                have R6 := K6.cell
                have Z6 := K6.free
                have R7 := K7.cell
                have Z7 := K7.free
                have hsp : w.heap.size + 1 < w7.heap.size := blk_lt K7
                clear K6 K7
                by_cases h41 : tok v5 = [41]
                · have hE := HE.out
                  rw [tail_yes h41] at hE
                  have HE2 := Lib.hid hE
                  have H41 := Lib.hid h41
                  clear hE h41 HE
                  go_wp2_with fail
                  refine (rtake_yes g S ⟨#[41]⟩ v5 _ S6 hS H41.out (.inr (.inr (.inl rfl)))).mono ?_
                  rintro e w8 ⟨rfl, S8, F8⟩
                  have L8 := L7.move hg S8 F8 (nxt_le _)
                  have R8 := L8.2.2.2.1.cell
                  have Z8 := L8.2.2.2.1.free
                  have R9 := L8.2.2.2.2.1.cell
                  have hsp8 : w.heap.size + 1 < w8.heap.size := blk_lt L8.2.2.2.2.1
                  clear R6 Z6 R7 Z7
                  go_wp2_with fail
                  refine bodyPost_ret (v := .tuple #[.agg #[.int .i64 (n : Int), .slice A1 nodes.length c1, .slice A5 inner2.length c5], .bool true]) (by simp [results, Tryz.results140, go_sem, R8]) rfl ?_
                  rw [HE2.out]
                  exact L8.yes hg hn
                · have H41 := Lib.hid h41
                  go_wp2_with fail
                  refine (rtake_no g S ⟨#[41]⟩ v5 _ S6 hS H41.out (.inr (.inr (.inl rfl)))).mono ?_
                  rintro e w8 ⟨rfl, S8, F8⟩
                  have L8 := L7.move hg S8 F8 (Nat.le_refl _)
                  clear R6 Z6 R7 Z7 hsp S6 L7 F8
                  by_cases h44 : tok v5 = [44]
                  · have hE := HE.out
                    rw [tail_more h41 h44] at hE
                    have HE2 := Lib.hid hE
                    have H44 := Lib.hid h44
                    have hvl2 : (nxt v5).length < v5.length := nxt_lt (by rw [h44]; simp)
                    clear hE h41 h44 HE
                    go_wp2_with fail
                    refine (rtake_yes g S ⟨#[44]⟩ v5 _ S8 hS H44.out (.inr (.inr (.inr rfl)))).mono ?_
                    rintro e w9 ⟨rfl, S9, F9⟩
                    have L9 := L8.move hg S9 F9 (nxt_le _)
                    clear L8 F9
                    go_wp2_with fail
                    go_roundw
                    case rel => exact ⟨nodes, inner2, _, _, _, _, _, _, _, L9, HE2, by omega⟩
                    case measure => rw [S9.left, HSL.out]; omega
                  · have hE := HE.out
                    rw [tail_no h41 h44] at hE
                    have HE2 := Lib.hid hE
                    have H44 := Lib.hid h44
                    clear hE h41 h44 HE
                    go_wp2_with fail
                    refine (rtake_no g S ⟨#[44]⟩ v5 _ S8 hS H44.out (.inr (.inr (.inr rfl)))).mono ?_
                    rintro e w9 ⟨rfl, S9, F9⟩
                    have L9 := L8.move hg S9 F9 (Nat.le_refl _)
                    have R8 := L9.2.2.2.1.cell
                    have Z8 := L9.2.2.2.1.free
                    have R9 := L9.2.2.2.2.1.cell
                    have hsp8 : w.heap.size + 1 < w9.heap.size := blk_lt L9.2.2.2.2.1
                    clear L8 F9
                    go_wp2_with fail
                    refine bodyPost_ret (v := .tuple #[.agg #[.int .i64 (n : Int), .slice A1 nodes.length c1, .slice A5 inner2.length c5], .bool false]) (by simp [results, Tryz.results140, go_sem, R8]) rfl ?_
                    rw [HE2.out]
                    exact L9.no hg
            | false =>
              have hc111 : (nxt v).head? ≠ some 111 := by simpa using HX.out
              have hE := HE.out
              rw [loop_node HN.out (not_o hc111)] at hE
              have HE := Lib.hid hE
              have R7 := L6.2.2.2.2.1.cell
              have Z7 := L6.2.2.2.2.1.free
              have hsp := blk_lt L6.2.2.2.2.1
              have own4 := L6.2.2.2.2.2.1
              have h41 := L6.2.1
              clear hE hc111
              go_wp2_with (at_builtin; refine app_lit eiInt rfl _ _ rfl (w.heap.size + 2) A1 nodes.length c1 _ rfl own4 1 [.int .i64 (k : Int)] 3 _ rfl (by simp) rfl (by simp [Value.oneCell']) (by omega) (by unfold maxLen; omega) (by omega) ?_; intro A5 c5 w6 own7 F7 bl7; have K7 := L6.2.2.2.2.1.fr F7 (own_ne own4 (by omega)); have R8 := K7.cell; have Z8 := K7.free; have hsp6 := blk_lt K7; clear R7 Z7)
              have L7 := L6.node hg hk own7 F7 bl7 (by omega)
              go_upto_region 14 with (fail)
              generalize hW : World.setCell w6 _ _ = w7 at L7 ⊢
              obtain ⟨nodes2, hin⟩ : ∃ l, l = nodes ++ [(k : Int)] := ⟨_, rfl⟩
              rw [← hin] at L7 HE
              obtain ⟨v5, hv5⟩ : ∃ l, l = nxt v := ⟨_, rfl⟩
              rw [← hv5] at L7 HE hv1
              have hvf5 : v5.length < f' := by omega
              clear hW hin L6 own4 own7 F7 bl7 R8 Z8 K7 hv5 S6 HX
              have S6 := L7.2.2.1
              have K6 := L7.2.2.2.1
              have K7 := L7.2.2.2.2.1
              have R6 := K6.cell
              have Z6 := K6.free
              have R7 := K7.cell
              have Z7 := K7.free
              have hsp : w.heap.size + 1 < w7.heap.size := blk_lt K7
              clear K6 K7
              by_cases h41 : tok v5 = [41]
              · have hE := HE.out
                rw [tail_yes h41] at hE
                have HE2 := Lib.hid hE
                have H41 := Lib.hid h41
                clear hE h41 HE
                go_wp2_with fail
                refine (rtake_yes g S ⟨#[41]⟩ v5 _ S6 hS H41.out (.inr (.inr (.inl rfl)))).mono ?_
                rintro e w8 ⟨rfl, S8, F8⟩
                have L8 := L7.move hg S8 F8 (nxt_le _)
                have R8 := L8.2.2.2.1.cell
                have Z8 := L8.2.2.2.1.free
                have R9 := L8.2.2.2.2.1.cell
                have hsp8 : w.heap.size + 1 < w8.heap.size := blk_lt L8.2.2.2.2.1
                clear R6 Z6 R7 Z7
                go_wp2_with fail
                refine bodyPost_ret (v := .tuple #[.agg #[.int .i64 (n : Int), .slice A5 nodes2.length c5, .slice A2 inner.length c2], .bool true]) (by simp [results, Tryz.results140, go_sem, R8]) rfl ?_
                rw [HE2.out]
                exact L8.yes hg hn
              · have H41 := Lib.hid h41
                go_wp2_with fail
                refine (rtake_no g S ⟨#[41]⟩ v5 _ S6 hS H41.out (.inr (.inr (.inl rfl)))).mono ?_
                rintro e w8 ⟨rfl, S8, F8⟩
                have L8 := L7.move hg S8 F8 (Nat.le_refl _)
                clear R6 Z6 R7 Z7 hsp S6 L7 F8
                by_cases h44 : tok v5 = [44]
                · have hE := HE.out
                  rw [tail_more h41 h44] at hE
                  have HE2 := Lib.hid hE
                  have H44 := Lib.hid h44
                  have hvl2 : (nxt v5).length < v5.length := nxt_lt (by rw [h44]; simp)
                  clear hE h41 h44 HE
                  go_wp2_with fail
                  refine (rtake_yes g S ⟨#[44]⟩ v5 _ S8 hS H44.out (.inr (.inr (.inr rfl)))).mono ?_
                  rintro e w9 ⟨rfl, S9, F9⟩
                  have L9 := L8.move hg S9 F9 (nxt_le _)
                  clear L8 F9
                  go_wp2_with fail
                  go_roundw
                  case rel => exact ⟨nodes2, inner, _, _, _, _, _, _, _, L9, HE2, by omega⟩
                  case measure => rw [S9.left, HSL.out]; omega
                · have hE := HE.out
                  rw [tail_no h41 h44] at hE
                  have HE2 := Lib.hid hE
                  have H44 := Lib.hid h44
                  clear hE h41 h44 HE
                  go_wp2_with fail
                  refine (rtake_no g S ⟨#[44]⟩ v5 _ S8 hS H44.out (.inr (.inr (.inr rfl)))).mono ?_
                  rintro e w9 ⟨rfl, S9, F9⟩
                  have L9 := L8.move hg S9 F9 (Nat.le_refl _)
                  have R8 := L9.2.2.2.1.cell
                  have Z8 := L9.2.2.2.1.free
                  have R9 := L9.2.2.2.2.1.cell
                  have hsp8 : w.heap.size + 1 < w9.heap.size := blk_lt L9.2.2.2.2.1
                  clear L8 F9
                  go_wp2_with fail
                  refine bodyPost_ret (v := .tuple #[.agg #[.int .i64 (n : Int), .slice A5 nodes2.length c5, .slice A2 inner.length c2], .bool false]) (by simp [results, Tryz.results140, go_sem, R8]) rfl ?_
                  rw [HE2.out]
                  exact L9.no hg
    · have hE : restP (f + 1) n u = (none, nxt u) := by simp only [restP, if_pos hof, if_neg hpar]
      have HE := Lib.hid hE
      have HPAR := Lib.hid hpar
      clear hE hof hpar
      go_wp2_with fail
      refine (rtake_no g S ⟨#[40]⟩ (nxt u) _ S2 hS HPAR.out (.inr (.inl rfl))).mono ?_
      rintro e w3 ⟨rfl, S3, F3⟩
      have L3 := L2.move hg S3 F3 (Nat.le_refl _)
      clear L2 S2 F3
      have R8 := L3.2.2.2.1.cell
      have Z8 := L3.2.2.2.1.free
      have R9 := L3.2.2.2.2.1.cell
      have hsp8 : w.heap.size + 1 < w3.heap.size := blk_lt L3.2.2.2.2.1
      go_wp2_with fail
      refine bodyPost_ret (v := .tuple #[.agg #[.int .i64 (n : Int), .slice none 0 0, .slice none 0 0], .bool false]) (by simp [results, Tryz.results140, go_sem, R8]) rfl ?_
      rw [HE.out]
      exact L3.no hg
  · have hE : restP (f + 1) n u = (none, u) := by simp only [restP, if_neg hof]
    have HE := Lib.hid hE
    have HOF := Lib.hid hof
    clear hE hof
    refine (rtake_no g S ⟨#[111, 102]⟩ u _ S1 hS HOF.out (.inl rfl)).mono ?_
    rintro e w3 ⟨rfl, S3, F3⟩
    have L3 := L1.move hg S3 F3 (Nat.le_refl _)
    clear L1 S1 F3
    have R8 := L3.2.2.2.1.cell
    have Z8 := L3.2.2.2.1.free
    have R9 := L3.2.2.2.2.1.cell
    have hsp8 : w.heap.size + 1 < w3.heap.size := blk_lt L3.2.2.2.2.1
    go_wp2_with fail
    refine bodyPost_ret (v := .tuple #[.agg #[.int .i64 (n : Int), .slice none 0 0, .slice none 0 0], .bool false]) (by simp [results, Tryz.results140, go_sem, R8]) rfl ?_
    rw [HE.out]
    exact L3.no hg
end Go.Proofs.YtoblhcieidljjaaGreatDoor

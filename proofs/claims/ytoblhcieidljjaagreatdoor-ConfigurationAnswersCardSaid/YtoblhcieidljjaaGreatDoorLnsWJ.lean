/- Walks: the reference's lines (layer 6). -/
import Derived.Test.YtoblhcieidljjaaGreatDoorProg
import Derived.Test.YtoblhcieidljjaaGreatDoorLnsPJ
import Derived.Test.YtoblhcieidljjaaGreatDoorJG15
import Derived.Test.YtoblhcieidljjaaGreatDoorRf3QJ
set_option linter.unusedSimpArgs false
set_option linter.unusedVariables false
namespace Go.Proofs.YtoblhcieidljjaaGreatDoor
open Go.RowKit

theorem eiS6 : EInfo Tryz.prog 36 9 1 16 := EInfo.mk_ (z := .string ⟨#[]⟩) (by kernel_rfl) (by kernel_rfl) rfl (by omega)
/-- What lines leaves: a row of its own. -/
def LinE (ls : List (List UInt8)) (w : World) (e : Ending) (w' : World) : Prop :=
  ∃ (A : Option Addr) (c : Nat), e = .returned (.slice A ls.length c) ∧ w'.ownsRow w.heap.size 9 1 (.slice A ls.length c) ls.length (ls.map fun x => .string (bs x)) ∧ Fr none w w'

set_option maxRecDepth 100000 in
set_option maxHeartbeats 4000000 in
theorem lines_any (s : List UInt8) (S : ByteArray) (hS : S = bs s) (w : World) (hz0 : s.length ≤ 6000) : Calls Tryz.prog 110 #[.string S] w (LinE (linGo [] s) w) := by
  have hSz : S.size = s.length := by rw [hS, bs_size]
  have hz : S.size ≤ 6000 := by omega
  have HSZ := Lib.hid hSz
  have HS := Lib.hid hS
  clear hS hSz
  obtain ⟨Z, hZ⟩ : ∃ Z, Z = linGo [] s := ⟨_, rfl⟩
  rw [← hZ]
  have HZ := Lib.hid hZ
  clear hZ
  go_enter Tryz.func110, Tryz.ntmps110
  go_wp2_with fail
  go_loopw [3, 4, 5] (fun s3 s4 s5 wr => ∃ (j b n : Nat) (ls : List (List UInt8)) (A1 : Option Addr) (c1 : Nat) (cells : List Value), b ≤ j ∧ j ≤ S.size ∧ n ≤ j ∧ s5 = .int .i64 (j : Int) ∧ s4 = .int .i64 (b : Int) ∧ s3 = .slice A1 n c1 ∧ Fr none w wr ∧
    wr.ownsRow w.heap.size 9 1 (.slice A1 n c1) n cells ∧ Hid (cells = ls.map fun x => .string (bs x)) ∧ Hid (n = ls.length) ∧ Hid (Z = ls ++ linGo ((s.drop b).take (j - b)) (s.drop j))) (fun _ _ s5 _ => S.size - (intOf s5).toNat)
  case atStart => exact ⟨0, 0, 0, [], none, 0, [], by omega, by omega, by omega, rfl, rfl, rfl, Fr.refl _ _, World.ownsRow_nil _ _ _ _, rfl, rfl, by unfold Hid; rw [HZ.out]; simp⟩
  case round =>
    obtain ⟨j, b, n, ls, A1, c1, cells, hb, hj, hnj, rfl, rfl, rfl, F, own, HC, HN, HL⟩ := hrel
    obtain ⟨wz, hwz⟩ : ∃ wz : World, wz = wr := ⟨_, rfl⟩
    subst hwz
    have hzz := F.size
    by_cases hjS : j < S.size
    · have hd : decide ((j : Int) < S.size) = true := decide_eq_true (by omega)
      have hlt : j < s.length := by have := HSZ.out; omega
      have hget : S[j] = s[j] := by
        have : S.data.toList[j]'(by rw [← size_list]; exact hjS) = s[j] := by
          have h2 : S.data.toList = s := by rw [HS.out, bs_list]
          simp only [h2]
        exact this
      by_cases hc : s[j] = 10
      · have h10 : ((S[j].toNat : Int) == 10) = true := by rw [hget, hc]; rfl
        have HH : Hid (Z = (ls ++ [(s.drop b).take (j - b)]) ++ linGo ((s.drop (j + 1)).take (j + 1 - (j + 1))) (s.drop (j + 1))) := by
          unfold Hid
          rw [HL.out, lin_hit s b j hlt hc]; simp
        have HX : Hid (S.extract b j = bs ((s.drop b).take (j - b))) := by unfold Hid; rw [HS.out, ext_bs]
        have hbS : b ≤ S.size := by omega
        clear hc hget hlt
        go_wp2_with (at_builtin; refine app_lit eiS6 rfl _ _ rfl w.heap.size A1 n c1 _ rfl own 1 [.string (S.extract b j)] _ _ rfl (by simp) rfl (by simp [Value.oneCell']) (by omega) (by unfold maxLen; omega) (by omega) ?_; intro A5 c5 w6 own6 F6 nb6)
        have og := own_blk_ge own
        go_roundw
        case rel =>
          exact ⟨j + 1, j + 1, n + 1, ls ++ [(s.drop b).take (j - b)], A5, c5, cells ++ [.string (S.extract b j)], by omega, by omega, by omega, by go_num, by go_num, rfl, F.own F6 (fun q e => by have := og q e; omega), own6, by unfold Hid; rw [HC.out, HX.out]; simp, by unfold Hid; rw [HN.out]; simp, HH⟩
        case measure => simp [intOf]; omega
      · have h10 : ((S[j].toNat : Int) == 10) = false := by
          rw [hget, beq_eq_false_iff_ne]
          intro e
          apply hc
          apply UInt8.toNat_inj.1
          have : s[j].toNat = 10 := by omega
          rw [this]; rfl
        have HH : Hid (Z = ls ++ linGo ((s.drop b).take (j + 1 - b)) (s.drop (j + 1))) := by
          unfold Hid
          rw [HL.out, lin_go s b j hb hlt hc]
        clear hc hget hlt
        go_wp2_with fail
        go_roundw
        case rel =>
          exact ⟨j + 1, b, n, ls, A1, c1, cells, by omega, by omega, by omega, by go_num, rfl, rfl, F, own, HC, HN, HH⟩
        case measure => simp [intOf]; omega
    · obtain rfl : j = S.size := by omega
      have hd : decide ((S.size : Int) < S.size) = false := decide_eq_false (by omega)
      have hlast := lin_last s b
      rw [← HSZ.out] at hlast
      by_cases hbl : S.size ≤ b
      · have hd2 : decide (b < S.size) = false := decide_eq_false (by omega)
        rw [if_pos hbl] at hlast
        have HH : Hid (Z = ls) := by unfold Hid; rw [HL.out, hlast, List.append_nil]
        clear hlast hbl
        go_wp2_with fail
        go_ret
        exact ⟨A1, c1, by rw [HH.out, ← HN.out]; rfl, by rw [HH.out, ← HC.out, ← HN.out]; exact own, F⟩
      · have hd2 : decide (b < S.size) = true := decide_eq_true (by omega)
        rw [if_neg hbl] at hlast
        have HH : Hid (Z = ls ++ [s.drop b]) := by unfold Hid; rw [HL.out, hlast]
        have HX : Hid (S.extract b S.size = bs (s.drop b)) := by
          unfold Hid
          rw [HSZ.out, HS.out, ext_bs, List.take_of_length_le (by simp)]
        have hbS : b ≤ S.size := by omega
        clear hlast hbl
        go_wp2_with (at_builtin; refine app_lit eiS6 rfl _ _ rfl w.heap.size A1 n c1 _ rfl own 1 [.string (S.extract b S.size)] _ _ rfl (by simp) rfl (by simp [Value.oneCell']) (by omega) (by unfold maxLen; omega) (by omega) ?_; intro A5 c5 w6 own6 F6 nb6)
        have og := own_blk_ge own
        go_ret
        refine ⟨A5, c5, ?_, ?_, F.own F6 (fun q e => by have := og q e; omega)⟩
        · rw [HH.out, List.length_append, ← HN.out]; rfl
        · rw [HH.out, List.map_append, List.length_append, ← HC.out, ← HN.out]
          simp only [List.map_cons, List.map_nil, List.length_cons, List.length_nil]
          rw [← HX.out]
          exact own6
end Go.Proofs.YtoblhcieidljjaaGreatDoor

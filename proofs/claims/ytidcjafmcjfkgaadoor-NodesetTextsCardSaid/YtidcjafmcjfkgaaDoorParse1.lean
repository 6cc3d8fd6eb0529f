/- Walks: nodeset.Parse of the text of a set. -/
import Derived.Test.YtidcjafmcjfkgaaDoorProg
import Derived.Test.YtidcjafmcjfkgaaDoorNsT
import Derived.Test.YtidcjafmcjfkgaaDoorTextP
import Derived.Lib.ConvBytes
namespace Go.Proofs.YtidcjafmcjfkgaaDoor
open Go.RowKit

theorem or_pow_lt {g k : Nat} (hg : g < 1024) (hk : k < 10) : g ||| 2 ^ k < 1024 := by
  have h : 2 ^ k < 2 ^ 10 := Nat.pow_lt_pow_right (by omega) hk
  exact Nat.or_lt_two_pow (n := 10) (by omega) h
theorem gat_drop (g : Nat) (l : List UInt8) (j : Nat) (hj : j < l.length) : gat g (l.drop j) = gat (if 48 ≤ (l[j]).toNat ∧ (l[j]).toNat ≤ 57 then g ||| 2 ^ ((l[j]).toNat - 48) else g) (l.drop (j + 1)) := by
  rw [List.drop_eq_getElem_cons hj]
  rfl

set_option maxRecDepth 100000 in
theorem parse1_any (s : Nat) (hs : s ≤ 1023) (w : World) : Calls Tryd.prog 20 #[.string (textS (s : Int))] w fun e w' => e = .returned (.tuple #[.int .i64 s, .int .i64 0]) ∧ Fr none w w' := by
  obtain ⟨t, ht⟩ : ∃ t, t = textS (s : Int) := ⟨_, rfl⟩
  have hv : validB (s : Int) = true := by simp [validB]; omega
  have htl : t.data.toList = tx s := by rw [ht, textS_tx _ hv]
  have hga : gat 0 t.data.toList = s := by rw [htl]; exact gat_tx ⟨s, by omega⟩
  rw [← ht]
  have hcv := Lib.run_convert_string_bytes (P := Tryd.prog) w 9 55 5 t (u := .string) Tryd.underlying9 Tryd.underlying55 Tryd.underlying5
  obtain ⟨w1, hw1⟩ : ∃ w1, w1 = Lib.bytesWorld w 5 t := ⟨_, rfl⟩
  have hcell : ∀ j, j < t.size → w1.cell? ⟨w.heap.size, j, none⟩ = some (.int .u8 (t.data.toList.getD j 0).toNat) := fun j hj => by rw [hw1]; exact Lib.bytesWorld_cell w _ t j hj
  have F1 : Fr none w w1 := by
    rw [hw1]
    exact ⟨rfl, rfl, rfl, by rw [Lib.bytesWorld_size]; omega, fun k hk _ => Lib.bytesWorld_at_old w _ t k hk⟩
  rw [← hw1] at hcv
  generalize grownCap w t.size 0 _ = cp at hcv
  have hsz : t.size = t.data.toList.length := (Array.length_toList).symm
  obtain ⟨n, hn⟩ : ∃ n, n = t.size := ⟨_, rfl⟩
  have hnb : n ≤ 1024 := by
    have := tx_len ⟨s, by omega⟩
    rw [hn, hsz, htl]
    exact Nat.le_trans this (by omega)
  rw [← hn] at hcv
  have HT := Lib.hid ht
  have HG := Lib.hid hga
  have HC := Lib.hid hcell
  have HN := Lib.hid (hn.trans hsz)
  have HN2 := Lib.hid hn
  clear ht htl hga hcell hsz hn hw1 hv
  go_enter Tryd.func20, Tryd.ntmps20
  go_wp2_with fail
  go_loopw [4, 10, 6, 11, 12, 13, 14, 15, 16, 17, 18, 19, 20, 21, 22, 23, 24, 25] (fun s4 s10 s6 s11 s12 s13 s14 s15 s16 s17 s18 s19 s20 s21 s22 s23 s24 s25 wr => ∃ j g : Nat, j ≤ n ∧ g < 1024 ∧ s10 = .int .i64 j ∧ s4 = .int .i64 g ∧ Hid (gat g (t.data.toList.drop j) = s) ∧ wr = w1) (fun s4 s10 s6 s11 s12 s13 s14 s15 s16 s17 s18 s19 s20 s21 s22 s23 s24 s25 _ => n - (intOf s10).toNat)
  case atStart => exact ⟨0, 0, Nat.zero_le _, by omega, rfl, rfl, HG, rfl⟩
  case round =>
    obtain ⟨j, g, hj, hg, rfl, rfl, HGj, rfl⟩ := hrel
    by_cases hlt : j < n
    · have k1 : j < t.data.toList.length := by have := HN.out; omega
      obtain ⟨b, hb⟩ : ∃ b : UInt8, b = t.data.toList[j] := ⟨_, rfl⟩
      have d1 : wr.cell? ⟨w.heap.size, j, none⟩ = some (.int .u8 b.toNat) := by
        have hq : t.data.toList.getD j 0 = t.data.toList[j] := by rw [List.getD_eq_getElem?_getD, List.getElem?_eq_getElem k1]; rfl
        rw [HC.out j (by have := HN2.out; omega), hq, hb]
      have hstep := gat_drop g t.data.toList j k1
      rw [← hb] at hstep
      obtain ⟨x, hx⟩ : ∃ x, x = b.toNat := ⟨_, rfl⟩
      rw [← hx] at d1 hstep
      have hx8 : x < 256 := by rw [hx]; exact b.toNat_lt
      have HS := Lib.hid hstep
      clear hstep hb hx k1
      by_cases hd : 48 ≤ x ∧ x ≤ 57
      · obtain ⟨hd1, hd2⟩ := hd
        obtain ⟨k, rfl⟩ : ∃ k, x = k + 48 := ⟨x - 48, by omega⟩
        have hk : k < 10 := by omega
        have hor : bits .or .i64 (g : Int) (wrap64 (2 ^ k)) = ((g ||| 2 ^ k : Nat) : Int) := by
          rw [wrap_pow k (by omega)]
          exact or_i64 g (2 ^ k) (by omega) (by have := pow2_lt k (by omega); omega)
        have HOr := Lib.hid hor
        clear hor
        go_wp2_with fail
        go_roundw
        case rel => exact ⟨j + 1, g ||| 2 ^ k, by omega, or_pow_lt hg hk, by go_num, by rw [HOr.out], Lib.hid (by
          have h1 := HGj.out
          rw [HS.out, if_pos ⟨hd1, hd2⟩, show k + 48 - 48 = k from by omega] at h1
          exact h1), trivial⟩
        case measure => simp [intOf]; omega
      · have HD := Lib.hid hd
        by_cases hd1 : 48 ≤ x
        · have hd2 : ¬ x ≤ 57 := fun h => hd ⟨hd1, h⟩
          clear hd
          go_wp2_with fail
          go_roundw
          case rel => exact ⟨j + 1, g, by omega, hg, by go_num, rfl, Lib.hid (by
            have h1 := HGj.out
            rw [HS.out, if_neg HD.out] at h1
            exact h1), trivial⟩
          case measure => simp [intOf]; omega
        · clear hd
          go_wp2_with fail
          go_roundw
          case rel => exact ⟨j + 1, g, by omega, hg, by go_num, rfl, Lib.hid (by
            have h1 := HGj.out
            rw [HS.out, if_neg HD.out] at h1
            exact h1), trivial⟩
          case measure => simp [intOf]; omega
    · obtain rfl : j = n := by omega
      have hgs : g = s := by
        have h1 := HGj.out
        rw [List.drop_of_length_le (by have := HN.out; omega)] at h1
        exact h1
      subst hgs
      have HT2 := Lib.hid HT.out.symm
      go_wp2_with (go_at_call 21; refine (text_any _ _).mono ?_; rintro e w2 ⟨rfl, F2⟩; rw [HT2.out])
      go_ret2
      exact ⟨rfl, F1.pure F2⟩
end Go.Proofs.YtidcjafmcjfkgaaDoor

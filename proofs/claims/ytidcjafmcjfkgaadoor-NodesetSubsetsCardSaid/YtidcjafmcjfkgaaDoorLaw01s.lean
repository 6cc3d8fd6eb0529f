/- The law NodesetSubsets: its walk. -/
import Derived.Test.YtidcjafmcjfkgaaDoorProg
import Derived.Test.YtidcjafmcjfkgaaDoorSubL
import Derived.Test.YtidcjafmcjfkgaaDoorAwake1
namespace Go.Proofs.YtidcjafmcjfkgaaDoor
open Go.RowKit

theorem popB_mono {t s : Nat} (h : t &&& s = t) : ∀ k, popB t k ≤ popB s k
  | 0 => Nat.le_refl _
  | k + 1 => by
    have ih := popB_mono h k
    simp only [popB]
    by_cases hb : t.testBit k = true
    · have := (land_iff t s).1 h k hb
      rw [hb, this]
      omega
    · rw [if_neg hb]
      omega
set_option maxRecDepth 100000 in
set_option maxHeartbeats 1000000 in
theorem law01s_any (a : Nat) (ha : a < 65536) (w : World) : Calls Tryd.prog 5 #[.int .u16 a] w fun e w' => e = .returned (.bool true) ∧ Fr none w w' := by
  obtain ⟨s, hsa⟩ : ∃ s, s = a % 1024 := ⟨_, rfl⟩
  have hs : s ≤ 1023 := by omega
  have hmod : (a : Int) % 1024 = s := by omega
  obtain ⟨m, hm⟩ : ∃ m, m = subS s := ⟨_, rfl⟩
  obtain ⟨z, hz⟩ : ∃ z, z = sizS (s : Int) := ⟨_, rfl⟩
  have hlen : m.length = 2 ^ z := by rw [hm, hz]; exact sub_len s hs
  have hz10 : z ≤ 10 := by rw [hz]; exact sizS_le _
  obtain ⟨N, hN⟩ : ∃ N, N = m.length := ⟨_, rfl⟩
  have hw2 : wrap64 (2 ^ z) = (N : Int) := by rw [hN, hlen]; exact wrap_pow z (by omega)
  have hpos : 0 < N := by rw [hN, hlen]; exact Nat.two_pow_pos z
  have hNb : N ≤ 1024 := by rw [hN, hlen]; exact p10 z hz10
  have hlt := sub_lt s hs
  rw [← hm] at hlt
  have hord : ∀ i j (hi : i < m.length) (hj : j < m.length), i < j → cmpS m[i] m[j] = -1 := fun i j hi hj h => List.pairwise_iff_getElem.1 hlt i j hi hj h
  have hmem : ∀ x, x ∈ m ↔ ∃ t : Nat, x = t ∧ t &&& s = t := by rw [hm]; exact sub_mem s hs
  have hsub : ∀ j (hj : j < m.length), bits .and .i64 m[j] (s : Int) = m[j] := fun j hj => by
    obtain ⟨t, ht, h2⟩ := (hmem m[j]).1 (List.getElem_mem hj)
    rw [ht, and_i64 t s (by have := land_le h2; omega) (by omega), h2]
  have hneg : ∀ x y, cmpS x y = -1 → ¬ cmpS y x < 0 := fun x y h h2 => by
    have h1 : cmpS x y < 0 := by omega
    rw [cmpS_lt] at h1 h2
    omega
  have hval : ∀ t : Nat, t ≤ 1023 → rankI (t : Int) = popB t 10 := fun t ht => by
    have : validB (t : Int) = true := by simp [validB]; omega
    simp only [rankI, this, if_true, sizS_nat t ht]
  have hN' : 0 < m.length := by omega
  have h0 : m[0] = 0 := by
    obtain ⟨i, hi, he⟩ := List.getElem_of_mem ((hmem 0).2 ⟨0, rfl, by simp⟩)
    rcases Nat.eq_zero_or_pos i with rfl | hp
    · exact he
    · exfalso
      have h1 := hord 0 i hN' hi hp
      rw [he] at h1
      obtain ⟨t, ht, h2⟩ := (hmem m[0]).1 (List.getElem_mem hN')
      have h3 := land_le h2
      have h4 : cmpS m[0] 0 < 0 := by omega
      have h5 := hval 0 (by omega)
      have h6 : popB 0 10 = 0 := by decide
      rw [cmpS_lt, ht, hval t (by omega)] at h4
      simp only [Int.ofNat_eq_natCast, Int.natCast_zero] at h5
      rw [h5, h6] at h4
      omega
  have hl : m[N - 1]'(by omega) = s := by
    obtain ⟨i, hi, he⟩ := List.getElem_of_mem ((hmem s).2 ⟨s, rfl, by simp⟩)
    by_cases hp : i = N - 1
    · subst hp; exact he
    · exfalso
      have hN1 : N - 1 < m.length := by omega
      have h1 := hord i (N - 1) hi hN1 (by omega)
      rw [he] at h1
      obtain ⟨t, ht, h2⟩ := (hmem m[N - 1]).1 (List.getElem_mem hN1)
      have h3 := land_le h2
      have h4 : cmpS s m[N - 1] < 0 := by omega
      have h5 := popB_mono h2 10
      rw [cmpS_lt, ht, hval t (by omega), hval s (by omega)] at h4
      omega
  have HM := Lib.hid hm
  have HN := Lib.hid hN
  have HO := Lib.hid hord
  have HSub := Lib.hid hsub
  have HZ := Lib.hid hz
  have hwi : ∀ x ∈ m, Wi x := fun x hx => by
    obtain ⟨t, rfl, h2⟩ := (hmem x).1 hx
    have := land_le h2
    unfold Wi
    omega
  have HWi := Lib.hid hwi
  have HMod := Lib.hid hmod
  have HW2 := Lib.hid hw2
  have h0' : ∀ h : 0 < m.length, m[0] = 0 := fun _ => h0
  have hl' : ∀ h : N - 1 < m.length, m[N - 1] = s := fun _ => hl
  have H0 := Lib.hid h0'
  have HL := Lib.hid hl'
  clear hm hN hord hsub hz hwi hsa hmod hw2 h0' hl' h0 hl hmem hlt hlen hneg hval hN'
  go_enter Tryd.func5, Tryd.ntmps5
  go_wp2_with (go_at_call 16; rw [HMod.out]; refine (subsets_any s hs _).mono ?_; rintro e w1 ⟨v1, rfl, O1, F1⟩; rw [← HM.out] at O1; obtain ⟨A, c, rfl, q1, q2, hc⟩ := (O1.sl HWi.out).open_; clear O1; rw [← HN.out] at q1 ⊢; obtain ⟨b, off, rfl, hb, hbr, hc2⟩ := hc (by have := HN.out; omega); have hcc := Lib.hid hc2; clear hc hc2)
  have hw2 := HW2.out
  have e0 : 0 < m.length := by have := HN.out; omega
  have e1 : N - 1 < m.length := by have := HN.out; omega
  have c0 : w1.cell? ⟨b, off, none⟩ = some (.int .i64 0) := by have := hcc.out 0 e0; rw [H0.out e0] at this; exact this
  have c1 : w1.cell? ⟨b, off + (N - 1), none⟩ = some (.int .i64 s) := by rw [hcc.out (N - 1) e1, HL.out e1]
  clear e0 e1
  go_wp2_with (first | (go_at_call 17; refine (size_any _ _).mono ?_; rintro e w' ⟨rfl, rfl⟩; rw [← HZ.out]) | (go_at_call 18; refine (rsize_any_ _ _).mono ?_; rintro e w' ⟨rfl, rfl⟩; rw [← HZ.out]))
  clear c0 c1 hw2
  go_loopw [43, 5, 6, 44, 45, 46, 47, 48, 49, 50, 51, 52, 53, 54, 55, 56, 57, 58, 59, 60, 61, 62, 63, 64, 65, 66, 67] (fun s43 s5 s6 s44 s45 s46 s47 s48 s49 s50 s51 s52 s53 s54 s55 s56 s57 s58 s59 s60 s61 s62 s63 s64 s65 s66 s67 wr => ∃ j : Nat, j ≤ N ∧ s43 = .int .i64 j ∧ Fr none w1 wr) (fun s43 s5 s6 s44 s45 s46 s47 s48 s49 s50 s51 s52 s53 s54 s55 s56 s57 s58 s59 s60 s61 s62 s63 s64 s65 s66 s67 _ => N - (intOf s43).toNat)
  case atStart => exact ⟨0, Nat.zero_le _, rfl, Fr.refl _ _⟩
  case round =>
    obtain ⟨j, hj, rfl, F⟩ := hrel
    by_cases hlt : j < N
    · have k1 : j < m.length := by have := HN.out; omega
      obtain ⟨x, hx⟩ : ∃ x, x = m[j] := ⟨_, rfl⟩
      have d1 : wr.cell? ⟨b, off + j, none⟩ = some (.int .i64 x) := by rw [hx]; exact F.keep (hcc.out j k1) (by simp)
      have hsx : bits .and .i64 x (s : Int) = x := by rw [hx]; exact HSub.out j k1
      rcases Nat.eq_zero_or_pos j with h0 | h0
      · subst h0
        clear hx k1
        rw [Nat.add_zero] at d1
        go_wp2_with fail
        go_roundw
        case rel => exact ⟨1, by omega, by go_num, F⟩
        case measure => simp [intOf]; omega
      · have k2 : j - 1 < m.length := by omega
        obtain ⟨y, hy⟩ : ∃ y, y = m[j - 1] := ⟨_, rfl⟩
        have d2 : wr.cell? ⟨b, off + (j - 1), none⟩ = some (.int .i64 y) := by rw [hy]; exact F.keep (hcc.out (j - 1) k2) (by simp)
        have hc : cmpS y x = -1 := by rw [hx, hy]; exact HO.out (j - 1) j k2 k1 (by omega)
        have HC := Lib.hid hc
        clear hx hy hc k1 k2
        go_wp2_with (go_at_call 19; refine (rcompare_lt _ _ HC.out _).mono ?_; rintro e w' ⟨rfl, rfl⟩)
        go_roundw
        case rel => exact ⟨j + 1, by omega, by go_num, F⟩
        case measure => simp [intOf]; omega
    · obtain rfl : j = N := by omega
      go_wp2_with (go_at_call 12; refine (awake1_any _).mono ?_; rintro e w2 ⟨rfl, F2⟩)
      go_ret
      exact ⟨rfl, (F1.pure F).pure F2⟩

theorem law01s_card (a : Int) (w : World) (h : (Lit.int .u16 a).wf = true) : Calls Tryd.prog 5 #[.int .u16 a] w fun e w' => e = .returned (.bool true) ∧ Fr none w w' := by
  have hb : 0 ≤ a ∧ a ≤ 65535 := by
    simp only [Lit.wf, Bool.and_eq_true, decide_eq_true_eq] at h
    exact h
  obtain ⟨n, rfl⟩ := Int.eq_ofNat_of_zero_le hb.1
  exact law01s_any n (by omega) w
end Go.Proofs.YtidcjafmcjfkgaaDoor

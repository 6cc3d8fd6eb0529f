/- Walks: catchup.Verify of no items; sane; the law CatchupTrusts. -/
import Derived.Test.YtidnnjgiogklaaaDoorPlayTrust
import Derived.Test.YtidnnjgiogklaaaDoorTrusted
namespace Go.Proofs.YtidnnjgiogklaaaDoor
open Go.RowKit

theorem verify_nil (x : Int) (w : World) : Calls Tryd.prog 50 #[.slice none 0 0, .int .u64 x, .int .u64 x] w fun e w' => e = .returned (.bool true) ∧ w = w' := by
  go_enter Tryd.func50, Tryd.ntmps50
  go_wp2_with fail
  refine wp_loop_rounds 1 ?_
  rw [rounds_succ]
  go_wp2
  go_ret
  exact ⟨by simp, rfl⟩

theorem flat32 (s : Int) : sat s (.mk 2 (ints 3) []) = (validB s && decide ((2 : Int) ≤ (cntN s [0, 1, 2] : Nat))) := by
  simp [sat, cntI, ints, show List.range 3 = [0, 1, 2] from rfl]

theorem mask7 : sat ((maskTo [7, 7, 9] 3 7 : Nat) : Int) (.mk 2 (ints 3) []) = true := by
  rw [flat32]; decide
theorem mask9 : sat ((maskTo [7, 7, 9] 3 9 : Nat) : Int) (.mk 2 (ints 3) []) = false := by
  rw [flat32]; decide

set_option maxHeartbeats 1000000 in
theorem sane_any (w : World) : Calls Tryd.prog 17 #[] w fun e w' => e = .returned (.bool true) ∧ Fr none w w' := by
  go_enter Tryd.func17, Tryd.ntmps17
  go_wp2_with fail
  refine (flat_any 3 2 _ none (by intro g h; cases h) (by omega) (by omega) (by constructor <;> omega)).mono ?_
  rintro e w1 ⟨v, rfl, ht, F1⟩
  have ht0 := ht
  obtain ⟨A1, c1, A2, c2, rfl, h1, h2⟩ := ht.open_
  clear h1 h2
  have hl : SlU w1 none (.slice (some ⟨w.heap.size, 0, none⟩) 3 3) [7, 7, 9] :=
    ⟨SlD.lit_dm #[.int .u64 7, .int .u64 7, .int .u64 9] 30 3 1 rfl (by unfold maxLen; omega) (by intro g h; cases h) F1, by simp⟩
  have FA : Fr none w w1 := ((Fr.refl none w).alloc _).pure F1
  go_wp2_with fail
  refine (trusted_any [7, 7, 9] _ _ _ _ none hl ht0).mono ?_
  rintro e w2 ⟨x, b, rfl, hx, hb1, hb2, F2⟩
  have hb : b = true := by
    cases b
    · have := hb2 rfl 7 (by omega) ⟨0, by simp, rfl⟩
      rw [show min ([7, 7, 9] : List Nat).length 10 = 3 from rfl, show (3 : Int).toNat = 3 from rfl, mask7] at this
      cases this
    · rfl
  subst hb
  obtain ⟨hx0, ⟨i, hi, hxi⟩, hsat⟩ := hb1 rfl
  have hx7 : x = 7 := by
    have e3 : min ([7, 7, 9] : List Nat).length 10 = 3 := rfl
    rw [e3] at hsat hi
    rw [show (3 : Int).toNat = 3 from rfl] at hsat
    match i, hi with
    | 0, _ => simpa using hxi.symm
    | 1, _ => simpa using hxi.symm
    | 2, _ =>
      obtain rfl : x = 9 := by simpa using hxi.symm
      rw [mask9] at hsat
      cases hsat
  subst hx7
  clear hb1 hb2 hsat hxi
  go_wp2_with fail
  refine (verify_nil 5 _).mono ?_
  rintro e w3 ⟨rfl, rfl⟩
  go_wp2
  go_ret
  exact ⟨rfl, FA.pure F2⟩
theorem eiU64 : EInfo Tryd.prog 29 30 1 8 := EInfo.mk_ (z := .int .u64 0) (by kernel_rfl) (by kernel_rfl) rfl (by omega)

set_option maxRecDepth 100000 in
set_option maxHeartbeats 1000000 in
theorem law_any (v : Value) (t : List Int) (w : World) (ht : SlI w none v t) : Calls Tryd.prog 3 #[v] w fun e w' => e = .returned (.bool true) ∧ Fr none w w' := by
  go_enter Tryd.func3, Tryd.ntmps3
  go_wp2_with fail
  refine (srcNew_any v t _ ht).mono ?_
  rintro e w1 ⟨g, rfl, hg, S1, F1⟩
  go_wp2_with fail
  refine (srcTrust_any 5 g _ (by omega) (by omega) S1).mono ?_
  rintro e w2 ⟨tv, T, rfl, -, hT, S2, F2⟩
  have hT0 := hT
  obtain ⟨thr, nodes, inner⟩ := T
  obtain ⟨A1, c1, A2, c2, rfl, h1, h2⟩ := hT.open_
  clear h1 h2 hT
  have F02 : Fr none w w2 := F1.own F2 (by simp; omega)
  have hz2 := F2.size
  have hz1 := S1.lt
  go_wp2_with fail
  generalize hW : w2.alloc _ = w3
  have F23 : Fr none w2 w3 := hW ▸ (Fr.refl none w2).alloc _
  have B4 : Hid (w3.heap[w2.heap.size]? = some (.cells #[.int .i64 thr, .slice A1 nodes.length c1, .slice A2 inner.length c2] 27 (0, 0))) := by
    rw [← hW]; exact blk_new _ _
  have hz3 : w3.heap.size = w2.heap.size + 1 := by rw [← hW]; simp
  have hT3 := hT0.fr F23.mono
  have S3 := S2.fr F23
  have F03 := F02.pure F23
  clear hW hT0 S2 F23 F02 F2 F1 S1
  go_loopw [5, 6] (fun lv i wr => ∃ (l : List Nat) (A : Option Addr) (c : Nat), l.length ≤ 5 ∧ i = .int .i64 (l.length : Nat) ∧ lv = .slice A l.length c ∧ (∀ y ∈ l, y < 4) ∧ wr.ownsRow w3.heap.size 30 1 (.slice A l.length c) l.length (l.map u64v) ∧ Fr (some g) w3 wr ∧ SrcR 74 wr g) (fun _ i _ => 5 - (intOf i).toNat)
  case atStart => exact ⟨[], none, 0, by simp, rfl, rfl, by simp, World.ownsRow_nil _ _ _ _, Fr.refl _ _, S3⟩
  case round =>
    obtain ⟨l, A, c, hl, rfl, rfl, hb, own, F, S⟩ := hrel
    have hz := F.size
    by_cases hlt : l.length < 5
    · go_wp2_with fail
      refine (srcN_any 4 g _ (by omega) S).mono ?_
      rintro e w4 ⟨x, rfl, x1, x2, S4, F4⟩
      have own4 := own_fr own F4 (by simp; omega)
      have hz4 := F4.size
      obtain ⟨y, rfl⟩ := Int.eq_ofNat_of_zero_le x1
      go_wp2_with (at_builtin; refine app_lit eiU64 rfl _ _ rfl w3.heap.size A l.length c _ rfl own4 1 [.int .u64 y] _ _ rfl (by simp) rfl (by simp [Value.oneCell']) (by omega) (by unfold maxLen; omega) (by omega) ?_; intro A' c' w5 own5 F5 bl5)
      have own' := own_blk_ge own4
      go_roundw
      case rel =>
        refine ⟨l ++ [y], A', c', by simp; omega, by simp, by simp, ?_, by simpa [u64v] using own5, (F.same F4).own F5 own', S4.frs F5 (fun b e => by have := own' b e; omega)⟩
        intro z hz
        rcases List.mem_append.1 hz with h | h
        · exact hb z h
        · simp at h; omega
      case measure => simp [intOf]; omega
    · have HL5 : Hid (l.length = 5) := by have : l.length = 5 := by omega
                                          exact this
      have B5 : Hid (wr.heap[w2.heap.size]? = some (.cells #[.int .i64 thr, .slice A1 nodes.length c1, .slice A2 inner.length c2] 27 (0, 0))) := Lib.hid (blk_fr B4.out F (by simp; omega))
      have R5 := blk_cell B5.out
      have hT5 := (hT3.fr F).weak
      have hlU : SlU wr none (.slice A l.length c) l := SlU.of_own own (by simp) (fun y hy => by have := hb y hy; omega)
      go_wp2_with fail
      refine (trusted_any l _ _ _ _ none hlU hT5).mono ?_
      rintro e w5 ⟨x, b, rfl, hx, hb1, hb2, F5⟩
      have FW := (F03.own (F.pure F5) (by simp; omega))
      have B6 : Hid (w5.heap[w2.heap.size]? = some (.cells #[.int .i64 thr, .slice A1 nodes.length c1, .slice A2 inner.length c2] 27 (0, 0))) := Lib.hid (blk_fr B5.out F5 (by simp))
      have hlU6 := hlU.fr F5
      have hT6 := hT5.fr F5
      clear hlU hT5 hT3 B5 R5 B4 own S F F5 S3 F03
      go_wp2_with fail
      have hx0 : b = true → x ≠ 0 := fun h => (hb1 h).1
      have hsat : b = true → sat ((maskTo l 5 x : Nat) : Int) (.mk thr nodes inner) = true := fun h => by
        have := (hb1 h).2.2
        rw [HL5.out] at this
        exact this
      have HX0 := Lib.hid hx0
      have HSAT := Lib.hid hsat
      clear hb1 hb2 hx0 hsat
      obtain ⟨A', c', e0, q1, q2, hcc⟩ := hlU6.open_
      injection e0 with e1 _ e3
      subst e1 e3
      clear hlU6
      go_loop [9, 36] (fun sd i => ∃ k : Nat, k ≤ l.length ∧ i = .int .i64 k ∧ sd = .int .i64 (((if b then maskTo l k x else 0) : Nat) : Int)) (fun _ i => l.length - (intOf i).toNat)
      case atStart => exact ⟨0, Nat.zero_le _, rfl, by cases b <;> rfl⟩
      case round =>
        obtain ⟨k, hk, rfl, rfl⟩ := hrel
        by_cases hlt : k < l.length
        · have hk5 : k < 5 := by have := HL5.out; omega
          obtain ⟨bb, off, rfl, hbk, hbr, hc⟩ := hcc (by omega)
          have hck := hc k hlt
          have hlk := Lib.hid (hb (l.getD k 0) (by rw [List.getD_eq_getElem?_getD, List.getElem?_eq_getElem (by omega)]; exact List.getElem_mem _))
          have hst : Hid (maskTo l (k + 1) x = if l.getD k 0 = x then maskTo l k x ||| 2 ^ k else maskTo l k x) := rfl
          have hm1 := maskTo_lt l x k
          generalize l.getD k 0 = y at *
          clear hc hcc
          cases b
          · go_wp2_with fail
            go_round
            case rel => exact ⟨k + 1, by omega, by go_num, rfl⟩
            case measure => simp [intOf]; omega
          · by_cases hyx : y = x
            · have hyb : ((y : Int) == (x : Int)) = true := by rw [hyx]; exact beq_self_eq_true _
              have hp := pow2_lt k (by omega)
              have hbits : bits .or .i64 ((maskTo l k x : Nat) : Int) (wrap64 (2 ^ k)) = ((maskTo l k x ||| 2 ^ k : Nat) : Int) := by
                rw [wrap_pow k (by omega), or_i64 _ _ (by omega) (by omega)]
              have HY := Lib.hid hyx
              clear hp hm1 hyx
              go_wp2_with fail
              go_round
              case rel => exact ⟨k + 1, by omega, by go_num, by rw [hst.out, if_pos HY.out]⟩
              case measure => simp [intOf]; omega
            · have hyb : ((y : Int) == (x : Int)) = false := by rw [beq_eq_false_iff_ne]; omega
              go_wp2_with fail
              go_round
              case rel => exact ⟨k + 1, by omega, by go_num, by rw [hst.out, if_neg hyx]⟩
              case measure => simp [intOf]; omega
        · obtain rfl : k = l.length := by omega
          have R6 := blk_cell B6.out
          clear hcc
          go_upto_region 16 with (fail)
          go_cut [7, 8, 9, 63] (fun _ _ _ s63 wr => s63 = .bool false ∧ Fr none w5 wr)
          case first =>
            cases b
            · go_wp2_with fail
              go_meet
              exact ⟨rfl, Fr.refl _ _⟩
            · have hx0 : ((x : Int) == 0) = false := by rw [beq_eq_false_iff_ne]; have := HX0.out (by trivial); omega
              go_wp2_with fail
              refine (rsat_any _ _ _ _ _ none (Nat.le_refl _) hT6).mono ?_
              rintro e w6 ⟨rfl, F6⟩
              have hs : sat (((if true = true then maskTo l l.length x else 0) : Nat) : Int) (.mk thr nodes inner) = true := by
                have := HSAT.out (by trivial)
                rw [HL5.out]
                exact this
              have hs' : sat ((maskTo l l.length x : Nat) : Int) (.mk thr nodes inner) = true := hs
              clear hs
              go_wp2_with fail
              go_meet
              exact ⟨rfl, F6⟩
          case rest =>
            obtain ⟨rfl, F6⟩ := hcut
            have hT7 := hT6.fr F6
            have B7 : Hid (wc.heap[w2.heap.size]? = some (.cells #[.int .i64 thr, .slice A1 nodes.length c1, .slice A2 inner.length c2] 27 (0, 0))) := Lib.hid (blk_fr B6.out F6 (by simp))
            have R7 := blk_cell B7.out
            have FW7 := FW.pure F6
            clear R6 B6 F6 hT6 FW
            have hz7 := blk_lt B7.out
            go_wp2_with fail
            have FA := (Fr.refl none wc).alloc (.cells #[.int .u64 9, .int .u64 9, .int .u64 9, .int .u64 9, .int .u64 9] 30)
            have hl9 : SlU (wc.alloc (.cells #[.int .u64 9, .int .u64 9, .int .u64 9, .int .u64 9, .int .u64 9] 30)) none (.slice (some ⟨wc.heap.size, 0, none⟩) 5 5) [9, 9, 9, 9, 9] :=
              ⟨SlD.lit_dm #[.int .u64 9, .int .u64 9, .int .u64 9, .int .u64 9, .int .u64 9] 30 5 1 rfl (by unfold maxLen; omega) (by intro g h; cases h) (Fr.refl _ _), by simp⟩
            refine (trusted_any [9, 9, 9, 9, 9] _ _ _ _ none hl9 (hT7.fr FA)).mono ?_
            rintro e w8 ⟨x9, b9, rfl, hx9, hb91, hb92, F8⟩
            have FB := FA.pure F8
            have e9 : b9 = true → x9 = 9 := fun h => by
              obtain ⟨_, ⟨i, hi, hxi⟩, _⟩ := hb91 h
              rw [← hxi]
              match i, hi with
              | 0, _ => rfl
              | 1, _ => rfl
              | 2, _ => rfl
              | 3, _ => rfl
              | 4, _ => rfl
            have s9 : sat 31 (.mk thr nodes inner) = b9 := by
              cases h : b9
              · have := hb92 h 9 (by omega) ⟨0, by simp, rfl⟩
                exact this
              · obtain ⟨_, _, h3⟩ := hb91 h
                rw [e9 h] at h3
                exact h3
            have B8 : Hid (w8.heap[w2.heap.size]? = some (.cells #[.int .i64 thr, .slice A1 nodes.length c1, .slice A2 inner.length c2] 27 (0, 0))) := Lib.hid (blk_fr B7.out FB (by simp))
            have R8 := blk_cell B8.out
            have hT8 := hT7.fr FB
            have FW8 := FW7.pure FB
            have S9 := Lib.hid s9
            have E9 := Lib.hid e9
            clear R7 B7 FA F8 FB hT7 FW7 hb91 hb92 s9 e9 hl9
            go_wp2_with fail
            refine (rsat_any _ _ _ _ _ none (Nat.le_refl _) hT8).mono ?_
            rintro e w9 ⟨rfl, F9⟩
            rw [S9.out]
            have FW9 := FW8.pure F9
            clear R8 B8 hT8 FW8 F9
            cases b9
            · go_wp2_with fail
              refine (sane_any _).mono ?_
              rintro e w10 ⟨rfl, F10⟩
              go_wp2
              go_ret
              exact ⟨rfl, FW9.pure F10⟩
            · have h9 : ((x9 : Int) == 9) = true := by rw [E9.out rfl]; rfl
              go_wp2_with fail
              refine (sane_any _).mono ?_
              rintro e w10 ⟨rfl, F10⟩
              go_wp2
              go_ret
              exact ⟨rfl, FW9.pure F10⟩
end Go.Proofs.YtidnnjgiogklaaaDoor

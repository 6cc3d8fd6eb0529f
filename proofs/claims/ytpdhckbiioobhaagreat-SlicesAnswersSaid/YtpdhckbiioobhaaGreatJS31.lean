/- Some texts of this claim, joined: contracts of the functions that it reaches, and plain laws. -/
import Derived.Test.YtpdhckbiioobhaaGreatProg
import Derived.Test.YtpdhckbiioobhaaGreatJS30
import Derived.Test.YtpdhckbiioobhaaGreatJS20
import Derived.Test.YtpdhckbiioobhaaGreatJS6
import Derived.Test.YtpdhckbiioobhaaGreatJS26
import Derived.Test.YtpdhckbiioobhaaGreatJS25
import Derived.Test.YtpdhckbiioobhaaGreatJS17
import Derived.Test.YtpdhckbiioobhaaGreatJS11
import Derived.Test.YtpdhckbiioobhaaGreatJS21

set_option linter.unusedSimpArgs false
set_option linter.unusedVariables false
/- Walks: normal.Normal, Is; the reference's. -/
namespace Go.Proofs.YtpdhckbiioobhaaGreat
open Go.RowKit

theorem valid_facts {t : Tr} (h : validE t = 0) : OkT t ∧ t.size ≤ 200 ∧ t.dep ≤ 4 := by
  unfold validE at h
  split at h
  · omega
  · exact ⟨(okT_iff t).1 h, by omega, by omega⟩
/-- What Normal hands back. -/
def nrmV (t : Tr) : Tr := if validE t = 0 then normT t else .mk 0 [] []
def isN (t : Tr) : Bool := (validE t == 0) && sameT (nrmV t) t
/-- The old blocks (but for r) and those from w2 on. -/
def D3 (r : Option Nat) (w w2 w3 : World) : Nat → Prop := fun b => ((b < w.heap.size ∧ some b ≠ r) ∨ w2.heap.size ≤ b) ∧ b < w3.heap.size
theorem nwb_d3 {r : Option Nat} {w w2 w3 : World} (_ : w.heap.size ≤ w2.heap.size) (_ : Fr none w2 w3) : ∀ b, Nwb w2 w3 b → D3 r w w2 w3 b ∧ w3.heap[b]? = w3.heap[b]? := fun b hb => ⟨⟨.inr hb.1, hb.2⟩, rfl⟩
theorem dw_d3 {r : Option Nat} {w w2 w3 : World} (h : w.heap.size ≤ w2.heap.size) (F : Fr none w2 w3) : ∀ b, Dw (fun b => b < w.heap.size ∧ some b ≠ r) w2 w3 b → D3 r w w2 w3 b ∧ w3.heap[b]? = w3.heap[b]? := fun b hb => by
  have := F.size
  rcases hb with h | h
  · exact ⟨⟨.inl h, by have := h.1; omega⟩, rfl⟩
  · exact ⟨⟨.inr h.1, h.2⟩, rfl⟩
theorem d3_dm {r : Option Nat} {w w2 w3 w4 : World} (hr : ∀ g, r = some g → g < w.heap.size) (h : w.heap.size + 1 < w2.heap.size) (G : Fr (some (w.heap.size + 1)) w3 w4) : ∀ b, D3 r w w2 w3 b → Dm w4 r b ∧ w4.heap[b]? = w3.heap[b]? := fun b hb => by
  have hz := G.size
  obtain ⟨h1, h2⟩ := hb
  refine ⟨⟨by omega, fun e => ?_⟩, G.block b h2 (by simp; omega)⟩
  have := hr b e.symm
  rcases h1 with h1 | h1
  · exact h1.2 e
  · omega
set_option maxRecDepth 100000 in
set_option maxHeartbeats 1000000 in
theorem normal_any (t : Tr) (v : Value) (w : World) (r : Option Nat) (hr : ∀ g, r = some g → g < w.heap.size) (h : TrR w r v t) (hs : t.size ≤ 1073741000) :
    Calls Tryz.prog 32 #[v] w fun e w' => ∃ v', e = .returned (.tuple #[v', .int .i64 (validE t)]) ∧ TrR w' r v' (nrmV t) ∧ Fr none w w' := by
  obtain ⟨th, A1, n1, c1, A2, n2, c2, rfl⟩ := TrD.shape h
  go_enter Tryz.func32, Tryz.ntmps32
  go_wp2_with fail
  generalize hW : (w.alloc _).alloc _ = w1
  have F1 : Fr none w w1 := hW ▸ ((Fr.refl none w).alloc _).alloc _
  have b1 : TB w1 w.heap.size (.int .i64 th) (.slice A1 n1 c1) (.slice A2 n2 c2) := by rw [← hW]; exact (Below.heap_alloc _ _ _ (by simp)).trans (blk_new _ _)
  have b2 : TB w1 (w.heap.size + 1) (.int .i64 0) (.slice none 0 0) (.slice none 0 0) := by rw [← hW]; exact blk_new_at (by simp) _
  clear hW
  have h1 := h.fr (F1.mono (r := r))
  refine (validT_any t _ _ r hs h1).mono ?_
  rintro e w2 ⟨rfl, F2⟩
  have b1 := b1.fr F2 (by simp)
  have b2 := b2.fr F2 (by simp)
  have F2 := F1.pure F2
  have h2 : TrD w2 (fun b => b < w.heap.size ∧ some b ≠ r) _ t := TrD.keep (fun k hk => ⟨hk, F2.block k hk.1 (by simp)⟩) _ _ h
  clear h h1 F1
  have R1 := b1.cell
  have R2 := b2.cell
  have Z2 := b2.free
  have hl2 : w.heap.size + 1 < w2.heap.size := blk_lt b2
  by_cases hv : validE t = 0
  · obtain ⟨hok, hsz, hdp⟩ := valid_facts hv
    have hv0 : (validE t != 0) = false := by rw [bne_eq_false_iff_eq]; exact hv
    have HN : Hid (nrmV t = normT t) := by unfold Hid nrmV; rw [if_pos hv]
    have HV := Lib.hid hv
    clear hv
    go_wp2_with fail
    refine (nnorm_any t.dep t _ (fun b => b < w.heap.size ∧ some b ≠ r) w2 (Nat.le_refl _) hok (by omega) (fun b hb => by have := hb.1; omega) h2).mono ?_
    rintro e w3 ⟨v3, rfl, hT3, F3⟩
    have hT3 := TrD.keep (nwb_d3 (w := w) (r := r) (by omega) F3) _ _ hT3
    obtain ⟨th3, X1, m1, k1, X2, m2, k2, rfl⟩ := TrD.shape hT3
    have b3 := b2.fr F3 (by simp)
    have R3 := b3.cell
    have Z3 := b3.free
    have hl3 : w.heap.size + 1 < w3.heap.size := blk_lt b3
    have hl2' := hl2
    have F3 := F2.pure F3
    clear R1 R2 Z2 b1 b2 hl2
    go_wp2_with fail
    refine bodyPost_ret (v := .tuple #[.agg #[.int .i64 th3, .slice X1 m1 k1, .slice X2 m2 k2], .int .i64 0]) (by simp [results, Tryz.results32, go_sem, R3]) rfl ?_
    have G := fr_fill3 w3 (w.heap.size + 1) (.int .i64 th3) (.slice X1 m1 k1) (.slice X2 m2 k2)
    exact ⟨_, by rw [HV.out], by rw [HN.out]; exact TrD.keep (d3_dm hr hl2' G) _ _ hT3, F3.own G (by simp)⟩
  · have hv0 : (validE t != 0) = true := by rw [bne_iff_ne]; exact hv
    have HN : Hid (nrmV t = .mk 0 [] []) := by unfold Hid nrmV; rw [if_neg hv]
    clear hv
    go_wp2_with fail
    refine bodyPost_ret (v := .tuple #[.agg #[.int .i64 0, .slice none 0 0, .slice none 0 0], .int .i64 (validE t)]) (by simp [results, Tryz.results32, go_sem, R2]) rfl ?_
    have G := fr_fill3 w2 (w.heap.size + 1) (.int .i64 0) (.slice none 0 0) (.slice none 0 0)
    exact ⟨_, rfl, by rw [HN.out]; exact TrD.mk_ (by constructor <;> omega) (SlD.nil _ _ _) (by simp) (SlD.nil _ _ _) (by simp) (by simp) (by simp [TrsD]), F2.own G (by simp)⟩
set_option maxRecDepth 100000 in
set_option maxHeartbeats 1000000 in
theorem rnormal_any (t : Tr) (v : Value) (w : World) (r : Option Nat) (hr : ∀ g, r = some g → g < w.heap.size) (h : TrR w r v t) (hs : t.size ≤ 1073741000) :
    Calls Tryz.prog 33 #[v] w fun e w' => ∃ v', e = .returned (.tuple #[v', .int .i64 (validE t)]) ∧ TrR w' r v' (nrmV t) ∧ Fr none w w' := by
  obtain ⟨th, A1, n1, c1, A2, n2, c2, rfl⟩ := TrD.shape h
  go_enter Tryz.func33, Tryz.ntmps33
  go_wp2_with fail
  generalize hW : (w.alloc _).alloc _ = w1
  have F1 : Fr none w w1 := hW ▸ ((Fr.refl none w).alloc _).alloc _
  have b1 : TB w1 w.heap.size (.int .i64 th) (.slice A1 n1 c1) (.slice A2 n2 c2) := by rw [← hW]; exact (Below.heap_alloc _ _ _ (by simp)).trans (blk_new _ _)
  have b2 : TB w1 (w.heap.size + 1) (.int .i64 0) (.slice none 0 0) (.slice none 0 0) := by rw [← hW]; exact blk_new_at (by simp) _
  clear hW
  have h1 := h.fr (F1.mono (r := r))
  refine (rvalidT_any t _ _ r hs h1).mono ?_
  rintro e w2 ⟨rfl, F2⟩
  have b1 := b1.fr F2 (by simp)
  have b2 := b2.fr F2 (by simp)
  have F2 := F1.pure F2
  have h2 : TrD w2 (fun b => b < w.heap.size ∧ some b ≠ r) _ t := TrD.keep (fun k hk => ⟨hk, F2.block k hk.1 (by simp)⟩) _ _ h
  clear h h1 F1
  have R1 := b1.cell
  have R2 := b2.cell
  have Z2 := b2.free
  have hl2 : w.heap.size + 1 < w2.heap.size := blk_lt b2
  by_cases hv : validE t = 0
  · obtain ⟨hok, hsz, hdp⟩ := valid_facts hv
    have hv0 : (validE t != 0) = false := by rw [bne_eq_false_iff_eq]; exact hv
    have HN : Hid (nrmV t = normT t) := by unfold Hid nrmV; rw [if_pos hv]
    have HV := Lib.hid hv
    clear hv
    go_wp2_with fail
    refine (rnorm_any t.dep t _ (fun b => b < w.heap.size ∧ some b ≠ r) w2 (Nat.le_refl _) hok (by omega) (fun b hb => by have := hb.1; omega) h2).mono ?_
    rintro e w3 ⟨v3, rfl, hT3, F3⟩
    have hT3 := TrD.keep (dw_d3 (w := w) (r := r) (by omega) F3) _ _ hT3
    obtain ⟨th3, X1, m1, k1, X2, m2, k2, rfl⟩ := TrD.shape hT3
    have b3 := b2.fr F3 (by simp)
    have R3 := b3.cell
    have Z3 := b3.free
    have hl3 : w.heap.size + 1 < w3.heap.size := blk_lt b3
    have hl2' := hl2
    have F3 := F2.pure F3
    clear R1 R2 Z2 b1 b2 hl2
    go_wp2_with fail
    refine bodyPost_ret (v := .tuple #[.agg #[.int .i64 th3, .slice X1 m1 k1, .slice X2 m2 k2], .int .i64 0]) (by simp [results, Tryz.results33, go_sem, R3]) rfl ?_
    have G := fr_fill3 w3 (w.heap.size + 1) (.int .i64 th3) (.slice X1 m1 k1) (.slice X2 m2 k2)
    exact ⟨_, by rw [HV.out], by rw [HN.out]; exact TrD.keep (d3_dm hr hl2' G) _ _ hT3, F3.own G (by simp)⟩
  · have hv0 : (validE t != 0) = true := by rw [bne_iff_ne]; exact hv
    have HN : Hid (nrmV t = .mk 0 [] []) := by unfold Hid nrmV; rw [if_neg hv]
    clear hv
    go_wp2_with fail
    refine bodyPost_ret (v := .tuple #[.agg #[.int .i64 0, .slice none 0 0, .slice none 0 0], .int .i64 (validE t)]) (by simp [results, Tryz.results33, go_sem, R2]) rfl ?_
    have G := fr_fill3 w2 (w.heap.size + 1) (.int .i64 0) (.slice none 0 0) (.slice none 0 0)
    exact ⟨_, rfl, by rw [HN.out]; exact TrD.mk_ (by constructor <;> omega) (SlD.nil _ _ _) (by simp) (SlD.nil _ _ _) (by simp) (by simp) (by simp [TrsD]), F2.own G (by simp)⟩
set_option maxRecDepth 100000 in
set_option maxHeartbeats 1000000 in
theorem ris_any (t : Tr) (v : Value) (w : World) (h : TrR w none v t) (hs : t.size ≤ 1073741000) :
    Calls Tryz.prog 9 #[v] w fun e w' => e = .returned (.bool (isN t)) ∧ Fr none w w' := by
  obtain ⟨th, A1, n1, c1, A2, n2, c2, rfl⟩ := TrD.shape h
  go_enter Tryz.func9, Tryz.ntmps9
  go_wp2_with fail
  generalize hW : w.alloc _ = w1
  have F1 : Fr none w w1 := hW ▸ (Fr.refl none w).alloc _
  have b1 : TB w1 w.heap.size (.int .i64 th) (.slice A1 n1 c1) (.slice A2 n2 c2) := by rw [← hW]; exact blk_new _ _
  clear hW
  have h1 := h.fr F1
  refine (rnormal_any t _ _ none (by simp) h1 hs).mono ?_
  rintro e w2 ⟨v2, rfl, hT2, F2⟩
  obtain ⟨th2, X1, m1, k1, X2, m2, k2, rfl⟩ := TrD.shape hT2
  have FA := (Fr.refl none w2).alloc (.cells #[.int .i64 th2, .slice X1 m1 k1, .slice X2 m2 k2] 29)
  have bw := b1.fr F2 (by simp)
  have h2 := (h1.fr F2).fr FA
  have hT3 := hT2.fr FA
  have F2 := F1.pure F2
  have R1 := bw.cell
  have hlw := blk_lt bw
  clear h h1 F1 b1 hT2
  by_cases hv : validE t = 0
  · have hv0 : (validE t == 0) = true := by rw [beq_iff_eq]; exact hv
    have HI : Hid (isN t = sameT (nrmV t) t) := by unfold Hid isN; rw [hv0]; rfl
    clear hv
    go_wp2_with (go_at_call 26; refine (rsame_any _ _ _ _ _ _ none (Nat.le_refl _) hT3 h2).mono ?_; rintro e w3 ⟨rfl, F3⟩)
    go_ret
    exact ⟨ret_bool HI.out.symm, (F2.pure FA).pure F3⟩
  · have hv0 : (validE t == 0) = false := by rw [beq_eq_false_iff_ne]; exact hv
    have HI : Hid (isN t = false) := by unfold Hid isN; rw [hv0]; rfl
    clear hv
    go_wp2_with fail
    go_ret
    exact ⟨ret_bool HI.out.symm, F2.pure FA⟩
end Go.Proofs.YtpdhckbiioobhaaGreat

/- Walks: slices.Of. -/
namespace Go.Proofs.YtpdhckbiioobhaaGreat
open Go.RowKit

def badS (x : Int) : Bool := !validB x || x == 0
def ofE (l : List Int) : Int := if l.any badS then 1 else if l = [] then 1 else validE (ofT (leastS l))
def ofV (l : List Int) : Tr := if l.any badS then .mk 0 [] [] else if l = [] then .mk 0 [] [] else nrmV (ofT (leastS l))
/-- What Of leaves. -/
def OfP (l : List Int) (w : World) (e : Ending) (w' : World) : Prop := ∃ v', e = .returned (.tuple #[v', .int .i64 (ofE l)]) ∧ TrR w' none v' (ofV l) ∧ Fr none w w'
theorem zero_trr (w : World) (r : Option Nat) : TrR w r (.agg #[.int .i64 0, .slice none 0 0, .slice none 0 0]) (.mk 0 [] []) :=
  TrD.mk_ (by constructor <;> omega) (SlD.nil _ _ _) (by simp) (SlD.nil _ _ _) (by simp) (by simp) (by simp [TrsD])

set_option maxRecDepth 100000 in
set_option maxHeartbeats 2000000 in
theorem sof_any (l : List Int) (v : Value) (w : World) (h : SlI w none v l) (hlen : l.length ≤ 1048576) : Calls Tryz.prog 8 #[v] w (OfP l w) := by
  obtain ⟨A, c, rfl, q1, q2, hcc⟩ := h.open_
  have HCC := Lib.hid hcc
  have HH := Lib.hid h
  clear hcc h
  go_enter Tryz.func8, Tryz.ntmps8
  go_wp2_with fail
  generalize hW : w.alloc _ = w1
  have F1 : Fr none w w1 := hW ▸ (Fr.refl none w).alloc _
  have b2 : TB w1 w.heap.size (.int .i64 0) (.slice none 0 0) (.slice none 0 0) := by rw [← hW]; exact blk_new _ _
  clear hW
  have R2 := b2.cell
  have Z2 := b2.free
  have hl2 := blk_lt b2
  go_loop [11] (fun s11 => ∃ j : Nat, j ≤ l.length ∧ s11 = .int .i64 (j : Int) ∧ Hid ((l.take j).any badS = false)) (fun s11 => l.length - (intOf s11).toNat)
  case atStart => exact ⟨0, Nat.zero_le _, rfl, by simp [Hid]⟩
  case round =>
    obtain ⟨j, hj, rfl, HJ⟩ := hrel
    by_cases hlt : j < l.length
    · obtain ⟨b, off, rfl, hb, _, hcj⟩ := HCC.out (by omega)
      have hx := F1.keep (hcj j hlt) (by simp)
      have HT : Hid (l.take (j + 1) = l.take j ++ [l[j]]) := List.take_succ_eq_append_getElem hlt
      have HM : Hid (l[j] ∈ l) := List.getElem_mem _
      generalize l[j] = s at *
      clear hcj
      cases hv : validB s with
      | false =>
        have HA : Hid (l.any badS = true) := List.any_eq_true.2 ⟨s, HM.out, by unfold badS; rw [hv]; rfl⟩
        have HV := Lib.hid hv
        clear hv
        go_wp2_with (go_at_call 28; refine (valid_any _ _).mono ?_; rintro e w' ⟨rfl, rfl⟩; rw [HV.out])
        refine bodyPost_ret (v := .tuple #[.agg #[.int .i64 0, .slice none 0 0, .slice none 0 0], .int .i64 1]) (by simp [results, Tryz.results8, go_sem, R2]) rfl ?_
        have G := fr_fill3 w1 w.heap.size (.int .i64 0) (.slice none 0 0) (.slice none 0 0)
        exact ⟨_, by unfold ofE; rw [if_pos HA.out], by unfold ofV; rw [if_pos HA.out]; exact zero_trr _ _, F1.own G (by simp)⟩
      | true =>
        have HV := Lib.hid hv
        clear hv
        by_cases h0 : s = 0
        · subst h0
          have HA : Hid (l.any badS = true) := List.any_eq_true.2 ⟨0, HM.out, by unfold badS; simp⟩
          go_wp2_with (go_at_call 28; refine (valid_any _ _).mono ?_; rintro e w' ⟨rfl, rfl⟩; rw [HV.out])
          refine bodyPost_ret (v := .tuple #[.agg #[.int .i64 0, .slice none 0 0, .slice none 0 0], .int .i64 1]) (by simp [results, Tryz.results8, go_sem, R2]) rfl ?_
          have G := fr_fill3 w1 w.heap.size (.int .i64 0) (.slice none 0 0) (.slice none 0 0)
          exact ⟨_, by unfold ofE; rw [if_pos HA.out], by unfold ofV; rw [if_pos HA.out]; exact zero_trr _ _, F1.own G (by simp)⟩
        · have hb0 : (s == 0) = false := by rw [beq_eq_false_iff_ne]; exact h0
          have H0 := Lib.hid h0
          clear h0
          go_wp2_with (go_at_call 28; refine (valid_any _ _).mono ?_; rintro e w' ⟨rfl, rfl⟩; rw [HV.out])
          go_round
          case rel => exact ⟨j + 1, by omega, by go_num, by unfold Hid; rw [HT.out, List.any_append, HJ.out]; simp [badS, HV.out, H0.out]⟩
          case measure => simp [intOf]; omega
    · obtain rfl : j = l.length := by omega
      have HA : Hid (l.any badS = false) := by have := HJ.out; rw [List.take_length] at this; exact this
      clear HJ
      by_cases hl0 : l.length = 0
      · have HN : Hid (l = []) := List.eq_nil_of_length_eq_zero hl0
        have hb0 : ((l.length : Int) == 0) = true := by rw [beq_iff_eq]; omega
        clear hl0
        go_wp2_with fail
        refine bodyPost_ret (v := .tuple #[.agg #[.int .i64 0, .slice none 0 0, .slice none 0 0], .int .i64 1]) (by simp [results, Tryz.results8, go_sem, R2]) rfl ?_
        have G := fr_fill3 w1 w.heap.size (.int .i64 0) (.slice none 0 0) (.slice none 0 0)
        exact ⟨_, by unfold ofE; rw [if_neg (by rw [HA.out]; simp), if_pos HN.out], by unfold ofV; rw [if_neg (by rw [HA.out]; simp), if_pos HN.out]; exact zero_trr _ _, F1.own G (by simp)⟩
      · have HE : Hid (ofE l = validE (ofT (leastS l))) := by unfold Hid ofE; rw [if_neg (by rw [HA.out]; simp), if_neg (by intro e; rw [e] at hl0; exact hl0 rfl)]
        have HVV : Hid (ofV l = nrmV (ofT (leastS l))) := by unfold Hid ofV; rw [if_neg (by rw [HA.out]; simp), if_neg (by intro e; rw [e] at hl0; exact hl0 rfl)]
        have hb0 : ((l.length : Int) == 0) = false := by rw [beq_eq_false_iff_ne]; omega
        have hls := Nat.le_trans (leastS_len l) hlen
        clear hl0 HA R2 Z2
        go_wp2_with fail
        generalize hW : w1.alloc _ = w2
        have F2 : Fr none w1 w2 := hW ▸ (Fr.refl none w1).alloc _
        have hz1 : w.heap.size < w1.heap.size := hl2
        have b6 : TB w2 w1.heap.size (.int .i64 1) (.slice none 0 0) (.slice none 0 0) := by rw [← hW]; exact blk_new _ _
        clear hW hl2
        have b2 := b2.fr F2 (by simp)
        have F02 := F1.pure F2
        refine (least_any l _ _ (HH.out.fr F02) (by omega)).mono ?_
        rintro e w3 ⟨v3, rfl, D3', F3⟩
        obtain ⟨A3, c3, rfl, p1, p2⟩ := D3'.formI
        have hz3 := F3.size
        have hz2 : w1.heap.size < w2.heap.size := by have := blk_lt b6; omega
        have b2 := b2.fr F3 (by simp)
        have b6 := b6.fr F3 (by simp)
        have F03 := F02.pure F3
        have hmem : ∀ x ∈ leastS l, validB x = true := fun x hx => (leastS_mem hx).2
        obtain ⟨L, hL⟩ : ∃ L, L = leastS l := ⟨_, rfl⟩
        rw [← hL] at D3' p1 hls hmem HE HVV ⊢
        have HMV := Lib.hid hmem
        have hks0 : SlD w3 (fun b => b < w3.heap.size ∧ b ≠ w1.heap.size) 1 (.slice A3 L.length c3) (L.map (Value.int .i64)) := D3'.keep (fun k hk => ⟨⟨hk.2, by have := hk.1; omega⟩, rfl⟩)
        clear hL D3' hmem F2 F02 F3
        go_wp2_with fail
        have l6 := blk_lt b6
        go_loopw [8, 32] (fun _ i wr => ∃ (j : Nat) (A2 : Option Addr) (c2 : Nat) (cells : List Value), j ≤ L.length ∧ i = .int .i64 j ∧ Fr (some w1.heap.size) w3 wr ∧ TB wr w1.heap.size (.int .i64 1) (.slice none 0 0) (.slice A2 j c2) ∧
          wr.ownsRow w3.heap.size 29 3 (.slice A2 j c2) j cells ∧ TrsD wr (Dx w3.heap.size wr (.slice A2 j c2)) cells ((L.take j).map setT)) (fun _ i _ => L.length - (intOf i).toNat)
        case atStart => exact ⟨0, none, 0, [], Nat.zero_le _, rfl, Fr.refl _ _, b6, World.ownsRow_nil _ _ _ _, by simp [TrsD]⟩
        case round =>
          obtain ⟨j, A2, c2, cells, hj, rfl, F, K6, own, hts⟩ := hrel
          have hz := F.size
          by_cases hlt : j < L.length
          · have hks : SlD wr (fun b => b < w3.heap.size ∧ b ≠ w1.heap.size) 1 (.slice A3 L.length c3) (L.map (Value.int .i64)) := hks0.keep (fun k hk => ⟨hk, F.block k hk.1 (by simpa using hk.2)⟩)
            obtain ⟨b, off, rfl, hb, hcj⟩ := hks.cellI j hlt
            have HT : Hid (L.take (j + 1) = L.take j ++ [L[j]]) := List.take_succ_eq_append_getElem hlt
            generalize L[j] = s at *
            have hsz : Wi (sizS s) := by
              unfold sizS
              split
              · have := popB_le s.toNat 10; constructor <;> omega
              · constructor <;> omega
            have R6 := K6.cell
            have Z6 := K6.free
            have l6' : w1.heap.size < wr.heap.size := blk_lt K6
            have K6d : TB wr.drew w1.heap.size (.int .i64 1) (.slice none 0 0) (.slice A2 j c2) := K6
            have own' := own.drew
            have hzd : w3.heap.size ≤ wr.drew.heap.size := hz
            have hts' : TrsD wr.drew (Dx w3.heap.size wr.drew (.slice A2 j c2)) cells ((L.take j).map setT) := TrsD.keep (w := wr) (w' := wr.drew) (fun k hk => ⟨hk, rfl⟩) _ _ hts
            go_upto_region 13 with (fail)
            go_region_law (first
              | (go_simp; go_at_call 30; refine (size_any s _).mono ?_; rintro e w' ⟨rfl, rfl⟩)
              | (go_simp; go_at_call 31; refine (nodes_any s _).mono ?_; rintro e w4 ⟨A9, c9, rfl, F4, own9⟩; have K4 := K6d.fr F4 (by simp); have R4 := K4.cell; have Z4 := K4.free; have own4 := own_fr own' F4 (by simp); have hz4 := F4.size; have l4 := blk_lt K4)
              | (refine step_app_lit eiTrust rfl _ _ rfl w3.heap.size A2 j c2 _ rfl own4 1 [.int .i64 (sizS s), .slice A9 (nodesK s 10).length c9, .slice none 0 0] 29 _ rfl (by simp) rfl (by simp [Value.oneCell']) (by omega) (by unfold maxLen; omega) (by omega) ?_; intro A5 c5 w5 own5 F5 nb5; have K5 := K4.fr F5 (own_ne own4 (by omega)); have R5 := K5.cell; have Z5 := K5.free))
            all_goals
              go_wp2_with fail
              have FS := Fr.set1 w5 ⟨w1.heap.size, 2, none⟩ (.slice A5 (j + 1) c5)
              have og := own_blk_ge own4
              have ol := own.lt
              have hz5 := F5.size
              have hzS := FS.size
              have hnd : TrD w4 (Dn wr.heap.size w4) (.agg #[.int .i64 (sizS s), .slice A9 (nodesK s 10).length c9, .slice none 0 0]) (setT s) := by
                refine TrD.mk_ hsz ((SlD.own_dn own9).keep (fun k hk => ⟨hk, rfl⟩)) (fun x hx => ?_) (SlD.nil _ _ _) (by have := nodesK_len s 10; omega) (by simp) (by simp [TrsD])
                have := nodesK_bd s 10 x hx
                constructor <;> omega
              go_roundw
              case rel =>
                have t1 := TrsD.keep (dx_fr FS (by simp; omega)) _ _ (TrsD.keep (dx_app F5 nb5) _ _ (TrsD.keep (dx_fr F4 (by simp)) _ _ hts'))
                have t2 := TrD.keep (dx_fr FS (by simp; omega)) _ _ (TrD.keep (dx_app F5 nb5) _ _ (TrD.keep (dn_dx (B := w3.heap.size) (v := .slice A2 j c2) hz (fun q hq => (ol q hq).2)) _ _ hnd))
                have F' : Fr (some w1.heap.size) w3 w4 := ((F.drew).pure F4)
                refine ⟨j + 1, A5, c5, cells ++ [.int .i64 (sizS s), .slice A9 (nodesK s 10).length c9, .slice none 0 0], by omega, by go_num, (F'.own F5 (fun q e => by have := og q e; omega)).same FS, K5.set2 _, own_fr own5 FS (by simp; omega), ?_⟩
                rw [HT.out, List.map_append]
                exact TrsD.append t1 (by simp only [TrsD, List.map_cons, List.map_nil]; exact ⟨_, _, _, [], rfl, t2, rfl⟩)
              case measure => simp [intOf]; omega
          · obtain rfl : j = L.length := by omega
            rw [List.take_length] at hts
            have hb2 := b2.fr F (by simp; omega)
            have hOT : TrR wr (some w.heap.size) (.agg #[.int .i64 1, .slice none 0 0, .slice A2 L.length c2]) (ofT L) := by
              unfold ofT
              have hc : SlD wr (Dm wr (some w.heap.size)) 3 (.slice A2 L.length c2) cells := (SlD.own_dn own).keep (fun k hk => ⟨⟨hk.2, by have := hk.1; simp; omega⟩, rfl⟩)
              refine TrD.mk_ (by constructor <;> omega) (SlD.nil _ _ _) (by simp) hc (by simp) (by simp; omega) (TrsD.keep (fun k hk => ⟨⟨hk.2.1, by have := hk.1; simp; omega⟩, rfl⟩) _ _ hts)
            have hsz : (ofT L).size ≤ 1073741000 := by
              have := sizeL_sets L
              simp only [ofT, Tr.size, List.length_map, List.length_nil]
              omega
            have R6 := K6.cell
            have l6' := blk_lt K6
            clear own hts hks0
            go_wp2_with fail
            refine (normal_any (ofT L) _ _ (some w.heap.size) (by intro q e; injection e; omega) hOT hsz).mono ?_
            rintro e w4 ⟨v4, rfl, hT4, F4⟩
            obtain ⟨th4, X1, m1, k1, X2, m2, k2, rfl⟩ := TrD.shape hT4
            have K2 := hb2.fr F4 (by simp)
            have R2 := K2.cell
            have Z2 := K2.free
            have l2 := blk_lt K2
            have hz4 := F4.size
            have FE : Fr none w w4 := (F03.own F (by simp; omega)).pure F4
            have D4 : TrD w4 (fun b => b ≠ w.heap.size ∧ b < w4.heap.size) (.agg #[.int .i64 th4, .slice X1 m1 k1, .slice X2 m2 k2]) (nrmV (ofT L)) := TrD.keep (fun k hk => ⟨⟨fun e => hk.2 (by rw [e]), hk.1⟩, rfl⟩) _ _ hT4
            go_wp2_with fail
            refine bodyPost_ret (v := .tuple #[.agg #[.int .i64 th4, .slice X1 m1 k1, .slice X2 m2 k2], .int .i64 (validE (ofT L))]) (by simp [results, Tryz.results8, go_sem, R2]) rfl ?_
            have G := fr_fill3 w4 w.heap.size (.int .i64 th4) (.slice X1 m1 k1) (.slice X2 m2 k2)
            exact ⟨_, by rw [HE.out], by rw [HVV.out]; exact TrD.keep (fun k hk => ⟨⟨Nat.lt_of_lt_of_le hk.2 G.size, by simp⟩, G.block k hk.2 (by simpa using hk.1)⟩) _ _ D4, FE.own G (by simp)⟩
end Go.Proofs.YtpdhckbiioobhaaGreat

/- Walks: the reference's Of. -/
namespace Go.Proofs.YtpdhckbiioobhaaGreat
open Go.RowKit

/-- The trust of some sets is right, or too large. -/
theorem ofT_03 {l : List Int} (h : l.any badS = false) (hne : l ≠ []) : validE (ofT (leastS l)) = 0 ∨ validE (ofT (leastS l)) = 3 := by
  by_cases hb : 4 < (ofT (leastS l)).dep ∨ 200 < (ofT (leastS l)).size
  · right; unfold validE; rw [if_pos hb]
  · left
    have hv : ∀ x ∈ l, validB x = true ∧ x ≠ 0 := fun x hx => by
      have := List.any_eq_false.1 h x hx
      unfold badS at this
      simp only [Bool.or_eq_true, Bool.not_eq_true', beq_iff_eq, not_or, Bool.not_eq_false] at this
      exact this
    refine valid_of (fun x hx => ⟨(leastS_mem hx).2, (hv x (leastS_mem hx).1).2⟩) ?_ (by
      have e2 : (ofT (leastS l)).size = (leastS l).length + sizeL ((leastS l).map setT) := by simp only [ofT, Tr.size, List.length_map, List.length_nil]; omega
      omega)
    obtain ⟨x, hx⟩ := List.exists_mem_of_ne_nil l hne
    obtain ⟨y, hy, _⟩ := leastS_cover hx (hv x hx).1
    intro e; rw [e] at hy; cases hy

set_option maxRecDepth 100000 in
set_option maxHeartbeats 2000000 in
theorem r5of_any (l : List Int) (v : Value) (w : World) (h : SlI w none v l) (hlen : l.length ≤ 1048576) : Calls Tryz.prog 25 #[v] w (OfP l w) := by
  obtain ⟨A, c, rfl, q1, q2, hcc⟩ := h.open_
  have HCC := Lib.hid hcc
  have HH := Lib.hid h
  clear hcc h
  by_cases hl0 : l.length = 0
  · have HN : Hid (l = []) := List.eq_nil_of_length_eq_zero hl0
    have HA : Hid (l.any badS = false) := by unfold Hid; rw [HN.out]; rfl
    have hb0 : ((l.length : Int) == 0) = true := by rw [beq_iff_eq]; omega
    clear hl0
    go_enter Tryz.func25, Tryz.ntmps25
    go_wp2_with fail
    generalize hW : w.alloc _ = w1
    have F1 : Fr none w w1 := hW ▸ (Fr.refl none w).alloc _
    have b2 : TB w1 w.heap.size (.int .i64 0) (.slice none 0 0) (.slice none 0 0) := by rw [← hW]; exact blk_new _ _
    clear hW
    have R2 := b2.cell
    have Z2 := b2.free
    have hl2 := blk_lt b2
    refine bodyPost_ret (v := .tuple #[.agg #[.int .i64 0, .slice none 0 0, .slice none 0 0], .int .i64 1]) (by simp [results, Tryz.results25, go_sem, R2]) rfl ?_
    exact ⟨_, by unfold ofE; rw [if_neg (by rw [HA.out]; simp), if_pos HN.out], by unfold ofV; rw [if_neg (by rw [HA.out]; simp), if_pos HN.out]; exact zero_trr _ _, F1⟩
  have hb0 : ((l.length : Int) == 0) = false := by rw [beq_eq_false_iff_ne]; omega
  have HL0 : Hid (l ≠ []) := fun e => hl0 (by rw [e]; rfl)
  clear hl0
  go_enter Tryz.func25, Tryz.ntmps25
  go_wp2_with fail
  generalize hW : w.alloc _ = w1
  have F1 : Fr none w w1 := hW ▸ (Fr.refl none w).alloc _
  have b2 : TB w1 w.heap.size (.int .i64 0) (.slice none 0 0) (.slice none 0 0) := by rw [← hW]; exact blk_new _ _
  clear hW
  have R2 := b2.cell
  have Z2 := b2.free
  have hl2 := blk_lt b2
  go_loop [17] (fun s11 => ∃ j : Nat, j ≤ l.length ∧ s11 = .int .i64 (j : Int) ∧ Hid ((l.take j).any badS = false)) (fun s11 => l.length - (intOf s11).toNat)
  case atStart => exact ⟨0, Nat.zero_le _, rfl, by simp [Hid]⟩
  case round =>
    obtain ⟨j, hj, rfl, HJ⟩ := hrel
    by_cases hlt : j < l.length
    · obtain ⟨b, off, rfl, hb, _, hcj⟩ := HCC.out (by omega)
      have hx := F1.keep (hcj j hlt) (by simp)
      have HT : Hid (l.take (j + 1) = l.take j ++ [l[j]]) := List.take_succ_eq_append_getElem hlt
      have HM : Hid (l[j] ∈ l) := List.getElem_mem _
      generalize l[j] = s at *
      clear hcj
      cases hv : validB s with
      | false =>
        have HA : Hid (l.any badS = true) := List.any_eq_true.2 ⟨s, HM.out, by unfold badS; rw [hv]; rfl⟩
        have HV := Lib.hid hv
        clear hv
        go_wp2_with (go_at_call 43; refine (rvalid_any _ _).mono ?_; rintro e w' ⟨rfl, rfl⟩; rw [HV.out])
        refine bodyPost_ret (v := .tuple #[.agg #[.int .i64 0, .slice none 0 0, .slice none 0 0], .int .i64 1]) (by simp [results, Tryz.results25, go_sem, R2]) rfl ?_
        have G := fr_fill3 w1 w.heap.size (.int .i64 0) (.slice none 0 0) (.slice none 0 0)
        exact ⟨_, by unfold ofE; rw [if_pos HA.out], by unfold ofV; rw [if_pos HA.out]; exact zero_trr _ _, F1.own G (by simp)⟩
      | true =>
        have HV := Lib.hid hv
        clear hv
        by_cases h0 : s = 0
        · subst h0
          have HA : Hid (l.any badS = true) := List.any_eq_true.2 ⟨0, HM.out, by unfold badS; simp⟩
          go_wp2_with (go_at_call 43; refine (rvalid_any _ _).mono ?_; rintro e w' ⟨rfl, rfl⟩; rw [HV.out])
          refine bodyPost_ret (v := .tuple #[.agg #[.int .i64 0, .slice none 0 0, .slice none 0 0], .int .i64 1]) (by simp [results, Tryz.results25, go_sem, R2]) rfl ?_
          have G := fr_fill3 w1 w.heap.size (.int .i64 0) (.slice none 0 0) (.slice none 0 0)
          exact ⟨_, by unfold ofE; rw [if_pos HA.out], by unfold ofV; rw [if_pos HA.out]; exact zero_trr _ _, F1.own G (by simp)⟩
        · have hb0 : (s == 0) = false := by rw [beq_eq_false_iff_ne]; exact h0
          have H0 := Lib.hid h0
          clear h0
          go_wp2_with (go_at_call 43; refine (rvalid_any _ _).mono ?_; rintro e w' ⟨rfl, rfl⟩; rw [HV.out])
          go_round
          case rel => exact ⟨j + 1, by omega, by go_num, by unfold Hid; rw [HT.out, List.any_append, HJ.out]; simp [badS, HV.out, H0.out]⟩
          case measure => simp [intOf]; omega
    · obtain rfl : j = l.length := by omega
      have HA : Hid (l.any badS = false) := by have := HJ.out; rw [List.take_length] at this; exact this
      clear HJ
      have HE : Hid (ofE l = validE (ofT (leastS l))) := by unfold Hid ofE; rw [if_neg (by rw [HA.out]; simp), if_neg HL0.out]
      have HVV : Hid (ofV l = nrmV (ofT (leastS l))) := by unfold Hid ofV; rw [if_neg (by rw [HA.out]; simp), if_neg HL0.out]
      have H03 : Hid (validE (ofT (leastS l)) = 0 ∨ validE (ofT (leastS l)) = 3) := ofT_03 HA.out HL0.out
      have hls := Nat.le_trans (leastS_len l) hlen
      clear HA R2 Z2
      go_wp2_with fail
      generalize hW : w1.alloc _ = w2
      have F2 : Fr none w1 w2 := hW ▸ (Fr.refl none w1).alloc _
      have hz1 : w.heap.size < w1.heap.size := hl2
      have b6 : TB w2 w1.heap.size (.int .i64 1) (.slice none 0 0) (.slice none 0 0) := by rw [← hW]; exact blk_new _ _
      clear hW hl2
      have b2 := b2.fr F2 (by simp)
      have F02 := F1.pure F2
      refine (rleast_any l _ _ (HH.out.fr F02) (by omega)).mono ?_
      rintro e w3 ⟨v3, rfl, D3', F3⟩
      obtain ⟨A3, c3, rfl, p1, p2⟩ := D3'.formI
      have hz3 := F3.size
      have hz2 : w1.heap.size < w2.heap.size := by have := blk_lt b6; omega
      have b2 := b2.fr F3 (by simp)
      have b6 := b6.fr F3 (by simp)
      have F03 := F02.pure F3
      have hmem : ∀ x ∈ leastS l, validB x = true := fun x hx => (leastS_mem hx).2
      obtain ⟨L, hL⟩ : ∃ L, L = leastS l := ⟨_, rfl⟩
      rw [← hL] at D3' p1 hls hmem HE HVV H03 ⊢
      have HMV := Lib.hid hmem
      have hks0 : SlD w3 (fun b => b < w3.heap.size ∧ b ≠ w1.heap.size) 1 (.slice A3 L.length c3) (L.map (Value.int .i64)) := D3'.keep (fun k hk => ⟨⟨hk.2, by have := hk.1; omega⟩, rfl⟩)
      clear hL D3' hmem F2 F02 F3
      go_wp2_with fail
      have l6 := blk_lt b6
      go_loopw [8, 34] (fun _ i wr => ∃ (j : Nat) (A2 : Option Addr) (c2 : Nat) (cells : List Value), j ≤ L.length ∧ i = .int .i64 j ∧ Fr (some w1.heap.size) w3 wr ∧ TB wr w1.heap.size (.int .i64 1) (.slice none 0 0) (.slice A2 j c2) ∧
        wr.ownsRow w3.heap.size 29 3 (.slice A2 j c2) j cells ∧ TrsD wr (Dx w3.heap.size wr (.slice A2 j c2)) cells ((L.take j).map setT)) (fun _ i _ => L.length - (intOf i).toNat)
      case atStart => exact ⟨0, none, 0, [], Nat.zero_le _, rfl, Fr.refl _ _, b6, World.ownsRow_nil _ _ _ _, by simp [TrsD]⟩
      case round =>
        obtain ⟨j, A2, c2, cells, hj, rfl, F, K6, own, hts⟩ := hrel
        have hz := F.size
        by_cases hlt : j < L.length
        · have hks : SlD wr (fun b => b < w3.heap.size ∧ b ≠ w1.heap.size) 1 (.slice A3 L.length c3) (L.map (Value.int .i64)) := hks0.keep (fun k hk => ⟨hk, F.block k hk.1 (by simpa using hk.2)⟩)
          obtain ⟨b, off, rfl, hb, hcj⟩ := hks.cellI j hlt
          have HT : Hid (L.take (j + 1) = L.take j ++ [L[j]]) := List.take_succ_eq_append_getElem hlt
          generalize L[j] = s at *
          have hsz : Wi (sizS s) := by
            unfold sizS
            split
            · have := popB_le s.toNat 10; constructor <;> omega
            · constructor <;> omega
          have R6 := K6.cell
          have Z6 := K6.free
          have l6' : w1.heap.size < wr.heap.size := blk_lt K6
          have K6d : TB wr.drew w1.heap.size (.int .i64 1) (.slice none 0 0) (.slice A2 j c2) := K6
          have own' := own.drew
          have hzd : w3.heap.size ≤ wr.drew.heap.size := hz
          have hts' : TrsD wr.drew (Dx w3.heap.size wr.drew (.slice A2 j c2)) cells ((L.take j).map setT) := TrsD.keep (w := wr) (w' := wr.drew) (fun k hk => ⟨hk, rfl⟩) _ _ hts
          go_upto_region 13 with (fail)
          go_region_law (first
            | (go_simp; go_at_call 52; refine (rsize_any_ s _).mono ?_; rintro e w' ⟨rfl, rfl⟩)
            | (go_simp; go_at_call 53; refine (rnodes_any s _).mono ?_; rintro e w4 ⟨A9, c9, rfl, F4, own9⟩; have K4 := K6d.fr F4 (by simp); have R4 := K4.cell; have Z4 := K4.free; have own4 := own_fr own' F4 (by simp); have hz4 := F4.size; have l4 := blk_lt K4)
            | (refine step_app_lit eiTrust rfl _ _ rfl w3.heap.size A2 j c2 _ rfl own4 1 [.int .i64 (sizS s), .slice A9 (nodesK s 10).length c9, .slice none 0 0] 29 _ rfl (by simp) rfl (by simp [Value.oneCell']) (by omega) (by unfold maxLen; omega) (by omega) ?_; intro A5 c5 w5 own5 F5 nb5; have K5 := K4.fr F5 (own_ne own4 (by omega)); have R5 := K5.cell; have Z5 := K5.free))
          all_goals
            go_wp2_with fail
            have FS := Fr.set1 w5 ⟨w1.heap.size, 2, none⟩ (.slice A5 (j + 1) c5)
            have og := own_blk_ge own4
            have ol := own.lt
            have hz5 := F5.size
            have hzS := FS.size
            have hnd : TrD w4 (Dn wr.heap.size w4) (.agg #[.int .i64 (sizS s), .slice A9 (nodesK s 10).length c9, .slice none 0 0]) (setT s) := by
              refine TrD.mk_ hsz ((SlD.own_dn own9).keep (fun k hk => ⟨hk, rfl⟩)) (fun x hx => ?_) (SlD.nil _ _ _) (by have := nodesK_len s 10; omega) (by simp) (by simp [TrsD])
              have := nodesK_bd s 10 x hx
              constructor <;> omega
            go_roundw
            case rel =>
              have t1 := TrsD.keep (dx_fr FS (by simp; omega)) _ _ (TrsD.keep (dx_app F5 nb5) _ _ (TrsD.keep (dx_fr F4 (by simp)) _ _ hts'))
              have t2 := TrD.keep (dx_fr FS (by simp; omega)) _ _ (TrD.keep (dx_app F5 nb5) _ _ (TrD.keep (dn_dx (B := w3.heap.size) (v := .slice A2 j c2) hz (fun q hq => (ol q hq).2)) _ _ hnd))
              have F' : Fr (some w1.heap.size) w3 w4 := ((F.drew).pure F4)
              refine ⟨j + 1, A5, c5, cells ++ [.int .i64 (sizS s), .slice A9 (nodesK s 10).length c9, .slice none 0 0], by omega, by go_num, (F'.own F5 (fun q e => by have := og q e; omega)).same FS, K5.set2 _, own_fr own5 FS (by simp; omega), ?_⟩
              rw [HT.out, List.map_append]
              exact TrsD.append t1 (by simp only [TrsD, List.map_cons, List.map_nil]; exact ⟨_, _, _, [], rfl, t2, rfl⟩)
            case measure => simp [intOf]; omega
        · obtain rfl : j = L.length := by omega
          rw [List.take_length] at hts
          have hb2 := b2.fr F (by simp; omega)
          have hOT : TrR wr (some w.heap.size) (.agg #[.int .i64 1, .slice none 0 0, .slice A2 L.length c2]) (ofT L) := by
            unfold ofT
            have hc : SlD wr (Dm wr (some w.heap.size)) 3 (.slice A2 L.length c2) cells := (SlD.own_dn own).keep (fun k hk => ⟨⟨hk.2, by have := hk.1; simp; omega⟩, rfl⟩)
            refine TrD.mk_ (by constructor <;> omega) (SlD.nil _ _ _) (by simp) hc (by simp) (by simp; omega) (TrsD.keep (fun k hk => ⟨⟨hk.2.1, by have := hk.1; simp; omega⟩, rfl⟩) _ _ hts)
          have hsz : (ofT L).size ≤ 1073741000 := by
            have := sizeL_sets L
            simp only [ofT, Tr.size, List.length_map, List.length_nil]
            omega
          have R6 := K6.cell
          have l6' := blk_lt K6
          clear own hts hks0
          go_wp2_with fail
          refine (rnormal_any (ofT L) _ _ (some w.heap.size) (by intro q e; injection e; omega) hOT hsz).mono ?_
          rintro e w4 ⟨v4, rfl, hT4, F4⟩
          obtain ⟨th4, X1, m1, k1, X2, m2, k2, rfl⟩ := TrD.shape hT4
          have K2 := hb2.fr F4 (by simp)
          have R2 := K2.cell
          have Z2 := K2.free
          have l2 := blk_lt K2
          have hz4 := F4.size
          have FE : Fr none w w4 := (F03.own F (by simp; omega)).pure F4
          have D4 : TrD w4 (fun b => b ≠ w.heap.size ∧ b < w4.heap.size) (.agg #[.int .i64 th4, .slice X1 m1 k1, .slice X2 m2 k2]) (nrmV (ofT L)) := TrD.keep (fun k hk => ⟨⟨fun e => hk.2 (by rw [e]), hk.1⟩, rfl⟩) _ _ hT4
          rcases H03.out with hv0 | hv0
          · skip
            have HV0 := Lib.hid hv0
            rw [hv0]
            clear hv0
            go_wp2_with fail
            generalize hW5 : ((w4.setCell _ _).setCell _ _).setCell _ _ = w5
            have G : Fr (some w.heap.size) w4 w5 := hW5 ▸ fr_fill3 w4 w.heap.size (.int .i64 th4) (.slice X1 m1 k1) (.slice X2 m2 k2)
            have K5 : TB w5 w.heap.size (.int .i64 th4) (.slice X1 m1 k1) (.slice X2 m2 k2) := by rw [← hW5]; exact ((K2.set0 _).set1 _).set2 _
            clear hW5
            generalize hW6 : w5.alloc _ = w6
            have F6 : Fr none w5 w6 := hW6 ▸ (Fr.refl none w5).alloc _
            have K6' := K5.fr F6 (by simp)
            have R6' := K6'.cell
            refine bodyPost_ret (v := .tuple #[.agg #[.int .i64 th4, .slice X1 m1 k1, .slice X2 m2 k2], .int .i64 0]) (by simp [results, Tryz.results25, go_sem, R6']) rfl ?_
            exact ⟨_, by rw [HE.out, HV0.out], by rw [HVV.out]; exact TrD.keep (fun k hk => ⟨⟨Nat.lt_of_lt_of_le hk.2 (Nat.le_trans G.size F6.size), by simp⟩, (F6.block k (Nat.lt_of_lt_of_le hk.2 G.size) (by simp)).trans (G.block k hk.2 (by simpa using hk.1))⟩) _ _ D4, (FE.own G (by simp)).pure F6⟩
          · skip
            have HV0 := Lib.hid hv0
            rw [hv0]
            clear hv0
            go_wp2_with fail
            generalize hW5 : ((w4.setCell _ _).setCell _ _).setCell _ _ = w5
            have G : Fr (some w.heap.size) w4 w5 := hW5 ▸ fr_fill3 w4 w.heap.size (.int .i64 0) (.slice none 0 0) (.slice none 0 0)
            have K5 : TB w5 w.heap.size (.int .i64 0) (.slice none 0 0) (.slice none 0 0) := by rw [← hW5]; exact ((K2.set0 _).set1 _).set2 _
            clear hW5
            generalize hW6 : w5.alloc _ = w6
            have F6 : Fr none w5 w6 := hW6 ▸ (Fr.refl none w5).alloc _
            have K6' := K5.fr F6 (by simp)
            have R6' := K6'.cell
            refine bodyPost_ret (v := .tuple #[.agg #[.int .i64 0, .slice none 0 0, .slice none 0 0], .int .i64 3]) (by simp [results, Tryz.results25, go_sem, R6']) rfl ?_
            exact ⟨_, by rw [HE.out, HV0.out], by rw [HVV.out]; unfold nrmV; rw [if_neg (by rw [HV0.out]; decide)]; exact zero_trr _ _, (FE.own G (by simp)).pure F6⟩
end Go.Proofs.YtpdhckbiioobhaaGreat

/- Some texts of this claim, joined: contracts of the functions that it reaches, and plain laws. -/
import Derived.Test.YtkpgnhdmlikopaaGreatDoorProg
import Derived.Test.YtkpgnhdmlikopaaGreatDoorJA11
import Derived.Test.YtkpgnhdmlikopaaGreatDoorJA12
import Derived.Test.YtkpgnhdmlikopaaGreatDoorShelf
import Derived.Test.YtkpgnhdmlikopaaGreatDoorJA17
import Derived.Test.YtkpgnhdmlikopaaGreatDoorJA5

set_option linter.unusedSimpArgs false
set_option linter.unusedVariables false
/- Walks: claims.Text. -/
namespace Go.Proofs.YtkpgnhdmlikopaaGreatDoor
open Go.RowKit

def bC (l : List UInt8) : ByteArray := ⟨l.toArray⟩
theorem bC_list (l : List UInt8) : (bC l).data.toList = l := rfl
theorem bC_of (S : ByteArray) : S = bC S.data.toList := by unfold bC; simp
theorem bC_app (a b : List UInt8) : bC a ++ bC b = bC (a ++ b) := by
  apply ByteArray.ext
  simp [bC]
theorem bC_size (l : List UInt8) : (bC l).size = l.length := by simp [bC, ByteArray.size]
theorem itC_sm (n : Int) (S : ByteArray) (hS : Hid (S = bC (Lib.itoa n))) (h0 : 0 ≤ n) (h1 : n < 100) (w : World) : Calls Tryz.prog 40 #[.int .i64 n] w fun e w' => e = .returned (.string S) ∧ w = w' := by
  rw [hS.out]
  obtain ⟨k, rfl⟩ := Int.eq_ofNat_of_zero_le h0
  refine (Tryz.strconv_Itoa_small k (by omega) w).mono ?_
  rintro e w' ⟨rfl, rfl⟩
  rw [Lib.itoa_nonneg]
  exact ⟨rfl, rfl⟩
/-- The sum of two strings, under a name. -/
theorem strC_add (a b : ByteArray) (ha : a.size ≤ 1073741824) (hb : b.size ≤ 34359738368) : ∃ X : ByteArray, Hid (X = a ++ b) ∧ X.size = a.size + b.size ∧ ∀ w : World, (Op.stringOp .add a b).run Tryz.prog w = .ok (.string X) w :=
  ⟨a ++ b, rfl, ByteArray.size_append, fun w => run_string_add_sum w a b (by omega)⟩
theorem eiStrC : EInfo Tryz.prog 45 9 1 16 := EInfo.mk_ (z := .string ⟨#[]⟩) (by kernel_rfl) (by kernel_rfl) rfl (by omega)
theorem step_tmC {P : Program} {ops : Array Oper} {o : Oper} {a : Act} {tm : Array Value} {w : World} {K : Act → World → Prop} {Q : Exit → Act → World → Prop} {E' : Prop} (htm : a.tmps = tm) (h : if Region.wanted o (yielded ops a.tmps) = true then Oper.wp P o a w K Q else E') :
    if Region.wanted o (yielded ops tm) = true then Oper.wp P o a w K Q else E' := htm ▸ h
theorem itoa_sz {n : Int} (h0 : 0 ≤ n) (h1 : n < 100) : (Lib.itoa n).length ≤ 2 := by
  obtain ⟨k, rfl⟩ := Int.eq_ofNat_of_zero_le h0
  have : ∀ k : Fin 100, (Lib.itoa (k.val : Int)).length ≤ 2 := by decide +kernel
  exact this ⟨k, by omega⟩
/-- strings.Join of words. -/
theorem cjoin_any (l : List (List UInt8)) (v : Value) (w : World) (h : SlD w (Dm w none) 1 v (l.map fun x => Value.string (bC x))) (hN : l.length ≤ 1000000) (hlen : (Lib.join l [32]).length ≤ 1000000000) :
    Calls Tryz.prog 41 #[v, .string ⟨#[32]⟩] w fun e w' => e = .returned (.string (bC (Lib.join l [32]))) ∧ Fr none w w' := by
  obtain ⟨A, n, c, rfl, hl, hnc, hm, hx⟩ := h
  simp only [List.length_map, Nat.mul_one] at hl
  subst hl
  have hmap : (l.map bC).map (·.data.toList) = l := by
    rw [List.map_map]
    exact (List.map_congr_left (fun x _ => bC_list x)).trans (List.map_id l)
  rcases Nat.eq_zero_or_pos l.length with h0 | h0
  · have hl0 : l = [] := List.eq_nil_of_length_eq_zero h0
    subst hl0
    refine (Tryz.strings_Join_none A c ⟨#[32]⟩ w).mono ?_
    rintro e w' ⟨rfl, rfl⟩
    exact ⟨rfl, Fr.refl _ _⟩
  · obtain ⟨b, off, rfl, hb, hc⟩ := hx h0
    have main := Tryz.strings_Join b off c (l.map bC) ⟨#[32]⟩ w (fun j x hj => hc j _ (by
      rw [List.getElem?_map] at hj ⊢
      cases hq : l[j]? with
      | none => rw [hq] at hj; cases hj
      | some y => rw [hq] at hj; injection hj with hj; rw [← hj]; rfl)) hb.1 (by simp; omega) (by simpa using hnc) (by rw [hmap]; show (Lib.join l [32]).length ≤ _; omega)
    rw [hmap, List.length_map] at main
    refine main.mono ?_
    rintro e w' ⟨rfl, F⟩
    exact ⟨rfl, Fr.of_below F⟩
theorem join_szC (l : List Cl) : (Lib.join ((srtC l).map wrdC) [32]).length ≤ 640 := textC_len l
set_option maxRecDepth 100000 in
set_option maxHeartbeats 2000000 in
theorem ctxt_any (l : List Cl) (v : Value) (w : World) (h : SlC w none v l) (hl : l.length ≤ 1000000) : Calls Tryz.prog 24 #[v] w fun e w' => e = .returned (.string (bC (textC l))) ∧ Fr none w w' := by
  have hm0 := srtC_len l
  have hvm : ∀ c ∈ srtC l, vCl c = true := fun c hc => srt_valid hc
  have hjl := join_szC l
  obtain ⟨R, hR⟩ : ∃ R, R = bC (textC l) := ⟨_, rfl⟩
  have HR : Hid (R = bC (Lib.join ((srtC l).map wrdC) [32])) := hR
  rw [← hR]
  clear hR
  obtain ⟨A0, c0, rfl, _, _, _⟩ := h.open_
  go_enter Tryz.func24, Tryz.ntmps24
  go_wp2_with fail
  refine (csrt_any l _ w h hl).mono ?_
  rintro e w1 ⟨v1, rfl, hs, F1⟩
  have hm := NwC.sl hs (srtC_wc l) none (by simp)
  clear hs h
  generalize srtC l = m at *
  have HV := Lib.hid hvm
  have HJ := Lib.hid hjl
  obtain ⟨A, c, rfl, q1, q2, hc⟩ := hm.open_
  have HC := Lib.hid hc
  clear hc hm hvm hjl
  go_wp2_with fail
  go_loopw [3, 9] (fun s3 s9 wr => ∃ (k : Nat) (B : Option Addr) (d : Nat), k ≤ m.length ∧ s9 = .int .i64 (k : Int) ∧ s3 = .slice B k d ∧ Fr none w1 wr ∧ wr.ownsRow w1.heap.size 9 1 (.slice B k d) k (((m.take k).map wrdC).map fun x => Value.string (bC x))) (fun _ s9 _ => m.length - (intOf s9).toNat)
  case atStart => exact ⟨0, none, 0, Nat.zero_le _, rfl, rfl, Fr.refl _ _, World.ownsRow_nil _ _ _ _⟩
  case round =>
    obtain ⟨k, B, d, hk, rfl, rfl, F, own⟩ := hrel
    obtain ⟨wz, hwz⟩ : ∃ wz : World, wz = wr := ⟨_, rfl⟩
    subst hwz
    by_cases hlt : k < m.length
    · obtain ⟨b, off, rfl, hb, _, hcc⟩ := HC.out (by omega)
      obtain ⟨c1, c2⟩ := hcc k hlt
      have c1 := F.keep c1 (by simp)
      have c2 := F.keep c2 (by simp)
      have hv := (vCl_iff _).1 (HV.out _ (List.getElem_mem hlt))
      have HS : Hid (((m.take (k + 1)).map wrdC).map (fun x => Value.string (bC x)) = ((m.take k).map wrdC).map (fun x => Value.string (bC x)) ++ [Value.string (bC (wrdC m[k]))]) := by
        unfold Hid
        rw [List.take_succ_eq_append_getElem hlt, List.map_append, List.map_append]; rfl
      clear hcc
      generalize m[k] = y at *
      obtain ⟨v1, v2, v3, v4⟩ := hv
      obtain ⟨N, hN⟩ : ∃ N, N = bC (Lib.itoa y.1) := ⟨_, rfl⟩
      obtain ⟨M, hM⟩ : ∃ M, M = bC (Lib.itoa y.2) := ⟨_, rfl⟩
      have z1 : N.size ≤ 2 := by rw [hN, bC_size]; exact itoa_sz v1 (by omega)
      have z2 : M.size ≤ 2 := by rw [hM, bC_size]; exact itoa_sz v3 (by omega)
      obtain ⟨X1, HX1, y1, k1⟩ := strC_add N ⟨#[61]⟩ (by omega) (by decide)
      obtain ⟨X2, HX2, y2, k2⟩ := strC_add X1 M (by have : (⟨#[61]⟩ : ByteArray).size = 1 := rfl; omega) (by omega)
      have HWd : Hid (X2 = bC (wrdC y)) := by
        unfold Hid
        rw [HX2.out, HX1.out, hN, hM]
        show bC _ ++ bC [61] ++ bC _ = _
        rw [bC_app, bC_app]; rfl
      have HN := Lib.hid hN
      have HM := Lib.hid hM
      clear hN hM y1 y2
      go_upto_region 5 with (fail)
      generalize hW : wz.alloc _ = wa
      have Fa : Fr none wz wa := hW ▸ (Fr.refl none wz).alloc _
      have b5 : CB2 wa wz.heap.size (.int .i64 y.1) (.int .i64 y.2) 24 := by rw [← hW]; exact blk_new _ _
      clear hW c1 c2
      have l5 := blk_lt b5
      have owna := own_fr own Fa (by simp)
      have og := own_blk_ge owna
      have hz := F.size
      have hza := Fa.size
      have olz := own.lt
      have b5d : CB2 wa.drew wz.heap.size (.int .i64 y.1) (.int .i64 y.2) 24 := b5
      have ownd := owna.drew
      have F0d := ((F.pure Fa).drew)
      have hzd : w1.heap.size ≤ wa.drew.heap.size := F0d.size
      have HSs := HS
      refine wp_region_held_drew (S := fun W => W.cell? ⟨wz.heap.size, 0, none⟩ = some (.int .i64 y.1) ∧ W.cell? ⟨wz.heap.size, 1, none⟩ = some (.int .i64 y.2)) (by kernel_rfl) b5.cell (fun hH0 => ?_)
      clear b5 owna
      generalize wa.drew = wd at *
      refine wpAnyH_take (i := 0) (v := ?_) rfl (by kernel_rfl) (by kernel_rfl) (by kernel_rfl) (fun _ _ _ h => h) (Or.inl ⟨by rfl, ?_⟩) (by assumption) ?_
      rotate_left
      · (intro W hW; (try dsimp only at hW); go_simp; try with_reducible rfl)
      try simp only [Act.put, List.setIfInBounds_toArray, List.set_cons_zero, List.set_cons_succ, List.getElem_toArray, List.getElem_cons_zero, List.getElem_cons_succ]
      refine wpAnyH_take (i := 1) (v := ?_) rfl (by kernel_rfl) (by kernel_rfl) (by kernel_rfl) (fun _ _ _ h => h) (Or.inl ⟨by rfl, ?_⟩) (by assumption) ?_
      rotate_left
      · (intro W hW; (try dsimp only at hW); go_simp; try with_reducible rfl)
      try simp only [Act.put, List.setIfInBounds_toArray, List.set_cons_zero, List.set_cons_succ, List.getElem_toArray, List.getElem_cons_zero, List.getElem_cons_succ]
      refine wpAnyH_take (i := 2) (v := ?_) rfl (by kernel_rfl) (by kernel_rfl) (by kernel_rfl) (fun _ _ _ h => h) (Or.inl ⟨by rfl, ?_⟩) (by assumption) ?_
      rotate_left
      · (intro W hW; (try dsimp only at hW); go_simp; try with_reducible rfl)
      try simp only [Act.put, List.setIfInBounds_toArray, List.set_cons_zero, List.set_cons_succ, List.getElem_toArray, List.getElem_cons_zero, List.getElem_cons_succ]
      refine wpAnyH_take (i := 5) (v := ?_) rfl (by kernel_rfl) (by kernel_rfl) (by kernel_rfl) (fun _ _ _ h => h) (Or.inl ⟨by rfl, ?_⟩) (by assumption) ?_
      rotate_left
      · (intro W hW; (try dsimp only at hW); go_simp; try with_reducible rfl)
      try simp only [Act.put, List.setIfInBounds_toArray, List.set_cons_zero, List.set_cons_succ, List.getElem_toArray, List.getElem_cons_zero, List.getElem_cons_succ]
      refine wpAnyH_take (i := 6) (v := ?_) rfl (by kernel_rfl) (by kernel_rfl) (by kernel_rfl) (fun _ _ _ h => h) (Or.inl ⟨by rfl, ?_⟩) (by assumption) ?_
      rotate_left
      · (intro W hW; (try dsimp only at hW); go_simp; try with_reducible rfl)
      try simp only [Act.put, List.setIfInBounds_toArray, List.set_cons_zero, List.set_cons_succ, List.getElem_toArray, List.getElem_cons_zero, List.getElem_cons_succ]
      refine wpAnyH_ready (rs := [3]) (by kernel_rfl) (by simp) ?_
      refine AllReadyH.cons rfl (fun K hK => ?_) AllReadyH.nil
      simp only [List.getElem_toArray, List.getElem_cons_zero, List.getElem_cons_succ]
      go_simp
      go_at_call 40
      refine (itC_sm y.1 N HN v1 (by omega) _).mono ?_
      rintro e w2 ⟨rfl, rfl⟩
      refine hK.out _ _ hH0 (fun hH1 => ?_)
      clear hK K hH0
      have hH0 := hH1
      clear hH1
      try simp only [Act.put, List.setIfInBounds_toArray, List.set_cons_zero, List.set_cons_succ, List.getElem_toArray, List.getElem_cons_zero, List.getElem_cons_succ]
      refine wpAnyH_take (i := 4) (v := ?_) rfl (by kernel_rfl) (by kernel_rfl) (by kernel_rfl) (fun _ _ _ h => h) (Or.inl ⟨by rfl, ?_⟩) (by assumption) ?_
      rotate_left
      · (intro W hW; (try dsimp only at hW); go_simp; try with_reducible rfl)
      try simp only [Act.put, List.setIfInBounds_toArray, List.set_cons_zero, List.set_cons_succ, List.getElem_toArray, List.getElem_cons_zero, List.getElem_cons_succ]
      refine wpAnyH_ready (rs := [7]) (by kernel_rfl) (by simp) ?_
      refine AllReadyH.cons rfl (fun K hK => ?_) AllReadyH.nil
      simp only [List.getElem_toArray, List.getElem_cons_zero, List.getElem_cons_succ]
      go_simp
      go_at_call 40
      refine (itC_sm y.2 M HM v3 (by omega) _).mono ?_
      rintro e w2 ⟨rfl, rfl⟩
      refine hK.out _ _ hH0 (fun hH1 => ?_)
      clear hK K hH0
      have hH0 := hH1
      clear hH1
      try simp only [Act.put, List.setIfInBounds_toArray, List.set_cons_zero, List.set_cons_succ, List.getElem_toArray, List.getElem_cons_zero, List.getElem_cons_succ]
      refine wpAnyH_take (i := 8) (v := ?_) rfl (by kernel_rfl) (by kernel_rfl) (by kernel_rfl) (fun _ _ _ h => h) (Or.inl ⟨by rfl, ?_⟩) (by assumption) ?_
      rotate_left
      · (intro W hW; (try dsimp only at hW); go_simp; try with_reducible rfl)
      try simp only [Act.put, List.setIfInBounds_toArray, List.set_cons_zero, List.set_cons_succ, List.getElem_toArray, List.getElem_cons_zero, List.getElem_cons_succ]
      refine wpAnyH_ready (rs := [9]) (by kernel_rfl) (by simp) ?_
      refine AllReadyH.cons rfl (fun K hK => ?_) AllReadyH.nil
      simp only [List.getElem_toArray, List.getElem_cons_zero, List.getElem_cons_succ]
      go_simp
      refine hK.out _ _ (b5d.fr ((Fr.refl none wd).alloc (.cells #[.string X2] 9)) (by simp)).cell (fun hH2 => ?_)
      clear hK K hH0
      try simp only [Act.put, List.setIfInBounds_toArray, List.set_cons_zero, List.set_cons_succ, List.getElem_toArray, List.getElem_cons_zero, List.getElem_cons_succ]
      refine wpAnyH_ready (rs := [10]) (by kernel_rfl) (by simp) ?_
      refine AllReadyH.cons rfl (fun K hK => ?_) AllReadyH.nil
      simp only [List.getElem_toArray, List.getElem_cons_zero, List.getElem_cons_succ]
      refine step_tmC rfl ?_
      refine step_app_lit eiStrC rfl _ _ rfl w1.heap.size B k d _ rfl ownd 1 [.string X2] 9 _ rfl rfl rfl (by simp [Value.oneCell']) (by omega) (by unfold maxLen; omega) (by omega) ?_
      intro A5 c5 w5 own5 F5 nb5
      refine hK.out _ _ (b5d.fr F5 (fun e => by have := (olz _ e).2; omega)).cell (fun hH3 => ?_)
      clear hK K hH2
      try simp only [Act.put, List.setIfInBounds_toArray, List.set_cons_zero, List.set_cons_succ, List.getElem_toArray, List.getElem_cons_zero, List.getElem_cons_succ]
      refine wpAnyH_take (i := 11) (v := ?_) rfl (by kernel_rfl) (by kernel_rfl) (by kernel_rfl) (fun _ _ _ h => h) (Or.inl ⟨by rfl, ?_⟩) (by assumption) ?_
      rotate_left
      · (intro W hW; (try dsimp only at hW); go_simp; try with_reducible rfl)
      try simp only [Act.put, List.setIfInBounds_toArray, List.set_cons_zero, List.set_cons_succ, List.getElem_toArray, List.getElem_cons_zero, List.getElem_cons_succ]
      refine wpAnyH_done (by kernel_rfl) ?_ _
      go_wp2_with fail
      have ogd := own_blk_ge ownd
      go_roundw
      case rel => exact ⟨k + 1, A5, c5, by omega, by go_num, rfl, F0d.own F5 ogd, by rw [HS.out, ← HWd.out]; exact own5⟩
      case measure => simp [intOf]; omega
    · obtain rfl : k = m.length := by omega
      rw [List.take_length] at own
      have HSl := Lib.hid (SlD.of_own (r := none) own (by simp))
      have HL : Hid ((m.map wrdC).length ≤ 1000000) := by unfold Hid; simp; omega
      obtain ⟨n, hn⟩ : ∃ n, n = m.length := ⟨_, rfl⟩
      rw [← hn] at HSl ⊢
      clear own hn
      go_wp2_with fail
      refine (cjoin_any (m.map wrdC) _ _ HSl.out HL.out (by have := HJ.out; omega)).mono ?_
      rintro e w3 ⟨rfl, F3⟩
      go_wp2_with fail
      go_ret
      exact ⟨by rw [HR.out]; rfl, (F1.pure F).pure F3⟩
end Go.Proofs.YtkpgnhdmlikopaaGreatDoor

/- Walks: strconv.Atoi at every text, strings.Fields, strings.Cut at '='. -/
namespace Go.Proofs.YtkpgnhdmlikopaaGreatDoor
open Go.RowKit

/-- The errors that strconv hands out are there. -/
def Errs (w : World) : Prop := (∃ t p, w.cell? ⟨3, 0, none⟩ = some (.iface t p)) ∧ (∃ t p, w.cell? ⟨4, 0, none⟩ = some (.iface t p))
theorem Errs.fr {w w' : World} (h : Errs w) (F : Fr none w w') : Errs w' := by
  obtain ⟨⟨t, p, h1⟩, ⟨u, q, h2⟩⟩ := h
  exact ⟨⟨t, p, F.keep h1 (by simp)⟩, ⟨u, q, F.keep h2 (by simp)⟩⟩
def Mxl (w : World) : Prop := ∃ m : Int, w.cell? ⟨2, 0, none⟩ = some (.int .i64 m)
theorem Mxl.fr {w w' : World} (h : Mxl w) (f : Fr none w w') : Mxl w' := by
  obtain ⟨m, hm⟩ := h
  exact ⟨m, f.keep hm (by simp)⟩
/-- The tables of white space are there. -/
def Spc (w : World) : Prop := Lib.TabIs Tryz.prog w "strings.asciiSpace" .u8 Lib.asciiSpaceTab ∧ Lib.WhiteTab 1 w
theorem spc_named : Tryz.prog.globalNamed "strings.asciiSpace" = some 0 := by kernel_rfl
theorem Spc.fr {w w' : World} (h : Spc w) (F : Fr none w w') : Spc w' := by
  obtain ⟨h1, T, oT, R, oR, e1, e2, e3, e4, e5⟩ := h
  refine ⟨?_, T, oT, R, oR, F.keep e1 (by simp), F.keep e2 (by simp), F.keep e3 (by simp), F.keep e4 (by simp), fun i hi => F.keep (e5 i hi) (by simp)⟩
  unfold Lib.TabIs World.var? at h1 ⊢
  rw [spc_named] at h1 ⊢
  simp only [Option.bind_some] at h1 ⊢
  have hlt : 0 < w.heap.size := by
    rcases Nat.lt_or_ge 0 w.heap.size with h' | h'
    · exact h'
    · rw [Array.getElem?_eq_none h'] at h1; cases h1
  rw [F.block _ hlt (by simp)]
  exact h1
/-- What Atoi hands back. -/
def AtP (o : Option Int) (n : Int) (v : Value) : Prop := (∃ m, o = some m ∧ n = m ∧ v = .nilIface) ∨ (o = none ∧ ∃ t p, v = .iface t p)
theorem catoi_any (S : ByteArray) (w : World) (hz : S.size ≤ 1073741824) (hE : Errs w) :
    Calls Tryz.prog 50 #[.string S] w fun e w' => ∃ n v, e = .returned (.tuple #[.int .i64 n, v]) ∧ AtP (rdN S.data.toList) n v ∧ Wi n ∧ Fr none w w' := by
  obtain ⟨⟨t, p, h1⟩, ⟨u, q, h2⟩⟩ := hE
  cases h : Lib.atoiAll S.data.toList with
  | ok n =>
    refine (Any.strconv_Atoi_ok Tryz.laysC172 S (by omega) n h w).mono ?_
    rintro e w' ⟨rfl, hw⟩
    refine ⟨n, .nilIface, rfl, .inl ⟨n, by unfold rdN; rw [h], rfl, rfl⟩, Lib.atoiAll_bounds h, ?_⟩
    rcases hw with rfl | ⟨x, rfl⟩
    · exact Fr.refl _ _
    · exact Fr.of_below (Lib.bytesWorld_below _ _ _)
  | range =>
    refine (Any.strconv_Atoi_range Tryz.laysC172 S (by omega) h _ w h2 (.inr ⟨u, q, rfl⟩)).mono ?_
    rintro e w' ⟨N, rfl, _, _, hB⟩
    refine ⟨_, _, rfl, .inr ⟨by unfold rdN; rw [h], _, _, rfl⟩, ?_, Fr.of_below hB⟩
    unfold Lib.atoiSat
    constructor <;> (split <;> omega)
  | _ =>
    refine (Any.strconv_Atoi_syntax Tryz.laysC172 S (by omega) h _ w h1 (.inr ⟨t, p, rfl⟩)).mono ?_
    rintro e w' ⟨N, rfl, _, _, hB⟩
    exact ⟨0, _, rfl, .inr ⟨by unfold rdN; rw [h], _, _, rfl⟩, by constructor <;> decide, Fr.of_below hB⟩

theorem fieldsGoD_cnt : ∀ (f : Nat) (cur l : List UInt8), (Lib.fieldsGoD f cur l).length ≤ f + 1
  | 0, cur, l => by unfold Lib.fieldsGoD; split <;> simp
  | f + 1, cur, l => by
    unfold Lib.fieldsGoD
    split
    · split <;> simp
    · split
      · have := fieldsGoD_cnt f [] (l.drop (Lib.decodeL l).2)
        rw [List.length_append]
        split <;> simp <;> omega
      · have := fieldsGoD_cnt f (cur ++ l.take (Lib.decodeL l).2) (l.drop (Lib.decodeL l).2)
        omega
theorem fieldsGoD_len : ∀ (f : Nat) (cur l : List UInt8), ∀ x ∈ Lib.fieldsGoD f cur l, x.length ≤ cur.length + l.length
  | 0, cur, l => by
    unfold Lib.fieldsGoD
    split
    · simp
    · intro x hx
      obtain rfl := List.mem_singleton.1 hx
      omega
  | f + 1, cur, l => by
    unfold Lib.fieldsGoD
    split
    · split
      · simp
      · intro x hx
        obtain rfl := List.mem_singleton.1 hx
        omega
    · split
      · intro x hx
        rcases List.mem_append.1 hx with hx | hx
        · split at hx
          · cases hx
          · obtain rfl := List.mem_singleton.1 hx
            omega
        · have := fieldsGoD_len f [] (l.drop (Lib.decodeL l).2) x hx
          simp only [List.length_nil, List.length_drop] at this
          omega
      · intro x hx
        have := fieldsGoD_len f (cur ++ l.take (Lib.decodeL l).2) (l.drop (Lib.decodeL l).2) x hx
        simp only [List.length_append, List.length_take, List.length_drop] at this
        omega
theorem fieldsD_cnt (l : List UInt8) : (Lib.fieldsD l).length ≤ l.length + 2 := fieldsGoD_cnt _ _ _
theorem fieldsD_len (l : List UInt8) : ∀ x ∈ Lib.fieldsD l, x.length ≤ l.length := fun x hx => by
  have := fieldsGoD_len _ _ _ x hx
  simpa using this
theorem cut_len (s p : List UInt8) : (Lib.cut s p).1.length ≤ s.length ∧ (Lib.cut s p).2.1.length ≤ s.length := by
  unfold Lib.cut
  split
  · simp only [List.length_take, List.length_drop]; omega
  · simp
/-- strings.Fields. -/
theorem cfields_any (S : ByteArray) (w : World) (hz : S.size ≤ 6000) (hS : Spc w) :
    Calls Tryz.prog 48 #[.string S] w fun e w' => ∃ v, e = .returned v ∧ SlD w' (Dm w' none) 1 v ((Lib.fieldsD S.data.toList).map fun x => Value.string (bC x)) ∧ Fr none w w' := by
  refine (Tryz.strings_Fields_any S w (by omega) hS.1 hS.2).mono ?_
  rintro e w' ⟨A, rfl, _, own, hB⟩
  exact ⟨_, rfl, SlD.of_own own (by simp), Fr.of_below hB⟩
theorem ccut_any (x : List UInt8) (w : World) (hz : x.length ≤ 6000) (hM : Mxl w) :
    Calls Tryz.prog 49 #[.string (bC x), .string ⟨#[61]⟩] w fun e w' => ∃ b, e = .returned (.tuple #[.string (bC (Lib.cut x [61]).1), .string (bC (Lib.cut x [61]).2.1), .bool b]) ∧ Fr none w w' := by
  obtain ⟨m, hm⟩ := hM
  refine (Tryz.strings_Cut (bC x) ⟨#[61]⟩ m w (by rw [bC_size]; omega) hm).mono ?_
  rintro e w' ⟨rfl, n, rfl⟩
  exact ⟨_, rfl, (Fr.refl _ _).drewN _⟩
end Go.Proofs.YtkpgnhdmlikopaaGreatDoor

/- Walks: claims.Parse. -/
namespace Go.Proofs.YtkpgnhdmlikopaaGreatDoor
open Go.RowKit

theorem snoc_wc' {l : List Cl} {x : Cl} (h : ∀ c ∈ l, Wc c) (hx : Wc x) : ∀ c ∈ l ++ [x], Wc c := fun y hy => by
  rcases List.mem_append.1 hy with hy | hy
  · exact h y hy
  · obtain rfl := List.mem_singleton.1 hy
    exact hx
theorem ba_len (S : ByteArray) : S.data.toList.length = S.size := Array.length_toList
theorem ba_eq {S T : ByteArray} (h : S.data.toList = T.data.toList) : S = T := ByteArray.ext (Array.toList_inj.1 h)
/-- A new list of claims and an error number are handed back. -/
def PaC (r : List Cl × Int) (w : World) (e : Ending) (w' : World) : Prop := ∃ v, e = .returned (.tuple #[v, .int .i64 r.2]) ∧ SlD w' (Dn w.heap.size w') 2 v (flC r.1) ∧ (∀ c ∈ r.1, Wc c) ∧ Fr none w w'
theorem PaC.none_ {k : Int} {w w' : World} (F : Fr none w w') : PaC ([], k) w (.returned (.tuple #[.slice none 0 0, .int .i64 k])) w' := ⟨_, rfl, SlD.nil _ _ _, by simp, F⟩
theorem prgC_ok {t : List UInt8} {o : List Cl} (h6 : ¬ 6000 < t.length) (h : rdAll (Lib.fieldsD t) = some o) (h1 : plnC o = true) (h2 : textC o = t) : prgC t = (o, 0) := by
  unfold prgC; rw [if_neg h6, h]; simp only; rw [if_pos ⟨h1, h2⟩]
theorem prgC_no {t : List UInt8} {o : List Cl} (h6 : ¬ 6000 < t.length) (h : rdAll (Lib.fieldsD t) = some o) (h1 : ¬ (plnC o = true ∧ textC o = t)) : prgC t = ([], 2) := by
  unfold prgC; rw [if_neg h6, h]; simp only; rw [if_neg h1]
theorem prgC_bad {t : List UInt8} (h6 : ¬ 6000 < t.length) (h : rdAll (Lib.fieldsD t) = none) : prgC t = ([], 2) := by
  unfold prgC; rw [if_neg h6, h]
theorem rdAll_step {ws : List (List UInt8)} {k : Nat} {o : List Cl} {a b : Int} (hk : k < ws.length) (h : rdAll (ws.take k) = some o) (ha : rdN (Lib.cut ws[k] [61]).1 = some a) (hb : rdN (Lib.cut ws[k] [61]).2.1 = some b) : rdAll (ws.take (k + 1)) = some (o ++ [(a, b)]) := by
  rw [List.take_succ_eq_append_getElem hk, rdAll_snoc, h]
  unfold rdS rdW
  rw [ha, hb]
theorem rdW_bad1 {x : List UInt8} (ha : rdN (Lib.cut x [61]).1 = none) : rdW x = none := by unfold rdW; rw [ha]
theorem rdW_bad2 {x : List UInt8} (ha : rdN (Lib.cut x [61]).2.1 = none) : rdW x = none := by unfold rdW; rw [ha]; split <;> simp_all
set_option maxRecDepth 100000 in
set_option maxHeartbeats 4000000 in
theorem cpar_any (S : ByteArray) (w : World) (hS : S.size ≤ 1073741824) (hE : Errs w) (hM : Mxl w) (hP : Spc w) : Calls Tryz.prog 33 #[.string S] w (PaC (parC S.data.toList) w) := by
  rw [← prg_par]
  by_cases h6 : 6000 < S.size
  · have hd : decide ((6000 : Int) < (S.size : Int)) = true := decide_eq_true (by omega)
    have he : prgC S.data.toList = ([], 3) := by unfold prgC; rw [if_pos (by rw [ba_len]; exact h6)]
    rw [he]
    clear h6 he
    go_enter Tryz.func33, Tryz.ntmps33
    go_wp2_with fail
    go_ret2
    exact PaC.none_ (Fr.refl _ _)
  · have hd : decide ((6000 : Int) < (S.size : Int)) = false := decide_eq_false (by omega)
    have hz6 : S.size ≤ 6000 := by omega
    have h6' : ¬ 6000 < S.data.toList.length := by rw [ba_len]; exact h6
    have H6 := Lib.hid h6'
    have hcnt := fieldsD_cnt S.data.toList
    have hlen := fieldsD_len S.data.toList
    have hsz : S.data.toList.length = S.size := ba_len S
    rw [hsz] at hcnt hlen
    obtain ⟨ws, hws⟩ : ∃ ws, ws = Lib.fieldsD S.data.toList := ⟨_, rfl⟩
    obtain ⟨R, hR⟩ : ∃ R, R = prgC S.data.toList := ⟨_, rfl⟩
    have HR := Lib.hid hR
    have HWs := Lib.hid hws
    rw [← hws] at hcnt hlen
    have HLen := Lib.hid hlen
    rw [← hR]
    clear h6 h6' hlen hR hws hsz
    go_enter Tryz.func33, Tryz.ntmps33
    go_wp2_with fail
    refine (cfields_any S w hz6 hP).mono ?_
    rintro e w1 ⟨v1, rfl, hv1, F0⟩
    rw [← HWs.out] at hv1
    obtain ⟨A, n, c, rfl, hn, hnc, hm, hcc⟩ := hv1
    simp only [List.length_map, Nat.mul_one] at hn
    subst hn
    unfold maxLen at hm
    have HC := Lib.hid hcc
    clear hcc hd
    go_wp2_with fail
    go_loopw [4, 20] (fun s4 s20 wr => ∃ (k : Nat) (o : List Cl) (B : Option Addr) (d : Nat), k ≤ ws.length ∧ s20 = .int .i64 (k : Int) ∧ s4 = .slice B o.length d ∧ Hid (rdAll (ws.take k) = some o) ∧ o.length ≤ k ∧ Hid (∀ c ∈ o, Wc c) ∧ Fr none w1 wr ∧ wr.ownsRow w1.heap.size 24 2 (.slice B o.length d) o.length (flC o)) (fun _ s20 _ => ws.length - (intOf s20).toNat)
    case atStart => exact ⟨0, [], none, 0, Nat.zero_le _, rfl, rfl, rfl, by simp, Lib.hid (by simp), Fr.refl _ _, World.ownsRow_nil _ _ _ _⟩
    case round =>
      obtain ⟨k, o, B, d, hk, rfl, rfl, HO, hol, HW, F, own⟩ := hrel
      obtain ⟨wz, hwz⟩ : ∃ wz : World, wz = wr := ⟨_, rfl⟩
      subst hwz
      have hz := F.size
      by_cases hlt : k < ws.length
      · obtain ⟨b, off, rfl, hb, hx⟩ := HC.out (by omega)
        have hx := hx k (.string (bC ws[k])) (by simp [hlt])
        have hx := F.keep hx (by simp)
        have hxl := HLen.out ws[k] (List.getElem_mem hlt)
        obtain ⟨x, hxx⟩ : ∃ x, x = ws[k] := ⟨_, rfl⟩
        rw [← hxx] at hx hxl
        have HX := Lib.hid hxx
        have hcl := cut_len x [61]
        have HErr : Hid (∀ w', Fr none w w' → rdW x = none → PaC R w (.returned (.tuple #[.slice none 0 0, .int .i64 2])) w') := fun w' F h => by
          have hb := rdAll_bad ws k hlt (by rw [← HX.out]; exact h)
          have hr : R = ([], 2) := by rw [HR.out]; exact prgC_bad H6.out (by rw [← HWs.out]; exact hb)
          rw [hr]; exact PaC.none_ F
        clear hxx
        have F0z := F0.pure F
        go_wp2_with fail
        refine (ccut_any x _ (by omega) (hM.fr F0z)).mono ?_
        rintro e w2 ⟨bb, rfl, F2⟩
        have F02 := F0z.pure F2
        have Z1 : (bC (Lib.cut x [61]).1).size ≤ 1073741824 := by rw [bC_size]; omega
        have Z2 : (bC (Lib.cut x [61]).2.1).size ≤ 1073741824 := by rw [bC_size]; omega
        have E2 := hE.fr F02
        clear hx hcl
        go_wp2_with fail
        refine (catoi_any _ _ Z1 E2).mono ?_
        rintro e w3 ⟨n1, v1, rfl, hA1, hw1, F3⟩
        rw [bC_list] at hA1
        have F03 := F02.pure F3
        have E3 := hE.fr F03
        clear Z1 E2
        have HA1 := Lib.hid hA1
        have HW1 := Lib.hid hw1
        clear hA1 hw1
        go_wp2_with fail
        refine (catoi_any _ _ Z2 E3).mono ?_
        rintro e w4 ⟨n2, v2, rfl, hA2, hw2, F4⟩
        rw [bC_list] at hA2
        have F04 := F03.pure F4
        have Fz4 := (F2.pure F3).pure F4
        have own4 := own_fr own Fz4 (by simp)
        have F14 := F.pure Fz4
        have HW2 := Lib.hid hw2
        clear Z2 E3 hw2 own F2 F3 F4 F02 F03 F0z
        rcases HA1.out with ⟨m1, hm1, rfl, rfl⟩ | ⟨hm1, t, p, rfl⟩
        · rcases hA2 with ⟨m2, hm2, rfl, rfl⟩ | ⟨hm2, t, p, rfl⟩
          · have HST : Hid (rdAll (ws.take (k + 1)) = some (o ++ [(n1, n2)])) := rdAll_step hlt HO.out (by rw [← HX.out]; exact hm1) (by rw [← HX.out]; exact hm2)
            have og := own_blk_ge own4
            have hz4 := Fz4.size
            clear hm1 hm2 HA1 HErr
            go_wp2_with (at_builtin; refine app_lit eiClm rfl _ _ rfl w1.heap.size B o.length d _ rfl own4 1 [.int .i64 n1, .int .i64 n2] _ _ rfl (by simp) rfl (by simp [Value.oneCell']) (by omega) (by unfold maxLen; omega) (by omega) ?_; intro A' c' w' own' F' bl')
            have hln : (o ++ [(n1, n2)]).length = o.length + 1 := by simp
            go_roundw
            case rel => exact ⟨k + 1, o ++ [(n1, n2)], A', c', by omega, by go_num, by rw [hln], HST, by rw [hln]; omega, Lib.hid (snoc_wc' HW.out ⟨HW1.out, HW2.out⟩), F14.own F' og, by rw [hln, flC_snoc]; exact own'⟩
            case measure => simp [intOf]; omega
          · have HB := Lib.hid (rdW_bad2 hm2)
            clear hm1 hm2 HA1
            go_wp2_with fail
            go_ret2
            exact HErr.out _ F04 HB.out
        · have HB := Lib.hid (rdW_bad1 hm1)
          clear hm1 HA1 hA2
          go_wp2_with fail
          go_ret2
          exact HErr.out _ F04 HB.out
      · obtain rfl : k = ws.length := by omega
        have HO2 : Hid (rdAll (Lib.fieldsD S.data.toList) = some o) := by
          have := HO.out
          rw [List.take_length, HWs.out] at this
          exact this
        have F0z := F0.pure F
        have hsl : SlC wz none (.slice B o.length d) o := SlC.of_own own (by simp) HW.out
        have ownF : Hid (∀ w', Fr none wz w' → SlD w' (Dn w.heap.size w') 2 (.slice B o.length d) (flC o)) := fun w' F' => ((SlD.own_dn own).keep (dn_fr F' (by simp))).keep (dn_mono F0.size)
        have hol2 : o.length ≤ 1000000 := by omega
        clear own hol HO
        go_wp2_with fail
        refine (cpln_any o _ _ hsl).mono ?_
        rintro e w2 ⟨rfl, F2⟩
        have hsl2 := hsl.fr F2
        cases hp : plnC o with
        | false =>
          have hr : Hid (R = ([], 2)) := by unfold Hid; rw [HR.out]; exact prgC_no H6.out HO2.out (by rw [hp]; simp)
          clear hp
          go_wp2_with fail
          go_ret2
          rw [hr.out]
          exact PaC.none_ (F0z.pure F2)
        | true =>
          have HP := Lib.hid hp
          clear hp
          go_wp2_with fail
          refine (ctxt_any o _ _ hsl2 hol2).mono ?_
          rintro e w3 ⟨rfl, F3⟩
          obtain ⟨X, hX⟩ : ∃ X, X = bC (textC o) := ⟨_, rfl⟩
          rw [← hX]
          by_cases he : X = S
          · have hb : (X.toList == S.toList) = true := by rw [he, beq_iff_eq]
            have hb2 : (S.toList == S.toList) = true := by rw [beq_iff_eq]
            have hr : Hid (R = (o, 0)) := by
              unfold Hid; rw [HR.out]
              exact prgC_ok H6.out HO2.out HP.out (by rw [← he, hX, bC_list])
            clear he hX
            go_wp2_with fail
            go_ret2
            rw [hr.out]
            exact ⟨_, rfl, ownF.out _ (F2.pure F3), HW.out, F0z.pure (F2.pure F3)⟩
          · have hb : (X.toList == S.toList) = false := by
              rw [beq_eq_false_iff_ne]
              intro h
              rw [ByteArray.toList_eq, ByteArray.toList_eq] at h
              exact he (ba_eq h)
            have hr : Hid (R = ([], 2)) := by
              unfold Hid; rw [HR.out]
              refine prgC_no H6.out HO2.out (fun h => he ?_)
              rw [hX, h.2]; exact (bC_of S).symm
            clear he hX
            go_wp2_with fail
            go_ret2
            rw [hr.out]
            exact PaC.none_ (F0z.pure (F2.pure F3))
end Go.Proofs.YtkpgnhdmlikopaaGreatDoor

/- Walks: the sanity check of the chapter's statements. -/
namespace Go.Proofs.YtkpgnhdmlikopaaGreatDoor
open Go.RowKit

def exL : List Cl := [(0, 1), (0, 2), (3, 15)]
def exT : List UInt8 := [48, 61, 49, 32, 48, 61, 50, 32, 51, 61, 49, 53]
theorem exT_eq : textC exL = exT := by decide +kernel
theorem exL_srt : srtC exL = exL := by decide +kernel
theorem exP : parC exT = (exL, 0) := by rw [← exT_eq, parC_text, exL_srt]
theorem exCons : consC exL = false := by decide +kernel
set_option maxRecDepth 100000 in
set_option maxHeartbeats 4000000 in
theorem awakeC_any (w : World) (hE : Errs w) (hM : Mxl w) (hP : Spc w) : Calls Tryz.prog 4 #[] w fun e w' => e = .returned (.bool true) ∧ Fr none w w' := by
  go_enter Tryz.func4, Tryz.ntmps4
  go_wp2_with fail
  refine (cpar_any ⟨#[48, 61, 49, 32, 48, 61, 50, 32, 51, 61, 49, 53]⟩ w (by decide) hE hM hP).mono ?_
  rintro e w1 ⟨v1, he, hs, hw, F1⟩
  have hpar : parC (⟨#[48, 61, 49, 32, 48, 61, 50, 32, 51, 61, 49, 53]⟩ : ByteArray).data.toList = (exL, 0) := exP
  rw [hpar] at he hs hw
  have hsl : SlC w1 none v1 exL := NwC.sl hs hw none (by simp)
  clear hs hw hpar
  obtain ⟨A, c, rfl, q1, q2, hc⟩ := hsl.open_
  obtain ⟨b, off, rfl, hb, _, hcc⟩ := hc (by decide)
  subst he
  have q1 : 3 ≤ c := q1
  have hcon1 : conC (0, 1) (0, 2) = true := rfl
  have hcon2 : conC (0, 1) (3, 15) = false := rfl
  have hsl3 : SlC w1 none (.slice (some ⟨b, off, none⟩) 3 c) exL := hsl
  have HS : Hid (∀ W, Fr none w1 W → (W.cell? ⟨b, off, none⟩ = some (.int .i64 0) ∧ W.cell? ⟨b, off + 1, none⟩ = some (.int .i64 1)) ∧ (W.cell? ⟨b, off + 2, none⟩ = some (.int .i64 0) ∧ W.cell? ⟨b, off + 3, none⟩ = some (.int .i64 2)) ∧ (W.cell? ⟨b, off + 4, none⟩ = some (.int .i64 3) ∧ W.cell? ⟨b, off + 5, none⟩ = some (.int .i64 15))) := fun W FW => by
    have h0 := hcc 0 (by decide)
    have h1 := hcc 1 (by decide)
    have h2 := hcc 2 (by decide)
    exact ⟨⟨FW.keep h0.1 (by simp), FW.keep h0.2 (by simp)⟩, ⟨FW.keep h1.1 (by simp), FW.keep h1.2 (by simp)⟩, ⟨FW.keep h2.1 (by simp), FW.keep h2.2 (by simp)⟩⟩
  have HSL := Lib.hid hsl3
  clear hcc hc hsl hsl3 hE hM hP
  have hxl : exL.length = 3 := rfl
  rw [hxl]
  clear hxl
  have heq : ((bC exT).toList == [48, 61, 49, 32, 48, 61, 50, 32, 51, 61, 49, 53]) = true := by rw [ByteArray.toList_eq]; rfl
  go_upto_region 2 with (fail)
  refine wp_region_held_drew (S := fun W => ((W.cell? ⟨b, off, none⟩ = some (.int .i64 0) ∧ W.cell? ⟨b, off + 1, none⟩ = some (.int .i64 1)) ∧ (W.cell? ⟨b, off + 2, none⟩ = some (.int .i64 0) ∧ W.cell? ⟨b, off + 3, none⟩ = some (.int .i64 2)) ∧ (W.cell? ⟨b, off + 4, none⟩ = some (.int .i64 3) ∧ W.cell? ⟨b, off + 5, none⟩ = some (.int .i64 15))) ∧ Fr none w1 W) (by kernel_rfl) ⟨HS.out _ (Fr.refl _ _).drew, (Fr.refl _ _).drew⟩ (fun hH0 => ?_)
  refine wpAnyH_take (i := 0) (v := ?_) rfl (by kernel_rfl) (by kernel_rfl) (by kernel_rfl) (fun _ _ _ h => h) (Or.inl ⟨by rfl, ?_⟩) (by assumption) ?_
  rotate_left
  · (intro W hW; (try dsimp only at hW); go_simp; try with_reducible rfl)
  try simp only [Act.put, List.setIfInBounds_toArray, List.set_cons_zero, List.set_cons_succ, List.getElem_toArray, List.getElem_cons_zero, List.getElem_cons_succ]
  refine wpAnyH_take (i := 1) (v := ?_) rfl (by kernel_rfl) (by kernel_rfl) (by kernel_rfl) (fun _ _ _ h => h) (Or.inl ⟨by rfl, ?_⟩) (by assumption) ?_
  rotate_left
  · (intro W hW; (try dsimp only at hW); go_simp; try with_reducible rfl)
  try simp only [Act.put, List.setIfInBounds_toArray, List.set_cons_zero, List.set_cons_succ, List.getElem_toArray, List.getElem_cons_zero, List.getElem_cons_succ]
  refine wpAnyH_take (i := 2) (v := ?_) rfl (by kernel_rfl) (by kernel_rfl) (by kernel_rfl) (fun _ _ _ h => h) (Or.inl ⟨by rfl, ?_⟩) (by assumption) ?_
  rotate_left
  · (intro W hW; (try dsimp only at hW); go_simp; try with_reducible rfl)
  try simp only [Act.put, List.setIfInBounds_toArray, List.set_cons_zero, List.set_cons_succ, List.getElem_toArray, List.getElem_cons_zero, List.getElem_cons_succ]
  refine wpAnyH_take (i := 3) (v := ?_) rfl (by kernel_rfl) (by kernel_rfl) (by kernel_rfl) (fun _ _ _ h => h) (Or.inl ⟨by rfl, ?_⟩) (by assumption) ?_
  rotate_left
  · (intro W hW; (try dsimp only at hW); go_simp; try with_reducible rfl)
  try simp only [Act.put, List.setIfInBounds_toArray, List.set_cons_zero, List.set_cons_succ, List.getElem_toArray, List.getElem_cons_zero, List.getElem_cons_succ]
  refine wpAnyH_take (i := 4) (v := ?_) rfl (by kernel_rfl) (by kernel_rfl) (by kernel_rfl) (fun _ _ _ h => h) (Or.inl ⟨by rfl, ?_⟩) (by assumption) ?_
  rotate_left
  · (intro W hW; (try dsimp only at hW); go_simp; try with_reducible rfl)
  try simp only [Act.put, List.setIfInBounds_toArray, List.set_cons_zero, List.set_cons_succ, List.getElem_toArray, List.getElem_cons_zero, List.getElem_cons_succ]
  refine wpAnyH_take (i := 5) (v := ?_) rfl (by kernel_rfl) (by kernel_rfl) (by kernel_rfl) (fun _ _ _ h => h) (Or.inl ⟨by rfl, ?_⟩) (by assumption) ?_
  rotate_left
  · (intro W hW; (try dsimp only at hW); go_simp; try with_reducible rfl)
  try simp only [Act.put, List.setIfInBounds_toArray, List.set_cons_zero, List.set_cons_succ, List.getElem_toArray, List.getElem_cons_zero, List.getElem_cons_succ]
  refine wpAnyH_take (i := 6) (v := ?_) rfl (by kernel_rfl) (by kernel_rfl) (by kernel_rfl) (fun _ _ _ h => h) (Or.inl ⟨by rfl, ?_⟩) (by assumption) ?_
  rotate_left
  · (intro W hW; (try dsimp only at hW); go_simp; try with_reducible rfl)
  try simp only [Act.put, List.setIfInBounds_toArray, List.set_cons_zero, List.set_cons_succ, List.getElem_toArray, List.getElem_cons_zero, List.getElem_cons_succ]
  refine wpAnyH_take (i := 7) (v := ?_) rfl (by kernel_rfl) (by kernel_rfl) (by kernel_rfl) (fun _ _ _ h => h) (Or.inl ⟨by rfl, ?_⟩) (by assumption) ?_
  rotate_left
  · (intro W hW; (try dsimp only at hW); go_simp; try with_reducible rfl)
  try simp only [Act.put, List.setIfInBounds_toArray, List.set_cons_zero, List.set_cons_succ, List.getElem_toArray, List.getElem_cons_zero, List.getElem_cons_succ]
  refine wpAnyH_take (i := 8) (v := ?_) rfl (by kernel_rfl) (by kernel_rfl) (by kernel_rfl) (fun _ _ _ h => h) (Or.inl ⟨by rfl, ?_⟩) (by assumption) ?_
  rotate_left
  · (intro W hW; (try dsimp only at hW); go_simp; try with_reducible rfl)
  try simp only [Act.put, List.setIfInBounds_toArray, List.set_cons_zero, List.set_cons_succ, List.getElem_toArray, List.getElem_cons_zero, List.getElem_cons_succ]
  refine wpAnyH_take (i := 9) (v := ?_) rfl (by kernel_rfl) (by kernel_rfl) (by kernel_rfl) (fun _ _ _ h => h) (Or.inl ⟨by rfl, ?_⟩) (by assumption) ?_
  rotate_left
  · (intro W hW; (try dsimp only at hW); go_simp; try with_reducible rfl)
  try simp only [Act.put, List.setIfInBounds_toArray, List.set_cons_zero, List.set_cons_succ, List.getElem_toArray, List.getElem_cons_zero, List.getElem_cons_succ]
  refine wpAnyH_take (i := 10) (v := ?_) rfl (by kernel_rfl) (by kernel_rfl) (by kernel_rfl) (fun _ _ _ h => h) (Or.inl ⟨by rfl, ?_⟩) (by assumption) ?_
  rotate_left
  · (intro W hW; (try dsimp only at hW); go_simp; try with_reducible rfl)
  try simp only [Act.put, List.setIfInBounds_toArray, List.set_cons_zero, List.set_cons_succ, List.getElem_toArray, List.getElem_cons_zero, List.getElem_cons_succ]
  refine wpAnyH_take (i := 11) (v := ?_) rfl (by kernel_rfl) (by kernel_rfl) (by kernel_rfl) (fun _ _ _ h => h) (Or.inl ⟨by rfl, ?_⟩) (by assumption) ?_
  rotate_left
  · (intro W hW; (try dsimp only at hW); go_simp; try with_reducible rfl)
  try simp only [Act.put, List.setIfInBounds_toArray, List.set_cons_zero, List.set_cons_succ, List.getElem_toArray, List.getElem_cons_zero, List.getElem_cons_succ]
  refine wpAnyH_take (i := 12) (v := ?_) rfl (by kernel_rfl) (by kernel_rfl) (by kernel_rfl) (fun _ _ _ h => h) (Or.inl ⟨by rfl, ?_⟩) (by assumption) ?_
  rotate_left
  · (intro W hW; (try dsimp only at hW); go_simp; try with_reducible rfl)
  try simp only [Act.put, List.setIfInBounds_toArray, List.set_cons_zero, List.set_cons_succ, List.getElem_toArray, List.getElem_cons_zero, List.getElem_cons_succ]
  refine wpAnyH_take (i := 13) (v := ?_) rfl (by kernel_rfl) (by kernel_rfl) (by kernel_rfl) (fun _ _ _ h => h) (Or.inl ⟨by rfl, ?_⟩) (by assumption) ?_
  rotate_left
  · (intro W hW; (try dsimp only at hW); go_simp; try with_reducible rfl)
  try simp only [Act.put, List.setIfInBounds_toArray, List.set_cons_zero, List.set_cons_succ, List.getElem_toArray, List.getElem_cons_zero, List.getElem_cons_succ]
  refine wpAnyH_ready (rs := [14]) (by kernel_rfl) (by simp) ?_
  refine AllReadyH.cons rfl (fun K hK => ?_) AllReadyH.nil
  simp only [List.getElem_toArray, List.getElem_cons_zero, List.getElem_cons_succ]
  go_simp
  go_at_call 11
  refine (con_any (0, 1) (0, 2) _).mono ?_
  rintro e wN ⟨rfl, FN⟩
  have FN := hH0.2.pure FN
  refine hK.out _ _ ⟨HS.out _ FN, FN⟩ (fun hH1 => ?_)
  clear hK K hH0 FN
  have hH0 := hH1
  clear hH1
  rw [hcon1]
  try simp only [Act.put, List.setIfInBounds_toArray, List.set_cons_zero, List.set_cons_succ, List.getElem_toArray, List.getElem_cons_zero, List.getElem_cons_succ]
  refine wpAnyH_take (i := 15) (v := ?_) rfl (by kernel_rfl) (by kernel_rfl) (by kernel_rfl) (fun _ _ _ h => h) (Or.inl ⟨by rfl, ?_⟩) (by assumption) ?_
  rotate_left
  · (intro W hW; (try dsimp only at hW); go_simp; try with_reducible rfl)
  try simp only [Act.put, List.setIfInBounds_toArray, List.set_cons_zero, List.set_cons_succ, List.getElem_toArray, List.getElem_cons_zero, List.getElem_cons_succ]
  refine wpAnyH_take (i := 16) (v := ?_) rfl (by kernel_rfl) (by kernel_rfl) (by kernel_rfl) (fun _ _ _ h => h) (Or.inl ⟨by rfl, ?_⟩) (by assumption) ?_
  rotate_left
  · (intro W hW; (try dsimp only at hW); go_simp; try with_reducible rfl)
  try simp only [Act.put, List.setIfInBounds_toArray, List.set_cons_zero, List.set_cons_succ, List.getElem_toArray, List.getElem_cons_zero, List.getElem_cons_succ]
  refine wpAnyH_take (i := 17) (v := ?_) rfl (by kernel_rfl) (by kernel_rfl) (by kernel_rfl) (fun _ _ _ h => h) (Or.inl ⟨by rfl, ?_⟩) (by assumption) ?_
  rotate_left
  · (intro W hW; (try dsimp only at hW); go_simp; try with_reducible rfl)
  try simp only [Act.put, List.setIfInBounds_toArray, List.set_cons_zero, List.set_cons_succ, List.getElem_toArray, List.getElem_cons_zero, List.getElem_cons_succ]
  refine wpAnyH_take (i := 18) (v := ?_) rfl (by kernel_rfl) (by kernel_rfl) (by kernel_rfl) (fun _ _ _ h => h) (Or.inl ⟨by rfl, ?_⟩) (by assumption) ?_
  rotate_left
  · (intro W hW; (try dsimp only at hW); go_simp; try with_reducible rfl)
  try simp only [Act.put, List.setIfInBounds_toArray, List.set_cons_zero, List.set_cons_succ, List.getElem_toArray, List.getElem_cons_zero, List.getElem_cons_succ]
  refine wpAnyH_take (i := 19) (v := ?_) rfl (by kernel_rfl) (by kernel_rfl) (by kernel_rfl) (fun _ _ _ h => h) (Or.inl ⟨by rfl, ?_⟩) (by assumption) ?_
  rotate_left
  · (intro W hW; (try dsimp only at hW); go_simp; try with_reducible rfl)
  try simp only [Act.put, List.setIfInBounds_toArray, List.set_cons_zero, List.set_cons_succ, List.getElem_toArray, List.getElem_cons_zero, List.getElem_cons_succ]
  refine wpAnyH_take (i := 20) (v := ?_) rfl (by kernel_rfl) (by kernel_rfl) (by kernel_rfl) (fun _ _ _ h => h) (Or.inl ⟨by rfl, ?_⟩) (by assumption) ?_
  rotate_left
  · (intro W hW; (try dsimp only at hW); go_simp; try with_reducible rfl)
  try simp only [Act.put, List.setIfInBounds_toArray, List.set_cons_zero, List.set_cons_succ, List.getElem_toArray, List.getElem_cons_zero, List.getElem_cons_succ]
  refine wpAnyH_take (i := 21) (v := ?_) rfl (by kernel_rfl) (by kernel_rfl) (by kernel_rfl) (fun _ _ _ h => h) (Or.inl ⟨by rfl, ?_⟩) (by assumption) ?_
  rotate_left
  · (intro W hW; (try dsimp only at hW); go_simp; try with_reducible rfl)
  try simp only [Act.put, List.setIfInBounds_toArray, List.set_cons_zero, List.set_cons_succ, List.getElem_toArray, List.getElem_cons_zero, List.getElem_cons_succ]
  refine wpAnyH_take (i := 22) (v := ?_) rfl (by kernel_rfl) (by kernel_rfl) (by kernel_rfl) (fun _ _ _ h => h) (Or.inl ⟨by rfl, ?_⟩) (by assumption) ?_
  rotate_left
  · (intro W hW; (try dsimp only at hW); go_simp; try with_reducible rfl)
  try simp only [Act.put, List.setIfInBounds_toArray, List.set_cons_zero, List.set_cons_succ, List.getElem_toArray, List.getElem_cons_zero, List.getElem_cons_succ]
  refine wpAnyH_ready (rs := [23]) (by kernel_rfl) (by simp) ?_
  refine AllReadyH.cons rfl (fun K hK => ?_) AllReadyH.nil
  simp only [List.getElem_toArray, List.getElem_cons_zero, List.getElem_cons_succ]
  go_simp
  go_at_call 11
  refine (con_any (0, 1) (3, 15) _).mono ?_
  rintro e wN ⟨rfl, FN⟩
  have FN := hH0.2.pure FN
  refine hK.out _ _ ⟨HS.out _ FN, FN⟩ (fun hH1 => ?_)
  clear hK K hH0 FN
  have hH0 := hH1
  clear hH1
  rw [hcon2]
  try simp only [Act.put, List.setIfInBounds_toArray, List.set_cons_zero, List.set_cons_succ, List.getElem_toArray, List.getElem_cons_zero, List.getElem_cons_succ]
  refine wpAnyH_take (i := 24) (v := ?_) rfl (by kernel_rfl) (by kernel_rfl) (by kernel_rfl) (fun _ _ _ h => h) (Or.inl ⟨by rfl, ?_⟩) (by assumption) ?_
  rotate_left
  · (intro W hW; (try dsimp only at hW); go_simp; try with_reducible rfl)
  try simp only [Act.put, List.setIfInBounds_toArray, List.set_cons_zero, List.set_cons_succ, List.getElem_toArray, List.getElem_cons_zero, List.getElem_cons_succ]
  refine wpAnyH_take (i := 25) (v := ?_) rfl (by kernel_rfl) (by kernel_rfl) (by kernel_rfl) (fun _ _ _ h => h) (Or.inl ⟨by rfl, ?_⟩) (by assumption) ?_
  rotate_left
  · (intro W hW; (try dsimp only at hW); go_simp; try with_reducible rfl)
  try simp only [Act.put, List.setIfInBounds_toArray, List.set_cons_zero, List.set_cons_succ, List.getElem_toArray, List.getElem_cons_zero, List.getElem_cons_succ]
  refine wpAnyH_take (i := 26) (v := ?_) rfl (by kernel_rfl) (by kernel_rfl) (by kernel_rfl) (fun _ _ _ h => h) (Or.inl ⟨by rfl, ?_⟩) (by assumption) ?_
  rotate_left
  · (intro W hW; (try dsimp only at hW); go_simp; try with_reducible rfl)
  try simp only [Act.put, List.setIfInBounds_toArray, List.set_cons_zero, List.set_cons_succ, List.getElem_toArray, List.getElem_cons_zero, List.getElem_cons_succ]
  refine wpAnyH_take (i := 27) (v := ?_) rfl (by kernel_rfl) (by kernel_rfl) (by kernel_rfl) (fun _ _ _ h => h) (Or.inl ⟨by rfl, ?_⟩) (by assumption) ?_
  rotate_left
  · (intro W hW; (try dsimp only at hW); go_simp; try with_reducible rfl)
  try simp only [Act.put, List.setIfInBounds_toArray, List.set_cons_zero, List.set_cons_succ, List.getElem_toArray, List.getElem_cons_zero, List.getElem_cons_succ]
  refine wpAnyH_ready (rs := [28]) (by kernel_rfl) (by simp) ?_
  refine AllReadyH.cons rfl (fun K hK => ?_) AllReadyH.nil
  simp only [List.getElem_toArray, List.getElem_cons_zero, List.getElem_cons_succ]
  go_simp
  go_at_call 24
  refine (ctxt_any exL _ _ (HSL.out.fr hH0.2) (by decide)).mono ?_
  rintro e wN ⟨rfl, FN⟩
  have FN := hH0.2.pure FN
  refine hK.out _ _ ⟨HS.out _ FN, FN⟩ (fun hH1 => ?_)
  clear hK K hH0 FN
  have hH0 := hH1
  clear hH1
  rw [exT_eq]
  try simp only [Act.put, List.setIfInBounds_toArray, List.set_cons_zero, List.set_cons_succ, List.getElem_toArray, List.getElem_cons_zero, List.getElem_cons_succ]
  refine wpAnyH_take (i := 29) (v := ?_) rfl (by kernel_rfl) (by kernel_rfl) (by kernel_rfl) (fun _ _ _ h => h) (Or.inl ⟨by rfl, ?_⟩) (by assumption) ?_
  rotate_left
  · (intro W hW; (try dsimp only at hW); go_simp; try with_reducible rfl)
  try simp only [Act.put, List.setIfInBounds_toArray, List.set_cons_zero, List.set_cons_succ, List.getElem_toArray, List.getElem_cons_zero, List.getElem_cons_succ]
  refine wpAnyH_take (i := 30) (v := ?_) rfl (by kernel_rfl) (by kernel_rfl) (by kernel_rfl) (fun _ _ _ h => h) (Or.inl ⟨by rfl, ?_⟩) (by assumption) ?_
  rotate_left
  · (intro W hW; (try dsimp only at hW); go_simp; try with_reducible rfl)
  try simp only [Act.put, List.setIfInBounds_toArray, List.set_cons_zero, List.set_cons_succ, List.getElem_toArray, List.getElem_cons_zero, List.getElem_cons_succ]
  refine wpAnyH_take (i := 31) (v := ?_) rfl (by kernel_rfl) (by kernel_rfl) (by kernel_rfl) (fun _ _ _ h => h) (Or.inl ⟨by rfl, ?_⟩) (by assumption) ?_
  rotate_left
  · (intro W hW; (try dsimp only at hW); go_simp; try with_reducible rfl)
  try simp only [Act.put, List.setIfInBounds_toArray, List.set_cons_zero, List.set_cons_succ, List.getElem_toArray, List.getElem_cons_zero, List.getElem_cons_succ]
  refine wpAnyH_take (i := 32) (v := ?_) rfl (by kernel_rfl) (by kernel_rfl) (by kernel_rfl) (fun _ _ _ h => h) (Or.inl ⟨by rfl, ?_⟩) (by assumption) ?_
  rotate_left
  · (intro W hW; (try dsimp only at hW); go_simp; try with_reducible rfl)
  try simp only [Act.put, List.setIfInBounds_toArray, List.set_cons_zero, List.set_cons_succ, List.getElem_toArray, List.getElem_cons_zero, List.getElem_cons_succ]
  refine wpAnyH_ready (rs := [33]) (by kernel_rfl) (by simp) ?_
  refine AllReadyH.cons rfl (fun K hK => ?_) AllReadyH.nil
  simp only [List.getElem_toArray, List.getElem_cons_zero, List.getElem_cons_succ]
  go_simp
  go_at_call 22
  refine (ccons_any exL _ _ (HSL.out.fr hH0.2) (by decide)).mono ?_
  rintro e wN ⟨rfl, FN⟩
  have FN := hH0.2.pure FN
  refine hK.out _ _ ⟨HS.out _ FN, FN⟩ (fun hH1 => ?_)
  clear hK K hH0 FN
  have hH0 := hH1
  clear hH1
  rw [exCons]
  try simp only [Act.put, List.setIfInBounds_toArray, List.set_cons_zero, List.set_cons_succ, List.getElem_toArray, List.getElem_cons_zero, List.getElem_cons_succ]
  refine wpAnyH_take (i := 34) (v := ?_) rfl (by kernel_rfl) (by kernel_rfl) (by kernel_rfl) (fun _ _ _ h => h) (Or.inl ⟨by rfl, ?_⟩) (by assumption) ?_
  rotate_left
  · (intro W hW; (try dsimp only at hW); go_simp; try with_reducible rfl)
  try simp only [Act.put, List.setIfInBounds_toArray, List.set_cons_zero, List.set_cons_succ, List.getElem_toArray, List.getElem_cons_zero, List.getElem_cons_succ]
  refine wpAnyH_take (i := 35) (v := ?_) rfl (by kernel_rfl) (by kernel_rfl) (by kernel_rfl) (fun _ _ _ h => h) (Or.inl ⟨by rfl, ?_⟩) (by assumption) ?_
  rotate_left
  · (intro W hW; (try dsimp only at hW); go_simp; try with_reducible rfl)
  try simp only [Act.put, List.setIfInBounds_toArray, List.set_cons_zero, List.set_cons_succ, List.getElem_toArray, List.getElem_cons_zero, List.getElem_cons_succ]
  refine wpAnyH_take (i := 36) (v := ?_) rfl (by kernel_rfl) (by kernel_rfl) (by kernel_rfl) (fun _ _ _ h => h) (Or.inl ⟨by rfl, ?_⟩) (by assumption) ?_
  rotate_left
  · (intro W hW; (try dsimp only at hW); go_simp; try with_reducible rfl)
  try simp only [Act.put, List.setIfInBounds_toArray, List.set_cons_zero, List.set_cons_succ, List.getElem_toArray, List.getElem_cons_zero, List.getElem_cons_succ]
  refine wpAnyH_done (by kernel_rfl) ?_ _
  go_wp2_with fail
  go_ret
  exact ⟨rfl, F1.pure hH0.2⟩
end Go.Proofs.YtkpgnhdmlikopaaGreatDoor

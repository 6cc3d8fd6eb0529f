/- Some texts of this claim, joined: contracts of the functions that it reaches, and plain laws. -/
import Derived.Test.YtkpgnhdmlikopaaGreatDoorProg
import Derived.Test.YtkpgnhdmlikopaaGreatDoorShelf
import Derived.Test.YtkpgnhdmlikopaaGreatDoorJA8
import Derived.Test.YtkpgnhdmlikopaaGreatDoorJA9
import Derived.Test.YtkpgnhdmlikopaaGreatDoorJA4
import Derived.Test.YtkpgnhdmlikopaaGreatDoorJA3
import Derived.Maps.Own
import Derived.Maps.OwnOps
import Derived.Maps.OwnSet

set_option linter.unusedSimpArgs false
set_option linter.unusedVariables false
/- Walks: slices.Clone, SortFunc at claims; claims.Sorted. -/
namespace Go.Proofs.YtkpgnhdmlikopaaGreatDoor
open Go.RowKit Go.Sort

theorem world_extC {a b : World} (h1 : a.heap = b.heap) (h2 : a.tape = b.tape) (h3 : a.drawn = b.drawn) (h4 : a.os = b.os) (h5 : a.output = b.output) : a = b := by
  cases a; cases b; simp_all
/-- What only draws and lays: the world grown. -/
theorem fr_growC {w w' : World} (F : Fr none w w') (hd : w.drawn ≤ w'.drawn) : ∃ q os, w' = Sort.grow (w.drewN q) os := by
  have f1 := World.grownBy.tape F
  have f2 := World.grownBy.os F
  have f3 := World.grownBy.output F
  refine ⟨w'.drawn - w.drawn, w'.heap.extract w.heap.size w'.heap.size, world_extC ?_ f1 ?_ f2 f3⟩
  · show w'.heap = w.heap ++ w'.heap.extract w.heap.size w'.heap.size
    have hz := F.size
    refine Array.ext_getElem? (fun k => ?_)
    by_cases hk : k < w.heap.size
    · rw [Array.getElem?_append_left hk]
      exact F.block k hk (by simp)
    · rw [Array.getElem?_append_right (by omega), Array.getElem?_extract]
      by_cases h2 : k < w'.heap.size
      · rw [if_pos (by omega)]
        congr 1; omega
      · rw [if_neg (by omega)]
        exact Array.getElem?_eq_none (by omega)
  · show w'.drawn = w.drawn + (w'.drawn - w.drawn)
    omega
theorem fr_sortC {α : Type} [Inhabited α] (enc : α → List Value) (k : Nat) (w : World) (g m : Nat) (dk : Array α) (os : Array Obj) : Fr (some g) w (sortWorldK enc k w g 0 m dk os) := by
  refine ⟨rfl, rfl, rfl, size_sortWorldK_c enc k w g 0 m dk os, fun i hi hne => ?_⟩
  unfold sortWorldK putRowK
  rw [heap_grow_old _ _ (by simpa [Sort.ahead, putRow, mapBlock] using hi)]
  have : g ≠ i := fun e => hne (by rw [e])
  simp [putRow, mapBlock, Sort.ahead, Array.getElem?_modify, this]

set_option maxRecDepth 100000 in
set_option maxHeartbeats 1000000 in
theorem clone_own (l : List Cl) (v : Value) (w : World) (h : SlC w none v l) (hl : l.length ≤ 1000000) :
    Calls Tryz.prog 43 #[v] w fun e w' => ∃ v', e = .returned v' ∧ OwnC w' w.heap.size v' l ∧ Fr none w w' := by
  obtain ⟨A, c, rfl, q1, q2, hcc⟩ := h.open_
  cases A with
  | none =>
    have h0 : l.length = 0 := by
      rcases Nat.eq_zero_or_pos l.length with h | h
      · exact h
      · obtain ⟨b, off, e, _⟩ := hcc h; cases e
    obtain rfl := List.eq_nil_of_length_eq_zero h0
    refine (Tryz.slices_Clone_nil _ c w).mono ?_
    rintro e w' ⟨rfl, rfl⟩
    exact ⟨_, rfl, ⟨none, 0, rfl, by simp, by unfold maxLen; omega, by simp⟩, Fr.refl _ _⟩
  | some a =>
    have own0 : (w.alloc (.cells #[] 24)).ownsRow w.heap.size 24 2 (.slice (some ⟨w.heap.size, 0, none⟩) 0 0) 0 [] :=
      ⟨rfl, .inr ⟨w.heap.size, 0, #[], rfl, Nat.le_refl _, blk_new _ _, Nat.le_refl _, by unfold maxLen; omega, rfl, rfl⟩⟩
    have HO := Lib.hid own0
    have HS := Lib.hid (h.fr ((Fr.refl none w).alloc (.cells #[] 24))).1.any
    clear own0 hcc
    have hnil : ∀ w, Sem.run Tryz.prog (binOp .eql 25 (.slice (some a) l.length c) (.slice none 0 0)) w = .ok (.bool false) w := fun w => Lib.run_eql_slice_nil w _ _ (some a) _ _ _ _ undClm
    go_enter Tryz.func43, Tryz.ntmps43
    go_wp2_with (at_builtin; refine app_any eiClm rfl _ _ rfl w.heap.size (some ⟨w.heap.size, 0, none⟩) 0 0 [] rfl HO.out (some a) l.length c (flC l) rfl HS.out (flC_one l) (by omega) (by unfold maxLen; omega) (by simp) ?_; intro C' c' w' own' F' bl')
    go_ret
    have ow : w'.ownsRow w.heap.size 24 2 (.slice C' l.length c') l.length (flC l) := by
      have := own'
      rw [Nat.zero_add] at this
      exact this
    exact ⟨.slice C' l.length c', rfl, OwnC.of_own ow, ((Fr.refl none w).alloc _).own F' (own_blk_ge HO.out)⟩

def ltK (a b : Cl) : Bool := ltOf cmpC a b
theorem ltK_iff (a b : Cl) : ltOf cmpC a b = ltC a b := by
  unfold ltOf
  rw [Bool.eq_iff_iff, decide_eq_true_iff]
  exact cmpC_neg a b
theorem swoK : Sort.SWO (ltOf cmpC) where
  irrefl x := by rw [ltK_iff]; simpa using ltC_irr x
  trans x y z h1 h2 := by rw [ltK_iff] at *; exact ltC_trans h1 h2
  ntrans x y z h1 h2 := by
    rw [ltK_iff] at *
    cases h : ltC x z with
    | false => rfl
    | true =>
      exfalso
      by_cases e : x = y
      · subst e; rw [h] at h2; cases h2
      · rcases ltC_tot e with k | k
        · rw [k] at h1; cases h1
        · have := ltC_trans k h; rw [this] at h2; cases h2
theorem totK (x y : Cl) (h1 : ltOf cmpC x y = false) (h2 : ltOf cmpC y x = false) : x = y := by
  rw [ltK_iff] at *
  by_cases e : x = y
  · exact e
  · rcases ltC_tot e with k | k
    · rw [k] at h1; cases h1
    · rw [k] at h2; cases h2
def sortK (l : List Cl) : List Cl := l.mergeSort fun x y => !(ltOf cmpC) y x
theorem sortK_perm (l : List Cl) : (sortK l).Perm l := List.mergeSort_perm _ _
theorem sortK_asc (l : List Cl) : (sortK l).Pairwise fun a b => ¬ ltC b a = true := by
  have := List.pairwise_mergeSort (le := fun x y => !(ltOf cmpC) y x) (fun a b c h1 h2 => by
    simp only [Bool.not_eq_true'] at *
    exact swoK.ntrans _ _ _ h2 h1) (fun a b => by
    simp only [Bool.or_eq_true, Bool.not_eq_true']
    rw [ltK_iff, ltK_iff]
    cases h : ltC b a with
    | false => exact .inl rfl
    | true => right; simpa using ltC_asym h) l
  exact this.imp (fun {a b} h => by
    simp only [Bool.not_eq_true'] at h
    rw [ltK_iff] at h
    rw [h]; simp)
theorem cmpK_lays (w : World) (g m : Nat) : CmpLays Tryz.prog 13 #[] encC 2 cmpC g 0 m w := by
  intro m os dk hs x y
  show Calls Tryz.prog 13 #[.agg #[.int .i64 x.1, .int .i64 x.2], .agg #[.int .i64 y.1, .int .i64 y.2]] _ _
  refine (ccmp_w x y _).mono ?_
  rintro e w' ⟨rfl, F', hd⟩
  exact ⟨rfl, fr_growC F' hd⟩
theorem sort_own (l : List Cl) (v : Value) (w : World) (base : Nat) (h : OwnC w base v l) (hl : l.length ≤ 1000000) :
    Calls Tryz.prog 45 #[v, .func (.func 13) #[] #[]] w fun e w' => e = .returned (.tuple #[]) ∧ OwnC w' base v (sortK l) ∧ ∃ r, Fr r w w' ∧ ∀ g, r = some g → base ≤ g := by
  obtain ⟨A, c, rfl, q1, q2, hc⟩ := h
  have hsl : (sortK l).length = l.length := (sortK_perm l).length_eq
  rcases Nat.eq_zero_or_pos l.length with h0 | h0
  · obtain rfl := List.eq_nil_of_length_eq_zero h0
    refine (Tryz.slices_SortFunc_none (α := Cl) A c _ w).mono ?_
    rintro e w' ⟨rfl, rfl⟩
    exact ⟨rfl, ⟨A, c, by rw [hsl], by omega, q2, fun h => by omega⟩, none, Fr.refl _ _, by simp⟩
  · obtain ⟨g, rfl, hb, hr⟩ := hc h0
    refine (Tryz.slices_SortFunc_total 2 (fun _ => by kernel_rfl) (fun _ => by kernel_rfl) encC (fun _ => rfl) (fun x v hv => by simp [encC] at hv; rcases hv with rfl | rfl <;> rfl) cmpC swoK 13 #[] g 0 c l.toArray w (fun _ _ => by kernel_rfl) (cmpK_lays _ _ _) hr.holds hr.1 (by simp; omega) totK).mono ?_
    rintro e w' ⟨rfl, n, os, hw⟩
    have e1 : (l.toArray.toList.mergeSort fun x y => !(ltOf cmpC) y x) = sortK l := rfl
    rw [e1] at hw
    have F := fr_sortC encC 2 w g n (sortK l).toArray os
    have hH := holdsK_sortWorldK_c encC 2 w g 0 l.toArray (sortK l).toArray n os hr.holds hr.1 (by simpa using hsl)
    rw [← hw] at F hH
    have hg := hr.1
    refine ⟨rfl, ⟨_, c, by rw [hsl], by omega, q2, fun _ => ⟨g, rfl, hb, RwC.of_holds (by have := F.size; omega) hH⟩⟩, some g, F, fun x hx => by injection hx with hx; omega⟩

set_option maxRecDepth 100000 in
theorem csrt_any (l : List Cl) (v : Value) (w : World) (h : SlC w none v l) (hl : l.length ≤ 1000000) : Calls Tryz.prog 26 #[v] w (NwC (srtC l) w) := by
  have hw := h.2
  have HW := Lib.hid hw
  have hf : (l.filter vCl).length ≤ 1000000 := Nat.le_trans (List.length_filter_le _ _) hl
  have HF := Lib.hid hf
  have HL := Lib.hid hl
  clear hw hf hl
  go_enter Tryz.func26, Tryz.ntmps26
  go_wp2_with fail
  refine (clone_own l v w h HL.out).mono ?_
  rintro e w1 ⟨v1, rfl, O1, F1⟩
  go_wp2_with fail
  refine (cdel_any l v1 w1 _ O1 HW.out).mono ?_
  rintro e w2 ⟨v2, rfl, O2, r2, F2, hr2⟩
  go_wp2_with fail
  refine (sort_own _ v2 w2 _ O2 HF.out).mono ?_
  rintro e w3 ⟨rfl, O3, r3, F3, hr3⟩
  go_wp2_with fail
  refine (ccpc_any _ v2 w3 _ O3).mono ?_
  rintro e w4 ⟨v4, rfl, O4, r4, F4, hr4⟩
  have he : cpcC (sortK (l.filter vCl)) = srtC l := sort_srtC (sortK_perm _) (sortK_asc _)
  rw [he] at O4
  have FF := ((F1.own F2 hr2).own F3 hr3).own F4 hr4
  have HO := Lib.hid O4
  have HFF := Lib.hid FF
  clear O1 O2 O3 O4 F1 F2 F3 F4 hr2 hr3 hr4 he FF
  go_wp2_with fail
  go_ret
  exact ⟨v4, rfl, HO.out.sl, HFF.out⟩
theorem csrtS_any (l : List Cl) (v : Value) (w : World) (h : SlC w none v l) (hl : l.length ≤ 1000000) : Calls Tryz.prog 26 #[v] w fun e w' => ∃ v', e = .returned v' ∧ SlC w' none v' (srtC l) ∧ Fr none w w' :=
  (csrt_any l v w h hl).mono fun _ _ ⟨v', he, hs, F⟩ => ⟨v', he, NwC.sl hs (srtC_wc l) none (by simp), F⟩
end Go.Proofs.YtkpgnhdmlikopaaGreatDoor

/- Walks: claims.Union, Of. -/
namespace Go.Proofs.YtkpgnhdmlikopaaGreatDoor
open Go.RowKit

set_option maxRecDepth 100000 in
theorem cuni_any (a b : List Cl) (va vb : Value) (w : World) (ha : SlC w none va a) (hb : SlC w none vb b) (hl : a.length + b.length ≤ 1000000) : Calls Tryz.prog 27 #[va, vb] w (NwC (uniC a b) w) := by
  have hwab : ∀ c ∈ a ++ b, Wc c := fun c hc => by
    rcases List.mem_append.1 hc with h | h
    · exact ha.2 c h
    · exact hb.2 c h
  have HW := Lib.hid hwab
  have HL : Hid ((a ++ b).length ≤ 1000000) := by unfold Hid; simpa using hl
  have HL0 := Lib.hid hl
  obtain ⟨A, ca, rfl, _, _, _⟩ := ha.open_
  obtain ⟨B, cb, rfl, _, _, _⟩ := hb.open_
  clear hwab hl
  go_enter Tryz.func27, Tryz.ntmps27
  go_wp2_with fail
  have F1 := (Fr.refl none w).alloc (.cells #[.slice A a.length ca, .slice B b.length cb] 25)
  refine (cconcat_any a b _ _ w.heap.size _ (by rw [cell_new]; rfl) (by rw [cell_new]; rfl) (ha.fr F1) (hb.fr F1) HL0.out).mono ?_
  rintro e w2 ⟨v2, rfl, hs, F2⟩
  have h2 := NwC.sl hs HW.out none (by simp)
  have F02 := F1.pure F2
  clear hs F1 F2
  go_wp2_with fail
  refine (csrt_any (a ++ b) v2 w2 h2 HL.out).mono ?_
  rintro e w3 ⟨v3, rfl, hs, F3⟩
  have hz := F02.size
  go_wp2_with fail
  go_ret
  exact ⟨v3, rfl, hs.keep (dn_mono hz), F02.pure F3⟩
/-- A new list of ints is handed back. -/
def NwI (l : List Int) (w : World) (e : Ending) (w' : World) : Prop := ∃ v, e = .returned v ∧ SlI w' none v l ∧ Fr none w w'
def preO (m : List Cl) (t : Int) (k : Nat) : List Int := ((m.take k).filter fun c => decide (c.1 = t)).map (·.2)
theorem preO_snoc (m : List Cl) (t : Int) (k : Nat) (hk : k < m.length) : preO m t (k + 1) = if m[k].1 = t then preO m t k ++ [m[k].2] else preO m t k := by
  unfold preO
  rw [List.take_succ_eq_append_getElem hk, List.filter_append]
  by_cases h : m[k].1 = t
  · rw [if_pos h]; simp [List.filter_cons, h]
  · rw [if_neg h]; simp [List.filter_cons, h]
theorem preO_all (l : List Cl) (t : Int) : preO (srtC l) t (srtC l).length = ofC l t := by unfold preO ofC; rw [List.take_length]
set_option maxRecDepth 100000 in
set_option maxHeartbeats 1000000 in
theorem cof_any (l : List Cl) (v : Value) (t : Int) (w : World) (h : SlC w none v l) (hl : l.length ≤ 1000000) : Calls Tryz.prog 30 #[v, .int .i64 t] w (NwI (ofC l t) w) := by
  have hm0 := srtC_len l
  have hwm := srtC_wc l
  obtain ⟨R, hR⟩ : ∃ R, R = ofC l t := ⟨_, rfl⟩
  have HR : Hid (preO (srtC l) t (srtC l).length = R) := by unfold Hid; rw [hR]; exact preO_all l t
  rw [← hR]
  clear hR
  obtain ⟨A0, c0, rfl, _, _, _⟩ := h.open_
  go_enter Tryz.func30, Tryz.ntmps30
  go_wp2_with fail
  refine (csrt_any l _ w h hl).mono ?_
  rintro e w1 ⟨v1, rfl, hs, F1⟩
  have hm := NwC.sl hs hwm none (by simp)
  clear hs hwm h
  generalize srtC l = m at *
  have HWm := Lib.hid hm.2
  obtain ⟨A, c, rfl, q1, q2, hc⟩ := hm.open_
  have HC := Lib.hid hc
  clear hc hm
  go_wp2_with fail
  go_loopw [5, 11] (fun s5 s11 wr => ∃ (k : Nat) (o : List Int) (B : Option Addr) (d : Nat), k ≤ m.length ∧ s11 = .int .i64 (k : Int) ∧ s5 = .slice B o.length d ∧ Hid (o = preO m t k) ∧ o.length ≤ k ∧ Fr none w1 wr ∧ wr.ownsRow w1.heap.size 3 1 (.slice B o.length d) o.length (o.map (Value.int .i64))) (fun _ s11 _ => m.length - (intOf s11).toNat)
  case atStart => exact ⟨0, [], none, 0, Nat.zero_le _, rfl, rfl, rfl, by simp, Fr.refl _ _, World.ownsRow_nil _ _ _ _⟩
  case round =>
    obtain ⟨k, o, B, d, hk, rfl, rfl, HO, hol, F, own⟩ := hrel
    obtain ⟨wz, hwz⟩ : ∃ wz : World, wz = wr := ⟨_, rfl⟩
    subst hwz
    by_cases hlt : k < m.length
    · obtain ⟨b, off, rfl, hb, _, hcc⟩ := HC.out (by omega)
      obtain ⟨c1, c2⟩ := hcc k hlt
      have c1 := F.keep c1 (by simp)
      have c2 := F.keep c2 (by simp)
      have HS : Hid (preO m t (k + 1) = if m[k].1 = t then o ++ [m[k].2] else o) := by unfold Hid; rw [preO_snoc m t k hlt, ← HO.out]
      clear hcc HO
      generalize m[k] = y at *
      go_upto_region 5 with (fail)
      generalize hW : wz.alloc _ = wa
      have Fa : Fr none wz wa := hW ▸ (Fr.refl none wz).alloc _
      have b7 : CB2 wa wz.heap.size (.int .i64 y.1) (.int .i64 y.2) 24 := by rw [← hW]; exact blk_new _ _
      clear hW c1 c2
      obtain ⟨r1, r2⟩ := b7.cell
      have l7 := blk_lt b7
      have owna := own_fr own Fa (by simp)
      have og := own_blk_ge owna
      have hza := Fa.size
      have hz := F.size
      by_cases he : y.1 = t
      · have e1 : (y.1 == t) = true := by rw [beq_iff_eq]; exact he
        have HE := Lib.hid he
        clear he
        go_wp2_with (at_builtin; refine app_lit eiInt rfl _ _ rfl w1.heap.size B o.length d _ rfl owna 1 [.int .i64 y.2] _ _ rfl (by simp) rfl (by simp [Value.oneCell']) (by omega) (by unfold maxLen; omega) (by omega) ?_; intro A' c' w' own' F' bl')
        have hln : (o ++ [y.2]).length = o.length + 1 := by simp
        go_roundw
        case rel => exact ⟨k + 1, o ++ [y.2], A', c', by omega, by go_num, by rw [hln], by unfold Hid; rw [HS.out, if_pos HE.out], by rw [hln]; omega, (F.pure Fa).own F' og, by rw [hln, List.map_append]; exact own'⟩
        case measure => simp [intOf]; omega
      · have e1 : (y.1 == t) = false := by rw [beq_eq_false_iff_ne]; exact he
        have HE := Lib.hid he
        clear he
        go_wp2_with fail
        go_roundw
        case rel => exact ⟨k + 1, o, B, d, by omega, by go_num, rfl, by unfold Hid; rw [HS.out, if_neg HE.out], by omega, F.pure Fa, owna⟩
        case measure => simp [intOf]; omega
    · obtain rfl : k = m.length := by omega
      have HF : Hid (o = R) := by unfold Hid; rw [HO.out]; exact HR.out
      have hz := F1.size
      have hwo : Hid (∀ x ∈ o, Wi x) := by
        unfold Hid
        rw [HO.out]
        unfold preO
        intro x hx
        obtain ⟨c, hc, rfl⟩ := List.mem_map.1 hx
        exact (HWm.out c (List.mem_of_mem_take (List.mem_filter.1 hc).1)).2
      go_wp2_with fail
      go_ret
      exact ⟨_, rfl, by rw [← HF.out]; exact SlI.of_own (r := none) own (by simp) hwo.out, F1.pure F⟩
set_option maxRecDepth 100000 in
set_option maxHeartbeats 1000000 in
theorem rof_any (l : List Cl) (v : Value) (t : Int) (w : World) (h : SlC w none v l) (hl : l.length ≤ 1000000) : Calls Tryz.prog 31 #[v, .int .i64 t] w (NwI (ofC l t) w) := by
  have hm0 := srtC_len l
  have hwm := srtC_wc l
  obtain ⟨R, hR⟩ : ∃ R, R = ofC l t := ⟨_, rfl⟩
  have HR : Hid (preO (srtC l) t (srtC l).length = R) := by unfold Hid; rw [hR]; exact preO_all l t
  rw [← hR]
  clear hR
  obtain ⟨A0, c0, rfl, _, _, _⟩ := h.open_
  go_enter Tryz.func31, Tryz.ntmps31
  go_wp2_with fail
  refine (rsrt_any l _ w h).mono ?_
  rintro e w1 ⟨v1, rfl, hs, F1⟩
  have hm := NwC.sl hs hwm none (by simp)
  clear hs hwm h
  generalize srtC l = m at *
  have HWm := Lib.hid hm.2
  obtain ⟨A, c, rfl, q1, q2, hc⟩ := hm.open_
  have HC := Lib.hid hc
  clear hc hm
  go_wp2_with fail
  go_loopw [5, 11] (fun s5 s11 wr => ∃ (k : Nat) (o : List Int) (B : Option Addr) (d : Nat), k ≤ m.length ∧ s11 = .int .i64 (k : Int) ∧ s5 = .slice B o.length d ∧ Hid (o = preO m t k) ∧ o.length ≤ k ∧ Fr none w1 wr ∧ wr.ownsRow w1.heap.size 3 1 (.slice B o.length d) o.length (o.map (Value.int .i64))) (fun _ s11 _ => m.length - (intOf s11).toNat)
  case atStart => exact ⟨0, [], none, 0, Nat.zero_le _, rfl, rfl, rfl, by simp, Fr.refl _ _, World.ownsRow_nil _ _ _ _⟩
  case round =>
    obtain ⟨k, o, B, d, hk, rfl, rfl, HO, hol, F, own⟩ := hrel
    obtain ⟨wz, hwz⟩ : ∃ wz : World, wz = wr := ⟨_, rfl⟩
    subst hwz
    by_cases hlt : k < m.length
    · obtain ⟨b, off, rfl, hb, _, hcc⟩ := HC.out (by omega)
      obtain ⟨c1, c2⟩ := hcc k hlt
      have c1 := F.keep c1 (by simp)
      have c2 := F.keep c2 (by simp)
      have HS : Hid (preO m t (k + 1) = if m[k].1 = t then o ++ [m[k].2] else o) := by unfold Hid; rw [preO_snoc m t k hlt, ← HO.out]
      clear hcc HO
      generalize m[k] = y at *
      go_upto_region 5 with (fail)
      generalize hW : wz.alloc _ = wa
      have Fa : Fr none wz wa := hW ▸ (Fr.refl none wz).alloc _
      have b7 : CB2 wa wz.heap.size (.int .i64 y.1) (.int .i64 y.2) 24 := by rw [← hW]; exact blk_new _ _
      clear hW c1 c2
      obtain ⟨r1, r2⟩ := b7.cell
      have l7 := blk_lt b7
      have owna := own_fr own Fa (by simp)
      have og := own_blk_ge owna
      have hza := Fa.size
      have hz := F.size
      by_cases he : y.1 = t
      · have e1 : (y.1 == t) = true := by rw [beq_iff_eq]; exact he
        have HE := Lib.hid he
        clear he
        go_wp2_with (at_builtin; refine app_lit eiInt rfl _ _ rfl w1.heap.size B o.length d _ rfl owna 1 [.int .i64 y.2] _ _ rfl (by simp) rfl (by simp [Value.oneCell']) (by omega) (by unfold maxLen; omega) (by omega) ?_; intro A' c' w' own' F' bl')
        have hln : (o ++ [y.2]).length = o.length + 1 := by simp
        go_roundw
        case rel => exact ⟨k + 1, o ++ [y.2], A', c', by omega, by go_num, by rw [hln], by unfold Hid; rw [HS.out, if_pos HE.out], by rw [hln]; omega, (F.pure Fa).own F' og, by rw [hln, List.map_append]; exact own'⟩
        case measure => simp [intOf]; omega
      · have e1 : (y.1 == t) = false := by rw [beq_eq_false_iff_ne]; exact he
        have HE := Lib.hid he
        clear he
        go_wp2_with fail
        go_roundw
        case rel => exact ⟨k + 1, o, B, d, by omega, by go_num, rfl, by unfold Hid; rw [HS.out, if_neg HE.out], by omega, F.pure Fa, owna⟩
        case measure => simp [intOf]; omega
    · obtain rfl : k = m.length := by omega
      have HF : Hid (o = R) := by unfold Hid; rw [HO.out]; exact HR.out
      have hz := F1.size
      have hwo : Hid (∀ x ∈ o, Wi x) := by
        unfold Hid
        rw [HO.out]
        unfold preO
        intro x hx
        obtain ⟨c, hc, rfl⟩ := List.mem_map.1 hx
        exact (HWm.out c (List.mem_of_mem_take (List.mem_filter.1 hc).1)).2
      go_wp2_with fail
      go_ret
      exact ⟨_, rfl, by rw [← HF.out]; exact SlI.of_own (r := none) own (by simp) hwo.out, F1.pure F⟩
end Go.Proofs.YtkpgnhdmlikopaaGreatDoor

/- Walks: claims.Consistent. -/
namespace Go.Proofs.YtkpgnhdmlikopaaGreatDoor
open Go.RowKit Go.Maps

def kyI (t : Int) : Lit := .int .i64 t
abbrev DatU : Type := DataW Unit
theorem kyI_key (t : Int) : WideAt.IsKeyLit (kyI t) := trivial
theorem kyI_ne {s t : Int} (h : s ≠ t) : kyI s ≠ kyI t := fun e => h (by unfold kyI at e; injection e)
/-- A map holds the values of a list of claims. -/
structure MapI (D : DatU) (l : List Cl) : Prop where
  has_ : ∀ t, Maps.has D (kyI t) = true ↔ ∃ c ∈ l, c.1 = t
  val : ∀ c ∈ l, D.atKey (kyI c.1) (.lit (.int .i64 0)) = .lit (.int .i64 c.2)
theorem MapI.nil : MapI (.map []) [] := ⟨fun t => by simp [Maps.has], by simp⟩
theorem MapI.put {D : DatU} {l : List Cl} (h : MapI D l) (hD : IsMap D) (y : Cl) (hy : ∀ c ∈ l, c.1 = y.1 → c.2 = y.2) : MapI (D.put (kyI y.1) (.lit (.int .i64 y.2))) (l ++ [y]) := by
  constructor
  · intro t
    by_cases e : t = y.1
    · subst e
      rw [has_put_same hD (kyI_key _)]
      simp
    · rw [has_put_other (kyI_ne e), h.has_ t]
      constructor
      · rintro ⟨c, hc, rfl⟩; exact ⟨c, by simp [hc], rfl⟩
      · rintro ⟨c, hc, rfl⟩
        rcases List.mem_append.1 hc with hc | hc
        · exact ⟨c, hc, rfl⟩
        · obtain rfl := List.mem_singleton.1 hc
          exact absurd rfl e
  · intro c hc
    by_cases e : c.1 = y.1
    · rw [e, atKey_put_same hD (kyI_key _)]
      rcases List.mem_append.1 hc with hc | hc
      · rw [hy c hc e]
      · obtain rfl := List.mem_singleton.1 hc
        rfl
    · rw [atKey_put_other (kyI_ne e)]
      rcases List.mem_append.1 hc with hc | hc
      · exact h.val c hc
      · obtain rfl := List.mem_singleton.1 hc
        exact absurd rfl e
theorem wi_wf {n : Int} (h : Wi n) : (Lit.int .i64 n).wf = true := by
  simp only [Lit.wf, Bool.and_eq_true, decide_eq_true_eq]
  exact h
theorem lawI : Keyed Tryz.prog 3 := int_keyed undInt
theorem undMap : Tryz.prog.underlying 55 = some (.map 3 3) := by kernel_rfl
theorem zeroInt (w : World) : (zeroValue 3).run Tryz.prog w = .ok (.int .i64 0) w := by kernel_rfl
theorem consC_step {l : List Cl} {k : Nat} (hk : k < l.length) (h : consC (l.take k) = true) : consC (l.take (k + 1)) = (l.take k).all fun a => !conC a l[k] := by
  rw [List.take_succ_eq_append_getElem hk, consC_snoc, h, Bool.true_and]
theorem consC_pre {l : List Cl} {k : Nat} (h : consC (l.take k) = false) : consC l = false := by
  cases hc : consC l with
  | false => rfl
  | true =>
    unfold consC at h hc
    rw [decide_eq_true_iff] at hc
    rw [decide_eq_false_iff_not] at h
    exact absurd (hc.sublist (List.take_sublist _ _)) h
set_option maxRecDepth 100000 in
set_option maxHeartbeats 2000000 in
theorem ccons_any (l : List Cl) (v : Value) (w : World) (h : SlC w none v l) (hl : l.length ≤ 1000000) : Calls Tryz.prog 22 #[v] w fun e w' => e = .returned (.bool (consC l)) ∧ Fr none w w' := by
  have hmm := @run_makeMap Tryz.prog
  have hw := h.2
  obtain ⟨A, c, rfl, q1, q2, hc⟩ := h.open_
  obtain ⟨X, hX⟩ : ∃ X, X = consC l := ⟨_, rfl⟩
  rw [← hX]
  have HX := Lib.hid hX
  have HC := Lib.hid hc
  have HW := Lib.hid hw
  clear h hX hc hw
  go_enter Tryz.func22, Tryz.ntmps22
  go_wp2_with fail
  go_loopw [11] (fun s11 wr => ∃ (k : Nat) (D : DatU), k ≤ l.length ∧ s11 = .int .i64 (k : Int) ∧ wr.ownsMap Tryz.prog 3 (plainElem Tryz.prog 3) w.heap.size k D ∧ Hid (MapI D (l.take k)) ∧ Hid (consC (l.take k) = true) ∧ Fr none w wr) (fun s11 _ => l.length - (intOf s11).toNat)
  case atStart => exact ⟨0, .map [], Nat.zero_le _, rfl, World.ownsMap_made _ _ _ _, Lib.hid MapI.nil, rfl, (Fr.refl none w).alloc _⟩
  case round =>
    obtain ⟨k, D, hk, rfl, own, HM, HN, F⟩ := hrel
    obtain ⟨wz, hwz⟩ : ∃ wz : World, wz = wr := ⟨_, rfl⟩
    subst hwz
    by_cases hlt : k < l.length
    · obtain ⟨b, off, rfl, hb, _, hcc⟩ := HC.out (by omega)
      obtain ⟨c1, c2⟩ := hcc k hlt
      have c1 := F.keep c1 (by simp)
      have c2 := F.keep c2 (by simp)
      obtain ⟨y, hy⟩ : ∃ y, y = l[k] := ⟨_, rfl⟩
      rw [← hy] at c1 c2
      have HY := Lib.hid hy
      have hwy : Wc y := by rw [hy]; exact HW.out _ (List.getElem_mem hlt)
      have hkey : keyOf Tryz.prog 3 (.int .i64 y.1) = some (kyI y.1) := keyOf_int_mk undInt (wi_wf hwy.1)
      have hwf2 : (Lit.int .i64 y.2).wf = true := wi_wf hwy.2
      have HK := Lib.hid hkey
      have HF2 := Lib.hid hwf2
      clear hy hcc hwy hkey hwf2
      go_upto_region 5 with (fail)
      generalize hW : wz.alloc _ = wa
      have Fa : Fr none wz wa := hW ▸ (Fr.refl none wz).alloc _
      have b5 : CB2 wa wz.heap.size (.int .i64 y.1) (.int .i64 y.2) 24 := by rw [← hW]; exact blk_new _ _
      clear hW c1 c2
      obtain ⟨r1, r2⟩ := b5.cell
      have l5 := blk_lt b5
      have owna := own.kept Fa (by simp)
      have F0a := F.pure Fa
      cases hh : Maps.has D (kyI y.1) with
      | false =>
        have hno : ∀ c ∈ l.take k, c.1 ≠ y.1 := fun c hc e => by
          have := (HM.out.has_ y.1).2 ⟨c, hc, e⟩
          rw [hh] at this; cases this
        have HM2 : Hid (MapI (D.put (kyI y.1) (.lit (.int .i64 y.2))) (l.take (k + 1))) := by
          unfold Hid
          rw [List.take_succ_eq_append_getElem hlt, ← HY.out]
          exact HM.out.put own.isMap y (fun c hc e => absurd e (hno c hc))
        have HN2 : Hid (consC (l.take (k + 1)) = true) := by
          unfold Hid
          rw [consC_step hlt HN.out, List.all_eq_true]
          intro a ha
          rw [← HY.out]
          simp [conC, hno a ha]
        have HH := Lib.hid hh
        clear hh hno
        go_wp2_with (first
          | (at_lookup; refine wpList_lookup_own_ok_int _ rfl _ _ 55 rfl 3 3 .i64 lawI undMap undInt (zeroInt _) w.heap.size k D rfl owna _ _ rfl HK.out ?_; intro c hat hwc; have HAT := Lib.hid hat; clear hat; rw [HH.out])
          | (at_mapUpdate; refine wpList_mapUpdate_own _ rfl _ _ _ 55 rfl 3 3 lawI undMap _ w.heap.size k D rfl owna (by unfold maxLen; omega) _ _ _ rfl rfl HK.out _ [] (plainElem_int undInt HF2.out) ?_; intro w1 hown1 hgrow1))
        go_roundw
        case rel => exact ⟨k + 1, _, by omega, by go_num, hown1, HM2, HN2, F0a.own hgrow1 (by simp)⟩
        case measure => simp [intOf]; omega
      | true =>
        obtain ⟨z, hz, hz1⟩ := (HM.out.has_ y.1).1 hh
        have hzv := HM.out.val z hz
        rw [hz1] at hzv
        have HH := Lib.hid hh
        have HZV := Lib.hid hzv
        by_cases he : z.2 = y.2
        · have hall : ∀ c ∈ l.take k, c.1 = y.1 → c.2 = y.2 := fun c hc e => by
            have h1 := HM.out.val c hc
            rw [e, HZV.out] at h1
            injection h1 with h1
            injection h1 with _ h1
            rw [← h1]; exact he
          have HM2 : Hid (MapI (D.put (kyI y.1) (.lit (.int .i64 y.2))) (l.take (k + 1))) := by
            unfold Hid
            rw [List.take_succ_eq_append_getElem hlt, ← HY.out]
            exact HM.out.put own.isMap y hall
          have HN2 : Hid (consC (l.take (k + 1)) = true) := by
            unfold Hid
            rw [consC_step hlt HN.out, List.all_eq_true]
            intro a ha
            rw [← HY.out]
            by_cases e : a.1 = y.1
            · simp [conC, hall a ha e]
            · simp [conC, e]
          have HZE : Hid (z.2 = y.2) := he
          clear hh hzv hall he hz hz1
          go_wp2_with (first
            | (at_lookup; refine wpList_lookup_own_ok_int _ rfl _ _ 55 rfl 3 3 .i64 lawI undMap undInt (zeroInt _) w.heap.size k D rfl owna _ _ rfl HK.out ?_; intro c hat hwc; rw [HZV.out] at hat; injection hat with hat; injection hat with _ hat; rw [← hat, HZE.out]; clear hat hwc; rw [HH.out])
            | (at_mapUpdate; refine wpList_mapUpdate_own _ rfl _ _ _ 55 rfl 3 3 lawI undMap _ w.heap.size k D rfl owna (by unfold maxLen; omega) _ _ _ rfl rfl HK.out _ [] (plainElem_int undInt HF2.out) ?_; intro w1 hown1 hgrow1))
          go_roundw
          case rel => exact ⟨k + 1, _, by omega, by go_num, hown1, HM2, HN2, F0a.own hgrow1 (by simp)⟩
          case measure => simp [intOf]; omega
        · have HE : Hid (X = false) := by
            unfold Hid
            rw [HX.out]
            refine consC_pre (k := k + 1) ?_
            rw [consC_step hlt HN.out]
            cases hq : (l.take k).all fun a => !conC a l[k] with
            | false => rfl
            | true =>
              have := List.all_eq_true.1 hq z hz
              rw [← HY.out] at this
              simp [conC, hz1, he] at this
          have hb : (z.2 == y.2) = false := by rw [beq_eq_false_iff_ne]; exact he
          clear hh hzv he hz hz1
          go_wp2_with (at_lookup; refine wpList_lookup_own_ok_int _ rfl _ _ 55 rfl 3 3 .i64 lawI undMap undInt (zeroInt _) w.heap.size k D rfl owna _ _ rfl HK.out ?_; intro c hat hwc; rw [HZV.out] at hat; injection hat with hat; injection hat with _ hat; rw [← hat]; clear hat hwc; rw [HH.out])
          go_ret
          exact ⟨ret_bool HE.out.symm, F0a⟩
    · obtain rfl : k = l.length := by omega
      have HE : Hid (X = true) := by unfold Hid; rw [HX.out]; have := HN.out; rwa [List.take_length] at this
      go_wp2_with fail
      go_ret
      exact ⟨ret_bool HE.out.symm, F⟩
end Go.Proofs.YtkpgnhdmlikopaaGreatDoor

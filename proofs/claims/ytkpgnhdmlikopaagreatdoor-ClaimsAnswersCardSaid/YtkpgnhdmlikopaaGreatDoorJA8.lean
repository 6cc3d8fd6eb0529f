/- Some texts of this claim, joined: contracts of the functions that it reaches, and plain laws. -/
import Derived.Test.YtkpgnhdmlikopaaGreatDoorProg
import Derived.Test.YtkpgnhdmlikopaaGreatDoorJA4
import Derived.Test.YtkpgnhdmlikopaaGreatDoorJA7

set_option linter.unusedSimpArgs false
set_option linter.unusedVariables false
/- Walks: slices.DeleteFunc at claims. -/
namespace Go.Proofs.YtkpgnhdmlikopaaGreatDoor
open Go.RowKit

/-- A row of one's own is handed back. -/
def OwnR (base : Nat) (l : List Cl) (w : World) (e : Ending) (w' : World) : Prop := ∃ v, e = .returned v ∧ OwnC w' base v l ∧ ∃ r, Fr r w w' ∧ ∀ g, r = some g → base ≤ g
theorem OwnC.slc {w : World} {base : Nat} {v : Value} {l : List Cl} (h : OwnC w base v l) (hw : ∀ c ∈ l, Wc c) : SlC w none v l := ⟨h.sl.keep (dn_dm (by simp)), hw⟩
theorem zeroClm : ∀ w, (zeroValue 24).run Tryz.prog w = .ok (.agg #[.int .i64 0, .int .i64 0]) w := fun _ => by kernel_rfl
theorem undClm : Tryz.prog.underlying 25 = some (.slice 24) := by kernel_rfl
set_option maxRecDepth 100000 in
set_option maxHeartbeats 2000000 in
theorem cdel_any (l : List Cl) (v : Value) (w : World) (base : Nat) (h : OwnC w base v l) (hw : ∀ c ∈ l, Wc c) :
    Calls Tryz.prog 42 #[v, .func (.func 44) #[] #[]] w (OwnR base (l.filter vCl) w) := by
  have hsl := h.slc hw
  have h0 := h
  obtain ⟨A, c, rfl, q1, q2, hc⟩ := h
  unfold maxLen at q2
  have H0 := Lib.hid h0
  have HC := Lib.hid hc
  have hrun := srt1_enters
  clear h0 hc hw
  go_enter Tryz.func42, Tryz.ntmps42
  go_wp2_with fail
  refine (cindexF_any l _ w hsl).mono ?_
  rintro e w1 ⟨i, rfl, hi, F1⟩
  clear hsl
  rcases hi with ⟨rfl, hall⟩ | ⟨k, hk, rfl, hno, hpre⟩
  · have hfl : l.filter vCl = l := List.filter_eq_self.2 hall
    have HF := Lib.hid hfl
    clear hall hfl
    go_wp2_with fail
    go_ret
    refine ⟨_, rfl, ?_, none, F1, by simp⟩
    rw [HF.out]
    obtain ⟨A', c', e, p1, p2, hc⟩ := H0.out
    injection e with e1 e2 e3
    subst e1 e3
    refine ⟨A, c, rfl, p1, p2, fun hn => ?_⟩
    obtain ⟨g, e, hb, hr⟩ := hc hn
    exact ⟨g, e, hb, hr.fr F1 (by simp)⟩
  · obtain ⟨g, rfl, hb, hr⟩ := HC.out (by omega)
    have HR := Lib.hid (hr.fr F1 (by simp))
    have HI := Lib.hid (DelI.start hk hpre hno)
    have hne : ((k : Int) == -1) = false := beq_eq_false_iff_ne.2 (by omega)
    clear hr hno hpre HC H0
    go_wp2_with fail
    go_loopw [5, 6] (fun s5 s6 wr => ∃ (i j : Nat) (d : List Cl), s5 = .int .i64 (i : Int) ∧ s6 = .int .i64 (j : Int) ∧ i < j ∧ j ≤ l.length ∧ Hid (DelI l i j d) ∧ Hid (RwC wr g d) ∧ Fr (some g) w1 wr) (fun _ s6 _ => l.length - (intOf s6).toNat)
    case atStart => exact ⟨k, k + 1, l, rfl, by go_num, by omega, by omega, HI, HR, Fr.refl _ _⟩
    case round =>
      clear HR HI hne
      obtain ⟨i, j, d, rfl, rfl, hij, hj, HI, HR, F⟩ := hrel
      by_cases hlt : j < l.length
      · obtain ⟨hjd, hdj⟩ := HI.out.at_ hlt
        obtain ⟨⟨c1, c2⟩, _, _⟩ := HR.out.2 j hjd
        rw [hdj] at c1 c2
        obtain ⟨y, hy⟩ : ∃ y, y = l[j] := ⟨_, rfl⟩
        rw [← hy] at c1 c2
        have HY := Lib.hid hy
        have HDL := Lib.hid HI.out.len
        clear hy hdj hjd
        go_upto_region 8 with (fail)
        generalize hW : wr.alloc _ = wa
        have Fa : Fr none wr wa := hW ▸ (Fr.refl none wr).alloc _
        have b7 : CB2 wa wr.heap.size (.int .i64 y.1) (.int .i64 y.2) 24 := by rw [← hW]; exact blk_new _ _
        clear hW
        obtain ⟨r1, r2⟩ := b7.cell
        go_wp2_with fail
        refine (srt1_any y _).mono ?_
        rintro e w2 ⟨rfl, F2⟩
        have R2 := Lib.hid ((HR.out.fr Fa (by simp)).fr F2 (by simp))
        have F02 := (F.pure Fa).pure F2
        have b72 := b7.fr F2 (by simp)
        obtain ⟨s1, s2⟩ := b72.cell
        have l7 := blk_lt b72
        clear r1 r2 c1 c2
        cases hv : vCl y with
        | true =>
          have HV := Lib.hid hv
          have hid' : i < d.length := by have := HDL.out; omega
          obtain ⟨⟨c1, c2⟩, z1, z2⟩ := R2.out.2 i hid'
          have hg2 := R2.out.1
          clear hv
          go_wp2_with fail
          go_roundw
          case rel => exact ⟨i + 1, j + 1, d.set i y, by go_num, by go_num, by omega, by omega, by rw [HY.out] at HV ⊢; exact HI.out.keep hlt HV.out, R2.out.set i hid' y, (F02.setRow rfl _).setRow rfl _⟩
          case measure => simp [intOf]; omega
        | false =>
          have HV := Lib.hid hv
          clear hv
          go_wp2_with fail
          go_roundw
          case rel => exact ⟨i, j + 1, d, rfl, by go_num, by omega, by omega, by rw [HY.out] at HV; exact HI.out.skip hlt HV.out, R2, F02⟩
          case measure => simp [intOf]; omega
      · obtain rfl : j = l.length := by omega
        have HL := Lib.hid (filter_all_len HI.out)
        have hcl := fun ty => run_clearC (P := Tryz.prog) wr 25 24 ty undClm zeroClm g i (l.length - i) (c - i) d HR.out (by rw [HI.out.len]; exact hij) (by rw [HI.out.len]; omega)
        go_wp2_with fail
        go_ret
        refine ⟨.slice (some ⟨g, 0, none⟩) i c, rfl, ⟨some ⟨g, 0, none⟩, c, by rw [HL.out], by rw [HL.out]; omega, by unfold maxLen; omega, fun _ => ⟨g, rfl, hb, ?_⟩⟩, some g, (F1.mono.same F).same (fr_setCells _ _ _ _), fun x e => by injection e with e; omega⟩
        rw [← HI.out.done]
        exact HR.out.cleared i _
end Go.Proofs.YtkpgnhdmlikopaaGreatDoor

/- Walks: slices.Compact at claims. -/
namespace Go.Proofs.YtkpgnhdmlikopaaGreatDoor
open Go.RowKit

theorem wrap_dec (p : Nat) (h : p ≤ 9223372036854775806) : IntKind.i64.wrap (((p : Int) + 1) - 1) = (p : Int) := by
  rw [Int.add_sub_cancel]; exact IntWalk.i64_in _ (by omega)
set_option maxRecDepth 100000 in
set_option maxHeartbeats 4000000 in
theorem ccpc_any (l : List Cl) (v : Value) (w : World) (base : Nat) (h : OwnC w base v l) :
    Calls Tryz.prog 46 #[v] w (OwnR base (cpcC l) w) := by
  obtain ⟨A, c, rfl, q1, q2, hc⟩ := h
  unfold maxLen at q2
  have H0 : Hid (OwnC w base (.slice A l.length c) l) := ⟨A, c, rfl, q1, by unfold maxLen; exact q2, hc⟩
  have HC := Lib.hid hc
  clear hc
  have hend : ∀ w', Fr none w w' → Hid (∀ j (hj : j + 1 < l.length), j + 1 < l.length → l[j + 1] ≠ l[j]) → OwnR base (cpcC l) w (.returned (.slice A l.length c)) w' := fun w' F h => by
    have e := cpc_ahead l l.length (Nat.le_refl _) h.out
    rw [List.take_length] at e
    rw [e]
    obtain ⟨A', c', e, p1, p2, hc⟩ := H0.out
    injection e with e1 e2 e3
    subst e1 e3
    refine ⟨_, rfl, ⟨A, c, rfl, p1, p2, fun hn => ?_⟩, none, F, by simp⟩
    obtain ⟨g, e, hb, hr⟩ := hc hn
    exact ⟨g, e, hb, hr.fr F (by simp)⟩
  have HEnd := Lib.hid hend
  clear hend H0
  by_cases h2 : l.length < 2
  · go_enter Tryz.func46, Tryz.ntmps46
    go_wp2_with fail
    go_ret
    exact HEnd.out _ (Fr.refl _ _) (Lib.hid (fun j hj => by omega))
  · obtain ⟨g, rfl, hb, hr⟩ := HC.out (by omega)
    have HR0 := Lib.hid hr
    clear hr HC
    go_enter Tryz.func46, Tryz.ntmps46
    go_wp2_with fail
    go_loopw [3] (fun s3 wr => ∃ k : Nat, k + 1 ≤ l.length ∧ s3 = .int .i64 ((k : Int) + 1) ∧ Fr none w wr ∧ Hid (∀ j (hj : j + 1 < l.length), j + 1 < k + 1 → l[j + 1] ≠ l[j])) (fun s3 _ => l.length - (intOf s3).toNat)
    case atStart => exact ⟨0, by omega, by go_num, Fr.refl _ _, Lib.hid (fun j hj h => by omega)⟩
    case round =>
      obtain ⟨p, hp, rfl, F, HN⟩ := hrel
      have hw1 := wrap_dec p (by omega)
      by_cases hlt : p + 1 < l.length
      · obtain ⟨⟨c1, c2⟩, _, _⟩ := HR0.out.2 (p + 1) hlt
        obtain ⟨⟨c3, c4⟩, _, _⟩ := HR0.out.2 p (by omega)
        have c1 := F.keep c1 (by simp)
        have c2 := F.keep c2 (by simp)
        have c3 := F.keep c3 (by simp)
        have c4 := F.keep c4 (by simp)
        obtain ⟨y, hy⟩ : ∃ y, y = l[p + 1] := ⟨_, rfl⟩
        obtain ⟨z, hz⟩ : ∃ z, z = l[p]'(by omega) := ⟨_, rfl⟩
        rw [← hy] at c1 c2
        rw [← hz] at c3 c4
        have HY := Lib.hid hy
        have HZ := Lib.hid hz
        clear hy hz
        by_cases he : y = z
        · have HE : Hid (l[p + 1] = l[p + 1 - 1]'(by omega)) := by unfold Hid; rw [← HY.out, he, HZ.out]; rfl
          subst he
          go_wp2_with fail
          go_quiet (fail)
          go_wp2_with fail
          go_loopw [3, 5] (fun s3 s5 wr => ∃ (i q : Nat) (d : List Cl), s3 = .int .i64 (i : Int) ∧ s5 = .int .i64 ((q : Int) + 1) ∧ i < p + 1 + (q + 1) ∧ p + 1 + (q + 1) ≤ l.length ∧ Hid (CpcI l i (p + 1 + (q + 1)) d) ∧ Hid (RwC wr g d) ∧ Fr (some g) w wr) (fun _ s5 _ => l.length - (intOf s5).toNat)
          case atStart => exact ⟨p + 1, 0, l, by go_num, by go_num, by omega, by omega, CpcI.start (by omega) hlt (fun j hj hjk => HN.out j hj hjk) HE.out, HR0.out.fr (F.drewN _) (by simp), (F.drewN _).mono⟩
          case round =>
            obtain ⟨i, q, d, rfl, rfl, hi, hq, HI, HR, F⟩ := hrel
            have hw2 := wrap_dec q (by omega)
            by_cases hlq : p + 1 + (q + 1) < l.length
            · have hd : decide (((q : Int) + 1) < ((l.length - (p + 1) : Nat) : Int)) = true := decide_eq_true (by omega)
              have hx1 : q + 1 < l.length - (p + 1) := by omega
              have hx2 : q < l.length - (p + 1) := by omega
              obtain ⟨m1, e1⟩ := HI.out.at_ (p + 1 + (q + 1)) hlq (by omega)
              obtain ⟨m2, e2⟩ := HI.out.at_ (p + 1 + q) (by omega) (by omega)
              obtain ⟨⟨d1, d2⟩, _, _⟩ := HR.out.2 _ m1
              obtain ⟨⟨d3, d4⟩, _, _⟩ := HR.out.2 _ m2
              rw [show (p + 1 + (q + 1)) * 2 = (p + 1) * 2 + (q + 1) * 2 by omega] at d1 d2
              rw [show (p + 1 + q) * 2 = (p + 1) * 2 + q * 2 by omega] at d3 d4
              rw [e1] at d1 d2
              rw [e2] at d3 d4
              clear e1 e2
              obtain ⟨u, hu⟩ : ∃ u, u = l[p + 1 + (q + 1)] := ⟨_, rfl⟩
              obtain ⟨v, hv⟩ : ∃ v, v = l[p + 1 + q]'(by omega) := ⟨_, rfl⟩
              rw [← hu] at d1 d2
              rw [← hv] at d3 d4
              have HU := Lib.hid hu
              have HV := Lib.hid hv
              have hil : i < d.length := by rw [HI.out.len]; omega
              have HIL := Lib.hid hil
              have hil2 : i < l.length := by omega
              clear hu hv m1 m2 hil
              by_cases he2 : u = v
              · have HS : Hid (CpcI l i (p + 1 + (q + 1 + 1)) d) := HI.out.skip hlq (by rw [← HU.out, he2, HV.out]; rfl)
                subst he2
                go_wp2_with fail
                go_quiet (fail)
                go_wp2_with fail
                go_roundw
                case rel => exact ⟨i, q + 1, d, rfl, by go_num, by omega, by omega, HS, HR.out.fr ((Fr.refl none wr).drewN _) (by simp), F.drewN _⟩
                case measure => simp [intOf]; omega
              · have HS : Hid (CpcI l (i + 1) (p + 1 + (q + 1 + 1)) (d.set i u)) := by rw [HU.out]; exact HI.out.keep hlq (by rw [← HU.out]; exact fun q => he2 (q.trans HV.out.symm))
                by_cases h1 : u.1 = v.1
                · have e1 : (u.1 == v.1) = true := by rw [beq_iff_eq]; exact h1
                  have e2 : (u.2 == v.2) = false := by rw [beq_eq_false_iff_ne]; exact fun q => he2 (Prod.ext h1 q)
                  clear he2 h1
                  go_wp2_with fail
                  go_quiet (fail)
                  have HRd := Lib.hid (HR.out.fr ((Fr.refl none wr).drewN nq) (by simp))
                  have Fd := F.drewN nq
                  have d1 := ((Fr.refl none wr).drewN nq).keep d1 (by simp)
                  have d2 := ((Fr.refl none wr).drewN nq).keep d2 (by simp)
                  generalize wr.drewN nq = wd at *
                  obtain ⟨⟨k1, k2⟩, z1, z2⟩ := HRd.out.2 i HIL.out
                  have hgr := HRd.out.1
                  go_wp2_with fail
                  go_roundw
                  case rel => exact ⟨i + 1, q + 1, d.set i u, by go_num, by go_num, by omega, by omega, HS, HRd.out.set i HIL.out u, (Fd.setRow rfl _).setRow rfl _⟩
                  case measure => simp [intOf]; omega
                · have e1 : (u.1 == v.1) = false := by rw [beq_eq_false_iff_ne]; exact h1
                  clear he2 h1
                  go_wp2_with fail
                  go_quiet (fail)
                  have HRd := Lib.hid (HR.out.fr ((Fr.refl none wr).drewN nq) (by simp))
                  have Fd := F.drewN nq
                  have d1 := ((Fr.refl none wr).drewN nq).keep d1 (by simp)
                  have d2 := ((Fr.refl none wr).drewN nq).keep d2 (by simp)
                  generalize wr.drewN nq = wd at *
                  obtain ⟨⟨k1, k2⟩, z1, z2⟩ := HRd.out.2 i HIL.out
                  have hgr := HRd.out.1
                  go_wp2_with fail
                  go_roundw
                  case rel => exact ⟨i + 1, q + 1, d.set i u, by go_num, by go_num, by omega, by omega, HS, HRd.out.set i HIL.out u, (Fd.setRow rfl _).setRow rfl _⟩
                  case measure => simp [intOf]; omega
            · have hd : decide (((q : Int) + 1) < ((l.length - (p + 1) : Nat) : Int)) = false := decide_eq_false (by omega)
              have hm : p + 1 + (q + 1) = l.length := by omega
              have HD : Hid (d.take i = cpcC l ∧ (cpcC l).length = i) := by have := HI.out; rw [hm] at this; exact this.done
              have hil : i < l.length := by omega
              have hcl := fun ty => run_clearC (P := Tryz.prog) wr 25 24 ty undClm zeroClm g i (l.length - i) (c - i) d HR.out (by rw [HI.out.len]; exact hil) (by rw [HI.out.len]; omega)
              clear hm hlq
              go_wp2_with fail
              go_ret
              refine ⟨.slice (some ⟨g, 0, none⟩) i c, rfl, ⟨some ⟨g, 0, none⟩, c, by rw [HD.out.2], by rw [HD.out.2]; omega, by unfold maxLen; omega, fun _ => ⟨g, rfl, hb, ?_⟩⟩, some g, F.same (fr_setCells _ _ _ _), fun x e => by injection e with e; omega⟩
              rw [← HD.out.1]
              exact HR.out.cleared i _
        · have HN2 : Hid (∀ j (hj : j + 1 < l.length), j + 1 < p + 1 + 1 → l[j + 1] ≠ l[j]) := fun j hj hjk => by
            rcases Nat.lt_or_ge j p with hh | hh
            · exact HN.out j hj (by omega)
            · obtain rfl : j = p := by omega
              rw [← HY.out, ← HZ.out]; exact he
          by_cases h1 : y.1 = z.1
          · have e1 : (y.1 == z.1) = true := by rw [beq_iff_eq]; exact h1
            have e2 : (y.2 == z.2) = false := by rw [beq_eq_false_iff_ne]; exact fun q => he (Prod.ext h1 q)
            clear he h1
            go_wp2_with fail
            go_quiet (fail)
            go_wp2_with fail
            go_roundw
            case rel => exact ⟨p + 1, by omega, by go_num, F.drewN _, HN2⟩
            case measure => simp [intOf]; omega
          · have e1 : (y.1 == z.1) = false := by rw [beq_eq_false_iff_ne]; exact h1
            clear he h1
            go_wp2_with fail
            go_quiet (fail)
            go_wp2_with fail
            go_roundw
            case rel => exact ⟨p + 1, by omega, by go_num, F.drewN _, HN2⟩
            case measure => simp [intOf]; omega
      · have hd : decide ((p : Int) + 1 < (l.length : Int)) = false := decide_eq_false (by omega)
        have hpl := Lib.hid (show l.length = p + 1 by omega)
        clear hlt hp
        go_wp2_with fail
        go_ret
        exact HEnd.out _ F (Lib.hid (fun j hj hjk => HN.out j hj (by have := hpl.out; omega)))
end Go.Proofs.YtkpgnhdmlikopaaGreatDoor

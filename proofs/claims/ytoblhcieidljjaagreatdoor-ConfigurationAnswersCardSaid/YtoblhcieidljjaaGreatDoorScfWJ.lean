/- Some texts of this claim, joined. -/
import Derived.Test.YtoblhcieidljjaaGreatDoorOpenTJ
import Derived.Test.YtoblhcieidljjaaGreatDoorJG13
import Derived.Test.YtoblhcieidljjaaGreatDoorProg
import Derived.Test.YtoblhcieidljjaaGreatDoorSmallWJ

set_option linter.unusedSimpArgs false
set_option linter.unusedVariables false
/- A configuration that comes in reads as one. -/
namespace Go.Proofs.YtoblhcieidljjaaGreatDoor
open Go.RowKit Go.ChangeShapes

/-- Cells that read as members of whatever size. -/
def RwmD (w : World) : List Value → List Mb → Prop
  | cells, [] => cells = []
  | cells, m :: r => ∃ a b c rest, cells = .bool m.dec :: a :: b :: c :: rest ∧ RwD w (.agg #[a, b, c]) m.tr ∧ RwmD w rest r
theorem RwmD.keep {w w' : World} (F : Fr none w w') : ∀ (cells : List Value) (l : List Mb), RwmD w cells l → RwmD w' cells l
  | cells, [], h => h
  | cells, m :: r, h => by
    obtain ⟨a, b, c, rest, e, ht, hr⟩ := h
    exact ⟨a, b, c, rest, e, ht.fr F, RwmD.keep F rest r hr⟩
theorem RwmD.small {w : World} : ∀ (cells : List Value) (l : List Mb), (∀ m ∈ l, m.tr.size ≤ 1073741824) → RwmD w cells l → MbsD w (Dm w none) cells l
  | cells, [], _, h => h
  | cells, m :: r, hs, h => by
    obtain ⟨a, b, c, rest, e, ht, hr⟩ := h
    exact ⟨a, b, c, rest, e, ht.small (hs m (by simp)), RwmD.small rest r (fun x hx => hs x (List.mem_cons_of_mem _ hx)) hr⟩
theorem RwmD.len {w : World} : ∀ {l : List Mb} {cells : List Value}, RwmD w cells l → cells.length = l.length * 4
  | [], cells, h => by
    have h : cells = [] := h
    subst h; rfl
  | m :: r, cells, h => by
    obtain ⟨a, b, c, rest, rfl, ht, hr⟩ := h
    have := hr.len
    simp only [List.length_cons]
    omega
theorem RwmD.get {w : World} : ∀ {l : List Mb} {cells : List Value}, RwmD w cells l → ∀ k (hk : k < l.length),
    ∃ a b c, cells[k * 4]? = some (.bool l[k].dec) ∧ cells[k * 4 + 1]? = some a ∧ cells[k * 4 + 2]? = some b ∧ cells[k * 4 + 3]? = some c ∧ RwD w (.agg #[a, b, c]) l[k].tr
  | [], cells, h, k, hk => absurd hk (by simp)
  | m :: r, cells, h, k, hk => by
    obtain ⟨a, b, c, rest, rfl, ht, hr⟩ := h
    cases k with
    | zero => exact ⟨a, b, c, rfl, rfl, rfl, rfl, ht⟩
    | succ k =>
      obtain ⟨x, y, z, e0, e1, e2, e3, hx⟩ := hr.get k (by simpa using hk)
      refine ⟨x, y, z, ?_, ?_, ?_, ?_, hx⟩
      · rw [show (k + 1) * 4 = k * 4 + 1 + 1 + 1 + 1 by omega]; simpa using e0
      · rw [show (k + 1) * 4 + 1 = k * 4 + 1 + 1 + 1 + 1 + 1 by omega]; simpa using e1
      · rw [show (k + 1) * 4 + 2 = k * 4 + 2 + 1 + 1 + 1 + 1 by omega]; simpa using e2
      · rw [show (k + 1) * 4 + 3 = k * 4 + 3 + 1 + 1 + 1 + 1 by omega]; simpa using e3
/-- A configuration as it comes in, of whatever size. -/
def RwC (w : World) (v : Value) (L : List Mb) : Prop :=
  ∃ A c cells, v = .agg #[.slice A L.length c] ∧ SlD w (Dm w none) 4 (.slice A L.length c) cells ∧ RwmD w cells L ∧ L.length ≤ 17592186044416
theorem RwC.fr {w w' : World} {v : Value} {L : List Mb} (h : RwC w v L) (F : Fr none w w') : RwC w' v L := by
  obtain ⟨A, c, cells, e, h1, h2, h3⟩ := h
  exact ⟨A, c, cells, e, h1.keep (fr_dm F), RwmD.keep F _ _ h2, h3⟩
theorem RwC.small {w : World} {v : Value} {L : List Mb} (h : RwC w v L) (hs : ∀ m ∈ L, m.tr.size ≤ 1073741824) : CfD w (Dm w none) v L := by
  obtain ⟨A, c, cells, e, h1, h2, h3⟩ := h
  exact ⟨A, c, cells, e, h1, RwmD.small _ _ hs h2⟩
theorem RwC.open_ {w : World} {v : Value} {L : List Mb} (h : RwC w v L) :
    ∃ A c, v = .agg #[.slice A L.length c] ∧ L.length ≤ 17592186044416 ∧ L.length ≤ c ∧ c ≤ 9223372036854775807 ∧ (∀ k (hk : k < L.length), ∃ (b off : Nat) (th : Int) (A1 : Option Addr) (n1 c1 : Nat) (A2 : Option Addr) (n2 c2 : Nat), A = some ⟨b, off, none⟩ ∧ b < w.heap.size ∧
      w.cell? ⟨b, off + k * 4, none⟩ = some (.bool L[k].dec) ∧ w.cell? ⟨b, off + k * 4 + 1, none⟩ = some (.int .i64 th) ∧ w.cell? ⟨b, off + k * 4 + 2, none⟩ = some (.slice A1 n1 c1) ∧ w.cell? ⟨b, off + k * 4 + 3, none⟩ = some (.slice A2 n2 c2) ∧ RwD w (.agg #[.int .i64 th, .slice A1 n1 c1, .slice A2 n2 c2]) L[k].tr) := by
  obtain ⟨A, c, cells, rfl, ⟨A', n', c', e, hl, hc, hm, hx⟩, hms, h3⟩ := h
  injection e with e1 e2 e3
  subst e1 e2 e3
  unfold maxLen at hm
  refine ⟨A, c, rfl, h3, hc, hm, fun k hk => ?_⟩
  obtain ⟨b, off, rfl, hb, hx⟩ := hx (by omega)
  obtain ⟨x, y, z, g0, g1, g2, g3, ht⟩ := hms.get k hk
  obtain ⟨th, A1, n1, c1, A2, n2, c2, rfl, rfl, rfl⟩ := ht.shape3
  exact ⟨b, off, th, A1, n1, c1, A2, n2, c2, rfl, hb.1, hx _ _ g0, hx _ _ g1, hx _ _ g2, hx _ _ g3, ht⟩
theorem rwm_of {W : World} (f : Nat → Value) (T : Nat → Mb) : ∀ (m s k : Nat), (∀ i, i < m → f (s + i * 4) = .bool (T (k + i)).dec ∧ RwD W (.agg #[f (s + i * 4 + 1), f (s + i * 4 + 2), f (s + i * 4 + 3)]) (T (k + i)).tr) → RwmD W ((List.range' s (m * 4)).map f) ((List.range' k m).map T)
  | 0, s, k, _ => by simp [RwmD]
  | m + 1, s, k, h => by
    have h0 := h 0 (by omega)
    have hr := rwm_of f T m (s + 4) (k + 1) (fun i hi => by
      have := h (i + 1) (by omega)
      rw [show s + 4 + i * 4 = s + (i + 1) * 4 by omega, show k + 1 + i = k + (i + 1) by omega]
      exact this)
    rw [show (m + 1) * 4 = m * 4 + 1 + 1 + 1 + 1 by omega]
    simp only [List.range'_succ, List.map_cons]
    obtain ⟨h0, h1⟩ := h0
    simp only [Nat.zero_mul, Nat.add_zero] at h0 h1
    exact ⟨f (s + 1), f (s + 2), f (s + 3), (List.range' (s + 4) (m * 4)).map f, congrArg (· :: _) h0, h1, hr⟩

set_option maxRecDepth 100000 in
theorem openM {H : Type} {enc : TypeId × Value → H} {W : World} {b : Nat} {sp : Nat → Bool} {hd : Bool} (fuel : Nat) {cs : List Value} {x : DataW H × List MemPlace} (h : DataW.trod enc Tryz.prog W b sp hd fuel 33 cs = some x)
    (hw : ∀ n ∈ DataW.weights Tryz.prog 33 x.1, n ≤ reachBytes) : ∃ (m : Mb) (p q r : Value), cs = [.bool m.dec, p, q, r] ∧ RwD W (.agg #[p, q, r]) m.tr := by
  obtain ⟨xs, n, rfl, rfl, hl, hxs, hf⟩ := DataW.trod_struct Tryz.underlying33 h
  have e4 : Tryz.prog.cellsOf 33 = 4 := by kernel_rfl
  have e3 : Tryz.prog.cellsOf 31 = 3 := by kernel_rfl
  have e1 : Tryz.prog.cellsOf 4 = 1 := by kernel_rfl
  rw [e4] at hl
  have f0 := hf 0 _ rfl
  have f1 := hf 1 _ rfl
  match cs, hl, xs, hxs, hw, f0, f1 with
  | [c0, c1, c2, c3], _, [y0, y1], _, hw, f0, f1 =>
    simp only [e1, e3, List.drop_zero, List.take_succ_cons, List.take_zero, List.drop_succ_cons, List.getElem?_cons_zero, List.getElem?_cons_succ] at f0 f1
    obtain ⟨d, e0, _⟩ := DataW.trod_bool Tryz.underlying4 f0
    injection e0 with e0 _
    subst e0
    obtain ⟨t, ht⟩ := openT n n (Nat.le_refl _) f1 (fun m hm => hw m (by
      simp only [List.map_cons, List.map_nil, DataW.weights, Tryz.underlying33, DataW.weightsEach, List.mem_append]
      exact .inr (.inl hm)))
    exact ⟨⟨d, t⟩, c1, c2, c3, rfl, ht⟩
set_option maxRecDepth 100000 in
theorem openC {H : Type} {enc : TypeId × Value → H} {W : World} {b : Nat} {sp : Nat → Bool} {hd : Bool} (fuel : Nat) {cs : List Value} {x : DataW H × List MemPlace} (h : DataW.trod enc Tryz.prog W b sp hd fuel 27 cs = some x)
    (hw : ∀ n ∈ DataW.weights Tryz.prog 27 x.1, n ≤ reachBytes) : ∃ L, RwC W (.agg cs.toArray) L := by
  obtain ⟨xs, n, rfl, rfl, hl, hxs, hf⟩ := DataW.trod_struct Tryz.underlying27 h
  have eC : Tryz.prog.cellsOf 27 = 1 := by kernel_rfl
  have eS : Tryz.prog.cellsOf 25 = 1 := by kernel_rfl
  have e4 : Tryz.prog.cellsOf 33 = 4 := by kernel_rfl
  have eb : Tryz.prog.bytesOf 33 = 64 := by kernel_rfl
  rw [eC] at hl
  have f0 := hf 0 _ rfl
  match cs, hl, xs, hxs, hw, f0 with
  | [c0], _, [y0], _, hw, f0 =>
    simp only [eS, List.drop_zero, List.take_succ_cons, List.take_zero, List.getElem?_cons_zero] at f0
    have hws : ∀ m, m ∈ DataW.weights Tryz.prog 25 y0.1 → m ≤ reachBytes := fun m hm => hw m (by
      simp only [List.map_cons, List.map_nil, DataW.weights, Tryz.underlying27, DataW.weightsEach, List.mem_append]
      exact .inl hm)
    rcases DataW.trod_slice Tryz.underlying25 f0 with ⟨hcs, _⟩ | ⟨a, len, cap, elems, rest, n', rfl, hcs, hx, _, hlc, hm, hlen, hel, _, _⟩
    · injection hcs with hcs _
      subst hcs
      exact ⟨[], none, 0, [], rfl, SlD.nil _ _ _, rfl, by simp⟩
    · injection hcs with hcs _
      subst hcs
      rw [e4] at hel
      have hT : ∀ i, i < len → ∃ (m : Mb) (p q r : Value), W.cell? (a.add (i * 4)) = some (.bool m.dec) ∧ W.cell? (a.add (i * 4 + 1)) = some p ∧ W.cell? (a.add (i * 4 + 2)) = some q ∧ W.cell? (a.add (i * 4 + 3)) = some r ∧ RwD W (.agg #[p, q, r]) m.tr := by
        intro i hi
        have h1 := hel i hi
        rw [List.getElem?_eq_getElem (by omega), Option.bind_eq_some_iff] at h1
        obtain ⟨cs', h2, h3⟩ := h1
        obtain ⟨_, h4, h5⟩ := World.cells?_some h2
        obtain ⟨m, p, q, r, rfl, ht⟩ := openM n' h3 (fun m hm => hws m (by
          rw [hx]
          simp only [DataW.weights, Tryz.underlying25, List.mem_cons, List.mem_append]
          exact .inr (.inl (wAll (List.mem_map_of_mem (List.getElem_mem _)) hm))))
        have g0 := h5 0 (by omega)
        have g1 := h5 1 (by omega)
        have g2 := h5 2 (by omega)
        have g3 := h5 3 (by omega)
        rw [Go.Deep.add_add] at g0 g1 g2 g3
        exact ⟨m, p, q, r, by simpa using g0, by simpa using g1, by simpa using g2, by simpa using g3, ht⟩
      have hT2 : ∃ T : Nat → Mb, ∀ i, i < len → ∃ (p q r : Value), W.cell? (a.add (i * 4)) = some (.bool (T i).dec) ∧ W.cell? (a.add (i * 4 + 1)) = some p ∧ W.cell? (a.add (i * 4 + 2)) = some q ∧ W.cell? (a.add (i * 4 + 3)) = some r ∧ RwD W (.agg #[p, q, r]) (T i).tr := by
        classical
        exact ⟨fun i => if hi : i < len then Classical.choose (hT i hi) else ⟨false, zeroTr⟩, fun i hi => by simp only [dif_pos hi]; exact Classical.choose_spec (hT i hi)⟩
      obtain ⟨T, hT⟩ := hT2
      refine ⟨(List.range' 0 len).map T, some a, cap, (List.range' 0 (len * 4)).map (fun j => (W.cell? (a.add j)).getD undef), by simp, ⟨some a, len, cap, by simp, by simp, hlc, hm, fun hp => ?_⟩, ?_, ?_⟩
      · obtain ⟨u, v, w, g0, _⟩ := hT 0 hp
        obtain ⟨bb, off, spot⟩ := a
        have hspot : spot = none := by simpa [Addr.add] using World.cell?_spot g0
        subst hspot
        refine ⟨bb, off, rfl, ⟨?_, by simp⟩, fun j x hu => ?_⟩
        · have h0 : W.cell? ⟨bb, off, none⟩ = some (.bool (T 0).dec) := by simpa [Addr.add] using g0
          exact World.block_lt_of_cell? W _ h0
        · have hj : j < len * 4 := by
            have := (List.getElem?_eq_some_iff.1 hu).1
            simpa using this
          rw [List.getElem?_map, List.getElem?_range' (by omega)] at hu
          simp only [Option.map_some, Option.some.injEq] at hu
          rw [show 0 + 1 * j = j by omega, Addr.add_lit] at hu
          obtain ⟨u', v', w', k0, k1, k2, k3, _⟩ := hT (j / 4) (by omega)
          rw [Addr.add_lit] at k0 k1 k2 k3
          have hj3 : j = j / 4 * 4 ∨ j = j / 4 * 4 + 1 ∨ j = j / 4 * 4 + 2 ∨ j = j / 4 * 4 + 3 := by omega
          rcases hj3 with e | e | e | e
          · rw [← e] at k0; rw [k0] at hu ⊢; simpa using hu
          · rw [← e] at k1; rw [k1] at hu ⊢; simpa using hu
          · rw [← e] at k2; rw [k2] at hu ⊢; simpa using hu
          · rw [← e] at k3; rw [k3] at hu ⊢; simpa using hu
      · refine rwm_of _ T len 0 0 (fun i hi => ?_)
        obtain ⟨u, v, w, g0, g1, g2, g3, ht⟩ := hT i hi
        simp only [Nat.zero_add, g0, g1, g2, g3, Option.getD_some]
        exact ⟨trivial, ht⟩
      · have := hws (((elems.map (·.1)).length + (rest.map (·.1)).length) * 64) (by rw [hx]; simp [DataW.weights, Tryz.underlying25, eb])
        unfold reachBytes at this
        simp only [List.length_map] at this
        simp only [List.length_map, List.length_range']
        omega
end Go.Proofs.YtoblhcieidljjaaGreatDoor

/- Walks: mk.SmallConfig at configurations as they come in. -/
namespace Go.Proofs.YtoblhcieidljjaaGreatDoor
open Go.RowKit

/-- Is a configuration small? -/
def ScfP (L : List Mb) (w : World) (e : Ending) (w' : World) : Prop := ∃ b, e = .returned (.bool b) ∧ (b = true → L.length ≤ 30 ∧ ∀ m ∈ L, m.tr.size ≤ 400) ∧ Fr none w w'
set_option maxRecDepth 100000 in
set_option maxHeartbeats 2000000 in
theorem scfg_any (L : List Mb) (v : Value) (w : World) (h : RwC w v L) : Calls Tryz.prog 46 #[v] w (ScfP L w) := by
  obtain ⟨A, c, rfl, q0, q1, q2, hcell⟩ := h.open_
  have HC := Lib.hid hcell
  clear hcell h
  go_enter Tryz.func46, Tryz.ntmps46
  go_upto_region 1 with (fail)
  generalize hW : w.alloc _ = w1
  have F1 : Fr none w w1 := hW ▸ (Fr.refl _ _).alloc _
  have b1 : CB w1 w.heap.size (.slice A L.length c) := by rw [← hW]; exact blk_new _ _
  clear hW
  have R1 := b1.cell
  have l1 := blk_lt b1
  by_cases h30 : 30 < L.length
  · have hd : decide ((30 : Int) < (L.length : Int)) = true := decide_eq_true (by omega)
    clear h30
    go_wp2_with fail
    go_ret
    exact ⟨false, rfl, fun h => (by cases h), F1⟩
  · have hd : decide ((30 : Int) < (L.length : Int)) = false := decide_eq_false (by omega)
    have hl30 : L.length ≤ 30 := by omega
    clear h30
    go_wp2_with fail
    go_loopw [3, 4] (fun s3 s4 wr => ∃ (n i : Nat), s3 = .int .i64 (n : Int) ∧ s4 = .int .i64 (i : Int) ∧ i ≤ L.length ∧ n ≤ 17592186044900 ∧ Hid (n ≤ 400 → ∀ k (hk : k < L.length), k < i → L[k].tr.size ≤ 400) ∧ Fr none w1 wr) (fun _ s4 _ => L.length - (intOf s4).toNat)
    case atStart => exact ⟨0, 0, rfl, rfl, Nat.zero_le _, by omega, Lib.hid (fun _ k hk h => by omega), Fr.refl _ _⟩
    case round =>
      clear R1 l1
      obtain ⟨n, i, rfl, rfl, hi, hn, HQ, F⟩ := hrel
      obtain ⟨wz, hwz⟩ : ∃ wz : World, wz = wr := ⟨_, rfl⟩
      subst hwz
      have bz := b1.fr F (by simp)
      have Rz := bz.cell
      have lz := blk_lt bz
      by_cases hlt : i < L.length
      · by_cases hq : n ≤ 400
        · obtain ⟨b, off, th, A1, n1, c1, A2, n2, c2, rfl, hb, g0, g1, g2, g3, ht⟩ := HC.out i hlt
          have Fw := F1.pure F
          have g1 := Fw.keep g1 (by simp)
          have g2 := Fw.keep g2 (by simp)
          have g3 := Fw.keep g3 (by simp)
          have ht := ht.fr Fw
          obtain ⟨X, hX⟩ : ∃ X, X = L[i].tr := ⟨_, rfl⟩
          rw [← hX] at ht
          have HX := Lib.hid hX
          clear hX g0
          go_wp2_with (go_at_call 100; refine (entries_any X.dep X _ n _ (Nat.le_refl _) hq ht).mono ?_; rintro e w2 ⟨m, rfl, hm, hm1, F2⟩)
          have HM := Lib.hid hm1
          clear hm1
          go_roundw
          case rel =>
            refine ⟨m, i + 1, rfl, by go_num, by omega, hm, fun hm4 k hk hki => ?_, F.pure F2⟩
            rcases Nat.lt_or_ge k i with hh | hh
            · exact HQ.out hq k hk hh
            · obtain rfl : k = i := by omega
              have := HM.out hm4
              rw [← HX.out]
              omega
          case measure => simp [intOf]; omega
        · go_wp2_with fail
          go_ret
          refine ⟨_, rfl, fun h => ?_, F1.pure F⟩
          have := of_decide_eq_true h
          omega
      · obtain rfl : i = L.length := by omega
        go_wp2_with fail
        go_ret
        refine ⟨_, rfl, fun h => ⟨hl30, fun m hm => ?_⟩, F1.pure F⟩
        have h4 := of_decide_eq_true h
        obtain ⟨k, hk, rfl⟩ := List.getElem_of_mem hm
        exact HQ.out (by omega) k hk hk
end Go.Proofs.YtoblhcieidljjaaGreatDoor

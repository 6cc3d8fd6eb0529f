/- Some texts of this claim, joined: contracts of the functions that it reaches, and plain laws. -/
import Derived.Test.YtoblhcieidljjaaGreatDoorProg
import Derived.Test.YtoblhcieidljjaaGreatDoorJDA8
import Derived.Test.YtoblhcieidljjaaGreatDoorJDA3
import Derived.Test.YtoblhcieidljjaaGreatDoorJDA1
import Derived.RegionTactic

set_option linter.unusedSimpArgs false
set_option linter.unusedVariables false
/- Walks: nodeset.below at every n, OnesCount at a set, Size, rank, cmp.Compare, cmp.Or, Compare; the reference's Size, Compare. -/
namespace Go.Proofs.YtoblhcieidljjaaGreatDoor
open Go.RowKit

/-- The number of bits below k. -/
def popB (m : Nat) : Nat → Nat
  | 0 => 0
  | k + 1 => popB m k + (if m.testBit k then 1 else 0)
theorem popB_le (m : Nat) : ∀ k, popB m k ≤ k
  | 0 => by simp [popB]
  | k + 1 => by have := popB_le m k; simp only [popB]; split <;> omega
/-- The number of nodes of a set; 0 at what is none. -/
def sizS (s : Int) : Nat := if validB s then popB s.toNat 10 else 0
theorem sizS_le (s : Int) : sizS s ≤ 10 := by
  unfold sizS; split
  · exact popB_le _ _
  · omega
/-- s is a set of nodes below n. -/
def belB (s n : Int) : Bool := decide (0 ≤ s ∧ s < 2 ^ n.toNat)
def rankI (s : Int) : Int := if validB s then sizS s else -1
def cmpI (a b : Int) : Int := if a < b then -1 else if b < a then 1 else 0
/-- The order of sets. -/
def cmpS (a b : Int) : Int := if cmpI (rankI a) (rankI b) = 0 then cmpI a b else cmpI (rankI a) (rankI b)

theorem below_any (s : Int) (n : Nat) (hn : n ≤ 10) (w : World) : Calls Tryz.prog 185 #[.int .i64 s, .int .i64 n] w fun e w' => e = .returned (.bool (belB s n)) ∧ w = w' := by
  go_enter Tryz.func185, Tryz.ntmps185
  go_wp2
  all_goals
    go_ret
    refine ⟨ret_bool ?_, rfl⟩
    try rw [wrap_pow n (by omega)]
    simp only [belB, Int.toNat_natCast]
    try simp [*]
    try omega

def c1 (x : Int) : Int := IntKind.u64.wrap (bits .and .u64 (x / 2) 6148914691236517205 + bits .and .u64 x 6148914691236517205)
def c2 (x : Int) : Int := IntKind.u64.wrap (bits .and .u64 (x / 4) 3689348814741910323 + bits .and .u64 x 3689348814741910323)
def c3 (x : Int) : Int := bits .and .u64 (IntKind.u64.wrap (x / 16 + x)) 1085102592571150095
def c4 (x : Int) : Int := IntKind.u64.wrap (x + x / 256)
def c5 (x : Int) : Int := IntKind.u64.wrap (x + x / 65536)
def c6 (x : Int) : Int := IntKind.u64.wrap (x + x / 4294967296)
theorem pop64 : ∀ m : Fin 1024, bits .and .i64 (wrap64 (c6 (c5 (c4 (c3 (c2 (c1 (m.val : Int)))))))) 127 = (popB m.val 10 : Int) := by decide +kernel

theorem isNaN_any (a : Int) (w : World) : Calls Tryz.prog 127 #[.int .i64 a] w fun e w' => e = .returned (.bool false) ∧ w = w' := by
  go_enter Tryz.func127, Tryz.ntmps127
  go_wp2_with fail
  go_ret
  exact ⟨ret_bool (by simp), rfl⟩
theorem cmpCompare_any (a b : Int) (w : World) : Calls Tryz.prog 81 #[.int .i64 a, .int .i64 b] w fun e w' => e = .returned (.int .i64 (cmpI a b)) ∧ w = w' := by
  rcases Int.lt_trichotomy a b with h | h | h
  · have e1 : cmpI a b = -1 := by simp [cmpI, h]
    have E := Lib.hid e1
    clear e1
    go_enter Tryz.func81, Tryz.ntmps81
    go_wp2_with (go_at_call 127; refine (isNaN_any _ _).mono ?_; rintro e w' ⟨rfl, rfl⟩)
    all_goals (go_ret; exact ⟨ret_int (by rw [E.out]), rfl⟩)
  · subst h
    have e1 : cmpI a a = 0 := by simp [cmpI]
    have E := Lib.hid e1
    clear e1
    go_enter Tryz.func81, Tryz.ntmps81
    go_wp2_with (go_at_call 127; refine (isNaN_any _ _).mono ?_; rintro e w' ⟨rfl, rfl⟩)
    all_goals (go_ret; exact ⟨ret_int (by rw [E.out]), rfl⟩)
  · have e1 : cmpI a b = 1 := by simp [cmpI, h]; omega
    have h2 : ¬ a < b := by omega
    have E := Lib.hid e1
    clear e1
    go_enter Tryz.func81, Tryz.ntmps81
    go_wp2_with (go_at_call 127; refine (isNaN_any _ _).mono ?_; rintro e w' ⟨rfl, rfl⟩)
    all_goals (go_ret; exact ⟨ret_int (by rw [E.out]), rfl⟩)

end Go.Proofs.YtoblhcieidljjaaGreatDoor

/- What the type table says of the slice types. -/
namespace Go.Proofs.YtoblhcieidljjaaGreatDoor
open Go.RowKit

theorem eiInt : EInfo Tryz.prog 22 3 1 8 := EInfo.mk_ (z := .int .i64 0) (by kernel_rfl) (by kernel_rfl) rfl (by omega)
theorem eiU64 : EInfo Tryz.prog 46 43 1 8 := EInfo.mk_ (z := .int .u64 0) (by kernel_rfl) (by kernel_rfl) rfl (by omega)
theorem eiTrust : EInfo Tryz.prog 29 31 3 56 := EInfo.mk_ (z := .agg #[.int .i64 0, .slice none 0 0, .slice none 0 0]) (by kernel_rfl) (by kernel_rfl) rfl (by omega)

def ints (n : Nat) : List Int := (List.range n).map Int.ofNat
theorem ints_succ (n : Nat) : ints (n + 1) = ints n ++ [(n : Int)] := by simp [ints, List.range_succ]
theorem ints_len (n : Nat) : (ints n).length = n := by simp [ints]

end Go.Proofs.YtoblhcieidljjaaGreatDoor

/- Walks over trusts: Size, Depth of the program and of the reference. By gen_tr.py. -/
namespace Go.Proofs.YtoblhcieidljjaaGreatDoor
open Go.RowKit

theorem max_if (a b : Nat) : (if a < b then (b : Int) else (a : Int)) = ((max a b : Nat) : Int) := by split <;> omega

theorem rsize_any (d : Nat) : ∀ (t : Tr) (v : Value) (w : World) (r : Option Nat), t.dep ≤ d → t.size ≤ 1073741824 → TrR w r v t →
    Calls Tryz.prog 76 #[v] w fun e w' => e = .returned (.int .i64 (t.size : Nat)) ∧ Fr none w w' := by
  induction d with
  | zero =>
    intro t v w r hd
    cases t
    simp [Tr.dep] at hd
  | succ d ih =>
    intro t v w r hd hs h
    obtain ⟨thr, nodes, inner⟩ := t
    obtain ⟨A, c, A', c', rfl, hthr, hn, hn2, hi2, hi3, hi4, hcell⟩ := h.open_
    go_enter Tryz.func76, Tryz.ntmps76
    go_wp2_with fail
    generalize hW : w.alloc _ = w1
    have F1 : Fr none w w1 := hW ▸ (Fr.refl _ _).alloc _
    have B1 : Hid (w1.heap[w.heap.size]? = some (.cells #[.int .i64 thr, .slice A nodes.length c, .slice A' inner.length c'] 31 (0, 0))) := by rw [← hW]; exact blk_new _ _
    clear hW
    have hs' : nodes.length + inner.length + sizeL inner ≤ 1073741824 := by simpa [Tr.size] using hs
    go_loopw [3, 16] (fun n i wr => Fr none w1 wr ∧ ∃ k : Nat, k ≤ inner.length ∧ i = .int .i64 k ∧ n = .int .i64 ((nodes.length + inner.length + sizeL (inner.take k) : Nat) : Int)) (fun _ i _ => inner.length - (intOf i).toNat)
    case atStart => exact ⟨Fr.refl _ _, 0, Nat.zero_le _, rfl, by simp [sizeL]⟩
    case round =>
      obtain ⟨F2, k, hk, rfl, rfl⟩ := hrel
      have hle := sizeL_take_le inner k
      by_cases hlt : k < inner.length
      · have ht := sizeL_take inner k hlt
        have hle2 := sizeL_take_le inner (k + 1)
        have hg := sizeL_get inner k hlt
        have HT := Lib.hid ht
        have hb1 : sizeL (inner.take k) + (inner[k]).size ≤ sizeL inner := by omega
        clear ht hle2
        obtain ⟨b, off, rfl, hb, hbr, hc⟩ := hcell (by omega)
        obtain ⟨x, y, z, g0, g1, g2, gt⟩ := hc k hlt
        obtain ⟨th, A1, n1, c1, A2, n2, c2, rfl, rfl, rfl⟩ := gt.shape
        have F3 := F1.pure F2
        have g0' := F3.keep g0 (by simp)
        have g1' := F3.keep g1 (by simp)
        have g2' := F3.keep g2 (by simp)
        have hdd : (inner[k]).dep ≤ d := by have := depL_get inner k hlt; simp only [Tr.dep] at hd; omega
        have gt' := (gt.fr (F3.mono (r := r)))
        clear g0 g1 g2
        go_wp2_with fail
        refine (ih inner[k] _ _ r hdd (by omega) (gt'.fr ((Fr.refl _ _).alloc _))).mono ?_
        rintro e w2 ⟨rfl, F4⟩
        have F5 := (F2.alloc _).pure F4
        clear g0' g1' g2' F4
        go_wp2_with fail
        go_roundw
        case rel => exact ⟨F5, k + 1, by omega, by go_num, by rw [HT.out]; go_num⟩
        case measure => simp [intOf]; omega
      · obtain rfl : k = inner.length := by omega
        go_wp2
        go_ret
        exact ⟨ret_int (by simp [Tr.size]), F1.pure F2⟩

theorem tsize_any (d : Nat) : ∀ (t : Tr) (v : Value) (w : World) (r : Option Nat), t.dep ≤ d → t.size ≤ 1073741824 → TrR w r v t →
    Calls Tryz.prog 73 #[v] w fun e w' => e = .returned (.int .i64 (t.size : Nat)) ∧ Fr none w w' := by
  induction d with
  | zero =>
    intro t v w r hd
    cases t
    simp [Tr.dep] at hd
  | succ d ih =>
    intro t v w r hd hs h
    obtain ⟨thr, nodes, inner⟩ := t
    obtain ⟨A, c, A', c', rfl, hthr, hn, hn2, hi2, hi3, hi4, hcell⟩ := h.open_
    go_enter Tryz.func73, Tryz.ntmps73
    go_wp2_with fail
    generalize hW : w.alloc _ = w1
    have F1 : Fr none w w1 := hW ▸ (Fr.refl _ _).alloc _
    have B1 : Hid (w1.heap[w.heap.size]? = some (.cells #[.int .i64 thr, .slice A nodes.length c, .slice A' inner.length c'] 31 (0, 0))) := by rw [← hW]; exact blk_new _ _
    clear hW
    have hs' : nodes.length + inner.length + sizeL inner ≤ 1073741824 := by simpa [Tr.size] using hs
    go_loopw [3, 16] (fun n i wr => Fr none w1 wr ∧ ∃ k : Nat, k ≤ inner.length ∧ i = .int .i64 k ∧ n = .int .i64 ((nodes.length + inner.length + sizeL (inner.take k) : Nat) : Int)) (fun _ i _ => inner.length - (intOf i).toNat)
    case atStart => exact ⟨Fr.refl _ _, 0, Nat.zero_le _, rfl, by simp [sizeL]⟩
    case round =>
      obtain ⟨F2, k, hk, rfl, rfl⟩ := hrel
      have hle := sizeL_take_le inner k
      by_cases hlt : k < inner.length
      · have ht := sizeL_take inner k hlt
        have hle2 := sizeL_take_le inner (k + 1)
        have hg := sizeL_get inner k hlt
        have HT := Lib.hid ht
        have hb1 : sizeL (inner.take k) + (inner[k]).size ≤ sizeL inner := by omega
        clear ht hle2
        obtain ⟨b, off, rfl, hb, hbr, hc⟩ := hcell (by omega)
        obtain ⟨x, y, z, g0, g1, g2, gt⟩ := hc k hlt
        obtain ⟨th, A1, n1, c1, A2, n2, c2, rfl, rfl, rfl⟩ := gt.shape
        have F3 := F1.pure F2
        have g0' := F3.keep g0 (by simp)
        have g1' := F3.keep g1 (by simp)
        have g2' := F3.keep g2 (by simp)
        have hdd : (inner[k]).dep ≤ d := by have := depL_get inner k hlt; simp only [Tr.dep] at hd; omega
        have gt' := (gt.fr (F3.mono (r := r)))
        clear g0 g1 g2
        go_wp2_with fail
        refine (ih inner[k] _ _ r hdd (by omega) (gt'.fr ((Fr.refl _ _).alloc _))).mono ?_
        rintro e w2 ⟨rfl, F4⟩
        have F5 := (F2.alloc _).pure F4
        clear g0' g1' g2' F4
        go_wp2_with fail
        go_roundw
        case rel => exact ⟨F5, k + 1, by omega, by go_num, by rw [HT.out]; go_num⟩
        case measure => simp [intOf]; omega
      · obtain rfl : k = inner.length := by omega
        go_wp2
        go_ret
        exact ⟨ret_int (by simp [Tr.size]), F1.pure F2⟩

theorem rdepth_any (d : Nat) : ∀ (t : Tr) (v : Value) (w : World) (r : Option Nat), t.dep ≤ d → d ≤ 1073741824 → TrR w r v t →
    Calls Tryz.prog 75 #[v] w fun e w' => e = .returned (.int .i64 (t.dep : Nat)) ∧ Fr none w w' := by
  induction d with
  | zero =>
    intro t v w r hd
    cases t
    simp [Tr.dep] at hd
  | succ d ih =>
    intro t v w r hd hs h
    obtain ⟨thr, nodes, inner⟩ := t
    obtain ⟨A, c, A', c', rfl, hthr, hn, hn2, hi2, hi3, hi4, hcell⟩ := h.open_
    go_enter Tryz.func75, Tryz.ntmps75
    go_wp2_with fail
    generalize hW : w.alloc _ = w1
    have F1 : Fr none w w1 := hW ▸ (Fr.refl _ _).alloc _
    have B1 : Hid (w1.heap[w.heap.size]? = some (.cells #[.int .i64 thr, .slice A nodes.length c, .slice A' inner.length c'] 31 (0, 0))) := by rw [← hW]; exact blk_new _ _
    clear hW
    have hd' : depL inner ≤ d := by simp only [Tr.dep] at hd; omega
    go_loopw [3, 9] (fun n i wr => Fr none w1 wr ∧ ∃ k : Nat, k ≤ inner.length ∧ i = .int .i64 k ∧ n = .int .i64 ((depL (inner.take k) : Nat) : Int)) (fun _ i _ => inner.length - (intOf i).toNat)
    case atStart => exact ⟨Fr.refl _ _, 0, Nat.zero_le _, rfl, by simp [depL]⟩
    case round =>
      obtain ⟨F2, k, hk, rfl, rfl⟩ := hrel
      by_cases hlt : k < inner.length
      · have HT := Lib.hid (depL_take inner k hlt)
        obtain ⟨b, off, rfl, hb, hbr, hc⟩ := hcell (by omega)
        obtain ⟨x, y, z, g0, g1, g2, gt⟩ := hc k hlt
        obtain ⟨th, A1, n1, c1, A2, n2, c2, rfl, rfl, rfl⟩ := gt.shape
        have F3 := F1.pure F2
        have g0' := F3.keep g0 (by simp)
        have g1' := F3.keep g1 (by simp)
        have g2' := F3.keep g2 (by simp)
        have hdd : (inner[k]).dep ≤ d := by have := depL_get inner k hlt; simp only [Tr.dep] at hd; omega
        have gt' := (gt.fr (F3.mono (r := r)))
        clear g0 g1 g2
        go_wp2_with fail
        refine (ih inner[k] _ _ r hdd (by omega) (gt'.fr ((Fr.refl _ _).alloc _))).mono ?_
        rintro e w2 ⟨rfl, F4⟩
        have F5 := (F2.alloc _).pure F4
        clear g0' g1' g2' F4
        go_wp2_with fail
        go_roundw
        case rel => exact ⟨F5, k + 1, by omega, by go_num, by (rw [HT.out, ← max_if]; try (congr 1; split <;> omega))⟩
        case measure => simp [intOf]; omega
      · obtain rfl : k = inner.length := by omega
        have hle : depL (inner.take inner.length) ≤ d := by rw [List.take_length]; exact hd'
        go_wp2
        go_ret
        exact ⟨ret_int (by simp [Tr.dep]), F1.pure F2⟩

theorem depth_any (d : Nat) : ∀ (t : Tr) (v : Value) (w : World) (r : Option Nat), t.dep ≤ d → d ≤ 1073741824 → TrR w r v t →
    Calls Tryz.prog 72 #[v] w fun e w' => e = .returned (.int .i64 (t.dep : Nat)) ∧ Fr none w w' := by
  induction d with
  | zero =>
    intro t v w r hd
    cases t
    simp [Tr.dep] at hd
  | succ d ih =>
    intro t v w r hd hs h
    obtain ⟨thr, nodes, inner⟩ := t
    obtain ⟨A, c, A', c', rfl, hthr, hn, hn2, hi2, hi3, hi4, hcell⟩ := h.open_
    go_enter Tryz.func72, Tryz.ntmps72
    go_wp2_with fail
    generalize hW : w.alloc _ = w1
    have F1 : Fr none w w1 := hW ▸ (Fr.refl _ _).alloc _
    have B1 : Hid (w1.heap[w.heap.size]? = some (.cells #[.int .i64 thr, .slice A nodes.length c, .slice A' inner.length c'] 31 (0, 0))) := by rw [← hW]; exact blk_new _ _
    clear hW
    have hd' : depL inner ≤ d := by simp only [Tr.dep] at hd; omega
    go_loopw [3, 9] (fun n i wr => Fr none w1 wr ∧ ∃ k : Nat, k ≤ inner.length ∧ i = .int .i64 k ∧ n = .int .i64 ((depL (inner.take k) : Nat) : Int)) (fun _ i _ => inner.length - (intOf i).toNat)
    case atStart => exact ⟨Fr.refl _ _, 0, Nat.zero_le _, rfl, by simp [depL]⟩
    case round =>
      obtain ⟨F2, k, hk, rfl, rfl⟩ := hrel
      by_cases hlt : k < inner.length
      · have HT := Lib.hid (depL_take inner k hlt)
        obtain ⟨b, off, rfl, hb, hbr, hc⟩ := hcell (by omega)
        obtain ⟨x, y, z, g0, g1, g2, gt⟩ := hc k hlt
        obtain ⟨th, A1, n1, c1, A2, n2, c2, rfl, rfl, rfl⟩ := gt.shape
        have F3 := F1.pure F2
        have g0' := F3.keep g0 (by simp)
        have g1' := F3.keep g1 (by simp)
        have g2' := F3.keep g2 (by simp)
        have hdd : (inner[k]).dep ≤ d := by have := depL_get inner k hlt; simp only [Tr.dep] at hd; omega
        have gt' := (gt.fr (F3.mono (r := r)))
        clear g0 g1 g2
        go_wp2_with fail
        refine (ih inner[k] _ _ r hdd (by omega) (gt'.fr ((Fr.refl _ _).alloc _))).mono ?_
        rintro e w2 ⟨rfl, F4⟩
        have F5 := (F2.alloc _).pure F4
        clear g0' g1' g2' F4
        go_wp2_with fail
        go_roundw
        case rel => exact ⟨F5, k + 1, by omega, by go_num, by (rw [HT.out, ← max_if]; try (congr 1; split <;> omega))⟩
        case measure => simp [intOf]; omega
      · obtain rfl : k = inner.length := by omega
        have hle : depL (inner.take inner.length) ≤ d := by rw [List.take_length]; exact hd'
        go_wp2
        go_ret
        exact ⟨ret_int (by simp [Tr.dep]), F1.pure F2⟩

end Go.Proofs.YtoblhcieidljjaaGreatDoor

/- Walks: check, level, Valid of trusts (program and reference). By gen_tr.py. -/
namespace Go.Proofs.YtoblhcieidljjaaGreatDoor
open Go.RowKit

theorem node_any (k : Int) (w : World) : Calls Tryz.prog 155 #[.int .i64 k] w fun e w' => e = .returned (.bool (decide (0 ≤ k ∧ k < 10))) ∧ w = w' := by
  go_enter Tryz.func155, Tryz.ntmps155
  go_wp2
  all_goals
    go_ret
    exact ⟨ret_bool (by by_cases h1 : 0 ≤ k <;> by_cases h2 : k < 10 <;> simp [h1, h2] <;> omega), rfl⟩

theorem level1_any (k : Int) (w : World) (_ : Wi k) : Calls Tryz.prog 157 #[.int .i64 k] w fun e w' => e = .returned (.bool (decide (k < 0 ∨ 10 ≤ k))) ∧ w = w' := by
  have hb : decide (k < 0 ∨ 10 ≤ k) = !decide (0 ≤ k ∧ k < 10) := by
    by_cases h1 : 0 ≤ k <;> by_cases h2 : k < 10 <;> simp [h1, h2] <;> omega
  rw [hb]
  have H : ∀ b : Bool, b = decide (0 ≤ k ∧ k < 10) → Calls Tryz.prog 157 #[.int .i64 k] w fun e w' => e = .returned (.bool (!b)) ∧ w = w' := by
    intro b hb
    have HB := Lib.hid hb
    clear hb
    go_enter Tryz.func157, Tryz.ntmps157
    go_wp2_with (go_at_call 155; refine (node_any _ _).mono ?_; rintro e w' ⟨rfl, rfl⟩; rw [← HB.out])
    go_ret
    exact ⟨rfl, rfl⟩
  exact H _ rfl

set_option maxHeartbeats 2000000 in
set_option maxRecDepth 100000 in
theorem rcheck_any (d : Nat) : ∀ (t : Tr) (v : Value) (w : World) (r : Option Nat), t.dep ≤ d → TrR w r v t →
    Calls Tryz.prog 120 #[v] w fun e w' => e = .returned (.int .i64 (checkE t)) ∧ Fr none w w' := by
  induction d with
  | zero =>
    intro t v w r hd
    cases t
    simp [Tr.dep] at hd
  | succ d ih =>
    intro t v w r hd h
    obtain ⟨thr, nodes, inner⟩ := t
    obtain ⟨A, c, A', c', rfl, hthr, hn, hn2, hi2, hi3, hi4, hcell⟩ := h.open_
    have h0 : Hid (checkE (.mk thr nodes inner) = if thr < 1 ∨ ((nodes.length + inner.length : Nat) : Int) < thr then 4 else if nodes.any (fun k => decide (k < 0 ∨ 10 ≤ k)) then 5 else if (ofS nodes 0).2 ≠ 0 then (ofS nodes 0).2 else checkL inner) := by unfold Hid; simp only [checkE]
    by_cases ht : thr < 1 ∨ ((nodes.length + inner.length : Nat) : Int) < thr
    · have hfin : Hid (checkE (.mk thr nodes inner) = 4) := by unfold Hid; rw [h0.out, if_pos ht]
      have ht' : thr < 1 ∨ (nodes.length : Int) + inner.length < thr := by omega
      clear ht
      rcases ht' with ht | ht
      · go_enter Tryz.func120, Tryz.ntmps120
        go_wp2_with fail
        all_goals first | (exfalso; omega) | skip
        go_ret
        exact ⟨ret_int (by rw [hfin.out]; try rfl), (Fr.refl _ _).alloc _⟩
      · have ht1 : 1 ≤ thr := by omega
        go_enter Tryz.func120, Tryz.ntmps120
        go_wp2_with fail
        all_goals first | (exfalso; omega) | skip
        go_ret
        exact ⟨ret_int (by rw [hfin.out]; try rfl), (Fr.refl _ _).alloc _⟩
    · have h1 : Hid (checkE (.mk thr nodes inner) = if nodes.any (fun k => decide (k < 0 ∨ 10 ≤ k)) then 5 else if (ofS nodes 0).2 ≠ 0 then (ofS nodes 0).2 else checkL inner) := by unfold Hid; rw [h0.out, if_neg ht]
      have ht1 : 1 ≤ thr := by omega
      have ht2 : thr ≤ (nodes.length : Int) + inner.length := by omega
      clear ht h0
      go_enter Tryz.func120, Tryz.ntmps120
      go_wp2_with fail
      generalize hW : w.alloc _ = w1
      have F1 : Fr none w w1 := hW ▸ (Fr.refl _ _).alloc _
      have B1 : Hid (w1.heap[w.heap.size]? = some (.cells #[.int .i64 thr, .slice A nodes.length c, .slice A' inner.length c'] 31 (0, 0))) := by rw [← hW]; exact blk_new _ _
      clear hW
      have hn' := hn.fr (F1.mono (r := r))
      have R1 := blk_cell B1.out
      go_loop [28] (fun i => ∃ k : Nat, k ≤ nodes.length ∧ i = .int .i64 k ∧ Hid (nodes.any (fun k => decide (k < 0 ∨ 10 ≤ k)) = (nodes.drop k).any (fun k => decide (k < 0 ∨ 10 ≤ k)))) (fun i => nodes.length - (intOf i).toNat)
      case atStart => exact ⟨0, Nat.zero_le _, rfl, by simp [Hid]⟩
      case round =>
        obtain ⟨k, hk, rfl, hany⟩ := hrel
        by_cases hlt : k < nodes.length
        · obtain ⟨A0, c0, e0, q1, q2, hc1⟩ := hn'.open_
          injection e0 with e1 _ e3
          subst e1 e3
          obtain ⟨b, off, rfl, hb, hbr, hcc⟩ := hc1 (by omega)
          have hck := hcc k hlt
          have hd2 : Hid (nodes.drop k = nodes[k] :: nodes.drop (k + 1)) := List.drop_eq_getElem_cons hlt
          clear hcc hc1
          by_cases hr : nodes[k] < 0 ∨ 10 ≤ nodes[k]
          · have ha : nodes.any (fun k => decide (k < 0 ∨ 10 ≤ k)) = true := by
              rw [hany.out, hd2.out, List.any_cons, decide_eq_true hr]; rfl
            have hfin : Hid (checkE (.mk thr nodes inner) = 5) := by unfold Hid; rw [h1.out, if_pos ha]
            clear ha
            by_cases hr1 : nodes[k] < 0
            all_goals
              go_wp2_with fail
              all_goals first | (exfalso; omega) | skip
              all_goals (go_ret; exact ⟨ret_int (by rw [hfin.out]; try rfl), F1⟩)
          · have hr1 : 0 ≤ nodes[k] := by omega
            have hr2 : nodes[k] < 10 := by omega
            have hb2 : decide (nodes[k] < 0 ∨ 10 ≤ nodes[k]) = false := decide_eq_false hr
            have HB := Lib.hid hb2
            clear hr hb2
            go_wp2_with fail
            go_round
            case rel => exact ⟨k + 1, by omega, by go_num, by unfold Hid; rw [hany.out, hd2.out, List.any_cons, HB.out]; rfl⟩
            case measure => simp [intOf]; omega
        · obtain rfl : k = nodes.length := by omega
          have ha : nodes.any (fun k => decide (k < 0 ∨ 10 ≤ k)) = false := by rw [hany.out]; simp
          have h2 : Hid (checkE (.mk thr nodes inner) = if (ofS nodes 0).2 ≠ 0 then (ofS nodes 0).2 else checkL inner) := by unfold Hid; rw [h1.out, if_neg (by rw [ha]; simp)]
          clear h1 ha
          go_wp2_with fail
          refine (rof_any nodes _ _ r hn').mono ?_
          rintro e w' ⟨rfl, rfl⟩
          by_cases hof : (ofS nodes 0).2 = 0
          · have hfin : Hid (checkE (.mk thr nodes inner) = checkL inner) := by unfold Hid; rw [h2.out, if_neg (by rw [hof]; simp)]
            have ho0 : ((ofS nodes 0).2 != 0) = false := by rw [bne_eq_false_iff_eq]; exact hof
            clear hof h2
            go_wp2_with fail
            go_loopw [51] (fun i wr => Fr none w1 wr ∧ ∃ k : Nat, k ≤ inner.length ∧ i = .int .i64 k ∧ Hid (checkL inner = checkL (inner.drop k))) (fun i _ => inner.length - (intOf i).toNat)
            case atStart => exact ⟨Fr.refl _ _, 0, Nat.zero_le _, rfl, by simp [Hid]⟩
            case round =>
              obtain ⟨F2, k, hk, rfl, ho⟩ := hrel
              by_cases hlt : k < inner.length
              · have hd2 : Hid (inner.drop k = inner[k] :: inner.drop (k + 1)) := List.drop_eq_getElem_cons hlt
                obtain ⟨b, off, rfl, hb, hbr, hc⟩ := hcell (by omega)
                obtain ⟨x, y, z, g0, g1, g2, gt⟩ := hc k hlt
                obtain ⟨th, A1, n1, c1, A2, n2, c2, rfl, rfl, rfl⟩ := gt.shape
                have F3 := F1.pure F2
                have g0' := F3.keep g0 (by simp)
                have g1' := F3.keep g1 (by simp)
                have g2' := F3.keep g2 (by simp)
                have hdd : (inner[k]).dep ≤ d := by have := depL_get inner k hlt; simp only [Tr.dep] at hd; omega
                have gt' := (gt.fr (F3.mono (r := r)))
                clear g0 g1 g2
                go_wp2_with fail
                refine (ih inner[k] _ _ r hdd (gt'.fr ((Fr.refl _ _).alloc _))).mono ?_
                rintro e w2 ⟨rfl, F4⟩
                have F5 := (F2.alloc _).pure F4
                clear g0' g1' g2' F4
                by_cases he : checkE inner[k] = 0
                · have he0 : (checkE inner[k] != 0) = false := by rw [bne_eq_false_iff_eq]; exact he
                  have HE := Lib.hid he
                  clear he
                  go_wp2_with fail
                  go_roundw
                  case rel =>
                    refine ⟨F5, k + 1, by omega, by go_num, ?_⟩
                    unfold Hid
                    rw [ho.out, hd2.out]
                    simp only [checkL]
                    rw [if_neg (by rw [HE.out]; simp)]
                  case measure => simp [intOf]; omega
                · have he0 : (checkE inner[k] != 0) = true := by rw [bne_iff_ne]; exact he
                  have HE := Lib.hid he
                  clear he
                  go_wp2_with fail
                  go_ret
                  refine ⟨ret_int ?_, F1.pure F5⟩
                  rw [hfin.out, ho.out, hd2.out]
                  simp only [checkL]
                  rw [if_pos HE.out]
              · obtain rfl : k = inner.length := by omega
                go_wp2
                go_ret
                refine ⟨ret_int ?_, F1.pure F2⟩
                rw [hfin.out, ho.out]
                simp [checkL]
          · have hfin : Hid (checkE (.mk thr nodes inner) = (ofS nodes 0).2) := by unfold Hid; rw [h2.out, if_pos hof]
            have ho0 : ((ofS nodes 0).2 != 0) = true := by rw [bne_iff_ne]; exact hof
            clear hof h2
            go_wp2_with fail
            go_ret
            exact ⟨ret_int (by rw [hfin.out]; try rfl), F1⟩

set_option maxHeartbeats 2000000 in
set_option maxRecDepth 100000 in
theorem level_any (d : Nat) : ∀ (t : Tr) (v : Value) (w : World) (r : Option Nat), t.dep ≤ d → TrR w r v t →
    Calls Tryz.prog 119 #[v] w fun e w' => e = .returned (.int .i64 (checkE t)) ∧ Fr none w w' := by
  induction d with
  | zero =>
    intro t v w r hd
    cases t
    simp [Tr.dep] at hd
  | succ d ih =>
    intro t v w r hd h
    obtain ⟨thr, nodes, inner⟩ := t
    obtain ⟨A, c, A', c', rfl, hthr, hn, hn2, hi2, hi3, hi4, hcell⟩ := h.open_
    have h0 : Hid (checkE (.mk thr nodes inner) = if thr < 1 ∨ ((nodes.length + inner.length : Nat) : Int) < thr then 4 else if nodes.any (fun k => decide (k < 0 ∨ 10 ≤ k)) then 5 else if (ofS nodes 0).2 ≠ 0 then (ofS nodes 0).2 else checkL inner) := by unfold Hid; simp only [checkE]
    by_cases ht : thr < 1 ∨ ((nodes.length + inner.length : Nat) : Int) < thr
    · have hfin : Hid (checkE (.mk thr nodes inner) = 4) := by unfold Hid; rw [h0.out, if_pos ht]
      have ht' : thr < 1 ∨ (nodes.length : Int) + inner.length < thr := by omega
      clear ht
      rcases ht' with ht | ht
      · go_enter Tryz.func119, Tryz.ntmps119
        go_wp2_with fail
        all_goals first | (exfalso; omega) | skip
        go_ret
        exact ⟨ret_int (by rw [hfin.out]; try rfl), (Fr.refl _ _).alloc _⟩
      · have ht1 : 1 ≤ thr := by omega
        go_enter Tryz.func119, Tryz.ntmps119
        go_wp2_with fail
        all_goals first | (exfalso; omega) | skip
        go_ret
        exact ⟨ret_int (by rw [hfin.out]; try rfl), (Fr.refl _ _).alloc _⟩
    · have h1 : Hid (checkE (.mk thr nodes inner) = if nodes.any (fun k => decide (k < 0 ∨ 10 ≤ k)) then 5 else if (ofS nodes 0).2 ≠ 0 then (ofS nodes 0).2 else checkL inner) := by unfold Hid; rw [h0.out, if_neg ht]
      have ht1 : 1 ≤ thr := by omega
      have ht2 : thr ≤ (nodes.length : Int) + inner.length := by omega
      clear ht h0
      go_enter Tryz.func119, Tryz.ntmps119
      go_wp2_with fail
      generalize hW : w.alloc _ = w1
      have F1 : Fr none w w1 := hW ▸ (Fr.refl _ _).alloc _
      have B1 : Hid (w1.heap[w.heap.size]? = some (.cells #[.int .i64 thr, .slice A nodes.length c, .slice A' inner.length c'] 31 (0, 0))) := by rw [← hW]; exact blk_new _ _
      clear hW
      have hn' := hn.fr (F1.mono (r := r))
      have R1 := blk_cell B1.out
      refine (containsFunc_any 157 (fun k => decide (k < 0 ∨ 10 ≤ k)) (fun _ _ => by kernel_rfl) level1_any nodes _ _ r hn').mono ?_
      rintro e w' ⟨rfl, rfl⟩
      have HQ : ∃ q, Hid (nodes.any (fun k => decide (k < 0 ∨ 10 ≤ k)) = q) := ⟨_, rfl⟩
      obtain ⟨q, hq⟩ := HQ
      rw [hq.out]
      cases q
      rotate_left
      · have hfin : Hid (checkE (.mk thr nodes inner) = 5) := by unfold Hid; rw [h1.out, if_pos hq.out]
        go_wp2_with fail
        go_ret
        exact ⟨ret_int (by rw [hfin.out]; try rfl), F1⟩
      · have h2 : Hid (checkE (.mk thr nodes inner) = if (ofS nodes 0).2 ≠ 0 then (ofS nodes 0).2 else checkL inner) := by unfold Hid; rw [h1.out, if_neg (by rw [hq.out]; simp)]
        clear h1
        go_wp2_with fail
        refine (of_any nodes _ _ r hn').mono ?_
        rintro e w' ⟨rfl, rfl⟩
        by_cases hof : (ofS nodes 0).2 = 0
        · have hfin : Hid (checkE (.mk thr nodes inner) = checkL inner) := by unfold Hid; rw [h2.out, if_neg (by rw [hof]; simp)]
          have ho0 : ((ofS nodes 0).2 != 0) = false := by rw [bne_eq_false_iff_eq]; exact hof
          clear hof h2
          go_wp2_with fail
          go_loopw [38] (fun i wr => Fr none w1 wr ∧ ∃ k : Nat, k ≤ inner.length ∧ i = .int .i64 k ∧ Hid (checkL inner = checkL (inner.drop k))) (fun i _ => inner.length - (intOf i).toNat)
          case atStart => exact ⟨Fr.refl _ _, 0, Nat.zero_le _, rfl, by simp [Hid]⟩
          case round =>
            obtain ⟨F2, k, hk, rfl, ho⟩ := hrel
            by_cases hlt : k < inner.length
            · have hd2 : Hid (inner.drop k = inner[k] :: inner.drop (k + 1)) := List.drop_eq_getElem_cons hlt
              obtain ⟨b, off, rfl, hb, hbr, hc⟩ := hcell (by omega)
              obtain ⟨x, y, z, g0, g1, g2, gt⟩ := hc k hlt
              obtain ⟨th, A1, n1, c1, A2, n2, c2, rfl, rfl, rfl⟩ := gt.shape
              have F3 := F1.pure F2
              have g0' := F3.keep g0 (by simp)
              have g1' := F3.keep g1 (by simp)
              have g2' := F3.keep g2 (by simp)
              have hdd : (inner[k]).dep ≤ d := by have := depL_get inner k hlt; simp only [Tr.dep] at hd; omega
              have gt' := (gt.fr (F3.mono (r := r)))
              clear g0 g1 g2
              go_wp2_with fail
              refine (ih inner[k] _ _ r hdd (gt'.fr ((Fr.refl _ _).alloc _))).mono ?_
              rintro e w2 ⟨rfl, F4⟩
              have F5 := (F2.alloc _).pure F4
              clear g0' g1' g2' F4
              by_cases he : checkE inner[k] = 0
              · have he0 : (checkE inner[k] != 0) = false := by rw [bne_eq_false_iff_eq]; exact he
                have HE := Lib.hid he
                clear he
                go_wp2_with fail
                go_roundw
                case rel =>
                  refine ⟨F5, k + 1, by omega, by go_num, ?_⟩
                  unfold Hid
                  rw [ho.out, hd2.out]
                  simp only [checkL]
                  rw [if_neg (by rw [HE.out]; simp)]
                case measure => simp [intOf]; omega
              · have he0 : (checkE inner[k] != 0) = true := by rw [bne_iff_ne]; exact he
                have HE := Lib.hid he
                clear he
                go_wp2_with fail
                go_ret
                refine ⟨ret_int ?_, F1.pure F5⟩
                rw [hfin.out, ho.out, hd2.out]
                simp only [checkL]
                rw [if_pos HE.out]
            · obtain rfl : k = inner.length := by omega
              go_wp2
              go_ret
              refine ⟨ret_int ?_, F1.pure F2⟩
              rw [hfin.out, ho.out]
              simp [checkL]
        · have hfin : Hid (checkE (.mk thr nodes inner) = (ofS nodes 0).2) := by unfold Hid; rw [h2.out, if_pos hof]
          have ho0 : ((ofS nodes 0).2 != 0) = true := by rw [bne_iff_ne]; exact hof
          clear hof h2
          go_wp2_with fail
          go_ret
          exact ⟨ret_int (by rw [hfin.out]; try rfl), F1⟩

set_option maxHeartbeats 1000000 in
theorem rvalidT_any (t : Tr) (v : Value) (w : World) (r : Option Nat) (hs : t.size ≤ 1073741000) (h : TrR w r v t) :
    Calls Tryz.prog 74 #[v] w fun e w' => e = .returned (.int .i64 (validE t)) ∧ Fr none w w' := by
  have hd := dep_le_size t
  obtain ⟨A, c, A', c', rfl, -⟩ := (show ∃ A c A' c', v = .agg #[.int .i64 t.thr, .slice A t.nodes.length c, .slice A' t.inner.length c'] ∧ True by
    obtain ⟨thr, nodes, inner⟩ := t
    obtain ⟨A, c, A', c', rfl, _⟩ := h.open_
    exact ⟨A, c, A', c', rfl, trivial⟩)
  go_enter Tryz.func74, Tryz.ntmps74
  go_wp2_with fail
  generalize hW : w.alloc _ = w1
  have F1 : Fr none w w1 := hW ▸ (Fr.refl _ _).alloc _
  have B1 : Hid (w1.heap[w.heap.size]? = some (.cells #[.int .i64 t.thr, .slice A t.nodes.length c, .slice A' t.inner.length c'] 31 (0, 0))) := by rw [← hW]; exact blk_new _ _
  clear hW
  have h1 := h.fr (F1.mono (r := r))
  refine (rdepth_any t.dep t _ _ r (Nat.le_refl _) (by omega) h1).mono ?_
  rintro e w2 ⟨rfl, F2⟩
  have B2 := Lib.hid (blk_fr B1.out F2 (by simp))
  have h2 := h1.fr (F2.mono (r := r))
  have R2 := blk_cell B2.out
  by_cases h4 : 4 < t.dep
  · have hfin : Hid (validE t = 3) := by unfold Hid validE; rw [if_pos (.inl h4)]
    go_wp2_with fail
    go_ret
    exact ⟨ret_int (by rw [hfin.out]; try rfl), F1.pure F2⟩
  · go_wp2_with fail
    refine (rsize_any t.dep t _ _ r (Nat.le_refl _) (by omega) h2).mono ?_
    rintro e w3 ⟨rfl, F3⟩
    have h3 := h2.fr (F3.mono (r := r))
    have B3 := Lib.hid (blk_fr B2.out F3 (by simp))
    have R3 := blk_cell B3.out
    clear R2
    by_cases h5 : 200 < t.size
    · have hfin : Hid (validE t = 3) := by unfold Hid validE; rw [if_pos (.inr h5)]
      go_wp2_with fail
      go_ret
      exact ⟨ret_int (by rw [hfin.out]; try rfl), (F1.pure F2).pure F3⟩
    · have hfin : Hid (validE t = checkE t) := by unfold Hid validE; rw [if_neg (by omega)]
      go_wp2_with fail
      refine (rcheck_any t.dep t _ _ r (Nat.le_refl _) h3).mono ?_
      rintro e w4 ⟨rfl, F4⟩
      go_wp2_with fail
      go_ret
      exact ⟨ret_int (by rw [hfin.out]; try rfl), ((F1.pure F2).pure F3).pure F4⟩

set_option maxHeartbeats 1000000 in
theorem validT_any (t : Tr) (v : Value) (w : World) (r : Option Nat) (hs : t.size ≤ 1073741000) (h : TrR w r v t) :
    Calls Tryz.prog 71 #[v] w fun e w' => e = .returned (.int .i64 (validE t)) ∧ Fr none w w' := by
  have hd := dep_le_size t
  obtain ⟨A, c, A', c', rfl, -⟩ := (show ∃ A c A' c', v = .agg #[.int .i64 t.thr, .slice A t.nodes.length c, .slice A' t.inner.length c'] ∧ True by
    obtain ⟨thr, nodes, inner⟩ := t
    obtain ⟨A, c, A', c', rfl, _⟩ := h.open_
    exact ⟨A, c, A', c', rfl, trivial⟩)
  go_enter Tryz.func71, Tryz.ntmps71
  go_wp2_with fail
  generalize hW : w.alloc _ = w1
  have F1 : Fr none w w1 := hW ▸ (Fr.refl _ _).alloc _
  have B1 : Hid (w1.heap[w.heap.size]? = some (.cells #[.int .i64 t.thr, .slice A t.nodes.length c, .slice A' t.inner.length c'] 31 (0, 0))) := by rw [← hW]; exact blk_new _ _
  clear hW
  have h1 := h.fr (F1.mono (r := r))
  refine (depth_any t.dep t _ _ r (Nat.le_refl _) (by omega) h1).mono ?_
  rintro e w2 ⟨rfl, F2⟩
  have B2 := Lib.hid (blk_fr B1.out F2 (by simp))
  have h2 := h1.fr (F2.mono (r := r))
  have R2 := blk_cell B2.out
  by_cases h4 : 4 < t.dep
  · have hfin : Hid (validE t = 3) := by unfold Hid validE; rw [if_pos (.inl h4)]
    go_wp2_with fail
    go_ret
    exact ⟨ret_int (by rw [hfin.out]; try rfl), F1.pure F2⟩
  · go_wp2_with fail
    refine (tsize_any t.dep t _ _ r (Nat.le_refl _) (by omega) h2).mono ?_
    rintro e w3 ⟨rfl, F3⟩
    have h3 := h2.fr (F3.mono (r := r))
    have B3 := Lib.hid (blk_fr B2.out F3 (by simp))
    have R3 := blk_cell B3.out
    clear R2
    by_cases h5 : 200 < t.size
    · have hfin : Hid (validE t = 3) := by unfold Hid validE; rw [if_pos (.inr h5)]
      go_wp2_with fail
      go_ret
      exact ⟨ret_int (by rw [hfin.out]; try rfl), (F1.pure F2).pure F3⟩
    · have hfin : Hid (validE t = checkE t) := by unfold Hid validE; rw [if_neg (by omega)]
      go_wp2_with fail
      refine (level_any t.dep t _ _ r (Nat.le_refl _) h3).mono ?_
      rintro e w4 ⟨rfl, F4⟩
      go_wp2_with fail
      go_ret
      exact ⟨ret_int (by rw [hfin.out]; try rfl), ((F1.pure F2).pure F3).pure F4⟩

end Go.Proofs.YtoblhcieidljjaaGreatDoor

/- A trust that is being filled, in a block of its own. -/
namespace Go.Proofs.YtoblhcieidljjaaGreatDoor
open Go.RowKit

/-- The struct that the call fills: block b of w. -/
def TB (w : World) (b : Nat) (x y z : Value) : Prop := w.heap[b]? = some (.cells #[x, y, z] 31 (0, 0))
theorem TB.fr {w w' : World} {b : Nat} {x y z : Value} {r : Option Nat} (h : TB w b x y z) (f : Fr r w w') (hr : r ≠ some b) : TB w' b x y z := blk_fr h f hr
theorem TB.cell {w : World} {b : Nat} {x y z : Value} (h : TB w b x y z) : ∀ i, w.cell? ⟨b, i, none⟩ = #[x, y, z][i]? := blk_cell h
theorem TB.free {w : World} {b : Nat} {x y z : Value} (h : TB w b x y z) : ∀ i, w.frozen? ⟨b, i, none⟩ = false := blk_free h
theorem TB.set0 {w : World} {b : Nat} {x y z : Value} (h : TB w b x y z) (u : Value) : TB (w.setCell ⟨b, 0, none⟩ u) b u y z := by simpa [TB] using blk_set h 0 u
theorem TB.set1 {w : World} {b : Nat} {x y z : Value} (h : TB w b x y z) (u : Value) : TB (w.setCell ⟨b, 1, none⟩ u) b x u z := by simpa [TB] using blk_set h 1 u
theorem TB.set2 {w : World} {b : Nat} {x y z : Value} (h : TB w b x y z) (u : Value) : TB (w.setCell ⟨b, 2, none⟩ u) b x y u := by simpa [TB] using blk_set h 2 u

end Go.Proofs.YtoblhcieidljjaaGreatDoor

/- Walks: the tape trustquorummake.Tape: New, N, Range, Pick, Order. -/
namespace Go.Proofs.YtoblhcieidljjaaGreatDoor
open Go.RowKit

abbrev TapeT : TypeId := 84

theorem tapeNew_any (v : Value) (l : List Int) (w : World) (h : SlI w none v l) :
    Calls Tryz.prog 7 #[v] w (NewP 84 w) := by
  have h0 := h
  obtain ⟨A, c, rfl, q1, q2, hc⟩ := h.open_
  by_cases hl : l.length ≤ 400
  · go_enter Tryz.func7, Tryz.ntmps7
    go_wp2
    go_ret
    exact ⟨_, rfl, Nat.le_refl _, SrcR.made h0 (by omega), (Fr.refl _ _).alloc _⟩
  · go_enter Tryz.func7, Tryz.ntmps7
    go_wp2
    all_goals first | (exfalso; omega) | skip
    go_ret
    exact ⟨_, rfl, Nat.le_refl _, SrcR.made (h0.take 400 (by omega)) (by have := List.length_take_le 400 l; omega), (Fr.refl _ _).alloc _⟩

theorem tapeN_any (n : Int) (g : Nat) (w : World) (hn0 : 1 ≤ n) (hn : n ≤ 4294967296) (h : SrcR 84 w g) :
    Calls Tryz.prog 10 #[.pointer (some ⟨g, 0, none⟩), .int .i64 n] w (NumP 84 w g 0 (n - 1)) := by
  have h0 := h
  have hgl := h.lt
  obtain ⟨A, c, l, k, hb, hs, hw, hl, hk, q1, q2, hc⟩ := h.open_
  have c0 : w.cell? ⟨g, 0, none⟩ = some (.slice A l.length c) := cell_of_row w g 0 _ _ _ hb
  have c1 : w.cell? ⟨g, 1, none⟩ = some (.int .i64 k) := cell_of_row w g 1 _ _ _ hb
  have f1 : w.frozen? ⟨g, 1, none⟩ = false := by simp [World.frozen?, hb]
  have HB := Lib.hid hb
  clear hb
  by_cases hkl : k < l.length
  · obtain ⟨b, off, rfl, hb, hcc⟩ := hc (by omega)
    have d2 := hcc k hkl
    have m1 : l[k].tmod n < n := Int.tmod_lt_of_pos _ (by omega)
    have m2 : -n < l[k].tmod n := by have := Int.lt_tmod_of_pos l[k] (b := n) (by omega); omega
    clear hcc hc
    by_cases hx : l[k].tmod n < 0
    all_goals
      go_enter Tryz.func10, Tryz.ntmps10
      go_wp2_with fail
      go_quiet (fail)
      go_wp2_with fail
      go_quiet (fail)
      go_wp2
      go_ret
      exact ⟨_, rfl, by omega, by omega, SrcR.next (k := k) (by exact HB.out) hs hw hl hkl (by exact hgl), ((Fr.refl _ w).drewN _).setRow rfl _⟩
  · go_enter Tryz.func10, Tryz.ntmps10
    go_wp2_with fail
    go_quiet (fail)
    go_wp2
    go_ret
    exact ⟨0, rfl, by omega, by omega, h0.drewN _, (Fr.refl _ _).drewN _⟩
theorem tapeRange_any (lo hi : Int) (g : Nat) (w : World) (h1 : -1073741824 ≤ lo) (h2 : lo ≤ hi) (h4 : hi ≤ 1073741824) (h : SrcR 84 w g) :
    Calls Tryz.prog 16 #[.pointer (some ⟨g, 0, none⟩), .int .i64 lo, .int .i64 hi] w (NumP 84 w g lo hi) := by
  go_enter Tryz.func16, Tryz.ntmps16
  go_wp2_with fail
  refine (tapeN_any _ _ _ (by omega) (by omega) h).mono ?_
  rintro e w' ⟨x, rfl, x1, x2, S, F⟩
  go_wp2
  go_ret
  exact ⟨_, rfl, by omega, by omega, S, F⟩

/-- One of some numbers. -/
def PickP (T : TypeId) (w : World) (g : Nat) (l : List Int) (e : Ending) (w' : World) : Prop :=
  ∃ x : Int, e = .returned (.int .i64 x) ∧ x ∈ l ∧ SrcR T w' g ∧ Fr (some g) w w'

theorem tapePick_any (v : Value) (l : List Int) (g : Nat) (w : World) (hl : SlI w (some g) v l) (h1 : 1 ≤ l.length) (h2 : l.length ≤ 1073741824) (h : SrcR 84 w g) :
    Calls Tryz.prog 69 #[.pointer (some ⟨g, 0, none⟩), v] w (PickP 84 w g l) := by
  obtain ⟨A, c, rfl, q1, q2, hc⟩ := hl.open_
  obtain ⟨b, off, rfl, hb, hbr, hcc⟩ := hc (by omega)
  clear hc
  go_enter Tryz.func69, Tryz.ntmps69
  go_wp2_with fail
  refine (tapeN_any _ _ _ (by omega) (by omega) h).mono ?_
  rintro e w' ⟨x, rfl, x1, x2, S, F⟩
  obtain ⟨k, rfl⟩ := Int.eq_ofNat_of_zero_le x1
  have hk : k < l.length := by omega
  have d := F.keep (hcc k hk) (by simpa using hbr)
  clear hcc
  go_wp2
  go_ret
  exact ⟨_, rfl, List.getElem_mem _, S, F⟩

/-- The numbers below n, in some order. -/
def OrderP (T : TypeId) (w : World) (g n : Nat) (e : Ending) (w' : World) : Prop :=
  ∃ (v : Value) (l : List Int), e = .returned v ∧ l.Perm (ints n) ∧ SlD w' (Dn w.heap.size w') 1 v (l.map (Value.int .i64)) ∧ SrcR T w' g ∧ Fr (some g) w w'

set_option maxRecDepth 100000 in
set_option maxHeartbeats 1000000 in
theorem tapeOrder_any (n g : Nat) (w : World) (hn : n ≤ 1073741824) (h : SrcR 84 w g) :
    Calls Tryz.prog 41 #[.pointer (some ⟨g, 0, none⟩), .int .i64 n] w (OrderP 84 w g n) := by
  have hg := h.lt
  go_enter Tryz.func41, Tryz.ntmps41
  go_wp2_with fail
  go_loopw [5, 6] (fun v i wr => ∃ (j : Nat) (A : Option Addr) (c : Nat), j ≤ n ∧ i = .int .i64 j ∧ v = .slice A j c ∧ Fr none w wr ∧ wr.ownsRow w.heap.size 3 1 (.slice A j c) j ((ints j).map (Value.int .i64))) (fun _ i _ => n - (intOf i).toNat)
  case atStart => exact ⟨0, none, 0, Nat.zero_le _, rfl, rfl, Fr.refl _ _, World.ownsRow_nil _ _ _ _⟩
  case round =>
    obtain ⟨j, A, c, hj, rfl, rfl, F, own⟩ := hrel
    have hz := F.size
    by_cases hlt : j < n
    · go_wp2_with (at_builtin; refine app_lit eiInt rfl _ _ rfl w.heap.size A j c _ rfl own 1 [.int .i64 j] _ _ rfl (by simp) rfl (by simp [Value.oneCell']) (by omega) (by unfold maxLen; omega) (by omega) ?_; intro A' c' w' own' F' bl')
      have og := own_blk_ge own
      go_roundw
      case rel => exact ⟨j + 1, A', c', by omega, by go_num, rfl, F.own F' og, by rw [ints_succ, List.map_append]; exact own'⟩
      case measure => simp [intOf]; omega
    · obtain rfl : j = n := by omega
      go_wp2_with fail
      obtain ⟨wo, rfl⟩ : ∃ wo : World, wo = wr := ⟨_, rfl⟩
      have hz1 := F.size
      go_loopw [7] (fun s7 wl => ∃ (i : Int) (l : List Int), s7 = .int .i64 i ∧ -1 ≤ i ∧ i < j ∧ l.Perm (ints j) ∧ Fr (some g) w wl ∧ SrcR 84 wl g ∧ wl.ownsRow w.heap.size 3 1 (.slice A j c) j (l.map (Value.int .i64))) (fun s7 _ => (intOf s7).toNat)
      case atStart => exact ⟨_, _, rfl, by omega, by omega, List.Perm.refl _, F.mono, h.fr F, own⟩
      case round =>
        clear own F hz1 hz
        obtain ⟨i, l, rfl, hi1, hi2, hp, F, S, own⟩ := hrel
        have hll : l.length = j := by rw [hp.length_eq, ints_len]
        have HLL := Lib.hid hll
        have hz := F.size
        by_cases hi : 0 < i
        · obtain ⟨m, rfl⟩ := Int.eq_ofNat_of_zero_le (show 0 ≤ i by omega)
          obtain ⟨gb, hA⟩ : ∃ gb, A = some ⟨gb, 0, none⟩ := by
            rcases own.2 with ⟨_, h0⟩ | ⟨gb, cap, cur, hv, _⟩
            · omega
            · injection hv with hv
              exact ⟨gb, hv⟩
          subst hA
          have hgb := own_blk_ge own gb rfl
          clear hll
          go_wp2_with fail
          refine (tapeN_any _ g _ (by omega) (by omega) S).mono ?_
          rintro e w2 ⟨x, rfl, x1, x2, S2, F2⟩
          obtain ⟨k, rfl⟩ := Int.eq_ofNat_of_zero_le x1
          have own2 := own_fr own F2 (by simp; omega)
          have hz2 := F2.size
          have hml : m < l.length := by have := HLL.out; omega
          have hkl : k < l.length := by have := HLL.out; omega
          have ci : w2.cell? ⟨gb, m, none⟩ = some (.int .i64 l[m]) := by rw [own2.cellAt m (by omega)]; simp [hml]
          have ck : w2.cell? ⟨gb, k, none⟩ = some (.int .i64 l[k]) := by rw [own2.cellAt k (by omega)]; simp [hkl]
          have zi := own2.frozenAt m
          have zk := own2.frozenAt k
          have o3 := (own2.drew.stored m (.int .i64 l[k])).1
          have o4 := (o3.stored k (.int .i64 l[m])).1
          have hset : ((l.map (Value.int .i64)).set m (.int .i64 l[k])).set k (.int .i64 l[m]) = ((l.set m l[k]).set k l[m]).map (Value.int .i64) := by rw [List.map_set, List.map_set]
          have hpp : ((l.set m l[k]).set k l[m]).Perm (ints j) := (List.set_set_perm hml hkl).trans hp
          have F4 : Fr (some g) w ((w2.drew.setCell ⟨gb, m, none⟩ (.int .i64 l[k])).setCell ⟨gb, k, none⟩ (.int .i64 l[m])) := (((F.same F2).drew).setNew (by simpa using hgb) _).setNew (by simpa using hgb) _
          have S4 : SrcR 84 ((w2.drew.setCell ⟨gb, m, none⟩ (.int .i64 l[k])).setCell ⟨gb, k, none⟩ (.int .i64 l[m])) g := (S2.drew.frs (Fr.set1 _ _ _) (by simp; omega)).frs (Fr.set1 _ _ _) (by simp; omega)
          have HO := Lib.hid o4
          have HS := Lib.hid hset
          clear o3 o4 hset
          by_cases hkm : k = m
          · subst hkm
            go_wp2_with fail
            go_region
            go_wp2_with fail
            go_roundw
            case rel =>
              refine ⟨(k : Int) - 1, (l.set k l[k]).set k l[k], by go_num, by omega, by omega, hpp, F4, S4, ?_⟩
              rw [← HS.out]; exact HO.out
            case measure => simp [intOf]; omega
          · go_wp2_with fail
            go_region
            go_wp2_with fail
            go_roundw
            case rel =>
              refine ⟨(m : Int) - 1, (l.set m l[k]).set k l[m], by go_num, by omega, by omega, hpp, F4, S4, ?_⟩
              rw [← HS.out]; exact HO.out
            case measure => simp [intOf]; omega
        · go_wp2_with fail
          go_ret
          exact ⟨_, l, rfl, hp, SlD.own_dn own, S, F⟩
end Go.Proofs.YtoblhcieidljjaaGreatDoor

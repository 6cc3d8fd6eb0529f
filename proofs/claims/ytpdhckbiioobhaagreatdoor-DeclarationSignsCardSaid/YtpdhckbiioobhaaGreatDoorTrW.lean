/- Walks over trusts: Size, Depth of the program and of the reference. By gen_tr.py. -/
import Derived.Test.YtpdhckbiioobhaaGreatDoorProg
import Derived.Test.YtpdhckbiioobhaaGreatDoorTr
import Derived.Test.YtpdhckbiioobhaaGreatDoorApp
namespace Go.Proofs.YtpdhckbiioobhaaGreatDoor
open Go.RowKit

theorem max_if (a b : Nat) : (if a < b then (b : Int) else (a : Int)) = ((max a b : Nat) : Int) := by split <;> omega

theorem rsize_any (d : Nat) : ∀ (t : Tr) (v : Value) (w : World) (r : Option Nat), t.dep ≤ d → t.size ≤ 1073741824 → TrR w r v t →
    Calls Tryz.prog 22 #[v] w fun e w' => e = .returned (.int .i64 (t.size : Nat)) ∧ Fr none w w' := by
  induction d with
  | zero =>
    intro t v w r hd
    cases t
    simp [Tr.dep] at hd
  | succ d ih =>
    intro t v w r hd hs h
    obtain ⟨thr, nodes, inner⟩ := t
    obtain ⟨A, c, A', c', rfl, hthr, hn, hn2, hi2, hi3, hi4, hcell⟩ := h.open_
    go_enter Tryz.func22, Tryz.ntmps22
    go_wp2_with fail
    generalize hW : w.alloc _ = w1
    have F1 : Fr none w w1 := hW ▸ (Fr.refl _ _).alloc _
    have B1 : Hid (w1.heap[w.heap.size]? = some (.cells #[.int .i64 thr, .slice A nodes.length c, .slice A' inner.length c'] 31 (0, 0))) := by rw [← hW]; exact blk_new _ _
    clear hW
    have hs' : nodes.length + inner.length + sizeL inner ≤ 1073741824 := by simpa [Tr.size] using hs
    go_loopw [3, 16] (fun n i wr => Fr none w1 wr ∧ ∃ k : Nat, k ≤ inner.length ∧ i = .int .i64 k ∧ n = .int .i64 ((nodes.length + inner.length + sizeL (inner.take k) : Nat) : Int)) (fun _ i _ => inner.length - (intOf i).toNat)
    case atStart => exact ⟨Fr.refl _ _, 0, Nat.zero_le _, rfl, by simp [sizeL]⟩
    case round =>
      obtain ⟨F2, k, hk, rfl, rfl⟩ := hrel
      have hle := sizeL_take_le inner k
      by_cases hlt : k < inner.length
      · have ht := sizeL_take inner k hlt
        have hle2 := sizeL_take_le inner (k + 1)
        have hg := sizeL_get inner k hlt
        have HT := Lib.hid ht
        have hb1 : sizeL (inner.take k) + (inner[k]).size ≤ sizeL inner := by omega
        clear ht hle2
        obtain ⟨b, off, rfl, hb, hbr, hc⟩ := hcell (by omega)
        obtain ⟨x, y, z, g0, g1, g2, gt⟩ := hc k hlt
        obtain ⟨th, A1, n1, c1, A2, n2, c2, rfl, rfl, rfl⟩ := gt.shape
        have F3 := F1.pure F2
        have g0' := F3.keep g0 (by simp)
        have g1' := F3.keep g1 (by simp)
        have g2' := F3.keep g2 (by simp)
        have hdd : (inner[k]).dep ≤ d := by have := depL_get inner k hlt; simp only [Tr.dep] at hd; omega
        have gt' := (gt.fr (F3.mono (r := r)))
        clear g0 g1 g2
        go_wp2_with fail
        refine (ih inner[k] _ _ r hdd (by omega) (gt'.fr ((Fr.refl _ _).alloc _))).mono ?_
        rintro e w2 ⟨rfl, F4⟩
        have F5 := (F2.alloc _).pure F4
        clear g0' g1' g2' F4
        go_wp2_with fail
        go_roundw
        case rel => exact ⟨F5, k + 1, by omega, by go_num, by rw [HT.out]; go_num⟩
        case measure => simp [intOf]; omega
      · obtain rfl : k = inner.length := by omega
        go_wp2
        go_ret
        exact ⟨ret_int (by simp [Tr.size]), F1.pure F2⟩

theorem tsize_any (d : Nat) : ∀ (t : Tr) (v : Value) (w : World) (r : Option Nat), t.dep ≤ d → t.size ≤ 1073741824 → TrR w r v t →
    Calls Tryz.prog 115 #[v] w fun e w' => e = .returned (.int .i64 (t.size : Nat)) ∧ Fr none w w' := by
  induction d with
  | zero =>
    intro t v w r hd
    cases t
    simp [Tr.dep] at hd
  | succ d ih =>
    intro t v w r hd hs h
    obtain ⟨thr, nodes, inner⟩ := t
    obtain ⟨A, c, A', c', rfl, hthr, hn, hn2, hi2, hi3, hi4, hcell⟩ := h.open_
    go_enter Tryz.func115, Tryz.ntmps115
    go_wp2_with fail
    generalize hW : w.alloc _ = w1
    have F1 : Fr none w w1 := hW ▸ (Fr.refl _ _).alloc _
    have B1 : Hid (w1.heap[w.heap.size]? = some (.cells #[.int .i64 thr, .slice A nodes.length c, .slice A' inner.length c'] 31 (0, 0))) := by rw [← hW]; exact blk_new _ _
    clear hW
    have hs' : nodes.length + inner.length + sizeL inner ≤ 1073741824 := by simpa [Tr.size] using hs
    go_loopw [3, 16] (fun n i wr => Fr none w1 wr ∧ ∃ k : Nat, k ≤ inner.length ∧ i = .int .i64 k ∧ n = .int .i64 ((nodes.length + inner.length + sizeL (inner.take k) : Nat) : Int)) (fun _ i _ => inner.length - (intOf i).toNat)
    case atStart => exact ⟨Fr.refl _ _, 0, Nat.zero_le _, rfl, by simp [sizeL]⟩
    case round =>
      obtain ⟨F2, k, hk, rfl, rfl⟩ := hrel
      have hle := sizeL_take_le inner k
      by_cases hlt : k < inner.length
      · have ht := sizeL_take inner k hlt
        have hle2 := sizeL_take_le inner (k + 1)
        have hg := sizeL_get inner k hlt
        have HT := Lib.hid ht
        have hb1 : sizeL (inner.take k) + (inner[k]).size ≤ sizeL inner := by omega
        clear ht hle2
        obtain ⟨b, off, rfl, hb, hbr, hc⟩ := hcell (by omega)
        obtain ⟨x, y, z, g0, g1, g2, gt⟩ := hc k hlt
        obtain ⟨th, A1, n1, c1, A2, n2, c2, rfl, rfl, rfl⟩ := gt.shape
        have F3 := F1.pure F2
        have g0' := F3.keep g0 (by simp)
        have g1' := F3.keep g1 (by simp)
        have g2' := F3.keep g2 (by simp)
        have hdd : (inner[k]).dep ≤ d := by have := depL_get inner k hlt; simp only [Tr.dep] at hd; omega
        have gt' := (gt.fr (F3.mono (r := r)))
        clear g0 g1 g2
        go_wp2_with fail
        refine (ih inner[k] _ _ r hdd (by omega) (gt'.fr ((Fr.refl _ _).alloc _))).mono ?_
        rintro e w2 ⟨rfl, F4⟩
        have F5 := (F2.alloc _).pure F4
        clear g0' g1' g2' F4
        go_wp2_with fail
        go_roundw
        case rel => exact ⟨F5, k + 1, by omega, by go_num, by rw [HT.out]; go_num⟩
        case measure => simp [intOf]; omega
      · obtain rfl : k = inner.length := by omega
        go_wp2
        go_ret
        exact ⟨ret_int (by simp [Tr.size]), F1.pure F2⟩

theorem rdepth_any (d : Nat) : ∀ (t : Tr) (v : Value) (w : World) (r : Option Nat), t.dep ≤ d → d ≤ 1073741824 → TrR w r v t →
    Calls Tryz.prog 23 #[v] w fun e w' => e = .returned (.int .i64 (t.dep : Nat)) ∧ Fr none w w' := by
  induction d with
  | zero =>
    intro t v w r hd
    cases t
    simp [Tr.dep] at hd
  | succ d ih =>
    intro t v w r hd hs h
    obtain ⟨thr, nodes, inner⟩ := t
    obtain ⟨A, c, A', c', rfl, hthr, hn, hn2, hi2, hi3, hi4, hcell⟩ := h.open_
    go_enter Tryz.func23, Tryz.ntmps23
    go_wp2_with fail
    generalize hW : w.alloc _ = w1
    have F1 : Fr none w w1 := hW ▸ (Fr.refl _ _).alloc _
    have B1 : Hid (w1.heap[w.heap.size]? = some (.cells #[.int .i64 thr, .slice A nodes.length c, .slice A' inner.length c'] 31 (0, 0))) := by rw [← hW]; exact blk_new _ _
    clear hW
    have hd' : depL inner ≤ d := by simp only [Tr.dep] at hd; omega
    go_loopw [3, 9] (fun n i wr => Fr none w1 wr ∧ ∃ k : Nat, k ≤ inner.length ∧ i = .int .i64 k ∧ n = .int .i64 ((depL (inner.take k) : Nat) : Int)) (fun _ i _ => inner.length - (intOf i).toNat)
    case atStart => exact ⟨Fr.refl _ _, 0, Nat.zero_le _, rfl, by simp [depL]⟩
    case round =>
      obtain ⟨F2, k, hk, rfl, rfl⟩ := hrel
      by_cases hlt : k < inner.length
      · have HT := Lib.hid (depL_take inner k hlt)
        obtain ⟨b, off, rfl, hb, hbr, hc⟩ := hcell (by omega)
        obtain ⟨x, y, z, g0, g1, g2, gt⟩ := hc k hlt
        obtain ⟨th, A1, n1, c1, A2, n2, c2, rfl, rfl, rfl⟩ := gt.shape
        have F3 := F1.pure F2
        have g0' := F3.keep g0 (by simp)
        have g1' := F3.keep g1 (by simp)
        have g2' := F3.keep g2 (by simp)
        have hdd : (inner[k]).dep ≤ d := by have := depL_get inner k hlt; simp only [Tr.dep] at hd; omega
        have gt' := (gt.fr (F3.mono (r := r)))
        clear g0 g1 g2
        go_wp2_with fail
        refine (ih inner[k] _ _ r hdd (by omega) (gt'.fr ((Fr.refl _ _).alloc _))).mono ?_
        rintro e w2 ⟨rfl, F4⟩
        have F5 := (F2.alloc _).pure F4
        clear g0' g1' g2' F4
        go_wp2_with fail
        go_roundw
        case rel => exact ⟨F5, k + 1, by omega, by go_num, by rw [HT.out, ← max_if]⟩
        case measure => simp [intOf]; omega
      · obtain rfl : k = inner.length := by omega
        have hle : depL (inner.take inner.length) ≤ d := by rw [List.take_length]; exact hd'
        go_wp2
        go_ret
        exact ⟨ret_int (by simp [Tr.dep]), F1.pure F2⟩

theorem depth_any (d : Nat) : ∀ (t : Tr) (v : Value) (w : World) (r : Option Nat), t.dep ≤ d → d ≤ 1073741824 → TrR w r v t →
    Calls Tryz.prog 114 #[v] w fun e w' => e = .returned (.int .i64 (t.dep : Nat)) ∧ Fr none w w' := by
  induction d with
  | zero =>
    intro t v w r hd
    cases t
    simp [Tr.dep] at hd
  | succ d ih =>
    intro t v w r hd hs h
    obtain ⟨thr, nodes, inner⟩ := t
    obtain ⟨A, c, A', c', rfl, hthr, hn, hn2, hi2, hi3, hi4, hcell⟩ := h.open_
    go_enter Tryz.func114, Tryz.ntmps114
    go_wp2_with fail
    generalize hW : w.alloc _ = w1
    have F1 : Fr none w w1 := hW ▸ (Fr.refl _ _).alloc _
    have B1 : Hid (w1.heap[w.heap.size]? = some (.cells #[.int .i64 thr, .slice A nodes.length c, .slice A' inner.length c'] 31 (0, 0))) := by rw [← hW]; exact blk_new _ _
    clear hW
    have hd' : depL inner ≤ d := by simp only [Tr.dep] at hd; omega
    go_loopw [3, 9] (fun n i wr => Fr none w1 wr ∧ ∃ k : Nat, k ≤ inner.length ∧ i = .int .i64 k ∧ n = .int .i64 ((depL (inner.take k) : Nat) : Int)) (fun _ i _ => inner.length - (intOf i).toNat)
    case atStart => exact ⟨Fr.refl _ _, 0, Nat.zero_le _, rfl, by simp [depL]⟩
    case round =>
      obtain ⟨F2, k, hk, rfl, rfl⟩ := hrel
      by_cases hlt : k < inner.length
      · have HT := Lib.hid (depL_take inner k hlt)
        obtain ⟨b, off, rfl, hb, hbr, hc⟩ := hcell (by omega)
        obtain ⟨x, y, z, g0, g1, g2, gt⟩ := hc k hlt
        obtain ⟨th, A1, n1, c1, A2, n2, c2, rfl, rfl, rfl⟩ := gt.shape
        have F3 := F1.pure F2
        have g0' := F3.keep g0 (by simp)
        have g1' := F3.keep g1 (by simp)
        have g2' := F3.keep g2 (by simp)
        have hdd : (inner[k]).dep ≤ d := by have := depL_get inner k hlt; simp only [Tr.dep] at hd; omega
        have gt' := (gt.fr (F3.mono (r := r)))
        clear g0 g1 g2
        go_wp2_with fail
        refine (ih inner[k] _ _ r hdd (by omega) (gt'.fr ((Fr.refl _ _).alloc _))).mono ?_
        rintro e w2 ⟨rfl, F4⟩
        have F5 := (F2.alloc _).pure F4
        clear g0' g1' g2' F4
        go_wp2_with fail
        go_roundw
        case rel => exact ⟨F5, k + 1, by omega, by go_num, by rw [HT.out, ← max_if]⟩
        case measure => simp [intOf]; omega
      · obtain rfl : k = inner.length := by omega
        have hle : depL (inner.take inner.length) ≤ d := by rw [List.take_length]; exact hd'
        go_wp2
        go_ret
        exact ⟨ret_int (by simp [Tr.dep]), F1.pure F2⟩

end Go.Proofs.YtpdhckbiioobhaaGreatDoor

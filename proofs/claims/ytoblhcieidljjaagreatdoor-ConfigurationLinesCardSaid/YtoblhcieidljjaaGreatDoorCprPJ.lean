/- Plain: a configuration comes back from its text. -/
import Derived.Test.YtoblhcieidljjaaGreatDoorJG23
import Derived.Test.YtoblhcieidljjaaGreatDoorCutWJ
set_option linter.unusedSimpArgs false
set_option linter.unusedVariables false
namespace Go.Proofs.YtoblhcieidljjaaGreatDoor
open Go.RowKit

def No10 (x : List UInt8) : Prop := ∀ c ∈ x, c ≠ 10
theorem No10.app {a b : List UInt8} (h : No10 a) (k : No10 b) : No10 (a ++ b) := fun c hc => by
  rcases List.mem_append.1 hc with hc | hc
  · exact h c hc
  · exact k c hc
theorem itoa_10 {k : Int} (h0 : 0 ≤ k) : No10 (Lib.itoa k) := fun c hc e => by
  obtain ⟨n, rfl⟩ := Int.eq_ofNat_of_zero_le h0
  rw [Lib.itoa_nonneg] at hc
  have := dec_dg n c hc
  subst e
  exact absurd this (by decide)
theorem join_10 {sep : List UInt8} (hs : No10 sep) : ∀ l : List (List UInt8), (∀ x ∈ l, No10 x) → No10 (Lib.join l sep)
  | [], _ => by intro c hc; rw [Lib.join_nil] at hc; simp at hc
  | x :: r, h => by
    intro c hc
    rw [Lib.join_cons] at hc
    rcases List.mem_append.1 hc with hc | hc
    · exact h x (by simp) c hc
    · unfold Lib.joinTail at hc
      obtain ⟨y, hy, hc⟩ := List.mem_flatten.1 hc
      obtain ⟨z, hz, rfl⟩ := List.mem_map.1 hy
      rcases List.mem_append.1 hc with hc | hc
      · exact hs c hc
      · exact h z (by simp [hz]) c hc
mutual
theorem txT_10 : ∀ t : Tr, okT t → No10 (txT t)
  | .mk thr nodes inner, h => by
    simp only [okT] at h
    simp only [txT]
    refine ((No10.app (No10.app (itoa_10 h.1.1) (by intro c hc e; subst e; exact absurd hc (by decide))) (join_10 (by intro c hc e; subst e; exact absurd hc (by decide)) _ fun x hx => ?_)).app (by intro c hc e; subst e; exact absurd hc (by decide)))
    rcases List.mem_append.1 hx with hx | hx
    · simp only [ndW, List.mem_map] at hx
      obtain ⟨y, hy, rfl⟩ := hx
      exact itoa_10 (h.2.1 y hy).1
    · exact txL_10 inner h.2.2.2 x hx
theorem txL_10 : ∀ l : List Tr, okL l → ∀ x ∈ txL l, No10 x
  | [], _, x, hx => by simp [txL] at hx
  | t :: r, h, x, hx => by
    simp only [okL] at h
    simp only [txL, List.mem_cons] at hx
    rcases hx with rfl | hx
    · exact txT_10 t h.1
    · exact txL_10 r h.2 x hx
end
/-- Lines, joined. -/
def interL : List (List UInt8) → List UInt8
  | [] => []
  | [x] => x
  | x :: y :: r => x ++ 10 :: interL (y :: r)
theorem idxB_no : ∀ (a : List UInt8) (c : UInt8), (∀ x ∈ a, x ≠ c) → Lib.indexByte a c = -1
  | [], c, _ => rfl
  | b :: a, c, h => by
    have hb : (b == c) = false := by rw [beq_eq_false_iff_ne]; exact h b (by simp)
    have ih := idxB_no a c (fun x hx => h x (List.mem_cons_of_mem _ hx))
    simp [Lib.indexByte, hb, ih]
theorem idx_no {x : List UInt8} (h : No10 x) : Lib.indexB (bs x) nlB = -1 := by
  show Lib.index (bs x).data.toList [10] = -1
  rw [bs_list, Lib.index_one]
  exact idxB_no x 10 h
theorem idx_at {x r : List UInt8} (h : No10 x) : Lib.indexB (bs (x ++ 10 :: r)) nlB = (x.length : Nat) := by
  show Lib.index (bs (x ++ 10 :: r)).data.toList [10] = _
  rw [bs_list, Lib.index_one]
  exact idxB_at x r 10 h
theorem ext_bs (l : List UInt8) (a b : Nat) : (bs l).extract a b = bs ((l.drop a).take (b - a)) := by
  apply ByteArray.ext
  apply Array.ext'
  rw [bs_list]
  have := Lib.extract_toList (bs l) a b
  rw [ByteArray.toList_eq, bs_list] at this
  exact this
theorem split_inter : ∀ ls : List (List UInt8), ls ≠ [] → (∀ x ∈ ls, No10 x) → Lib.countB (bs (interL ls)) nlB + 1 = ls.length ∧ Lib.splitB nlB 0 (ls.length - 1) (bs (interL ls)) = ls.map bs
  | [], h, _ => absurd rfl h
  | [x], _, h => by
    have h0 := idx_no (h x (by simp))
    refine ⟨?_, ?_⟩
    · simp only [interL]
      rw [Lib.countB_miss _ _ h0]
      rfl
    · rfl
  | x :: y :: r, _, h => by
    obtain ⟨ih1, ih2⟩ := split_inter (y :: r) (by simp) (fun z hz => h z (by simp [hz]))
    have h0 := idx_at (r := interL (y :: r)) (h x (by simp))
    have hsz : nlB.size = 1 := rfl
    have hex : (bs (x ++ 10 :: interL (y :: r))).extract (x.length + nlB.size) (bs (x ++ 10 :: interL (y :: r))).size = bs (interL (y :: r)) := by
      rw [ext_bs, bs_size, hsz]
      congr 1
      rw [show x ++ 10 :: interL (y :: r) = (x ++ [10]) ++ interL (y :: r) by simp]
      rw [show x.length + 1 = (x ++ [10]).length by simp, List.drop_left, List.length_append, List.take_of_length_le (by omega)]
    refine ⟨?_, ?_⟩
    · simp only [interL]
      rw [Lib.countB_hit _ _ x.length (by decide) h0, hex]
      simp only [List.length_cons] at ih1 ⊢
      omega
    · simp only [interL]
      rw [show (x :: y :: r).length - 1 = (y :: r).length - 1 + 1 by simp, Lib.splitB_hit nlB 0 _ _ _ h0, hex, ih2, ext_bs]
      simp
theorem flat_inter : ∀ ls : List (List UInt8), ls ≠ [] → (ls.map (· ++ [10])).flatten = interL ls ++ [10]
  | [], h => absurd rfl h
  | [x], _ => by simp [interL]
  | x :: y :: r, _ => by
    have ih := flat_inter (y :: r) (by simp)
    rw [List.map_cons, List.flatten_cons, ih]
    simp [interL]
/-- A line, without its end. -/
def lineB (k : Nat) (m : Mb) : List UInt8 := begL k ++ (if m.dec then textT m.tr else [45])
theorem textL_flat (L : List Mb) : textL L = ((L.mapIdx lineB).map (· ++ [10])).flatten := by
  unfold textL
  congr 1
  refine List.ext_getElem (by simp) fun k h1 h2 => ?_
  simp only [List.getElem_mapIdx, List.getElem_map]
  rfl
theorem begL_10 (k : Nat) : No10 (begL k) := (itoa_10 (by omega)).app (by intro c hc e; subst e; exact absurd hc (by decide))
theorem body_10 {n : Nat} {m : Mb} (h : MbOk n m) : No10 (if m.dec then textT m.tr else [45]) := by
  cases hd : m.dec with
  | true =>
    have hv := (h.1 hd).1
    simp only [if_true]
    unfold textT
    rw [if_pos hv]
    exact txT_10 _ (valid_ok hv)
  | false => intro c hc e; subst e; simp at hc
theorem trimS (x : List UInt8) : Lib.trimSuffix (x ++ [10]) [10] = x := by
  unfold Lib.trimSuffix Lib.hasSuffix
  rw [if_pos (by simp)]
  simp
theorem linS_text {L : List Mb} (hL : L ≠ []) (h : ∀ m ∈ L, MbOk L.length m) : linS (textL L) = (L.mapIdx lineB).map bs := by
  have hne : L.mapIdx lineB ≠ [] := by simpa using hL
  have h10 : ∀ x ∈ L.mapIdx lineB, No10 x := fun x hx => by
    obtain ⟨k, hk, rfl⟩ := List.mem_mapIdx.1 hx
    exact (begL_10 k).app (body_10 (h _ (List.getElem_mem _)))
  unfold linS
  rw [textL_flat, flat_inter _ hne, trimS]
  obtain ⟨h1, h2⟩ := split_inter _ hne h10
  rw [show Lib.countB (bs (interL (L.mapIdx lineB))) nlB = (L.mapIdx lineB).length - 1 by omega]
  exact h2
theorem txT_ne (t : Tr) : txT t ≠ [45] := by
  obtain ⟨th, n, i⟩ := t
  intro e
  have := congrArg List.length e
  simp [txT] at this
  omega
theorem line_back {n k : Nat} {m : Mb} (hk : k < 10) (h : MbOk n m) : lineP k (lineB k m) = (m, 0) := by
  unfold lineP lineB
  have hp : Lib.hasPrefix (begL k ++ (if m.dec then textT m.tr else [45])) (begL k) = true := by unfold Lib.hasPrefix; simp
  have ht : Lib.trimPrefix (begL k ++ (if m.dec then textT m.tr else [45])) (begL k) = (if m.dec then textT m.tr else [45]) := by
    unfold Lib.trimPrefix
    rw [hp]
    simp
  rw [if_neg (by omega), if_pos hp, ht]
  obtain ⟨d, t⟩ := m
  cases d with
  | true =>
    have hv : validE t = 0 := (h.1 rfl).1
    simp only [if_true]
    have : textT t = txT t := by unfold textT; rw [if_pos hv]
    rw [this, if_neg (txT_ne t), parse_ok t (valid_ok hv) hv _ (BB.refl _) (by have := valid_len hv; omega)]
  | false =>
    have := h.2 rfl
    simp only at this
    subst this
    rfl
/-- A right configuration comes back from its text. -/
theorem parse_text {L : List Mb} (hL : L ≠ []) (hn : L.length ≤ 10) (h : ∀ m ∈ L, MbOk L.length m) (hl : (textL L).length ≤ 6000) : parseC (textL L) = (L, 0, 0) := by
  have hls := linS_text hL h
  have hget : ∀ k (hk : k < L.length), lineP k (bs (lineB k L[k])).data.toList = (L[k], 0) := fun k hk => by
    rw [bs_list]
    exact line_back (by omega) (h _ (List.getElem_mem _))
  have he : errsOf (linS (textL L)) = L.map (fun _ => (0 : Int)) := by
    rw [hls]
    unfold errsOf
    refine List.ext_getElem (by simp) fun k h1 h2 => ?_
    simp only [List.getElem_mapIdx, List.getElem_map]
    rw [hget k (by simpa using h1)]
  have hm : mbsOf (linS (textL L)) = L := by
    rw [hls]
    unfold mbsOf
    refine List.ext_getElem (by simp) fun k h1 h2 => ?_
    simp only [List.getElem_mapIdx, List.getElem_map]
    rw [hget k (by simpa using h1)]
  have hne : textL L ≠ [] := by
    rw [textL_flat, flat_inter _ (by simpa using hL)]
    simp
  unfold parseC
  rw [if_neg (by omega), if_neg hne, he, hm, fstE_miss _ _ (by simp)]
  simp only
  rw [fstE_miss _ _ (fun x hx => by
    obtain ⟨m, hm', rfl⟩ := List.mem_map.1 hx
    exact memE_ok (h m hm'))]
end Go.Proofs.YtoblhcieidljjaaGreatDoor

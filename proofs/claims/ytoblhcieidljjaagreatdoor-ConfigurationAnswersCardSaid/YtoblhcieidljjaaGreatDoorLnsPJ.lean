/- Some texts of this claim, joined. -/
import Derived.Test.YtoblhcieidljjaaGreatDoorJG23
import Derived.Test.YtoblhcieidljjaaGreatDoorCutWJ
import Derived.Test.YtoblhcieidljjaaGreatDoorProg

set_option linter.unusedSimpArgs false
set_option linter.unusedVariables false
/- Plain: a configuration comes back from its text. -/
namespace Go.Proofs.YtoblhcieidljjaaGreatDoor
open Go.RowKit

def No10 (x : List UInt8) : Prop := ∀ c ∈ x, c ≠ 10
theorem No10.app {a b : List UInt8} (h : No10 a) (k : No10 b) : No10 (a ++ b) := fun c hc => by
  rcases List.mem_append.1 hc with hc | hc
  · exact h c hc
  · exact k c hc
theorem itoa_10 {k : Int} (h0 : 0 ≤ k) : No10 (Lib.itoa k) := fun c hc e => by
  obtain ⟨n, rfl⟩ := Int.eq_ofNat_of_zero_le h0
  rw [Lib.itoa_nonneg] at hc
  have := dec_dg n c hc
  subst e
  exact absurd this (by decide)
theorem join_10 {sep : List UInt8} (hs : No10 sep) : ∀ l : List (List UInt8), (∀ x ∈ l, No10 x) → No10 (Lib.join l sep)
  | [], _ => by intro c hc; rw [Lib.join_nil] at hc; simp at hc
  | x :: r, h => by
    intro c hc
    rw [Lib.join_cons] at hc
    rcases List.mem_append.1 hc with hc | hc
    · exact h x (by simp) c hc
    · unfold Lib.joinTail at hc
      obtain ⟨y, hy, hc⟩ := List.mem_flatten.1 hc
      obtain ⟨z, hz, rfl⟩ := List.mem_map.1 hy
      rcases List.mem_append.1 hc with hc | hc
      · exact hs c hc
      · exact h z (by simp [hz]) c hc
mutual
theorem txT_10 : ∀ t : Tr, okT t → No10 (txT t)
  | .mk thr nodes inner, h => by
    simp only [okT] at h
    simp only [txT]
    refine ((No10.app (No10.app (itoa_10 h.1.1) (by intro c hc e; subst e; exact absurd hc (by decide))) (join_10 (by intro c hc e; subst e; exact absurd hc (by decide)) _ fun x hx => ?_)).app (by intro c hc e; subst e; exact absurd hc (by decide)))
    rcases List.mem_append.1 hx with hx | hx
    · simp only [ndW, List.mem_map] at hx
      obtain ⟨y, hy, rfl⟩ := hx
      exact itoa_10 (h.2.1 y hy).1
    · exact txL_10 inner h.2.2.2 x hx
theorem txL_10 : ∀ l : List Tr, okL l → ∀ x ∈ txL l, No10 x
  | [], _, x, hx => by simp [txL] at hx
  | t :: r, h, x, hx => by
    simp only [okL] at h
    simp only [txL, List.mem_cons] at hx
    rcases hx with rfl | hx
    · exact txT_10 t h.1
    · exact txL_10 r h.2 x hx
end
/-- Lines, joined. -/
def interL : List (List UInt8) → List UInt8
  | [] => []
  | [x] => x
  | x :: y :: r => x ++ 10 :: interL (y :: r)
theorem idxB_no : ∀ (a : List UInt8) (c : UInt8), (∀ x ∈ a, x ≠ c) → Lib.indexByte a c = -1
  | [], c, _ => rfl
  | b :: a, c, h => by
    have hb : (b == c) = false := by rw [beq_eq_false_iff_ne]; exact h b (by simp)
    have ih := idxB_no a c (fun x hx => h x (List.mem_cons_of_mem _ hx))
    simp [Lib.indexByte, hb, ih]
theorem idx_no {x : List UInt8} (h : No10 x) : Lib.indexB (bs x) nlB = -1 := by
  show Lib.index (bs x).data.toList [10] = -1
  rw [bs_list, Lib.index_one]
  exact idxB_no x 10 h
theorem idx_at {x r : List UInt8} (h : No10 x) : Lib.indexB (bs (x ++ 10 :: r)) nlB = (x.length : Nat) := by
  show Lib.index (bs (x ++ 10 :: r)).data.toList [10] = _
  rw [bs_list, Lib.index_one]
  exact idxB_at x r 10 h
theorem ext_bs (l : List UInt8) (a b : Nat) : (bs l).extract a b = bs ((l.drop a).take (b - a)) := by
  apply ByteArray.ext
  apply Array.ext'
  rw [bs_list]
  have := Lib.extract_toList (bs l) a b
  rw [ByteArray.toList_eq, bs_list] at this
  exact this
theorem split_inter : ∀ ls : List (List UInt8), ls ≠ [] → (∀ x ∈ ls, No10 x) → Lib.countB (bs (interL ls)) nlB + 1 = ls.length ∧ Lib.splitB nlB 0 (ls.length - 1) (bs (interL ls)) = ls.map bs
  | [], h, _ => absurd rfl h
  | [x], _, h => by
    have h0 := idx_no (h x (by simp))
    refine ⟨?_, ?_⟩
    · simp only [interL]
      rw [Lib.countB_miss _ _ h0]
      rfl
    · rfl
  | x :: y :: r, _, h => by
    obtain ⟨ih1, ih2⟩ := split_inter (y :: r) (by simp) (fun z hz => h z (by simp [hz]))
    have h0 := idx_at (r := interL (y :: r)) (h x (by simp))
    have hsz : nlB.size = 1 := rfl
    have hex : (bs (x ++ 10 :: interL (y :: r))).extract (x.length + nlB.size) (bs (x ++ 10 :: interL (y :: r))).size = bs (interL (y :: r)) := by
      rw [ext_bs, bs_size, hsz]
      congr 1
      rw [show x ++ 10 :: interL (y :: r) = (x ++ [10]) ++ interL (y :: r) by simp]
      rw [show x.length + 1 = (x ++ [10]).length by simp, List.drop_left, List.length_append, List.take_of_length_le (by omega)]
    refine ⟨?_, ?_⟩
    · simp only [interL]
      rw [Lib.countB_hit _ _ x.length (by decide) h0, hex]
      simp only [List.length_cons] at ih1 ⊢
      omega
    · simp only [interL]
      rw [show (x :: y :: r).length - 1 = (y :: r).length - 1 + 1 by simp, Lib.splitB_hit nlB 0 _ _ _ h0, hex, ih2, ext_bs]
      simp
theorem flat_inter : ∀ ls : List (List UInt8), ls ≠ [] → (ls.map (· ++ [10])).flatten = interL ls ++ [10]
  | [], h => absurd rfl h
  | [x], _ => by simp [interL]
  | x :: y :: r, _ => by
    have ih := flat_inter (y :: r) (by simp)
    rw [List.map_cons, List.flatten_cons, ih]
    simp [interL]
/-- A line, without its end. -/
def lineB (k : Nat) (m : Mb) : List UInt8 := begL k ++ (if m.dec then textT m.tr else [45])
theorem textL_flat (L : List Mb) : textL L = ((L.mapIdx lineB).map (· ++ [10])).flatten := by
  unfold textL
  congr 1
  refine List.ext_getElem (by simp) fun k h1 h2 => ?_
  simp only [List.getElem_mapIdx, List.getElem_map]
  rfl
theorem begL_10 (k : Nat) : No10 (begL k) := (itoa_10 (by omega)).app (by intro c hc e; subst e; exact absurd hc (by decide))
theorem body_10 {n : Nat} {m : Mb} (h : MbOk n m) : No10 (if m.dec then textT m.tr else [45]) := by
  cases hd : m.dec with
  | true =>
    have hv := (h.1 hd).1
    simp only [if_true]
    unfold textT
    rw [if_pos hv]
    exact txT_10 _ (valid_ok hv)
  | false => intro c hc e; subst e; simp at hc
theorem trimS (x : List UInt8) : Lib.trimSuffix (x ++ [10]) [10] = x := by
  unfold Lib.trimSuffix Lib.hasSuffix
  rw [if_pos (by simp)]
  simp
theorem linS_text {L : List Mb} (hL : L ≠ []) (h : ∀ m ∈ L, MbOk L.length m) : linS (textL L) = (L.mapIdx lineB).map bs := by
  have hne : L.mapIdx lineB ≠ [] := by simpa using hL
  have h10 : ∀ x ∈ L.mapIdx lineB, No10 x := fun x hx => by
    obtain ⟨k, hk, rfl⟩ := List.mem_mapIdx.1 hx
    exact (begL_10 k).app (body_10 (h _ (List.getElem_mem _)))
  unfold linS
  rw [textL_flat, flat_inter _ hne, trimS]
  obtain ⟨h1, h2⟩ := split_inter _ hne h10
  rw [show Lib.countB (bs (interL (L.mapIdx lineB))) nlB = (L.mapIdx lineB).length - 1 by omega]
  exact h2
theorem txT_ne (t : Tr) : txT t ≠ [45] := by
  obtain ⟨th, n, i⟩ := t
  intro e
  have := congrArg List.length e
  simp [txT] at this
  omega
theorem line_back {n k : Nat} {m : Mb} (hk : k < 10) (h : MbOk n m) : lineP k (lineB k m) = (m, 0) := by
  unfold lineP lineB
  have hp : Lib.hasPrefix (begL k ++ (if m.dec then textT m.tr else [45])) (begL k) = true := by unfold Lib.hasPrefix; simp
  have ht : Lib.trimPrefix (begL k ++ (if m.dec then textT m.tr else [45])) (begL k) = (if m.dec then textT m.tr else [45]) := by
    unfold Lib.trimPrefix
    rw [hp]
    simp
  rw [if_neg (by omega), if_pos hp, ht]
  obtain ⟨d, t⟩ := m
  cases d with
  | true =>
    have hv : validE t = 0 := (h.1 rfl).1
    simp only [if_true]
    have : textT t = txT t := by unfold textT; rw [if_pos hv]
    rw [this, if_neg (txT_ne t), parse_ok t (valid_ok hv) hv _ (BB.refl _) (by have := valid_len hv; omega)]
  | false =>
    have := h.2 rfl
    simp only at this
    subst this
    rfl
/-- A right configuration comes back from its text. -/
theorem parse_text {L : List Mb} (hL : L ≠ []) (hn : L.length ≤ 10) (h : ∀ m ∈ L, MbOk L.length m) (hl : (textL L).length ≤ 6000) : parseC (textL L) = (L, 0, 0) := by
  have hls := linS_text hL h
  have hget : ∀ k (hk : k < L.length), lineP k (bs (lineB k L[k])).data.toList = (L[k], 0) := fun k hk => by
    rw [bs_list]
    exact line_back (by omega) (h _ (List.getElem_mem _))
  have he : errsOf (linS (textL L)) = L.map (fun _ => (0 : Int)) := by
    rw [hls]
    unfold errsOf
    refine List.ext_getElem (by simp) fun k h1 h2 => ?_
    simp only [List.getElem_mapIdx, List.getElem_map]
    rw [hget k (by simpa using h1)]
  have hm : mbsOf (linS (textL L)) = L := by
    rw [hls]
    unfold mbsOf
    refine List.ext_getElem (by simp) fun k h1 h2 => ?_
    simp only [List.getElem_mapIdx, List.getElem_map]
    rw [hget k (by simpa using h1)]
  have hne : textL L ≠ [] := by
    rw [textL_flat, flat_inter _ (by simpa using hL)]
    simp
  unfold parseC
  rw [if_neg (by omega), if_neg hne, he, hm, fstE_miss _ _ (by simp)]
  simp only
  rw [fstE_miss _ _ (fun x hx => by
    obtain ⟨m, hm', rfl⟩ := List.mem_map.1 hx
    exact memE_ok (h m hm'))]
end Go.Proofs.YtoblhcieidljjaaGreatDoor

/- Plain: the reference's lines of a text are the program's. -/
namespace Go.Proofs.YtoblhcieidljjaaGreatDoor
open Go.RowKit

/-- The lines, read from the front; a last empty one is none. -/
def linGo : List UInt8 → List UInt8 → List (List UInt8)
  | cur, [] => if cur = [] then [] else [cur]
  | cur, c :: r => if c = 10 then cur :: linGo [] r else linGo (cur ++ [c]) r
/-- The pieces between line ends. -/
def pcs : List UInt8 → List UInt8 → List (List UInt8)
  | cur, [] => [cur]
  | cur, c :: r => if c = 10 then cur :: pcs [] r else pcs (cur ++ [c]) r
theorem lin_end : ∀ (x cur : List UInt8), linGo cur (x ++ [10]) = pcs cur x
  | [], cur => by simp [linGo, pcs]
  | c :: r, cur => by
    simp only [List.cons_append, linGo, pcs, lin_end r]
theorem lin_mid : ∀ (x cur : List UInt8) (c : UInt8), c ≠ 10 → linGo cur (x ++ [c]) = pcs cur (x ++ [c])
  | [], cur, c, h => by simp [linGo, pcs, h]
  | d :: r, cur, c, h => by
    simp only [List.cons_append, linGo, pcs]
    rw [lin_mid r [] c h, lin_mid r (cur ++ [d]) c h]
theorem pcs_ne : ∀ (x cur : List UInt8), pcs cur x ≠ []
  | [], cur => by simp [pcs]
  | c :: r, cur => by
    simp only [pcs]
    split
    · simp
    · exact pcs_ne r _
theorem pcs_inter : ∀ (x cur : List UInt8), interL (pcs cur x) = cur ++ x
  | [], cur => by simp [pcs, interL]
  | c :: r, cur => by
    simp only [pcs]
    split
    · rename_i h
      have ih := pcs_inter r []
      cases hp : pcs [] r with
      | nil => exact absurd hp (pcs_ne _ _)
      | cons y l =>
        rw [hp] at ih
        simp only [interL, ih, h, List.nil_append]
    · rw [pcs_inter r]; simp
theorem pcs_10 : ∀ (x cur : List UInt8), No10 cur → ∀ p ∈ pcs cur x, No10 p
  | [], cur, h, p, hp => by simp only [pcs, List.mem_singleton] at hp; rw [hp]; exact h
  | c :: r, cur, h, p, hp => by
    simp only [pcs] at hp
    split at hp
    · rcases List.mem_cons.1 hp with rfl | hp
      · exact h
      · exact pcs_10 r [] (by intro c hc; cases hc) p hp
    · rename_i hc
      exact pcs_10 r _ (h.app (by intro d hd; rw [List.mem_singleton.1 hd]; exact hc)) p hp
theorem lin_eq {s : List UInt8} (hs : s ≠ []) : linS s = (linGo [] s).map bs := by
  obtain ⟨x, c, rfl⟩ : ∃ x c, s = x ++ [c] := ⟨s.dropLast, s.getLast hs, (List.dropLast_concat_getLast hs).symm⟩
  have key : ∀ y, Lib.trimSuffix (x ++ [c]) [10] = y → linS (x ++ [c]) = (pcs [] y).map bs := by
    intro y hy
    unfold linS
    rw [hy]
    obtain ⟨h1, h2⟩ := split_inter (pcs [] y) (pcs_ne _ _) (pcs_10 _ _ (by intro c hc; cases hc))
    rw [pcs_inter, List.nil_append] at h1 h2
    rw [show Lib.countB (bs y) nlB = (pcs [] y).length - 1 by omega]
    exact h2
  by_cases hc : c = 10
  · subst hc
    rw [key x (trimS x), lin_end]
  · rw [key (x ++ [c]) ?_, lin_mid _ _ _ hc]
    unfold Lib.trimSuffix Lib.hasSuffix
    rw [if_neg]
    intro h
    obtain ⟨t, ht⟩ := List.isSuffixOf_iff_suffix.1 h
    have := congrArg List.getLast? ht
    simp at this
    exact hc this.symm
/-- Parse, by the reference's lines. -/
theorem parseC_R {s : List UInt8} (h : s.length ≤ 6000) : parseC s = match fstE 0 (errsOf ((linGo [] s).map bs)) with
    | some (k, e) => ([], k, e)
    | none => match fstE 0 ((mbsOf ((linGo [] s).map bs)).map (memE (mbsOf ((linGo [] s).map bs)).length)) with
      | some (k, e) => ([], k, e)
      | none => (mbsOf ((linGo [] s).map bs), 0, 0) := by
  unfold parseC
  rw [if_neg (by omega)]
  by_cases hs : s = []
  · subst hs; rfl
  · rw [if_neg hs, lin_eq hs]
    rfl
theorem lin_hit (s : List UInt8) (b j : Nat) (hj : j < s.length) (h : s[j] = 10) : linGo ((s.drop b).take (j - b)) (s.drop j) = ((s.drop b).take (j - b)) :: linGo ((s.drop (j + 1)).take (j + 1 - (j + 1))) (s.drop (j + 1)) := by
  rw [List.drop_eq_getElem_cons hj]
  simp only [linGo, h, if_true, Nat.sub_self, List.take_zero]
theorem cut_more (s : List UInt8) (b j : Nat) (hb : b ≤ j) (hj : j < s.length) : (s.drop b).take (j + 1 - b) = (s.drop b).take (j - b) ++ [s[j]] := by
  rw [show j + 1 - b = j - b + 1 by omega, List.take_succ_eq_append_getElem (by simp; omega)]
  congr 2
  simp only [List.getElem_drop]
  congr 1
  omega
theorem lin_go (s : List UInt8) (b j : Nat) (hb : b ≤ j) (hj : j < s.length) (h : s[j] ≠ 10) : linGo ((s.drop b).take (j - b)) (s.drop j) = linGo ((s.drop b).take (j + 1 - b)) (s.drop (j + 1)) := by
  rw [cut_more s b j hb hj, List.drop_eq_getElem_cons hj]
  simp only [linGo, if_neg h]
theorem lin_last (s : List UInt8) (b : Nat) : linGo ((s.drop b).take (s.length - b)) (s.drop s.length) = if s.length ≤ b then [] else [s.drop b] := by
  rw [List.take_of_length_le (by simp), List.drop_length]
  simp only [linGo]
  by_cases h : s.length ≤ b
  · rw [if_pos h, if_pos (List.drop_eq_nil_iff.2 h)]
  · rw [if_neg h, if_neg (fun e => h (List.drop_eq_nil_iff.1 e))]
theorem lin_le : ∀ (x cur : List UInt8), ∀ p ∈ linGo cur x, p.length ≤ cur.length + x.length
  | [], cur, p, hp => by
    simp only [linGo] at hp
    split at hp
    · cases hp
    · rw [List.mem_singleton.1 hp]; simp
  | c :: r, cur, p, hp => by
    simp only [linGo] at hp
    split at hp
    · rcases List.mem_cons.1 hp with rfl | hp
      · omega
      · have := lin_le r [] p hp; simp only [List.length_nil, List.length_cons] at this ⊢; omega
    · have := lin_le r _ p hp; simp only [List.length_append, List.length_cons, List.length_nil] at this ⊢; omega
theorem lin_cnt : ∀ (x cur : List UInt8), (linGo cur x).length ≤ x.length + 1
  | [], cur => by simp only [linGo]; split <;> simp
  | c :: r, cur => by
    simp only [linGo]
    split
    · have := lin_cnt r []; simp only [List.length_cons]; omega
    · have := lin_cnt r (cur ++ [c]); simp only [List.length_cons]; omega
theorem pre_iff (X B : ByteArray) : ((X.extract 0 B.size).toList == B.toList) = Lib.hasPrefix X.data.toList B.data.toList := by
  rw [Lib.extract_toList, ByteArray.toList_eq, List.drop_zero, Nat.sub_zero, size_list]
  try rw [ByteArray.toList_eq]
  unfold Lib.hasPrefix
  rw [Bool.eq_iff_iff, beq_iff_eq, List.isPrefixOf_iff_prefix, List.prefix_iff_eq_take]
  exact eq_comm
end Go.Proofs.YtoblhcieidljjaaGreatDoor

/- Some texts of this claim, joined: contracts of the functions that it reaches, and plain laws. -/
import Derived.Test.YtpdhckbiioobhaaGreatProg
import Derived.Test.YtpdhckbiioobhaaGreatShelf
import Derived.Lib.ItoaNum
import Derived.Lib.Join
import Derived.Test.YtpdhckbiioobhaaGreatJS5
import Derived.Test.YtpdhckbiioobhaaGreatJS3
import Derived.Test.YtpdhckbiioobhaaGreatJS6
import Derived.Test.YtpdhckbiioobhaaGreatJS2

set_option linter.unusedSimpArgs false
set_option linter.unusedVariables false
/- Walks: nodeset.Nodes, Text. -/
namespace Go.Proofs.YtpdhckbiioobhaaGreat
open Go.RowKit

/-- The nodes below k of a set. -/
def nodesK (s : Int) (k : Nat) : List Int := (ints k).filter (hasB s)
theorem nodesK_succ (s : Int) (k : Nat) : nodesK s (k + 1) = nodesK s k ++ (if hasB s k then [(k : Int)] else []) := by
  simp [nodesK, ints_succ, List.filter_append, List.filter_cons]
theorem nodesK_len (s : Int) (k : Nat) : (nodesK s k).length ≤ k := by
  have h := List.length_filter_le (hasB s) (ints k)
  rw [ints_len] at h
  exact h
theorem nodesK_bd (s : Int) (k : Nat) : ∀ x ∈ nodesK s k, 0 ≤ x ∧ x < k := by
  intro x hx
  have := (List.mem_filter.1 hx).1
  simp only [ints, List.mem_map, List.mem_range] at this
  obtain ⟨a, ha, rfl⟩ := this
  exact ⟨Int.natCast_nonneg a, Int.ofNat_lt.2 ha⟩

set_option maxRecDepth 100000 in
theorem nodes_any (s : Int) (w : World) : Calls Tryz.prog 31 #[.int .i64 s] w fun e w' =>
    ∃ A c, e = .returned (.slice A (nodesK s 10).length c) ∧ Fr none w w' ∧ w'.ownsRow w.heap.size 3 1 (.slice A (nodesK s 10).length c) (nodesK s 10).length ((nodesK s 10).map (Value.int .i64)) := by
  go_enter Tryz.func31, Tryz.ntmps31
  go_wp2_with fail
  go_loopw [3, 5] (fun v i wr => ∃ (j : Nat) (l : List Int) (A : Option Addr) (c : Nat), j ≤ 10 ∧ i = .int .i64 j ∧ l = nodesK s j ∧ v = .slice A l.length c ∧ Fr none w wr ∧ wr.ownsRow w.heap.size 3 1 (.slice A l.length c) l.length (l.map (Value.int .i64))) (fun _ i _ => 10 - (intOf i).toNat)
  case atStart => exact ⟨0, [], none, 0, Nat.zero_le _, rfl, rfl, rfl, Fr.refl _ _, World.ownsRow_nil _ _ _ _⟩
  case round =>
    obtain ⟨j, l, A, c, hj, rfl, hl, rfl, F, own⟩ := hrel
    have hz := F.size
    have hlen : l.length ≤ 10 := by rw [hl]; have := nodesK_len s j; omega
    have HL := Lib.hid hl
    clear hl
    by_cases hlt : j < 10
    · cases hb : hasB s j with
      | true =>
        have HB := Lib.hid hb
        clear hb
        go_wp2_with (first | (go_at_call 64; refine (has_any _ _ _).mono ?_; rintro e w' ⟨rfl, rfl⟩; rw [HB.out]) | (at_builtin; refine app_lit eiInt rfl _ _ rfl w.heap.size A l.length c _ rfl own 1 [.int .i64 j] _ _ rfl (by simp) rfl (by simp [Value.oneCell']) (by omega) (by unfold maxLen; omega) (by omega) ?_; intro A' c' w' own' F' bl'))
        have og := own_blk_ge own
        go_roundw
        case rel => exact ⟨j + 1, l ++ [(j : Int)], A', c', by omega, by go_num, by rw [nodesK_succ, HB.out, HL.out]; rfl, by simp, F.own F' og, by simpa using own'⟩
        case measure => simp [intOf]; omega
      | false =>
        have HB := Lib.hid hb
        clear hb
        go_wp2_with (go_at_call 64; refine (has_any _ _ _).mono ?_; rintro e w' ⟨rfl, rfl⟩; rw [HB.out])
        go_roundw
        case rel => exact ⟨j + 1, l, A, c, by omega, by go_num, by rw [nodesK_succ, HB.out, HL.out]; simp, rfl, F, own⟩
        case measure => simp [intOf]; omega
    · obtain rfl : j = 10 := by omega
      go_wp2_with fail
      go_ret
      rw [← HL.out]
      exact ⟨A, c, rfl, F, own⟩

/-- The words of some nodes. -/
def word (k : Int) : ByteArray := ⟨(Lib.decDigits k.toNat).toArray⟩
def wordsOf (l : List Int) : List ByteArray := l.map word
def joinB (l : List ByteArray) (sep : List UInt8) : List UInt8 := Lib.join (l.map (·.data.toList)) sep
def textS (s : Int) : ByteArray := if validB s then ⟨([123] ++ joinB (wordsOf (nodesK s 10)) [32] ++ [125]).toArray⟩ else ⟨#[63]⟩
theorem word_len (k : Int) (h0 : 0 ≤ k) (h1 : k < 10) : (word k).data.toList.length = 1 := by
  unfold word Lib.decDigits
  rw [dif_pos (by omega)]
  rfl
theorem lens_le (c : Nat) : ∀ l : List (List UInt8), (∀ x ∈ l, x.length ≤ c) → Lib.lens l ≤ c * l.length
  | [], _ => by simp [Lib.lens]
  | x :: r, h => by
    have h1 := h x (by simp)
    have h2 := lens_le c r (fun y hy => h y (by simp [hy]))
    simp only [Lib.lens, List.length_cons, Nat.mul_add, List.map_cons, List.sum_cons] at *
    omega
theorem joinB_len (c : Nat) (l : List ByteArray) (sep : List UInt8) (h : ∀ x ∈ l, x.data.toList.length ≤ c) : (joinB l sep).length ≤ sep.length * l.length + c * l.length := by
  unfold joinB
  cases l with
  | nil => simp [Lib.join]
  | cons x r =>
    have h2 := lens_le c ((x :: r).map (·.data.toList)) (fun y hy => by
      obtain ⟨z, hz, rfl⟩ := List.mem_map.1 hy
      exact h z hz)
    rw [List.map_cons, Lib.join_length, ← List.map_cons (f := fun x : ByteArray => x.data.toList)]
    simp only [List.length_map, List.length_cons] at *
    have : sep.length * r.length ≤ sep.length * (r.length + 1) := Nat.mul_le_mul_left _ (by omega)
    omega
theorem words_len (l : List Int) (h : ∀ x ∈ l, 0 ≤ x ∧ x < 10) : ∀ x ∈ wordsOf l, x.data.toList.length ≤ 1 := by
  intro x hx
  obtain ⟨k, hk, rfl⟩ := List.mem_map.1 hx
  have := h k hk
  exact Nat.le_of_eq (word_len k this.1 this.2)
theorem ret_str {a b : ByteArray} (h : a = b) : Ending.returned (.string a) = .returned (.string b) := by rw [h]
end Go.Proofs.YtpdhckbiioobhaaGreat

/- Walks: the reference's Nodes. -/
namespace Go.Proofs.YtpdhckbiioobhaaGreat
open Go.RowKit

set_option maxRecDepth 100000 in
theorem rnodes_any (s : Int) (w : World) : Calls Tryz.prog 53 #[.int .i64 s] w fun e w' =>
    ∃ A c, e = .returned (.slice A (nodesK s 10).length c) ∧ Fr none w w' ∧ w'.ownsRow w.heap.size 3 1 (.slice A (nodesK s 10).length c) (nodesK s 10).length ((nodesK s 10).map (Value.int .i64)) := by
  go_enter Tryz.func53, Tryz.ntmps53
  go_wp2_with fail
  go_loopw [3, 4] (fun v i wr => ∃ (j : Nat) (l : List Int) (A : Option Addr) (c : Nat), j ≤ 10 ∧ i = .int .i64 j ∧ l = nodesK s j ∧ v = .slice A l.length c ∧ Fr none w wr ∧ wr.ownsRow w.heap.size 3 1 (.slice A l.length c) l.length (l.map (Value.int .i64))) (fun _ i _ => 10 - (intOf i).toNat)
  case atStart => exact ⟨0, [], none, 0, Nat.zero_le _, rfl, rfl, rfl, Fr.refl _ _, World.ownsRow_nil _ _ _ _⟩
  case round =>
    obtain ⟨j, l, A, c, hj, rfl, hl, rfl, F, own⟩ := hrel
    have hz := F.size
    have hlen : l.length ≤ 10 := by rw [hl]; have := nodesK_len s j; omega
    have HL := Lib.hid hl
    clear hl
    by_cases hlt : j < 10
    · cases hb : hasB s j with
      | true =>
        have HB := Lib.hid hb
        clear hb
        go_wp2_with (first | (go_at_call 75; refine (rhas_any _ _ _).mono ?_; rintro e w' ⟨rfl, rfl⟩; rw [HB.out]) | (at_builtin; refine app_lit eiInt rfl _ _ rfl w.heap.size A l.length c _ rfl own 1 [.int .i64 j] _ _ rfl (by simp) rfl (by simp [Value.oneCell']) (by omega) (by unfold maxLen; omega) (by omega) ?_; intro A' c' w' own' F' bl'))
        have og := own_blk_ge own
        go_roundw
        case rel => exact ⟨j + 1, l ++ [(j : Int)], A', c', by omega, by go_num, by rw [nodesK_succ, HB.out, HL.out]; rfl, by simp, F.own F' og, by simpa using own'⟩
        case measure => simp [intOf]; omega
      | false =>
        have HB := Lib.hid hb
        clear hb
        go_wp2_with (go_at_call 75; refine (rhas_any _ _ _).mono ?_; rintro e w' ⟨rfl, rfl⟩; rw [HB.out])
        go_roundw
        case rel => exact ⟨j + 1, l, A, c, by omega, by go_num, by rw [nodesK_succ, HB.out, HL.out]; simp, rfl, F, own⟩
        case measure => simp [intOf]; omega
    · obtain rfl : j = 10 := by omega
      go_wp2_with fail
      go_ret
      rw [← HL.out]
      exact ⟨A, c, rfl, F, own⟩
end Go.Proofs.YtpdhckbiioobhaaGreat

/- Plain: the trust of some sets: it is satisfied by what has one of them as a subset; its slices. -/
namespace Go.Proofs.YtpdhckbiioobhaaGreat
open Go.RowKit

/-- The trust of a set, and of some sets. -/
def setT (s : Int) : Tr := .mk (sizS s) (nodesK s 10) []
def ofT (l : List Int) : Tr := .mk 1 [] (l.map setT)
theorem nodesK_pop {a : Nat} (ha : a ≤ 1023) : ∀ k, k ≤ 10 → (nodesK (a : Int) k).length = popB a k
  | 0, _ => by simp [nodesK, ints, popB]
  | k + 1, hk => by
    rw [nodesK_succ, List.length_append, nodesK_pop ha k (by omega)]
    have e : hasB (a : Int) (k : Int) = a.testBit k := by
      rw [hasB_at ha]
      simp; omega
    rw [e]
    simp only [popB]
    split <;> simp
theorem sizS_nat {a : Nat} (ha : a ≤ 1023) : sizS (a : Int) = popB a 10 := by
  unfold sizS
  rw [if_pos (nat_validB ha)]
  simp
theorem mem_nodesK {a : Nat} (ha : a ≤ 1023) (k : Int) : k ∈ nodesK (a : Int) 10 ↔ ∃ i : Nat, k = i ∧ a.testBit i = true := by
  unfold nodesK
  rw [List.mem_filter, mem_ints]
  constructor
  · rintro ⟨⟨j, hj, rfl⟩, h⟩
    rw [hasB_at ha] at h
    simp only [Bool.and_eq_true] at h
    exact ⟨j, rfl, by simpa using h.2⟩
  · rintro ⟨i, rfl, h⟩
    have := bit_lt10 ha h
    refine ⟨⟨i, by omega, rfl⟩, ?_⟩
    rw [hasB_at ha]
    simp [h]; omega
theorem nodesK_nodup (s : Int) (k : Nat) : (nodesK s k).Nodup := by
  unfold nodesK ints
  refine List.Pairwise.filter _ ?_
  rw [List.pairwise_map]
  exact (List.nodup_range (n := k)).imp fun h e => h (by have := Int.ofNat.inj e; exact this)
/-- A set satisfies the trust of a set exactly if that one is a subset. -/
theorem sat_set {a z : Nat} (ha : a ≤ 1023) (hz : z ≤ 1023) : sat a (setT z) = true ↔ Sb z a := by
  unfold setT
  rw [sat_mk (nat_validB ha), sizS_nat hz, decide_eq_true_eq]
  have e : cntI (a : Int) [] = 0 := by simp [cntI]
  rw [e, ← nodesK_pop hz 10 (Nat.le_refl _)]
  have hc : ((nodesK (z : Int) 10).length : Int) ≤ ((cntN a (nodesK z 10) + 0 : Nat) : Int) ↔ (∀ k ∈ nodesK (z : Int) 10, hasB a k = true) := by
    unfold cntN
    have := List.countP_le_length (p := hasB (a : Int)) (l := nodesK (z : Int) 10)
    rw [← List.countP_eq_length]
    omega
  rw [hc]
  constructor
  · intro h i hi
    have := h (i : Int) ((mem_nodesK hz _).2 ⟨i, rfl, hi⟩)
    rw [hasB_at ha] at this
    simp only [Bool.and_eq_true] at this
    simpa using this.2
  · intro h k hk
    obtain ⟨i, rfl, hi⟩ := (mem_nodesK hz k).1 hk
    have h1 := h i hi
    have := bit_lt10 ha h1
    rw [hasB_at ha]
    simp [h1]; omega
theorem sat_of {a : Nat} (ha : a ≤ 1023) {l : List Int} (hl : ∀ x ∈ l, validB x = true) : sat a (ofT l) = true ↔ ∃ z : Nat, (z : Int) ∈ l ∧ Sb z a := by
  unfold ofT
  rw [sat_any1 (nat_validB ha)]
  unfold AnyE
  constructor
  · rintro (⟨k, hk, _⟩ | ⟨x, hx, h⟩)
    · cases hk
    · obtain ⟨s, hs, rfl⟩ := List.mem_map.1 hx
      obtain ⟨z, rfl, hz⟩ := validB_nat (hl s hs)
      exact ⟨z, hs, (sat_set ha hz).1 h⟩
  · rintro ⟨z, hz, h⟩
    obtain ⟨z', e, hz'⟩ := validB_nat (hl _ hz)
    obtain rfl : z = z' := by omega
    exact .inr ⟨_, List.mem_map.2 ⟨_, hz, rfl⟩, (sat_set ha hz').2 h⟩
/-- The trust of sets that are not empty is right at all levels. -/
theorem ok_of {l : List Int} (hl : ∀ x ∈ l, validB x = true ∧ x ≠ 0) (hne : l ≠ []) : OkT (ofT l) := by
  unfold ofT
  rw [okT_mk]
  refine ⟨by omega, ?_, by simp, by simp, fun x hx => ?_⟩
  · have : 1 ≤ l.length := List.length_pos_iff.2 hne
    simp; omega
  · obtain ⟨s, hs, rfl⟩ := List.mem_map.1 hx
    obtain ⟨z, rfl, hz⟩ := validB_nat (hl s hs).1
    have h0 := (hl _ hs).2
    unfold setT
    rw [okT_mk, sizS_nat hz, ← nodesK_pop hz 10 (Nat.le_refl _)]
    refine ⟨?_, by simp, nodesK_bd _ 10, nodesK_nodup _ _, by simp⟩
    have : nodesK (z : Int) 10 ≠ [] := by
      intro e
      obtain ⟨i, hi⟩ : ∃ i, z.testBit i = true := Nat.exists_testBit_of_ne_zero (by omega)
      have := (mem_nodesK hz (i : Int)).2 ⟨i, rfl, hi⟩
      rw [e] at this
      cases this
    have := List.length_pos_iff.2 this
    omega
theorem sizeL_sets : ∀ l : List Int, sizeL (l.map setT) ≤ 10 * l.length
  | [] => by simp [sizeL]
  | s :: r => by
    have := sizeL_sets r
    have h := nodesK_len s 10
    simp only [List.map_cons, sizeL, setT, Tr.size, List.length_cons, List.length_nil]
    omega
theorem depL_sets : ∀ l : List Int, depL (l.map setT) ≤ 1
  | [] => by simp [depL]
  | s :: r => by
    have := depL_sets r
    simp only [List.map_cons, depL, setT, Tr.dep]
    omega
theorem valid_of {l : List Int} (hl : ∀ x ∈ l, validB x = true ∧ x ≠ 0) (hne : l ≠ []) (hz : l.length + sizeL (l.map setT) ≤ 200) : validE (ofT l) = 0 := by
  have hd := depL_sets l
  have ho := (okT_iff _).2 (ok_of hl hne)
  unfold validE
  have e1 : (ofT l).dep = depL (l.map setT) + 1 := by simp only [ofT, Tr.dep]
  have e2 : (ofT l).size = l.length + sizeL (l.map setT) := by simp only [ofT, Tr.size, List.length_map, List.length_nil]; omega
  rw [if_neg (by rw [e1, e2]; omega)]
  exact ho
/-- The slices of what is satisfied like the trust of the least of some sets: these. -/
theorem slc_of {L : List Int} (hL : AllS L) {l : List Int} {t : Tr} (h : ∀ a : Nat, a ≤ 1023 → sat a t = sat a (ofT (leastS l))) : slcS L t = leastS l := by
  unfold slcS
  refine leastS_ext fun x => ?_
  have hv : ∀ y ∈ leastS l, validB y = true := fun y hy => (leastS_mem hy).2
  rw [mem_leastS]
  constructor
  · rintro ⟨h1, h2, h3⟩
    have hs : sat x t = true := by simpa using (List.mem_filter.1 h1).2
    obtain ⟨a, rfl, ha⟩ := validB_nat h2
    rw [h a ha, sat_of ha hv] at hs
    obtain ⟨z, hz, hza⟩ := hs
    obtain ⟨z', e, hz'⟩ := validB_nat (hv _ hz)
    obtain rfl : z = z' := by omega
    have : (z : Int) = a := by
      refine h3 z (List.mem_filter.2 ⟨(hL _).2 (nat_validB hz'), ?_⟩) (nat_validB hz') ((subI_sb hz').2 hza)
      rw [h z hz', sat_of hz' hv]
      exact ⟨z, hz, Sb.refl z⟩
    rw [← this]
    exact hz
  · intro hx
    obtain ⟨a, rfl, ha⟩ := validB_nat (hv x hx)
    refine ⟨List.mem_filter.2 ⟨(hL _).2 (nat_validB ha), ?_⟩, nat_validB ha, fun y hy hyv hs => ?_⟩
    · rw [h a ha, sat_of ha hv]
      exact ⟨a, hx, Sb.refl a⟩
    · obtain ⟨b, rfl, hb⟩ := validB_nat hyv
      have hsb : sat b t = true := by simpa using (List.mem_filter.1 hy).2
      rw [h b hb, sat_of hb hv] at hsb
      obtain ⟨z, hz, hzb⟩ := hsb
      obtain ⟨z', e, hz'⟩ := validB_nat (hv _ hz)
      obtain rfl : z = z' := by omega
      have hba := (subI_sb hb).1 hs
      have hza : (z : Int) = a := leastS_anti hz hx ((subI_sb hz').2 (hzb.trans hba))
      have hza' : z = a := by omega
      subst hza'
      have := hzb.antisymm hba
      omega
theorem least_least (l : List Int) : leastS (leastS l) = leastS l := by
  refine leastS_ext fun x => ?_
  constructor
  · intro h; exact (leastS_mem h).1
  · intro h
    exact mem_leastS.2 ⟨h, (leastS_mem h).2, fun y hy _ hs => leastS_anti hy h hs⟩
/-- The trust of the slices of a trust is satisfied like it. -/
theorem sat_slcof {L : List Int} (hL : AllS L) {t : Tr} {a : Nat} (ha : a ≤ 1023) : sat a (ofT (leastS (slcS L t))) = sat a t := by
  have e : leastS (slcS L t) = slcS L t := least_least _
  have hv : ∀ x ∈ slcS L t, validB x = true := fun x hx => by
    obtain ⟨z, rfl, hz, _⟩ := slc_mem hL hx
    exact nat_validB hz
  rw [e, Bool.eq_iff_iff, sat_of ha hv, slc_has hL ha]
  constructor
  · rintro ⟨z, hz, h⟩
    obtain ⟨z', e, hz', _⟩ := slc_mem hL hz
    obtain rfl : z = z' := by omega
    exact ⟨z, hz, hz', h⟩
  · rintro ⟨z, hz, _, h⟩
    exact ⟨z, hz, h⟩
end Go.Proofs.YtpdhckbiioobhaaGreat

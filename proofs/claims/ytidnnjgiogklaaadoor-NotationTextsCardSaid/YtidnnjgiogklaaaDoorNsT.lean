/- Walks: nodeset.Nodes, Text. -/
import Derived.Test.YtidnnjgiogklaaaDoorProg
import Derived.Test.YtidnnjgiogklaaaDoorShelf
import Derived.Test.YtidnnjgiogklaaaDoorNs
import Derived.Test.YtidnnjgiogklaaaDoorEi
namespace Go.Proofs.YtidnnjgiogklaaaDoor
open Go.RowKit

/-- The nodes below k of a set. -/
def nodesK (s : Int) (k : Nat) : List Int := (ints k).filter (hasB s)
theorem nodesK_succ (s : Int) (k : Nat) : nodesK s (k + 1) = nodesK s k ++ (if hasB s k then [(k : Int)] else []) := by
  simp [nodesK, ints_succ, List.filter_append, List.filter_cons]
theorem nodesK_len (s : Int) (k : Nat) : (nodesK s k).length ≤ k := by
  have h := List.length_filter_le (hasB s) (ints k)
  rw [ints_len] at h
  exact h
theorem nodesK_bd (s : Int) (k : Nat) : ∀ x ∈ nodesK s k, 0 ≤ x ∧ x < k := by
  intro x hx
  have := (List.mem_filter.1 hx).1
  simp only [ints, List.mem_map, List.mem_range] at this
  obtain ⟨a, ha, rfl⟩ := this
  exact ⟨Int.natCast_nonneg a, Int.ofNat_lt.2 ha⟩

set_option maxRecDepth 100000 in
theorem nodes_any (s : Int) (w : World) : Calls Tryd.prog 105 #[.int .i64 s] w fun e w' =>
    ∃ A c, e = .returned (.slice A (nodesK s 10).length c) ∧ Fr none w w' ∧ w'.ownsRow w.heap.size 3 1 (.slice A (nodesK s 10).length c) (nodesK s 10).length ((nodesK s 10).map (Value.int .i64)) := by
  go_enter Tryd.func105, Tryd.ntmps105
  go_wp2_with fail
  go_loopw [3, 5] (fun v i wr => ∃ (j : Nat) (l : List Int) (A : Option Addr) (c : Nat), j ≤ 10 ∧ i = .int .i64 j ∧ l = nodesK s j ∧ v = .slice A l.length c ∧ Fr none w wr ∧ wr.ownsRow w.heap.size 3 1 (.slice A l.length c) l.length (l.map (Value.int .i64))) (fun _ i _ => 10 - (intOf i).toNat)
  case atStart => exact ⟨0, [], none, 0, Nat.zero_le _, rfl, rfl, rfl, Fr.refl _ _, World.ownsRow_nil _ _ _ _⟩
  case round =>
    obtain ⟨j, l, A, c, hj, rfl, hl, rfl, F, own⟩ := hrel
    have hz := F.size
    have hlen : l.length ≤ 10 := by rw [hl]; have := nodesK_len s j; omega
    have HL := Lib.hid hl
    clear hl
    by_cases hlt : j < 10
    · cases hb : hasB s j with
      | true =>
        have HB := Lib.hid hb
        clear hb
        go_wp2_with (first | (go_at_call 81; refine (has_any _ _ _).mono ?_; rintro e w' ⟨rfl, rfl⟩; rw [HB.out]) | (at_builtin; refine app_lit eiInt rfl _ _ rfl w.heap.size A l.length c _ rfl own 1 [.int .i64 j] _ _ rfl (by simp) rfl (by simp [Value.oneCell']) (by omega) (by unfold maxLen; omega) (by omega) ?_; intro A' c' w' own' F' bl'))
        have og := own_blk_ge own
        go_roundw
        case rel => exact ⟨j + 1, l ++ [(j : Int)], A', c', by omega, by go_num, by rw [nodesK_succ, HB.out, HL.out]; rfl, by simp, F.own F' og, by simpa using own'⟩
        case measure => simp [intOf]; omega
      | false =>
        have HB := Lib.hid hb
        clear hb
        go_wp2_with (go_at_call 81; refine (has_any _ _ _).mono ?_; rintro e w' ⟨rfl, rfl⟩; rw [HB.out])
        go_roundw
        case rel => exact ⟨j + 1, l, A, c, by omega, by go_num, by rw [nodesK_succ, HB.out, HL.out]; simp, rfl, F, own⟩
        case measure => simp [intOf]; omega
    · obtain rfl : j = 10 := by omega
      go_wp2_with fail
      go_ret
      rw [← HL.out]
      exact ⟨A, c, rfl, F, own⟩

/-- The words of some nodes. -/
def word (k : Int) : ByteArray := ⟨(Lib.decDigits k.toNat).toArray⟩
def wordsOf (l : List Int) : List ByteArray := l.map word
def joinB (l : List ByteArray) (sep : List UInt8) : List UInt8 := Lib.join (l.map (·.data.toList)) sep
def textS (s : Int) : ByteArray := if validB s then ⟨([123] ++ joinB (wordsOf (nodesK s 10)) [32] ++ [125]).toArray⟩ else ⟨#[63]⟩
theorem word_len (k : Int) (h0 : 0 ≤ k) (h1 : k < 10) : (word k).data.toList.length = 1 := by
  unfold word Lib.decDigits
  rw [dif_pos (by omega)]
  rfl
theorem lens_le (c : Nat) : ∀ l : List (List UInt8), (∀ x ∈ l, x.length ≤ c) → Lib.lens l ≤ c * l.length
  | [], _ => by simp [Lib.lens]
  | x :: r, h => by
    have h1 := h x (by simp)
    have h2 := lens_le c r (fun y hy => h y (by simp [hy]))
    simp only [Lib.lens, List.length_cons, Nat.mul_add, List.map_cons, List.sum_cons] at *
    omega
theorem joinB_len (c : Nat) (l : List ByteArray) (sep : List UInt8) (h : ∀ x ∈ l, x.data.toList.length ≤ c) : (joinB l sep).length ≤ sep.length * l.length + c * l.length := by
  unfold joinB
  cases l with
  | nil => simp [Lib.join]
  | cons x r =>
    have h2 := lens_le c ((x :: r).map (·.data.toList)) (fun y hy => by
      obtain ⟨z, hz, rfl⟩ := List.mem_map.1 hy
      exact h z hz)
    rw [List.map_cons, Lib.join_length, ← List.map_cons (f := fun x : ByteArray => x.data.toList)]
    simp only [List.length_map, List.length_cons] at *
    have : sep.length * r.length ≤ sep.length * (r.length + 1) := Nat.mul_le_mul_left _ (by omega)
    omega
theorem words_len (l : List Int) (h : ∀ x ∈ l, 0 ≤ x ∧ x < 10) : ∀ x ∈ wordsOf l, x.data.toList.length ≤ 1 := by
  intro x hx
  obtain ⟨k, hk, rfl⟩ := List.mem_map.1 hx
  have := h k hk
  exact Nat.le_of_eq (word_len k this.1 this.2)
theorem eiStr : EInfo Tryd.prog 108 9 1 16 := EInfo.mk_ (z := .string ⟨#[]⟩) (by kernel_rfl) (by kernel_rfl) rfl (by omega)

theorem ret_str {a b : ByteArray} (h : a = b) : Ending.returned (.string a) = .returned (.string b) := by rw [h]
theorem join_any (l : List ByteArray) (sep : ByteArray) (v : Value) (w : World) (h : SlD w (Dm w none) 1 v (l.map Value.string)) (hN : l.length ≤ 140737488355328) (hlen : (joinB l sep.data.toList).length ≤ 140737488355328) :
    Calls Tryd.prog 93 #[v, .string sep] w fun e w' => ∃ X : ByteArray, e = .returned (.string X) ∧ X = ⟨(joinB l sep.data.toList).toArray⟩ ∧ X.size ≤ 140737488355328 ∧ Fr none w w' := by
  obtain ⟨A, n, c, rfl, hl, hnc, hm, hx⟩ := h
  simp only [List.length_map, Nat.mul_one] at hl
  subst hl
  rcases Nat.eq_zero_or_pos l.length with h0 | h0
  · have hl0 : l = [] := List.eq_nil_of_length_eq_zero h0
    subst hl0
    refine (Tryd.strings_Join_none A c sep w).mono ?_
    rintro e w' ⟨rfl, rfl⟩
    exact ⟨_, rfl, rfl, by simp [ByteArray.size], Fr.refl _ _⟩
  · obtain ⟨b, off, rfl, hb, hc⟩ := hx h0
    refine (Tryd.strings_Join b off c l sep w (fun j x hj => hc j _ (by simp [hj])) hb.1 hN hnc hlen).mono ?_
    rintro e w' ⟨rfl, F⟩
    exact ⟨_, rfl, rfl, by simpa [ByteArray.size, joinB] using hlen, Fr.of_below F⟩

set_option maxRecDepth 100000 in
theorem text_any (s : Int) (w : World) : Calls Tryd.prog 78 #[.int .i64 s] w fun e w' => e = .returned (.string (textS s)) ∧ Fr none w w' := by
  by_cases hv : validB s = true
  · have H := Lib.hid hv
    clear hv
    go_enter Tryd.func78, Tryd.ntmps78
    go_wp2_with (first | (go_at_call 80; refine (valid_any _ _).mono ?_; rintro e w' ⟨rfl, rfl⟩; rw [H.out]) | (go_at_call 105; refine (nodes_any _ _).mono ?_; rintro e w1 ⟨A, c, rfl, F1, own1⟩))
    obtain ⟨l, hl⟩ : ∃ l, l = nodesK s 10 := ⟨_, rfl⟩
    have hlen : l.length ≤ 10 := by rw [hl]; exact nodesK_len s 10
    have hbd : ∀ x ∈ l, 0 ≤ x ∧ x < 10 := by rw [hl]; exact nodesK_bd s 10
    rw [← hl] at own1 ⊢
    have HL := Lib.hid hl
    clear hl
    go_loopw [3, 12] (fun v i wr => ∃ (j : Nat) (B : Option Addr) (d : Nat), j ≤ l.length ∧ i = .int .i64 j ∧ v = .slice B j d ∧ Fr none w1 wr ∧ wr.ownsRow w1.heap.size 9 1 (.slice B j d) j ((wordsOf (l.take j)).map Value.string)) (fun _ i _ => l.length - (intOf i).toNat)
    case atStart => exact ⟨0, none, 0, Nat.zero_le _, rfl, rfl, Fr.refl _ _, World.ownsRow_nil _ _ _ _⟩
    case round =>
      obtain ⟨j, B, d, hj, rfl, rfl, F, own⟩ := hrel
      have hz := F.size
      by_cases hlt : j < l.length
      · obtain ⟨gb, off, rfl, hgb, hcell⟩ := SlD.cellI (SlD.of_own (r := none) (own_fr own1 (F.mono (r := none)) (by simp)) (by simp)) j hlt
        have hk := hbd l[j] (List.getElem_mem _)
        obtain ⟨k, hk2⟩ := Int.eq_ofNat_of_zero_le hk.1
        have hk10 : k < 100 := by omega
        rw [hk2] at hcell
        have HK := Lib.hid hk2
        clear hk2 hk hbd
        go_wp2_with (first | (go_at_call 62; refine (Tryd.strconv_Itoa_small k hk10 _).mono ?_; rintro e w' ⟨rfl, rfl⟩) | (at_builtin; refine app_lit eiStr rfl _ _ rfl w1.heap.size B j d _ rfl own 1 [.string ⟨(Lib.decDigits k).toArray⟩] _ _ rfl (by simp) rfl (by simp [Value.oneCell']) (by omega) (by unfold maxLen; omega) (by omega) ?_; intro A' c' w' own' F' bl'))
        have og := own_blk_ge own
        have ew : wordsOf (l.take (j + 1)) = wordsOf (l.take j) ++ [⟨(Lib.decDigits k).toArray⟩] := by
          unfold wordsOf
          rw [List.take_succ_eq_append_getElem hlt, List.map_append]
          simp only [List.map_cons, List.map_nil, word, HK.out, Int.toNat_natCast]
        go_roundw
        case rel => exact ⟨j + 1, A', c', by omega, by go_num, rfl, F.own F' og, by rw [ew, List.map_append]; exact own'⟩
        case measure => simp [intOf]; omega
      · obtain rfl : j = l.length := by omega
        rw [List.take_length] at own
        have ht : textS s = ⟨([123] ++ joinB (wordsOf l) [32] ++ [125]).toArray⟩ := by simp only [textS, H.out, if_true, ← HL.out]
        have HT := Lib.hid ht
        clear ht
        have hjl : (joinB (wordsOf l) [32]).length ≤ 140737488355328 := by
          have h1 := joinB_len 1 (wordsOf l) [32] (words_len l hbd)
          have h2 : (wordsOf l).length = l.length := by simp [wordsOf]
          rw [h2] at h1
          simp only [List.length_cons, List.length_nil] at h1
          omega
        have fin : (⟨#[123]⟩ : ByteArray) ++ ⟨(joinB (wordsOf l) [32]).toArray⟩ ++ ⟨#[125]⟩ = textS s := by
          rw [HT.out]
          apply ByteArray.ext
          simp
        have HF := Lib.hid fin
        have HWL := Lib.hid (show (wordsOf l).length ≤ 140737488355328 by simp [wordsOf]; omega)
        have HJ := Lib.hid hjl
        have hsl := SlD.of_own (r := none) own (by simp)
        have HS := Lib.hid hsl
        clear fin hjl hsl hbd hlen
        obtain ⟨n, hn⟩ : ∃ n, n = l.length := ⟨_, rfl⟩
        have HN := Lib.hid hn
        rw [← hn] at HS own1 own ⊢
        clear hn
        go_wp2_with (go_at_call 93; refine (join_any (wordsOf l) ⟨#[32]⟩ _ _ HS.out HWL.out HJ.out).mono ?_; rintro e w' ⟨X, rfl, hX, hXs, F2⟩; have HX := Lib.hid hX; clear hX)
        go_ret
        exact ⟨ret_str (by rw [HX.out]; exact HF.out), (F1.pure F).pure F2⟩
  · have hv' : validB s = false := by simpa using hv
    have H := Lib.hid hv'
    have E := Lib.hid (show textS s = ⟨#[63]⟩ by simp [textS, hv'])
    clear hv hv'
    go_enter Tryd.func78, Tryd.ntmps78
    go_wp2_with (go_at_call 80; refine (valid_any _ _).mono ?_; rintro e w' ⟨rfl, rfl⟩; rw [H.out])
    go_ret
    rw [E.out]
    exact ⟨rfl, Fr.refl _ _⟩
end Go.Proofs.YtidnnjgiogklaaaDoor

/- Walks: notation.write, Text; the reference's text, Text. -/
import Derived.Test.YtonhhnedfjonoaaGreatDoorProg
import Derived.Test.YtonhhnedfjonoaaGreatDoorJL10
import Derived.Test.YtonhhnedfjonoaaGreatDoorJL4
import Derived.Test.YtonhhnedfjonoaaGreatDoorNsTJ
import Derived.Test.YtonhhnedfjonoaaGreatDoorValidWJ
set_option linter.unusedSimpArgs false
set_option linter.unusedVariables false
namespace Go.Proofs.YtonhhnedfjonoaaGreatDoor
open Go.RowKit

/-- Bytes as a string. -/
def bs (l : List UInt8) : ByteArray := ⟨l.toArray⟩
def strV (l : List UInt8) : Value := .string (bs l)
theorem bs_list (l : List UInt8) : (bs l).data.toList = l := by simp [bs]
theorem bs_size (l : List UInt8) : (bs l).size = l.length := by simp [bs, ByteArray.size]
theorem bs_app (a b : List UInt8) : bs a ++ bs b = bs (a ++ b) := by
  apply ByteArray.ext
  simp [bs]
theorem bs_inj {a b : List UInt8} (h : bs a = bs b) : a = b := by
  have := congrArg (fun x : ByteArray => x.data.toList) h
  simpa [bs_list] using this
theorem joinB_bs (l : List (List UInt8)) (sep : List UInt8) : joinB (l.map bs) sep = Lib.join l sep := by
  unfold joinB
  rw [List.map_map]
  congr 1
  conv => rhs; rw [← List.map_id l]
  exact List.map_congr_left fun x _ => bs_list x
/-- What a call that returns a text leaves. -/
def TxtE (l : List UInt8) (B : Nat) (w : World) (e : Ending) (w' : World) : Prop := ∃ S : ByteArray, e = .returned (.string S) ∧ S = bs l ∧ S.size ≤ B ∧ Fr none w w'

/-- What Text returns. -/
def textT (t : Tr) : List UInt8 := if validE t = 0 then txT t else [63]
/-- A text up to some of its entries. -/
def pref (thr : Int) (nodes : List Int) (inner : List Tr) : List UInt8 := Lib.itoa thr ++ [32, 111, 102, 32, 40] ++ Lib.join (wdT nodes inner) [44, 32]
theorem pref_len {thr : Int} {nodes : List Int} {inner : List Tr} (h0 : Wi thr) (h1 : ∀ x ∈ nodes, Wi x) (h2 : wiL inner) (h3 : nodes.length + inner.length + sizeL inner ≤ 1073741824) : (bs (pref thr nodes inner)).size ≤ 34359738368 := by
  have h4 := wdT_lens nodes inner h1 h2
  have h5 := itoa_len h0
  rw [bs_size]
  simp only [pref, List.length_append, List.length_cons, List.length_nil]
  omega
theorem pref_node (thr : Int) (nodes : List Int) (j : Nat) (hj : j < nodes.length) : bs (pref thr (nodes.take (j + 1)) []) = bs (pref thr (nodes.take j) []) ++ bs (if j = 0 then [] else [44, 32]) ++ bs (Lib.itoa nodes[j]) := by
  rw [bs_app, bs_app]
  congr 1
  unfold pref wdT
  rw [ndW_take nodes j hj]
  simp only [txL, List.append_nil]
  rw [join_snoc]
  by_cases h0 : j = 0
  · subst h0; simp [ndW]
  · have h1 : ndW (nodes.take j) ≠ [] := fun e => by
      have := congrArg List.length e
      rw [ndW_len, List.length_take] at this
      simp only [List.length_nil] at this
      omega
    rw [if_neg h1, if_neg h0]
    simp
theorem pref_inner (thr : Int) (nodes : List Int) (inner : List Tr) (k : Nat) (hk : k < inner.length) : bs (pref thr nodes (inner.take (k + 1))) = bs (pref thr nodes (inner.take k)) ++ bs (if nodes.length + k = 0 then [] else [44, 32]) ++ bs (txT inner[k]) := by
  rw [bs_app, bs_app]
  congr 1
  unfold pref wdT
  rw [txL_take inner k hk, ← List.append_assoc, join_snoc]
  by_cases h0 : nodes.length + k = 0
  · have h1 : ndW nodes ++ txL (inner.take k) = [] := by
      apply List.eq_nil_of_length_eq_zero
      rw [List.length_append, ndW_len, txL_len, List.length_take]
      omega
    rw [if_pos h1, if_pos h0]
    simp
  · have h1 : ndW nodes ++ txL (inner.take k) ≠ [] := fun e => by
      have := congrArg List.length e
      rw [List.length_append, ndW_len, txL_len, List.length_take] at this
      simp only [List.length_nil] at this
      omega
    rw [if_neg h1, if_neg h0]
    simp
theorem bs_44 : (⟨#[44, 32]⟩ : ByteArray) = bs [44, 32] := rfl

end Go.Proofs.YtonhhnedfjonoaaGreatDoor

/- The law ConfigurationTexts: its walk. -/
import Derived.Test.YtoblhcieidljjaaGreatDoorProg
import Derived.Test.YtoblhcieidljjaaGreatDoorJG23
import Derived.Test.YtoblhcieidljjaaGreatDoorLnsPJ
import Derived.Test.YtoblhcieidljjaaGreatDoorCsmWJ
set_option linter.unusedSimpArgs false
set_option linter.unusedVariables false
namespace Go.Proofs.YtoblhcieidljjaaGreatDoor
open Go.RowKit

theorem lineT_len {n k : Nat} {m : Mb} (hk : k < 10) (h : MbOk n m) : (lineT k m).length ≤ 2500 := by
  have h1 : (Lib.itoa (k : Int)).length ≤ 4 := itoa_len4 ⟨by omega, by omega⟩
  unfold lineT begL
  cases hd : m.dec with
  | true =>
    have hv := (h.1 hd).1
    have h2 := valid_len hv
    have : textT m.tr = txT m.tr := by unfold textT; rw [if_pos hv]
    simp only [if_true, List.length_append, List.length_cons, List.length_nil, this]
    omega
  | false => simp only [Bool.false_eq_true, if_false, List.length_append, List.length_cons, List.length_nil]; omega
theorem textL_lenT {L : List Mb} (hn : L.length ≤ 10) (h : ∀ m ∈ L, MbOk L.length m) : ∀ j, j ≤ L.length → (textL (L.take j)).length ≤ j * 2500
  | 0, _ => by simp [textL]
  | j + 1, hj => by
    have ih := textL_lenT hn h j (by omega)
    have h2 := lineT_len (k := j) (by omega) (h _ (List.getElem_mem (show j < L.length by omega)))
    rw [textL_take L j (by omega), List.length_append]
    omega
theorem textL_len {L : List Mb} (hn : L.length ≤ 10) (h : ∀ m ∈ L, MbOk L.length m) : (textL L).length ≤ 25000 := by
  have := textL_lenT hn h L.length (Nat.le_refl _)
  rw [List.take_length] at this
  omega
theorem text_inj {L K : List Mb} (hL : L ≠ []) (hn : L.length ≤ 10) (h : ∀ m ∈ L, MbOk L.length m) (hK : K ≠ []) (hn' : K.length ≤ 10) (h' : ∀ m ∈ K, MbOk K.length m) (hl : (textL L).length ≤ 6000) : textL L = textL K ↔ L = K := by
  constructor
  · intro e
    have h1 := parse_text hL hn h hl
    have h2 := parse_text hK hn' h' (by rw [← e]; exact hl)
    rw [e, h2] at h1
    injection h1 with h1 _
    exact h1.symm
  · intro e; rw [e]
end Go.Proofs.YtoblhcieidljjaaGreatDoor

/- Texts of sets, plain: each set comes back from its text and from its nodes. -/
import Derived.Test.YtidcjafmcjfkgaaDoorNsT
import Derived.Test.YtidcjafmcjfkgaaDoorTr
namespace Go.Proofs.YtidcjafmcjfkgaaDoor
open Go.RowKit

/-- The text of a set of nodes below 10, without the library's numeral. -/
def tx (s : Int) : List UInt8 := [123] ++ [32].intercalate ((nodesK s 10).map fun k => [UInt8.ofNat (48 + k.toNat)]) ++ [125]
theorem textS_tx (s : Int) (hv : validB s = true) : textS s = ⟨(tx s).toArray⟩ := by
  have hw : (wordsOf (nodesK s 10)).map (·.data.toList) = (nodesK s 10).map fun k => [UInt8.ofNat (48 + k.toNat)] := by
    unfold wordsOf
    rw [List.map_map]
    apply List.map_congr_left
    intro k hk
    have := nodesK_bd s 10 k hk
    simp only [Function.comp, word]
    unfold Lib.decDigits
    rw [dif_pos (by omega)]
  simp only [textS, hv, if_true, joinB, hw, tx, Lib.join]
/-- What Parse gathers. -/
def gat (s : Nat) : List UInt8 → Nat
  | [] => s
  | b :: r => gat (if 48 ≤ b.toNat ∧ b.toNat ≤ 57 then s ||| 2 ^ (b.toNat - 48) else s) r
theorem gat_tx : ∀ s : Fin 1024, gat 0 (tx (s.val : Int)) = s.val := by decide +kernel
theorem tx_len : ∀ s : Fin 1024, (tx (s.val : Int)).length ≤ 30 := by decide +kernel
theorem of_nodes : ∀ s : Fin 1024, ofS (nodesK (s.val : Int) 10) 0 = ((s.val : Int), 0) := by decide +kernel
end Go.Proofs.YtidcjafmcjfkgaaDoor

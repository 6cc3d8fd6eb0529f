/- Some texts of this claim, joined: contracts of the functions that it reaches, and plain laws. -/
import Derived.Test.YtonhhnedfjonoaaGreatDoorProg
import Derived.Test.YtonhhnedfjonoaaGreatDoorShelf
import Derived.Test.YtonhhnedfjonoaaGreatDoorJM2

set_option linter.unusedSimpArgs false
set_option linter.unusedVariables false
/- Walks: a strings.Builder that is the only field of ledger.page: copyCheck, WriteString, String. -/
namespace Go.Proofs.YtonhhnedfjonoaaGreatDoor
open Go.RowKit

/-- Blocks that are neither bytes nor a page stay as they are. -/
def PgF (w w' : World) : Prop := ∀ (q : Nat) (cs : Array Value) (T : TypeId) (fz : Nat × Nat), w.heap[q]? = some (.cells cs T fz) → T ≠ 5 → T ≠ 73 → w'.heap[q]? = some (.cells cs T fz)
theorem PgF.refl (w : World) : PgF w w := fun _ _ _ _ h _ _ => h
theorem PgF.fr {w w' : World} (F : Fr none w w') : PgF w w' := fun _ _ _ _ h _ _ => blk_fr h F (by simp)
theorem PgF.trans {a b c : World} (h : PgF a b) (k : PgF b c) : PgF a c := fun q cs T fz e h1 h2 => k q cs T fz (h q cs T fz e h1 h2) h1 h2
abbrev PgB (B b : Nat) (l : List UInt8) (w : World) : Prop := Lib.IsBuilder 73 5 B b (Lib.byteCells l) w
theorem PgB.fr {B b : Nat} {l : List UInt8} {w w' : World} (h : PgB B b l w) (F : Fr none w w') : PgB B b l w' := by
  rcases h with ⟨h1, v, h2, h3, h4⟩ | ⟨h1, v, h2, h3, h4⟩
  · exact .inl ⟨h1, v, blk_fr h2 F (by simp), own_fr h3 F (by simp), h4⟩
  · exact .inr ⟨h1, v, blk_fr h2 F (by simp), own_fr h3 F (by simp), h4⟩
end Go.Proofs.YtonhhnedfjonoaaGreatDoor

/-
  No cell of these rows narrows 'for every input' (looked for: loops, veiled, ifaces, maps, wideKeys, modest, calm, conditions, laid).
  DERIVED. THE GIVEN ROWS OF THIS SEAT. 3 by the template 'for every input the law returns true; each argument reads behind the call as it read before'; 0 by the template 'total and deterministic' (their statements: YtidnnjgiogklaaaTotals.lean).
  GIVEN WITH THE SEED: the statements are not yours to turn. If you find one false, say at which input.
  Laid BY PROGRAM, IN A SANDBOX (cutbox-rows.mjs): the forced cells as the released guide's own fill.sh prints them over the translation c11967fe795426b7… (all of the seat's roots in one cut). By AI agents, Wed Nov 11 2026. No macro, syntax, notation, axiom, sorry.
-/
import Derived.Test.YtidnnjgiogklaaaChecked
import GoSem.Claim
import GoSem.ClaimJoined
import GoSem.ClaimMapViews
import Derived.JoinedTies
import Derived.KernelRfl
namespace Go.Proofs.Ytidnnjgiogklaaa
/- THE CELL 'sum', in the pinned program and in every row, IS THE sha256 OF THE DUMP (.gsa) THAT YtidnnjgiogklaaaProg.lean LOADS. Nothing in Lean hashes anything: it is a label: what it is worth is what the hold of that sum in a sandbox is worth. -/
noncomputable def Try.pinned : Pinned := { name := "ytidnnjgiogklaaa", sum := "c11967fe795426b73d0ebd5c13cb93d8809d8b63f872de6b7ec08b020ee04f0a", checked := Try.checked }
namespace Rows
def none {H : Type} : Left H := { results := [], args := [] }

/-- 'trustquorumlaw05.SlicesSatisfy': WHATEVER THE INPUT: true; the input reads as it did. -/
def slicesSatisfySpec : ChangeSpec := { name := "slicesSatisfy", fn := fun _ => fun
  | [d] => { results := [.lit (.bool true)], args := [d] }
  | _ => none }
def slicesSatisfyRow : OpenClaim := { program := "ytidnnjgiogklaaa", sum := "c11967fe795426b73d0ebd5c13cb93d8809d8b63f872de6b7ec08b020ee04f0a", func := "trustquorum/trustquorumlaw05.SlicesSatisfy", spec := "slicesSatisfy", unfollowed := true, recurses := true, apart := false }
def SlicesSatisfySaid : Prop := slicesSatisfyRow.holds Try.pinned (OpenSpec.ofChange slicesSatisfySpec)

/-- ITS FALSE NEIGHBOUR: 'it returns false'. Refute it at one input. -/
def slicesSatisfyWrong : ChangeSpec := { name := "slicesSatisfy", fn := fun _ => fun
  | [d] => { results := [.lit (.bool false)], args := [d] }
  | _ => none }
def SlicesSatisfyWrongFalsely : Prop := slicesSatisfyRow.holds Try.pinned (OpenSpec.ofChange slicesSatisfyWrong)

/-- 'trustquorumlaw05.SlicesDual': WHATEVER THE INPUT: true; the input reads as it did. -/
def slicesDualSpec : ChangeSpec := { name := "slicesDual", fn := fun _ => fun
  | [d] => { results := [.lit (.bool true)], args := [d] }
  | _ => none }
def slicesDualRow : OpenClaim := { program := "ytidnnjgiogklaaa", sum := "c11967fe795426b73d0ebd5c13cb93d8809d8b63f872de6b7ec08b020ee04f0a", func := "trustquorum/trustquorumlaw05.SlicesDual", spec := "slicesDual", unfollowed := true, recurses := true, apart := false }
def SlicesDualSaid : Prop := slicesDualRow.holds Try.pinned (OpenSpec.ofChange slicesDualSpec)

/-- ITS FALSE NEIGHBOUR: 'it returns false'. Refute it at one input. -/
def slicesDualWrong : ChangeSpec := { name := "slicesDual", fn := fun _ => fun
  | [d] => { results := [.lit (.bool false)], args := [d] }
  | _ => none }
def SlicesDualWrongFalsely : Prop := slicesDualRow.holds Try.pinned (OpenSpec.ofChange slicesDualWrong)

/-- 'trustquorumlaw05.SlicesEquivalent': WHATEVER THE INPUT: true; the input reads as it did. -/
def slicesEquivalentSpec : ChangeSpec := { name := "slicesEquivalent", fn := fun _ => fun
  | [d] => { results := [.lit (.bool true)], args := [d] }
  | _ => none }
def slicesEquivalentRow : OpenClaim := { program := "ytidnnjgiogklaaa", sum := "c11967fe795426b73d0ebd5c13cb93d8809d8b63f872de6b7ec08b020ee04f0a", func := "trustquorum/trustquorumlaw05.SlicesEquivalent", spec := "slicesEquivalent", unfollowed := true, recurses := true, apart := false }
def SlicesEquivalentSaid : Prop := slicesEquivalentRow.holds Try.pinned (OpenSpec.ofChange slicesEquivalentSpec)

/-- ITS FALSE NEIGHBOUR: 'it returns false'. Refute it at one input. -/
def slicesEquivalentWrong : ChangeSpec := { name := "slicesEquivalent", fn := fun _ => fun
  | [d] => { results := [.lit (.bool false)], args := [d] }
  | _ => none }
def SlicesEquivalentWrongFalsely : Prop := slicesEquivalentRow.holds Try.pinned (OpenSpec.ofChange slicesEquivalentWrong)

/- THE SECOND FORM. 'bulk': how many values and letters a reading holds, each counted each time it is reached (what is shared counts as often as it is met; a slice's spare places count too). A statement '..UptoSaid' is the law's where the arguments, and the package variables that the reading takes, are together of bulk at most 1048576: NARROWER than '..Said'. Prove '..Said' where nothing that the law and all that it calls make is longer than what came in: it says more and counts as full. Else prove '..UptoSaid'. A law counts once. -/
mutual
def uptoBulk {H : Type} : DataW H → Nat
  | .lit (.string bytes) => bytes.length + 1
  | .lit _ => 1
  | .nil => 1
  | .ptr d => uptoBulk d + 1
  | .slice elems spare => uptoBulkAll elems + uptoBulkAll spare + 1
  | .agg parts => uptoBulkAll parts + 1
  | .iface _ d => uptoBulk d + 1
  | .map entries => uptoBulkEntries entries + 1
  | .held _ => 1
def uptoBulkAll {H : Type} : List (DataW H) → Nat
  | [] => 0
  | d :: r => uptoBulk d + uptoBulkAll r
def uptoBulkEntries {H : Type} : List (Lit × DataW H) → Nat
  | [] => 0
  | x :: r => uptoBulkEntry x + uptoBulkEntries r
def uptoBulkEntry {H : Type} : Lit × DataW H → Nat
  | (.string bytes, d) => bytes.length + uptoBulk d + 1
  | (_, d) => uptoBulk d + 1
 end
def uptoSmall : (H : Type) → List (DataW H) → Bool := fun _ ds => decide (uptoBulkAll ds ≤ 1048576)
def OpenSpec.upto (s : _root_.Go.ChangeSpec) : _root_.Go.OpenSpec := { _root_.Go.OpenSpec.ofChange s with cond := some uptoSmall }

/-- 'trustquorumlaw05.SlicesSatisfy', WHERE WHAT IT READS IS OF BULK AT MOST 1048576: true; the input reads as it did. -/
def slicesSatisfyUptoRow : OpenClaim := { program := "ytidnnjgiogklaaa", sum := "c11967fe795426b73d0ebd5c13cb93d8809d8b63f872de6b7ec08b020ee04f0a", func := "trustquorum/trustquorumlaw05.SlicesSatisfy", spec := "slicesSatisfy", unfollowed := true, recurses := true, apart := false, narrowed := true }
def SlicesSatisfyUptoSaid : Prop := slicesSatisfyUptoRow.holds Try.pinned (OpenSpec.upto slicesSatisfySpec)

/-- 'trustquorumlaw05.SlicesDual', WHERE WHAT IT READS IS OF BULK AT MOST 1048576: true; the input reads as it did. -/
def slicesDualUptoRow : OpenClaim := { program := "ytidnnjgiogklaaa", sum := "c11967fe795426b73d0ebd5c13cb93d8809d8b63f872de6b7ec08b020ee04f0a", func := "trustquorum/trustquorumlaw05.SlicesDual", spec := "slicesDual", unfollowed := true, recurses := true, apart := false, narrowed := true }
def SlicesDualUptoSaid : Prop := slicesDualUptoRow.holds Try.pinned (OpenSpec.upto slicesDualSpec)

/-- 'trustquorumlaw05.SlicesEquivalent', WHERE WHAT IT READS IS OF BULK AT MOST 1048576: true; the input reads as it did. -/
def slicesEquivalentUptoRow : OpenClaim := { program := "ytidnnjgiogklaaa", sum := "c11967fe795426b73d0ebd5c13cb93d8809d8b63f872de6b7ec08b020ee04f0a", func := "trustquorum/trustquorumlaw05.SlicesEquivalent", spec := "slicesEquivalent", unfollowed := true, recurses := true, apart := false, narrowed := true }
def SlicesEquivalentUptoSaid : Prop := slicesEquivalentUptoRow.holds Try.pinned (OpenSpec.upto slicesEquivalentSpec)

end Rows
end Go.Proofs.Ytidnnjgiogklaaa

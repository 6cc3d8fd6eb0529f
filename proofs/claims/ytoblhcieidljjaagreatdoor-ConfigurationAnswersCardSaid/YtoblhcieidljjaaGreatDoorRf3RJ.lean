/- Walks: the reference's reader of layer 3: rest. What holds between its statements. -/
import Derived.Test.YtoblhcieidljjaaGreatDoorProg
import Derived.Test.YtoblhcieidljjaaGreatDoorRf3NJ
import Derived.Test.YtoblhcieidljjaaGreatDoorJG4
import Derived.Test.YtoblhcieidljjaaGreatDoorJG3
set_option linter.unusedSimpArgs false
set_option linter.unusedVariables false
namespace Go.Proofs.YtoblhcieidljjaaGreatDoor
open Go.RowKit

/-- Between two entries: what has been read of a trust's nodes and inner trusts; the reader stands before v. -/
def LoopF (w : World) (g : Nat) (S : ByteArray) (n : Nat) (nodes : List Int) (inner : List Tr) (v : List UInt8) (A1 : Option Addr) (c1 : Nat) (A2 : Option Addr) (c2 : Nat) (cells : List Value) (wr : World) : Prop :=
  Fr (some g) w wr ∧ w.heap.size + 2 ≤ wr.heap.size ∧ RfK wr g S v ∧ TB wr w.heap.size (.int .i64 0) (.slice none 0 0) (.slice none 0 0) ∧
  TB wr (w.heap.size + 1) (.int .i64 (n : Int)) (.slice A1 nodes.length c1) (.slice A2 inner.length c2) ∧
  wr.ownsRow (w.heap.size + 2) 3 1 (.slice A1 nodes.length c1) nodes.length (nodes.map (Value.int .i64)) ∧
  wr.ownsRow (w.heap.size + 2) 31 3 (.slice A2 inner.length c2) inner.length cells ∧ TrsD wr (D2 (w.heap.size + 2) wr (.slice A1 nodes.length c1) (.slice A2 inner.length c2)) cells inner ∧
  Apart (.slice A1 nodes.length c1) (.slice A2 inner.length c2) ∧ (∀ x ∈ nodes, 0 ≤ x ∧ x ≤ 9999) ∧ nodes.length + inner.length + v.length ≤ 6001

theorem LoopF.move {w : World} {g : Nat} {S : ByteArray} {n : Nat} {nodes : List Int} {inner : List Tr} {v v' : List UInt8} {A1 : Option Addr} {c1 : Nat} {A2 : Option Addr} {c2 : Nat} {cells : List Value} {wr w' : World}
    (h : LoopF w g S n nodes inner v A1 c1 A2 c2 cells wr) (hg : g < w.heap.size) (R : RfK w' g S v') (F : Fr (some g) wr w') (hv : v'.length ≤ v.length) : LoopF w g S n nodes inner v' A1 c1 A2 c2 cells w' := by
  obtain ⟨h1, h2, h3, h4, h5, h6, h7, h8, h9, h10, h11⟩ := h
  have hz := F.size
  exact ⟨h1.same F, by omega, R, h4.fr F (by simp; omega), h5.fr F (by simp; omega), own_fr h6 F (by simp; omega), own_fr h7 F (by simp; omega), TrsD.keep (d2_fr F (by simp; omega)) _ _ h8, h9, h10, by omega⟩
theorem LoopF.node {w : World} {g : Nat} {S : ByteArray} {n : Nat} {nodes : List Int} {inner : List Tr} {v : List UInt8} {A1 : Option Addr} {c1 : Nat} {A2 : Option Addr} {c2 : Nat} {cells : List Value} {wr w' : World} {k : Nat} {A' : Option Addr} {c' : Nat}
    (h : LoopF w g S n nodes inner v A1 c1 A2 c2 cells wr) (hg : g < w.heap.size) (hk : k ≤ 9999) (own : w'.ownsRow (w.heap.size + 2) 3 1 (.slice A' (nodes.length + 1) c') (nodes.length + 1) (nodes.map (Value.int .i64) ++ [.int .i64 (k : Int)]))
    (F : Fr (Value.slice A1 nodes.length c1).ownBlock wr w') (nb : NewOr wr.heap.size (.slice A1 nodes.length c1) (.slice A' (nodes.length + 1) c')) (hl : nodes.length + 1 + inner.length + v.length ≤ 6001) :
    LoopF w g S n (nodes ++ [(k : Int)]) inner v A' c' A2 c2 cells (w'.setCell ⟨w.heap.size + 1, 1, none⟩ (.slice A' (nodes.length + 1) c')) := by
  obtain ⟨h1, h2, h3, h4, h5, h6, h7, h8, h9, h10, h11⟩ := h
  have hz := F.size
  have G := Fr.set1 w' ⟨w.heap.size + 1, 1, none⟩ (.slice A' (nodes.length + 1) c')
  have hzG := G.size
  have og := own_blk_ge h6
  have hl' : (nodes ++ [(k : Int)]).length = nodes.length + 1 := by simp
  refine ⟨(h1.own F (fun q e => by have := og q e; omega)).own G (by simp), by omega, (h3.fr F (own_ne h6 (by omega))).fr G (by simp; omega), (h4.fr F (own_ne h6 (by omega))).fr G (by simp), ?_, ?_, ?_, ?_, ?_, ?_, ?_⟩
  · rw [hl']; exact (h5.fr F (own_ne h6 (by omega))).set1 _
  · rw [hl', List.map_append]; exact own_fr own G (by simp)
  · exact own_fr (own_other h7 F h9.symm) G (by simp)
  · rw [hl']; exact TrsD.keep (d2_fr G (by simp)) _ _ (TrsD.keep (d2_app F nb) _ _ h8)
  · rw [hl']; exact h9.app (H := wr.heap.size) (fun b hb => (h7.lt b hb).2) nb
  · intro x hx
    rcases List.mem_append.1 hx with hx | hx
    · exact h10 x hx
    · simp at hx; omega
  · rw [hl']; exact hl
theorem LoopF.inner_ {w : World} {g : Nat} {S : ByteArray} {n : Nat} {nodes : List Int} {inner : List Tr} {v : List UInt8} {A1 : Option Addr} {c1 : Nat} {A2 : Option Addr} {c2 : Nat} {cells : List Value} {wr w' : World} {t : Tr} {B' : Nat} {th : Int} {a1 : Option Addr} {n1 e1 : Nat} {a2 : Option Addr} {n2 e2 : Nat} {A' : Option Addr} {c' : Nat}
    (h : LoopF w g S n nodes inner v A1 c1 A2 c2 cells wr) (hg : g < w.heap.size) (hB : w.heap.size + 2 ≤ B') (hT : TrD wr (Dn B' wr) (.agg #[.int .i64 th, .slice a1 n1 e1, .slice a2 n2 e2]) t) (hv1 : ∀ b, (Value.slice A1 nodes.length c1).ownBlock = some b → b < B') (hv2 : ∀ b, (Value.slice A2 inner.length c2).ownBlock = some b → b < B')
    (own : w'.ownsRow (w.heap.size + 2) 31 3 (.slice A' (inner.length + 1) c') (inner.length + 1) (cells ++ [.int .i64 th, .slice a1 n1 e1, .slice a2 n2 e2]))
    (F : Fr (Value.slice A2 inner.length c2).ownBlock wr w') (nb : NewOr wr.heap.size (.slice A2 inner.length c2) (.slice A' (inner.length + 1) c')) (hl : nodes.length + inner.length + 1 + v.length ≤ 6001) :
    LoopF w g S n nodes (inner ++ [t]) v A1 c1 A' c' (cells ++ [.int .i64 th, .slice a1 n1 e1, .slice a2 n2 e2]) (w'.setCell ⟨w.heap.size + 1, 2, none⟩ (.slice A' (inner.length + 1) c')) := by
  obtain ⟨h1, h2, h3, h4, h5, h6, h7, h8, h9, h10, h11⟩ := h
  have hz := F.size
  have G := Fr.set1 w' ⟨w.heap.size + 1, 2, none⟩ (.slice A' (inner.length + 1) c')
  have hzG := G.size
  have og := own_blk_ge h7
  have hl' : (inner ++ [t]).length = inner.length + 1 := by simp
  refine ⟨(h1.own F (fun q e => by have := og q e; omega)).own G (by simp), by omega, (h3.fr F (own_ne h7 (by omega))).fr G (by simp; omega), (h4.fr F (own_ne h7 (by omega))).fr G (by simp), ?_, ?_, ?_, ?_, ?_, h10, ?_⟩
  · rw [hl']; exact (h5.fr F (own_ne h7 (by omega))).set2 _
  · exact own_fr (own_other h6 F h9) G (by simp)
  · rw [hl']; exact own_fr own G (by simp)
  · rw [hl']
    exact TrsD.append (TrsD.keep (d2_fr G (by simp)) _ _ (TrsD.keep (d2_app' F nb) _ _ h8))
      (by simp only [TrsD]; exact ⟨_, _, _, [], rfl, TrD.keep (d2_fr G (by simp)) _ _ (TrD.keep (d2_app' F nb) _ _ (TrD.keep (dn_d2 hB hv1 hv2) _ _ hT)), rfl⟩)
  · rw [hl']; exact (h9.symm.app (H := wr.heap.size) (fun b hb => (h6.lt b hb).2) nb).symm
  · rw [hl']; omega
/-- What stands in the trust's block, written into the result's, is the trust. -/
theorem LoopF.done {w : World} {g : Nat} {S : ByteArray} {n : Nat} {nodes : List Int} {inner : List Tr} {v : List UInt8} {A1 : Option Addr} {c1 : Nat} {A2 : Option Addr} {c2 : Nat} {cells : List Value} {wr w' : World}
    (h : LoopF w g S n nodes inner v A1 c1 A2 c2 cells wr) (hn : n ≤ 9999) (F : Fr (some w.heap.size) wr w') : TrD w' (Dn w.heap.size w') (.agg #[.int .i64 (n : Int), .slice A1 nodes.length c1, .slice A2 inner.length c2]) (.mk n nodes inner) := by
  obtain ⟨h1, h2, h3, h4, h5, h6, h7, h8, h9, h10, h11⟩ := h
  have hk : ∀ k, Dn (w.heap.size + 2) wr k → Dn w.heap.size w' k ∧ w'.heap[k]? = wr.heap[k]? := fun k hk => by
    obtain ⟨k0, e0⟩ := dn_fr (B := w.heap.size + 2) F (by simp) k hk
    exact ⟨⟨by have := k0.1; omega, k0.2⟩, e0⟩
  exact TrD.mk_ (by constructor <;> omega) ((SlD.own_dn h6).keep hk) (fun x hx => by have := h10 x hx; constructor <;> omega) ((SlD.own_dn h7).keep hk) (by omega) (by omega) (TrsD.keep hk _ _ (TrsD.keep d2_dn _ _ h8))
/-- What rest leaves. -/
def RestF (p : Option Tr × List UInt8) (w : World) (g : Nat) (S : ByteArray) (e : Ending) (w' : World) : Prop :=
  ∃ (th : Int) (A1 : Option Addr) (n1 c1 : Nat) (A2 : Option Addr) (n2 c2 : Nat) (b : Bool), e = .returned (.tuple #[.agg #[.int .i64 th, .slice A1 n1 c1, .slice A2 n2 c2], .bool b]) ∧ b = p.1.isSome ∧ RfK w' g S p.2 ∧ Fr (some g) w w' ∧
    ∀ t, p.1 = some t → TrD w' (Dn w.heap.size w') (.agg #[.int .i64 th, .slice A1 n1 c1, .slice A2 n2 c2]) t
theorem LoopF.no {w : World} {g : Nat} {S : ByteArray} {n : Nat} {nodes : List Int} {inner : List Tr} {v : List UInt8} {A1 : Option Addr} {c1 : Nat} {A2 : Option Addr} {c2 : Nat} {cells : List Value} {wr : World}
    (h : LoopF w g S n nodes inner v A1 c1 A2 c2 cells wr) (hg : g < w.heap.size) : RestF (none, v) w g S (.returned (.tuple #[.agg #[.int .i64 (n : Int), .slice A1 nodes.length c1, .slice A2 inner.length c2], .bool false]))
      (((wr.setCell ⟨w.heap.size, 0, none⟩ (.int .i64 (n : Int))).setCell ⟨w.heap.size, 1, none⟩ (.slice A1 nodes.length c1)).setCell ⟨w.heap.size, 2, none⟩ (.slice A2 inner.length c2)) := by
  have F := fr_fill3 wr w.heap.size (.int .i64 (n : Int)) (.slice A1 nodes.length c1) (.slice A2 inner.length c2)
  exact ⟨_, _, _, _, _, _, _, _, rfl, rfl, h.2.2.1.fr F (by simp; omega), h.1.own F (by simp), fun t ht => by cases ht⟩
theorem LoopF.yes {w : World} {g : Nat} {S : ByteArray} {n : Nat} {nodes : List Int} {inner : List Tr} {v : List UInt8} {A1 : Option Addr} {c1 : Nat} {A2 : Option Addr} {c2 : Nat} {cells : List Value} {wr : World}
    (h : LoopF w g S n nodes inner v A1 c1 A2 c2 cells wr) (hg : g < w.heap.size) (hn : n ≤ 9999) : RestF (some (.mk n nodes inner), v) w g S (.returned (.tuple #[.agg #[.int .i64 (n : Int), .slice A1 nodes.length c1, .slice A2 inner.length c2], .bool true]))
      (((wr.setCell ⟨w.heap.size, 0, none⟩ (.int .i64 (n : Int))).setCell ⟨w.heap.size, 1, none⟩ (.slice A1 nodes.length c1)).setCell ⟨w.heap.size, 2, none⟩ (.slice A2 inner.length c2)) := by
  have F := fr_fill3 wr w.heap.size (.int .i64 (n : Int)) (.slice A1 nodes.length c1) (.slice A2 inner.length c2)
  exact ⟨_, _, _, _, _, _, _, _, rfl, rfl, h.2.2.1.fr F (by simp; omega), h.1.own F (by simp), fun t ht => by injection ht with ht; subst ht; exact h.done hn F⟩

end Go.Proofs.YtoblhcieidljjaaGreatDoor

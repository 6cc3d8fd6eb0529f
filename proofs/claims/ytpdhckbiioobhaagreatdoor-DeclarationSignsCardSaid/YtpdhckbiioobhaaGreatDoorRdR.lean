/- Walks: the reader of notation: rest. What holds between its statements. -/
import Derived.Test.YtpdhckbiioobhaaGreatDoorProg
import Derived.Test.YtpdhckbiioobhaaGreatDoorRdN
import Derived.Test.YtpdhckbiioobhaaGreatDoorTB
import Derived.Test.YtpdhckbiioobhaaGreatDoorEi
namespace Go.Proofs.YtpdhckbiioobhaaGreatDoor
open Go.RowKit

/-- The blocks from B on that are the row neither of v nor of u. -/
def D2 (B : Nat) (w : World) (v u : Value) : Nat → Prop := fun b => B ≤ b ∧ b < w.heap.size ∧ v.ownBlock ≠ some b ∧ u.ownBlock ≠ some b
/-- Two slices lie in different blocks. -/
def Apart (v u : Value) : Prop := ∀ b, v.ownBlock = some b → u.ownBlock ≠ some b
theorem Apart.symm {v u : Value} (h : Apart v u) : Apart u v := fun b hu hv => h b hv hu
theorem Apart.app {H : Nat} {v v' u : Value} (h : Apart v u) (hu : ∀ b, u.ownBlock = some b → b < H) (nb : NewOr H v v') : Apart v' u := fun b hv hb => by
  rcases nb with e | ⟨g, e, hg⟩
  · rw [e] at hv; exact h b hv hb
  · rw [e] at hv; injection hv with hv; have := hu b hb; omega
theorem d2_app {B : Nat} {w w' : World} {v v' u : Value} (f : Fr v.ownBlock w w') (nb : NewOr w.heap.size v v') : ∀ k, D2 B w v u k → D2 B w' v' u k ∧ w'.heap[k]? = w.heap[k]? := fun k hk => by
  refine ⟨⟨hk.1, Nat.lt_of_lt_of_le hk.2.1 f.size, fun e => ?_, hk.2.2.2⟩, f.block k hk.2.1 (fun e => hk.2.2.1 e.symm)⟩
  rcases nb with h | ⟨g, h, hg⟩
  · rw [h] at e; exact hk.2.2.1 e
  · rw [h] at e; injection e with e; have := hk.2.1; omega
theorem d2_app' {B : Nat} {w w' : World} {v u u' : Value} (f : Fr u.ownBlock w w') (nb : NewOr w.heap.size u u') : ∀ k, D2 B w v u k → D2 B w' v u' k ∧ w'.heap[k]? = w.heap[k]? := fun k hk => by
  refine ⟨⟨hk.1, Nat.lt_of_lt_of_le hk.2.1 f.size, hk.2.2.1, fun e => ?_⟩, f.block k hk.2.1 (fun e => hk.2.2.2 e.symm)⟩
  rcases nb with h | ⟨g, h, hg⟩
  · rw [h] at e; exact hk.2.2.2 e
  · rw [h] at e; injection e with e; have := hk.2.1; omega
theorem d2_fr {B : Nat} {w w' : World} {v u : Value} {r : Option Nat} (f : Fr r w w') (hr : ∀ g, r = some g → g < B) : ∀ k, D2 B w v u k → D2 B w' v u k ∧ w'.heap[k]? = w.heap[k]? := fun k hk =>
  ⟨⟨hk.1, Nat.lt_of_lt_of_le hk.2.1 f.size, hk.2.2⟩, f.block k hk.2.1 (fun e => by have := hr k e.symm; have := hk.1; omega)⟩
theorem dn_d2 {B B' : Nat} {w : World} {v u : Value} (h : B ≤ B') (hv : ∀ g, v.ownBlock = some g → g < B') (hu : ∀ g, u.ownBlock = some g → g < B') : ∀ k, Dn B' w k → D2 B w v u k ∧ w.heap[k]? = w.heap[k]? := fun k hk =>
  ⟨⟨Nat.le_trans h hk.1, hk.2, fun e => by have := hv k e; have := hk.1; omega, fun e => by have := hu k e; have := hk.1; omega⟩, rfl⟩
theorem d2_dn {B : Nat} {w : World} {v u : Value} : ∀ k, D2 B w v u k → Dn B w k ∧ w.heap[k]? = w.heap[k]? := fun _ hk => ⟨⟨hk.1, hk.2.1⟩, rfl⟩
theorem own_other {w w' : World} {base : Nat} {e : TypeId} {size n : Nat} {v u : Value} {xs : List Value} (h : w.ownsRow base e size v n xs) (f : Fr u.ownBlock w w') (ha : Apart v u) : w'.ownsRow base e size v n xs := by
  refine h.kept f ?_
  cases hv : v.ownBlock with
  | none => exact .inl rfl
  | some k => exact .inr fun e => ha k hv e.symm

/-- Between two entries: what has been read of a trust's nodes and inner trusts; the reader stands before v. -/
def LoopI (w : World) (g : Nat) (S : ByteArray) (n : Nat) (nodes : List Int) (inner : List Tr) (v : List UInt8) (A1 : Option Addr) (c1 : Nat) (A2 : Option Addr) (c2 : Nat) (cells : List Value) (wr : World) : Prop :=
  Fr (some g) w wr ∧ w.heap.size + 2 ≤ wr.heap.size ∧ RdS wr g S v ∧ TB wr w.heap.size (.int .i64 0) (.slice none 0 0) (.slice none 0 0) ∧
  TB wr (w.heap.size + 1) (.int .i64 (n : Int)) (.slice A1 nodes.length c1) (.slice A2 inner.length c2) ∧
  wr.ownsRow (w.heap.size + 2) 3 1 (.slice A1 nodes.length c1) nodes.length (nodes.map (Value.int .i64)) ∧
  wr.ownsRow (w.heap.size + 2) 31 3 (.slice A2 inner.length c2) inner.length cells ∧ TrsD wr (D2 (w.heap.size + 2) wr (.slice A1 nodes.length c1) (.slice A2 inner.length c2)) cells inner ∧
  Apart (.slice A1 nodes.length c1) (.slice A2 inner.length c2) ∧ (∀ x ∈ nodes, 0 ≤ x ∧ x ≤ 9999) ∧ nodes.length + inner.length + v.length ≤ 6001

theorem LoopI.move {w : World} {g : Nat} {S : ByteArray} {n : Nat} {nodes : List Int} {inner : List Tr} {v v' : List UInt8} {A1 : Option Addr} {c1 : Nat} {A2 : Option Addr} {c2 : Nat} {cells : List Value} {wr w' : World}
    (h : LoopI w g S n nodes inner v A1 c1 A2 c2 cells wr) (hg : g < w.heap.size) (R : RdS w' g S v') (F : Fr (some g) wr w') (hv : v'.length ≤ v.length) : LoopI w g S n nodes inner v' A1 c1 A2 c2 cells w' := by
  obtain ⟨h1, h2, h3, h4, h5, h6, h7, h8, h9, h10, h11⟩ := h
  have hz := F.size
  exact ⟨h1.same F, by omega, R, h4.fr F (by simp; omega), h5.fr F (by simp; omega), own_fr h6 F (by simp; omega), own_fr h7 F (by simp; omega), TrsD.keep (d2_fr F (by simp; omega)) _ _ h8, h9, h10, by omega⟩
theorem LoopI.node {w : World} {g : Nat} {S : ByteArray} {n : Nat} {nodes : List Int} {inner : List Tr} {v : List UInt8} {A1 : Option Addr} {c1 : Nat} {A2 : Option Addr} {c2 : Nat} {cells : List Value} {wr w' : World} {k : Nat} {A' : Option Addr} {c' : Nat}
    (h : LoopI w g S n nodes inner v A1 c1 A2 c2 cells wr) (hg : g < w.heap.size) (hk : k ≤ 9999) (own : w'.ownsRow (w.heap.size + 2) 3 1 (.slice A' (nodes.length + 1) c') (nodes.length + 1) (nodes.map (Value.int .i64) ++ [.int .i64 (k : Int)]))
    (F : Fr (Value.slice A1 nodes.length c1).ownBlock wr w') (nb : NewOr wr.heap.size (.slice A1 nodes.length c1) (.slice A' (nodes.length + 1) c')) (hl : nodes.length + 1 + inner.length + v.length ≤ 6001) :
    LoopI w g S n (nodes ++ [(k : Int)]) inner v A' c' A2 c2 cells (w'.setCell ⟨w.heap.size + 1, 1, none⟩ (.slice A' (nodes.length + 1) c')) := by
  obtain ⟨h1, h2, h3, h4, h5, h6, h7, h8, h9, h10, h11⟩ := h
  have hz := F.size
  have G := Fr.set1 w' ⟨w.heap.size + 1, 1, none⟩ (.slice A' (nodes.length + 1) c')
  have hzG := G.size
  have og := own_blk_ge h6
  have hl' : (nodes ++ [(k : Int)]).length = nodes.length + 1 := by simp
  refine ⟨(h1.own F (fun q e => by have := og q e; omega)).own G (by simp), by omega, (h3.fr F (own_ne h6 (by omega))).fr G (by simp; omega), (h4.fr F (own_ne h6 (by omega))).fr G (by simp), ?_, ?_, ?_, ?_, ?_, ?_, ?_⟩
  · rw [hl']; exact (h5.fr F (own_ne h6 (by omega))).set1 _
  · rw [hl', List.map_append]; exact own_fr own G (by simp)
  · exact own_fr (own_other h7 F h9.symm) G (by simp)
  · rw [hl']; exact TrsD.keep (d2_fr G (by simp)) _ _ (TrsD.keep (d2_app F nb) _ _ h8)
  · rw [hl']; exact h9.app (H := wr.heap.size) (fun b hb => (h7.lt b hb).2) nb
  · intro x hx
    rcases List.mem_append.1 hx with hx | hx
    · exact h10 x hx
    · simp at hx; omega
  · rw [hl']; exact hl
theorem LoopI.inner_ {w : World} {g : Nat} {S : ByteArray} {n : Nat} {nodes : List Int} {inner : List Tr} {v : List UInt8} {A1 : Option Addr} {c1 : Nat} {A2 : Option Addr} {c2 : Nat} {cells : List Value} {wr w' : World} {t : Tr} {B' : Nat} {th : Int} {a1 : Option Addr} {n1 e1 : Nat} {a2 : Option Addr} {n2 e2 : Nat} {A' : Option Addr} {c' : Nat}
    (h : LoopI w g S n nodes inner v A1 c1 A2 c2 cells wr) (hg : g < w.heap.size) (hB : w.heap.size + 2 ≤ B') (hT : TrD wr (Dn B' wr) (.agg #[.int .i64 th, .slice a1 n1 e1, .slice a2 n2 e2]) t) (hv1 : ∀ b, (Value.slice A1 nodes.length c1).ownBlock = some b → b < B') (hv2 : ∀ b, (Value.slice A2 inner.length c2).ownBlock = some b → b < B')
    (own : w'.ownsRow (w.heap.size + 2) 31 3 (.slice A' (inner.length + 1) c') (inner.length + 1) (cells ++ [.int .i64 th, .slice a1 n1 e1, .slice a2 n2 e2]))
    (F : Fr (Value.slice A2 inner.length c2).ownBlock wr w') (nb : NewOr wr.heap.size (.slice A2 inner.length c2) (.slice A' (inner.length + 1) c')) (hl : nodes.length + inner.length + 1 + v.length ≤ 6001) :
    LoopI w g S n nodes (inner ++ [t]) v A1 c1 A' c' (cells ++ [.int .i64 th, .slice a1 n1 e1, .slice a2 n2 e2]) (w'.setCell ⟨w.heap.size + 1, 2, none⟩ (.slice A' (inner.length + 1) c')) := by
  obtain ⟨h1, h2, h3, h4, h5, h6, h7, h8, h9, h10, h11⟩ := h
  have hz := F.size
  have G := Fr.set1 w' ⟨w.heap.size + 1, 2, none⟩ (.slice A' (inner.length + 1) c')
  have hzG := G.size
  have og := own_blk_ge h7
  have hl' : (inner ++ [t]).length = inner.length + 1 := by simp
  refine ⟨(h1.own F (fun q e => by have := og q e; omega)).own G (by simp), by omega, (h3.fr F (own_ne h7 (by omega))).fr G (by simp; omega), (h4.fr F (own_ne h7 (by omega))).fr G (by simp), ?_, ?_, ?_, ?_, ?_, h10, ?_⟩
  · rw [hl']; exact (h5.fr F (own_ne h7 (by omega))).set2 _
  · exact own_fr (own_other h6 F h9) G (by simp)
  · rw [hl']; exact own_fr own G (by simp)
  · rw [hl']
    exact TrsD.append (TrsD.keep (d2_fr G (by simp)) _ _ (TrsD.keep (d2_app' F nb) _ _ h8))
      (by simp only [TrsD]; exact ⟨_, _, _, [], rfl, TrD.keep (d2_fr G (by simp)) _ _ (TrD.keep (d2_app' F nb) _ _ (TrD.keep (dn_d2 hB hv1 hv2) _ _ hT)), rfl⟩)
  · rw [hl']; exact (h9.symm.app (H := wr.heap.size) (fun b hb => (h6.lt b hb).2) nb).symm
  · rw [hl']; omega
/-- What stands in the trust's block, written into the result's, is the trust. -/
theorem LoopI.done {w : World} {g : Nat} {S : ByteArray} {n : Nat} {nodes : List Int} {inner : List Tr} {v : List UInt8} {A1 : Option Addr} {c1 : Nat} {A2 : Option Addr} {c2 : Nat} {cells : List Value} {wr w' : World}
    (h : LoopI w g S n nodes inner v A1 c1 A2 c2 cells wr) (hn : n ≤ 9999) (F : Fr (some w.heap.size) wr w') : TrD w' (Dn w.heap.size w') (.agg #[.int .i64 (n : Int), .slice A1 nodes.length c1, .slice A2 inner.length c2]) (.mk n nodes inner) := by
  obtain ⟨h1, h2, h3, h4, h5, h6, h7, h8, h9, h10, h11⟩ := h
  have hk : ∀ k, Dn (w.heap.size + 2) wr k → Dn w.heap.size w' k ∧ w'.heap[k]? = wr.heap[k]? := fun k hk => by
    obtain ⟨k0, e0⟩ := dn_fr (B := w.heap.size + 2) F (by simp) k hk
    exact ⟨⟨by have := k0.1; omega, k0.2⟩, e0⟩
  exact TrD.mk_ (by constructor <;> omega) ((SlD.own_dn h6).keep hk) (fun x hx => by have := h10 x hx; constructor <;> omega) ((SlD.own_dn h7).keep hk) (by omega) (by omega) (TrsD.keep hk _ _ (TrsD.keep d2_dn _ _ h8))
theorem RdS.left {w : World} {g : Nat} {S : ByteArray} {u : List UInt8} (h : RdS w g S u) : S.size - atOf w g = u.length := by
  obtain ⟨k, T, h1, h2, _⟩ := h.parts
  rw [h1.atOf]
  omega
end Go.Proofs.YtpdhckbiioobhaaGreatDoor

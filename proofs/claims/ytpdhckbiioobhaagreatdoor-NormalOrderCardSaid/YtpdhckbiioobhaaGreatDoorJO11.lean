/- Some texts of this claim, joined: contracts of the functions that it reaches, and plain laws. -/
import Derived.Test.YtpdhckbiioobhaaGreatDoorJO1
import Derived.Test.YtpdhckbiioobhaaGreatDoorProg
import Derived.Test.YtpdhckbiioobhaaGreatDoorJO10
import Derived.Test.YtpdhckbiioobhaaGreatDoorShelf
import Derived.Lib.ItoaLen
import Derived.Test.YtpdhckbiioobhaaGreatDoorJO7
import Derived.Test.YtpdhckbiioobhaaGreatDoorJO4

/- Plain words: two rows apart. -/
namespace Go.Proofs.YtpdhckbiioobhaaGreatDoor
open Go.RowKit

/-- The blocks from B on that are the row neither of v nor of u. -/
def D2 (B : Nat) (w : World) (v u : Value) : Nat → Prop := fun b => B ≤ b ∧ b < w.heap.size ∧ v.ownBlock ≠ some b ∧ u.ownBlock ≠ some b
/-- Two slices lie in different blocks. -/
def Apart (v u : Value) : Prop := ∀ b, v.ownBlock = some b → u.ownBlock ≠ some b
theorem Apart.symm {v u : Value} (h : Apart v u) : Apart u v := fun b hu hv => h b hv hu
theorem Apart.app {H : Nat} {v v' u : Value} (h : Apart v u) (hu : ∀ b, u.ownBlock = some b → b < H) (nb : NewOr H v v') : Apart v' u := fun b hv hb => by
  rcases nb with e | ⟨g, e, hg⟩
  · rw [e] at hv; exact h b hv hb
  · rw [e] at hv; injection hv with hv; have := hu b hb; omega
theorem d2_app {B : Nat} {w w' : World} {v v' u : Value} (f : Fr v.ownBlock w w') (nb : NewOr w.heap.size v v') : ∀ k, D2 B w v u k → D2 B w' v' u k ∧ w'.heap[k]? = w.heap[k]? := fun k hk => by
  refine ⟨⟨hk.1, Nat.lt_of_lt_of_le hk.2.1 f.size, fun e => ?_, hk.2.2.2⟩, f.block k hk.2.1 (fun e => hk.2.2.1 e.symm)⟩
  rcases nb with h | ⟨g, h, hg⟩
  · rw [h] at e; exact hk.2.2.1 e
  · rw [h] at e; injection e with e; have := hk.2.1; omega
theorem d2_app' {B : Nat} {w w' : World} {v u u' : Value} (f : Fr u.ownBlock w w') (nb : NewOr w.heap.size u u') : ∀ k, D2 B w v u k → D2 B w' v u' k ∧ w'.heap[k]? = w.heap[k]? := fun k hk => by
  refine ⟨⟨hk.1, Nat.lt_of_lt_of_le hk.2.1 f.size, hk.2.2.1, fun e => ?_⟩, f.block k hk.2.1 (fun e => hk.2.2.2 e.symm)⟩
  rcases nb with h | ⟨g, h, hg⟩
  · rw [h] at e; exact hk.2.2.2 e
  · rw [h] at e; injection e with e; have := hk.2.1; omega
theorem d2_fr {B : Nat} {w w' : World} {v u : Value} {r : Option Nat} (f : Fr r w w') (hr : ∀ g, r = some g → g < B) : ∀ k, D2 B w v u k → D2 B w' v u k ∧ w'.heap[k]? = w.heap[k]? := fun k hk =>
  ⟨⟨hk.1, Nat.lt_of_lt_of_le hk.2.1 f.size, hk.2.2⟩, f.block k hk.2.1 (fun e => by have := hr k e.symm; have := hk.1; omega)⟩
theorem dn_d2 {B B' : Nat} {w : World} {v u : Value} (h : B ≤ B') (hv : ∀ g, v.ownBlock = some g → g < B') (hu : ∀ g, u.ownBlock = some g → g < B') : ∀ k, Dn B' w k → D2 B w v u k ∧ w.heap[k]? = w.heap[k]? := fun k hk =>
  ⟨⟨Nat.le_trans h hk.1, hk.2, fun e => by have := hv k e; have := hk.1; omega, fun e => by have := hu k e; have := hk.1; omega⟩, rfl⟩
theorem d2_dn {B : Nat} {w : World} {v u : Value} : ∀ k, D2 B w v u k → Dn B w k ∧ w.heap[k]? = w.heap[k]? := fun _ hk => ⟨⟨hk.1, hk.2.1⟩, rfl⟩
theorem own_other {w w' : World} {base : Nat} {e : TypeId} {size n : Nat} {v u : Value} {xs : List Value} (h : w.ownsRow base e size v n xs) (f : Fr u.ownBlock w w') (ha : Apart v u) : w'.ownsRow base e size v n xs := by
  refine h.kept f ?_
  cases hv : v.ownBlock with
  | none => exact .inl rfl
  | some k => exact .inr fun e => ha k hv e.symm

end Go.Proofs.YtpdhckbiioobhaaGreatDoor

/- Walks: the reference's reader of layer 3: rest. What holds between its statements. -/
namespace Go.Proofs.YtpdhckbiioobhaaGreatDoor
open Go.RowKit

/-- Between two entries: what has been read of a trust's nodes and inner trusts; the reader stands before v. -/
def LoopF (w : World) (g : Nat) (S : ByteArray) (n : Nat) (nodes : List Int) (inner : List Tr) (v : List UInt8) (A1 : Option Addr) (c1 : Nat) (A2 : Option Addr) (c2 : Nat) (cells : List Value) (wr : World) : Prop :=
  Fr (some g) w wr ∧ w.heap.size + 2 ≤ wr.heap.size ∧ RfK wr g S v ∧ TB wr w.heap.size (.int .i64 0) (.slice none 0 0) (.slice none 0 0) ∧
  TB wr (w.heap.size + 1) (.int .i64 (n : Int)) (.slice A1 nodes.length c1) (.slice A2 inner.length c2) ∧
  wr.ownsRow (w.heap.size + 2) 3 1 (.slice A1 nodes.length c1) nodes.length (nodes.map (Value.int .i64)) ∧
  wr.ownsRow (w.heap.size + 2) 31 3 (.slice A2 inner.length c2) inner.length cells ∧ TrsD wr (D2 (w.heap.size + 2) wr (.slice A1 nodes.length c1) (.slice A2 inner.length c2)) cells inner ∧
  Apart (.slice A1 nodes.length c1) (.slice A2 inner.length c2) ∧ (∀ x ∈ nodes, 0 ≤ x ∧ x ≤ 9999) ∧ nodes.length + inner.length + v.length ≤ 6001

theorem LoopF.move {w : World} {g : Nat} {S : ByteArray} {n : Nat} {nodes : List Int} {inner : List Tr} {v v' : List UInt8} {A1 : Option Addr} {c1 : Nat} {A2 : Option Addr} {c2 : Nat} {cells : List Value} {wr w' : World}
    (h : LoopF w g S n nodes inner v A1 c1 A2 c2 cells wr) (hg : g < w.heap.size) (R : RfK w' g S v') (F : Fr (some g) wr w') (hv : v'.length ≤ v.length) : LoopF w g S n nodes inner v' A1 c1 A2 c2 cells w' := by
  obtain ⟨h1, h2, h3, h4, h5, h6, h7, h8, h9, h10, h11⟩ := h
  have hz := F.size
  exact ⟨h1.same F, by omega, R, h4.fr F (by simp; omega), h5.fr F (by simp; omega), own_fr h6 F (by simp; omega), own_fr h7 F (by simp; omega), TrsD.keep (d2_fr F (by simp; omega)) _ _ h8, h9, h10, by omega⟩
theorem LoopF.node {w : World} {g : Nat} {S : ByteArray} {n : Nat} {nodes : List Int} {inner : List Tr} {v : List UInt8} {A1 : Option Addr} {c1 : Nat} {A2 : Option Addr} {c2 : Nat} {cells : List Value} {wr w' : World} {k : Nat} {A' : Option Addr} {c' : Nat}
    (h : LoopF w g S n nodes inner v A1 c1 A2 c2 cells wr) (hg : g < w.heap.size) (hk : k ≤ 9999) (own : w'.ownsRow (w.heap.size + 2) 3 1 (.slice A' (nodes.length + 1) c') (nodes.length + 1) (nodes.map (Value.int .i64) ++ [.int .i64 (k : Int)]))
    (F : Fr (Value.slice A1 nodes.length c1).ownBlock wr w') (nb : NewOr wr.heap.size (.slice A1 nodes.length c1) (.slice A' (nodes.length + 1) c')) (hl : nodes.length + 1 + inner.length + v.length ≤ 6001) :
    LoopF w g S n (nodes ++ [(k : Int)]) inner v A' c' A2 c2 cells (w'.setCell ⟨w.heap.size + 1, 1, none⟩ (.slice A' (nodes.length + 1) c')) := by
  obtain ⟨h1, h2, h3, h4, h5, h6, h7, h8, h9, h10, h11⟩ := h
  have hz := F.size
  have G := Fr.set1 w' ⟨w.heap.size + 1, 1, none⟩ (.slice A' (nodes.length + 1) c')
  have hzG := G.size
  have og := own_blk_ge h6
  have hl' : (nodes ++ [(k : Int)]).length = nodes.length + 1 := by simp
  refine ⟨(h1.own F (fun q e => by have := og q e; omega)).own G (by simp), by omega, (h3.fr F (own_ne h6 (by omega))).fr G (by simp; omega), (h4.fr F (own_ne h6 (by omega))).fr G (by simp), ?_, ?_, ?_, ?_, ?_, ?_, ?_⟩
  · rw [hl']; exact (h5.fr F (own_ne h6 (by omega))).set1 _
  · rw [hl', List.map_append]; exact own_fr own G (by simp)
  · exact own_fr (own_other h7 F h9.symm) G (by simp)
  · rw [hl']; exact TrsD.keep (d2_fr G (by simp)) _ _ (TrsD.keep (d2_app F nb) _ _ h8)
  · rw [hl']; exact h9.app (H := wr.heap.size) (fun b hb => (h7.lt b hb).2) nb
  · intro x hx
    rcases List.mem_append.1 hx with hx | hx
    · exact h10 x hx
    · simp at hx; omega
  · rw [hl']; exact hl
theorem LoopF.inner_ {w : World} {g : Nat} {S : ByteArray} {n : Nat} {nodes : List Int} {inner : List Tr} {v : List UInt8} {A1 : Option Addr} {c1 : Nat} {A2 : Option Addr} {c2 : Nat} {cells : List Value} {wr w' : World} {t : Tr} {B' : Nat} {th : Int} {a1 : Option Addr} {n1 e1 : Nat} {a2 : Option Addr} {n2 e2 : Nat} {A' : Option Addr} {c' : Nat}
    (h : LoopF w g S n nodes inner v A1 c1 A2 c2 cells wr) (hg : g < w.heap.size) (hB : w.heap.size + 2 ≤ B') (hT : TrD wr (Dn B' wr) (.agg #[.int .i64 th, .slice a1 n1 e1, .slice a2 n2 e2]) t) (hv1 : ∀ b, (Value.slice A1 nodes.length c1).ownBlock = some b → b < B') (hv2 : ∀ b, (Value.slice A2 inner.length c2).ownBlock = some b → b < B')
    (own : w'.ownsRow (w.heap.size + 2) 31 3 (.slice A' (inner.length + 1) c') (inner.length + 1) (cells ++ [.int .i64 th, .slice a1 n1 e1, .slice a2 n2 e2]))
    (F : Fr (Value.slice A2 inner.length c2).ownBlock wr w') (nb : NewOr wr.heap.size (.slice A2 inner.length c2) (.slice A' (inner.length + 1) c')) (hl : nodes.length + inner.length + 1 + v.length ≤ 6001) :
    LoopF w g S n nodes (inner ++ [t]) v A1 c1 A' c' (cells ++ [.int .i64 th, .slice a1 n1 e1, .slice a2 n2 e2]) (w'.setCell ⟨w.heap.size + 1, 2, none⟩ (.slice A' (inner.length + 1) c')) := by
  obtain ⟨h1, h2, h3, h4, h5, h6, h7, h8, h9, h10, h11⟩ := h
  have hz := F.size
  have G := Fr.set1 w' ⟨w.heap.size + 1, 2, none⟩ (.slice A' (inner.length + 1) c')
  have hzG := G.size
  have og := own_blk_ge h7
  have hl' : (inner ++ [t]).length = inner.length + 1 := by simp
  refine ⟨(h1.own F (fun q e => by have := og q e; omega)).own G (by simp), by omega, (h3.fr F (own_ne h7 (by omega))).fr G (by simp; omega), (h4.fr F (own_ne h7 (by omega))).fr G (by simp), ?_, ?_, ?_, ?_, ?_, h10, ?_⟩
  · rw [hl']; exact (h5.fr F (own_ne h7 (by omega))).set2 _
  · exact own_fr (own_other h6 F h9) G (by simp)
  · rw [hl']; exact own_fr own G (by simp)
  · rw [hl']
    exact TrsD.append (TrsD.keep (d2_fr G (by simp)) _ _ (TrsD.keep (d2_app' F nb) _ _ h8))
      (by simp only [TrsD]; exact ⟨_, _, _, [], rfl, TrD.keep (d2_fr G (by simp)) _ _ (TrD.keep (d2_app' F nb) _ _ (TrD.keep (dn_d2 hB hv1 hv2) _ _ hT)), rfl⟩)
  · rw [hl']; exact (h9.symm.app (H := wr.heap.size) (fun b hb => (h6.lt b hb).2) nb).symm
  · rw [hl']; omega
/-- What stands in the trust's block, written into the result's, is the trust. -/
theorem LoopF.done {w : World} {g : Nat} {S : ByteArray} {n : Nat} {nodes : List Int} {inner : List Tr} {v : List UInt8} {A1 : Option Addr} {c1 : Nat} {A2 : Option Addr} {c2 : Nat} {cells : List Value} {wr w' : World}
    (h : LoopF w g S n nodes inner v A1 c1 A2 c2 cells wr) (hn : n ≤ 9999) (F : Fr (some w.heap.size) wr w') : TrD w' (Dn w.heap.size w') (.agg #[.int .i64 (n : Int), .slice A1 nodes.length c1, .slice A2 inner.length c2]) (.mk n nodes inner) := by
  obtain ⟨h1, h2, h3, h4, h5, h6, h7, h8, h9, h10, h11⟩ := h
  have hk : ∀ k, Dn (w.heap.size + 2) wr k → Dn w.heap.size w' k ∧ w'.heap[k]? = wr.heap[k]? := fun k hk => by
    obtain ⟨k0, e0⟩ := dn_fr (B := w.heap.size + 2) F (by simp) k hk
    exact ⟨⟨by have := k0.1; omega, k0.2⟩, e0⟩
  exact TrD.mk_ (by constructor <;> omega) ((SlD.own_dn h6).keep hk) (fun x hx => by have := h10 x hx; constructor <;> omega) ((SlD.own_dn h7).keep hk) (by omega) (by omega) (TrsD.keep hk _ _ (TrsD.keep d2_dn _ _ h8))
/-- What rest leaves. -/
def RestF (p : Option Tr × List UInt8) (w : World) (g : Nat) (S : ByteArray) (e : Ending) (w' : World) : Prop :=
  ∃ (th : Int) (A1 : Option Addr) (n1 c1 : Nat) (A2 : Option Addr) (n2 c2 : Nat) (b : Bool), e = .returned (.tuple #[.agg #[.int .i64 th, .slice A1 n1 c1, .slice A2 n2 c2], .bool b]) ∧ b = p.1.isSome ∧ RfK w' g S p.2 ∧ Fr (some g) w w' ∧
    ∀ t, p.1 = some t → TrD w' (Dn w.heap.size w') (.agg #[.int .i64 th, .slice A1 n1 c1, .slice A2 n2 c2]) t
theorem LoopF.no {w : World} {g : Nat} {S : ByteArray} {n : Nat} {nodes : List Int} {inner : List Tr} {v : List UInt8} {A1 : Option Addr} {c1 : Nat} {A2 : Option Addr} {c2 : Nat} {cells : List Value} {wr : World}
    (h : LoopF w g S n nodes inner v A1 c1 A2 c2 cells wr) (hg : g < w.heap.size) : RestF (none, v) w g S (.returned (.tuple #[.agg #[.int .i64 (n : Int), .slice A1 nodes.length c1, .slice A2 inner.length c2], .bool false]))
      (((wr.setCell ⟨w.heap.size, 0, none⟩ (.int .i64 (n : Int))).setCell ⟨w.heap.size, 1, none⟩ (.slice A1 nodes.length c1)).setCell ⟨w.heap.size, 2, none⟩ (.slice A2 inner.length c2)) := by
  have F := fr_fill3 wr w.heap.size (.int .i64 (n : Int)) (.slice A1 nodes.length c1) (.slice A2 inner.length c2)
  exact ⟨_, _, _, _, _, _, _, _, rfl, rfl, h.2.2.1.fr F (by simp; omega), h.1.own F (by simp), fun t ht => by cases ht⟩
theorem LoopF.yes {w : World} {g : Nat} {S : ByteArray} {n : Nat} {nodes : List Int} {inner : List Tr} {v : List UInt8} {A1 : Option Addr} {c1 : Nat} {A2 : Option Addr} {c2 : Nat} {cells : List Value} {wr : World}
    (h : LoopF w g S n nodes inner v A1 c1 A2 c2 cells wr) (hg : g < w.heap.size) (hn : n ≤ 9999) : RestF (some (.mk n nodes inner), v) w g S (.returned (.tuple #[.agg #[.int .i64 (n : Int), .slice A1 nodes.length c1, .slice A2 inner.length c2], .bool true]))
      (((wr.setCell ⟨w.heap.size, 0, none⟩ (.int .i64 (n : Int))).setCell ⟨w.heap.size, 1, none⟩ (.slice A1 nodes.length c1)).setCell ⟨w.heap.size, 2, none⟩ (.slice A2 inner.length c2)) := by
  have F := fr_fill3 wr w.heap.size (.int .i64 (n : Int)) (.slice A1 nodes.length c1) (.slice A2 inner.length c2)
  exact ⟨_, _, _, _, _, _, _, _, rfl, rfl, h.2.2.1.fr F (by simp; omega), h.1.own F (by simp), fun t ht => by injection ht with ht; subst ht; exact h.done hn F⟩

end Go.Proofs.YtpdhckbiioobhaaGreatDoor

/- Walks: the reference's reader of layer 3: rest. -/
namespace Go.Proofs.YtpdhckbiioobhaaGreatDoor
open Go.RowKit

theorem tok_signs {P : ByteArray} (h : P = ⟨#[111, 102]⟩ ∨ P = ⟨#[40]⟩ ∨ P = ⟨#[41]⟩ ∨ P = ⟨#[44]⟩) (u : List UInt8) : (tok u = P.data.toList ↔ u.take P.size = P.data.toList) ∧ (tok u = P.data.toList → tokN u = P.size) ∧ P.size ≤ 6000 := by
  have hs : tok u = P.data.toList → tokN u = P.size := fun e => by rw [← tok_len, e, size_list]
  rcases h with rfl | rfl | rfl | rfl
  · exact ⟨tok_isof u, hs, by decide⟩
  · exact ⟨tok_isc (.inl rfl) u, hs, by decide⟩
  · exact ⟨tok_isc (.inr (.inl rfl)) u, hs, by decide⟩
  · exact ⟨tok_isc (.inr (.inr rfl)) u, hs, by decide⟩
theorem rtake_yes (g : Nat) (S P : ByteArray) (u : List UInt8) (w : World) (h : RfK w g S u) (hS : S.size ≤ 6001) (hp : tok u = P.data.toList) (hP : P = ⟨#[111, 102]⟩ ∨ P = ⟨#[40]⟩ ∨ P = ⟨#[41]⟩ ∨ P = ⟨#[44]⟩) :
    Calls Tryz.prog 207 #[.pointer (some ⟨g, 0, none⟩), .string P] w fun e w' => e = .returned (.bool true) ∧ RfK w' g S (nxt u) ∧ Fr (some g) w w' := by
  obtain ⟨h1, h2, h3⟩ := tok_signs hP u
  have := rsign_yes g S P u w h hS (h1.1 hp) h3
  rw [← h2 hp] at this
  exact this
theorem rtake_no (g : Nat) (S P : ByteArray) (u : List UInt8) (w : World) (h : RfK w g S u) (hS : S.size ≤ 6001) (hp : tok u ≠ P.data.toList) (hP : P = ⟨#[111, 102]⟩ ∨ P = ⟨#[40]⟩ ∨ P = ⟨#[41]⟩ ∨ P = ⟨#[44]⟩) :
    Calls Tryz.prog 207 #[.pointer (some ⟨g, 0, none⟩), .string P] w fun e w' => e = .returned (.bool false) ∧ RfK w' g S u ∧ Fr (some g) w w' := by
  obtain ⟨h1, h2, h3⟩ := tok_signs hP u
  exact rsign_no g S P u w h hS (fun e => hp (h1.2 e)) h3
theorem rnumber_no (g : Nat) (S : ByteArray) (u : List UInt8) (w : World) (h : RfK w g S u) (hS : S.size ≤ 6001) (hn : numP u = none) :
    Calls Tryz.prog 165 #[.pointer (some ⟨g, 0, none⟩)] w fun e w' => e = .returned (.tuple #[.int .i64 0, .bool false]) ∧ RfK w' g S u ∧ Fr (some g) w w' := by
  refine rnum_no g S u w h hS ?_
  have := (numP_dgs u).1
  rw [hn] at this
  cases hc : okD (dgs u)
  · rfl
  · rw [hc] at this; cases this
theorem rnumber_yes (g : Nat) (S : ByteArray) (u : List UInt8) (n : Nat) (w : World) (h : RfK w g S u) (hS : S.size ≤ 6001) (hn : numP u = some n) :
    Calls Tryz.prog 165 #[.pointer (some ⟨g, 0, none⟩)] w fun e w' => e = .returned (.tuple #[.int .i64 (n : Int), .bool true]) ∧ RfK w' g S (nxt u) ∧ Fr (some g) w w' := by
  obtain ⟨h1, h2⟩ := numP_dgs u
  rw [hn] at h1
  cases hc : okD (dgs u)
  · rw [hc] at h1; cases h1
  · rw [hc] at h1
    injection h1 with h1
    rw [h2 hc, h1]
    exact rnum_yes g S u w h hS hc
theorem head_take {u : List UInt8} {c : UInt8} : u.take 1 = [c] ↔ u.head? = some c := by cases u <;> simp
theorem loop_o {f : Nat} {n : Int} {nodes : List Int} {inner : List Tr} {u : List UInt8} {k : Nat} (h : numP u = some k) (hc : (nxt u).head? = some 111) :
    loopP (f + 1) n nodes inner u = match restP f k (nxt u) with
      | (none, v) => (none, v)
      | (some x, v) => tailP f n nodes (inner ++ [x]) v := by
  by_cases ho : tok (nxt u) = [111, 102]
  · cases hr : restP f k (nxt u) with
    | mk o v =>
      cases o with
      | none => exact loop_bad h ho hr
      | some x => exact loop_inner h ho hr
  · have hr : restP f k (nxt u) = (none, nxt u) := by
      cases f with
      | zero => rfl
      | succ f => simp only [restP, if_neg ho]
    rw [hr, loop_node h ho]
    refine tail_no (fun e => ?_) (fun e => ?_)
    · have := head_take.1 ((tok_isc (.inr (.inl rfl)) _).1 e)
      rw [hc] at this; cases this
    · have := head_take.1 ((tok_isc (.inr (.inr rfl)) _).1 e)
      rw [hc] at this; cases this
theorem not_o {u : List UInt8} (hc : u.head? ≠ some 111) : tok u ≠ [111, 102] := fun e => by
  have := (tok_isof u).1 e
  cases u with
  | nil => simp at this
  | cons a r => simp at this; exact hc (by simp [this.1])

set_option maxRecDepth 100000 in
set_option maxHeartbeats 8000000 in
theorem rrest_any (f : Nat) : ∀ (n g : Nat) (S : ByteArray) (u : List UInt8) (w : World), u.length < f → n ≤ 9999 → RfK w g S u → S.size ≤ 6001 →
    Calls Tryz.prog 166 #[.pointer (some ⟨g, 0, none⟩), .int .i64 (n : Int)] w (RestF (restP f n u) w g S) := by
  induction f using Nat.strongRecOn with
  | _ f ih =>
  intro n g S u w hf hn h hS
  obtain ⟨f, rfl⟩ : ∃ f', f = f' + 1 := ⟨f - 1, by omega⟩
  have hg := h.lt
  have hu := h.le
  have IH := Lib.hid ih
  clear ih
  go_enter Tryz.func166, Tryz.ntmps166
  go_wp2_with fail
  generalize hW : (w.alloc _).alloc _ = w1
  have hz : w1.heap.size = w.heap.size + 2 := by rw [← hW]; simp
  have F1 : Fr none w w1 := hW ▸ ((Fr.refl _ w).alloc _).alloc _
  have b6 : TB w1 w.heap.size (.int .i64 0) (.slice none 0 0) (.slice none 0 0) := by
    rw [← hW]; exact (Below.heap_alloc _ _ _ (by simp)).trans (blk_new _ _)
  have b7 : TB w1 (w.heap.size + 1) (.int .i64 (n : Int)) (.slice none 0 0) (.slice none 0 0) := by
    rw [← hW]; exact blk_new_at (by simp) _
  have S1 := h.fr F1 (by simp)
  have L1 : LoopF w g S n [] [] u none 0 none 0 [] w1 := ⟨F1.mono, by omega, S1, b6, b7, World.ownsRow_nil _ _ _ _, World.ownsRow_nil _ _ _ _, by simp [TrsD], fun b hb => by simp [Value.ownBlock] at hb, by simp, by simp; omega⟩
  clear hW h b6 b7 F1 hz
  by_cases hof : tok u = [111, 102]
  · have hl1 : (nxt u).length < u.length := nxt_lt (by rw [hof]; simp)
    have HOF := Lib.hid hof
    refine (rtake_yes g S ⟨#[111, 102]⟩ u _ S1 hS HOF.out (.inl rfl)).mono ?_
    rintro e w2 ⟨rfl, S2, F2⟩
    have L2 := L1.move hg S2 F2 (nxt_le _)
    clear L1 S1 F2
    by_cases hpar : tok (nxt u) = [40]
    · have hE : restP (f + 1) n u = loopP f n [] [] (nxt (nxt u)) := by simp only [restP, if_pos hof, if_pos hpar]
      have HE := Lib.hid hE
      have HPAR := Lib.hid hpar
      have hl2 : (nxt (nxt u)).length < (nxt u).length := nxt_lt (by rw [hpar]; simp)
      clear hE hof hpar
      go_wp2_with fail
      refine (rtake_yes g S ⟨#[40]⟩ (nxt u) _ S2 hS HPAR.out (.inr (.inl rfl))).mono ?_
      rintro e w3 ⟨rfl, S3, F3⟩
      have L0 := L2.move hg S3 F3 (nxt_le _)
      clear L2 S2 S3 F3
      go_wp2_with fail
      go_loopw [7, 8, 9, 10] (fun s7 s8 s9 s10 wr => ∃ (nodes : List Int) (inner : List Tr) (v : List UInt8) (A1 : Option Addr) (c1 : Nat) (A2 : Option Addr) (c2 : Nat) (cells : List Value) (f' : Nat), LoopF w g S n nodes inner v A1 c1 A2 c2 cells wr ∧ Hid (restP (f + 1) n u = loopP f' n nodes inner v) ∧ v.length < f' ∧ f' ≤ f) (fun _ _ _ _ wr => (skp (S.data.toList.drop (atRf wr g))).length)
      case atStart => exact ⟨[], [], _, _, _, _, _, _, f, L0, HE, by omega, by omega⟩
      case round =>
        clear L0 HE
        obtain ⟨nodes, inner, v, A1, c1, A2, c2, cells, f', L, HE, hvf, hff⟩ := hrel
        obtain ⟨f', rfl⟩ : ∃ k, f' = k + 1 := ⟨f' - 1, by omega⟩
        have S4 := L.2.2.1
        have HSL := Lib.hid S4.left
        have hlen := L.2.2.2.2.2.2.2.2.2.2
        cases hnum : numP v with
        | none =>
          have hE := HE.out
          rw [loop_none hnum] at hE
          have HE2 := Lib.hid hE
          have HN := Lib.hid hnum
          clear hE hnum
          go_wp2_with fail
          refine (rnumber_no g S v _ S4 hS HN.out).mono ?_
          rintro e w4 ⟨rfl, S5, F5⟩
          have L5 := L.move hg S5 F5 (Nat.le_refl _)
          clear L S4 F5
          have R8 := L5.2.2.2.1.cell
          have Z8 := L5.2.2.2.1.free
          have R9 := L5.2.2.2.2.1.cell
          have hsp8 : w.heap.size + 1 < w4.heap.size := blk_lt L5.2.2.2.2.1
          go_wp2_with fail
          refine bodyPost_ret (v := .tuple #[.agg #[.int .i64 (n : Int), .slice A1 nodes.length c1, .slice A2 inner.length c2], .bool false]) (by simp [results, Tryz.results166, go_sem, R8]) rfl ?_
          rw [HE2.out]
          exact L5.no hg
        | some k =>
          obtain ⟨hv1, hk⟩ := num_lt hnum
          have HN := Lib.hid hnum
          obtain ⟨X, hX⟩ : ∃ X : Bool, X = decide ((nxt v).head? = some 111) := ⟨_, rfl⟩
          have HX := Lib.hid hX
          clear hX hnum
          go_wp2_with fail
          refine (rnumber_yes g S v k _ S4 hS HN.out).mono ?_
          rintro e w4 ⟨rfl, S4', F4⟩
          have L4 := L.move hg S4' F4 (by omega)
          clear L S4 F4
          go_wp2_with fail
          refine (rskip_any g S (nxt v) _ S4' hS).mono ?_
          rintro e w5 ⟨rfl, ⟨q, B5, q1, q2⟩, F5⟩
          have S5 : RfK w5 g S (nxt v) := ⟨q, B5, by omega, by rw [q2]; exact S4'.skp_eq⟩
          have L5 := L4.move hg S5 F5 (Nat.le_refl _)
          have RB := B5.cell
          have HQ2 := Lib.hid q2
          clear L4 F5 S4' S5 q2
          go_upto_region 8 with (fail)
          go_cut [53] (fun s53 wq => s53 = .bool X ∧ Fr none w5 wq)
          case first =>
            have hcs : (q = S.size ∧ X = false) ∨ (∃ h : q < S.size, ((S[q].toNat : Int) == 111) = X) := by
              rw [HX.out, ← HQ2.out]
              rcases Nat.lt_or_ge q S.size with hh | hh
              · right
                refine ⟨hh, ?_⟩
                rw [List.drop_eq_getElem_cons (i := q) (by simpa using hh)]
                have e1 : S.data.toList[q] = S[q] := rfl
                rw [e1, List.head?_cons]
                by_cases h111 : S[q] = 111
                · rw [h111]; rfl
                · have e2 : ¬ ((S[q].toNat : Int) = 111) := fun e => h111 (by
                    apply UInt8.toNat_inj.1
                    have : S[q].toNat = 111 := by omega
                    exact this)
                  rw [beq_eq_false_iff_ne.2 e2, decide_eq_false (fun e => h111 (by injection e))]
              · left
                refine ⟨by omega, ?_⟩
                rw [List.drop_eq_nil_of_le (by simpa using hh)]
                rfl
            rcases hcs with ⟨hq, rfl⟩ | ⟨hlt, hb⟩
            · have hge : S.size ≤ q := by omega
              have hd : decide (q < S.size) = false := by simp; omega
              clear hq
              go_quiet (fail)
              go_wp2_with fail
              go_meet
              exact ⟨rfl, (Fr.refl _ _).drewN _⟩
            · have hd : decide ((q : Int) < S.size) = true := by simpa using hlt
              go_quiet (fail)
              go_wp2_with fail
              go_meet
              exact ⟨rfl, (Fr.refl _ _).drewN _⟩
          case rest =>
            obtain ⟨rfl, F6⟩ := hcut
            obtain ⟨wq, hwq⟩ : ∃ wq : World, wq = wc := ⟨_, rfl⟩
            subst hwq
            have L6 := L5.move hg (L5.2.2.1.fr F6 (by simp)) F6.mono (Nat.le_refl _)
            have S6 := L6.2.2.1
            clear L5 F6 RB B5 HQ2
            cases X with
            | true =>
              have hc111 : (nxt v).head? = some 111 := by simpa using HX.out
              obtain ⟨p, hp⟩ : ∃ p, p = restP f' k (nxt v) := ⟨_, rfl⟩
              have hE := HE.out
              rw [loop_o HN.out hc111, ← hp] at hE
              obtain ⟨o, v5⟩ := p
              have hv5 : v5.length ≤ (nxt v).length := by
                have := restP_len f' k (nxt v)
                rw [← hp] at this
                exact this
              have HP := Lib.hid hp.symm
              have HEE := Lib.hid hE
              clear hp hE hc111 HE
              go_wp2_with fail
              refine (IH.out f' (by omega) k g S (nxt v) _ (by omega) hk S6 hS).mono ?_
              rintro e w7 ⟨th, a1, n1, e1, a2, n2, e2, b, rfl, hb, S7, F7, hT⟩
              rw [HP.out] at hb S7 hT
              simp only at hb S7 hT
              have L5 := L6.move hg S7 F7 hv5
              cases o with
              | none =>
                obtain rfl : b = false := hb
                have HE2 : Hid (restP (f + 1) n u = (none, v5)) := HEE
                have F8 := (Fr.refl none w7).alloc (.cells #[.int .i64 th, .slice a1 n1 e1, .slice a2 n2 e2] 31)
                have L8 := L5.move hg (S7.fr F8 (by simp)) F8.mono (Nat.le_refl _)
                have R6 := L8.2.2.2.1.cell
                have Z6 := L8.2.2.2.1.free
                have R7 := L8.2.2.2.2.1.cell
                have hsp := blk_lt L5.2.2.2.2.1
                clear hT HEE L6 L5
                go_wp2_with fail
                refine bodyPost_ret (v := .tuple #[.agg #[.int .i64 (n : Int), .slice A1 nodes.length c1, .slice A2 inner.length c2], .bool false]) (by simp [results, Tryz.results166, go_sem, R6]) rfl ?_
                rw [HE2.out]
                exact L8.no hg
              | some t =>
                obtain rfl : b = true := hb
                have HE : Hid (restP (f + 1) n u = tailP f' n nodes (inner ++ [t]) v5) := HEE
                have hT5 := hT t rfl
                have F8 := (Fr.refl none w7).alloc (.cells #[.int .i64 th, .slice a1 n1 e1, .slice a2 n2 e2] 31)
                have L8 := L5.move hg (S7.fr F8 (by simp)) F8.mono (Nat.le_refl _)
                have hT6 := TrD.keep (dn_fr F8 (by simp)) _ _ hT5
                have R6 := L8.2.2.2.1.cell
                have R7 := L8.2.2.2.2.1.cell
                have Z7 := L8.2.2.2.2.1.free
                have hsp := blk_lt L5.2.2.2.2.1
                have own6 := L8.2.2.2.2.2.2.1
                have ow1 := L6.2.2.2.2.2.1
                have ow2 := L6.2.2.2.2.2.2.1
                have hB4 := L6.2.1
                have h61 := L8.2.1
                simp only [World.size_alloc] at h61
                clear hT hT5 HEE
                go_wp2_with (at_builtin; refine app_lit eiTrust rfl _ _ rfl (w.heap.size + 2) A2 inner.length c2 _ rfl own6 1 [.int .i64 th, .slice a1 n1 e1, .slice a2 n2 e2] 31 _ rfl (by simp) rfl (by simp [Value.oneCell']) (by omega) (by unfold maxLen; omega) (by simp; omega) ?_; intro A5 c5 w8 own7 F9 bl7; have K7 := L8.2.2.2.2.1.fr F9 (own_ne own6 (by omega)); have R8 := K7.cell; have Z8 := K7.free; have hsp6 := blk_lt K7; clear R6 R7 Z7)
                have L7 := L8.inner_ hg hB4 hT6 (fun b hb => (ow1.lt b hb).2) (fun b hb => (ow2.lt b hb).2) own7 F9 bl7 (by omega)
                go_upto_region 14 with (fail)
                generalize hW : World.setCell w8 _ _ = w7 at L7 ⊢
                obtain ⟨inner2, hin⟩ : ∃ l, l = inner ++ [t] := ⟨_, rfl⟩
                rw [← hin] at L7 HE
                have hvf5 : v5.length < f' := by omega
                clear hW hin L8 L6 L5 own6 own7 ow1 ow2 F9 bl7 R8 Z8 K7 hT6
                have S6 := L7.2.2.1
                have K6 := L7.2.2.2.1
                have K7 := L7.2.2.2.2.1
                have R6 := K6.cell
                have Z6 := K6.free
                have R7 := K7.cell
                have Z7 := K7.free
                have hsp : w.heap.size + 1 < w7.heap.size := blk_lt K7
                clear K6 K7
                by_cases h41 : tok v5 = [41]
                · have hE := HE.out
                  rw [tail_yes h41] at hE
                  have HE2 := Lib.hid hE
                  have H41 := Lib.hid h41
                  clear hE h41 HE
                  go_wp2_with fail
                  refine (rtake_yes g S ⟨#[41]⟩ v5 _ S6 hS H41.out (.inr (.inr (.inl rfl)))).mono ?_
                  rintro e w8 ⟨rfl, S8, F8⟩
                  have L8 := L7.move hg S8 F8 (nxt_le _)
                  have R8 := L8.2.2.2.1.cell
                  have Z8 := L8.2.2.2.1.free
                  have R9 := L8.2.2.2.2.1.cell
                  have hsp8 : w.heap.size + 1 < w8.heap.size := blk_lt L8.2.2.2.2.1
                  clear R6 Z6 R7 Z7
                  go_wp2_with fail
                  refine bodyPost_ret (v := .tuple #[.agg #[.int .i64 (n : Int), .slice A1 nodes.length c1, .slice A5 inner2.length c5], .bool true]) (by simp [results, Tryz.results166, go_sem, R8]) rfl ?_
                  rw [HE2.out]
                  exact L8.yes hg hn
                · have H41 := Lib.hid h41
                  go_wp2_with fail
                  refine (rtake_no g S ⟨#[41]⟩ v5 _ S6 hS H41.out (.inr (.inr (.inl rfl)))).mono ?_
                  rintro e w8 ⟨rfl, S8, F8⟩
                  have L8 := L7.move hg S8 F8 (Nat.le_refl _)
                  clear R6 Z6 R7 Z7 hsp S6 L7 F8
                  by_cases h44 : tok v5 = [44]
                  · have hE := HE.out
                    rw [tail_more h41 h44] at hE
                    have HE2 := Lib.hid hE
                    have H44 := Lib.hid h44
                    have hvl2 : (nxt v5).length < v5.length := nxt_lt (by rw [h44]; simp)
                    clear hE h41 h44 HE
                    go_wp2_with fail
                    refine (rtake_yes g S ⟨#[44]⟩ v5 _ S8 hS H44.out (.inr (.inr (.inr rfl)))).mono ?_
                    rintro e w9 ⟨rfl, S9, F9⟩
                    have L9 := L8.move hg S9 F9 (nxt_le _)
                    clear L8 F9
                    go_wp2_with fail
                    go_roundw
                    case rel => exact ⟨nodes, inner2, _, _, _, _, _, _, _, L9, HE2, by omega⟩
                    case measure => rw [S9.left, HSL.out]; omega
                  · have hE := HE.out
                    rw [tail_no h41 h44] at hE
                    have HE2 := Lib.hid hE
                    have H44 := Lib.hid h44
                    clear hE h41 h44 HE
                    go_wp2_with fail
                    refine (rtake_no g S ⟨#[44]⟩ v5 _ S8 hS H44.out (.inr (.inr (.inr rfl)))).mono ?_
                    rintro e w9 ⟨rfl, S9, F9⟩
                    have L9 := L8.move hg S9 F9 (Nat.le_refl _)
                    have R8 := L9.2.2.2.1.cell
                    have Z8 := L9.2.2.2.1.free
                    have R9 := L9.2.2.2.2.1.cell
                    have hsp8 : w.heap.size + 1 < w9.heap.size := blk_lt L9.2.2.2.2.1
                    clear L8 F9
                    go_wp2_with fail
                    refine bodyPost_ret (v := .tuple #[.agg #[.int .i64 (n : Int), .slice A1 nodes.length c1, .slice A5 inner2.length c5], .bool false]) (by simp [results, Tryz.results166, go_sem, R8]) rfl ?_
                    rw [HE2.out]
                    exact L9.no hg
            | false =>
              have hc111 : (nxt v).head? ≠ some 111 := by simpa using HX.out
              have hE := HE.out
              rw [loop_node HN.out (not_o hc111)] at hE
              have HE := Lib.hid hE
              have R7 := L6.2.2.2.2.1.cell
              have Z7 := L6.2.2.2.2.1.free
              have hsp := blk_lt L6.2.2.2.2.1
              have own4 := L6.2.2.2.2.2.1
              have h41 := L6.2.1
              clear hE hc111
              go_wp2_with (at_builtin; refine app_lit eiInt rfl _ _ rfl (w.heap.size + 2) A1 nodes.length c1 _ rfl own4 1 [.int .i64 (k : Int)] 3 _ rfl (by simp) rfl (by simp [Value.oneCell']) (by omega) (by unfold maxLen; omega) (by omega) ?_; intro A5 c5 w6 own7 F7 bl7; have K7 := L6.2.2.2.2.1.fr F7 (own_ne own4 (by omega)); have R8 := K7.cell; have Z8 := K7.free; have hsp6 := blk_lt K7; clear R7 Z7)
              have L7 := L6.node hg hk own7 F7 bl7 (by omega)
              go_upto_region 14 with (fail)
              generalize hW : World.setCell w6 _ _ = w7 at L7 ⊢
              obtain ⟨nodes2, hin⟩ : ∃ l, l = nodes ++ [(k : Int)] := ⟨_, rfl⟩
              rw [← hin] at L7 HE
              obtain ⟨v5, hv5⟩ : ∃ l, l = nxt v := ⟨_, rfl⟩
              rw [← hv5] at L7 HE hv1
              have hvf5 : v5.length < f' := by omega
              clear hW hin L6 own4 own7 F7 bl7 R8 Z8 K7 hv5 S6 HX
              have S6 := L7.2.2.1
              have K6 := L7.2.2.2.1
              have K7 := L7.2.2.2.2.1
              have R6 := K6.cell
              have Z6 := K6.free
              have R7 := K7.cell
              have Z7 := K7.free
              have hsp : w.heap.size + 1 < w7.heap.size := blk_lt K7
              clear K6 K7
              by_cases h41 : tok v5 = [41]
              · have hE := HE.out
                rw [tail_yes h41] at hE
                have HE2 := Lib.hid hE
                have H41 := Lib.hid h41
                clear hE h41 HE
                go_wp2_with fail
                refine (rtake_yes g S ⟨#[41]⟩ v5 _ S6 hS H41.out (.inr (.inr (.inl rfl)))).mono ?_
                rintro e w8 ⟨rfl, S8, F8⟩
                have L8 := L7.move hg S8 F8 (nxt_le _)
                have R8 := L8.2.2.2.1.cell
                have Z8 := L8.2.2.2.1.free
                have R9 := L8.2.2.2.2.1.cell
                have hsp8 : w.heap.size + 1 < w8.heap.size := blk_lt L8.2.2.2.2.1
                clear R6 Z6 R7 Z7
                go_wp2_with fail
                refine bodyPost_ret (v := .tuple #[.agg #[.int .i64 (n : Int), .slice A5 nodes2.length c5, .slice A2 inner.length c2], .bool true]) (by simp [results, Tryz.results166, go_sem, R8]) rfl ?_
                rw [HE2.out]
                exact L8.yes hg hn
              · have H41 := Lib.hid h41
                go_wp2_with fail
                refine (rtake_no g S ⟨#[41]⟩ v5 _ S6 hS H41.out (.inr (.inr (.inl rfl)))).mono ?_
                rintro e w8 ⟨rfl, S8, F8⟩
                have L8 := L7.move hg S8 F8 (Nat.le_refl _)
                clear R6 Z6 R7 Z7 hsp S6 L7 F8
                by_cases h44 : tok v5 = [44]
                · have hE := HE.out
                  rw [tail_more h41 h44] at hE
                  have HE2 := Lib.hid hE
                  have H44 := Lib.hid h44
                  have hvl2 : (nxt v5).length < v5.length := nxt_lt (by rw [h44]; simp)
                  clear hE h41 h44 HE
                  go_wp2_with fail
                  refine (rtake_yes g S ⟨#[44]⟩ v5 _ S8 hS H44.out (.inr (.inr (.inr rfl)))).mono ?_
                  rintro e w9 ⟨rfl, S9, F9⟩
                  have L9 := L8.move hg S9 F9 (nxt_le _)
                  clear L8 F9
                  go_wp2_with fail
                  go_roundw
                  case rel => exact ⟨nodes2, inner, _, _, _, _, _, _, _, L9, HE2, by omega⟩
                  case measure => rw [S9.left, HSL.out]; omega
                · have hE := HE.out
                  rw [tail_no h41 h44] at hE
                  have HE2 := Lib.hid hE
                  have H44 := Lib.hid h44
                  clear hE h41 h44 HE
                  go_wp2_with fail
                  refine (rtake_no g S ⟨#[44]⟩ v5 _ S8 hS H44.out (.inr (.inr (.inr rfl)))).mono ?_
                  rintro e w9 ⟨rfl, S9, F9⟩
                  have L9 := L8.move hg S9 F9 (Nat.le_refl _)
                  have R8 := L9.2.2.2.1.cell
                  have Z8 := L9.2.2.2.1.free
                  have R9 := L9.2.2.2.2.1.cell
                  have hsp8 : w.heap.size + 1 < w9.heap.size := blk_lt L9.2.2.2.2.1
                  clear L8 F9
                  go_wp2_with fail
                  refine bodyPost_ret (v := .tuple #[.agg #[.int .i64 (n : Int), .slice A5 nodes2.length c5, .slice A2 inner.length c2], .bool false]) (by simp [results, Tryz.results166, go_sem, R8]) rfl ?_
                  rw [HE2.out]
                  exact L9.no hg
    · have hE : restP (f + 1) n u = (none, nxt u) := by simp only [restP, if_pos hof, if_neg hpar]
      have HE := Lib.hid hE
      have HPAR := Lib.hid hpar
      clear hE hof hpar
      go_wp2_with fail
      refine (rtake_no g S ⟨#[40]⟩ (nxt u) _ S2 hS HPAR.out (.inr (.inl rfl))).mono ?_
      rintro e w3 ⟨rfl, S3, F3⟩
      have L3 := L2.move hg S3 F3 (Nat.le_refl _)
      clear L2 S2 F3
      have R8 := L3.2.2.2.1.cell
      have Z8 := L3.2.2.2.1.free
      have R9 := L3.2.2.2.2.1.cell
      have hsp8 : w.heap.size + 1 < w3.heap.size := blk_lt L3.2.2.2.2.1
      go_wp2_with fail
      refine bodyPost_ret (v := .tuple #[.agg #[.int .i64 (n : Int), .slice none 0 0, .slice none 0 0], .bool false]) (by simp [results, Tryz.results166, go_sem, R8]) rfl ?_
      rw [HE.out]
      exact L3.no hg
  · have hE : restP (f + 1) n u = (none, u) := by simp only [restP, if_neg hof]
    have HE := Lib.hid hE
    have HOF := Lib.hid hof
    clear hE hof
    refine (rtake_no g S ⟨#[111, 102]⟩ u _ S1 hS HOF.out (.inl rfl)).mono ?_
    rintro e w3 ⟨rfl, S3, F3⟩
    have L3 := L1.move hg S3 F3 (Nat.le_refl _)
    clear L1 S1 F3
    have R8 := L3.2.2.2.1.cell
    have Z8 := L3.2.2.2.1.free
    have R9 := L3.2.2.2.2.1.cell
    have hsp8 : w.heap.size + 1 < w3.heap.size := blk_lt L3.2.2.2.2.1
    go_wp2_with fail
    refine bodyPost_ret (v := .tuple #[.agg #[.int .i64 (n : Int), .slice none 0 0, .slice none 0 0], .bool false]) (by simp [results, Tryz.results166, go_sem, R8]) rfl ?_
    rw [HE.out]
    exact L3.no hg
end Go.Proofs.YtpdhckbiioobhaaGreatDoor

/- What a reader of trusts leaves. -/
namespace Go.Proofs.YtpdhckbiioobhaaGreatDoor
open Go.RowKit

/-- What Parse leaves. -/
def GotP (p : Got) (w : World) (e : Ending) (w' : World) : Prop :=
  ∃ (th : Int) (A1 : Option Addr) (n1 c1 : Nat) (A2 : Option Addr) (n2 c2 : Nat) (k : Nat) (er : Int), e = .returned (.tuple #[.agg #[.int .i64 th, .slice A1 n1 c1, .slice A2 n2 c2], .int .i64 (k : Int), .int .i64 er]) ∧ Fr none w w' ∧ k ≤ 6001 ∧
    (match p with
      | .no a x => k = a ∧ er = x ∧ .agg #[.int .i64 th, .slice A1 n1 c1, .slice A2 n2 c2] = zeroT
      | .ok t => k = 0 ∧ er = 0 ∧ TrD w' (Dn w.heap.size w') (.agg #[.int .i64 th, .slice A1 n1 c1, .slice A2 n2 c2]) t ∧ validE t = 0)

end Go.Proofs.YtpdhckbiioobhaaGreatDoor

/- Walks: the reference's Parse of layer 3. -/
namespace Go.Proofs.YtpdhckbiioobhaaGreatDoor
open Go.RowKit

set_option maxRecDepth 100000 in
set_option maxHeartbeats 4000000 in
theorem rparse_any (S : ByteArray) (w : World) : Calls Tryz.prog 120 #[.string S] w (GotP (parseP S.data.toList) w) := by
  by_cases hlen : 6000 < S.size
  · have hp : parseP S.data.toList = .no 0 3 := by unfold parseP; rw [if_pos (by rw [← size_list]; exact hlen)]
    rw [hp]
    go_enter Tryz.func120, Tryz.ntmps120
    go_wp2_with fail
    refine bodyPost_ret (v := .tuple #[.agg #[.int .i64 0, .slice none 0 0, .slice none 0 0], .int .i64 0, .int .i64 3]) (by simp [results, Tryz.results120, go_sem]) rfl ?_
    exact ⟨_, _, _, _, _, _, _, 0, _, rfl, (Fr.refl _ _).alloc _, by omega, rfl, rfl, rfl⟩
  · obtain ⟨p, hp⟩ : ∃ p, p = wholeP S.data.toList := ⟨_, rfl⟩
    obtain ⟨o, v⟩ := p
    have hS : S.size ≤ 6001 := by omega
    have HP := Lib.hid hp.symm
    have hlen2 : S.size ≤ 6000 := by omega
    clear hp hlen
    go_enter Tryz.func120, Tryz.ntmps120
    go_wp2_with fail
    generalize hW : (w.alloc _).alloc _ = w1
    have hz : w1.heap.size = w.heap.size + 2 := by rw [← hW]; simp
    have F1 : Fr none w w1 := hW ▸ ((Fr.refl _ w).alloc _).alloc _
    have b2 : TB w1 w.heap.size (.int .i64 0) (.slice none 0 0) (.slice none 0 0) := by
      rw [← hW]; exact (Below.heap_alloc _ _ _ (by simp)).trans (blk_new _ _)
    have b5 : RfB w1 (w.heap.size + 1) S 0 := by
      rw [← hW]; exact blk_new_at (by simp) _
    clear hW
    have S1 : RfK w1 (w.heap.size + 1) S (skp S.data.toList) := ⟨0, b5, by omega, by simp⟩
    clear b5
    cases hnum : numP (skp S.data.toList) with
    | none =>
      have hW0 : wholeP S.data.toList = (none, skp S.data.toList) := by simp only [wholeP, hnum]
      have HW0 := Lib.hid (parse_none hlen2 hW0)
      have HN := Lib.hid hnum
      clear hnum HP hW0
      refine (rnumber_no (w.heap.size + 1) S _ _ S1 hS HN.out).mono ?_
      rintro e w2 ⟨rfl, S2, F2⟩
      have FA := (Fr.refl none w2).alloc (.cells #[.int .i64 0, .slice none 0 0, .slice none 0 0] 31)
      have S3 := S2.fr FA (by simp)
      have F3 := (F1.own F2 (by simp)).pure FA
      have b3 := (b2.fr F2 (by simp)).fr FA (by simp)
      clear S1 S2 b2
      go_wp2_with fail
      generalize hW : w2.alloc _ = w3 at *
      clear hW FA
      refine (rskip_any (w.heap.size + 1) S _ _ S3 hS).mono ?_
      rintro e w4 ⟨rfl, ⟨k, B, q1, q2⟩, F4⟩
      have b4 := b3.fr F4 (by simp)
      have R2 := b4.cell
      have Z2 := b4.free
      have hl4 : w.heap.size < w4.heap.size := blk_lt b4
      have FG : Fr none w w4 := F3.own F4 (by simp)
      have HQ := Lib.hid q1
      have RB := B.cell
      have hk : k ≤ S.size := by omega
      have hne : ¬ w.heap.size = w.heap.size + 1 := by omega
      clear q1 q2 b3 S3 F4 F3
      go_wp2_with fail
      go_region
      all_goals
        go_wp2_with fail
        refine bodyPost_ret (v := .tuple #[.agg #[.int .i64 0, .slice none 0 0, .slice none 0 0], .int .i64 (k : Int), .int .i64 2]) (by simp [results, Tryz.results120, go_sem, R2]) rfl ?_
        have hq := HQ.out
        refine ⟨_, _, _, _, _, _, _, k, _, rfl, ?_, by omega, ?_⟩
        · exact (FG.own (fr_fill3 w4 w.heap.size _ _ _) (by simp)).drew
        · rw [HW0.out]
          exact ⟨by omega, rfl, rfl⟩
    | some n =>
      obtain ⟨hv1, hk9⟩ := num_lt hnum
      have hE := HP.out
      simp only [wholeP, hnum] at hE
      have HN := Lib.hid hnum
      have HE := Lib.hid hE
      have hsl := skp_len S.data.toList
      rw [← size_list] at hsl
      have hsn := nxt_le (skp S.data.toList)
      clear hnum hE
      refine (rnumber_yes (w.heap.size + 1) S _ n _ S1 hS HN.out).mono ?_
      rintro e w2 ⟨rfl, S2, F2⟩
      have FA := (Fr.refl none w2).alloc (.cells #[.int .i64 0, .slice none 0 0, .slice none 0 0] 31)
      have b6 : TB (w2.alloc (.cells #[.int .i64 0, .slice none 0 0, .slice none 0 0] 31)) w2.heap.size (.int .i64 0) (.slice none 0 0) (.slice none 0 0) := blk_new _ _
      have S3 := S2.fr FA (by simp)
      have F3 := (F1.own F2 (by simp)).pure FA
      have b3 := (b2.fr F2 (by simp)).fr FA (by simp)
      have hz2 := F2.size
      clear S1 S2 b2
      go_wp2_with fail
      generalize hW : w2.alloc _ = w4 at *
      have hz4 : w4.heap.size = w2.heap.size + 1 := by rw [← hW]; simp
      clear hW FA
      refine (rrest_any (S.data.toList.length + 1) n (w.heap.size + 1) S _ _ (by rw [← size_list]; omega) hk9 S3 hS).mono ?_
      rintro e w5 ⟨th, a1, n1, e1, a2, n2, e2, b, rfl, hb, S5, F5, hT⟩
      have hrs := restP_size (S.data.toList.length + 1) n (nxt (skp S.data.toList))
      rw [HE.out] at hb S5 hT hrs
      simp only at hb S5 hT
      have hz5 := F5.size
      have c6 := b6.fr F5 (by simp; omega)
      have c2 := b3.fr F5 (by simp)
      have R6 := c6.cell
      have Z6 := c6.free
      have hl6 := blk_lt c6
      have FB : Fr none w w5 := F3.own F5 (by simp)
      clear b6 b3 S3 F3
      cases o with
      | none =>
        obtain rfl : b = false := hb
        go_upto_region 8 with (fail)
        have G := fr_fill3 w5 w2.heap.size (.int .i64 th) (.slice a1 n1 e1) (.slice a2 n2 e2)
        generalize hWG : World.setCell (World.setCell (World.setCell w5 _ _) _ _) _ _ = w6 at G ⊢
        have SG := S5.fr G (by simp; omega)
        have c2G := c2.fr G (by simp; omega)
        have FG6 : Fr none w w6 := FB.own G (by simp; omega)
        have HW0 := Lib.hid (parse_none hlen2 HP.out)
        clear hT R6 Z6 c2 S5 F5 hWG hrs HP c6 hl6
        go_wp2_with fail
        refine (rskip_any (w.heap.size + 1) S _ _ SG hS).mono ?_
        rintro e w7 ⟨rfl, ⟨k, B, q1, q2⟩, F7⟩
        have b4 := c2G.fr F7 (by simp)
        have R2 := b4.cell
        have Z2 := b4.free
        have hl4 : w.heap.size < w7.heap.size := blk_lt b4
        have FG : Fr none w w7 := FG6.own F7 (by simp)
        have HQ := Lib.hid q1
        have RB := B.cell
        have hk : k ≤ S.size := by omega
        have hne : ¬ w.heap.size = w.heap.size + 1 := by omega
        clear q1 q2 c2G SG F7 FG6
        go_wp2_with fail
        go_region
        all_goals
          go_wp2_with fail
          refine bodyPost_ret (v := .tuple #[.agg #[.int .i64 0, .slice none 0 0, .slice none 0 0], .int .i64 (k : Int), .int .i64 2]) (by simp [results, Tryz.results120, go_sem, R2]) rfl ?_
          have hq := HQ.out
          refine ⟨_, _, _, _, _, _, _, k, _, rfl, ?_, by omega, ?_⟩
          · exact (FG.own (fr_fill3 w7 w.heap.size _ _ _) (by simp)).drew
          · rw [HW0.out]
            exact ⟨by omega, rfl, rfl⟩
      | some t =>
        obtain rfl : b = true := hb
        have hts := hrs t v rfl
        go_upto_region 8 with (fail)
        have G := fr_fill3 w5 w2.heap.size (.int .i64 th) (.slice a1 n1 e1) (.slice a2 n2 e2)
        have d6 := (((show TB w5 w2.heap.size _ _ _ from c6).set0 (.int .i64 th)).set1 (.slice a1 n1 e1)).set2 (.slice a2 n2 e2)
        generalize hWG : World.setCell (World.setCell (World.setCell w5 _ _) _ _) _ _ = w6 at G d6 ⊢
        have SG := S5.fr G (by simp; omega)
        have c2G := c2.fr G (by simp; omega)
        have FG6 : Fr none w w6 := FB.own G (by simp; omega)
        have hTG := TrD.keep (dn_fr (B := w4.heap.size) G (by simp; omega)) _ _ (hT t rfl)
        clear hT R6 Z6 c2 S5 F5 hWG hrs c6 hl6
        go_wp2_with fail
        refine (rskip_any (w.heap.size + 1) S _ _ SG hS).mono ?_
        rintro e w7 ⟨rfl, ⟨k, B, q1, q2⟩, F7⟩
        have d7 := d6.fr F7 (by simp; omega)
        have b4 := c2G.fr F7 (by simp)
        have R2 := b4.cell
        have Z2 := b4.free
        have hl4 : w.heap.size < w7.heap.size := blk_lt b4
        have hz7 := F7.size
        have hz6 := G.size
        have hTG := TrD.keep (dn_fr (B := w4.heap.size) F7 (by simp; omega)) _ _ hTG
        have FG : Fr none w w7 := FG6.own F7 (by simp)
        have HQ := Lib.hid q1
        have RB := B.cell
        have hk : k ≤ S.size := by omega
        have hne : ¬ w.heap.size = w.heap.size + 1 := by omega
        clear q2 c2G SG F7 FG6 G d6
        cases v with
        | cons c0 r0 =>
          have HW0 := Lib.hid (parse_more hlen2 HP.out (by simp))
          have hk2 : k < S.size := by simp at q1; omega
          clear q1 HP
          go_wp2_with fail
          go_region
          all_goals
            go_wp2_with fail
            refine bodyPost_ret (v := .tuple #[.agg #[.int .i64 0, .slice none 0 0, .slice none 0 0], .int .i64 (k : Int), .int .i64 2]) (by simp [results, Tryz.results120, go_sem, R2]) rfl ?_
            have hq := HQ.out
            refine ⟨_, _, _, _, _, _, _, k, _, rfl, ?_, by omega, ?_⟩
            · exact (FG.own (fr_fill3 w7 w.heap.size _ _ _) (by simp)).drew
            · rw [HW0.out]
              exact ⟨by omega, rfl, rfl⟩
        | nil =>
          have hk2 : S.size ≤ k := by simp at q1; omega
          have R7 := d7.cell
          have hT0 : TrR w7 none (.agg #[.int .i64 th, .slice a1 n1 e1, .slice a2 n2 e2]) t := TrD.keep (dn_dm (by simp)) _ _ hTG
          clear q1
          by_cases hv : validE t = 0
          · have HW0 := Lib.hid (parse_good hlen2 HP.out hv)
            have hv0 : (validE t != 0) = false := by rw [bne_eq_false_iff_eq]; exact hv
            have HV := Lib.hid hv
            clear HP hv
            go_wp2_with fail
            refine (rvalidT_any t _ _ none (by omega) hT0).mono ?_
            rintro e w8 ⟨rfl, F8⟩
            have R8 := (d7.fr F8 (by simp)).cell
            have R9 := (b4.fr F8 (by simp)).cell
            have Z9 := (b4.fr F8 (by simp)).free
            have hl7 := blk_lt (b4.fr F8 (by simp))
            clear R7 R2 Z2 RB
            go_wp2_with fail
            refine bodyPost_ret (v := .tuple #[.agg #[.int .i64 th, .slice a1 n1 e1, .slice a2 n2 e2], .int .i64 0, .int .i64 0]) (by simp [results, Tryz.results120, go_sem, R9]) rfl ?_
            have G2 := fr_fill3 w8 w.heap.size (.int .i64 th) (.slice a1 n1 e1) (.slice a2 n2 e2)
            refine ⟨_, _, _, _, _, _, _, 0, _, rfl, (FG.pure F8).own G2 (by simp), by omega, ?_⟩
            rw [HW0.out]
            exact ⟨rfl, rfl, TrD.keep (dn_mono (by omega)) _ _ (TrD.keep (dn_fr G2 (by simp; omega)) _ _ (TrD.keep (dn_fr F8 (by simp)) _ _ hTG)), HV.out⟩
          · have HW0 := Lib.hid (parse_bad hlen2 HP.out hv)
            have hv0 : (validE t != 0) = true := by rw [bne_iff_ne]; exact hv
            clear HP hv
            go_wp2_with fail
            refine (rvalidT_any t _ _ none (by omega) hT0).mono ?_
            rintro e w8 ⟨rfl, F8⟩
            have R9 := (b4.fr F8 (by simp)).cell
            have Z9 := (b4.fr F8 (by simp)).free
            have hl7 := blk_lt (b4.fr F8 (by simp))
            clear R7 R2 Z2 RB
            go_wp2_with fail
            refine bodyPost_ret (v := .tuple #[.agg #[.int .i64 0, .slice none 0 0, .slice none 0 0], .int .i64 0, .int .i64 (validE t)]) (by simp [results, Tryz.results120, go_sem, R9]) rfl ?_
            have G2 := fr_fill3 w8 w.heap.size (.int .i64 0) (.slice none 0 0) (.slice none 0 0)
            refine ⟨_, _, _, _, _, _, _, 0, _, rfl, (FG.pure F8).own G2 (by simp), by omega, ?_⟩
            rw [HW0.out]
            exact ⟨rfl, rfl, rfl⟩
end Go.Proofs.YtpdhckbiioobhaaGreatDoor

/- The sources of numbers (trustquorumplay.Src, trustquorummake.Tape): one block, a slice of ints that lies below it, and a place in it. -/
namespace Go.Proofs.YtpdhckbiioobhaaGreatDoor
open Go.RowKit

/-- Block g holds a source of type T: a slice, of an elder block, that reads as some ints, and a place. -/
def SrcR (T : TypeId) (w : World) (g : Nat) : Prop :=
  ∃ (v : Value) (l : List Int) (k : Nat), w.heap[g]? = some (.cells #[v, .int .i64 k] T (0, 0)) ∧ SlD w (fun b => b < g) 1 v (l.map (Value.int .i64)) ∧ (∀ n ∈ l, Wi n) ∧ l.length ≤ 800 ∧ k ≤ l.length

theorem SrcR.lt {T : TypeId} {w : World} {g : Nat} (h : SrcR T w g) : g < w.heap.size := by
  obtain ⟨v, l, k, h, _⟩ := h
  rcases Nat.lt_or_ge g w.heap.size with hh | hh
  · exact hh
  · rw [Array.getElem?_eq_none hh] at h; cases h

/-- A frame that spares g and what lies below it. -/
theorem SrcR.frs {T : TypeId} {w w' : World} {g : Nat} {r : Option Nat} (h : SrcR T w g) (f : Fr r w w') (hr : ∀ b, r = some b → g < b) : SrcR T w' g := by
  have hg := h.lt
  obtain ⟨v, l, k, h1, h2, h3, h4⟩ := h
  exact ⟨v, l, k, (f.block g hg (fun e => by have := hr _ e.symm; omega)).trans h1, h2.keep fun b hb => ⟨hb, f.block b (by omega) (fun e => by have := hr _ e.symm; omega)⟩, h3, h4⟩
theorem SrcR.fr {T : TypeId} {w w' : World} {g : Nat} (h : SrcR T w g) (f : Fr none w w') : SrcR T w' g := h.frs f (fun _ e => by cases e)

/-- For a walk: what a source's cells hold. -/
theorem SrcR.open_ {T : TypeId} {w : World} {g : Nat} (h : SrcR T w g) :
    ∃ (A : Option Addr) (c : Nat) (l : List Int) (k : Nat), w.heap[g]? = some (.cells #[.slice A l.length c, .int .i64 k] T (0, 0)) ∧ SlD w (fun b => b < g) 1 (.slice A l.length c) (l.map (Value.int .i64)) ∧ (∀ n ∈ l, Wi n) ∧ l.length ≤ 800 ∧ k ≤ l.length ∧
      l.length ≤ c ∧ c ≤ 9223372036854775807 ∧ (0 < l.length → ∃ b off, A = some ⟨b, off, none⟩ ∧ b < g ∧ ∀ j (hj : j < l.length), w.cell? ⟨b, off + j, none⟩ = some (.int .i64 l[j])) := by
  obtain ⟨v, l, k, h1, h2, h3, h4, h5⟩ := h
  have h2' := h2
  obtain ⟨A, n, c, rfl, hl, hc, hm, hx⟩ := h2
  unfold maxLen at hm
  have e : n = l.length := by simpa using hl.symm
  subst e
  refine ⟨A, c, l, k, h1, h2', h3, h4, h5, hc, hm, fun hn => ?_⟩
  obtain ⟨b, off, rfl, hb, hx⟩ := hx hn
  exact ⟨b, off, rfl, hb, fun j hj => hx j _ (by simp [hj])⟩

/-- The next place. -/
theorem SrcR.next {T : TypeId} {w : World} {g : Nat} {v : Value} {l : List Int} {k : Nat} (h1 : w.heap[g]? = some (.cells #[v, .int .i64 k] T (0, 0))) (h2 : SlD w (fun b => b < g) 1 v (l.map (Value.int .i64))) (h2' : ∀ n ∈ l, Wi n) (h3 : l.length ≤ 800) (h4 : k < l.length) (hg : g < w.heap.size) :
    SrcR T (w.setCell ⟨g, 1, none⟩ (.int .i64 ((k : Int) + 1))) g := by
  refine ⟨v, l, k + 1, ?_, h2.keep fun b hb => ⟨hb, (Fr.set1 w ⟨g, 1, none⟩ _).block b (by omega) (by simp; omega)⟩, h2', h3, by omega⟩
  simp [World.setCell, Array.getElem?_modify, h1]

theorem SrcR.made {T : TypeId} {w : World} {v : Value} {l : List Int} (h : SlI w none v l) (hl : l.length ≤ 800) : SrcR T (w.alloc (.cells #[v, .int .i64 0] T)) w.heap.size :=
  ⟨v, l, 0, heap_alloc_new w _, h.1.keep fun b hb => ⟨hb.1, ((Fr.refl none w).alloc _).block b hb.1 (by simp)⟩, h.2, hl, Nat.zero_le _⟩

/-- What a call that makes a source leaves. -/
def NewP (T : TypeId) (w : World) (e : Ending) (w' : World) : Prop :=
  ∃ g : Nat, e = .returned (.pointer (some ⟨g, 0, none⟩)) ∧ w.heap.size ≤ g ∧ SrcR T w' g ∧ Fr none w w'

/-- What a call that draws a number leaves. -/
def NumP (T : TypeId) (w : World) (g : Nat) (lo hi : Int) (e : Ending) (w' : World) : Prop :=
  ∃ x : Int, e = .returned (.int .i64 x) ∧ lo ≤ x ∧ x ≤ hi ∧ SrcR T w' g ∧ Fr (some g) w w'

theorem SrcR.drewN {T : TypeId} {w : World} {g : Nat} (h : SrcR T w g) (n : Nat) : SrcR T (w.drewN n) g := h.fr ((Fr.refl _ _).drewN n)
theorem SrcR.drew {T : TypeId} {w : World} {g : Nat} (h : SrcR T w g) : SrcR T w.drew g := h.fr (Fr.refl _ _).drew
end Go.Proofs.YtpdhckbiioobhaaGreatDoor

/- The table that strconv.Itoa reads, carried along; Itoa at every int. -/
namespace Go.Proofs.YtpdhckbiioobhaaGreatDoor
open Go.RowKit

/-- strconv's table of the powers of ten reads as it should. -/
def Tab (w : World) : Prop := Lib.TabIs Tryz.prog w "internal/strconv.uint64pow10" .u64 Lib.pow10Tab
theorem tab_named : Tryz.prog.globalNamed "internal/strconv.uint64pow10" = some 3 := by kernel_rfl
theorem Tab.cells {w : World} (h : Tab w) : 3 < w.heap.size ∧ ∃ cs t fz, w.heap[3]? = some (.cells cs t fz) ∧ cs.size = 20 := by
  unfold Tab Lib.TabIs World.var? at h
  rw [tab_named] at h
  simp only [Option.bind_some] at h
  have hlt : 3 < w.heap.size := by
    rcases Nat.lt_or_ge 3 w.heap.size with h' | h'
    · exact h'
    · rw [Array.getElem?_eq_none h'] at h; cases h
  refine ⟨hlt, ?_⟩
  generalize w.heap[3]? = o at h
  cases o with
  | none => cases h
  | some o =>
    cases o with
    | cells cs t fz =>
      refine ⟨cs, t, fz, rfl, ?_⟩
      simp at h
      rw [h]
      simp [Lib.pow10Tab]
    | _ => simp at h
theorem Tab.frs {r : Option Nat} {w w' : World} (h : Tab w) (f : Fr r w w') (hr : r ≠ some 3) : Tab w' := by
  have hlt := h.cells.1
  unfold Tab Lib.TabIs World.var? at h ⊢
  rw [tab_named] at h ⊢
  simp only [Option.bind_some] at h ⊢
  rw [f.block _ hlt (fun e => hr e.symm)]
  exact h
theorem Tab.fr {w w' : World} (h : Tab w) (f : Fr none w w') : Tab w' := h.frs f (by simp)
theorem Tab.new {w w0 w' : World} {g : Nat} (h : Tab w0) (hg : w0.heap.size ≤ g) (f : Fr (some g) w w') (k : Tab w) : Tab w' := k.frs f (by have := h.cells.1; simp; omega)
theorem Tab.src {w w' : World} {T : TypeId} {g : Nat} (h : Tab w) (s : SrcR T w g) (f : Fr (some g) w w') : Tab w' := by
  refine h.frs f ?_
  intro e
  injection e with e
  subst e
  obtain ⟨_, cs, t, fz, h1, h2⟩ := h.cells
  obtain ⟨v, l, k, h3, _⟩ := s
  rw [h3] at h1
  injection h1 with h1
  injection h1 with h1 _ _
  rw [← h1] at h2
  simp at h2

theorem fr_grow (w : World) (k : Nat) (os : Array Obj) : Fr none w (Sort.grow (w.drewN k) os) :=
  ⟨rfl, rfl, rfl, by simp [Sort.grow, World.drewN], fun i hi _ => by
    rw [Sort.heap_grow_old _ _ (by simpa [World.drewN] using hi)]
    rfl⟩
theorem itoa_any (n : Int) (hn : Wi n) (w : World) (hT : Tab w) : Calls Tryz.prog 74 #[.int .i64 n] w fun e w' => ∃ S : ByteArray, e = .returned (.string S) ∧ S = ⟨(Lib.itoa n).toArray⟩ ∧ S.size ≤ 21 ∧ Fr none w w' := by
  refine (Tryz.strconv_Itoa n hn.1 hn.2 w hT).mono ?_
  rintro e w' ⟨rfl, k, os, rfl⟩
  refine ⟨_, rfl, rfl, ?_, fr_grow _ _ _⟩
  have := Lib.itoa_length_le n hn.1 hn.2
  simpa [ByteArray.size] using this
end Go.Proofs.YtpdhckbiioobhaaGreatDoor

/- Walks: nodeset.Nodes, Text. -/
namespace Go.Proofs.YtpdhckbiioobhaaGreatDoor
open Go.RowKit

/-- The nodes below k of a set. -/
def nodesK (s : Int) (k : Nat) : List Int := (ints k).filter (hasB s)
theorem nodesK_succ (s : Int) (k : Nat) : nodesK s (k + 1) = nodesK s k ++ (if hasB s k then [(k : Int)] else []) := by
  simp [nodesK, ints_succ, List.filter_append, List.filter_cons]
theorem nodesK_len (s : Int) (k : Nat) : (nodesK s k).length ≤ k := by
  have h := List.length_filter_le (hasB s) (ints k)
  rw [ints_len] at h
  exact h
theorem nodesK_bd (s : Int) (k : Nat) : ∀ x ∈ nodesK s k, 0 ≤ x ∧ x < k := by
  intro x hx
  have := (List.mem_filter.1 hx).1
  simp only [ints, List.mem_map, List.mem_range] at this
  obtain ⟨a, ha, rfl⟩ := this
  exact ⟨Int.natCast_nonneg a, Int.ofNat_lt.2 ha⟩

/-- The words of some nodes. -/
def word (k : Int) : ByteArray := ⟨(Lib.decDigits k.toNat).toArray⟩
def wordsOf (l : List Int) : List ByteArray := l.map word
def joinB (l : List ByteArray) (sep : List UInt8) : List UInt8 := Lib.join (l.map (·.data.toList)) sep
def textS (s : Int) : ByteArray := if validB s then ⟨([123] ++ joinB (wordsOf (nodesK s 10)) [32] ++ [125]).toArray⟩ else ⟨#[63]⟩
theorem word_len (k : Int) (h0 : 0 ≤ k) (h1 : k < 10) : (word k).data.toList.length = 1 := by
  unfold word Lib.decDigits
  rw [dif_pos (by omega)]
  rfl
theorem lens_le (c : Nat) : ∀ l : List (List UInt8), (∀ x ∈ l, x.length ≤ c) → Lib.lens l ≤ c * l.length
  | [], _ => by simp [Lib.lens]
  | x :: r, h => by
    have h1 := h x (by simp)
    have h2 := lens_le c r (fun y hy => h y (by simp [hy]))
    simp only [Lib.lens, List.length_cons, Nat.mul_add, List.map_cons, List.sum_cons] at *
    omega
theorem joinB_len (c : Nat) (l : List ByteArray) (sep : List UInt8) (h : ∀ x ∈ l, x.data.toList.length ≤ c) : (joinB l sep).length ≤ sep.length * l.length + c * l.length := by
  unfold joinB
  cases l with
  | nil => simp [Lib.join]
  | cons x r =>
    have h2 := lens_le c ((x :: r).map (·.data.toList)) (fun y hy => by
      obtain ⟨z, hz, rfl⟩ := List.mem_map.1 hy
      exact h z hz)
    rw [List.map_cons, Lib.join_length, ← List.map_cons (f := fun x : ByteArray => x.data.toList)]
    simp only [List.length_map, List.length_cons] at *
    have : sep.length * r.length ≤ sep.length * (r.length + 1) := Nat.mul_le_mul_left _ (by omega)
    omega
theorem words_len (l : List Int) (h : ∀ x ∈ l, 0 ≤ x ∧ x < 10) : ∀ x ∈ wordsOf l, x.data.toList.length ≤ 1 := by
  intro x hx
  obtain ⟨k, hk, rfl⟩ := List.mem_map.1 hx
  have := h k hk
  exact Nat.le_of_eq (word_len k this.1 this.2)
theorem eiStr : EInfo Tryz.prog 36 9 1 16 := EInfo.mk_ (z := .string ⟨#[]⟩) (by kernel_rfl) (by kernel_rfl) rfl (by omega)

theorem ret_str {a b : ByteArray} (h : a = b) : Ending.returned (.string a) = .returned (.string b) := by rw [h]
theorem join_any (l : List ByteArray) (sep : ByteArray) (v : Value) (w : World) (h : SlD w (Dm w none) 1 v (l.map Value.string)) (hN : l.length ≤ 140737488355328) (hlen : (joinB l sep.data.toList).length ≤ 140737488355328) :
    Calls Tryz.prog 205 #[v, .string sep] w fun e w' => ∃ X : ByteArray, e = .returned (.string X) ∧ X = ⟨(joinB l sep.data.toList).toArray⟩ ∧ X.size ≤ 140737488355328 ∧ Fr none w w' := by
  obtain ⟨A, n, c, rfl, hl, hnc, hm, hx⟩ := h
  simp only [List.length_map, Nat.mul_one] at hl
  subst hl
  rcases Nat.eq_zero_or_pos l.length with h0 | h0
  · have hl0 : l = [] := List.eq_nil_of_length_eq_zero h0
    subst hl0
    refine (Tryz.strings_Join_none A c sep w).mono ?_
    rintro e w' ⟨rfl, rfl⟩
    exact ⟨_, rfl, rfl, by simp [ByteArray.size], Fr.refl _ _⟩
  · obtain ⟨b, off, rfl, hb, hc⟩ := hx h0
    refine (Tryz.strings_Join b off c l sep w (fun j x hj => hc j _ (by simp [hj])) hb.1 hN hnc hlen).mono ?_
    rintro e w' ⟨rfl, F⟩
    exact ⟨_, rfl, rfl, by simpa [ByteArray.size, joinB] using hlen, Fr.of_below F⟩

end Go.Proofs.YtpdhckbiioobhaaGreatDoor

/- Walks: notation.write, Text; the reference's text, Text. -/
namespace Go.Proofs.YtpdhckbiioobhaaGreatDoor
open Go.RowKit

/-- Bytes as a string. -/
def bs (l : List UInt8) : ByteArray := ⟨l.toArray⟩
def strV (l : List UInt8) : Value := .string (bs l)
theorem bs_list (l : List UInt8) : (bs l).data.toList = l := by simp [bs]
theorem bs_size (l : List UInt8) : (bs l).size = l.length := by simp [bs, ByteArray.size]
theorem bs_app (a b : List UInt8) : bs a ++ bs b = bs (a ++ b) := by
  apply ByteArray.ext
  simp [bs]
theorem bs_inj {a b : List UInt8} (h : bs a = bs b) : a = b := by
  have := congrArg (fun x : ByteArray => x.data.toList) h
  simpa [bs_list] using this
theorem joinB_bs (l : List (List UInt8)) (sep : List UInt8) : joinB (l.map bs) sep = Lib.join l sep := by
  unfold joinB
  rw [List.map_map]
  congr 1
  conv => rhs; rw [← List.map_id l]
  exact List.map_congr_left fun x _ => bs_list x
/-- What a call that returns a text leaves. -/
def TxtE (l : List UInt8) (B : Nat) (w : World) (e : Ending) (w' : World) : Prop := ∃ S : ByteArray, e = .returned (.string S) ∧ S = bs l ∧ S.size ≤ B ∧ Fr none w w'

set_option maxHeartbeats 2000000 in
set_option maxRecDepth 100000 in
theorem write_any (d : Nat) : ∀ (t : Tr) (v : Value) (w : World) (r : Option Nat), t.dep ≤ d → t.size ≤ 1073741824 → TrR w r v t → Tab w →
    Calls Tryz.prog 162 #[v] w (TxtE (txT t) 34359738368 w) := by
  induction d with
  | zero =>
    intro t v w r hd
    cases t
    simp [Tr.dep] at hd
  | succ d ih =>
    intro t v w r hd hsz h hT
    obtain ⟨thr, nodes, inner⟩ := t
    have hwi := h.wi
    simp only [wiT] at hwi
    have htl := txT_len (.mk thr nodes inner) h.wi
    obtain ⟨A, c, A', c', rfl, hthr, hn, hn2, hi2, hi3, hi4, hcell⟩ := h.open_
    have hjl : (Lib.join (wdT nodes inner) [44, 32]).length ≤ 34359738368 := by
      have h1 := wdT_lens nodes inner hwi.2.1 hwi.2.2
      simp only [Tr.size] at hsz
      omega
    have hfin : bs (txT (.mk thr nodes inner)) = bs (Lib.itoa thr) ++ ⟨#[32, 111, 102, 32, 40]⟩ ++ bs (Lib.join (wdT nodes inner) [44, 32]) ++ ⟨#[41]⟩ := by
      apply ByteArray.ext
      simp [bs, txT, wdT]
    have hfl : (bs (txT (.mk thr nodes inner))).size ≤ 34359738368 := by
      rw [bs_size]
      omega
    have HJ := Lib.hid hjl
    have HF := Lib.hid hfin
    have HFL := Lib.hid hfl
    have hszi : sizeL inner ≤ 1073741824 := by simp only [Tr.size] at hsz; omega
    have hdi : depL inner ≤ d := by simp only [Tr.dep] at hd; omega
    clear hjl hfin hfl htl hsz hd
    go_enter Tryz.func162, Tryz.ntmps162
    go_wp2_with fail
    generalize hW : w.alloc _ = w1
    have F1 : Fr none w w1 := hW ▸ (Fr.refl _ _).alloc _
    have B1 : Hid (w1.heap[w.heap.size]? = some (.cells #[.int .i64 thr, .slice A nodes.length c, .slice A' inner.length c'] 31 (0, 0))) := by rw [← hW]; exact blk_new _ _
    clear hW
    have hn' := hn.fr (F1.mono (r := r))
    have T1 := hT.fr F1
    have R1 := blk_cell B1.out
    have hlt1 : w.heap.size < w1.heap.size := blk_lt B1.out
    go_loopw [3, 11] (fun s i wr => ∃ (j : Nat) (B : Option Addr) (b : Nat), j ≤ nodes.length ∧ i = .int .i64 j ∧ s = .slice B j b ∧ Fr none w1 wr ∧ wr.ownsRow w1.heap.size 9 1 (.slice B j b) j ((ndW (nodes.take j)).map strV)) (fun _ i _ => nodes.length - (intOf i).toNat)
    case atStart => exact ⟨0, none, 0, Nat.zero_le _, rfl, rfl, Fr.refl _ _, World.ownsRow_nil _ _ _ _⟩
    case round =>
      obtain ⟨j, B, b, hj, rfl, rfl, F, own⟩ := hrel
      have hz := F.size
      have Tr := T1.fr F
      by_cases hlt : j < nodes.length
      · obtain ⟨A0, c0, e0, q1, q2, hc1⟩ := hn'.open_
        injection e0 with e1 _ e3
        subst e1 e3
        obtain ⟨gb, off, rfl, hb, hbr, hcc⟩ := hc1 (by omega)
        have hck := F.keep (hcc j hlt) (by simp)
        have hw := hwi.2.1 nodes[j] (List.getElem_mem _)
        have hst := ndW_take nodes j hlt
        obtain ⟨x, hx⟩ : ∃ x, x = nodes[j] := ⟨_, rfl⟩
        rw [← hx] at hck hw hst
        have HST := Lib.hid hst
        have HWI := Lib.hid hwi
        clear hcc hc1 hx hst hwi R1
        go_wp2_with (first | (go_at_call 74; refine (itoa_any x hw _ Tr).mono ?_; rintro e w2 ⟨S, rfl, hS, hSs, F2⟩; have own2 := own_fr own F2 (by simp); have hz2 := F2.size; have HS := Lib.hid hS; clear hS) | (at_builtin; refine app_lit eiStr rfl _ _ rfl w1.heap.size B j b _ rfl own2 1 [.string S] _ _ rfl (by simp) rfl (by simp [Value.oneCell']) (by omega) (by unfold maxLen; omega) (by omega) ?_; intro A5 c5 w5 own5 F5 bl5))
        have og := own_blk_ge own2
        go_roundw
        case rel => exact ⟨j + 1, A5, c5, by omega, by go_num, rfl, (F.pure F2).own F5 og, by rw [HST.out, List.map_append]; simpa [strV, bs, HS.out] using own5⟩
        case measure => simp [intOf]; omega
      · obtain rfl : j = nodes.length := by omega
        rw [List.take_length] at own
        have R2 := blk_cell (blk_fr B1.out F (by simp))
        have HWI := Lib.hid hwi
        clear R1 hn' hwi
        go_wp2_with fail
        obtain ⟨wo, rfl⟩ : ∃ wo : World, wo = wr := ⟨_, rfl⟩
        go_loopw [3, 24] (fun s i wl => ∃ (k : Nat) (B : Option Addr) (b : Nat), k ≤ inner.length ∧ i = .int .i64 k ∧ s = .slice B (nodes.length + k) b ∧ Fr none w1 wl ∧ wl.ownsRow w1.heap.size 9 1 (.slice B (nodes.length + k) b) (nodes.length + k) ((ndW nodes ++ txL (inner.take k)).map strV)) (fun _ i _ => inner.length - (intOf i).toNat)
        case atStart => exact ⟨0, B, b, Nat.zero_le _, rfl, rfl, F, by simpa [txL] using own⟩
        case round =>
          clear F own R2 hz
          obtain ⟨k, B, b, hk, rfl, rfl, F, own⟩ := hrel
          have hz := F.size
          have Tr := T1.fr F
          by_cases hlt : k < inner.length
          · obtain ⟨gb, off, rfl, hb, hbr, hc⟩ := hcell (by omega)
            obtain ⟨x, y, z, g0, g1, g2, gt⟩ := hc k hlt
            obtain ⟨th, A1, n1, c1, A2, n2, c2, rfl, rfl, rfl⟩ := gt.shape
            have F3 := F1.pure F
            have g0' := F3.keep g0 (by simp)
            have g1' := F3.keep g1 (by simp)
            have g2' := F3.keep g2 (by simp)
            have hdd : (inner[k]).dep ≤ d := by have := depL_get inner k hlt; omega
            have hss : (inner[k]).size ≤ 1073741824 := by have := sizeL_get inner k hlt; omega
            have hst := txL_take inner k hlt
            have gt' := (gt.fr (F3.mono (r := r)))
            have HST := Lib.hid hst
            clear g0 g1 g2 hst hc
            go_wp2_with (first | (go_at_call 162; refine (ih inner[k] _ _ r hdd hss (gt'.fr ((Fr.refl _ _).alloc _)) (Tr.fr ((Fr.refl _ _).alloc _))).mono ?_; rintro e w2 ⟨S, rfl, hS, hSs, F2⟩; have own2 := own_fr (own.alloc _) F2 (by simp); have hz2 := F2.size; have HS := Lib.hid hS; clear hS) | (at_builtin; refine app_lit eiStr rfl _ _ rfl w1.heap.size B (nodes.length + k) b _ rfl own2 1 [.string S] _ _ rfl (by simp) rfl (by simp [Value.oneCell']) (by omega) (by unfold maxLen; omega) (by simp at hz2; omega) ?_; intro A5 c5 w5 own5 F5 bl5))
            have og := own_blk_ge own2
            go_roundw
            case rel => exact ⟨k + 1, A5, c5, by omega, by go_num, rfl, ((F.alloc _).pure F2).own F5 og, by rw [HST.out, ← List.append_assoc, List.map_append, ← Nat.add_assoc]; simpa [strV, bs, HS.out] using own5⟩
            case measure => simp [intOf]; omega
          · obtain rfl : k = inner.length := by omega
            rw [List.take_length] at own
            have R2 := blk_cell (blk_fr B1.out F (by simp))
            have hsl : SlD wr (Dm wr none) 1 (.slice B (nodes.length + inner.length) b) (((wdT nodes inner).map bs).map Value.string) := by
              have := SlD.of_own (r := none) own (by simp)
              rw [List.map_map]
              exact this
            have HSL := Lib.hid hsl
            have hl1 : ((wdT nodes inner).map bs).length ≤ 140737488355328 := by
              rw [List.length_map]
              unfold wdT
              rw [List.length_append, ndW_len, txL_len]
              omega
            have hl2 : (joinB ((wdT nodes inner).map bs) [44, 32]).length ≤ 140737488355328 := by
              rw [joinB_bs]
              have := HJ.out
              omega
            have HL1 := Lib.hid hl1
            have HL2 := Lib.hid hl2
            clear hsl hl1 hl2 own
            go_wp2_with (first | (go_at_call 74; refine (itoa_any thr hthr _ Tr).mono ?_; rintro e w2 ⟨S, rfl, hS, hSs, F2⟩; have HS := Lib.hid hS; clear hS; have HSL2 := Lib.hid (HSL.out.keep (fr_dm F2))) | (go_at_call 205; refine (join_any ((wdT nodes inner).map bs) ⟨#[44, 32]⟩ _ _ HSL2.out HL1.out HL2.out).mono ?_; rintro e w3 ⟨X, rfl, hX, hXs, F4⟩; have HX := Lib.hid hX; clear hX))
            go_ret
            refine ⟨_, rfl, ?_, ?_, ((F1.pure F).pure F2).pure F4⟩
            · rw [HF.out, HS.out, HX.out]
              simp only [joinB_bs]
              rfl
            · have := HFL.out
              rw [HF.out] at this
              rw [HS.out, HX.out]
              simp only [joinB_bs]
              exact this

/-- What Text returns. -/
def textT (t : Tr) : List UInt8 := if validE t = 0 then txT t else [63]
theorem text3_any (t : Tr) (v : Value) (w : World) (r : Option Nat) (hsz : t.size ≤ 1073741000) (h : TrR w r v t) (hT : Tab w) :
    Calls Tryz.prog 109 #[v] w (TxtE (textT t) 34359738368 w) := by
  obtain ⟨th, A1, n1, c1, A2, n2, c2, rfl⟩ := TrD.shape h
  have h1 := h.fr ((Fr.refl r w).alloc (.cells #[.int .i64 th, .slice A1 n1 c1, .slice A2 n2 c2] 31))
  have T1 := hT.fr ((Fr.refl none w).alloc (.cells #[.int .i64 th, .slice A1 n1 c1, .slice A2 n2 c2] 31))
  by_cases hv : validE t = 0
  · have hv0 : (validE t != 0) = false := by rw [bne_eq_false_iff_eq]; exact hv
    have HE : Hid (textT t = txT t) := by unfold Hid textT; rw [if_pos hv]
    clear hv
    go_enter Tryz.func109, Tryz.ntmps109
    go_wp2_with fail
    generalize hW : w.alloc _ = w1 at *
    have B1 : Hid (w1.heap[w.heap.size]? = some (.cells #[.int .i64 th, .slice A1 n1 c1, .slice A2 n2 c2] 31 (0, 0))) := by rw [← hW]; exact blk_new _ _
    have F1 : Fr none w w1 := hW ▸ (Fr.refl _ _).alloc _
    clear hW
    have R1 := blk_cell B1.out
    refine (validT_any t _ _ r hsz h1).mono ?_
    rintro e w2 ⟨rfl, F2⟩
    have R2 := blk_cell (blk_fr B1.out F2 (by simp))
    clear R1
    go_wp2_with fail
    refine (write_any t.dep t _ _ r (Nat.le_refl _) (by omega) (h1.fr (F2.mono (r := r))) (T1.fr F2)).mono ?_
    rintro e w3 ⟨S, rfl, hS, hSs, F3⟩
    have HS := Lib.hid hS
    clear hS
    go_wp2_with fail
    go_ret
    exact ⟨S, rfl, by rw [HE.out]; exact HS.out, hSs, (F1.pure F2).pure F3⟩
  · have hv0 : (validE t != 0) = true := by rw [bne_iff_ne]; exact hv
    have HE : Hid (textT t = [63]) := by unfold Hid textT; rw [if_neg hv]
    clear hv
    go_enter Tryz.func109, Tryz.ntmps109
    go_wp2_with fail
    generalize hW : w.alloc _ = w1 at *
    have F1 : Fr none w w1 := hW ▸ (Fr.refl _ _).alloc _
    clear hW
    refine (validT_any t _ _ r hsz h1).mono ?_
    rintro e w2 ⟨rfl, F2⟩
    go_wp2_with fail
    go_ret
    exact ⟨_, rfl, by rw [HE.out]; rfl, by decide, F1.pure F2⟩

/-- A text up to some of its entries. -/
def pref (thr : Int) (nodes : List Int) (inner : List Tr) : List UInt8 := Lib.itoa thr ++ [32, 111, 102, 32, 40] ++ Lib.join (wdT nodes inner) [44, 32]
theorem pref_len {thr : Int} {nodes : List Int} {inner : List Tr} (h0 : Wi thr) (h1 : ∀ x ∈ nodes, Wi x) (h2 : wiL inner) (h3 : nodes.length + inner.length + sizeL inner ≤ 1073741824) : (bs (pref thr nodes inner)).size ≤ 34359738368 := by
  have h4 := wdT_lens nodes inner h1 h2
  have h5 := itoa_len h0
  rw [bs_size]
  simp only [pref, List.length_append, List.length_cons, List.length_nil]
  omega
theorem pref_node (thr : Int) (nodes : List Int) (j : Nat) (hj : j < nodes.length) : bs (pref thr (nodes.take (j + 1)) []) = bs (pref thr (nodes.take j) []) ++ bs (if j = 0 then [] else [44, 32]) ++ bs (Lib.itoa nodes[j]) := by
  rw [bs_app, bs_app]
  congr 1
  unfold pref wdT
  rw [ndW_take nodes j hj]
  simp only [txL, List.append_nil]
  rw [join_snoc]
  by_cases h0 : j = 0
  · subst h0; simp [ndW]
  · have h1 : ndW (nodes.take j) ≠ [] := fun e => by
      have := congrArg List.length e
      rw [ndW_len, List.length_take] at this
      simp only [List.length_nil] at this
      omega
    rw [if_neg h1, if_neg h0]
    simp
theorem pref_inner (thr : Int) (nodes : List Int) (inner : List Tr) (k : Nat) (hk : k < inner.length) : bs (pref thr nodes (inner.take (k + 1))) = bs (pref thr nodes (inner.take k)) ++ bs (if nodes.length + k = 0 then [] else [44, 32]) ++ bs (txT inner[k]) := by
  rw [bs_app, bs_app]
  congr 1
  unfold pref wdT
  rw [txL_take inner k hk, ← List.append_assoc, join_snoc]
  by_cases h0 : nodes.length + k = 0
  · have h1 : ndW nodes ++ txL (inner.take k) = [] := by
      apply List.eq_nil_of_length_eq_zero
      rw [List.length_append, ndW_len, txL_len, List.length_take]
      omega
    rw [if_pos h1, if_pos h0]
    simp
  · have h1 : ndW nodes ++ txL (inner.take k) ≠ [] := fun e => by
      have := congrArg List.length e
      rw [List.length_append, ndW_len, txL_len, List.length_take] at this
      simp only [List.length_nil] at this
      omega
    rw [if_neg h1, if_neg h0]
    simp
theorem bs_44 : (⟨#[44, 32]⟩ : ByteArray) = bs [44, 32] := rfl

set_option maxHeartbeats 2000000 in
set_option maxRecDepth 100000 in
theorem rtext_any (d : Nat) : ∀ (t : Tr) (v : Value) (w : World) (r : Option Nat), t.dep ≤ d → t.size ≤ 1073741824 → TrR w r v t → Tab w →
    Calls Tryz.prog 124 #[v] w (TxtE (txT t) 34359738368 w) := by
  induction d with
  | zero =>
    intro t v w r hd
    cases t
    simp [Tr.dep] at hd
  | succ d ih =>
    intro t v w r hd hsz h hT
    obtain ⟨thr, nodes, inner⟩ := t
    have hwi := h.wi
    simp only [wiT] at hwi
    have htl := txT_len (.mk thr nodes inner) h.wi
    obtain ⟨A, c, A', c', rfl, hthr, hn, hn2, hi2, hi3, hi4, hcell⟩ := h.open_
    have hfin : bs (txT (.mk thr nodes inner)) = bs (pref thr nodes inner) ++ ⟨#[41]⟩ := by
      apply ByteArray.ext
      simp [bs, txT, pref, wdT]
    have hfl : (bs (txT (.mk thr nodes inner))).size ≤ 34359738368 := by
      rw [bs_size]
      omega
    have HF := Lib.hid hfin
    have HFL := Lib.hid hfl
    have hszn : nodes.length + inner.length + sizeL inner ≤ 1073741824 := by simp only [Tr.size] at hsz; omega
    have HSZ := Lib.hid hszn
    have hszi : sizeL inner ≤ 1073741824 := by omega
    have hdi : depL inner ≤ d := by simp only [Tr.dep] at hd; omega
    have hp0 : bs (pref thr [] []) = bs (Lib.itoa thr) ++ ⟨#[32, 111, 102, 32, 40]⟩ := by
      apply ByteArray.ext
      simp [bs, pref, wdT, ndW, txL, Lib.join_nil]
    have HP0 := Lib.hid hp0
    have HWI := Lib.hid hwi
    clear hfin hfl htl hsz hd hszn hp0 hwi
    go_enter Tryz.func124, Tryz.ntmps124
    go_wp2_with fail
    generalize hW : w.alloc _ = w0
    have F1 : Fr none w w0 := hW ▸ (Fr.refl _ _).alloc _
    have B1 : Hid (w0.heap[w.heap.size]? = some (.cells #[.int .i64 thr, .slice A nodes.length c, .slice A' inner.length c'] 31 (0, 0))) := by rw [← hW]; exact blk_new _ _
    clear hW
    have T1 := hT.fr F1
    have R1 := blk_cell B1.out
    refine (itoa_any thr hthr _ T1).mono ?_
    rintro e w1 ⟨S0, rfl, hS0, hSs0, F01⟩
    have B2 : Hid (w1.heap[w.heap.size]? = some (.cells #[.int .i64 thr, .slice A nodes.length c, .slice A' inner.length c'] 31 (0, 0))) := blk_fr B1.out F01 (by simp)
    have F1 := F1.pure F01
    have hn' := hn.fr (F1.mono (r := r))
    have T1 := T1.fr F01
    have R1 := blk_cell B2.out
    have hlt1 : w.heap.size < w1.heap.size := blk_lt B2.out
    have HS0 := Lib.hid hS0
    clear hS0 B1 F01
    go_wp2_with fail
    go_loopw [3, 4, 16] (fun s p i wr => ∃ (j : Nat) (O P : ByteArray), j ≤ nodes.length ∧ i = .int .i64 j ∧ s = .string O ∧ p = .string P ∧ O.size ≤ 34359738368 ∧ P.size ≤ 2 ∧ Hid (O = bs (pref thr (nodes.take j) [])) ∧ Hid (P = bs (if j = 0 then [] else [44, 32])) ∧ Fr none w1 wr) (fun _ _ i _ => nodes.length - (intOf i).toNat)
    case atStart => exact ⟨0, _, _, Nat.zero_le _, rfl, rfl, rfl, by have h5 : (⟨#[32, 111, 102, 32, 40]⟩ : ByteArray).size = 5 := rfl; rw [ByteArray.size_append, h5]; omega, by decide, Lib.hid (by rw [HS0.out]; exact HP0.out.symm), Lib.hid rfl, Fr.refl _ _⟩
    case round =>
      obtain ⟨j, O, P, hj, rfl, rfl, rfl, hO, hP, HO, HP, F⟩ := hrel
      have Tr := T1.fr F
      by_cases hlt : j < nodes.length
      · obtain ⟨A0, c0, e0, q1, q2, hc1⟩ := hn'.open_
        injection e0 with e1 _ e3
        subst e1 e3
        obtain ⟨gb, off, rfl, hb, hbr, hcc⟩ := hc1 (by omega)
        have hck := F.keep (hcc j hlt) (by simp)
        have hw := HWI.out.2.1 nodes[j] (List.getElem_mem _)
        have hst := pref_node thr nodes j hlt
        have hsz' : (bs (pref thr (nodes.take (j + 1)) [])).size ≤ 34359738368 := pref_len HWI.out.1 (fun x hx => HWI.out.2.1 x (List.mem_of_mem_take hx)) (by simp only [wiL]) (by
          have := HSZ.out
          simp only [List.length_take, List.length_nil, sizeL]
          omega)
        obtain ⟨x, hx⟩ : ∃ x, x = nodes[j] := ⟨_, rfl⟩
        rw [← hx] at hck hw hst
        have HST := Lib.hid hst
        have HSZ' := Lib.hid hsz'
        clear hcc hc1 hx hst R1 hsz'
        go_wp2_with (go_at_call 74; refine (itoa_any x hw _ Tr).mono ?_; rintro e w2 ⟨S, rfl, hS, hSs, F2⟩; have HS := Lib.hid hS; clear hS)
        go_roundw
        case rel =>
          refine ⟨j + 1, _, _, by omega, by go_num, rfl, rfl, ?_, by decide, ?_, ?_, F.pure F2⟩
          · have := HSZ'.out
            rw [HST.out, ← HO.out, ← HP.out] at this
            rw [HS.out]
            exact this
          · refine Lib.hid ?_
            rw [HST.out, ← HO.out, ← HP.out, HS.out]
            rfl
          · exact Lib.hid (by rw [if_neg (by omega)]; rfl)
        case measure => simp [intOf]; omega
      · obtain rfl : j = nodes.length := by omega
        have R2 := blk_cell (blk_fr B2.out F (by simp))
        clear R1 hn'
        go_wp2_with fail
        obtain ⟨wo, rfl⟩ : ∃ wo : World, wo = wr := ⟨_, rfl⟩
        go_loopw [3, 4, 30] (fun s p i wl => ∃ (k : Nat) (O P : ByteArray), k ≤ inner.length ∧ i = .int .i64 k ∧ s = .string O ∧ p = .string P ∧ O.size ≤ 34359738368 ∧ P.size ≤ 2 ∧ Hid (O = bs (pref thr nodes (inner.take k))) ∧ Hid (P = bs (if nodes.length + k = 0 then [] else [44, 32])) ∧ Fr none w1 wl) (fun _ _ i _ => inner.length - (intOf i).toNat)
        case atStart => exact ⟨0, O, P, Nat.zero_le _, rfl, rfl, rfl, hO, hP, Lib.hid (by rw [HO.out, List.take_length]; rfl), Lib.hid (by rw [HP.out]; rfl), F⟩
        case round =>
          clear F R2 hO hP HO HP Tr
          obtain ⟨k, O, P, hk, rfl, rfl, rfl, hO, hP, HO, HP, F⟩ := hrel
          have Tr := T1.fr F
          by_cases hlt : k < inner.length
          · obtain ⟨gb, off, rfl, hb, hbr, hc⟩ := hcell (by omega)
            obtain ⟨x, y, z, g0, g1, g2, gt⟩ := hc k hlt
            obtain ⟨th, A1, n1, c1, A2, n2, c2, rfl, rfl, rfl⟩ := gt.shape
            have F3 := F1.pure F
            have g0' := F3.keep g0 (by simp)
            have g1' := F3.keep g1 (by simp)
            have g2' := F3.keep g2 (by simp)
            have hdd : (inner[k]).dep ≤ d := by have := depL_get inner k hlt; omega
            have hss : (inner[k]).size ≤ 1073741824 := by have := sizeL_get inner k hlt; omega
            have hst := pref_inner thr nodes inner k hlt
            have hsz' : (bs (pref thr nodes (inner.take (k + 1)))).size ≤ 34359738368 := pref_len HWI.out.1 HWI.out.2.1 (wiL_take _ _ HWI.out.2.2) (by
              have h1 := HSZ.out
              have h2 := sizeL_take_le inner (k + 1)
              simp only [List.length_take]
              omega)
            have gt' := (gt.fr (F3.mono (r := r)))
            have HST := Lib.hid hst
            have HSZ' := Lib.hid hsz'
            clear g0 g1 g2 hst hc hsz'
            go_wp2_with (go_at_call 124; refine (ih inner[k] _ _ r hdd hss (gt'.fr ((Fr.refl _ _).alloc _)) (Tr.fr ((Fr.refl _ _).alloc _))).mono ?_; rintro e w2 ⟨S, rfl, hS, hSs, F2⟩; have HS := Lib.hid hS; clear hS)
            go_roundw
            case rel =>
              refine ⟨k + 1, _, _, by omega, by go_num, rfl, rfl, ?_, by decide, ?_, ?_, (F.alloc _).pure F2⟩
              · have := HSZ'.out
                rw [HST.out, ← HO.out, ← HP.out] at this
                rw [HS.out]
                exact this
              · refine Lib.hid ?_
                rw [HST.out, ← HO.out, ← HP.out, HS.out]
              · exact Lib.hid (by rw [if_neg (by omega)]; rfl)
            case measure => simp [intOf]; omega
          · obtain rfl : k = inner.length := by omega
            go_wp2_with fail
            go_ret
            refine ⟨_, rfl, ?_, ?_, F1.pure F⟩
            · rw [HF.out, HO.out, List.take_length]
            · have := HFL.out
              rw [HF.out] at this
              rw [HO.out, List.take_length]
              exact this
theorem rtext3_any (t : Tr) (v : Value) (w : World) (r : Option Nat) (hsz : t.size ≤ 1073741000) (h : TrR w r v t) (hT : Tab w) :
    Calls Tryz.prog 75 #[v] w (TxtE (textT t) 34359738368 w) := by
  obtain ⟨th, A1, n1, c1, A2, n2, c2, rfl⟩ := TrD.shape h
  have h1 := h.fr ((Fr.refl r w).alloc (.cells #[.int .i64 th, .slice A1 n1 c1, .slice A2 n2 c2] 31))
  have T1 := hT.fr ((Fr.refl none w).alloc (.cells #[.int .i64 th, .slice A1 n1 c1, .slice A2 n2 c2] 31))
  by_cases hv : validE t = 0
  · have hv0 : (validE t != 0) = false := by rw [bne_eq_false_iff_eq]; exact hv
    have HE : Hid (textT t = txT t) := by unfold Hid textT; rw [if_pos hv]
    clear hv
    go_enter Tryz.func75, Tryz.ntmps75
    go_wp2_with fail
    generalize hW : w.alloc _ = w1 at *
    have B1 : Hid (w1.heap[w.heap.size]? = some (.cells #[.int .i64 th, .slice A1 n1 c1, .slice A2 n2 c2] 31 (0, 0))) := by rw [← hW]; exact blk_new _ _
    have F1 : Fr none w w1 := hW ▸ (Fr.refl _ _).alloc _
    clear hW
    have R1 := blk_cell B1.out
    refine (rvalidT_any t _ _ r hsz h1).mono ?_
    rintro e w2 ⟨rfl, F2⟩
    have R2 := blk_cell (blk_fr B1.out F2 (by simp))
    clear R1
    go_wp2_with fail
    refine (rtext_any t.dep t _ _ r (Nat.le_refl _) (by omega) (h1.fr (F2.mono (r := r))) (T1.fr F2)).mono ?_
    rintro e w3 ⟨S, rfl, hS, hSs, F3⟩
    have HS := Lib.hid hS
    clear hS
    go_wp2_with fail
    go_ret
    exact ⟨S, rfl, by rw [HE.out]; exact HS.out, hSs, (F1.pure F2).pure F3⟩
  · have hv0 : (validE t != 0) = true := by rw [bne_iff_ne]; exact hv
    have HE : Hid (textT t = [63]) := by unfold Hid textT; rw [if_neg hv]
    clear hv
    go_enter Tryz.func75, Tryz.ntmps75
    go_wp2_with fail
    generalize hW : w.alloc _ = w1 at *
    have F1 : Fr none w w1 := hW ▸ (Fr.refl _ _).alloc _
    clear hW
    refine (rvalidT_any t _ _ r hsz h1).mono ?_
    rintro e w2 ⟨rfl, F2⟩
    go_wp2_with fail
    go_ret
    exact ⟨_, rfl, by rw [HE.out]; rfl, by decide, F1.pure F2⟩
end Go.Proofs.YtpdhckbiioobhaaGreatDoor

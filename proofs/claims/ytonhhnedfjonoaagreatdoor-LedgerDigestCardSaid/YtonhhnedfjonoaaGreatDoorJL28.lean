/- Some texts of this claim, joined: contracts of the functions that it reaches, and plain laws. -/
import Derived.Test.YtonhhnedfjonoaaGreatDoorJL2
import Derived.Test.YtonhhnedfjonoaaGreatDoorJL4

set_option linter.unusedSimpArgs false
set_option linter.unusedVariables false
/- Plain: the bytes of a ledger, and that they tell some ledgers apart. -/
namespace Go.Proofs.YtonhhnedfjonoaaGreatDoor
open Go.RowKit

/-- A word, and a blank. -/
def wdB (s : List UInt8) : List UInt8 := s ++ [32]
def nwB (n : Int) : List UInt8 := wdB (Lib.itoa n)
def astT (a : Ast) : List UInt8 := if a = nat then [45] else a.code ++ Lib.itoa a.iss
def accB (a : Acct) : List UInt8 := nwB a.id ++ (nwB a.bal ++ nwB a.seq)
def lnB (x : Ln) : List UInt8 := nwB x.acc ++ (wdB (astT x.ast) ++ (nwB x.bal ++ nwB x.lim))
def ofB (o : Ofr) : List UInt8 := nwB o.id ++ (nwB o.sel ++ (wdB (astT o.sg) ++ (wdB (astT o.by_) ++ (nwB o.amt ++ (nwB o.num ++ nwB o.den)))))
def bytesG (g : Lgr) : List UInt8 :=
  nwB g.num ++ (nwB g.nid ++ (nwB g.fees ++ (nwB (g.link : Int) ++ (nwB (g.accs.length : Int) ++ (g.accs.flatMap accB ++ (nwB (g.lines.length : Int) ++ (g.lines.flatMap lnB ++ (nwB (g.offers.length : Int) ++ g.offers.flatMap ofB))))))))
theorem itoa_inj0 {a b : Int} (ha : 0 ≤ a) (hb : 0 ≤ b) (h : Lib.itoa a = Lib.itoa b) : a = b := by
  obtain ⟨a, rfl⟩ := Int.eq_ofNat_of_zero_le ha
  obtain ⟨b, rfl⟩ := Int.eq_ofNat_of_zero_le hb
  rw [Lib.itoa_nonneg, Lib.itoa_nonneg] at h
  have := congrArg (numV 0) h
  rw [numV_dec, numV_dec] at this
  rw [this]
theorem itoa_no32 {a : Int} (ha : 0 ≤ a) : ∀ c ∈ Lib.itoa a, (c != 32) = true := fun c hc => by
  obtain ⟨a, rfl⟩ := Int.eq_ofNat_of_zero_le ha
  rw [Lib.itoa_nonneg] at hc
  have := dec_dg a c hc
  rw [bne_iff_ne]
  intro e
  subst e
  exact absurd this (by decide)
theorem wdB_take {s x : List UInt8} (h : ∀ c ∈ s, (c != 32) = true) : (wdB s ++ x).takeWhile (· != 32) = s := by
  unfold wdB
  rw [List.append_assoc, List.takeWhile_append_of_pos h]
  simp
theorem nwB_inj {a b : Int} (ha : 0 ≤ a) (hb : 0 ≤ b) {x y : List UInt8} (h : nwB a ++ x = nwB b ++ y) : a = b := by
  have := congrArg (List.takeWhile (· != 32)) h
  unfold nwB at this
  rw [wdB_take (itoa_no32 ha), wdB_take (itoa_no32 hb)] at this
  exact itoa_inj0 ha hb this
theorem flat_set {α : Type} (f : α → List UInt8) (l : List α) (k : Nat) (hk : k < l.length) (y : α) :
    (l.set k y).flatMap f = (l.take k).flatMap f ++ (f y ++ (l.drop (k + 1)).flatMap f) := by
  rw [List.set_eq_take_append_cons_drop, if_pos hk, List.flatMap_append, List.flatMap_cons]
theorem flat_at {α : Type} (f : α → List UInt8) (l : List α) (k : Nat) (hk : k < l.length) :
    l.flatMap f = (l.take k).flatMap f ++ (f l[k] ++ (l.drop (k + 1)).flatMap f) := by
  have := flat_set f l k hk l[k]
  rwa [List.set_getElem_self] at this
/-- The ledgers that the law makes. -/
def digG (g : Lgr) (c : Nat) (k : Nat) (a : Acct) (x : Ln) (o : Ofr) : Lgr :=
  match c with
  | 0 => { g with accs := g.accs.set k { a with bal := a.bal + 1 } }
  | 1 => { g with accs := g.accs.set k { a with seq := a.seq + 1 } }
  | 2 => { g with lines := g.lines ++ [x] }
  | 3 => { g with offers := g.offers ++ [o] }
  | 4 => { g with fees := g.fees + 1 }
  | _ => { g with num := g.num + 1 }
theorem dig_ne (g : Lgr) (c k : Nat) (x : Ln) (o : Ofr) (hk : k < g.accs.length) (h0 : 0 ≤ g.num) (h1 : 0 ≤ g.fees) (h2 : 0 ≤ g.accs[k].bal) (h3 : 0 ≤ g.accs[k].seq) : bytesG (digG g c k g.accs[k] x o) ≠ bytesG g := fun e => by
  unfold digG at e
  split at e
  · unfold bytesG at e
    have e := List.append_cancel_left (List.append_cancel_left (List.append_cancel_left (List.append_cancel_left e)))
    simp only [List.length_set] at e
    have e := List.append_cancel_left e
    rw [flat_set _ _ _ hk, flat_at accB g.accs k hk] at e
    simp only [List.append_assoc] at e
    have e := List.append_cancel_left e
    unfold accB at e
    simp only [List.append_assoc] at e
    have := nwB_inj (by omega) h2 (List.append_cancel_left e)
    omega
  · unfold bytesG at e
    have e := List.append_cancel_left (List.append_cancel_left (List.append_cancel_left (List.append_cancel_left e)))
    simp only [List.length_set] at e
    have e := List.append_cancel_left e
    rw [flat_set _ _ _ hk, flat_at accB g.accs k hk] at e
    simp only [List.append_assoc] at e
    have e := List.append_cancel_left e
    unfold accB at e
    simp only [List.append_assoc] at e
    have := nwB_inj (by omega) h3 (List.append_cancel_left (List.append_cancel_left e))
    omega
  · unfold bytesG at e
    have e := List.append_cancel_left (List.append_cancel_left (List.append_cancel_left (List.append_cancel_left (List.append_cancel_left (List.append_cancel_left e)))))
    have := nwB_inj (by omega) (by omega) e
    simp only [List.length_append, List.length_singleton] at this
    omega
  · unfold bytesG at e
    have e := List.append_cancel_left (List.append_cancel_left (List.append_cancel_left (List.append_cancel_left (List.append_cancel_left (List.append_cancel_left (List.append_cancel_left (List.append_cancel_left e)))))))
    have := nwB_inj (by omega) (by omega) e
    simp only [List.length_append, List.length_singleton] at this
    omega
  · unfold bytesG at e
    have : g.fees + 1 = g.fees := nwB_inj (Int.le_add_one h1) h1 (List.append_cancel_left (List.append_cancel_left e))
    omega
  · unfold bytesG at e
    have : g.num + 1 = g.num := nwB_inj (Int.le_add_one h0) h0 e
    omega
end Go.Proofs.YtonhhnedfjonoaaGreatDoor
